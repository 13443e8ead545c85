/- The lines of an array of ways: the program's and the document's are the same. My own work. -/
import Derived.Test.YtcjagmphobdbbaaArrR3
import Derived.Test.YtcjagmphobdbbaaSrt
namespace Go.Sx
open Go Go.Proofs Go.Shelf
set_option linter.unusedVariables false
set_option linter.unusedSectionVars false
set_option linter.unusedSimpArgs false
def nums (n : Nat) : List Int := (List.range n).map fun (i : Nat) => (i : Int)
theorem nums_sorted (n : Nat) : (nums n).Pairwise (· < ·) := by
  unfold nums
  rw [List.pairwise_map]
  exact List.pairwise_lt_range.imp fun h => by omega
theorem nums_mem {n : Nat} {c : Int} : c ∈ nums n ↔ 0 ≤ c ∧ c < n := by
  unfold nums
  simp only [List.mem_map, List.mem_range]
  constructor
  · rintro ⟨i, hi, rfl⟩; omega
  · rintro ⟨h1, h2⟩; exact ⟨c.toNat, by omega, by omega⟩
theorem same_of_sorted : ∀ {l m : List Int}, l.Pairwise (· < ·) → m.Pairwise (· < ·) → (∀ c, c ∈ l ↔ c ∈ m) → l = m
  | [], [], _, _, _ => rfl
  | [], b :: m, _, _, h => absurd ((h b).2 (by simp)) (by simp)
  | a :: l, [], _, _, h => absurd ((h a).1 (by simp)) (by simp)
  | a :: l, b :: m, hl, hm, h => by
    rw [List.pairwise_cons] at hl hm
    have hab : a = b := by
      have h1 := (h a).1 (by simp)
      have h2 := (h b).2 (by simp)
      rcases List.mem_cons.1 h1 with e | e
      · exact e
      · rcases List.mem_cons.1 h2 with e2 | e2
        · exact e2.symm
        · have := hm.1 a e; have := hl.1 b e2; omega
    subst hab
    rw [same_of_sorted hl.2 hm.2 fun c => by
      have := h c
      simp only [List.mem_cons] at this
      constructor
      · intro hc
        rcases this.1 (.inr hc) with rfl | h'
        · have := hl.1 c hc; omega
        · exact h'
      · intro hc
        rcases this.2 (.inr hc) with rfl | h'
        · have := hm.1 c hc; omega
        · exact h']
def linesU (l : List Way) : List Int := (l.filter thereB).map (·.line)
def linesW (l : List Way) : List Int := srt (linesU l)
def linesD (c : Cfg) (l : List Way) (n : Nat) : List Int := (nums n).filter fun x => decide (0 ≤ arrP c l x)
theorem linesU_nodup {c : Cfg} {l : List Way} (hI : ArrInv c l) : (linesU l).Pairwise (· ≠ ·) := by
  unfold linesU
  rw [List.pairwise_map, List.pairwise_filter]
  rw [List.pairwise_iff_getElem]
  intro i j hi hj hij ti tj e
  have := (hI i hi ti).2.2.2 j hj tj e.symm
  omega
theorem lines_same {c : Cfg} {l : List Way} (hI : ArrInv c l) (hc : checkB c = true) (hn : (l.length : Int) = c.sets * c.ways) : linesW l = linesD c l c.lines.toNat := by
  have hp := List.mergeSort_perm (linesU l) (fun x y => decide (x ≤ y))
  refine same_of_sorted ?_ ((nums_sorted _).sublist List.filter_sublist) fun x => ?_
  · have h1 : (linesW l).Pairwise (fun x y => decide (x ≤ y) = true) := List.pairwise_mergeSort (by intro a b c; simp; omega) (by intro a b; simp; omega) _
    have h2 : (linesW l).Pairwise (· ≠ ·) := (hp.pairwise_iff (fun h => Ne.symm h)).2 (linesU_nodup hI)
    refine (h1.and h2).imp ?_
    rintro a b ⟨h, h'⟩
    have := of_decide_eq_true h
    omega
  · unfold linesW linesD
    rw [hp.mem_iff, List.mem_filter, nums_mem, decide_eq_true_eq]
    unfold linesU
    rw [List.mem_map]
    constructor
    · rintro ⟨w, hw, rfl⟩
      rw [List.mem_filter] at hw
      obtain ⟨i, hi, e⟩ := List.getElem_of_mem hw.1
      subst e
      obtain ⟨a1, a2, a3, _⟩ := hI i hi hw.2
      have hok := (okLine_iff hc).1 a1
      refine ⟨⟨hok.1, by omega⟩, ?_⟩
      by_cases hneg : arrP c l l[i].line < 0
      · exfalso
        have := arrP_no hneg (i - arrF c l[i].line) (by omega) a1 (by omega)
        simp only [show arrF c l[i].line + (i - arrF c l[i].line) = i by omega] at this
        rw [pHas_iff.2 ⟨hw.2, rfl⟩] at this; cases this
      · omega
    · rintro ⟨_, h⟩
      obtain ⟨i, hi⟩ : ∃ i : Nat, arrP c l x = i := ⟨(arrP c l x).toNat, by omega⟩
      obtain ⟨h2, hok, h3, h4⟩ := arrP_at hi
      obtain ⟨g1, g2⟩ := pHas_iff.1 h3
      exact ⟨_, List.mem_filter.2 ⟨List.getElem_mem h2, g1⟩, g2⟩
theorem linesU_len (l : List Way) : (linesU l).length ≤ l.length := by
  unfold linesU; rw [List.length_map]; exact List.length_filter_le _ _
theorem linesU_step {l : List Way} {i : Nat} (hi : i < l.length) : linesU (l.take (i + 1)) = if thereB l[i] then linesU (l.take i) ++ [l[i].line] else linesU (l.take i) := by
  unfold linesU
  rw [List.take_succ_eq_append_getElem hi, List.filter_append]
  cases h : thereB l[i] <;> simp [h]
theorem linesD_step {c : Cfg} {l : List Way} {n : Nat} : linesD c l (n + 1) = if 0 ≤ arrP c l n then linesD c l n ++ [(n : Int)] else linesD c l n := by
  unfold linesD nums
  rw [List.range_succ, List.map_append, List.filter_append]
  by_cases h : 0 ≤ arrP c l n <;> simp [h]
theorem linesD_len (c : Cfg) (l : List Way) (n : Nat) : (linesD c l n).length ≤ n := by
  have := List.length_filter_le (fun x => decide (0 ≤ arrP c l x)) (nums n)
  simp only [nums, List.length_map, List.length_range] at this
  exact this
set_option maxRecDepth 100000
set_option maxHeartbeats 4000000
attribute [local irreducible] Go.Exit.then Go.Exit.inBlock Go.Code.wp WC WO WE WQ V LoopQ FnQ Sat Star band bor IntKind.wrap WR Code.rounds WT KO
theorem sl_Sort {F : List HP} {v : Value} {l : List Int} (hl : l.length ≤ 1000) : FnF Try.prog 99 [v] [Own 3 1 v l.length (flat ic l)] F (fun r L' => r = .tuple [].toArray ∧ L' = [Own 3 1 v l.length (flat ic (srt l))]) :=
  sl_SortF sortLays (enters_of Try.func99 rfl rfl) (by omega)
theorem arr_Lines {F : List HP} {b : Nat} {c : Cfg} {l : List Way} :
    FnF Try.prog 54 [.pointer (some ⟨b, 0, none⟩)] [ArrP b c l] F (fun r L' => ∃ p q, r = .slice p (linesW l).length q ∧ L' = [Own 3 1 (.slice p (linesW l).length q) (linesW l).length (flat ic (linesW l)), ArrP b c l]) := by
  refine FnF.mk' Try.func54 rfl rfl Try.ntmps54 rfl ?_
  refine arr_open fun g hf => ?_
  obtain ⟨hc, hn⟩ := hf
  obtain ⟨_, h4, h5, h6, h7, h8⟩ := arr_nums hc hn
  have hlen : (linesW l).length = (linesU l).length := by simp [linesW, srt]
  have hul := linesU_len l
  have ew : wsl g (0 * 11) l.length l.length = .slice (some ⟨g, 0, none⟩) l.length l.length := by unfold wsl; rfl
  haveI kr := rd_arr (g := g) (T := 97) (l := l)
  rw [← ew]
  repeat (first | rintro _ _ ⟨rfl, rfl⟩ | rintro _ _ ⟨_, rfl, rfl⟩ | rintro _ _ ⟨_, _, rfl, rfl⟩ | rintro _ _ ⟨_, _, _, _, rfl, rfl⟩ | intro _ | refine go ?_ | (refine is_draw ?_; refine WC_draw mixed (by kernel_rfl) ?_))
  apply WC_loopE (E0 := [(9, _), (10, _)]) (fun E0 (q : Nat × Option Addr × Nat) => (11, .int .i64 q.1) :: (3, .slice q.2.1 (linesU (l.take q.1)).length q.2.2) :: E0)
    (fun q => Own 3 1 (.slice q.2.1 (linesU (l.take q.1)).length q.2.2) (linesU (l.take q.1)).length (flat ic (linesU (l.take q.1))) :: Cells b 164 (c.cells ++ [wsl g (0 * 11) l.length l.length]) :: Cells g 97 (flat wyc l) :: F) (fun q => q.1 ≤ l.length) (fun q => l.length - q.1) (0, none, 0)
  · (repeat (first | exact Sub.nil | (refine Sub.cons (by first | rfl | (simp only [Nat.zero_add]; rfl)) ?_)))
  · exact Nat.zero_le _
  · refine Ent.trans ?_ (own_empty Ent.refl)
    (repeat (first | (with_reducible exact Ent.refl) | exact Ent.nil | (apply ent_pickE; (focus ((repeat (first | (with_reducible exact pk_here) | (apply pk_there))); done))) | apply Ent.drop))
  · rintro ⟨i, p, q⟩ hi
    dsimp only at hi ⊢
    have hle := linesU_len (l.take i)
    rw [List.length_take] at hle
    by_cases hlt : i < l.length
    · have hs := linesU_step hlt
      have hT := fun F => arr_there (F := F) (w := l[i])
      cases ht : thereB l[i] with
      | true =>
        rw [ht] at hT
        rw [ht, if_pos rfl] at hs
        repeat (first | rintro _ _ ⟨rfl, rfl⟩ | rintro _ _ ⟨_, rfl, rfl⟩ | rintro _ _ ⟨_, _, rfl, rfl⟩ | rintro _ _ ⟨_, _, _, _, rfl, rfl⟩ | intro _ | refine go ?_ | (refine is_draw ?_; refine WC_draw mixed (by kernel_rfl) ?_) | refine cal @hT ?_)
        refine WE_loop (i + 1, ?_, ?_) ?_ ?_ ?_ ?_
        rotate_right
        (dsimp only; rw [hs, List.length_append, List.length_singleton, flat_append, flat_one]; (repeat (first | (with_reducible exact Ent.refl) | exact Ent.nil | (apply ent_pickE; (focus ((repeat (first | (with_reducible exact pk_here) | (apply pk_there))); done))) | apply Ent.drop)))
        all_goals first | (dsimp only; omega) | (dsimp only; rw [hs, List.length_append, List.length_singleton]; (repeat (first | exact Sub.nil | (refine Sub.cons (by first | rfl | (simp only [Nat.zero_add]; rfl)) ?_))); done)
      | false =>
        rw [ht] at hT
        rw [ht, if_neg Bool.false_ne_true] at hs
        repeat (first | rintro _ _ ⟨rfl, rfl⟩ | rintro _ _ ⟨_, rfl, rfl⟩ | rintro _ _ ⟨_, _, rfl, rfl⟩ | rintro _ _ ⟨_, _, _, _, rfl, rfl⟩ | intro _ | refine go ?_ | (refine is_draw ?_; refine WC_draw mixed (by kernel_rfl) ?_) | refine cal @hT ?_)
        refine WE_loop (i + 1, p, q) (by dsimp only; omega) (by dsimp only; omega) ?_ ?_
        · dsimp only; rw [hs]; (repeat (first | exact Sub.nil | (refine Sub.cons (by first | rfl | (simp only [Nat.zero_add]; rfl)) ?_)))
        · dsimp only; rw [hs]; (repeat (first | (with_reducible exact Ent.refl) | exact Ent.nil | (apply ent_pickE; (focus ((repeat (first | (with_reducible exact pk_here) | (apply pk_there))); done))) | apply Ent.drop))
    · have hil : i = l.length := by omega
      subst hil
      rw [List.take_length]
      have hS := fun F (v : Value) => sl_Sort (F := F) (v := v) (l := linesU l) (by omega)
      repeat (first | rintro _ _ ⟨rfl, rfl⟩ | rintro _ _ ⟨_, rfl, rfl⟩ | rintro _ _ ⟨_, _, rfl, rfl⟩ | rintro _ _ ⟨_, _, _, _, rfl, rfl⟩ | intro _ | refine go ?_ | (refine is_draw ?_; refine WC_draw mixed (by kernel_rfl) ?_) | refine cal @hS ?_)
      (apply WE_ret rfl rfl (by (repeat (first | exact ResOk.nil | (apply ResOk.tmp; rfl) | (apply resOk_cell; rfl; exact inferInstance; rfl; rfl)))))
      · exact ⟨p, q, by rw [hlen]; rfl, rfl⟩
      · rw [hlen, ew]
        show Ent _ (Own _ _ _ _ (flat ic (srt (linesU l))) :: ArrB _ _ _ _ _ :: F)
        ((repeat (first | (with_reducible exact Ent.refl) | exact Ent.nil | (apply ent_pickE; (focus ((repeat (first | (with_reducible exact pk_here) | (apply pk_there))); done))) | (apply arr_in) | apply Ent.drop)); all_goals (first | rfl | (with_reducible assumption) | (simp; done) | (simp; omega) | omega | (constructor <;> (simp) <;> omega)))
theorem ref09_Lines {F : List HP} {b : Nat} {c : Cfg} {l : List Way} :
    FnF Try.prog 55 [.pointer (some ⟨b, 0, none⟩)] [ArrRP b c l] F (fun r L' => ∃ p q, r = .slice p (linesW l).length q ∧ L' = [Own 3 1 (.slice p (linesW l).length q) (linesW l).length (flat ic (linesW l)), ArrRP b c l]) := by
  refine FnF.mk' Try.func55 rfl rfl Try.ntmps55 rfl ?_
  refine arrr_open fun g hf => ?_
  obtain ⟨hc, hn, hI⟩ := hf
  obtain ⟨_, h4, h5, h6, h7, h8⟩ := arr_nums hc hn
  obtain ⟨_, _, _, _, ⟨k, hk, ek⟩, _⟩ := check_facts hc
  have hbk := pow_bd hk
  have hlc : 1 ≤ c.lines ∧ c.lines ≤ 1024 := by rw [ek]; exact ⟨hbk.1, by have := hbk.2; simpa using this⟩
  have hP := fun F line => ref09_placeO (F := F) (b := b) (g := g) (c := c) (l := l) (line := line) h8 hI
  rw [lines_same hI hc hn]
  repeat (first | rintro _ _ ⟨rfl, rfl⟩ | rintro _ _ ⟨_, rfl, rfl⟩ | rintro _ _ ⟨_, _, rfl, rfl⟩ | rintro _ _ ⟨_, _, _, _, rfl, rfl⟩ | intro _ | refine go ?_ | (refine is_draw ?_; refine WC_draw mixed (by kernel_rfl) ?_))
  apply WC_loopE (E0 := [(0, _)]) (fun E0 (q : Nat × Option Addr × Nat) => (4, .int .i64 q.1) :: (3, .slice q.2.1 (linesD c l q.1).length q.2.2) :: E0)
    (fun q => Own 3 1 (.slice q.2.1 (linesD c l q.1).length q.2.2) (linesD c l q.1).length (flat ic (linesD c l q.1)) :: Cells b 109 (c.cells ++ [wsl g (0 * 11) l.length l.length]) :: Cells g 100 (flat wyc l) :: F) (fun q => q.1 ≤ c.lines.toNat) (fun q => c.lines.toNat - q.1) (0, _, 0)
  · (repeat (first | exact Sub.nil | (refine Sub.cons (by first | rfl | (simp only [Nat.zero_add]; rfl)) ?_)))
  · exact Nat.zero_le _
  · change Ent _ (Own _ _ (Value.slice _ 0 0) 0 [] :: _ :: _ :: F)
    (repeat (first | (with_reducible exact Ent.refl) | exact Ent.nil | (apply ent_pickE; (focus ((repeat (first | (with_reducible exact pk_here) | (apply pk_there))); done))) | apply Ent.drop))
  · rintro ⟨i, p, q⟩ hi
    dsimp only at hi ⊢
    have hle := linesD_len c l i
    have hs := linesD_step (c := c) (l := l) (n := i)
    have hP := fun F => hP F i
    by_cases hlt : i < c.lines.toNat
    · by_cases ht : 0 ≤ arrP c l i
      · rw [if_pos ht] at hs
        have e4 : 0 ≤ arrG c l i := by unfold arrG; rw [if_neg (by omega)]; omega
        generalize arrG c l i = gg at *
        repeat (first | rintro _ _ ⟨rfl, rfl⟩ | rintro _ _ ⟨_, rfl, rfl⟩ | rintro _ _ ⟨_, _, rfl, rfl⟩ | rintro _ _ ⟨_, _, _, _, rfl, rfl⟩ | intro _ | refine go ?_ | (refine is_draw ?_; refine WC_draw mixed (by kernel_rfl) ?_) | refine cal @hP ?_)
        refine WE_loop (i + 1, ?_, ?_) ?_ ?_ ?_ ?_
        rotate_right
        (dsimp only; rw [hs, List.length_append, List.length_singleton, flat_append, flat_one]; (repeat (first | (with_reducible exact Ent.refl) | exact Ent.nil | (apply ent_pickE; (focus ((repeat (first | (with_reducible exact pk_here) | (apply pk_there))); done))) | apply Ent.drop)))
        all_goals first | (dsimp only; omega) | (dsimp only; rw [hs, List.length_append, List.length_singleton]; (repeat (first | exact Sub.nil | (refine Sub.cons (by first | rfl | (simp only [Nat.zero_add]; rfl)) ?_))); done)
      · rw [if_neg ht] at hs
        have e4 : arrG c l i = -1 := if_pos (by omega)
        rw [e4] at hP
        repeat (first | rintro _ _ ⟨rfl, rfl⟩ | rintro _ _ ⟨_, rfl, rfl⟩ | rintro _ _ ⟨_, _, rfl, rfl⟩ | rintro _ _ ⟨_, _, _, _, rfl, rfl⟩ | intro _ | refine go ?_ | (refine is_draw ?_; refine WC_draw mixed (by kernel_rfl) ?_) | refine cal @hP ?_)
        refine WE_loop (i + 1, p, q) (by dsimp only; omega) (by dsimp only; omega) ?_ ?_
        · dsimp only; rw [hs]; (repeat (first | exact Sub.nil | (refine Sub.cons (by first | rfl | (simp only [Nat.zero_add]; rfl)) ?_)))
        · dsimp only; rw [hs]; (repeat (first | (with_reducible exact Ent.refl) | exact Ent.nil | (apply ent_pickE; (focus ((repeat (first | (with_reducible exact pk_here) | (apply pk_there))); done))) | apply Ent.drop))
    · have hil : i = c.lines.toNat := by omega
      subst hil
      repeat (first | rintro _ _ ⟨rfl, rfl⟩ | rintro _ _ ⟨_, rfl, rfl⟩ | rintro _ _ ⟨_, _, rfl, rfl⟩ | rintro _ _ ⟨_, _, _, _, rfl, rfl⟩ | intro _ | refine go ?_ | (refine is_draw ?_; refine WC_draw mixed (by kernel_rfl) ?_))
      (apply WE_ret rfl rfl (by (repeat (first | exact ResOk.nil | (apply ResOk.tmp; rfl) | (apply resOk_cell; rfl; exact inferInstance; rfl; rfl)))))
      · exact ⟨p, q, rfl, rfl⟩
      · show Ent _ (Own _ _ _ _ _ :: ArrRB _ _ _ _ _ :: F)
        ((repeat (first | (with_reducible exact Ent.refl) | exact Ent.nil | (apply ent_pickE; (focus ((repeat (first | (with_reducible exact pk_here) | (apply pk_there))); done))) | (apply arrr_in) | apply Ent.drop)); all_goals (first | rfl | (with_reducible assumption) | (simp; done) | (simp; omega) | omega | (constructor <;> (simp) <;> omega)))
end Go.Sx
