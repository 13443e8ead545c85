/- In whichever order cores are added the set is the same: the law of sharers. My own work. -/
import Derived.Test.YtadedfcjakhfbabShrHas
namespace Go.Sx
open Go Go.Proofs
set_option linter.unusedVariables false
set_option linter.unusedSectionVars false
set_option linter.unusedSimpArgs false
/-- The set of those that are in K. -/
def canon (cores most : Int) (K : Int → Bool) : SSet :=
  if (((upto cores.toNat).filter K).length : Int) ≤ most then ⟨cores, most, (upto cores.toNat).filter K, false⟩ else ⟨cores, most, [], true⟩
def sStep (s : SSet) (x : Int) : SSet := if shAddE s x = 0 then shAddS s x else s
section
variable {cores most : Int}
theorem canon_may {K : Int → Bool} (h : shMay ⟨cores, most, [], false⟩ = true) : shMay (canon cores most K) = true ∧ (canon cores most K).cores = cores ∧ (canon cores most K).most = most := by
  obtain ⟨m1, m2, m3, m4, m5, m6, m7, m8⟩ := may_facts' h
  dsimp only at m1 m2 m3 m4
  unfold canon
  split
  · rename_i hle
    refine ⟨may_mk m1 m2 m3 m4 hle (fun h => by cases h) ((upto_sorted _).sublist List.filter_sublist) fun c hc => ?_, rfl, rfl⟩
    have := upto_mem.1 (List.mem_filter.1 hc).1
    dsimp only; omega
  · exact ⟨may_mk m1 m2 m3 m4 (by simpa using m3) (fun _ => rfl) List.Pairwise.nil (fun c hc => by cases hc), rfl, rfl⟩
theorem canon_eq {K K' : Int → Bool} (h : ∀ c, 0 ≤ c → c < cores → K c = K' c) : canon cores most K = canon cores most K' := by
  have : (upto cores.toNat).filter K = (upto cores.toNat).filter K' := List.filter_congr fun c hc => by
    have := upto_mem.1 hc
    exact h c (by omega) (by omega)
  unfold canon
  rw [this]
theorem canon_step {K : Int → Bool} (h : shMay ⟨cores, most, [], false⟩ = true) (x : Int) : sStep (canon cores most K) x = canon cores most (fun c => K c || decide (c = x)) := by
  obtain ⟨q1, q2, q3⟩ := canon_may (K := K) h
  obtain ⟨m1, m2, m3, m4, m5, m6, m7, m8⟩ := may_facts' h
  dsimp only at m1 m2 m3 m4
  unfold sStep
  by_cases hr : x < 0 ∨ cores ≤ x
  · have e1 : shAddE (canon cores most K) x = 5 := by simp only [shAddE, q1, if_true, q2, if_pos hr]
    rw [e1, if_neg (by omega)]
    refine canon_eq fun c h0 h1 => ?_
    have : c ≠ x := by omega
    simp [this]
  · have e1 : shAddE (canon cores most K) x = 0 := by simp only [shAddE, q1, if_true, q2, if_neg hr]
    rw [e1, if_pos rfl]
    unfold shAddS
    rw [if_pos e1]
    have hx : x ∈ upto cores.toNat := upto_mem.2 (by omega)
    have hps : ((upto cores.toNat).filter K).Pairwise (· < ·) := (upto_sorted _).sublist List.filter_sublist
    cases hK : K x with
    | true =>
      have hsame : canon cores most (fun c => K c || decide (c = x)) = canon cores most K := canon_eq fun c _ _ => by
        by_cases hc : c = x
        · subst hc; simp [hK]
        · simp [hc]
      have hh : shHas (canon cores most K) x = true := by
        unfold canon
        split
        · simp [shHas, hx, hK]
        · simp [shHas]; omega
      rw [hsame, hh, if_pos rfl]
    | false =>
      have hxn : ¬ x ∈ (upto cores.toNat).filter K := fun h => by rw [List.mem_filter, hK] at h; cases h.2
      have hins : (upto cores.toNat).filter (fun c => K c || decide (c = x)) = insL x ((upto cores.toNat).filter K) := by
        refine sorted_same ((upto_sorted _).sublist List.filter_sublist) (insL_sorted hps hxn) fun c => ?_
        rw [insL_mem, List.mem_filter, List.mem_filter]
        by_cases hc : c = x
        · subst hc; simp [hx]
        · simp [hc]
      have hlen := insL_len x ((upto cores.toNat).filter K)
      unfold canon
      rw [hins]
      by_cases hle : (((upto cores.toNat).filter K).length : Int) ≤ most
      · rw [if_pos hle]
        have hh : shHas ⟨cores, most, (upto cores.toNat).filter K, false⟩ x = false := by simp [shHas, hK]
        rw [hh, if_neg Bool.false_ne_true]
        by_cases hf : (((upto cores.toNat).filter K).length : Int) = most
        · rw [if_pos hf, if_neg (by rw [hlen]; omega)]
        · rw [if_neg hf, if_pos (by rw [hlen]; omega)]
      · have hh : shHas ⟨cores, most, [], true⟩ x = true := by simp [shHas]; omega
        rw [if_neg hle, hh, if_pos rfl, if_neg (by rw [hlen]; omega)]
end
def sOf (cores most : Int) (l : List Int) : SSet := canon cores most fun c => decide (c ∈ l)
theorem sOf_step {cores most : Int} (h : shMay ⟨cores, most, [], false⟩ = true) (l : List Int) (x : Int) : sStep (sOf cores most l) x = sOf cores most (l ++ [x]) := by
  unfold sOf
  rw [canon_step h]
  exact canon_eq fun c _ _ => by rw [Bool.eq_iff_iff]; simp
theorem sOf_same {cores most : Int} {l m : List Int} (h : ∀ c, c ∈ l ↔ c ∈ m) : sOf cores most l = sOf cores most m := canon_eq fun c _ _ => by rw [decide_eq_decide]; exact h c
theorem sOf_nil {cores most : Int} (h : shMay ⟨cores, most, [], false⟩ = true) : sOf cores most [] = ⟨cores, most, [], false⟩ := by
  obtain ⟨m1, m2, m3, m4, m5, m6, m7, m8⟩ := may_facts' h
  dsimp only at m3
  have : (upto cores.toNat).filter (fun c => decide (c ∈ ([] : List Int))) = [] := by simp
  unfold sOf canon
  rw [this, if_pos (by simpa using m3)]
/-- Which is the i-th one of those that are turned about. -/
def ix (n b i : Nat) : Nat := (n - 1 - i + b) % n
theorem ix_onto {n b t : Nat} (ht : t < n) : ∃ i, i < n ∧ ix n b i = t := by
  refine ⟨(n - 1 + b - t) % n, Nat.mod_lt _ (by omega), ?_⟩
  unfold ix
  have h1 := Nat.div_add_mod (n - 1 + b - t) n
  have h2 := Nat.mod_lt (n - 1 + b - t) (show 0 < n by omega)
  have e : n - 1 - (n - 1 + b - t) % n + b = t + n * ((n - 1 + b - t) / n) := by omega
  rw [e, Nat.add_mul_mod_self_left, Nat.mod_eq_of_lt ht]
theorem ix_int {n b i : Nat} (hi : i < n) : Int.tmod ((n : Int) - 1 - i + b) n = (ix n b i : Nat) := by
  have e : (n : Int) - 1 - i + b = ((n - 1 - i + b : Nat) : Int) := by omega
  rw [e, ← Int.ofNat_tmod]; rfl
def turned (l : List Int) (b i : Nat) : List Int := (List.range i).map fun j => l.getD (ix l.length b j) 0
theorem turned_succ {l : List Int} {b i : Nat} (h : ix l.length b i < l.length) : turned l b (i + 1) = turned l b i ++ [l[ix l.length b i]] := by
  unfold turned
  rw [List.range_succ, List.map_append]
  simp [h]
theorem turned_mem {l : List Int} {b : Nat} (c : Int) : c ∈ turned l b l.length ↔ c ∈ l := by
  unfold turned
  simp only [List.mem_map, List.mem_range]
  constructor
  · rintro ⟨j, hj, rfl⟩
    have : ix l.length b j < l.length := Nat.mod_lt _ (by omega)
    rw [← getD_at this]
    exact List.getElem_mem _
  · intro h
    obtain ⟨t, ht, rfl⟩ := List.getElem_of_mem h
    obtain ⟨i, hi, e⟩ := ix_onto (b := b) ht
    exact ⟨i, hi, by rw [e, getD_at ht]⟩
set_option maxRecDepth 100000
set_option maxHeartbeats 4000000
attribute [local irreducible] Go.Exit.then Go.Exit.inBlock Go.Code.wp WC WO WE WQ V LoopQ FnQ Sat Star band bor IntKind.wrap WR Code.rounds WT KO
theorem law08_Order {W : World} {F : List HP} {cores pointers b : Int} {v : Value} {l : List Int} (hl : l.length ≤ 9223372036854775807) (k : ROld W 1 v l.length (flat ic l)) :
    FnF Try.prog 9 [.int .i64 cores, .int .i64 pointers, v, .int .i64 b] [Old W] F (fun r L' => r = .bool true ∧ L' = [Old W]) := by
  have hN := fun F => shr_New (F := F) (cores := cores) (most := pointers)
  obtain ⟨va, vc, rfl⟩ : ∃ a c, v = .slice a l.length c := by
    rcases k.pf with ⟨p, c, h, hn⟩ | ⟨b, o, c, h, _⟩
    · exact ⟨p, c, by rw [h, hn]⟩
    · exact ⟨_, _, h⟩
  refine FnF.mk' Try.func9 rfl rfl Try.ntmps9 rfl ?_
  by_cases h1 : 100 < l.length
  · repeat (first | rintro _ _ ⟨rfl, rfl⟩ | rintro _ _ ⟨_, rfl, rfl⟩ | rintro _ _ ⟨_, _, rfl, rfl⟩ | intro _ | refine go ?_ | (refine is_draw ?_; apply WC_mix (id := 12) true _ (pl := .p 1 <| .p 2 <| .p 3 <| .r 0 <| .r 4 <| .e true [(5, .p 6 <| .p 7 <| .p 8 <| .e false [(9, .e false [(10, .p 11 <| .done)])]), (9, .e true [(5, .p 6 <| .p 7 <| .p 8 <| .e false [(10, .p 11 <| .done)])])]); exact mixed; kernel_rfl; kernel_rfl; exact Ent.refl) | (refine is_draw ?_; apply WC_mix (id := 15) true _ (pl := .p 1 <| .p 2 <| .p 3 <| .p 4 <| .p 5 <| .p 6 <| .p 7 <| .p 8 <| .p 9 <| .p 10 <| .p 11 <| .p 12 <| .r 0 <| .r 13 <| .e true [(14, .p 15 <| .p 16 <| .p 17 <| .e false [(18, .e false [(19, .p 20 <| .done)])]), (18, .e true [(14, .p 15 <| .p 16 <| .p 17 <| .e false [(19, .p 20 <| .done)])])]); exact mixed; kernel_rfl; kernel_rfl; exact Ent.refl) | (refine is_draw ?_; refine WC_draw mixed (by kernel_rfl) ?_) | refine cal @law08_awake ?_)
    (apply WE_ret rfl rfl (by (repeat (first | exact ResOk.nil | (apply ResOk.tmp; rfl) | (apply resOk_cell; rfl; exact inferInstance; rfl; rfl)))); (first | exact ⟨rfl, rfl⟩ | exact ⟨congrArg Value.bool (by decide), rfl⟩ | exact ⟨_, rfl, rfl⟩ | exact ⟨_, _, rfl, rfl⟩ | exact ⟨by first | (simp []; done) | (simp [] <;> omega), rfl⟩); (repeat (first | exact Ent.refl | exact Ent.nil | apply Ent.pick | apply Ent.drop)))
  · by_cases h2 : b < 0
    · repeat (first | rintro _ _ ⟨rfl, rfl⟩ | rintro _ _ ⟨_, rfl, rfl⟩ | rintro _ _ ⟨_, _, rfl, rfl⟩ | intro _ | refine go ?_ | (refine is_draw ?_; apply WC_mix (id := 12) true _ (pl := .p 1 <| .p 2 <| .p 3 <| .r 0 <| .r 4 <| .e true [(5, .p 6 <| .p 7 <| .p 8 <| .e false [(9, .e false [(10, .p 11 <| .done)])]), (9, .e true [(5, .p 6 <| .p 7 <| .p 8 <| .e false [(10, .p 11 <| .done)])])]); exact mixed; kernel_rfl; kernel_rfl; exact Ent.refl) | (refine is_draw ?_; apply WC_mix (id := 15) true _ (pl := .p 1 <| .p 2 <| .p 3 <| .p 4 <| .p 5 <| .p 6 <| .p 7 <| .p 8 <| .p 9 <| .p 10 <| .p 11 <| .p 12 <| .r 0 <| .r 13 <| .e true [(14, .p 15 <| .p 16 <| .p 17 <| .e false [(18, .e false [(19, .p 20 <| .done)])]), (18, .e true [(14, .p 15 <| .p 16 <| .p 17 <| .e false [(19, .p 20 <| .done)])])]); exact mixed; kernel_rfl; kernel_rfl; exact Ent.refl) | (refine is_draw ?_; refine WC_draw mixed (by kernel_rfl) ?_) | refine cal @law08_awake ?_)
      (apply WE_ret rfl rfl (by (repeat (first | exact ResOk.nil | (apply ResOk.tmp; rfl) | (apply resOk_cell; rfl; exact inferInstance; rfl; rfl)))); (first | exact ⟨rfl, rfl⟩ | exact ⟨congrArg Value.bool (by decide), rfl⟩ | exact ⟨_, rfl, rfl⟩ | exact ⟨_, _, rfl, rfl⟩ | exact ⟨by first | (simp []; done) | (simp [] <;> omega), rfl⟩); (repeat (first | exact Ent.refl | exact Ent.nil | apply Ent.pick | apply Ent.drop)))
    · by_cases h3 : (l.length : Int) < b
      · repeat (first | rintro _ _ ⟨rfl, rfl⟩ | rintro _ _ ⟨_, rfl, rfl⟩ | rintro _ _ ⟨_, _, rfl, rfl⟩ | intro _ | refine go ?_ | (refine is_draw ?_; apply WC_mix (id := 12) true _ (pl := .p 1 <| .p 2 <| .p 3 <| .r 0 <| .r 4 <| .e true [(5, .p 6 <| .p 7 <| .p 8 <| .e false [(9, .e false [(10, .p 11 <| .done)])]), (9, .e true [(5, .p 6 <| .p 7 <| .p 8 <| .e false [(10, .p 11 <| .done)])])]); exact mixed; kernel_rfl; kernel_rfl; exact Ent.refl) | (refine is_draw ?_; apply WC_mix (id := 15) true _ (pl := .p 1 <| .p 2 <| .p 3 <| .p 4 <| .p 5 <| .p 6 <| .p 7 <| .p 8 <| .p 9 <| .p 10 <| .p 11 <| .p 12 <| .r 0 <| .r 13 <| .e true [(14, .p 15 <| .p 16 <| .p 17 <| .e false [(18, .e false [(19, .p 20 <| .done)])]), (18, .e true [(14, .p 15 <| .p 16 <| .p 17 <| .e false [(19, .p 20 <| .done)])])]); exact mixed; kernel_rfl; kernel_rfl; exact Ent.refl) | (refine is_draw ?_; refine WC_draw mixed (by kernel_rfl) ?_) | refine cal @law08_awake ?_)
        (apply WE_ret rfl rfl (by (repeat (first | exact ResOk.nil | (apply ResOk.tmp; rfl) | (apply resOk_cell; rfl; exact inferInstance; rfl; rfl)))); (first | exact ⟨rfl, rfl⟩ | exact ⟨congrArg Value.bool (by decide), rfl⟩ | exact ⟨_, rfl, rfl⟩ | exact ⟨_, _, rfl, rfl⟩ | exact ⟨by first | (simp []; done) | (simp [] <;> omega), rfl⟩); (repeat (first | exact Ent.refl | exact Ent.nil | apply Ent.pick | apply Ent.drop)))
      · obtain ⟨by', rfl⟩ : ∃ n : Nat, b = n := ⟨b.toNat, by omega⟩
        cases e : shMay ⟨cores, pointers, [], false⟩ with
        | false =>
          simp only [e, Bool.false_eq_true, if_false] at hN
          repeat (first | rintro _ _ ⟨rfl, rfl⟩ | rintro _ _ ⟨_, rfl, rfl⟩ | rintro _ _ ⟨_, _, rfl, rfl⟩ | intro _ | refine go ?_ | (refine is_draw ?_; apply WC_mix (id := 12) true _ (pl := .p 1 <| .p 2 <| .p 3 <| .r 0 <| .r 4 <| .e true [(5, .p 6 <| .p 7 <| .p 8 <| .e false [(9, .e false [(10, .p 11 <| .done)])]), (9, .e true [(5, .p 6 <| .p 7 <| .p 8 <| .e false [(10, .p 11 <| .done)])])]); exact mixed; kernel_rfl; kernel_rfl; exact Ent.refl) | (refine is_draw ?_; apply WC_mix (id := 15) true _ (pl := .p 1 <| .p 2 <| .p 3 <| .p 4 <| .p 5 <| .p 6 <| .p 7 <| .p 8 <| .p 9 <| .p 10 <| .p 11 <| .p 12 <| .r 0 <| .r 13 <| .e true [(14, .p 15 <| .p 16 <| .p 17 <| .e false [(18, .e false [(19, .p 20 <| .done)])]), (18, .e true [(14, .p 15 <| .p 16 <| .p 17 <| .e false [(19, .p 20 <| .done)])])]); exact mixed; kernel_rfl; kernel_rfl; exact Ent.refl) | (refine is_draw ?_; refine WC_draw mixed (by kernel_rfl) ?_) | refine cal @law08_awake ?_ | refine cal @hN ?_)
          (apply WE_ret rfl rfl (by (repeat (first | exact ResOk.nil | (apply ResOk.tmp; rfl) | (apply resOk_cell; rfl; exact inferInstance; rfl; rfl)))); (first | exact ⟨rfl, rfl⟩ | exact ⟨congrArg Value.bool (by decide), rfl⟩ | exact ⟨_, rfl, rfl⟩ | exact ⟨_, _, rfl, rfl⟩ | exact ⟨by first | (simp []; done) | (simp [] <;> omega), rfl⟩); (repeat (first | exact Ent.refl | exact Ent.nil | apply Ent.pick | apply Ent.drop)))
        | true =>
          simp only [e, if_true] at hN
          rw [← sOf_nil e] at hN
          repeat (first | rintro _ _ ⟨rfl, rfl⟩ | rintro _ _ ⟨_, rfl, rfl⟩ | rintro _ _ ⟨_, _, rfl, rfl⟩ | intro _ | refine go ?_ | (refine is_draw ?_; apply WC_mix (id := 12) true _ (pl := .p 1 <| .p 2 <| .p 3 <| .r 0 <| .r 4 <| .e true [(5, .p 6 <| .p 7 <| .p 8 <| .e false [(9, .e false [(10, .p 11 <| .done)])]), (9, .e true [(5, .p 6 <| .p 7 <| .p 8 <| .e false [(10, .p 11 <| .done)])])]); exact mixed; kernel_rfl; kernel_rfl; exact Ent.refl) | (refine is_draw ?_; apply WC_mix (id := 15) true _ (pl := .p 1 <| .p 2 <| .p 3 <| .p 4 <| .p 5 <| .p 6 <| .p 7 <| .p 8 <| .p 9 <| .p 10 <| .p 11 <| .p 12 <| .r 0 <| .r 13 <| .e true [(14, .p 15 <| .p 16 <| .p 17 <| .e false [(18, .e false [(19, .p 20 <| .done)])]), (18, .e true [(14, .p 15 <| .p 16 <| .p 17 <| .e false [(19, .p 20 <| .done)])])]); exact mixed; kernel_rfl; kernel_rfl; exact Ent.refl) | (refine is_draw ?_; refine WC_draw mixed (by kernel_rfl) ?_) | refine cal @law08_awake ?_ | refine cal @hN ?_)
          rename_i ba bb
          have hmk : ∀ m, shMay (sOf cores pointers m) = true ∧ (sOf cores pointers m).cores = cores ∧ (sOf cores pointers m).most = pointers := fun m => canon_may e
          apply WC_loopE (E0 := [(2, _), (3, _), (9, _), (11, _), (47, _)]) (fun E0 (q : Nat × Option Addr × Nat × Option Addr × Nat) => (48, .int .i64 q.1) :: E0)
            (fun q => Own 3 1 (.slice q.2.1 (sOf cores pointers (l.take q.1)).ps.length q.2.2.1) (sOf cores pointers (l.take q.1)).ps.length (flat ic (sOf cores pointers (l.take q.1)).ps)
              :: Own 3 1 (.slice q.2.2.2.1 (sOf cores pointers (turned l by' q.1)).ps.length q.2.2.2.2) (sOf cores pointers (turned l by' q.1)).ps.length (flat ic (sOf cores pointers (turned l by' q.1)).ps)
              :: Cells ba 41 (scl (sOf cores pointers (l.take q.1)) q.2.1 q.2.2.1) :: Cells bb 41 (scl (sOf cores pointers (turned l by' q.1)) q.2.2.2.1 q.2.2.2.2) :: Old W :: F)
            (fun q => q.1 ≤ l.length) (fun q => l.length - q.1) (0, none, 0, none, 0)
          · (repeat (first | exact Sub.nil | (refine Sub.cons (by first | rfl | (simp only [Nat.zero_add]; rfl)) ?_)))
          · exact Nat.zero_le _
          · dsimp only
            rw [List.take_zero, show turned l by' 0 = [] from rfl, show (sOf cores pointers []).ps = [] by rw [sOf_nil e]]
            refine Ent.trans ?_ (own_empty (own_empty Ent.refl))
            (repeat (first | (with_reducible exact Ent.refl) | exact Ent.nil | (apply ent_pickE; (focus ((repeat (first | (with_reducible exact pk_here) | (apply pk_there))); done))) | apply Ent.drop))
          · rintro ⟨i, aa, ka, ab, kb⟩ hi
            dsimp only at hi ⊢
            by_cases hlt : i < l.length
            · obtain ⟨p1, p2, p3⟩ := hmk (l.take i)
              obtain ⟨q1, q2, q3⟩ := hmk (turned l by' i)
              have hix : ix l.length by' i < l.length := Nat.mod_lt _ (by omega)
              have hs1 := sOf_step e (l.take i) l[i]
              rw [show l.take i ++ [l[i]] = l.take (i + 1) by simp] at hs1
              have hs2 := sOf_step e (turned l by' i) l[ix l.length by' i]
              rw [← turned_succ hix] at hs2
              have hA := fun F a k (hk : RdL F 1 (.slice a (sOf cores pointers (l.take i)).ps.length k) (sOf cores pointers (l.take i)).ps.length (flat ic (sOf cores pointers (l.take i)).ps)) => shr_Add (F := F) (x := l[i]) hk (by have := (may_facts' p1).2.2; omega)
              have hB := fun F a k (hk : RdL F 1 (.slice a (sOf cores pointers (turned l by' i)).ps.length k) (sOf cores pointers (turned l by' i)).ps.length (flat ic (sOf cores pointers (turned l by' i)).ps)) => shr_Add (F := F) (x := l[ix l.length by' i]) hk (by have := (may_facts' q1).2.2; omega)
              generalize sOf cores pointers (l.take i) = s1 at *
              generalize sOf cores pointers (turned l by' i) = s2 at *
              generalize hg1 : sOf cores pointers (l.take (i + 1)) = s1' at *
              generalize hg2 : sOf cores pointers (turned l by' (i + 1)) = s2' at *
              (first | (refine WO_some (.slice va l.length vc) inferInstance (by omega) ?_; intro _) | (refine WC_some (.slice va l.length vc) inferInstance (by omega) ?_; intro _))
              by_cases hr1 : l[i] < 0 ∨ cores ≤ l[i]
              · by_cases hr2 : l[ix l.length by' i] < 0 ∨ cores ≤ l[ix l.length by' i]
                · have e1 : shAddE s1 l[i] = 5 := by simp only [shAddE, p1, if_true, p2, if_pos hr1]
                  simp only [e1, sStep] at hA hs1
                  rw [if_neg (by omega)] at hs1
                  subst hs1
                  have e2 : shAddE s2 l[ix l.length by' i] = 5 := by simp only [shAddE, q1, if_true, q2, if_pos hr2]
                  simp only [e2, sStep] at hB hs2
                  rw [if_neg (by omega)] at hs2
                  subst hs2
                  repeat' (first | rintro _ _ ⟨rfl, rfl⟩ | rintro _ _ ⟨_, rfl, rfl⟩ | rintro _ _ ⟨_, _, rfl, rfl⟩ | intro _ | refine go ?_ | (refine is_draw ?_; apply WC_mix (id := 12) true _ (pl := .p 1 <| .p 2 <| .p 3 <| .r 0 <| .r 4 <| .e true [(5, .p 6 <| .p 7 <| .p 8 <| .e false [(9, .e false [(10, .p 11 <| .done)])]), (9, .e true [(5, .p 6 <| .p 7 <| .p 8 <| .e false [(10, .p 11 <| .done)])])]); exact mixed; kernel_rfl; kernel_rfl; exact Ent.refl) | (refine is_draw ?_; apply WC_mix (id := 15) true _ (pl := .p 1 <| .p 2 <| .p 3 <| .p 4 <| .p 5 <| .p 6 <| .p 7 <| .p 8 <| .p 9 <| .p 10 <| .p 11 <| .p 12 <| .r 0 <| .r 13 <| .e true [(14, .p 15 <| .p 16 <| .p 17 <| .e false [(18, .e false [(19, .p 20 <| .done)])]), (18, .e true [(14, .p 15 <| .p 16 <| .p 17 <| .e false [(19, .p 20 <| .done)])])]); exact mixed; kernel_rfl; kernel_rfl; exact Ent.refl) | (refine is_draw ?_; refine WC_draw mixed (by kernel_rfl) ?_) | refine cal @hA ?_ | refine cal @hB ?_ | refine spl ?_ ?_ | fail)
                  all_goals (try simp only [ix_int hlt])
                  all_goals (repeat' (first | rintro _ _ ⟨rfl, rfl⟩ | rintro _ _ ⟨_, rfl, rfl⟩ | rintro _ _ ⟨_, _, rfl, rfl⟩ | intro _ | refine go ?_ | (refine is_draw ?_; apply WC_mix (id := 12) true _ (pl := .p 1 <| .p 2 <| .p 3 <| .r 0 <| .r 4 <| .e true [(5, .p 6 <| .p 7 <| .p 8 <| .e false [(9, .e false [(10, .p 11 <| .done)])]), (9, .e true [(5, .p 6 <| .p 7 <| .p 8 <| .e false [(10, .p 11 <| .done)])])]); exact mixed; kernel_rfl; kernel_rfl; exact Ent.refl) | (refine is_draw ?_; apply WC_mix (id := 15) true _ (pl := .p 1 <| .p 2 <| .p 3 <| .p 4 <| .p 5 <| .p 6 <| .p 7 <| .p 8 <| .p 9 <| .p 10 <| .p 11 <| .p 12 <| .r 0 <| .r 13 <| .e true [(14, .p 15 <| .p 16 <| .p 17 <| .e false [(18, .e false [(19, .p 20 <| .done)])]), (18, .e true [(14, .p 15 <| .p 16 <| .p 17 <| .e false [(19, .p 20 <| .done)])])]); exact mixed; kernel_rfl; kernel_rfl; exact Ent.refl) | (refine is_draw ?_; refine WC_draw mixed (by kernel_rfl) ?_) | refine cal @hA ?_ | refine cal @hB ?_ | refine spl ?_ ?_ | fail))
                  all_goals (
                    refine WE_loop (i + 1, ?_, ?_, ?_, ?_) ?_ ?_ ?_ ?_
                    rotate_right
                    (dsimp only; simp only [hg1, hg2]; (repeat (first | (with_reducible exact Ent.refl) | exact Ent.nil | (apply ent_pickE; (focus ((repeat (first | (with_reducible exact pk_here) | (apply pk_there))); done))) | apply Ent.drop)))
                    all_goals first | (dsimp only; omega) | ((repeat (first | exact Sub.nil | (refine Sub.cons (by first | rfl | (simp only [Nat.zero_add]; rfl)) ?_))); done))
                · have e1 : shAddE s1 l[i] = 5 := by simp only [shAddE, p1, if_true, p2, if_pos hr1]
                  simp only [e1, sStep] at hA hs1
                  rw [if_neg (by omega)] at hs1
                  subst hs1
                  have e2 : shAddE s2 l[ix l.length by' i] = 0 := by simp only [shAddE, q1, if_true, q2, if_neg hr2]
                  simp only [e2, sStep, if_true] at hB hs2
                  subst hs2
                  repeat' (first | rintro _ _ ⟨rfl, rfl⟩ | rintro _ _ ⟨_, rfl, rfl⟩ | rintro _ _ ⟨_, _, rfl, rfl⟩ | intro _ | refine go ?_ | (refine is_draw ?_; apply WC_mix (id := 12) true _ (pl := .p 1 <| .p 2 <| .p 3 <| .r 0 <| .r 4 <| .e true [(5, .p 6 <| .p 7 <| .p 8 <| .e false [(9, .e false [(10, .p 11 <| .done)])]), (9, .e true [(5, .p 6 <| .p 7 <| .p 8 <| .e false [(10, .p 11 <| .done)])])]); exact mixed; kernel_rfl; kernel_rfl; exact Ent.refl) | (refine is_draw ?_; apply WC_mix (id := 15) true _ (pl := .p 1 <| .p 2 <| .p 3 <| .p 4 <| .p 5 <| .p 6 <| .p 7 <| .p 8 <| .p 9 <| .p 10 <| .p 11 <| .p 12 <| .r 0 <| .r 13 <| .e true [(14, .p 15 <| .p 16 <| .p 17 <| .e false [(18, .e false [(19, .p 20 <| .done)])]), (18, .e true [(14, .p 15 <| .p 16 <| .p 17 <| .e false [(19, .p 20 <| .done)])])]); exact mixed; kernel_rfl; kernel_rfl; exact Ent.refl) | (refine is_draw ?_; refine WC_draw mixed (by kernel_rfl) ?_) | refine cal @hA ?_ | refine cal @hB ?_ | refine spl ?_ ?_ | fail)
                  all_goals (try simp only [ix_int hlt])
                  all_goals (repeat' (first | rintro _ _ ⟨rfl, rfl⟩ | rintro _ _ ⟨_, rfl, rfl⟩ | rintro _ _ ⟨_, _, rfl, rfl⟩ | intro _ | refine go ?_ | (refine is_draw ?_; apply WC_mix (id := 12) true _ (pl := .p 1 <| .p 2 <| .p 3 <| .r 0 <| .r 4 <| .e true [(5, .p 6 <| .p 7 <| .p 8 <| .e false [(9, .e false [(10, .p 11 <| .done)])]), (9, .e true [(5, .p 6 <| .p 7 <| .p 8 <| .e false [(10, .p 11 <| .done)])])]); exact mixed; kernel_rfl; kernel_rfl; exact Ent.refl) | (refine is_draw ?_; apply WC_mix (id := 15) true _ (pl := .p 1 <| .p 2 <| .p 3 <| .p 4 <| .p 5 <| .p 6 <| .p 7 <| .p 8 <| .p 9 <| .p 10 <| .p 11 <| .p 12 <| .r 0 <| .r 13 <| .e true [(14, .p 15 <| .p 16 <| .p 17 <| .e false [(18, .e false [(19, .p 20 <| .done)])]), (18, .e true [(14, .p 15 <| .p 16 <| .p 17 <| .e false [(19, .p 20 <| .done)])])]); exact mixed; kernel_rfl; kernel_rfl; exact Ent.refl) | (refine is_draw ?_; refine WC_draw mixed (by kernel_rfl) ?_) | refine cal @hA ?_ | refine cal @hB ?_ | refine spl ?_ ?_ | fail))
                  all_goals (
                    refine WE_loop (i + 1, ?_, ?_, ?_, ?_) ?_ ?_ ?_ ?_
                    rotate_right
                    (dsimp only; simp only [hg1, hg2]; (repeat (first | (with_reducible exact Ent.refl) | exact Ent.nil | (apply ent_pickE; (focus ((repeat (first | (with_reducible exact pk_here) | (apply pk_there))); done))) | apply Ent.drop)))
                    all_goals first | (dsimp only; omega) | ((repeat (first | exact Sub.nil | (refine Sub.cons (by first | rfl | (simp only [Nat.zero_add]; rfl)) ?_))); done))
              · by_cases hr2 : l[ix l.length by' i] < 0 ∨ cores ≤ l[ix l.length by' i]
                · have e1 : shAddE s1 l[i] = 0 := by simp only [shAddE, p1, if_true, p2, if_neg hr1]
                  simp only [e1, sStep, if_true] at hA hs1
                  subst hs1
                  have e2 : shAddE s2 l[ix l.length by' i] = 5 := by simp only [shAddE, q1, if_true, q2, if_pos hr2]
                  simp only [e2, sStep] at hB hs2
                  rw [if_neg (by omega)] at hs2
                  subst hs2
                  repeat' (first | rintro _ _ ⟨rfl, rfl⟩ | rintro _ _ ⟨_, rfl, rfl⟩ | rintro _ _ ⟨_, _, rfl, rfl⟩ | intro _ | refine go ?_ | (refine is_draw ?_; apply WC_mix (id := 12) true _ (pl := .p 1 <| .p 2 <| .p 3 <| .r 0 <| .r 4 <| .e true [(5, .p 6 <| .p 7 <| .p 8 <| .e false [(9, .e false [(10, .p 11 <| .done)])]), (9, .e true [(5, .p 6 <| .p 7 <| .p 8 <| .e false [(10, .p 11 <| .done)])])]); exact mixed; kernel_rfl; kernel_rfl; exact Ent.refl) | (refine is_draw ?_; apply WC_mix (id := 15) true _ (pl := .p 1 <| .p 2 <| .p 3 <| .p 4 <| .p 5 <| .p 6 <| .p 7 <| .p 8 <| .p 9 <| .p 10 <| .p 11 <| .p 12 <| .r 0 <| .r 13 <| .e true [(14, .p 15 <| .p 16 <| .p 17 <| .e false [(18, .e false [(19, .p 20 <| .done)])]), (18, .e true [(14, .p 15 <| .p 16 <| .p 17 <| .e false [(19, .p 20 <| .done)])])]); exact mixed; kernel_rfl; kernel_rfl; exact Ent.refl) | (refine is_draw ?_; refine WC_draw mixed (by kernel_rfl) ?_) | refine cal @hA ?_ | refine cal @hB ?_ | refine spl ?_ ?_ | fail)
                  all_goals (try simp only [ix_int hlt])
                  all_goals (repeat' (first | rintro _ _ ⟨rfl, rfl⟩ | rintro _ _ ⟨_, rfl, rfl⟩ | rintro _ _ ⟨_, _, rfl, rfl⟩ | intro _ | refine go ?_ | (refine is_draw ?_; apply WC_mix (id := 12) true _ (pl := .p 1 <| .p 2 <| .p 3 <| .r 0 <| .r 4 <| .e true [(5, .p 6 <| .p 7 <| .p 8 <| .e false [(9, .e false [(10, .p 11 <| .done)])]), (9, .e true [(5, .p 6 <| .p 7 <| .p 8 <| .e false [(10, .p 11 <| .done)])])]); exact mixed; kernel_rfl; kernel_rfl; exact Ent.refl) | (refine is_draw ?_; apply WC_mix (id := 15) true _ (pl := .p 1 <| .p 2 <| .p 3 <| .p 4 <| .p 5 <| .p 6 <| .p 7 <| .p 8 <| .p 9 <| .p 10 <| .p 11 <| .p 12 <| .r 0 <| .r 13 <| .e true [(14, .p 15 <| .p 16 <| .p 17 <| .e false [(18, .e false [(19, .p 20 <| .done)])]), (18, .e true [(14, .p 15 <| .p 16 <| .p 17 <| .e false [(19, .p 20 <| .done)])])]); exact mixed; kernel_rfl; kernel_rfl; exact Ent.refl) | (refine is_draw ?_; refine WC_draw mixed (by kernel_rfl) ?_) | refine cal @hA ?_ | refine cal @hB ?_ | refine spl ?_ ?_ | fail))
                  all_goals (
                    refine WE_loop (i + 1, ?_, ?_, ?_, ?_) ?_ ?_ ?_ ?_
                    rotate_right
                    (dsimp only; simp only [hg1, hg2]; (repeat (first | (with_reducible exact Ent.refl) | exact Ent.nil | (apply ent_pickE; (focus ((repeat (first | (with_reducible exact pk_here) | (apply pk_there))); done))) | apply Ent.drop)))
                    all_goals first | (dsimp only; omega) | ((repeat (first | exact Sub.nil | (refine Sub.cons (by first | rfl | (simp only [Nat.zero_add]; rfl)) ?_))); done))
                · have e1 : shAddE s1 l[i] = 0 := by simp only [shAddE, p1, if_true, p2, if_neg hr1]
                  simp only [e1, sStep, if_true] at hA hs1
                  subst hs1
                  have e2 : shAddE s2 l[ix l.length by' i] = 0 := by simp only [shAddE, q1, if_true, q2, if_neg hr2]
                  simp only [e2, sStep, if_true] at hB hs2
                  subst hs2
                  repeat' (first | rintro _ _ ⟨rfl, rfl⟩ | rintro _ _ ⟨_, rfl, rfl⟩ | rintro _ _ ⟨_, _, rfl, rfl⟩ | intro _ | refine go ?_ | (refine is_draw ?_; apply WC_mix (id := 12) true _ (pl := .p 1 <| .p 2 <| .p 3 <| .r 0 <| .r 4 <| .e true [(5, .p 6 <| .p 7 <| .p 8 <| .e false [(9, .e false [(10, .p 11 <| .done)])]), (9, .e true [(5, .p 6 <| .p 7 <| .p 8 <| .e false [(10, .p 11 <| .done)])])]); exact mixed; kernel_rfl; kernel_rfl; exact Ent.refl) | (refine is_draw ?_; apply WC_mix (id := 15) true _ (pl := .p 1 <| .p 2 <| .p 3 <| .p 4 <| .p 5 <| .p 6 <| .p 7 <| .p 8 <| .p 9 <| .p 10 <| .p 11 <| .p 12 <| .r 0 <| .r 13 <| .e true [(14, .p 15 <| .p 16 <| .p 17 <| .e false [(18, .e false [(19, .p 20 <| .done)])]), (18, .e true [(14, .p 15 <| .p 16 <| .p 17 <| .e false [(19, .p 20 <| .done)])])]); exact mixed; kernel_rfl; kernel_rfl; exact Ent.refl) | (refine is_draw ?_; refine WC_draw mixed (by kernel_rfl) ?_) | refine cal @hA ?_ | refine cal @hB ?_ | refine spl ?_ ?_ | fail)
                  all_goals (try simp only [ix_int hlt])
                  all_goals (repeat' (first | rintro _ _ ⟨rfl, rfl⟩ | rintro _ _ ⟨_, rfl, rfl⟩ | rintro _ _ ⟨_, _, rfl, rfl⟩ | intro _ | refine go ?_ | (refine is_draw ?_; apply WC_mix (id := 12) true _ (pl := .p 1 <| .p 2 <| .p 3 <| .r 0 <| .r 4 <| .e true [(5, .p 6 <| .p 7 <| .p 8 <| .e false [(9, .e false [(10, .p 11 <| .done)])]), (9, .e true [(5, .p 6 <| .p 7 <| .p 8 <| .e false [(10, .p 11 <| .done)])])]); exact mixed; kernel_rfl; kernel_rfl; exact Ent.refl) | (refine is_draw ?_; apply WC_mix (id := 15) true _ (pl := .p 1 <| .p 2 <| .p 3 <| .p 4 <| .p 5 <| .p 6 <| .p 7 <| .p 8 <| .p 9 <| .p 10 <| .p 11 <| .p 12 <| .r 0 <| .r 13 <| .e true [(14, .p 15 <| .p 16 <| .p 17 <| .e false [(18, .e false [(19, .p 20 <| .done)])]), (18, .e true [(14, .p 15 <| .p 16 <| .p 17 <| .e false [(19, .p 20 <| .done)])])]); exact mixed; kernel_rfl; kernel_rfl; exact Ent.refl) | (refine is_draw ?_; refine WC_draw mixed (by kernel_rfl) ?_) | refine cal @hA ?_ | refine cal @hB ?_ | refine spl ?_ ?_ | fail))
                  all_goals (
                    refine WE_loop (i + 1, ?_, ?_, ?_, ?_) ?_ ?_ ?_ ?_
                    rotate_right
                    (dsimp only; simp only [hg1, hg2]; (repeat (first | (with_reducible exact Ent.refl) | exact Ent.nil | (apply ent_pickE; (focus ((repeat (first | (with_reducible exact pk_here) | (apply pk_there))); done))) | apply Ent.drop)))
                    all_goals first | (dsimp only; omega) | ((repeat (first | exact Sub.nil | (refine Sub.cons (by first | rfl | (simp only [Nat.zero_add]; rfl)) ?_))); done))
            · have hil : i = l.length := by omega
              subst hil
              rw [List.take_length, sOf_same (turned_mem (b := by'))]
              obtain ⟨p1, p2, p3⟩ := hmk l
              have hall : ∀ m : List Int, (∀ c, c ∈ m ↔ c ∈ l) → sOf cores pointers m = sOf cores pointers l := fun m h => sOf_same h
              generalize hg : sOf cores pointers l = s at *
              have hps := (may_facts' p1).2.2
              have hSm := fun F a k b m (h1 : RdL F 1 (.slice a s.ps.length k) s.ps.length (flat ic s.ps)) (h2 : RdL F 1 (.slice b s.ps.length m) s.ps.length (flat ic s.ps)) => ref08_Same (F := F) (s := s) (t := s) h1 h2 (by omega)
              simp only [decide_true] at hSm
              have hstay : ∀ x ∈ l, sStep s x = s := fun x hx => by
                have := sOf_step e l x
                rw [hg, hall (l ++ [x]) (fun c => by simp; intro h; subst h; exact hx)] at this
                exact this
              repeat (first | rintro _ _ ⟨rfl, rfl⟩ | rintro _ _ ⟨_, rfl, rfl⟩ | rintro _ _ ⟨_, _, rfl, rfl⟩ | intro _ | refine go ?_ | (refine is_draw ?_; apply WC_mix (id := 12) true _ (pl := .p 1 <| .p 2 <| .p 3 <| .r 0 <| .r 4 <| .e true [(5, .p 6 <| .p 7 <| .p 8 <| .e false [(9, .e false [(10, .p 11 <| .done)])]), (9, .e true [(5, .p 6 <| .p 7 <| .p 8 <| .e false [(10, .p 11 <| .done)])])]); exact mixed; kernel_rfl; kernel_rfl; exact Ent.refl) | (refine is_draw ?_; apply WC_mix (id := 15) true _ (pl := .p 1 <| .p 2 <| .p 3 <| .p 4 <| .p 5 <| .p 6 <| .p 7 <| .p 8 <| .p 9 <| .p 10 <| .p 11 <| .p 12 <| .r 0 <| .r 13 <| .e true [(14, .p 15 <| .p 16 <| .p 17 <| .e false [(18, .e false [(19, .p 20 <| .done)])]), (18, .e true [(14, .p 15 <| .p 16 <| .p 17 <| .e false [(19, .p 20 <| .done)])])]); exact mixed; kernel_rfl; kernel_rfl; exact Ent.refl) | (refine is_draw ?_; refine WC_draw mixed (by kernel_rfl) ?_))
              rename_i bc
              apply WC_loopE (E0 := [(9, _), (11, _), (17, _), (86, _), (87, _)]) (fun E0 (q : Nat × (Option Addr × Nat) × List HP) => (88, .int .i64 q.1) :: E0)
                (fun q => Cells bc 41 (scl s q.2.1.1 q.2.1.2) :: Cells ba 41 (scl s aa ka) :: Cells bb 41 (scl s ab kb) :: Own 3 1 (.slice aa s.ps.length ka) s.ps.length (flat ic s.ps) :: Own 3 1 (.slice ab s.ps.length kb) s.ps.length (flat ic s.ps) :: Old W :: q.2.2)
                (fun q => q.1 ≤ l.length ∧ Ent q.2.2 F ∧ RdL (Own 3 1 (.slice aa s.ps.length ka) s.ps.length (flat ic s.ps) :: Own 3 1 (.slice ab s.ps.length kb) s.ps.length (flat ic s.ps) :: Old W :: q.2.2) 1 (.slice q.2.1.1 s.ps.length q.2.1.2) s.ps.length (flat ic s.ps)) (fun q => l.length - q.1) (0, (aa, ka), F)
              · (repeat (first | exact Sub.nil | (refine Sub.cons (by first | rfl | (simp only [Nat.zero_add]; rfl)) ?_)))
              · exact ⟨Nat.zero_le _, Ent.refl, inferInstance⟩
              · (repeat (first | (with_reducible exact Ent.refl) | exact Ent.nil | (apply ent_pickE; (focus ((repeat (first | (with_reducible exact pk_here) | (apply pk_there))); done))) | apply Ent.drop))
              · rintro ⟨j, ⟨ac, kc⟩, R⟩ ⟨hj, hER, hRc⟩
                dsimp only at hj hER hRc ⊢
                haveI := hRc
                by_cases hjl : j < l.length
                · have hx := hstay l[j] (List.getElem_mem hjl)
                  have hC := fun F a k (hk : RdL F 1 (.slice a s.ps.length k) s.ps.length (flat ic s.ps)) => shr_Add (F := F) (x := l[j]) hk (by omega)
                  by_cases hr : l[j] < 0 ∨ cores ≤ l[j]
                  · have e1 : shAddE s l[j] = 5 := by simp only [shAddE, p1, if_true, p2, if_pos hr]
                    simp only [e1] at hC
                    repeat (first | rintro _ _ ⟨rfl, rfl⟩ | rintro _ _ ⟨_, rfl, rfl⟩ | rintro _ _ ⟨_, _, rfl, rfl⟩ | intro _ | refine go ?_ | (refine is_draw ?_; apply WC_mix (id := 12) true _ (pl := .p 1 <| .p 2 <| .p 3 <| .r 0 <| .r 4 <| .e true [(5, .p 6 <| .p 7 <| .p 8 <| .e false [(9, .e false [(10, .p 11 <| .done)])]), (9, .e true [(5, .p 6 <| .p 7 <| .p 8 <| .e false [(10, .p 11 <| .done)])])]); exact mixed; kernel_rfl; kernel_rfl; exact Ent.refl) | (refine is_draw ?_; apply WC_mix (id := 15) true _ (pl := .p 1 <| .p 2 <| .p 3 <| .p 4 <| .p 5 <| .p 6 <| .p 7 <| .p 8 <| .p 9 <| .p 10 <| .p 11 <| .p 12 <| .r 0 <| .r 13 <| .e true [(14, .p 15 <| .p 16 <| .p 17 <| .e false [(18, .e false [(19, .p 20 <| .done)])]), (18, .e true [(14, .p 15 <| .p 16 <| .p 17 <| .e false [(19, .p 20 <| .done)])])]); exact mixed; kernel_rfl; kernel_rfl; exact Ent.refl) | (refine is_draw ?_; refine WC_draw mixed (by kernel_rfl) ?_) | refine cal @hC ?_)
                    refine WE_loop (j + 1, (ac, kc), R) (by dsimp only; omega) ⟨by dsimp only; omega, hER, hRc⟩ ?_ ?_
                    · (repeat (first | exact Sub.nil | (refine Sub.cons (by first | rfl | (simp only [Nat.zero_add]; rfl)) ?_)))
                    · (repeat (first | (with_reducible exact Ent.refl) | exact Ent.nil | (apply ent_pickE; (focus ((repeat (first | (with_reducible exact pk_here) | (apply pk_there))); done))) | apply Ent.drop))
                  · have e1 : shAddE s l[j] = 0 := by simp only [shAddE, p1, if_true, p2, if_neg hr]
                    have e2 : shAddS s l[j] = s := by rw [sStep, if_pos e1] at hx; exact hx
                    simp only [e1, e2] at hC
                    repeat (first | rintro _ _ ⟨rfl, rfl⟩ | rintro _ _ ⟨_, rfl, rfl⟩ | rintro _ _ ⟨_, _, rfl, rfl⟩ | intro _ | refine go ?_ | (refine is_draw ?_; apply WC_mix (id := 12) true _ (pl := .p 1 <| .p 2 <| .p 3 <| .r 0 <| .r 4 <| .e true [(5, .p 6 <| .p 7 <| .p 8 <| .e false [(9, .e false [(10, .p 11 <| .done)])]), (9, .e true [(5, .p 6 <| .p 7 <| .p 8 <| .e false [(10, .p 11 <| .done)])])]); exact mixed; kernel_rfl; kernel_rfl; exact Ent.refl) | (refine is_draw ?_; apply WC_mix (id := 15) true _ (pl := .p 1 <| .p 2 <| .p 3 <| .p 4 <| .p 5 <| .p 6 <| .p 7 <| .p 8 <| .p 9 <| .p 10 <| .p 11 <| .p 12 <| .r 0 <| .r 13 <| .e true [(14, .p 15 <| .p 16 <| .p 17 <| .e false [(18, .e false [(19, .p 20 <| .done)])]), (18, .e true [(14, .p 15 <| .p 16 <| .p 17 <| .e false [(19, .p 20 <| .done)])])]); exact mixed; kernel_rfl; kernel_rfl; exact Ent.refl) | (refine is_draw ?_; refine WC_draw mixed (by kernel_rfl) ?_) | refine cal @hC ?_)
                    rename_i a4 k4 b4
                    refine WE_loop (j + 1, (a4, k4), Own 3 1 (.slice a4 s.ps.length k4) s.ps.length (flat ic s.ps) :: R) (by dsimp only; omega) ⟨by dsimp only; omega, Ent.drop hER, ?_⟩ ?_ ?_
                    · dsimp only
                      exact inferInstance
                    · (repeat (first | exact Sub.nil | (refine Sub.cons (by first | rfl | (simp only [Nat.zero_add]; rfl)) ?_)))
                    · (repeat (first | (with_reducible exact Ent.refl) | exact Ent.nil | (apply ent_pickE; (focus ((repeat (first | (with_reducible exact pk_here) | (apply pk_there))); done))) | apply Ent.drop))
                · repeat (first | rintro _ _ ⟨rfl, rfl⟩ | rintro _ _ ⟨_, rfl, rfl⟩ | rintro _ _ ⟨_, _, rfl, rfl⟩ | intro _ | refine go ?_ | (refine is_draw ?_; apply WC_mix (id := 12) true _ (pl := .p 1 <| .p 2 <| .p 3 <| .r 0 <| .r 4 <| .e true [(5, .p 6 <| .p 7 <| .p 8 <| .e false [(9, .e false [(10, .p 11 <| .done)])]), (9, .e true [(5, .p 6 <| .p 7 <| .p 8 <| .e false [(10, .p 11 <| .done)])])]); exact mixed; kernel_rfl; kernel_rfl; exact Ent.refl) | (refine is_draw ?_; apply WC_mix (id := 15) true _ (pl := .p 1 <| .p 2 <| .p 3 <| .p 4 <| .p 5 <| .p 6 <| .p 7 <| .p 8 <| .p 9 <| .p 10 <| .p 11 <| .p 12 <| .r 0 <| .r 13 <| .e true [(14, .p 15 <| .p 16 <| .p 17 <| .e false [(18, .e false [(19, .p 20 <| .done)])]), (18, .e true [(14, .p 15 <| .p 16 <| .p 17 <| .e false [(19, .p 20 <| .done)])])]); exact mixed; kernel_rfl; kernel_rfl; exact Ent.refl) | (refine is_draw ?_; refine WC_draw mixed (by kernel_rfl) ?_) | refine cal @hSm ?_)
                  (apply WE_ret rfl rfl (by (repeat (first | exact ResOk.nil | (apply ResOk.tmp; rfl) | (apply resOk_cell; rfl; exact inferInstance; rfl; rfl)))))
                  · exact ⟨rfl, rfl⟩
                  · exact Ent.trans (M := Old W :: R) (by (repeat (first | (with_reducible exact Ent.refl) | exact Ent.nil | (apply ent_pickE; (focus ((repeat (first | (with_reducible exact pk_here) | (apply pk_there))); done))) | apply Ent.drop))) (Ent.cons hER)
end Go.Sx
