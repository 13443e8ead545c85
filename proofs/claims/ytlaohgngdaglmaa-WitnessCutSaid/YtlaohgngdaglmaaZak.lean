/- ShrR, ShrLaw, ShrTells: several of my texts as one. My own work. -/
import Derived.Test.YtlaohgngdaglmaaZaj
/- What the document's sharer does. My own work. -/
namespace Go.Sx
open Go Go.Proofs
set_option linter.unusedVariables false
set_option linter.unusedSectionVars false
set_option linter.unusedSimpArgs false
def shHasR (s : SSet) (c : Int) : Bool := decide (0 ≤ c) && decide (c < s.cores) && (s.all || decide (c ∈ s.ps))
theorem has_same {s : SSet} {c : Int} (h : shMay s = true) : shHasR s c = shHas s c := by
  obtain ⟨m1, m2, m3, m4, m5, m6, m7, m8⟩ := may_facts' h
  unfold shHasR shHas
  cases ha : s.all with
  | true => simp
  | false =>
    by_cases hc : c ∈ s.ps
    · have := m8 c hc; simp [hc, this]
    · simp [hc]
theorem sorted_same : ∀ {l m : List Int}, l.Pairwise (· < ·) → m.Pairwise (· < ·) → (∀ c, c ∈ l ↔ c ∈ m) → l = m
  | [], [], _, _, _ => rfl
  | [], b :: m, _, _, h => absurd ((h b).2 (by simp)) (by simp)
  | a :: l, [], _, _, h => absurd ((h a).1 (by simp)) (by simp)
  | a :: l, b :: m, hl, hm, h => by
    rw [List.pairwise_cons] at hl hm
    have hab : a = b := by
      have h1 := (h a).1 (by simp)
      have h2 := (h b).2 (by simp)
      rcases List.mem_cons.1 h1 with e | e
      · exact e
      · rcases List.mem_cons.1 h2 with e2 | e2
        · exact e2.symm
        · have := hl.1 b e2; have := hm.1 a e; omega
    subst hab
    rw [sorted_same hl.2 hm.2 fun c => ⟨fun hc => ?_, fun hc => ?_⟩]
    · rcases List.mem_cons.1 ((h c).1 (List.mem_cons_of_mem _ hc)) with e | e
      · have := hl.1 c hc; omega
      · exact e
    · rcases List.mem_cons.1 ((h c).2 (List.mem_cons_of_mem _ hc)) with e | e
      · have := hm.1 c hc; omega
      · exact e
theorem insL_mem (c x : Int) (l : List Int) : x ∈ insL c l ↔ x = c ∨ x ∈ l := by
  unfold insL
  rw [List.mem_append, List.mem_cons]
  have h : x ∈ l ↔ x ∈ l.take (lowL l c) ∨ x ∈ l.drop (lowL l c) := by rw [← List.mem_append, List.take_append_drop]
  rw [h]
  constructor
  · rintro (h | h | h)
    · exact .inr (.inl h)
    · exact .inl h
    · exact .inr (.inr h)
  · rintro (h | h | h)
    · exact .inr (.inl h)
    · exact .inl h
    · exact .inr (.inr h)
theorem take_low (l : List Int) (c : Int) : l.take (lowL l c) = l.takeWhile fun x => decide (x < c) := by
  unfold lowL
  induction l with
  | nil => rfl
  | cons a r ih => by_cases h : a < c <;> simp [h, ih]
theorem drop_low (l : List Int) (c : Int) : l.drop (lowL l c) = l.dropWhile fun x => decide (x < c) := by
  unfold lowL
  induction l with
  | nil => rfl
  | cons a r ih => by_cases h : a < c <;> simp [h, ih]
theorem insL_sorted {c : Int} {l : List Int} (h : l.Pairwise (· < ·)) (hc : ¬ c ∈ l) : (insL c l).Pairwise (· < ·) := by
  have hp : ∀ x ∈ l.takeWhile (fun x => decide (x < c)), x < c := by
    have : ∀ (r : List Int), ∀ x ∈ r.takeWhile (fun x => decide (x < c)), x < c := by
      intro r
      induction r with
      | nil => intro x hx; simp at hx
      | cons a r ih =>
        intro x hx
        by_cases ha : a < c
        · simp [ha] at hx
          rcases hx with rfl | hx
          · exact ha
          · exact ih x hx
        · simp [ha] at hx
    exact this l
  have hq : ∀ x ∈ l.dropWhile (fun x => decide (x < c)), c < x := by
    have : ∀ (r : List Int), r.Pairwise (· < ·) → (¬ c ∈ r) → ∀ x ∈ r.dropWhile (fun x => decide (x < c)), c < x := by
      intro r
      induction r with
      | nil => intro _ _ x hx; simp at hx
      | cons a r ih =>
        intro hr hn x hx
        rw [List.pairwise_cons] at hr
        by_cases ha : a < c
        · simp [ha] at hx
          exact ih hr.2 (fun h => hn (List.mem_cons_of_mem _ h)) x hx
        · simp [ha] at hx
          have : c ≠ a := fun e => hn (by simp [e])
          rcases hx with rfl | hx
          · omega
          · have := hr.1 x hx; omega
    exact this l h hc
  unfold insL
  rw [take_low, drop_low, List.pairwise_append, List.pairwise_cons]
  refine ⟨h.sublist (List.takeWhile_sublist _), ⟨hq, h.sublist (List.dropWhile_sublist _)⟩, fun x hx y hy => ?_⟩
  rcases List.mem_cons.1 hy with rfl | hy
  · exact hp x hx
  · have := hp x hx; have := hq y hy; omega
theorem upto_sorted (n : Nat) : (upto n).Pairwise (· < ·) := by
  unfold upto
  rw [List.pairwise_map]
  exact List.pairwise_lt_range.imp fun h => by omega
theorem upto_mem {n : Nat} {c : Int} : c ∈ upto n ↔ 0 ≤ c ∧ c < n := by
  unfold upto
  simp only [List.mem_map, List.mem_range]
  constructor
  · rintro ⟨i, hi, rfl⟩; omega
  · rintro ⟨h1, h2⟩; exact ⟨c.toNat, by omega, by omega⟩
def shOut (s : SSet) (x : Int) (n : Nat) : List Int := (upto n).filter fun c => decide (c = x) || shHas s c
theorem out_ins {s : SSet} {x : Int} (h : shMay s = true) (h0 : 0 ≤ x) (h1 : x < s.cores) (hn : shHas s x = false) (ha : s.all = false) : shOut s x s.cores.toNat = insL x s.ps := by
  obtain ⟨m1, m2, m3, m4, m5, m6, m7, m8⟩ := may_facts' h
  have hx : ¬ x ∈ s.ps := by simpa [shHas, ha] using hn
  refine sorted_same ((upto_sorted _).sublist List.filter_sublist) (insL_sorted m7 hx) fun c => ?_
  rw [insL_mem, shOut, List.mem_filter, upto_mem]
  simp only [shHas, ha, Bool.false_eq_true, if_false, Bool.or_eq_true, decide_eq_true_eq]
  constructor
  · rintro ⟨_, h⟩; exact h
  · rintro (h | h)
    · subst h; exact ⟨by omega, .inl rfl⟩
    · have := m8 c h; exact ⟨by omega, .inr h⟩
theorem not_has_all {s : SSet} {x : Int} (h0 : 0 ≤ x) (h1 : x < s.cores) (hn : shHas s x = false) : s.all = false := by
  cases ha : s.all with
  | false => rfl
  | true => simp [shHas, ha] at hn; omega
set_option maxRecDepth 100000
set_option maxHeartbeats 4000000
attribute [local irreducible] Go.Exit.then Go.Exit.inBlock Go.Code.wp WC WO WE WQ V LoopQ FnQ Sat Star band bor IntKind.wrap WR Code.rounds WT KO
theorem ref08_Same {F : List HP} {s t : SSet} {a b : Option Addr} {k m : Nat} (h1 : RdL F 1 (.slice a s.ps.length k) s.ps.length (flat ic s.ps)) (h2 : RdL F 1 (.slice b t.ps.length m) t.ps.length (flat ic t.ps)) (hn : s.ps.length ≤ 1000) :
    FnF Try.prog 47 [scw s a k, scw t b m] [] F (fun r L' => r = .bool (decide (s = t)) ∧ L' = []) := by
  refine FnF.mk' Try.func47 rfl rfl Try.ntmps47 rfl ?_
  by_cases a1 : s.cores = t.cores
  · by_cases a2 : s.most = t.most
    · by_cases a3 : s.all = t.all
      · have a3' : ¬ (s.all ≠ t.all) := fun h => h a3
        by_cases a4 : s.ps.length = t.ps.length
        · repeat (first | rintro _ _ ⟨rfl, rfl⟩ | refine exq fun _ => ?_ | intro _ | refine go ?_ | refine drq ?_)
          rename_i bs bt
          apply WC_loopE (E0 := [(2, _), (3, _)]) (fun E0 (i : Nat) => (5, .int .i64 i) :: E0) (fun _ => Cells bt 77 (scl t b m) :: Cells bs 77 (scl s a k) :: F) (fun i => i ≤ s.ps.length ∧ s.ps.take i = t.ps.take i) (fun i => s.ps.length - i) 0
          · (repeat (first | exact Sub.nil | (refine Sub.cons (by first | rfl | (simp only [Nat.zero_add]; rfl)) ?_)))
          · exact ⟨by omega, rfl⟩
          · exact entu0
          · rintro i ⟨hi, h1⟩
            by_cases hlt : i < s.ps.length
            · have hlt' : i < t.ps.length := by omega
              by_cases he : s.ps[i] = t.ps[i]
              · repeat (first | rintro _ _ ⟨rfl, rfl⟩ | refine exq fun _ => ?_ | intro _ | refine go ?_ | refine drq ?_)
                refine WE_loop (i + 1) (by omega) ⟨by omega, ?_⟩ ?_ ?_
                · rw [List.take_add_one, List.take_add_one, h1]; simp [hlt, hlt', he]
                · (repeat (first | exact Sub.nil | (refine Sub.cons (by first | rfl | (simp only [Nat.zero_add]; rfl)) ?_)))
                · exact entu0
              · have hne : ¬ s = t := fun e => by subst e; exact he rfl
                repeat (first | rintro _ _ ⟨rfl, rfl⟩ | refine exq fun _ => ?_ | intro _ | refine go ?_ | refine drq ?_)
                (apply WE_ret rfl rfl (by (repeat (first | exact ResOk.nil | (apply ResOk.tmp; rfl) | (apply resOk_cell; rfl; exact inferInstance; rfl; rfl)))); (first | exact ⟨rfl, rfl⟩ | exact ⟨congrArg Value.bool (by decide), rfl⟩ | exact ⟨_, rfl, rfl⟩ | exact ⟨_, _, rfl, rfl⟩ | exact ⟨by first | (simp [hne]; done) | (simp [hne] <;> omega), rfl⟩); (repeat (first | exact Ent.refl | exact Ent.nil | apply Ent.pick | apply Ent.drop)))
            · have hil : i = s.ps.length := by omega
              subst hil
              have : s = t := SSet.ext_iff'.1 ⟨a1, a2, a3, by rw [List.take_length, a4, List.take_length] at h1; exact h1⟩
              repeat (first | rintro _ _ ⟨rfl, rfl⟩ | refine exq fun _ => ?_ | intro _ | refine go ?_ | refine drq ?_)
              (apply WE_ret rfl rfl (by (repeat (first | exact ResOk.nil | (apply ResOk.tmp; rfl) | (apply resOk_cell; rfl; exact inferInstance; rfl; rfl)))); (first | exact ⟨rfl, rfl⟩ | exact ⟨congrArg Value.bool (by decide), rfl⟩ | exact ⟨_, rfl, rfl⟩ | exact ⟨_, _, rfl, rfl⟩ | exact ⟨by first | (simp [this]; done) | (simp [this] <;> omega), rfl⟩); (repeat (first | exact Ent.refl | exact Ent.nil | apply Ent.pick | apply Ent.drop)))
        · have hne : ¬ s = t := fun h => a4 (by rw [h])
          repeat (first | rintro _ _ ⟨rfl, rfl⟩ | refine exq fun _ => ?_ | intro _ | refine go ?_ | refine drq ?_)
          (apply WE_ret rfl rfl (by (repeat (first | exact ResOk.nil | (apply ResOk.tmp; rfl) | (apply resOk_cell; rfl; exact inferInstance; rfl; rfl)))); (first | exact ⟨rfl, rfl⟩ | exact ⟨congrArg Value.bool (by decide), rfl⟩ | exact ⟨_, rfl, rfl⟩ | exact ⟨_, _, rfl, rfl⟩ | exact ⟨by first | (simp [hne]; done) | (simp [hne] <;> omega), rfl⟩); (repeat (first | exact Ent.refl | exact Ent.nil | apply Ent.pick | apply Ent.drop)))
      · have a3' : s.all ≠ t.all := a3
        have hne : ¬ s = t := fun h => a3 (by rw [h])
        repeat (first | rintro _ _ ⟨rfl, rfl⟩ | refine exq fun _ => ?_ | intro _ | refine go ?_ | refine drq ?_)
        (apply WE_ret rfl rfl (by (repeat (first | exact ResOk.nil | (apply ResOk.tmp; rfl) | (apply resOk_cell; rfl; exact inferInstance; rfl; rfl)))); (first | exact ⟨rfl, rfl⟩ | exact ⟨congrArg Value.bool (by decide), rfl⟩ | exact ⟨_, rfl, rfl⟩ | exact ⟨_, _, rfl, rfl⟩ | exact ⟨by first | (simp [hne]; done) | (simp [hne] <;> omega), rfl⟩); (repeat (first | exact Ent.refl | exact Ent.nil | apply Ent.pick | apply Ent.drop)))
    · have hne : ¬ s = t := fun h => a2 (by rw [h])
      repeat (first | rintro _ _ ⟨rfl, rfl⟩ | refine exq fun _ => ?_ | intro _ | refine go ?_ | refine drq ?_)
      (apply WE_ret rfl rfl (by (repeat (first | exact ResOk.nil | (apply ResOk.tmp; rfl) | (apply resOk_cell; rfl; exact inferInstance; rfl; rfl)))); (first | exact ⟨rfl, rfl⟩ | exact ⟨congrArg Value.bool (by decide), rfl⟩ | exact ⟨_, rfl, rfl⟩ | exact ⟨_, _, rfl, rfl⟩ | exact ⟨by first | (simp [hne]; done) | (simp [hne] <;> omega), rfl⟩); (repeat (first | exact Ent.refl | exact Ent.nil | apply Ent.pick | apply Ent.drop)))
  · have hne : ¬ s = t := fun h => a1 (by rw [h])
    repeat (first | rintro _ _ ⟨rfl, rfl⟩ | refine exq fun _ => ?_ | intro _ | refine go ?_ | refine drq ?_)
    (apply WE_ret rfl rfl (by (repeat (first | exact ResOk.nil | (apply ResOk.tmp; rfl) | (apply resOk_cell; rfl; exact inferInstance; rfl; rfl)))); (first | exact ⟨rfl, rfl⟩ | exact ⟨congrArg Value.bool (by decide), rfl⟩ | exact ⟨_, rfl, rfl⟩ | exact ⟨_, _, rfl, rfl⟩ | exact ⟨by first | (simp [hne]; done) | (simp [hne] <;> omega), rfl⟩); (repeat (first | exact Ent.refl | exact Ent.nil | apply Ent.pick | apply Ent.drop)))

end Go.Sx

/- The laws of sharers. My own work. -/
namespace Go.Sx
open Go Go.Proofs
set_option linter.unusedVariables false
set_option linter.unusedSectionVars false
set_option linter.unusedSimpArgs false
instance : MapT Try.prog 187 blv false := ⟨_, _, _, _, _, Try.underlying187, Try.underlying3, TZ.pf⟩
set_option maxRecDepth 100000
set_option maxHeartbeats 4000000
attribute [local irreducible] Go.Exit.then Go.Exit.inBlock Go.Code.wp WC WO WE WQ V LoopQ FnQ Sat Star band bor IntKind.wrap WR Code.rounds WT KO
end Go.Sx

/- What sharers do: the law against the document. My own work. -/
namespace Go.Sx
open Go Go.Proofs
set_option linter.unusedVariables false
set_option linter.unusedSectionVars false
set_option linter.unusedSimpArgs false
theorem addS_len (s : SSet) (x : Int) : (shAddS s x).ps.length ≤ s.ps.length + 1 := by
  unfold shAddS
  split
  · split
    · omega
    · split
      · simp
      · simp only [insL_len]; omega
  · simp
theorem tgt_len (s : SSet) (but : List Int) (n : Nat) : (shTgt s but n).length ≤ n := by
  have := List.length_filter_le (fun c => shHas s c && !decide (c ∈ but)) (upto n)
  simp only [upto, List.length_map, List.length_range] at this
  exact this
set_option maxRecDepth 100000
set_option maxHeartbeats 4000000
attribute [local irreducible] Go.Exit.then Go.Exit.inBlock Go.Code.wp WC WO WE WQ V LoopQ FnQ Sat Star band bor IntKind.wrap WR Code.rounds WT KO
end Go.Sx
