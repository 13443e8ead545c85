/- ShrR, ShrLaw, ShrTells: several of my texts as one. My own work. -/
import Derived.Test.YtlaohgngdaglmaaGreatZad
/- What the document's sharer does. My own work. -/
namespace Go.Sx
open Go Go.Proofs
set_option linter.unusedVariables false
set_option linter.unusedSectionVars false
set_option linter.unusedSimpArgs false
def shHasR (s : SSet) (c : Int) : Bool := decide (0 ≤ c) && decide (c < s.cores) && (s.all || decide (c ∈ s.ps))
theorem has_same {s : SSet} {c : Int} (h : shMay s = true) : shHasR s c = shHas s c := by
  obtain ⟨m1, m2, m3, m4, m5, m6, m7, m8⟩ := may_facts' h
  unfold shHasR shHas
  cases ha : s.all with
  | true => simp
  | false =>
    by_cases hc : c ∈ s.ps
    · have := m8 c hc; simp [hc, this]
    · simp [hc]
theorem sorted_same : ∀ {l m : List Int}, l.Pairwise (· < ·) → m.Pairwise (· < ·) → (∀ c, c ∈ l ↔ c ∈ m) → l = m
  | [], [], _, _, _ => rfl
  | [], b :: m, _, _, h => absurd ((h b).2 (by simp)) (by simp)
  | a :: l, [], _, _, h => absurd ((h a).1 (by simp)) (by simp)
  | a :: l, b :: m, hl, hm, h => by
    rw [List.pairwise_cons] at hl hm
    have hab : a = b := by
      have h1 := (h a).1 (by simp)
      have h2 := (h b).2 (by simp)
      rcases List.mem_cons.1 h1 with e | e
      · exact e
      · rcases List.mem_cons.1 h2 with e2 | e2
        · exact e2.symm
        · have := hl.1 b e2; have := hm.1 a e; omega
    subst hab
    rw [sorted_same hl.2 hm.2 fun c => ⟨fun hc => ?_, fun hc => ?_⟩]
    · rcases List.mem_cons.1 ((h c).1 (List.mem_cons_of_mem _ hc)) with e | e
      · have := hl.1 c hc; omega
      · exact e
    · rcases List.mem_cons.1 ((h c).2 (List.mem_cons_of_mem _ hc)) with e | e
      · have := hm.1 c hc; omega
      · exact e
theorem insL_mem (c x : Int) (l : List Int) : x ∈ insL c l ↔ x = c ∨ x ∈ l := by
  unfold insL
  rw [List.mem_append, List.mem_cons]
  have h : x ∈ l ↔ x ∈ l.take (lowL l c) ∨ x ∈ l.drop (lowL l c) := by rw [← List.mem_append, List.take_append_drop]
  rw [h]
  constructor
  · rintro (h | h | h)
    · exact .inr (.inl h)
    · exact .inl h
    · exact .inr (.inr h)
  · rintro (h | h | h)
    · exact .inr (.inl h)
    · exact .inl h
    · exact .inr (.inr h)
theorem take_low (l : List Int) (c : Int) : l.take (lowL l c) = l.takeWhile fun x => decide (x < c) := by
  unfold lowL
  induction l with
  | nil => rfl
  | cons a r ih => by_cases h : a < c <;> simp [h, ih]
theorem drop_low (l : List Int) (c : Int) : l.drop (lowL l c) = l.dropWhile fun x => decide (x < c) := by
  unfold lowL
  induction l with
  | nil => rfl
  | cons a r ih => by_cases h : a < c <;> simp [h, ih]
theorem insL_sorted {c : Int} {l : List Int} (h : l.Pairwise (· < ·)) (hc : ¬ c ∈ l) : (insL c l).Pairwise (· < ·) := by
  have hp : ∀ x ∈ l.takeWhile (fun x => decide (x < c)), x < c := by
    have : ∀ (r : List Int), ∀ x ∈ r.takeWhile (fun x => decide (x < c)), x < c := by
      intro r
      induction r with
      | nil => intro x hx; simp at hx
      | cons a r ih =>
        intro x hx
        by_cases ha : a < c
        · simp [ha] at hx
          rcases hx with rfl | hx
          · exact ha
          · exact ih x hx
        · simp [ha] at hx
    exact this l
  have hq : ∀ x ∈ l.dropWhile (fun x => decide (x < c)), c < x := by
    have : ∀ (r : List Int), r.Pairwise (· < ·) → (¬ c ∈ r) → ∀ x ∈ r.dropWhile (fun x => decide (x < c)), c < x := by
      intro r
      induction r with
      | nil => intro _ _ x hx; simp at hx
      | cons a r ih =>
        intro hr hn x hx
        rw [List.pairwise_cons] at hr
        by_cases ha : a < c
        · simp [ha] at hx
          exact ih hr.2 (fun h => hn (List.mem_cons_of_mem _ h)) x hx
        · simp [ha] at hx
          have : c ≠ a := fun e => hn (by simp [e])
          rcases hx with rfl | hx
          · omega
          · have := hr.1 x hx; omega
    exact this l h hc
  unfold insL
  rw [take_low, drop_low, List.pairwise_append, List.pairwise_cons]
  refine ⟨h.sublist (List.takeWhile_sublist _), ⟨hq, h.sublist (List.dropWhile_sublist _)⟩, fun x hx y hy => ?_⟩
  rcases List.mem_cons.1 hy with rfl | hy
  · exact hp x hx
  · have := hp x hx; have := hq y hy; omega
theorem upto_sorted (n : Nat) : (upto n).Pairwise (· < ·) := by
  unfold upto
  rw [List.pairwise_map]
  exact List.pairwise_lt_range.imp fun h => by omega
theorem upto_mem {n : Nat} {c : Int} : c ∈ upto n ↔ 0 ≤ c ∧ c < n := by
  unfold upto
  simp only [List.mem_map, List.mem_range]
  constructor
  · rintro ⟨i, hi, rfl⟩; omega
  · rintro ⟨h1, h2⟩; exact ⟨c.toNat, by omega, by omega⟩
def shOut (s : SSet) (x : Int) (n : Nat) : List Int := (upto n).filter fun c => decide (c = x) || shHas s c
theorem out_ins {s : SSet} {x : Int} (h : shMay s = true) (h0 : 0 ≤ x) (h1 : x < s.cores) (hn : shHas s x = false) (ha : s.all = false) : shOut s x s.cores.toNat = insL x s.ps := by
  obtain ⟨m1, m2, m3, m4, m5, m6, m7, m8⟩ := may_facts' h
  have hx : ¬ x ∈ s.ps := by simpa [shHas, ha] using hn
  refine sorted_same ((upto_sorted _).sublist List.filter_sublist) (insL_sorted m7 hx) fun c => ?_
  rw [insL_mem, shOut, List.mem_filter, upto_mem]
  simp only [shHas, ha, Bool.false_eq_true, if_false, Bool.or_eq_true, decide_eq_true_eq]
  constructor
  · rintro ⟨_, h⟩; exact h
  · rintro (h | h)
    · subst h; exact ⟨by omega, .inl rfl⟩
    · have := m8 c h; exact ⟨by omega, .inr h⟩
theorem not_has_all {s : SSet} {x : Int} (h0 : 0 ≤ x) (h1 : x < s.cores) (hn : shHas s x = false) : s.all = false := by
  cases ha : s.all with
  | false => rfl
  | true => simp [shHas, ha] at hn; omega
set_option maxRecDepth 100000
set_option maxHeartbeats 4000000
attribute [local irreducible] Go.Exit.then Go.Exit.inBlock Go.Code.wp WC WO WE WQ V LoopQ FnQ Sat Star band bor IntKind.wrap WR Code.rounds WT KO
theorem ref08_in {F : List HP} {v : Value} {l : List Int} {n : Int} (k : RdL F 1 v l.length (flat ic l)) (hn : l.length ≤ 1000) : FnF Tryz.prog 222 [v, .int .i64 n] [] F (fun r L' => r = .bool (decide (n ∈ l)) ∧ L' = []) := by
  refine FnF.mk' Tryz.func222 rfl rfl Tryz.ntmps222 rfl ?_
  repeat (first | rintro _ _ ⟨rfl, rfl⟩ | refine exq fun _ => ?_ | intro _ | refine go ?_ | refine drq ?_)
  apply WC_loopE (E0 := [(0, _), (1, _)]) (fun E0 (i : Nat) => (5, .int .i64 i) :: E0) (fun _ => F) (fun i => i ≤ l.length ∧ ∀ j (h : j < l.length), j < i → l[j] ≠ n) (fun i => l.length - i) 0
  · (repeat (first | exact Sub.nil | (refine Sub.cons (by first | rfl | (simp only [Nat.zero_add]; rfl)) ?_)))
  · exact ⟨Nat.zero_le _, fun j hj h => by omega⟩
  · exact Ent.refl
  · rintro i ⟨hi, h1⟩
    by_cases hlt : i < l.length
    · by_cases he : l[i] = n
      · have : n ∈ l := by rw [← he]; exact List.getElem_mem hlt
        repeat (first | rintro _ _ ⟨rfl, rfl⟩ | refine exq fun _ => ?_ | intro _ | refine go ?_ | refine drq ?_)
        (apply WE_ret rfl rfl (by (repeat (first | exact ResOk.nil | (apply ResOk.tmp; rfl) | (apply resOk_cell; rfl; exact inferInstance; rfl; rfl)))); (first | exact ⟨rfl, rfl⟩ | exact ⟨congrArg Value.bool (by decide), rfl⟩ | exact ⟨_, rfl, rfl⟩ | exact ⟨_, _, rfl, rfl⟩ | exact ⟨by first | (simp [this]; done) | (simp [this] <;> omega), rfl⟩); (repeat (first | exact Ent.refl | exact Ent.nil | apply Ent.pick | apply Ent.drop)))
      · repeat (first | rintro _ _ ⟨rfl, rfl⟩ | refine exq fun _ => ?_ | intro _ | refine go ?_ | refine drq ?_)
        refine WE_loop (i + 1) (by omega) ⟨by omega, fun j hj h => ?_⟩ ?_ Ent.refl
        · by_cases e : j = i
          · subst e; exact he
          · exact h1 j hj (by omega)
        · (repeat (first | exact Sub.nil | (refine Sub.cons (by first | rfl | (simp only [Nat.zero_add]; rfl)) ?_)))
    · have : ¬ n ∈ l := fun h => by
        obtain ⟨j, hj, hjn⟩ := List.getElem_of_mem h
        exact h1 j hj (by omega) hjn
      repeat (first | rintro _ _ ⟨rfl, rfl⟩ | refine exq fun _ => ?_ | intro _ | refine go ?_ | refine drq ?_)
      (apply WE_ret rfl rfl (by (repeat (first | exact ResOk.nil | (apply ResOk.tmp; rfl) | (apply resOk_cell; rfl; exact inferInstance; rfl; rfl)))); (first | exact ⟨rfl, rfl⟩ | exact ⟨congrArg Value.bool (by decide), rfl⟩ | exact ⟨_, rfl, rfl⟩ | exact ⟨_, _, rfl, rfl⟩ | exact ⟨by first | (simp [this]; done) | (simp [this] <;> omega), rfl⟩); (repeat (first | exact Ent.refl | exact Ent.nil | apply Ent.pick | apply Ent.drop)))

theorem ref08_Has {F : List HP} {s : SSet} {a : Option Addr} {k : Nat} {c : Int} (hk : RdL F 1 (.slice a s.ps.length k) s.ps.length (flat ic s.ps)) (hn : s.ps.length ≤ 1000) :
    FnF Tryz.prog 221 [scw s a k, .int .i64 c] [] F (fun r L' => r = .bool (shHasR s c) ∧ L' = []) := by
  refine FnF.mk' Tryz.func221 rfl rfl Tryz.ntmps221 rfl ?_
  by_cases h0 : 0 ≤ c
  · by_cases h1 : c < s.cores
    · repeat (first | rintro _ _ ⟨rfl, rfl⟩ | refine exq fun _ => ?_ | intro _ | refine go ?_ | refine drq ?_)
      rename_i bs
      apply WC_loopE (E0 := [(1, _), (2, _)]) (fun E0 (q : Nat × Bool) => (6, .int .i64 q.1) :: (5, .bool q.2) :: E0) (fun _ => Cells bs 134 (scl s a k) :: F) (fun q => q.1 ≤ s.ps.length ∧ q.2 = (s.all || (s.ps.take q.1).any fun x => decide (x = c))) (fun q => s.ps.length - q.1) (0, s.all)
      · (repeat (first | exact Sub.nil | (refine Sub.cons (by first | rfl | (simp only [Nat.zero_add]; rfl)) ?_)))
      · exact ⟨Nat.zero_le _, by simp⟩
      · exact entu0
      · rintro ⟨i, is⟩ ⟨hi, his⟩
        dsimp only at hi his ⊢
        by_cases hlt : i < s.ps.length
        · have hst : ((s.ps.take (i + 1)).any fun x => decide (x = c)) = ((s.ps.take i).any (fun x => decide (x = c)) || decide (s.ps[i] = c)) := by
            rw [List.take_add_one, List.any_append]; simp [hlt]
          cases is with
          | true =>
            repeat (first | rintro _ _ ⟨rfl, rfl⟩ | refine exq fun _ => ?_ | intro _ | refine go ?_ | refine drq ?_)
            refine WE_loop (i + 1, true) (by dsimp only; omega) ⟨by dsimp only; omega, by dsimp only; rw [hst, ← Bool.or_assoc, ← his]; rfl⟩ ?_ ?_
            · (repeat (first | exact Sub.nil | (refine Sub.cons (by first | rfl | (simp only [Nat.zero_add]; rfl)) ?_)))
            · exact entu0
          | false =>
            repeat (first | rintro _ _ ⟨rfl, rfl⟩ | refine exq fun _ => ?_ | intro _ | refine go ?_ | refine drq ?_)
            refine WE_loop (i + 1, decide (s.ps[i] = c)) (by dsimp only; omega) ⟨by dsimp only; omega, by dsimp only; rw [hst, ← Bool.or_assoc, ← his]; rfl⟩ ?_ ?_
            · (repeat (first | exact Sub.nil | (refine Sub.cons (by first | rfl | (simp only [Nat.zero_add]; rfl)) ?_)))
            · exact entu0
        · have hil : i = s.ps.length := by omega
          subst hil
          rw [List.take_length] at his
          have hm : (s.ps.any fun x => decide (x = c)) = decide (c ∈ s.ps) := by
            rw [Bool.eq_iff_iff]; simp
          rw [hm] at his
          repeat (first | rintro _ _ ⟨rfl, rfl⟩ | refine exq fun _ => ?_ | intro _ | refine go ?_ | refine drq ?_)
          (apply WE_ret rfl rfl (by (repeat (first | exact ResOk.nil | (apply ResOk.tmp; rfl) | (apply resOk_cell; rfl; exact inferInstance; rfl; rfl)))); (first | exact ⟨rfl, rfl⟩ | exact ⟨congrArg Value.bool (by decide), rfl⟩ | exact ⟨_, rfl, rfl⟩ | exact ⟨_, _, rfl, rfl⟩ | exact ⟨by first | (simp [shHasR, h0, h1, his]; done) | (simp [shHasR, h0, h1, his] <;> omega), rfl⟩); (repeat (first | exact Ent.refl | exact Ent.nil | apply Ent.pick | apply Ent.drop)))
    · repeat (first | rintro _ _ ⟨rfl, rfl⟩ | refine exq fun _ => ?_ | intro _ | refine go ?_ | refine drq ?_)
      (apply WE_ret rfl rfl (by (repeat (first | exact ResOk.nil | (apply ResOk.tmp; rfl) | (apply resOk_cell; rfl; exact inferInstance; rfl; rfl)))); (first | exact ⟨rfl, rfl⟩ | exact ⟨congrArg Value.bool (by decide), rfl⟩ | exact ⟨_, rfl, rfl⟩ | exact ⟨_, _, rfl, rfl⟩ | exact ⟨by first | (simp [shHasR, h1]; done) | (simp [shHasR, h1] <;> omega), rfl⟩); (repeat (first | exact Ent.refl | exact Ent.nil | apply Ent.pick | apply Ent.drop)))
  · repeat (first | rintro _ _ ⟨rfl, rfl⟩ | refine exq fun _ => ?_ | intro _ | refine go ?_ | refine drq ?_)
    (apply WE_ret rfl rfl (by (repeat (first | exact ResOk.nil | (apply ResOk.tmp; rfl) | (apply resOk_cell; rfl; exact inferInstance; rfl; rfl)))); (first | exact ⟨rfl, rfl⟩ | exact ⟨congrArg Value.bool (by decide), rfl⟩ | exact ⟨_, rfl, rfl⟩ | exact ⟨_, _, rfl, rfl⟩ | exact ⟨by first | (simp [shHasR, h0]; done) | (simp [shHasR, h0] <;> omega), rfl⟩); (repeat (first | exact Ent.refl | exact Ent.nil | apply Ent.pick | apply Ent.drop)))

theorem ref08_May {F : List HP} {s : SSet} {a : Option Addr} {k : Nat} (hk : RdL F 1 (.slice a s.ps.length k) s.ps.length (flat ic s.ps)) (hn : s.ps.length ≤ 1000) :
    FnF Tryz.prog 220 [scw s a k] [] F (fun r L' => r = .bool (shMay s) ∧ L' = []) := by
  refine FnF.mk' Tryz.func220 rfl rfl Tryz.ntmps220 rfl ?_
  by_cases a1 : 1 ≤ s.cores
  · by_cases a2 : s.cores ≤ 64
    · by_cases a3 : 0 ≤ s.most
      · by_cases a4 : s.most ≤ 8
        · by_cases a5 : (s.ps.length : Int) ≤ s.most
          · repeat (first | rintro _ _ ⟨rfl, rfl⟩ | refine exq fun _ => ?_ | intro _ | refine go ?_ | refine drq ?_)
            rename_i bs
            apply WC_loopE (E0 := [(1, _)]) (fun E0 (q : Nat × Int) => (3, .int .i64 q.1) :: E0) (fun _ => Cells bs 134 (scl s a k) :: F)
              (fun q => q.1 ≤ s.ps.length ∧ -1 ≤ q.2 ∧ (q.1 = 0 → q.2 = -1) ∧ (∀ h : q.1 - 1 < s.ps.length, 0 < q.1 → s.ps[q.1 - 1] = q.2 ∧ 0 ≤ q.2) ∧ (0 < q.1 → s.all = false) ∧ risingB s.cores (-1) s.ps = risingB s.cores q.2 (s.ps.drop q.1)) (fun q => s.ps.length - q.1) (0, -1)
            · (repeat (first | exact Sub.nil | (refine Sub.cons (by first | rfl | (simp only [Nat.zero_add]; rfl)) ?_)))
            · exact ⟨Nat.zero_le _, by simp, fun _ => rfl, fun _ h => by simp at h, fun h => by simp at h, rfl⟩
            · exact entu0
            · rintro ⟨j, last⟩ ⟨hj, hl, h0, hp, hal, hr⟩
              dsimp only at hj hl h0 hp hal hr ⊢
              by_cases hlt : j < s.ps.length
              · cases ha : s.all with
                | true =>
                  have hb : shMay s = false := by
                    have : 0 < s.ps.length := by omega
                    simp [shMay, ha, this]
                  repeat (first | rintro _ _ ⟨rfl, rfl⟩ | refine exq fun _ => ?_ | intro _ | refine go ?_ | refine drq ?_)
                  (apply WE_ret rfl rfl (by (repeat (first | exact ResOk.nil | (apply ResOk.tmp; rfl) | (apply resOk_cell; rfl; exact inferInstance; rfl; rfl)))); (first | exact ⟨rfl, rfl⟩ | exact ⟨congrArg Value.bool (by decide), rfl⟩ | exact ⟨_, rfl, rfl⟩ | exact ⟨_, _, rfl, rfl⟩ | exact ⟨by first | (simp [hb]; done) | (simp [hb] <;> omega), rfl⟩); (repeat (first | exact Ent.refl | exact Ent.nil | apply Ent.pick | apply Ent.drop)))
                | false =>
                  have hb : shMay s = risingB s.cores last (s.ps.drop j) := by
                    rw [← hr]; simp [shMay, ha, a1, a2, a3, a4, a5]
                  have hd := List.drop_eq_getElem_cons hlt
                  rw [hd] at hb
                  by_cases c0 : 0 ≤ s.ps[j]
                  · by_cases c2 : s.ps[j] < s.cores
                    · rcases Nat.eq_zero_or_pos j with e | e
                      · have c1 : last < s.ps[j] := by have := h0 e; omega
                        subst e
                        repeat (first | rintro _ _ ⟨rfl, rfl⟩ | refine exq fun _ => ?_ | intro _ | refine go ?_ | refine drq ?_)
                        refine WE_loop (0 + 1, s.ps[0]) (by dsimp only; omega) ⟨by dsimp only; omega, by dsimp only; omega, fun h => by simp at h, fun h _ => ⟨rfl, c0⟩, fun _ => (by first | exact ha | rfl), by dsimp only; rw [hr, hd]; simp [risingB, c1, c2]⟩ ?_ ?_
                        · (repeat (first | exact Sub.nil | (refine Sub.cons (by first | rfl | (simp only [Nat.zero_add]; rfl)) ?_)))
                        · exact entu0
                      · obtain ⟨p1, p2⟩ := hp (by omega) e
                        have hjj : (↑j - 1 : Int).toNat = j - 1 := by omega
                        have hlt' : (↑j - 1 : Int).toNat < s.ps.length := by omega
                        have p3 : s.ps[(↑j - 1 : Int).toNat] = last := by simp only [hjj]; exact p1
                        by_cases c1 : last < s.ps[j]
                        · have c3 : ¬ s.ps[j] ≤ s.ps[(↑j - 1 : Int).toNat] := by omega
                          repeat (first | rintro _ _ ⟨rfl, rfl⟩ | refine exq fun _ => ?_ | intro _ | refine go ?_ | refine drq ?_)
                          refine WE_loop (j + 1, s.ps[j]) (by dsimp only; omega) ⟨by dsimp only; omega, by dsimp only; omega, fun h => by simp at h, fun h _ => ⟨rfl, c0⟩, fun _ => (by first | exact ha | rfl), by dsimp only; rw [hr, hd]; simp [risingB, c1, c2]⟩ ?_ ?_
                          · (repeat (first | exact Sub.nil | (refine Sub.cons (by first | rfl | (simp only [Nat.zero_add]; rfl)) ?_)))
                          · exact entu0
                        · have c3 : s.ps[j] ≤ s.ps[(↑j - 1 : Int).toNat] := by omega
                          repeat (first | rintro _ _ ⟨rfl, rfl⟩ | refine exq fun _ => ?_ | intro _ | refine go ?_ | refine drq ?_)
                          (apply WE_ret rfl rfl (by (repeat (first | exact ResOk.nil | (apply ResOk.tmp; rfl) | (apply resOk_cell; rfl; exact inferInstance; rfl; rfl)))); (first | exact ⟨rfl, rfl⟩ | exact ⟨congrArg Value.bool (by decide), rfl⟩ | exact ⟨_, rfl, rfl⟩ | exact ⟨_, _, rfl, rfl⟩ | exact ⟨by first | (simp [hb, risingB, c1]; done) | (simp [hb, risingB, c1] <;> omega), rfl⟩); (repeat (first | exact Ent.refl | exact Ent.nil | apply Ent.pick | apply Ent.drop)))
                    · repeat (first | rintro _ _ ⟨rfl, rfl⟩ | refine exq fun _ => ?_ | intro _ | refine go ?_ | refine drq ?_)
                      (apply WE_ret rfl rfl (by (repeat (first | exact ResOk.nil | (apply ResOk.tmp; rfl) | (apply resOk_cell; rfl; exact inferInstance; rfl; rfl)))); (first | exact ⟨rfl, rfl⟩ | exact ⟨congrArg Value.bool (by decide), rfl⟩ | exact ⟨_, rfl, rfl⟩ | exact ⟨_, _, rfl, rfl⟩ | exact ⟨by first | (simp [hb, risingB, c2]; done) | (simp [hb, risingB, c2] <;> omega), rfl⟩); (repeat (first | exact Ent.refl | exact Ent.nil | apply Ent.pick | apply Ent.drop)))
                  · have c1 : ¬ last < s.ps[j] := by omega
                    repeat (first | rintro _ _ ⟨rfl, rfl⟩ | refine exq fun _ => ?_ | intro _ | refine go ?_ | refine drq ?_)
                    (apply WE_ret rfl rfl (by (repeat (first | exact ResOk.nil | (apply ResOk.tmp; rfl) | (apply resOk_cell; rfl; exact inferInstance; rfl; rfl)))); (first | exact ⟨rfl, rfl⟩ | exact ⟨congrArg Value.bool (by decide), rfl⟩ | exact ⟨_, rfl, rfl⟩ | exact ⟨_, _, rfl, rfl⟩ | exact ⟨by first | (simp [hb, risingB, c1]; done) | (simp [hb, risingB, c1] <;> omega), rfl⟩); (repeat (first | exact Ent.refl | exact Ent.nil | apply Ent.pick | apply Ent.drop)))
              · have hjl : j = s.ps.length := by omega
                subst hjl
                rw [List.drop_length] at hr
                have hb : shMay s = true := by
                  have : (!(s.all && decide (0 < s.ps.length))) = true := by
                    rcases Nat.eq_zero_or_pos s.ps.length with e | e
                    · simp [e]
                    · simp [hal e]
                  simp only [shMay, a1, a2, a3, a4, a5, decide_true, Bool.true_and, this, hr, risingB]
                repeat (first | rintro _ _ ⟨rfl, rfl⟩ | refine exq fun _ => ?_ | intro _ | refine go ?_ | refine drq ?_)
                (apply WE_ret rfl rfl (by (repeat (first | exact ResOk.nil | (apply ResOk.tmp; rfl) | (apply resOk_cell; rfl; exact inferInstance; rfl; rfl)))); (first | exact ⟨rfl, rfl⟩ | exact ⟨congrArg Value.bool (by decide), rfl⟩ | exact ⟨_, rfl, rfl⟩ | exact ⟨_, _, rfl, rfl⟩ | exact ⟨by first | (simp [hb]; done) | (simp [hb] <;> omega), rfl⟩); (repeat (first | exact Ent.refl | exact Ent.nil | apply Ent.pick | apply Ent.drop)))
          · repeat (first | rintro _ _ ⟨rfl, rfl⟩ | refine exq fun _ => ?_ | intro _ | refine go ?_ | refine drq ?_)
            (apply WE_ret rfl rfl (by (repeat (first | exact ResOk.nil | (apply ResOk.tmp; rfl) | (apply resOk_cell; rfl; exact inferInstance; rfl; rfl)))); (first | exact ⟨rfl, rfl⟩ | exact ⟨congrArg Value.bool (by decide), rfl⟩ | exact ⟨_, rfl, rfl⟩ | exact ⟨_, _, rfl, rfl⟩ | exact ⟨by first | (simp [shMay, a5]; done) | (simp [shMay, a5] <;> omega), rfl⟩); (repeat (first | exact Ent.refl | exact Ent.nil | apply Ent.pick | apply Ent.drop)))
        · repeat (first | rintro _ _ ⟨rfl, rfl⟩ | refine exq fun _ => ?_ | intro _ | refine go ?_ | refine drq ?_)
          (apply WE_ret rfl rfl (by (repeat (first | exact ResOk.nil | (apply ResOk.tmp; rfl) | (apply resOk_cell; rfl; exact inferInstance; rfl; rfl)))); (first | exact ⟨rfl, rfl⟩ | exact ⟨congrArg Value.bool (by decide), rfl⟩ | exact ⟨_, rfl, rfl⟩ | exact ⟨_, _, rfl, rfl⟩ | exact ⟨by first | (simp [shMay, a4]; done) | (simp [shMay, a4] <;> omega), rfl⟩); (repeat (first | exact Ent.refl | exact Ent.nil | apply Ent.pick | apply Ent.drop)))
      · repeat (first | rintro _ _ ⟨rfl, rfl⟩ | refine exq fun _ => ?_ | intro _ | refine go ?_ | refine drq ?_)
        (apply WE_ret rfl rfl (by (repeat (first | exact ResOk.nil | (apply ResOk.tmp; rfl) | (apply resOk_cell; rfl; exact inferInstance; rfl; rfl)))); (first | exact ⟨rfl, rfl⟩ | exact ⟨congrArg Value.bool (by decide), rfl⟩ | exact ⟨_, rfl, rfl⟩ | exact ⟨_, _, rfl, rfl⟩ | exact ⟨by first | (simp [shMay, a3]; done) | (simp [shMay, a3] <;> omega), rfl⟩); (repeat (first | exact Ent.refl | exact Ent.nil | apply Ent.pick | apply Ent.drop)))
    · repeat (first | rintro _ _ ⟨rfl, rfl⟩ | refine exq fun _ => ?_ | intro _ | refine go ?_ | refine drq ?_)
      (apply WE_ret rfl rfl (by (repeat (first | exact ResOk.nil | (apply ResOk.tmp; rfl) | (apply resOk_cell; rfl; exact inferInstance; rfl; rfl)))); (first | exact ⟨rfl, rfl⟩ | exact ⟨congrArg Value.bool (by decide), rfl⟩ | exact ⟨_, rfl, rfl⟩ | exact ⟨_, _, rfl, rfl⟩ | exact ⟨by first | (simp [shMay, a2]; done) | (simp [shMay, a2] <;> omega), rfl⟩); (repeat (first | exact Ent.refl | exact Ent.nil | apply Ent.pick | apply Ent.drop)))
  · repeat (first | rintro _ _ ⟨rfl, rfl⟩ | refine exq fun _ => ?_ | intro _ | refine go ?_ | refine drq ?_)
    (apply WE_ret rfl rfl (by (repeat (first | exact ResOk.nil | (apply ResOk.tmp; rfl) | (apply resOk_cell; rfl; exact inferInstance; rfl; rfl)))); (first | exact ⟨rfl, rfl⟩ | exact ⟨congrArg Value.bool (by decide), rfl⟩ | exact ⟨_, rfl, rfl⟩ | exact ⟨_, _, rfl, rfl⟩ | exact ⟨by first | (simp [shMay, a1]; done) | (simp [shMay, a1] <;> omega), rfl⟩); (repeat (first | exact Ent.refl | exact Ent.nil | apply Ent.pick | apply Ent.drop)))

theorem ref08_Same {F : List HP} {s t : SSet} {a b : Option Addr} {k m : Nat} (h1 : RdL F 1 (.slice a s.ps.length k) s.ps.length (flat ic s.ps)) (h2 : RdL F 1 (.slice b t.ps.length m) t.ps.length (flat ic t.ps)) (hn : s.ps.length ≤ 1000) :
    FnF Tryz.prog 116 [scw s a k, scw t b m] [] F (fun r L' => r = .bool (decide (s = t)) ∧ L' = []) := by
  refine FnF.mk' Tryz.func116 rfl rfl Tryz.ntmps116 rfl ?_
  by_cases a1 : s.cores = t.cores
  · by_cases a2 : s.most = t.most
    · by_cases a3 : s.all = t.all
      · have a3' : ¬ (s.all ≠ t.all) := fun h => h a3
        by_cases a4 : s.ps.length = t.ps.length
        · repeat (first | rintro _ _ ⟨rfl, rfl⟩ | refine exq fun _ => ?_ | intro _ | refine go ?_ | refine drq ?_)
          rename_i bs bt
          apply WC_loopE (E0 := [(2, _), (3, _)]) (fun E0 (i : Nat) => (5, .int .i64 i) :: E0) (fun _ => Cells bt 134 (scl t b m) :: Cells bs 134 (scl s a k) :: F) (fun i => i ≤ s.ps.length ∧ s.ps.take i = t.ps.take i) (fun i => s.ps.length - i) 0
          · (repeat (first | exact Sub.nil | (refine Sub.cons (by first | rfl | (simp only [Nat.zero_add]; rfl)) ?_)))
          · exact ⟨by omega, rfl⟩
          · exact entu0
          · rintro i ⟨hi, h1⟩
            by_cases hlt : i < s.ps.length
            · have hlt' : i < t.ps.length := by omega
              by_cases he : s.ps[i] = t.ps[i]
              · repeat (first | rintro _ _ ⟨rfl, rfl⟩ | refine exq fun _ => ?_ | intro _ | refine go ?_ | refine drq ?_)
                refine WE_loop (i + 1) (by omega) ⟨by omega, ?_⟩ ?_ ?_
                · rw [List.take_add_one, List.take_add_one, h1]; simp [hlt, hlt', he]
                · (repeat (first | exact Sub.nil | (refine Sub.cons (by first | rfl | (simp only [Nat.zero_add]; rfl)) ?_)))
                · exact entu0
              · have hne : ¬ s = t := fun e => by subst e; exact he rfl
                repeat (first | rintro _ _ ⟨rfl, rfl⟩ | refine exq fun _ => ?_ | intro _ | refine go ?_ | refine drq ?_)
                (apply WE_ret rfl rfl (by (repeat (first | exact ResOk.nil | (apply ResOk.tmp; rfl) | (apply resOk_cell; rfl; exact inferInstance; rfl; rfl)))); (first | exact ⟨rfl, rfl⟩ | exact ⟨congrArg Value.bool (by decide), rfl⟩ | exact ⟨_, rfl, rfl⟩ | exact ⟨_, _, rfl, rfl⟩ | exact ⟨by first | (simp [hne]; done) | (simp [hne] <;> omega), rfl⟩); (repeat (first | exact Ent.refl | exact Ent.nil | apply Ent.pick | apply Ent.drop)))
            · have hil : i = s.ps.length := by omega
              subst hil
              have : s = t := SSet.ext_iff'.1 ⟨a1, a2, a3, by rw [List.take_length, a4, List.take_length] at h1; exact h1⟩
              repeat (first | rintro _ _ ⟨rfl, rfl⟩ | refine exq fun _ => ?_ | intro _ | refine go ?_ | refine drq ?_)
              (apply WE_ret rfl rfl (by (repeat (first | exact ResOk.nil | (apply ResOk.tmp; rfl) | (apply resOk_cell; rfl; exact inferInstance; rfl; rfl)))); (first | exact ⟨rfl, rfl⟩ | exact ⟨congrArg Value.bool (by decide), rfl⟩ | exact ⟨_, rfl, rfl⟩ | exact ⟨_, _, rfl, rfl⟩ | exact ⟨by first | (simp [this]; done) | (simp [this] <;> omega), rfl⟩); (repeat (first | exact Ent.refl | exact Ent.nil | apply Ent.pick | apply Ent.drop)))
        · have hne : ¬ s = t := fun h => a4 (by rw [h])
          repeat (first | rintro _ _ ⟨rfl, rfl⟩ | refine exq fun _ => ?_ | intro _ | refine go ?_ | refine drq ?_)
          (apply WE_ret rfl rfl (by (repeat (first | exact ResOk.nil | (apply ResOk.tmp; rfl) | (apply resOk_cell; rfl; exact inferInstance; rfl; rfl)))); (first | exact ⟨rfl, rfl⟩ | exact ⟨congrArg Value.bool (by decide), rfl⟩ | exact ⟨_, rfl, rfl⟩ | exact ⟨_, _, rfl, rfl⟩ | exact ⟨by first | (simp [hne]; done) | (simp [hne] <;> omega), rfl⟩); (repeat (first | exact Ent.refl | exact Ent.nil | apply Ent.pick | apply Ent.drop)))
      · have a3' : s.all ≠ t.all := a3
        have hne : ¬ s = t := fun h => a3 (by rw [h])
        repeat (first | rintro _ _ ⟨rfl, rfl⟩ | refine exq fun _ => ?_ | intro _ | refine go ?_ | refine drq ?_)
        (apply WE_ret rfl rfl (by (repeat (first | exact ResOk.nil | (apply ResOk.tmp; rfl) | (apply resOk_cell; rfl; exact inferInstance; rfl; rfl)))); (first | exact ⟨rfl, rfl⟩ | exact ⟨congrArg Value.bool (by decide), rfl⟩ | exact ⟨_, rfl, rfl⟩ | exact ⟨_, _, rfl, rfl⟩ | exact ⟨by first | (simp [hne]; done) | (simp [hne] <;> omega), rfl⟩); (repeat (first | exact Ent.refl | exact Ent.nil | apply Ent.pick | apply Ent.drop)))
    · have hne : ¬ s = t := fun h => a2 (by rw [h])
      repeat (first | rintro _ _ ⟨rfl, rfl⟩ | refine exq fun _ => ?_ | intro _ | refine go ?_ | refine drq ?_)
      (apply WE_ret rfl rfl (by (repeat (first | exact ResOk.nil | (apply ResOk.tmp; rfl) | (apply resOk_cell; rfl; exact inferInstance; rfl; rfl)))); (first | exact ⟨rfl, rfl⟩ | exact ⟨congrArg Value.bool (by decide), rfl⟩ | exact ⟨_, rfl, rfl⟩ | exact ⟨_, _, rfl, rfl⟩ | exact ⟨by first | (simp [hne]; done) | (simp [hne] <;> omega), rfl⟩); (repeat (first | exact Ent.refl | exact Ent.nil | apply Ent.pick | apply Ent.drop)))
  · have hne : ¬ s = t := fun h => a1 (by rw [h])
    repeat (first | rintro _ _ ⟨rfl, rfl⟩ | refine exq fun _ => ?_ | intro _ | refine go ?_ | refine drq ?_)
    (apply WE_ret rfl rfl (by (repeat (first | exact ResOk.nil | (apply ResOk.tmp; rfl) | (apply resOk_cell; rfl; exact inferInstance; rfl; rfl)))); (first | exact ⟨rfl, rfl⟩ | exact ⟨congrArg Value.bool (by decide), rfl⟩ | exact ⟨_, rfl, rfl⟩ | exact ⟨_, _, rfl, rfl⟩ | exact ⟨by first | (simp [hne]; done) | (simp [hne] <;> omega), rfl⟩); (repeat (first | exact Ent.refl | exact Ent.nil | apply Ent.pick | apply Ent.drop)))

theorem ref08_Targets {F : List HP} {s : SSet} {a : Option Addr} {k : Nat} {u : Value} {but : List Int} (hk : RdL F 1 (.slice a s.ps.length k) s.ps.length (flat ic s.ps)) (hm : shMay s = true) (hb : RdL F 1 u but.length (flat ic but)) (hbn : but.length ≤ 1000) :
    FnF Tryz.prog 181 [scw s a k, u] [] F (fun r L' => ∃ p c, r = .slice p (shTgt s but s.cores.toNat).length c ∧ L' = [Own 3 1 (.slice p (shTgt s but s.cores.toNat).length c) (shTgt s but s.cores.toNat).length (flat ic (shTgt s but s.cores.toNat))]) := by
  obtain ⟨m1, m2, m3, m4, m5, m6, m7, m8⟩ := may_facts' hm
  obtain ⟨n, hn⟩ : ∃ n : Nat, s.cores = n := ⟨s.cores.toNat, by omega⟩
  refine FnF.mk' Tryz.func181 rfl rfl Tryz.ntmps181 rfl ?_
  repeat (first | rintro _ _ ⟨rfl, rfl⟩ | refine exq fun _ => ?_ | intro _ | refine go ?_ | refine drq ?_)
  rename_i bs bb
  apply WC_loopE (E0 := [(1, _), (2, _)]) (fun E0 (q : Nat × Option Addr × Nat) => (6, .int .i64 q.1) :: (5, .slice q.2.1 (shTgt s but q.1).length q.2.2) :: E0)
    (fun q => Own 3 1 (.slice q.2.1 (shTgt s but q.1).length q.2.2) (shTgt s but q.1).length (flat ic (shTgt s but q.1)) :: Cells bs 134 (scl s a k) :: F) (fun q => q.1 ≤ n) (fun q => n - q.1) (0, _, _)
  · (repeat (first | exact Sub.nil | (refine Sub.cons (by first | rfl | (simp only [Nat.zero_add]; rfl)) ?_)))
  · exact Nat.zero_le _
  · dsimp only; rw [show shTgt s but 0 = [] from rfl]; simp only [List.length_nil, flat_nil]; exact entu0
  · rintro ⟨j, p, c⟩ hj
    dsimp only at hj ⊢
    have hlen : (shTgt s but j).length ≤ j := by
      have := List.length_filter_le (fun c => shHas s c && !decide (c ∈ but)) (upto j)
      simp only [upto, List.length_map, List.length_range] at this
      exact this
    have hsu : shTgt s but (j + 1) = if shHas s j && !decide ((j : Int) ∈ but) then shTgt s but j ++ [(j : Int)] else shTgt s but j := by
      unfold shTgt upto
      rw [List.range_succ, List.map_append, List.filter_append]
      by_cases h : (shHas s j && !decide ((j : Int) ∈ but)) = true
      · simp [h]
      · simp [h]
    by_cases hlt : j < n
    · have hH := fun F (hk : RdL F 1 (.slice a s.ps.length k) s.ps.length (flat ic s.ps)) => ref08_Has (c := (j : Int)) hk (by omega)
      simp only [has_same hm] at hH
      cases hh : shHas s j with
      | false =>
        simp only [hh] at hH
        rw [hh] at hsu
        rw [Bool.false_and, if_neg Bool.false_ne_true] at hsu
        repeat (first | rintro _ _ ⟨rfl, rfl⟩ | refine exq fun _ => ?_ | intro _ | refine go ?_ | refine drq ?_ | refine cal @hH ?_)
        refine WE_loop (j + 1, p, c) (by dsimp only; omega) (by dsimp only; omega) ?_ ?_
        · dsimp only; rw [hsu]; (repeat (first | exact Sub.nil | (refine Sub.cons (by first | rfl | (simp only [Nat.zero_add]; rfl)) ?_)))
        · dsimp only; rw [hsu]; exact entu0
      | true =>
        simp only [hh] at hH
        rw [hh] at hsu
        by_cases hc : (j : Int) ∈ but
        · have hc' : ¬ ¬ ((j : Int) ∈ but) := fun h => h hc
          rw [if_neg (by simp [hc])] at hsu
          repeat (first | rintro _ _ ⟨rfl, rfl⟩ | refine exq fun _ => ?_ | intro _ | refine go ?_ | refine drq ?_ | refine cal @hH ?_ | refine cal @ref08_in ?_)
          refine WE_loop (j + 1, p, c) (by dsimp only; omega) (by dsimp only; omega) ?_ ?_
          · dsimp only; rw [hsu]; (repeat (first | exact Sub.nil | (refine Sub.cons (by first | rfl | (simp only [Nat.zero_add]; rfl)) ?_)))
          · dsimp only; rw [hsu]; exact entu0
        · rw [if_pos (by simp [hc])] at hsu
          repeat (first | rintro _ _ ⟨rfl, rfl⟩ | refine exq fun _ => ?_ | intro _ | refine go ?_ | refine drq ?_ | refine cal @hH ?_ | refine cal @ref08_in ?_)
          rename_i b2 p2 c2
          refine WE_loop (j + 1, p2, c2) (by dsimp only; omega) (by dsimp only; omega) ?_ ?_
          · dsimp only; rw [hsu, List.length_append, List.length_singleton]; (repeat (first | exact Sub.nil | (refine Sub.cons (by first | rfl | (simp only [Nat.zero_add]; rfl)) ?_)))
          · dsimp only; rw [hsu, List.length_append, List.length_singleton, flat_append, flat_one]; exact entu0
    · have hjn : j = s.cores.toNat := by omega
      repeat (first | rintro _ _ ⟨rfl, rfl⟩ | refine exq fun _ => ?_ | intro _ | refine go ?_ | refine drq ?_)
      subst hjn
      (apply WE_ret rfl rfl (by (repeat (first | exact ResOk.nil | (apply ResOk.tmp; rfl) | (apply resOk_cell; rfl; exact inferInstance; rfl; rfl)))))
      · exact ⟨p, c, rfl, rfl⟩
      · exact entu0

theorem ref08_Add {F : List HP} {s : SSet} {a : Option Addr} {k : Nat} {x : Int} (hk : RdL F 1 (.slice a s.ps.length k) s.ps.length (flat ic s.ps)) (hn : s.ps.length ≤ 1000) (hx : shHas s x = true → shMay s = true → 0 ≤ x → x < s.cores → False) :
    FnF Tryz.prog 179 [scw s a k, .int .i64 x] [] F (fun r L' => ∃ a' k', r = .tuple [scw (shAddS s x) a' k', .int .i64 (shAddE s x)].toArray ∧ L' = [Own 3 1 (.slice a' (shAddS s x).ps.length k') (shAddS s x).ps.length (flat ic (shAddS s x).ps)]) := by
  cases hm : shMay s with
  | false =>
    have e1 : shAddE s x = 1 := by simp [shAddE, hm]
    have e2 : shAddS s x = .no := by simp [shAddS, e1]
    rw [e1, e2]
    have hM := fun F (hk : RdL F 1 (.slice a s.ps.length k) s.ps.length (flat ic s.ps)) => ref08_May hk hn
    simp only [hm] at hM
    refine FnF.mk' Tryz.func179 rfl rfl Tryz.ntmps179 rfl ?_
    repeat (first | rintro _ _ ⟨rfl, rfl⟩ | refine exq fun _ => ?_ | intro _ | refine go ?_ | refine drq ?_ | refine cal @hM ?_)
    (apply WE_ret rfl rfl (by (repeat (first | exact ResOk.nil | (apply ResOk.tmp; rfl) | (apply resOk_cell; rfl; exact inferInstance; rfl; rfl)))))
    · exact ⟨none, 0, rfl, rfl⟩
    · refine Ent.trans ?_ (own_empty Ent.refl)
      exact entu0
  | true =>
    have hM := fun F (hk : RdL F 1 (.slice a s.ps.length k) s.ps.length (flat ic s.ps)) => ref08_May hk hn
    simp only [hm] at hM
    obtain ⟨m1, m2, m3, m4, m5, m6, m7, m8⟩ := may_facts' hm
    by_cases hr : x < 0 ∨ s.cores ≤ x
    · have e1 : shAddE s x = 5 := by simp only [shAddE, hm, if_true, if_pos hr]
      have e2 : shAddS s x = .no := by simp [shAddS, e1]
      rw [e1, e2]
      refine FnF.mk' Tryz.func179 rfl rfl Tryz.ntmps179 rfl ?_
      by_cases h0 : x < 0
      · repeat (first | rintro _ _ ⟨rfl, rfl⟩ | refine exq fun _ => ?_ | intro _ | refine go ?_ | refine drq ?_ | refine cal @hM ?_)
        (apply WE_ret rfl rfl (by (repeat (first | exact ResOk.nil | (apply ResOk.tmp; rfl) | (apply resOk_cell; rfl; exact inferInstance; rfl; rfl)))))
        · exact ⟨none, 0, rfl, rfl⟩
        · refine Ent.trans ?_ (own_empty Ent.refl)
          exact entu0
      · repeat (first | rintro _ _ ⟨rfl, rfl⟩ | refine exq fun _ => ?_ | intro _ | refine go ?_ | refine drq ?_ | refine cal @hM ?_)
        (apply WE_ret rfl rfl (by (repeat (first | exact ResOk.nil | (apply ResOk.tmp; rfl) | (apply resOk_cell; rfl; exact inferInstance; rfl; rfl)))))
        · exact ⟨none, 0, rfl, rfl⟩
        · refine Ent.trans ?_ (own_empty Ent.refl)
          exact entu0
    · have e1 : shAddE s x = 0 := by simp only [shAddE, hm, if_true, if_neg hr]
      have hx0 : 0 ≤ x := by omega
      have hx1 : x < s.cores := by omega
      have hH := fun F (c : Int) (hk : RdL F 1 (.slice a s.ps.length k) s.ps.length (flat ic s.ps)) => ref08_Has (c := c) hk hn
      simp only [has_same hm] at hH
      have hHx := fun F (hk : RdL F 1 (.slice a s.ps.length k) s.ps.length (flat ic s.ps)) => hH F x hk
      cases hh : shHas s x with
      | true => exact absurd (hx hh hm hx0 hx1) id
      | false =>
        simp only [hh] at hHx
        have hal := not_has_all hx0 hx1 hh
        by_cases hf : (s.ps.length : Int) = s.most
        · have e2 : shAddS s x = ⟨s.cores, s.most, [], true⟩ := by simp [shAddS, e1, hh, hf]
          rw [e1, e2]
          refine FnF.mk' Tryz.func179 rfl rfl Tryz.ntmps179 rfl ?_
          repeat (first | rintro _ _ ⟨rfl, rfl⟩ | refine exq fun _ => ?_ | intro _ | refine go ?_ | refine drq ?_ | refine cal @hM ?_ | refine cal @hHx ?_)
          (apply WE_ret rfl rfl (by (repeat (first | exact ResOk.nil | (apply ResOk.tmp; rfl) | (apply resOk_cell; rfl; exact inferInstance; rfl; rfl)))))
          · exact ⟨none, 0, rfl, rfl⟩
          · refine Ent.trans ?_ (own_empty Ent.refl)
            exact entu0
        · have e2 : shAddS s x = ⟨s.cores, s.most, insL x s.ps, s.all⟩ := by simp [shAddS, e1, hh, hf]
          rw [e1, e2, ← out_ins hm hx0 hx1 hh hal]
          obtain ⟨n, hn⟩ : ∃ n : Nat, s.cores = n := ⟨s.cores.toNat, by omega⟩
          refine FnF.mk' Tryz.func179 rfl rfl Tryz.ntmps179 rfl ?_
          repeat (first | rintro _ _ ⟨rfl, rfl⟩ | refine exq fun _ => ?_ | intro _ | refine go ?_ | refine drq ?_ | refine cal @hM ?_ | refine cal @hHx ?_)
          rename_i bs br bo
          apply WC_loopE (E0 := [(1, _), (2, _), (4, _), (6, _)]) (fun E0 (q : Nat × Option Addr × Nat) => (7, .int .i64 q.1) :: E0)
            (fun q => Own 3 1 (.slice q.2.1 (shOut s x q.1).length q.2.2) (shOut s x q.1).length (flat ic (shOut s x q.1)) :: Cells bo 134 [.int .i64 s.cores, .int .i64 s.most, .slice q.2.1 (shOut s x q.1).length q.2.2, .bool false] :: Cells bs 134 (scl s a k) :: Cells br 134 [.int .i64 0, .int .i64 0, .slice none 0 0, .bool false] :: F) (fun q => q.1 ≤ n) (fun q => n - q.1) (0, none, 0)
          · (repeat (first | exact Sub.nil | (refine Sub.cons (by first | rfl | (simp only [Nat.zero_add]; rfl)) ?_)))
          · exact Nat.zero_le _
          · dsimp only; rw [show shOut s x 0 = [] from rfl]; simp only [List.length_nil, flat_nil]
            refine Ent.trans ?_ (own_empty Ent.refl)
            exact entu0
          · rintro ⟨j, p, c⟩ hj
            dsimp only at hj ⊢
            have hlen : (shOut s x j).length ≤ j := by
              have := List.length_filter_le (fun c => decide (c = x) || shHas s c) (upto j)
              simp only [upto, List.length_map, List.length_range] at this
              exact this
            have hsu : shOut s x (j + 1) = if decide ((j : Int) = x) || shHas s j then shOut s x j ++ [(j : Int)] else shOut s x j := by
              unfold shOut upto
              rw [List.range_succ, List.map_append, List.filter_append]
              by_cases h : (decide ((j : Int) = x) || shHas s j) = true
              · simp [h]
              · simp [h]
            by_cases hlt : j < n
            · have hHj := fun F (hk : RdL F 1 (.slice a s.ps.length k) s.ps.length (flat ic s.ps)) => hH F j hk
              by_cases hjx : (j : Int) = x
              · rw [if_pos (by simp [hjx])] at hsu
                repeat (first | rintro _ _ ⟨rfl, rfl⟩ | refine exq fun _ => ?_ | intro _ | refine go ?_ | refine drq ?_ | refine cal @hHj ?_)
                rename_i b2 p2 c2
                refine WE_loop (j + 1, p2, c2) (by dsimp only; omega) (by dsimp only; omega) ?_ ?_
                · dsimp only; (repeat (first | exact Sub.nil | (refine Sub.cons (by first | rfl | (simp only [Nat.zero_add]; rfl)) ?_)))
                · dsimp only; rw [hsu, List.length_append, List.length_singleton, flat_append, flat_one]; exact entu0
              · cases hhj : shHas s j with
                | true =>
                  simp only [hhj] at hHj
                  rw [if_pos (by simp [hhj])] at hsu
                  repeat (first | rintro _ _ ⟨rfl, rfl⟩ | refine exq fun _ => ?_ | intro _ | refine go ?_ | refine drq ?_ | refine cal @hHj ?_)
                  rename_i b2 p2 c2
                  refine WE_loop (j + 1, p2, c2) (by dsimp only; omega) (by dsimp only; omega) ?_ ?_
                  · dsimp only; (repeat (first | exact Sub.nil | (refine Sub.cons (by first | rfl | (simp only [Nat.zero_add]; rfl)) ?_)))
                  · dsimp only; rw [hsu, List.length_append, List.length_singleton, flat_append, flat_one]; exact entu0
                | false =>
                  simp only [hhj] at hHj
                  rw [if_neg (by simp [hhj, hjx])] at hsu
                  repeat (first | rintro _ _ ⟨rfl, rfl⟩ | refine exq fun _ => ?_ | intro _ | refine go ?_ | refine drq ?_ | refine cal @hHj ?_)
                  refine WE_loop (j + 1, p, c) (by dsimp only; omega) (by dsimp only; omega) ?_ ?_
                  · dsimp only; (repeat (first | exact Sub.nil | (refine Sub.cons (by first | rfl | (simp only [Nat.zero_add]; rfl)) ?_)))
                  · dsimp only; rw [hsu]; exact entu0
            · have hjn : j = s.cores.toNat := by omega
              repeat (first | rintro _ _ ⟨rfl, rfl⟩ | refine exq fun _ => ?_ | intro _ | refine go ?_ | refine drq ?_)
              subst hjn
              rw [hal]
              (apply WE_ret rfl rfl (by (repeat (first | exact ResOk.nil | (apply ResOk.tmp; rfl) | (apply resOk_cell; rfl; exact inferInstance; rfl; rfl)))))
              · exact ⟨p, c, rfl, rfl⟩
              · exact entu0

theorem ref08_Add_has {F : List HP} {s : SSet} {a : Option Addr} {k : Nat} {x : Int} (hk : RdL F 1 (.slice a s.ps.length k) s.ps.length (flat ic s.ps)) (hm : shMay s = true) (hx0 : 0 ≤ x) (hx1 : x < s.cores) (hh : shHas s x = true) :
    FnF Tryz.prog 179 [scw s a k, .int .i64 x] [] F (fun r L' => r = .tuple [scw s a k, .int .i64 0].toArray ∧ L' = []) := by
  obtain ⟨m1, m2, m3, m4, m5, m6, m7, m8⟩ := may_facts' hm
  have hM := fun F (hk : RdL F 1 (.slice a s.ps.length k) s.ps.length (flat ic s.ps)) => ref08_May hk (by omega)
  simp only [hm] at hM
  have hHx := fun F (hk : RdL F 1 (.slice a s.ps.length k) s.ps.length (flat ic s.ps)) => ref08_Has (c := x) hk (by omega)
  simp only [has_same hm, hh] at hHx
  refine FnF.mk' Tryz.func179 rfl rfl Tryz.ntmps179 rfl ?_
  repeat (first | rintro _ _ ⟨rfl, rfl⟩ | refine exq fun _ => ?_ | intro _ | refine go ?_ | refine drq ?_ | refine cal @hM ?_ | refine cal @hHx ?_)
  exact fin0
end Go.Sx

/- The laws of sharers. My own work. -/
namespace Go.Sx
open Go Go.Proofs
set_option linter.unusedVariables false
set_option linter.unusedSectionVars false
set_option linter.unusedSimpArgs false
end Go.Sx

/- What sharers do: the law against the document. My own work. -/
namespace Go.Sx
open Go Go.Proofs
set_option linter.unusedVariables false
set_option linter.unusedSectionVars false
set_option linter.unusedSimpArgs false
theorem addS_len (s : SSet) (x : Int) : (shAddS s x).ps.length ≤ s.ps.length + 1 := by
  unfold shAddS
  split
  · split
    · omega
    · split
      · simp
      · simp only [insL_len]; omega
  · simp
theorem tgt_len (s : SSet) (but : List Int) (n : Nat) : (shTgt s but n).length ≤ n := by
  have := List.length_filter_le (fun c => shHas s c && !decide (c ∈ but)) (upto n)
  simp only [upto, List.length_map, List.length_range] at this
  exact this
set_option maxRecDepth 100000
set_option maxHeartbeats 4000000
attribute [local irreducible] Go.Exit.then Go.Exit.inBlock Go.Code.wp WC WO WE WQ V LoopQ FnQ Sat Star band bor IntKind.wrap WR Code.rounds WT KO
end Go.Sx
