/- The table, in plain words. My own work. -/
import Derived.Test.YtcjagmphobdbbaaTabLaw
namespace Go.Sx
open Go Go.Proofs
set_option linter.unusedVariables false
set_option linter.unusedSectionVars false
set_option linter.unusedSimpArgs false
theorem may_mk' {s : SSet} (h1 : 1 ≤ s.cores) (h2 : s.cores ≤ 64) (h3 : 0 ≤ s.most) (h4 : s.most ≤ 8) (h5 : (s.ps.length : Int) ≤ s.most) (h6 : s.all = true → s.ps = []) (h7 : s.ps.Pairwise (· < ·)) (h8 : ∀ c ∈ s.ps, 0 ≤ c ∧ c < s.cores) : shMay s = true := by
  have h9 : risingB s.cores (-1) s.ps = true := rising_of h7 fun c hc => by have := h8 c hc; exact ⟨by omega, this.2⟩
  have h10 : (!(s.all && decide (0 < s.ps.length))) = true := by
    cases ha : s.all with
    | false => rfl
    | true => rw [h6 ha]; rfl
  simp only [shMay, h1, h2, h3, h4, h5, h9, h10, decide_true, Bool.and_true]
theorem may_add' {s : SSet} {x : Int} (h : shMay s = true) (hx0 : 0 ≤ x) (hx1 : x < s.cores) : shMay (shAddS s x) = true ∧ (shAddS s x).cores = s.cores ∧ (shAddS s x).most = s.most := by
  obtain ⟨m1, m2, m3, m4, m5, m6, m7, m8⟩ := may_facts' h
  have e1 : shAddE s x = 0 := by simp only [shAddE, h, if_true]; rw [if_neg (by omega)]
  unfold shAddS
  rw [if_pos e1]
  cases hh : shHas s x with
  | true => exact ⟨h, rfl, rfl⟩
  | false =>
    rw [if_neg Bool.false_ne_true]
    by_cases hf : (s.ps.length : Int) = s.most
    · rw [if_pos hf]
      exact ⟨may_mk' m1 m2 m3 m4 (by simpa using m3) (fun _ => rfl) List.Pairwise.nil (fun c hc => by cases hc), rfl, rfl⟩
    · rw [if_neg hf]
      have hal := not_has_all hx0 hx1 hh
      have hx : ¬ x ∈ s.ps := by simpa [shHas, hal] using hh
      refine ⟨may_mk' m1 m2 m3 m4 ?_ ?_ (insL_sorted m7 hx) ?_, rfl, rfl⟩
      · simp only [insL_len]; omega
      · intro h; dsimp only at h; rw [hal] at h; cases h
      · intro c hc
        rcases (insL_mem x c s.ps).1 hc with rfl | hc
        · exact ⟨hx0, hx1⟩
        · exact m8 c hc
theorem has_rng {s : SSet} {c : Int} (h : shMay s = true) (hh : shHas s c = true) : 0 ≤ c ∧ c < s.cores := by
  obtain ⟨_, _, _, _, _, _, _, m8⟩ := may_facts' h
  unfold shHas at hh
  cases ha : s.all with
  | true => rw [ha, if_pos rfl] at hh; simpa using hh
  | false => rw [ha, if_neg Bool.false_ne_true] at hh; exact m8 c (of_decide_eq_true hh)
theorem tgt_mem {s : SSet} {but : List Int} {c : Int} (h : shMay s = true) : c ∈ shTgt s but s.cores.toNat ↔ shHas s c = true ∧ ¬ c ∈ but := by
  unfold shTgt
  rw [List.mem_filter, upto_mem]
  simp only [Bool.and_eq_true, Bool.not_eq_true', decide_eq_false_iff_not]
  constructor
  · exact fun h => h.2
  · intro hh
    have := has_rng h hh.1
    exact ⟨by omega, hh⟩
theorem tgt_sorted (s : SSet) (but : List Int) (n : Nat) : (shTgt s but n).Pairwise (· < ·) := (upto_sorted n).filter _
theorem add_has {s : SSet} {x c : Int} (h : shMay s = true) (h0 : 0 ≤ x) (h1 : x < s.cores) (hc : shHas s c = true ∨ c = x) : shHas (shAddS s x) c = true := by
  have e1 : shAddE s x = 0 := by simp only [shAddE, h, if_true]; rw [if_neg (by omega)]
  unfold shAddS
  rw [if_pos e1]
  cases hh : shHas s x with
  | true =>
    rw [if_pos rfl]
    rcases hc with hc | rfl
    · exact hc
    · exact hh
  | false =>
    rw [if_neg Bool.false_ne_true]
    have hr : 0 ≤ c ∧ c < s.cores := by
      rcases hc with hc | rfl
      · exact has_rng h hc
      · exact ⟨h0, h1⟩
    split
    · simp [shHas, hr]
    · have hal := not_has_all h0 h1 hh
      simp only [shHas, hal, Bool.false_eq_true, if_false, decide_eq_true_eq]
      rw [insL_mem]
      rcases hc with hc | hc
      · right; simpa [shHas, hal] using hc
      · exact .inl hc
theorem nextE_ok {e : TEnt} {m : Msg} (h : nextE e m = 0) : okT e m = true ∧ (m.kind = 1 ∧ ¬ e.o = m.src ∨ m.kind = 2 ∨ m.kind = 3) := by
  unfold nextE at h
  split at h
  · rename_i hk
    refine ⟨hk, ?_⟩
    split at h
    · split at h
      · cases h
      · exact .inl ⟨by assumption, by assumption⟩
    · split at h
      · exact .inr (.inl (by assumption))
      · split at h
        · exact .inr (.inr (by assumption))
        · cases h
  · cases h
theorem okT_facts {e : TEnt} {m : Msg} (h : okT e m = true) : shMay e.s = true ∧ -1 ≤ e.o ∧ e.o < e.s.cores ∧ 0 ≤ m.src ∧ m.src < e.s.cores := by
  simp only [okT, mayT, Bool.and_eq_true, decide_eq_true_eq] at h
  exact ⟨h.1.1.1.1, h.1.1.1.2, h.1.1.2, h.1.2, h.2⟩
theorem mayT_mk {e : TEnt} (h1 : shMay e.s = true) (h2 : -1 ≤ e.o) (h3 : e.o < e.s.cores) : mayT e = true := by simp [mayT, h1, h2, h3]
theorem may_clear {s : SSet} (h : shMay s = true) : shMay (clearS s) = true := by
  obtain ⟨m1, m2, m3, m4, m5, m6, m7, m8⟩ := may_facts' h
  exact may_mk' m1 m2 m3 m4 (by simpa [clearS] using m3) (fun _ => rfl) List.Pairwise.nil (fun c hc => by cases hc)
theorem next_may {e : TEnt} {m : Msg} (h : nextE e m = 0) : mayT (nextT e m) = true := by
  obtain ⟨hok, hk⟩ := nextE_ok h
  obtain ⟨h1, h2, h3, h4, h5⟩ := okT_facts hok
  obtain ⟨a1, a2, _⟩ := may_add' h1 h4 h5
  unfold nextT
  rw [if_pos h]
  rcases hk with ⟨k, ho⟩ | k | k
  · rw [if_pos k]
    unfold readT
    rw [if_neg ho]
    split
    · exact mayT_mk a1 h2 (by rw [a2]; exact h3)
    · split
      · exact mayT_mk (may_clear h1) (by dsimp only; omega) h5
      · exact mayT_mk a1 h2 (by rw [a2]; exact h3)
  · rw [if_neg (by omega), if_pos k]
    exact mayT_mk (may_clear h1) (by dsimp only; omega) h5
  · rw [if_neg (by omega), if_neg (by omega)]
    unfold putT
    split
    · exact mayT_mk h1 (by simp) (by dsimp only; have := (may_facts' h1).1; omega)
    · exact mayT_mk h1 h2 h3
/-- What is sent: a first one, and invalidations. -/
theorem next_sent {e : TEnt} {m : Msg} (w : Words) (h : nextE e m = 0) : ∃ f : Msg, ∃ ot : List Int, nextS e m w = f :: ot.map (invT m) ∧ f.kind ≠ 6 ∧ f.line = m.line ∧ f.src = m.dst ∧ f.acks = (ot.length : Nat) ∧ (f.dst = m.src ∨ f.who = m.src ∧ f.dst = e.o) ∧
    ot.Pairwise (· < ·) ∧ ot.length ≤ 64 ∧ ∀ c ∈ ot, 0 ≤ c ∧ c ≠ m.src ∧ c ≠ e.o ∧ shHas e.s c = true := by
  obtain ⟨hok, hk⟩ := nextE_ok h
  obtain ⟨h1, h2, h3, h4, h5⟩ := okT_facts hok
  unfold nextS
  rw [if_pos h]
  rcases hk with ⟨k, ho⟩ | k | k
  · rw [if_pos k]
    unfold readS
    rw [if_neg ho]
    split
    · exact ⟨_, [], rfl, by simp [msgT], rfl, rfl, rfl, .inr ⟨rfl, rfl⟩, List.Pairwise.nil, by simp, fun c hc => by cases hc⟩
    · split
      · exact ⟨_, [], rfl, by simp [msgT], rfl, rfl, rfl, .inl rfl, List.Pairwise.nil, by simp, fun c hc => by cases hc⟩
      · exact ⟨_, [], rfl, by simp [msgT], rfl, rfl, rfl, .inl rfl, List.Pairwise.nil, by simp, fun c hc => by cases hc⟩
  · rw [if_neg (by omega), if_pos k]
    have hot : ∀ c ∈ othersT e m, 0 ≤ c ∧ c ≠ m.src ∧ c ≠ e.o ∧ shHas e.s c = true := fun c hc => by
      obtain ⟨g1, g2⟩ := (tgt_mem h1).1 hc
      simp only [List.mem_cons, List.not_mem_nil, or_false, not_or] at g2
      exact ⟨(has_rng h1 g1).1, g2.1, g2.2, g1⟩
    refine ⟨firstT e m w, othersT e m, rfl, ?_, ?_, ?_, ?_, ?_, tgt_sorted _ _ _, (by have := tgt_len e.s [m.src, e.o] e.s.cores.toNat; have h64 := (may_facts' h1).2.1; have hd : othersT e m = shTgt e.s [m.src, e.o] e.s.cores.toNat := rfl; rw [hd]; omega), hot⟩
    all_goals (unfold firstT; split)
    all_goals first
    | (simp [msgT]; done)
    | rfl
    | exact .inl rfl
    | (split <;> first | (simp [msgT]; done) | rfl | exact .inl rfl | exact .inr ⟨rfl, rfl⟩)
  · rw [if_neg (by omega), if_neg (by omega)]
    exact ⟨_, [], rfl, by simp [msgT], rfl, rfl, rfl, .inl rfl, List.Pairwise.nil, by simp, fun c hc => by cases hc⟩
/-- What is told last, ahead of a place. -/
def lastN (S : List Msg) (i : Nat) : Int := if i ≤ 1 then -1 else (S.getD (i - 1) .zero).dst
theorem sent_facts {e : TEnt} {m : Msg} {w : Words} (h : nextE e m = 0) : 0 < (nextS e m w).length ∧ (nextS e m w).length ≤ 1000 ∧
    (∀ i (hi : i < (nextS e m w).length), (nextS e m w)[i].line = m.line ∧ (nextS e m w)[i].src = m.dst ∧ ((nextS e m w)[i].kind = 6 ↔ 0 < i)) ∧
    (∀ (hi : 0 < (nextS e m w).length), (nextS e m w)[0].acks = ((nextS e m w).length : Int) - 1 ∧ ((nextS e m w)[0].dst = m.src ∨ (nextS e m w)[0].who = m.src ∧ (nextS e m w)[0].dst = e.o)) ∧
    ∀ i (hi : i < (nextS e m w).length), 0 < i → lastN (nextS e m w) i < (nextS e m w)[i].dst ∧ (nextS e m w)[i].dst ≠ m.src ∧ (nextS e m w)[i].dst ≠ e.o ∧ (nextS e m w)[i].who = m.src ∧ shHas e.s (nextS e m w)[i].dst = true := by
  obtain ⟨hok, _⟩ := nextE_ok h
  obtain ⟨hm, _⟩ := okT_facts hok
  obtain ⟨f, ot, hS, f1, f2, f3, f4, f5, f6, hl, f7⟩ := next_sent w h
  rw [hS]
  refine ⟨by simp, by simp; omega, ?_, ?_, ?_⟩
  · intro i hi
    cases i with
    | zero => exact ⟨f2, f3, by simpa using f1⟩
    | succ i => simp [invT, msgT]
  · intro _
    exact ⟨by simp [f4], f5⟩
  · intro i hi hi0
    obtain ⟨j, rfl⟩ : ∃ j, i = j + 1 := ⟨i - 1, by omega⟩
    have hj : j < ot.length := by simpa using hi
    have h7 := f7 _ (List.getElem_mem hj)
    have e1 : (f :: ot.map (invT m))[j + 1] = invT m ot[j] := by simp
    rw [e1]
    refine ⟨?_, h7.2.1, h7.2.2.1, rfl, h7.2.2.2⟩
    show lastN _ _ < ot[j]
    unfold lastN
    split
    · omega
    · obtain ⟨k, rfl⟩ : ∃ k, j = k + 1 := ⟨j - 1, by omega⟩
      have e2 : (f :: ot.map (invT m)).getD (k + 1 + 1 - 1) .zero = invT m ot[k] := by
        simp [List.getD_eq_getElem?_getD, show k < ot.length by omega]
      rw [e2]
      exact List.pairwise_iff_getElem.1 f6 k (k + 1) (by omega) hj (by omega)
end Go.Sx
