/- Arrays of ways: what holds of them. My own work. -/
import Derived.Test.YtcjagmphobdbbaaArr2
namespace Go.Sx
open Go Go.Proofs
set_option linter.unusedVariables false
set_option linter.unusedSimpArgs false
/-- Each line is there once, in its set. -/
def ArrInv (c : Cfg) (l : List Way) : Prop :=
  ∀ i (h : i < l.length), thereB l[i] = true → okLine c l[i].line = true ∧ arrF c l[i].line ≤ i ∧ i < arrF c l[i].line + c.ways.toNat ∧ ∀ j (hj : j < l.length), thereB l[j] = true → l[j].line = l[i].line → j = i
/-- Where a line is, of all ways. -/
def arrG (c : Cfg) (l : List Way) (line : Int) : Int := if arrP c l line < 0 then -1 else arrF c line + arrP c l line
theorem pHas_iff {line : Int} {w : Way} : pHas line w = true ↔ thereB w = true ∧ w.line = line := by simp [pHas]
theorem arrP_at {c : Cfg} {l : List Way} {line : Int} {i : Nat} (hi : arrP c l line = i) : ∃ h : arrF c line + i < l.length, okLine c line = true ∧ pHas line l[arrF c line + i] = true ∧ i < c.ways.toNat := by
  obtain ⟨k, hk, e, h1, _⟩ := arrP_nat (by omega : 0 ≤ arrP c l line)
  have hki : k = i := by omega
  subst hki
  have hok := arrP_ok (by omega : 0 ≤ arrP c l line)
  obtain ⟨h2, e2⟩ := ways_get hok hk
  refine ⟨h2, hok, e2 ▸ h1, ?_⟩
  rw [waysOf_ok hok, List.length_take] at hk
  omega
theorem arrP_no {c : Cfg} {l : List Way} {line : Int} (h : arrP c l line < 0) : ∀ i, i < c.ways.toNat → okLine c line = true → ∀ h : arrF c line + i < l.length, pHas line l[arrF c line + i] = false := by
  intro i hi hok hl
  have h2 := (indexBy_neg (by unfold arrP at h; omega : ¬ 0 ≤ indexBy (pHas line) (waysOf c l line))).2
  have hk : i < (waysOf c l line).length := by rw [waysOf_ok hok, List.length_take, List.length_drop]; omega
  have := h2 _ (List.getElem_mem hk)
  obtain ⟨_, e2⟩ := ways_get hok hk
  rw [e2] at this; exact this
/-- Of all ways, the first one that has a line. -/
theorem arrG_eq {c : Cfg} {l : List Way} (hI : ArrInv c l) (line : Int) : indexBy (pHas line) l = arrG c l line := by
  unfold arrG
  by_cases h : arrP c l line < 0
  · rw [if_pos h]
    refine indexBy_none fun j hj _ => ?_
    cases e : pHas line l[j] with
    | false => rfl
    | true =>
      exfalso
      obtain ⟨h1, h2⟩ := pHas_iff.1 e
      obtain ⟨a1, a2, a3, _⟩ := hI j hj h1
      rw [h2] at a1 a2 a3
      have := arrP_no h (j - arrF c line) (by omega) a1 (by omega)
      simp only [show arrF c line + (j - arrF c line) = j by omega] at this
      rw [this] at e; cases e
  · rw [if_neg h]
    obtain ⟨i, hi, e, _, _⟩ := arrP_nat (by omega : 0 ≤ arrP c l line)
    obtain ⟨h2, hok, h3, h4⟩ := arrP_at e
    rw [e]
    have := indexBy_at (p := pHas line) (l := l) (i := arrF c line + i) h2 (fun j hj hlt => by
      cases ej : pHas line l[j] with
      | false => rfl
      | true =>
        exfalso
        obtain ⟨g1, g2⟩ := pHas_iff.1 h3
        obtain ⟨b1, b2⟩ := pHas_iff.1 ej
        have := (hI _ h2 g1).2.2.2 j hj b1 (by rw [b2, g2])
        omega) h3
    rw [this]
    exact Int.natCast_add _ _
theorem arr_inv_no (c : Cfg) (n : Nat) : ArrInv c (List.replicate n .zero) := by
  intro i h ht
  rw [List.getElem_replicate] at ht
  cases ht
/-- A way is turned: what is there then is of its own line. -/
theorem arr_inv_set {c : Cfg} {l : List Way} {k : Nat} {w : Way} (hI : ArrInv c l) (hk : k < l.length) (h : thereB w = true → okLine c w.line = true ∧ arrF c w.line ≤ k ∧ k < arrF c w.line + c.ways.toNat ∧ ∀ j (hj : j < l.length), thereB l[j] = true → l[j].line = w.line → j = k) : ArrInv c (l.set k w) := by
  intro i hi ht
  rw [List.length_set] at hi
  by_cases e : k = i
  · subst e
    rw [List.getElem_set_self] at ht ⊢
    obtain ⟨h1, h2, h3, h4⟩ := h ht
    refine ⟨h1, h2, h3, fun j hj htj hlj => ?_⟩
    rw [List.length_set] at hj
    by_cases e2 : k = j
    · exact e2.symm
    · rw [List.getElem_set_ne e2] at htj hlj
      exact h4 j hj htj hlj
  · rw [List.getElem_set_ne e] at ht ⊢
    obtain ⟨h1, h2, h3, h4⟩ := hI i hi ht
    refine ⟨h1, h2, h3, fun j hj htj hlj => ?_⟩
    rw [List.length_set] at hj
    by_cases e2 : k = j
    · subst e2
      rw [List.getElem_set_self] at htj hlj
      exact ((h htj).2.2.2 i hi ht hlj.symm).symm
    · rw [List.getElem_set_ne e2] at htj hlj
      exact h4 j hj htj hlj
theorem findW_at {c : Cfg} {l : List Way} {line : Int} {i : Nat} (hi : arrP c l line = i) (h2 : arrF c line + i < l.length) : findW c l line = l[arrF c line + i] := by
  obtain ⟨k, hk, e, _, _⟩ := arrP_nat (by omega : 0 ≤ arrP c l line)
  have hki : k = i := by omega
  subst hki
  have hok := arrP_ok (by omega : 0 ≤ arrP c l line)
  obtain ⟨_, e2⟩ := ways_get hok hk
  unfold findW; rw [if_neg (by omega), hi, Int.toNat_natCast, ← e2]; exact (getD_at hk).symm
theorem layL_inv {c : Cfg} {l : List Way} {line way : Int} (hI : ArrInv c l) : ArrInv c (layL c l line way) := by
  unfold layL
  split
  · rename_i h
    unfold layE at h
    split at h
    · rename_i h0
      split at h
      · rename_i hp
        have hok : okLine c line = true := by
          cases e : okLine c line with
          | true => rfl
          | false => rw [waysOf_no e] at h0; simp at h0; omega
        obtain ⟨k, hk⟩ : ∃ k : Nat, way = k := ⟨way.toNat, by omega⟩
        subst hk
        obtain ⟨h2, _⟩ := ways_get hok (show k < (waysOf c l line).length by omega)
        have hkw : k < c.ways.toNat := by have := h0.2; rw [waysOf_ok hok, List.length_take] at this; omega
        rw [Int.toNat_natCast]
        refine arr_inv_set hI h2 fun _ => ⟨hok, by dsimp only; omega, by dsimp only; omega, fun j hj ht hl => ?_⟩
        exfalso
        dsimp only at hl
        obtain ⟨a1, a2, a3, _⟩ := hI j hj ht
        rw [hl] at a1 a2 a3
        have := arrP_no (by omega : arrP c l line < 0) (j - arrF c line) (by omega) a1 (by omega)
        simp only [show arrF c line + (j - arrF c line) = j by omega] at this
        rw [pHas_iff.2 ⟨ht, hl⟩] at this; cases this
      · cases h
    · cases h
  · exact hI
theorem turn_inv {c : Cfg} {l : List Way} {line : Int} {w : Way} (hI : ArrInv c l) (hp : ¬ arrP c l line = -1) (hl : w.line = (findW c l line).line) : ArrInv c (l.set (arrF c line + (arrP c l line).toNat) w) := by
  have h0 : 0 ≤ arrP c l line := by have := (arrP_lt c l line).1; omega
  obtain ⟨i, hi⟩ : ∃ i : Nat, arrP c l line = i := ⟨(arrP c l line).toNat, by omega⟩
  obtain ⟨h2, hok, h3, h4⟩ := arrP_at hi
  have hf := findW_at hi h2
  rw [hi, Int.toNat_natCast]
  obtain ⟨g1, g2⟩ := pHas_iff.1 h3
  have hinv := hI _ h2 g1
  refine arr_inv_set hI h2 fun _ => ?_
  have e : w.line = l[arrF c line + i].line := by rw [hl, hf]
  rw [e]
  exact hinv
theorem setL_inv {c : Cfg} {l : List Way} {line st : Int} {w : Words} (hI : ArrInv c l) : ArrInv c (setL c l line st w) := by
  unfold setL
  split
  · rename_i h
    refine turn_inv hI (fun hp => ?_) rfl
    unfold setE at h; rw [if_pos hp] at h; cases h
  · exact hI
theorem lockL_inv {c : Cfg} {l : List Way} {line : Int} {lk : Bool} (hI : ArrInv c l) : ArrInv c (lockL c l line lk) := by
  unfold lockL
  split
  · rename_i h
    refine turn_inv hI (fun hp => ?_) rfl
    unfold lockE at h; rw [if_pos hp] at h; cases h
  · exact hI
theorem layL_len {c : Cfg} {l : List Way} {line way : Int} : (layL c l line way).length = l.length := by unfold layL; split <;> simp
theorem setL_len {c : Cfg} {l : List Way} {line st : Int} {w : Words} : (setL c l line st w).length = l.length := by unfold setL; split <;> simp
theorem lockL_len {c : Cfg} {l : List Way} {line : Int} {lk : Bool} : (lockL c l line lk).length = l.length := by unfold lockL; split <;> simp
end Go.Sx
