/- What is set of a line is told of it. Plain facts. My own work. -/
import Derived.Test.YtcjagmphobdbbaaArrPl
namespace Go.Sx
open Go Go.Proofs
set_option linter.unusedVariables false
set_option linter.unusedSimpArgs false
theorem find_at {c : Cfg} {l : List Way} {line : Int} (hI : ArrInv c l) {k : Nat} (hk : k < l.length) (h : pHas line l[k] = true) : arrF c line ≤ k ∧ arrP c l line = ((k - arrF c line : Nat) : Int) := by
  obtain ⟨h1, h2⟩ := pHas_iff.1 h
  obtain ⟨a1, a2, a3, a4⟩ := hI k hk h1
  rw [h2] at a1 a2 a3
  refine ⟨a2, ?_⟩
  by_cases hneg : arrP c l line < 0
  · exfalso
    have := arrP_no hneg (k - arrF c line) (by omega) a1 (by omega)
    simp only [show arrF c line + (k - arrF c line) = k by omega] at this
    rw [this] at h; cases h
  · obtain ⟨i, hi⟩ : ∃ i : Nat, arrP c l line = i := ⟨(arrP c l line).toNat, by omega⟩
    obtain ⟨b1, _, b2, _⟩ := arrP_at hi
    obtain ⟨b3, b4⟩ := pHas_iff.1 b2
    have := a4 _ b1 b3 (by rw [b4, h2])
    omega
theorem find_no {c : Cfg} {l : List Way} {line : Int} (h : ∀ k (hk : k < l.length), pHas line l[k] = false) : arrP c l line = -1 := by
  by_cases hneg : arrP c l line < 0
  · have := (arrP_lt c l line).1; omega
  · obtain ⟨i, hi⟩ : ∃ i : Nat, arrP c l line = i := ⟨(arrP c l line).toNat, by omega⟩
    obtain ⟨b1, _, b2, _⟩ := arrP_at hi
    rw [h _ b1] at b2; cases b2
theorem not_has {c : Cfg} {l : List Way} {line : Int} (hI : ArrInv c l) (h : arrP c l line < 0) {j : Nat} (hj : j < l.length) : pHas line l[j] = false := by
  cases e : pHas line l[j] with
  | false => rfl
  | true => have := (find_at hI hj e).2; omega
theorem find_other {c : Cfg} {l : List Way} {line : Int} {k : Nat} {w : Way} (hI : ArrInv c l) (hI2 : ArrInv c (l.set k w)) (hk : k < l.length) (h1 : pHas line l[k] = false) (h2 : pHas line w = false) :
    arrP c (l.set k w) line = arrP c l line ∧ findW c (l.set k w) line = findW c l line := by
  by_cases hneg : arrP c l line < 0
  · have e1 : arrP c l line = -1 := by have := (arrP_lt c l line).1; omega
    have e2 : arrP c (l.set k w) line = -1 := find_no fun j hj => by
      rw [List.length_set] at hj
      by_cases e : k = j
      · subst e; rw [List.getElem_set_self]; exact h2
      · rw [List.getElem_set_ne e]; exact not_has hI hneg hj
    refine ⟨by rw [e1, e2], ?_⟩
    unfold findW
    rw [if_pos (by omega), if_pos (by omega)]
  · obtain ⟨i, hi⟩ : ∃ i : Nat, arrP c l line = i := ⟨(arrP c l line).toNat, by omega⟩
    obtain ⟨b1, _, b2, _⟩ := arrP_at hi
    have hne : k ≠ arrF c line + i := fun e => by subst e; rw [b2] at h1; cases h1
    have b3 : arrF c line + i < (l.set k w).length := by rw [List.length_set]; exact b1
    have b4 : (l.set k w)[arrF c line + i] = l[arrF c line + i] := List.getElem_set_ne hne _
    have e2 : arrP c (l.set k w) line = i := by
      rw [(find_at hI2 b3 (by rw [b4]; exact b2)).2]; omega
    exact ⟨by rw [hi, e2], by rw [findW_at e2 b3, b4, findW_at hi b1]⟩
theorem has_line {line line' : Int} {w : Way} (h : pHas line' w = true) (hne : line' ≠ line) : pHas line w = false := by
  cases e : pHas line w with
  | false => rfl
  | true => exact absurd ((pHas_iff.1 h).2.symm.trans (pHas_iff.1 e).2) hne
theorem lay_other {c : Cfg} {l : List Way} {line line' way : Int} (hI : ArrInv c l) (hx : line' ≠ line) : arrP c (layL c l line' way) line = arrP c l line ∧ findW c (layL c l line' way) line = findW c l line := by
  have hI2 := layL_inv (line := line') (way := way) hI
  unfold layL at hI2 ⊢
  by_cases h : layE c l line' way = 0
  · rw [if_pos h] at hI2 ⊢
    unfold layE at h
    split at h
    · rename_i h0
      split at h
      · split at h
        · cases h
        · rename_i hp ht
          have hok : okLine c line' = true := by
            cases e : okLine c line' with
            | true => rfl
            | false => rw [waysOf_no e] at h0; simp at h0; omega
          obtain ⟨k, hk⟩ : ∃ k : Nat, way = k := ⟨way.toNat, by omega⟩
          subst hk
          have hkl : k < (waysOf c l line').length := by omega
          obtain ⟨h2, eg⟩ := ways_get hok hkl
          rw [Int.toNat_natCast, ← getD_at hkl, eg] at ht
          rw [Int.toNat_natCast] at hI2 ⊢
          refine find_other hI hI2 h2 ?_ ?_
          · simp [pHas, ht]
          · simp [pHas, hx]
      · cases h
    · cases h
  · rw [if_neg h]; exact ⟨rfl, rfl⟩
theorem turn_other {c : Cfg} {l : List Way} {line line' : Int} {w : Way} (hI : ArrInv c l) (hp : ¬ arrP c l line' = -1) (hl : w.line = (findW c l line').line) (hx : line' ≠ line) :
    arrP c (l.set (arrF c line' + (arrP c l line').toNat) w) line = arrP c l line ∧ findW c (l.set (arrF c line' + (arrP c l line').toNat) w) line = findW c l line := by
  have hI2 := turn_inv hI hp hl
  have h0 : 0 ≤ arrP c l line' := by have := (arrP_lt c l line').1; omega
  obtain ⟨i, hi⟩ : ∃ i : Nat, arrP c l line' = i := ⟨(arrP c l line').toNat, by omega⟩
  obtain ⟨b1, _, b2, _⟩ := arrP_at hi
  rw [findW_at hi b1] at hl
  rw [hi, Int.toNat_natCast] at hI2 ⊢
  refine find_other hI hI2 b1 (has_line b2 hx) ?_
  have := (pHas_iff.1 b2).2
  simp [pHas, hl, this, hx]
theorem set_other {c : Cfg} {l : List Way} {line line' st : Int} {w : Words} (hI : ArrInv c l) (hx : line' ≠ line) : arrP c (setL c l line' st w) line = arrP c l line ∧ findW c (setL c l line' st w) line = findW c l line := by
  unfold setL
  split
  · rename_i h
    exact turn_other hI (fun hp => by unfold setE at h; rw [if_pos hp] at h; cases h) rfl hx
  · exact ⟨rfl, rfl⟩
theorem lock_other {c : Cfg} {l : List Way} {line line' : Int} {lk : Bool} (hI : ArrInv c l) (hx : line' ≠ line) : arrP c (lockL c l line' lk) line = arrP c l line ∧ findW c (lockL c l line' lk) line = findW c l line := by
  unfold lockL
  split
  · rename_i h
    exact turn_other hI (fun hp => by unfold lockE at h; rw [if_pos hp] at h; cases h) rfl hx
  · exact ⟨rfl, rfl⟩
/-- The line's own way is turned. -/
theorem turn_self {c : Cfg} {l : List Way} {line : Int} {i : Nat} {w : Way} (hI : ArrInv c l) (hi : arrP c l line = i) (hl : w.line = line) :
    (thereB w = true → arrP c (l.set (arrF c line + i) w) line = i ∧ findW c (l.set (arrF c line + i) w) line = w) ∧ (thereB w = false → arrP c (l.set (arrF c line + i) w) line = -1) := by
  obtain ⟨b1, _, b2, _⟩ := arrP_at hi
  have hfl := (pHas_iff.1 b2).2
  have hI2 := turn_inv (w := w) hI (by omega : ¬ arrP c l line = -1) (by rw [findW_at hi b1, hfl, hl])
  rw [hi, Int.toNat_natCast] at hI2
  have b3 : arrF c line + i < (l.set (arrF c line + i) w).length := by rw [List.length_set]; exact b1
  constructor
  · intro ht
    have e2 : arrP c (l.set (arrF c line + i) w) line = i := by
      rw [(find_at hI2 b3 (by rw [List.getElem_set_self]; exact pHas_iff.2 ⟨ht, hl⟩)).2]; omega
    exact ⟨e2, by rw [findW_at e2 b3, List.getElem_set_self]⟩
  · intro ht
    refine find_no fun j hj => ?_
    rw [List.length_set] at hj
    by_cases e : arrF c line + i = j
    · subst e; rw [List.getElem_set_self]; simp [pHas, ht]
    · rw [List.getElem_set_ne e]
      cases ej : pHas line l[j] with
      | false => rfl
      | true => have := find_at hI hj ej; omega
theorem find_line {c : Cfg} {l : List Way} {line : Int} {i : Nat} (hi : arrP c l line = i) : (findW c l line).line = line := by
  obtain ⟨b1, _, b2, _⟩ := arrP_at hi
  rw [findW_at hi b1]
  exact (pHas_iff.1 b2).2
theorem find_is {c : Cfg} {l : List Way} {line : Int} {i : Nat} (hi : arrP c l line = i) : findB c l line = true ∧ findI c l line = i := by
  unfold findB findI
  rw [hi]
  exact ⟨by simp, if_neg (by omega)⟩
theorem find_isnt {c : Cfg} {l : List Way} {line : Int} (hi : arrP c l line = -1) : findB c l line = false ∧ findI c l line = 0 ∧ findW c l line = .zero := by
  unfold findB findI findW
  rw [hi]
  exact ⟨rfl, rfl, rfl⟩
/-- What is set is told. -/
theorem set_self {c : Cfg} {l : List Way} {line st : Int} {w : Words} (hI : ArrInv c l) (he : setE c l line st w = 0) :
    findB c l line = true ∧ (((findW c l line).lk = true ∨ st ≠ 0) → findB c (setL c l line st w) line = true ∧ findI c (setL c l line st w) line = findI c l line ∧ findW c (setL c l line st w) line = ⟨st, line, if st = 0 then .zero else w, (findW c l line).lk⟩) ∧
    (((findW c l line).lk = false ∧ st = 0) → findB c (setL c l line st w) line = false ∧ findI c (setL c l line st w) line = 0 ∧ findW c (setL c l line st w) line = .zero) := by
  have hp : ¬ arrP c l line = -1 := fun hp => by unfold setE at he; rw [if_pos hp] at he; cases he
  have h0 : 0 ≤ arrP c l line := by have := (arrP_lt c l line).1; omega
  obtain ⟨i, hi⟩ : ∃ i : Nat, arrP c l line = i := ⟨(arrP c l line).toNat, by omega⟩
  have hl := find_line hi
  have e1 : setL c l line st w = l.set (arrF c line + i) { findW c l line with st := st, words := if st = 0 then .zero else w } := by
    unfold setL; rw [if_pos he, hi, Int.toNat_natCast]
  rw [e1]
  obtain ⟨t1, t2⟩ := turn_self (w := { findW c l line with st := st, words := if st = 0 then .zero else w }) hI hi hl
  refine ⟨(find_is hi).1, fun h => ?_, fun h => ?_⟩
  · obtain ⟨u1, u2⟩ := t1 (by rcases h with h | h <;> simp [thereB, h])
    refine ⟨(find_is u1).1, by rw [(find_is u1).2, (find_is hi).2], ?_⟩
    rw [u2]
    show (⟨st, (findW c l line).line, _, _⟩ : Way) = _
    rw [hl]
  · exact find_isnt (t2 (by simp [thereB, h.1, h.2]))
/-- What is let go is there as long as it is valid. -/
theorem free_self {c : Cfg} {l : List Way} {line : Int} (hI : ArrInv c l) : findB c (lockL c l line false) line = (findB c l line && decide ((findW c l line).st ≠ 0)) := by
  by_cases hp : arrP c l line = -1
  · have e1 : lockL c l line false = l := by unfold lockL lockE; rw [if_pos hp]; rfl
    rw [e1, (find_isnt hp).1]; rfl
  · have h0 : 0 ≤ arrP c l line := by have := (arrP_lt c l line).1; omega
    obtain ⟨i, hi⟩ : ∃ i : Nat, arrP c l line = i := ⟨(arrP c l line).toNat, by omega⟩
    have hl := find_line hi
    have he : lockE c l line = 0 := if_neg hp
    have e1 : lockL c l line false = l.set (arrF c line + i) { findW c l line with lk := false } := by
      unfold lockL; rw [if_pos he, hi, Int.toNat_natCast]
    obtain ⟨t1, t2⟩ := turn_self (w := { findW c l line with lk := false }) hI hi hl
    rw [e1, (find_is hi).1, Bool.true_and]
    by_cases hs : (findW c l line).st = 0
    · rw [(find_isnt (t2 (by simp [thereB, hs]))).1]; simp [hs]
    · rw [(find_is (t1 (by simp [thereB, hs])).1).1]; simp [hs]
end Go.Sx
