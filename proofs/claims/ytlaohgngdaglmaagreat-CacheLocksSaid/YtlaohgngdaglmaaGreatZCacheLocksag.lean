/- ArrHPl, MshR, MshR2, MshR3, MshR4: several of my texts as one. My own work. -/
import Derived.Test.YtlaohgngdaglmaaGreatZCacheLocksad
import Derived.Test.YtlaohgngdaglmaaGreatZCacheLocksac
/- What is set of a line is told of it. Plain facts. My own work. -/
namespace Go.Sx
open Go Go.Proofs
set_option linter.unusedVariables false
set_option linter.unusedSimpArgs false
theorem find_at {c : Cfg} {l : List Way} {line : Int} (hI : ArrInv c l) {k : Nat} (hk : k < l.length) (h : pHas line l[k] = true) : arrF c line ≤ k ∧ arrP c l line = ((k - arrF c line : Nat) : Int) := by
  obtain ⟨h1, h2⟩ := pHas_iff.1 h
  obtain ⟨a1, a2, a3, a4⟩ := hI k hk h1
  rw [h2] at a1 a2 a3
  refine ⟨a2, ?_⟩
  by_cases hneg : arrP c l line < 0
  · exfalso
    have := arrP_no hneg (k - arrF c line) (by omega) a1 (by omega)
    simp only [show arrF c line + (k - arrF c line) = k by omega] at this
    rw [this] at h; cases h
  · obtain ⟨i, hi⟩ : ∃ i : Nat, arrP c l line = i := ⟨(arrP c l line).toNat, by omega⟩
    obtain ⟨b1, _, b2, _⟩ := arrP_at hi
    obtain ⟨b3, b4⟩ := pHas_iff.1 b2
    have := a4 _ b1 b3 (by rw [b4, h2])
    omega
theorem find_no {c : Cfg} {l : List Way} {line : Int} (h : ∀ k (hk : k < l.length), pHas line l[k] = false) : arrP c l line = -1 := by
  by_cases hneg : arrP c l line < 0
  · have := (arrP_lt c l line).1; omega
  · obtain ⟨i, hi⟩ : ∃ i : Nat, arrP c l line = i := ⟨(arrP c l line).toNat, by omega⟩
    obtain ⟨b1, _, b2, _⟩ := arrP_at hi
    rw [h _ b1] at b2; cases b2
theorem not_has {c : Cfg} {l : List Way} {line : Int} (hI : ArrInv c l) (h : arrP c l line < 0) {j : Nat} (hj : j < l.length) : pHas line l[j] = false := by
  cases e : pHas line l[j] with
  | false => rfl
  | true => have := (find_at hI hj e).2; omega
theorem find_other {c : Cfg} {l : List Way} {line : Int} {k : Nat} {w : Way} (hI : ArrInv c l) (hI2 : ArrInv c (l.set k w)) (hk : k < l.length) (h1 : pHas line l[k] = false) (h2 : pHas line w = false) :
    arrP c (l.set k w) line = arrP c l line ∧ findW c (l.set k w) line = findW c l line := by
  by_cases hneg : arrP c l line < 0
  · have e1 : arrP c l line = -1 := by have := (arrP_lt c l line).1; omega
    have e2 : arrP c (l.set k w) line = -1 := find_no fun j hj => by
      rw [List.length_set] at hj
      by_cases e : k = j
      · subst e; rw [List.getElem_set_self]; exact h2
      · rw [List.getElem_set_ne e]; exact not_has hI hneg hj
    refine ⟨by rw [e1, e2], ?_⟩
    unfold findW
    rw [if_pos (by omega), if_pos (by omega)]
  · obtain ⟨i, hi⟩ : ∃ i : Nat, arrP c l line = i := ⟨(arrP c l line).toNat, by omega⟩
    obtain ⟨b1, _, b2, _⟩ := arrP_at hi
    have hne : k ≠ arrF c line + i := fun e => by subst e; rw [b2] at h1; cases h1
    have b3 : arrF c line + i < (l.set k w).length := by rw [List.length_set]; exact b1
    have b4 : (l.set k w)[arrF c line + i] = l[arrF c line + i] := List.getElem_set_ne hne _
    have e2 : arrP c (l.set k w) line = i := by
      rw [(find_at hI2 b3 (by rw [b4]; exact b2)).2]; omega
    exact ⟨by rw [hi, e2], by rw [findW_at e2 b3, b4, findW_at hi b1]⟩
theorem has_line {line line' : Int} {w : Way} (h : pHas line' w = true) (hne : line' ≠ line) : pHas line w = false := by
  cases e : pHas line w with
  | false => rfl
  | true => exact absurd ((pHas_iff.1 h).2.symm.trans (pHas_iff.1 e).2) hne
theorem lay_other {c : Cfg} {l : List Way} {line line' way : Int} (hI : ArrInv c l) (hx : line' ≠ line) : arrP c (layL c l line' way) line = arrP c l line ∧ findW c (layL c l line' way) line = findW c l line := by
  have hI2 := layL_inv (line := line') (way := way) hI
  unfold layL at hI2 ⊢
  by_cases h : layE c l line' way = 0
  · rw [if_pos h] at hI2 ⊢
    unfold layE at h
    split at h
    · rename_i h0
      split at h
      · split at h
        · cases h
        · rename_i hp ht
          have hok : okLine c line' = true := by
            cases e : okLine c line' with
            | true => rfl
            | false => rw [waysOf_no e] at h0; simp at h0; omega
          obtain ⟨k, hk⟩ : ∃ k : Nat, way = k := ⟨way.toNat, by omega⟩
          subst hk
          have hkl : k < (waysOf c l line').length := by omega
          obtain ⟨h2, eg⟩ := ways_get hok hkl
          rw [Int.toNat_natCast, ← getD_at hkl, eg] at ht
          rw [Int.toNat_natCast] at hI2 ⊢
          refine find_other hI hI2 h2 ?_ ?_
          · simp [pHas, ht]
          · simp [pHas, hx]
      · cases h
    · cases h
  · rw [if_neg h]; exact ⟨rfl, rfl⟩
theorem turn_other {c : Cfg} {l : List Way} {line line' : Int} {w : Way} (hI : ArrInv c l) (hp : ¬ arrP c l line' = -1) (hl : w.line = (findW c l line').line) (hx : line' ≠ line) :
    arrP c (l.set (arrF c line' + (arrP c l line').toNat) w) line = arrP c l line ∧ findW c (l.set (arrF c line' + (arrP c l line').toNat) w) line = findW c l line := by
  have hI2 := turn_inv hI hp hl
  have h0 : 0 ≤ arrP c l line' := by have := (arrP_lt c l line').1; omega
  obtain ⟨i, hi⟩ : ∃ i : Nat, arrP c l line' = i := ⟨(arrP c l line').toNat, by omega⟩
  obtain ⟨b1, _, b2, _⟩ := arrP_at hi
  rw [findW_at hi b1] at hl
  rw [hi, Int.toNat_natCast] at hI2 ⊢
  refine find_other hI hI2 b1 (has_line b2 hx) ?_
  have := (pHas_iff.1 b2).2
  simp [pHas, hl, this, hx]
theorem set_other {c : Cfg} {l : List Way} {line line' st : Int} {w : Words} (hI : ArrInv c l) (hx : line' ≠ line) : arrP c (setL c l line' st w) line = arrP c l line ∧ findW c (setL c l line' st w) line = findW c l line := by
  unfold setL
  split
  · rename_i h
    exact turn_other hI (fun hp => by unfold setE at h; rw [if_pos hp] at h; cases h) rfl hx
  · exact ⟨rfl, rfl⟩
theorem lock_other {c : Cfg} {l : List Way} {line line' : Int} {lk : Bool} (hI : ArrInv c l) (hx : line' ≠ line) : arrP c (lockL c l line' lk) line = arrP c l line ∧ findW c (lockL c l line' lk) line = findW c l line := by
  unfold lockL
  split
  · rename_i h
    exact turn_other hI (fun hp => by unfold lockE at h; rw [if_pos hp] at h; cases h) rfl hx
  · exact ⟨rfl, rfl⟩
/-- The line's own way is turned. -/
theorem turn_self {c : Cfg} {l : List Way} {line : Int} {i : Nat} {w : Way} (hI : ArrInv c l) (hi : arrP c l line = i) (hl : w.line = line) :
    (thereB w = true → arrP c (l.set (arrF c line + i) w) line = i ∧ findW c (l.set (arrF c line + i) w) line = w) ∧ (thereB w = false → arrP c (l.set (arrF c line + i) w) line = -1) := by
  obtain ⟨b1, _, b2, _⟩ := arrP_at hi
  have hfl := (pHas_iff.1 b2).2
  have hI2 := turn_inv (w := w) hI (by omega : ¬ arrP c l line = -1) (by rw [findW_at hi b1, hfl, hl])
  rw [hi, Int.toNat_natCast] at hI2
  have b3 : arrF c line + i < (l.set (arrF c line + i) w).length := by rw [List.length_set]; exact b1
  constructor
  · intro ht
    have e2 : arrP c (l.set (arrF c line + i) w) line = i := by
      rw [(find_at hI2 b3 (by rw [List.getElem_set_self]; exact pHas_iff.2 ⟨ht, hl⟩)).2]; omega
    exact ⟨e2, by rw [findW_at e2 b3, List.getElem_set_self]⟩
  · intro ht
    refine find_no fun j hj => ?_
    rw [List.length_set] at hj
    by_cases e : arrF c line + i = j
    · subst e; rw [List.getElem_set_self]; simp [pHas, ht]
    · rw [List.getElem_set_ne e]
      cases ej : pHas line l[j] with
      | false => rfl
      | true => have := find_at hI hj ej; omega
theorem find_line {c : Cfg} {l : List Way} {line : Int} {i : Nat} (hi : arrP c l line = i) : (findW c l line).line = line := by
  obtain ⟨b1, _, b2, _⟩ := arrP_at hi
  rw [findW_at hi b1]
  exact (pHas_iff.1 b2).2
theorem find_is {c : Cfg} {l : List Way} {line : Int} {i : Nat} (hi : arrP c l line = i) : findB c l line = true ∧ findI c l line = i := by
  unfold findB findI
  rw [hi]
  exact ⟨by simp, if_neg (by omega)⟩
theorem find_isnt {c : Cfg} {l : List Way} {line : Int} (hi : arrP c l line = -1) : findB c l line = false ∧ findI c l line = 0 ∧ findW c l line = .zero := by
  unfold findB findI findW
  rw [hi]
  exact ⟨rfl, rfl, rfl⟩
/-- What is set is told. -/
theorem set_self {c : Cfg} {l : List Way} {line st : Int} {w : Words} (hI : ArrInv c l) (he : setE c l line st w = 0) :
    findB c l line = true ∧ (((findW c l line).lk = true ∨ st ≠ 0) → findB c (setL c l line st w) line = true ∧ findI c (setL c l line st w) line = findI c l line ∧ findW c (setL c l line st w) line = ⟨st, line, if st = 0 then .zero else w, (findW c l line).lk⟩) ∧
    (((findW c l line).lk = false ∧ st = 0) → findB c (setL c l line st w) line = false ∧ findI c (setL c l line st w) line = 0 ∧ findW c (setL c l line st w) line = .zero) := by
  have hp : ¬ arrP c l line = -1 := fun hp => by unfold setE at he; rw [if_pos hp] at he; cases he
  have h0 : 0 ≤ arrP c l line := by have := (arrP_lt c l line).1; omega
  obtain ⟨i, hi⟩ : ∃ i : Nat, arrP c l line = i := ⟨(arrP c l line).toNat, by omega⟩
  have hl := find_line hi
  have e1 : setL c l line st w = l.set (arrF c line + i) { findW c l line with st := st, words := if st = 0 then .zero else w } := by
    unfold setL; rw [if_pos he, hi, Int.toNat_natCast]
  rw [e1]
  obtain ⟨t1, t2⟩ := turn_self (w := { findW c l line with st := st, words := if st = 0 then .zero else w }) hI hi hl
  refine ⟨(find_is hi).1, fun h => ?_, fun h => ?_⟩
  · obtain ⟨u1, u2⟩ := t1 (by rcases h with h | h <;> simp [thereB, h])
    refine ⟨(find_is u1).1, by rw [(find_is u1).2, (find_is hi).2], ?_⟩
    rw [u2]
    show (⟨st, (findW c l line).line, _, _⟩ : Way) = _
    rw [hl]
  · exact find_isnt (t2 (by simp [thereB, h.1, h.2]))
/-- What is let go is there as long as it is valid. -/
theorem free_self {c : Cfg} {l : List Way} {line : Int} (hI : ArrInv c l) : findB c (lockL c l line false) line = (findB c l line && decide ((findW c l line).st ≠ 0)) := by
  by_cases hp : arrP c l line = -1
  · have e1 : lockL c l line false = l := by unfold lockL lockE; rw [if_pos hp]; rfl
    rw [e1, (find_isnt hp).1]; rfl
  · have h0 : 0 ≤ arrP c l line := by have := (arrP_lt c l line).1; omega
    obtain ⟨i, hi⟩ : ∃ i : Nat, arrP c l line = i := ⟨(arrP c l line).toNat, by omega⟩
    have hl := find_line hi
    have he : lockE c l line = 0 := if_neg hp
    have e1 : lockL c l line false = l.set (arrF c line + i) { findW c l line with lk := false } := by
      unfold lockL; rw [if_pos he, hi, Int.toNat_natCast]
    obtain ⟨t1, t2⟩ := turn_self (w := { findW c l line with lk := false }) hI hi hl
    rw [e1, (find_is hi).1, Bool.true_and]
    by_cases hs : (findW c l line).st = 0
    · rw [(find_isnt (t2 (by simp [thereB, hs]))).1]; simp [hs]
    · rw [(find_is (t1 (by simp [thereB, hs])).1).1]; simp [hs]
end Go.Sx

/- The document's files of misses. My own work. -/
namespace Go.Sx
open Go Go.Proofs
set_option linter.unusedVariables false
set_option linter.unusedSectionVars false
set_option linter.unusedSimpArgs false
set_option maxRecDepth 100000
set_option maxHeartbeats 4000000
attribute [local irreducible] Go.Exit.then Go.Exit.inBlock Go.Code.wp WC WO WE WQ V LoopQ FnQ Sat Star band bor IntKind.wrap WR Code.rounds WT KO
abbrev MshR (b : Nat) (room : Int) (l : List Miss) : HP := RL 62 75 15 msc' b room l
theorem ref10_New {F : List HP} {room : Int} (h : 1 ≤ room ∧ room ≤ 8) : FnF Tryz.prog 52 [.int .i64 room] [] F (fun r L' => ∃ b, r = .tuple [.pointer (some ⟨b, 0, none⟩), .int .i64 0].toArray ∧ L' = [MshR b room []]) := by
  refine FnF.mk' Tryz.func52 rfl rfl Tryz.ntmps52 rfl ?_
  repeat (first | rintro _ _ ⟨rfl, rfl⟩ | refine exq fun _ => ?_ | intro _ | refine go ?_ | refine drq ?_)
  (apply WE_ret rfl rfl (by (repeat (first | exact ResOk.nil | (apply ResOk.tmp; rfl) | (apply resOk_cell; rfl; exact inferInstance; rfl; rfl)))))
  · exact ⟨_, rfl, rfl⟩
  · exact RL_in (l := []) (Ent.cons (own_empty Ent.refl)) rfl rfl (by simp; omega)
theorem ref10_New_no {F : List HP} {room : Int} (h : ¬ (1 ≤ room ∧ room ≤ 8)) : FnF Tryz.prog 52 [.int .i64 room] [] F (fun r L' => r = .tuple [.pointer none, .int .i64 1].toArray ∧ L' = []) := by
  refine FnF.mk' Tryz.func52 rfl rfl Tryz.ntmps52 rfl ?_
  repeat' (first | rintro _ _ ⟨rfl, rfl⟩ | refine exq fun _ => ?_ | intro _ | refine go ?_ | refine drq ?_ | refine spl ?_ ?_ | fail)
  all_goals first | omega | exact fin0
theorem ref10_placeO {F : List HP} {b : Nat} {room line : Int} {l : List Miss} {p : Option Addr} {c : Nat} (hn : l.length ≤ 4096) :
    FnF Tryz.prog 193 [.pointer (some ⟨b, 0, none⟩), .int .i64 line] [Cells b 62 [.int .i64 room, .slice p l.length c], Own 75 15 (.slice p l.length c) l.length (flat msc' l)] F
      (fun r L' => r = .int .i64 (misP l line) ∧ L' = [Cells b 62 [.int .i64 room, .slice p l.length c], Own 75 15 (.slice p l.length c) l.length (flat msc' l)]) := by
  refine FnF.mk' Tryz.func193 rfl rfl Tryz.ntmps193 rfl ?_
  repeat (first | rintro _ _ ⟨rfl, rfl⟩ | refine exq fun _ => ?_ | intro _ | refine go ?_ | refine drq ?_)
  apply WC_loopE (E0 := [(0, _), (1, _)]) (fun E0 (i : Nat) => (5, .int .i64 i) :: E0) (fun _ => Cells b 62 [.int .i64 room, .slice p l.length c] :: Own 75 15 (.slice p l.length c) l.length (flat msc' l) :: F) (fun i => i ≤ l.length ∧ ∀ j (h : j < l.length), j < i → decide (l[j].line = line) = false) (fun i => l.length - i) 0
  · (repeat (first | exact Sub.nil | (refine Sub.cons (by first | rfl | (simp only [Nat.zero_add]; rfl)) ?_)))
  · exact ⟨by omega, fun j _ hj => by omega⟩
  · exact entu0
  · rintro i ⟨hi, h1⟩
    by_cases hlt : i < l.length
    · by_cases h2 : l[i].line = line
      · repeat (first | rintro _ _ ⟨rfl, rfl⟩ | refine exq fun _ => ?_ | intro _ | refine go ?_ | refine drq ?_)
        (apply WE_ret rfl rfl (by (repeat (first | exact ResOk.nil | (apply ResOk.tmp; rfl) | (apply resOk_cell; rfl; exact inferInstance; rfl; rfl)))))
        · exact ⟨by unfold misP; rw [indexBy_at hlt h1 (decide_eq_true h2)]; rfl, rfl⟩
        · exact entu0
      · repeat (first | rintro _ _ ⟨rfl, rfl⟩ | refine exq fun _ => ?_ | intro _ | refine go ?_ | refine drq ?_)
        refine WE_loop (i + 1) (by omega) ⟨by omega, fun j hj hji => ?_⟩ ?_ ?_
        · by_cases e : j = i
          · subst e; exact decide_eq_false h2
          · exact h1 j hj (by omega)
        · (repeat (first | exact Sub.nil | (refine Sub.cons (by first | rfl | (simp only [Nat.zero_add]; rfl)) ?_)))
        · exact entu0
    · have hil : i = l.length := by omega
      subst hil
      repeat (first | rintro _ _ ⟨rfl, rfl⟩ | refine exq fun _ => ?_ | intro _ | refine go ?_ | refine drq ?_)
      (apply WE_ret rfl rfl (by (repeat (first | exact ResOk.nil | (apply ResOk.tmp; rfl) | (apply resOk_cell; rfl; exact inferInstance; rfl; rfl)))))
      · exact ⟨by unfold misP; rw [indexBy_none h1]; rfl, rfl⟩
      · exact entu0
end Go.Sx

/- The document's files of misses, second part. My own work. -/
namespace Go.Sx
open Go Go.Proofs
set_option linter.unusedVariables false
set_option linter.unusedSectionVars false
set_option linter.unusedSimpArgs false
set_option maxRecDepth 100000
set_option maxHeartbeats 4000000
attribute [local irreducible] Go.Exit.then Go.Exit.inBlock Go.Code.wp WC WO WE WQ V LoopQ FnQ Sat Star band bor IntKind.wrap WR Code.rounds WT KO
theorem ref10_Get {F : List HP} {b : Nat} {room : Int} {l : List Miss} {line : Int} :
    FnF Tryz.prog 122 [.pointer (some ⟨b, 0, none⟩), .int .i64 line] [MshR b room l] F (fun r L' => r = .tuple [msv (misGet l line), .bool (misIn l line)].toArray ∧ L' = [MshR b room l]) := by
  refine FnF.mk' Tryz.func122 rfl rfl Tryz.ntmps122 rfl ?_
  refine RL_open fun p c hl => ?_
  have hP := fun F => ref10_placeO (F := F) (b := b) (room := room) (l := l) (line := line) (p := p) (c := c) (by omega)
  cases h : misIn l line with
  | true =>
    obtain ⟨i, hi, e1, e2, _⟩ := misIn_t h
    have e3 : misGet l line = l[i] := by unfold misGet; rw [if_pos h, e2]
    rw [e3]
    rw [e1] at hP
    (first | (refine WO_some (Value.slice p l.length c) inferInstance (by omega) ?_; intro _) | (refine WC_some (Value.slice p l.length c) inferInstance (by omega) ?_; intro _))
    repeat' (first | rintro _ _ ⟨rfl, rfl⟩ | refine exq fun _ => ?_ | intro _ | refine go ?_ | refine drq ?_ | refine cal @hP ?_ | refine spl ?_ ?_ | fail)
    all_goals (apply WE_ret rfl rfl (by (repeat (first | exact ResOk.nil | (apply ResOk.tmp; rfl) | (apply resOk_cell; rfl; exact inferInstance; rfl; rfl)))))
    all_goals first | exact ⟨rfl, rfl⟩ | (apply RL_in; (focus (exact entu0)); all_goals (first | rfl | (with_reducible assumption) | (simp; done) | (simp; omega) | omega | (constructor <;> (simp) <;> omega)))
  | false =>
    have e3 : misGet l line = .zero := by unfold misGet; rw [h]; rfl
    rw [e3]
    rw [misIn_f h] at hP
    repeat' (first | rintro _ _ ⟨rfl, rfl⟩ | refine exq fun _ => ?_ | intro _ | refine go ?_ | refine drq ?_ | refine cal @hP ?_ | refine spl ?_ ?_ | fail)
    all_goals (apply WE_ret rfl rfl (by (repeat (first | exact ResOk.nil | (apply ResOk.tmp; rfl) | (apply resOk_cell; rfl; exact inferInstance; rfl; rfl)))))
    all_goals first | exact ⟨rfl, rfl⟩ | (apply RL_in; (focus (exact entu0)); all_goals (first | rfl | (with_reducible assumption) | (simp; done) | (simp; omega) | omega | (constructor <;> (simp) <;> omega)))
theorem ref10_Open {F : List HP} {b : Nat} {room : Int} {l : List Miss} {line kind : Int} :
    FnF Tryz.prog 128 [.pointer (some ⟨b, 0, none⟩), .int .i64 line, .int .i64 kind] [MshR b room l] F (fun r L' => r = .int .i64 (openE room l line kind) ∧ L' = [MshR b room (openL room l line kind)]) := by
  refine FnF.mk' Tryz.func128 rfl rfl Tryz.ntmps128 rfl ?_
  by_cases hk : kind ≠ 1 ∧ kind ≠ 2
  · have e1 : openE room l line kind = 1 := if_pos hk
    have e2 : openL room l line kind = l := by unfold openL; rw [e1]; rfl
    obtain ⟨hk1, hk2⟩ := hk
    rw [e1, e2]
    repeat (first | rintro _ _ ⟨rfl, rfl⟩ | refine exq fun _ => ?_ | intro _ | refine go ?_ | refine drq ?_)
    exact fin0
  · refine RL_open fun p c hl => ?_
    have hP := fun F => ref10_placeO (F := F) (b := b) (room := room) (l := l) (line := line) (p := p) (c := c) (by omega)
    have hkk : kind = 1 ∨ ¬ kind = 1 ∧ kind = 2 := by omega
    cases h : misIn l line with
    | true =>
      obtain ⟨i, hi, e0, _, _⟩ := misIn_t h
      have e1 : openE room l line kind = 6 := by unfold openE; rw [if_neg hk, if_pos h]
      have e2 : openL room l line kind = l := by unfold openL; rw [e1]; rfl
      rw [e1, e2]
      rw [e0] at hP
      rcases hkk with h1 | ⟨h1, h2⟩
      · repeat (first | rintro _ _ ⟨rfl, rfl⟩ | refine exq fun _ => ?_ | intro _ | refine go ?_ | refine drq ?_ | refine cal @hP ?_)
        (apply WE_ret rfl rfl (by (repeat (first | exact ResOk.nil | (apply ResOk.tmp; rfl) | (apply resOk_cell; rfl; exact inferInstance; rfl; rfl)))))
        · exact ⟨rfl, rfl⟩
        · (apply RL_in; (focus (exact entu0)); all_goals (first | rfl | (with_reducible assumption) | (simp; done) | (simp; omega) | omega | (constructor <;> (simp) <;> omega)))
      · repeat (first | rintro _ _ ⟨rfl, rfl⟩ | refine exq fun _ => ?_ | intro _ | refine go ?_ | refine drq ?_ | refine cal @hP ?_)
        (apply WE_ret rfl rfl (by (repeat (first | exact ResOk.nil | (apply ResOk.tmp; rfl) | (apply resOk_cell; rfl; exact inferInstance; rfl; rfl)))))
        · exact ⟨rfl, rfl⟩
        · (apply RL_in; (focus (exact entu0)); all_goals (first | rfl | (with_reducible assumption) | (simp; done) | (simp; omega) | omega | (constructor <;> (simp) <;> omega)))
    | false =>
      rw [misIn_f h] at hP
      by_cases hf : (l.length : Int) = room
      · have e1 : openE room l line kind = 4 := by unfold openE; rw [if_neg hk, h, if_neg Bool.false_ne_true, if_pos hf]
        have e2 : openL room l line kind = l := by unfold openL; rw [e1]; rfl
        rw [e1, e2]
        rcases hkk with h1 | ⟨h1, h2⟩
        · repeat' (first | rintro _ _ ⟨rfl, rfl⟩ | refine exq fun _ => ?_ | intro _ | refine go ?_ | refine drq ?_ | refine cal @hP ?_ | refine spl ?_ ?_ | fail)
          all_goals (apply WE_ret rfl rfl (by (repeat (first | exact ResOk.nil | (apply ResOk.tmp; rfl) | (apply resOk_cell; rfl; exact inferInstance; rfl; rfl)))))
          all_goals first | exact ⟨rfl, rfl⟩ | (apply RL_in; (focus (exact entu0)); all_goals (first | rfl | (with_reducible assumption) | (simp; done) | (simp; omega) | omega | (constructor <;> (simp) <;> omega)))
        · repeat' (first | rintro _ _ ⟨rfl, rfl⟩ | refine exq fun _ => ?_ | intro _ | refine go ?_ | refine drq ?_ | refine cal @hP ?_ | refine spl ?_ ?_ | fail)
          all_goals (apply WE_ret rfl rfl (by (repeat (first | exact ResOk.nil | (apply ResOk.tmp; rfl) | (apply resOk_cell; rfl; exact inferInstance; rfl; rfl)))))
          all_goals first | exact ⟨rfl, rfl⟩ | (apply RL_in; (focus (exact entu0)); all_goals (first | rfl | (with_reducible assumption) | (simp; done) | (simp; omega) | omega | (constructor <;> (simp) <;> omega)))
      · have e1 : openE room l line kind = 0 := by unfold openE; rw [if_neg hk, h, if_neg Bool.false_ne_true, if_neg hf]
        have e2 : openL room l line kind = l ++ [⟨line, kind, -1, 0, 0, .zero, false, false⟩] := by unfold openL; rw [e1]; rfl
        rw [e1, e2]
        rcases hkk with h1 | ⟨h1, h2⟩
        · repeat' (first | rintro _ _ ⟨rfl, rfl⟩ | refine exq fun _ => ?_ | intro _ | refine go ?_ | refine drq ?_ | refine cal @hP ?_ | refine spl ?_ ?_ | fail)
          all_goals (apply WE_ret rfl rfl (by (repeat (first | exact ResOk.nil | (apply ResOk.tmp; rfl) | (apply resOk_cell; rfl; exact inferInstance; rfl; rfl)))))
          all_goals first | exact ⟨rfl, rfl⟩ | (apply RL_in; (focus (exact entu0)); all_goals (first | rfl | (with_reducible assumption) | (simp [flat_append, flat_one]; done) | (simp [flat_append, flat_one]; omega) | omega | (constructor <;> (simp [flat_append, flat_one]) <;> omega)))
        · repeat' (first | rintro _ _ ⟨rfl, rfl⟩ | refine exq fun _ => ?_ | intro _ | refine go ?_ | refine drq ?_ | refine cal @hP ?_ | refine spl ?_ ?_ | fail)
          all_goals (apply WE_ret rfl rfl (by (repeat (first | exact ResOk.nil | (apply ResOk.tmp; rfl) | (apply resOk_cell; rfl; exact inferInstance; rfl; rfl)))))
          all_goals first | exact ⟨rfl, rfl⟩ | (apply RL_in; (focus (exact entu0)); all_goals (first | rfl | (with_reducible assumption) | (simp [flat_append, flat_one]; done) | (simp [flat_append, flat_one]; omega) | omega | (constructor <;> (simp [flat_append, flat_one]) <;> omega)))
end Go.Sx

/- The document's files of misses, third part. My own work. -/
namespace Go.Sx
open Go Go.Proofs
set_option linter.unusedVariables false
set_option linter.unusedSectionVars false
set_option linter.unusedSimpArgs false
set_option maxRecDepth 100000
set_option maxHeartbeats 4000000
attribute [local irreducible] Go.Exit.then Go.Exit.inBlock Go.Code.wp WC WO WE WQ V LoopQ FnQ Sat Star band bor IntKind.wrap WR Code.rounds WT KO
theorem ref10_Owing {F : List HP} {b : Nat} {room : Int} {l : List Miss} :
    FnF Tryz.prog 139 [.pointer (some ⟨b, 0, none⟩)] [MshR b room l] F (fun r L' => r = .tuple [.int .i64 (if 0 ≤ owingP l then (l.getD (owingP l).toNat .zero).line else 0), .bool (decide (0 ≤ owingP l))].toArray ∧ L' = [MshR b room l]) := by
  refine FnF.mk' Tryz.func139 rfl rfl Tryz.ntmps139 rfl ?_
  refine RL_open fun p c hl => ?_
  repeat (first | rintro _ _ ⟨rfl, rfl⟩ | refine exq fun _ => ?_ | intro _ | refine go ?_ | refine drq ?_)
  apply WC_loopE (E0 := [(0, _)]) (fun E0 (i : Nat) => (4, .int .i64 i) :: E0) (fun _ => Cells b 62 [.int .i64 room, .slice p l.length c] :: Own 75 15 (.slice p l.length c) l.length (flat msc' l) :: F) (fun i => i ≤ l.length ∧ ∀ j (h : j < l.length), j < i → l[j].owes = false) (fun i => l.length - i) 0
  · (repeat (first | exact Sub.nil | (refine Sub.cons (by first | rfl | (simp only [Nat.zero_add]; rfl)) ?_)))
  · exact ⟨by omega, fun j _ hj => by omega⟩
  · exact entu0
  · rintro i ⟨hi, h1⟩
    by_cases hlt : i < l.length
    · cases h2 : l[i].owes with
      | true =>
        have e0 : owingP l = i := indexBy_at hlt h1 h2
        rw [e0, if_pos (by omega), decide_eq_true (by omega), Int.toNat_natCast, ← getD_at hlt]
        repeat (first | rintro _ _ ⟨rfl, rfl⟩ | refine exq fun _ => ?_ | intro _ | refine go ?_ | refine drq ?_)
        (apply WE_ret rfl rfl (by (repeat (first | exact ResOk.nil | (apply ResOk.tmp; rfl) | (apply resOk_cell; rfl; exact inferInstance; rfl; rfl)))))
        · exact ⟨rfl, rfl⟩
        · (apply RL_in; (focus (exact entu0)); all_goals (first | rfl | (with_reducible assumption) | (simp; done) | (simp; omega) | omega | (constructor <;> (simp) <;> omega)))
      | false =>
        repeat (first | rintro _ _ ⟨rfl, rfl⟩ | refine exq fun _ => ?_ | intro _ | refine go ?_ | refine drq ?_)
        refine WE_loop (i + 1) (by omega) ⟨by omega, fun j hj hji => ?_⟩ ?_ ?_
        · by_cases e : j = i
          · subst e; exact h2
          · exact h1 j hj (by omega)
        · (repeat (first | exact Sub.nil | (refine Sub.cons (by first | rfl | (simp only [Nat.zero_add]; rfl)) ?_)))
        · exact entu0
    · have hil : i = l.length := by omega
      subst hil
      have e0 : owingP l = -1 := indexBy_none h1
      rw [e0, if_neg (by omega), decide_eq_false (by omega)]
      repeat (first | rintro _ _ ⟨rfl, rfl⟩ | refine exq fun _ => ?_ | intro _ | refine go ?_ | refine drq ?_)
      (apply WE_ret rfl rfl (by (repeat (first | exact ResOk.nil | (apply ResOk.tmp; rfl) | (apply resOk_cell; rfl; exact inferInstance; rfl; rfl)))))
      · exact ⟨rfl, rfl⟩
      · (apply RL_in; (focus (exact entu0)); all_goals (first | rfl | (with_reducible assumption) | (simp; done) | (simp; omega) | omega | (constructor <;> (simp) <;> omega)))
end Go.Sx

/- The document's files of misses, fourth part. My own work. -/
namespace Go.Sx
open Go Go.Proofs
set_option linter.unusedVariables false
set_option linter.unusedSectionVars false
set_option linter.unusedSimpArgs false
set_option maxRecDepth 100000
set_option maxHeartbeats 4000000
attribute [local irreducible] Go.Exit.then Go.Exit.inBlock Go.Code.wp WC WO WE WQ V LoopQ FnQ Sat Star band bor IntKind.wrap WR Code.rounds WT KO
theorem ref10_Owe {F : List HP} {b : Nat} {room : Int} {l : List Miss} {line : Int} (hg : ∀ m ∈ l, 0 ≤ m.got) :
    FnF Tryz.prog 138 [.pointer (some ⟨b, 0, none⟩), .int .i64 line] [MshR b room l] F (fun r L' => r = .tuple [msv (oweM l line), .bool (oweB l line)].toArray ∧ L' = [MshR b room (oweL l line)]) := by
  refine FnF.mk' Tryz.func138 rfl rfl Tryz.ntmps138 rfl ?_
  refine RL_open fun p c hl => ?_
  have hP := fun F => ref10_placeO (F := F) (b := b) (room := room) (l := l) (line := line) (p := p) (c := c) (by omega)
  cases h : misIn l line with
  | false =>
    have e1 : oweB l line = false := by unfold oweB; rw [h]; rfl
    have e2 : oweL l line = l := by unfold oweL; rw [e1]; rfl
    have e3 : oweM l line = .zero := by unfold oweM; rw [e1]; rfl
    rw [e1, e2, e3]
    rw [misIn_f h] at hP
    repeat' (first | rintro _ _ ⟨rfl, rfl⟩ | refine exq fun _ => ?_ | intro _ | refine go ?_ | refine drq ?_ | refine cal @hP ?_ | refine spl ?_ ?_ | fail)
    all_goals (apply WE_ret rfl rfl (by (repeat (first | exact ResOk.nil | (apply ResOk.tmp; rfl) | (apply resOk_cell; rfl; exact inferInstance; rfl; rfl)))))
    all_goals first | exact ⟨rfl, rfl⟩ | (apply RL_in; (focus (exact entu0)); all_goals (first | rfl | (with_reducible assumption) | (simp; done) | (simp; omega) | omega | (constructor <;> (simp) <;> omega)))
  | true =>
    obtain ⟨i, hi, e0, ea, _⟩ := misIn_t h
    have hgi := hg _ (List.getElem_mem hi)
    rw [e0] at hP
    (first | (refine WO_some (Value.slice p l.length c) inferInstance (by omega) ?_; intro _) | (refine WC_some (Value.slice p l.length c) inferInstance (by omega) ?_; intro _))
    cases h1 : l[i].owes with
    | true =>
      have e1 : oweB l line = false := by unfold oweB; rw [ea, h1]; simp
      have e2 : oweL l line = l := by unfold oweL; rw [e1]; rfl
      have e3 : oweM l line = .zero := by unfold oweM; rw [e1]; rfl
      rw [e1, e2, e3]
      repeat' (first | rintro _ _ ⟨rfl, rfl⟩ | refine exq fun _ => ?_ | intro _ | refine go ?_ | refine drq ?_ | refine cal @hP ?_ | refine spl ?_ ?_ | fail)
      all_goals (apply WE_ret rfl rfl (by (repeat (first | exact ResOk.nil | (apply ResOk.tmp; rfl) | (apply resOk_cell; rfl; exact inferInstance; rfl; rfl)))))
      all_goals first | exact ⟨rfl, rfl⟩ | (apply RL_in; (focus (exact entu0)); all_goals (first | rfl | (with_reducible assumption) | (simp; done) | (simp; omega) | omega | (constructor <;> (simp) <;> omega)))
    | false =>
      by_cases h2 : l[i].needs = l[i].got
      · have h3 : ¬ l[i].needs < 0 := by omega
        have e1 : oweB l line = true := by unfold oweB; rw [h, ea, h1]; simp [h2]
        have e2 : oweL l line = l.set i { l[i] with owes := true } := by unfold oweL; rw [if_pos e1, e0, Int.toNat_natCast, ea]
        have e3 : oweM l line = l[i] := by unfold oweM; rw [if_pos e1, ea]
        rw [e1, e2, e3]
        repeat' (first | rintro _ _ ⟨rfl, rfl⟩ | refine exq fun _ => ?_ | intro _ | refine go ?_ | refine drq ?_ | refine cal @hP ?_ | refine spl ?_ ?_ | fail)
        all_goals rw [mis_ow hi]
        all_goals (apply WE_ret rfl rfl (by (repeat (first | exact ResOk.nil | (apply ResOk.tmp; rfl) | (apply resOk_cell; rfl; exact inferInstance; rfl; rfl)))))
        all_goals first | exact ⟨rfl, rfl⟩ | (rw [show l.length = (l.set i { l[i] with owes := true }).length by simp]; (apply RL_in; (focus (exact entu0)); all_goals (first | rfl | (with_reducible assumption) | (simp; done) | (simp; omega) | omega | (constructor <;> (simp) <;> omega))))
      · have e1 : oweB l line = false := by unfold oweB; rw [h, ea, h1]; simp [h2]
        have e2 : oweL l line = l := by unfold oweL; rw [e1]; rfl
        have e3 : oweM l line = .zero := by unfold oweM; rw [e1]; rfl
        rw [e1, e2, e3]
        by_cases h3 : l[i].needs < 0
        · repeat' (first | rintro _ _ ⟨rfl, rfl⟩ | refine exq fun _ => ?_ | intro _ | refine go ?_ | refine drq ?_ | refine cal @hP ?_ | refine spl ?_ ?_ | fail)
          all_goals (apply WE_ret rfl rfl (by (repeat (first | exact ResOk.nil | (apply ResOk.tmp; rfl) | (apply resOk_cell; rfl; exact inferInstance; rfl; rfl)))))
          all_goals first | exact ⟨rfl, rfl⟩ | (apply RL_in; (focus (exact entu0)); all_goals (first | rfl | (with_reducible assumption) | (simp; done) | (simp; omega) | omega | (constructor <;> (simp) <;> omega)))
        · repeat' (first | rintro _ _ ⟨rfl, rfl⟩ | refine exq fun _ => ?_ | intro _ | refine go ?_ | refine drq ?_ | refine cal @hP ?_ | refine spl ?_ ?_ | fail)
          all_goals (apply WE_ret rfl rfl (by (repeat (first | exact ResOk.nil | (apply ResOk.tmp; rfl) | (apply resOk_cell; rfl; exact inferInstance; rfl; rfl)))))
          all_goals first | exact ⟨rfl, rfl⟩ | (apply RL_in; (focus (exact entu0)); all_goals (first | rfl | (with_reducible assumption) | (simp; done) | (simp; omega) | omega | (constructor <;> (simp) <;> omega)))
end Go.Sx
