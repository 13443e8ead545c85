/- BagR, Msh, Msh2, Msh3, Msh4: several of my texts as one. My own work. -/
import Derived.Test.YtlaohgngdaglmaaGreatZab
/- What the document's bag does. My own work. -/
namespace Go.Sx
open Go Go.Proofs
set_option linter.unusedVariables false
set_option linter.unusedSectionVars false
set_option maxRecDepth 100000
set_option maxHeartbeats 4000000
attribute [local irreducible] Go.Exit.then Go.Exit.inBlock Go.Code.wp WC WO WE WQ V LoopQ FnQ Sat Star band bor IntKind.wrap WR Code.rounds WT KO

theorem take_erase {α : Type} (l : List α) (n i : Nat) (hi : i < l.length) : (l.take (i + 1)).eraseIdx n = if i = n then (l.take i).eraseIdx n else (l.take i).eraseIdx n ++ [l[i]] := by
  have hti : (l.take i).length = i := by rw [List.length_take]; omega
  rw [List.take_add_one]
  simp only [hi, List.getElem?_eq_getElem, Option.toList_some]
  split
  · rename_i h; subst h
    rw [List.eraseIdx_append_of_length_le (by omega), hti, List.eraseIdx_of_length_le (l := l.take i) (k := i) (by omega)]
    simp
  · rename_i h
    by_cases h1 : n < i
    · rw [List.eraseIdx_append_of_lt_length (by omega)]
    · rw [List.eraseIdx_of_length_le (by simp; omega), List.eraseIdx_of_length_le (by omega)]
theorem erase_len {α : Type} (l : List α) (i : Nat) : (l.eraseIdx i).length ≤ l.length := List.length_eraseIdx_le _ _

end Go.Sx

/- What files of misses do. The program's. My own work. -/
namespace Go.Sx
open Go Go.Proofs
set_option linter.unusedVariables false
set_option linter.unusedSectionVars false
set_option linter.unusedSimpArgs false
/-! ## Told of lists -/
def misP (l : List Miss) (line : Int) : Int := indexBy (fun m => decide (m.line = line)) l
def misAt (l : List Miss) (line : Int) : Miss := l.getD (misP l line).toNat .zero
def misIn (l : List Miss) (line : Int) : Bool := decide (0 ≤ misP l line)
def openE (room : Int) (l : List Miss) (line kind : Int) : Int := if kind ≠ 1 ∧ kind ≠ 2 then 1 else if misIn l line then 6 else if (l.length : Int) = room then 4 else 0
def openL (room : Int) (l : List Miss) (line kind : Int) : List Miss := if openE room l line kind = 0 then l ++ [⟨line, kind, -1, 0, 0, .zero, false, false⟩] else l
def owingP (l : List Miss) : Int := indexBy (fun m => m.owes) l
theorem misIn_t {l : List Miss} {line : Int} (h : misIn l line = true) : ∃ i : Nat, ∃ hi : i < l.length, misP l line = i ∧ misAt l line = l[i] ∧ l[i].line = line := by
  obtain ⟨i, hi, h1, h2, _⟩ := indexBy_nat (of_decide_eq_true h)
  refine ⟨i, hi, h1, ?_, by simpa using h2⟩
  unfold misAt misP
  rw [h1]; simp [hi]
theorem misIn_f {l : List Miss} {line : Int} (h : misIn l line = false) : misP l line = -1 := (indexBy_neg (of_decide_eq_false h)).1
set_option maxRecDepth 100000
set_option maxHeartbeats 4000000
attribute [local irreducible] Go.Exit.then Go.Exit.inBlock Go.Code.wp WC WO WE WQ V LoopQ FnQ Sat Star band bor IntKind.wrap WR Code.rounds WT KO
abbrev Msh (b : Nat) (room : Int) (l : List Miss) : HP := RL 236 162 15 msc' b room l
theorem msh_New {F : List HP} {room : Int} (h : 1 ≤ room ∧ room ≤ 8) : FnF Tryz.prog 48 [.int .i64 room] [] F (fun r L' => ∃ b, r = .tuple [.pointer (some ⟨b, 0, none⟩), .int .i64 0].toArray ∧ L' = [Msh b room []]) := by
  refine FnF.mk' Tryz.func48 rfl rfl Tryz.ntmps48 rfl ?_
  repeat (first | rintro _ _ ⟨rfl, rfl⟩ | refine exq fun _ => ?_ | intro _ | refine go ?_ | refine drq ?_)
  (apply WE_ret rfl rfl (by (repeat (first | exact ResOk.nil | (apply ResOk.tmp; rfl) | (apply resOk_cell; rfl; exact inferInstance; rfl; rfl)))))
  · exact ⟨_, rfl, rfl⟩
  · exact RL_in (l := []) (Ent.cons (own_empty Ent.refl)) rfl rfl (by simp; omega)
theorem msh_New_no {F : List HP} {room : Int} (h : ¬ (1 ≤ room ∧ room ≤ 8)) : FnF Tryz.prog 48 [.int .i64 room] [] F (fun r L' => r = .tuple [.pointer none, .int .i64 1].toArray ∧ L' = []) := by
  refine FnF.mk' Tryz.func48 rfl rfl Tryz.ntmps48 rfl ?_
  repeat' (first | rintro _ _ ⟨rfl, rfl⟩ | refine exq fun _ => ?_ | intro _ | refine go ?_ | refine drq ?_ | refine spl ?_ ?_ | fail)
  all_goals first | omega | exact fin0
theorem msh_of1 {F : List HP} {b : Nat} {line : Int} {T : TypeId} {C : List Value → List HP} {m : Miss} (k : CellsAt b F T [.int .i64 line] C) :
    FnF Tryz.prog 208 [msv m, .pointer (some ⟨b, 0, none⟩)] [] F (fun r L' => r = .bool (decide (m.line = line)) ∧ L' = []) := by
  refine FnF.mk' Tryz.func208 rfl rfl Tryz.ntmps208 rfl ?_
  repeat (first | rintro _ _ ⟨rfl, rfl⟩ | refine exq fun _ => ?_ | intro _ | refine go ?_ | refine drq ?_)
  exact fin0
theorem msh_owing1 {F : List HP} {m : Miss} : FnF Tryz.prog 189 [msv m] [] F (fun r L' => r = .bool m.owes ∧ L' = []) := by
  refine FnF.mk' Tryz.func189 rfl rfl Tryz.ntmps189 rfl ?_
  repeat (first | rintro _ _ ⟨rfl, rfl⟩ | refine exq fun _ => ?_ | intro _ | refine go ?_ | refine drq ?_)
  exact fin0
theorem msh_List {F : List HP} {b : Nat} {room : Int} {l : List Miss} : FnF Tryz.prog 86 [.pointer (some ⟨b, 0, none⟩)] [Msh b room l] F (fun r L' => ∃ p c, r = .slice p l.length c ∧ L' = [Own 162 15 (.slice p l.length c) l.length (flat msc' l), Msh b room l]) := by
  refine FnF.mk' Tryz.func86 rfl rfl Tryz.ntmps86 rfl ?_
  refine RL_open fun p c hl => ?_
  repeat (first | rintro _ _ ⟨rfl, rfl⟩ | refine exq fun _ => ?_ | intro _ | refine go ?_ | refine drq ?_ | refine cal @sl_Clone_miss ?_)
  (apply WE_ret rfl rfl (by (repeat (first | exact ResOk.nil | (apply ResOk.tmp; rfl) | (apply resOk_cell; rfl; exact inferInstance; rfl; rfl)))))
  · exact ⟨_, _, rfl, rfl⟩
  · ((repeat (first | (with_reducible exact Ent.refl) | exact Ent.nil | (apply ent_pickE; (focus ((repeat (first | (with_reducible exact pk_here) | (apply pk_there))); done))) | (apply RL_in) | apply Ent.drop)); all_goals (first | rfl | (with_reducible assumption) | (simp; done) | (simp; omega) | omega | (constructor <;> (simp) <;> omega)))
theorem msh_atO {F : List HP} {b bl : Nat} {room : Int} {l : List Miss} {line : Int} {p : Option Addr} {c : Nat} {C : List Value → List HP} (k1 : CellsAt bl F 3 [.int .i64 line] C) (hn : l.length ≤ 4096) :
    FnF Tryz.prog 188 [.pointer (some ⟨b, 0, none⟩), .func (.func 208) [].toArray [.pointer (some ⟨bl, 0, none⟩)].toArray] [Cells b 236 [.int .i64 room, .slice p l.length c], Own 162 15 (.slice p l.length c) l.length (flat msc' l)] F
      (fun r L' => r = .int .i64 (misP l line) ∧ L' = [Cells b 236 [.int .i64 room, .slice p l.length c], Own 162 15 (.slice p l.length c) l.length (flat msc' l)]) := by
  have hI := fun F (C : List Value → List HP) (k1' : CellsAt bl F 3 [.int .i64 line] C) (k : RdL F 15 (.slice p l.length c) l.length (flat msc' l)) =>
    sl_IndexFunc_miss (F := F) (v := .slice p l.length c) (l := l) (fk := 208) (first := []) (cap := [.pointer (some ⟨bl, 0, none⟩)]) (p := fun m => decide (m.line = line)) k (by omega) (fun x _ => msh_of1 k1')
  refine FnF.mk' Tryz.func188 rfl rfl Tryz.ntmps188 rfl ?_
  repeat (first | rintro _ _ ⟨rfl, rfl⟩ | refine exq fun _ => ?_ | intro _ | refine go ?_ | refine drq ?_ | refine cal @hI ?_)
  (apply WE_ret rfl rfl (by (repeat (first | exact ResOk.nil | (apply ResOk.tmp; rfl) | (apply resOk_cell; rfl; exact inferInstance; rfl; rfl)))); (first | exact ⟨rfl, rfl⟩ | exact ⟨congrArg Value.bool (by decide), rfl⟩ | exact ⟨_, rfl, rfl⟩ | exact ⟨_, _, rfl, rfl⟩ | exact ⟨by first | (simp [misP]; done) | (simp [misP] <;> omega), rfl⟩); (repeat (first | exact Ent.refl | exact Ent.nil | apply Ent.pick | apply Ent.drop)))
theorem msh_ofO {F : List HP} {b : Nat} {room : Int} {l : List Miss} {line : Int} {p : Option Addr} {c : Nat} (hn : l.length ≤ 4096) :
    FnF Tryz.prog 163 [.pointer (some ⟨b, 0, none⟩), .int .i64 line] [Cells b 236 [.int .i64 room, .slice p l.length c], Own 162 15 (.slice p l.length c) l.length (flat msc' l)] F
      (fun r L' => r = .pointer (if misIn l line then some ⟨pb (.slice p l.length c), po (.slice p l.length c) + (misP l line).toNat * 15, none⟩ else none) ∧ L' = [Cells b 236 [.int .i64 room, .slice p l.length c], Own 162 15 (.slice p l.length c) l.length (flat msc' l)]) := by
  have hA := fun F (bl : Nat) (C : List Value → List HP) (k1 : CellsAt bl F 3 [.int .i64 line] C) => msh_atO (F := F) (b := b) (room := room) (l := l) (p := p) (c := c) k1 hn
  cases h : misIn l line with
  | true =>
    obtain ⟨i, hi, e1, _, _⟩ := misIn_t h
    rw [e1] at hA
    rw [e1, if_pos rfl, Int.toNat_natCast]
    refine FnF.mk' Tryz.func163 rfl rfl Tryz.ntmps163 rfl ?_
    repeat (first | rintro _ _ ⟨rfl, rfl⟩ | refine exq fun _ => ?_ | intro _ | refine go ?_ | refine drq ?_ | refine cal @hA ?_)
    exact fin0
  | false =>
    rw [misIn_f h] at hA
    rw [if_neg Bool.false_ne_true]
    refine FnF.mk' Tryz.func163 rfl rfl Tryz.ntmps163 rfl ?_
    repeat (first | rintro _ _ ⟨rfl, rfl⟩ | refine exq fun _ => ?_ | intro _ | refine go ?_ | refine drq ?_ | refine cal @hA ?_)
    exact fin0
end Go.Sx

/- What files of misses do, second part. The program's. My own work. -/
namespace Go.Sx
open Go Go.Proofs
set_option linter.unusedVariables false
set_option linter.unusedSectionVars false
set_option linter.unusedSimpArgs false
def misGet (l : List Miss) (line : Int) : Miss := if misIn l line then misAt l line else .zero
def fitsM (m : Miss) (acks own : Int) : Bool := decide (m.needs = -1 ∧ m.got ≤ acks) && (if m.kind = 2 then decide (own = 4) else decide (acks = 0 ∧ (own = 1 ∨ own = 2)))
def dataE (l : List Miss) (line acks own : Int) : Int := if misIn l line then (if fitsM (misAt l line) acks own then 0 else 7) else 5
def dataL (l : List Miss) (line acks own : Int) (w : Words) : List Miss := if dataE l line acks own = 0 then l.set (misP l line).toNat { misAt l line with needs := acks, own := own, words := w } else l
set_option maxRecDepth 100000
set_option maxHeartbeats 4000000
attribute [local irreducible] Go.Exit.then Go.Exit.inBlock Go.Code.wp WC WO WE WQ V LoopQ FnQ Sat Star band bor IntKind.wrap WR Code.rounds WT KO
theorem msh_Open {F : List HP} {b : Nat} {room : Int} {l : List Miss} {line kind : Int} :
    FnF Tryz.prog 89 [.pointer (some ⟨b, 0, none⟩), .int .i64 line, .int .i64 kind] [Msh b room l] F (fun r L' => r = .int .i64 (openE room l line kind) ∧ L' = [Msh b room (openL room l line kind)]) := by
  refine FnF.mk' Tryz.func89 rfl rfl Tryz.ntmps89 rfl ?_
  by_cases hk : kind ≠ 1 ∧ kind ≠ 2
  · have e1 : openE room l line kind = 1 := if_pos hk
    have e2 : openL room l line kind = l := by unfold openL; rw [e1]; rfl
    obtain ⟨hk1, hk2⟩ := hk
    rw [e1, e2]
    repeat (first | rintro _ _ ⟨rfl, rfl⟩ | refine exq fun _ => ?_ | intro _ | refine go ?_ | refine drq ?_)
    exact fin0
  · refine RL_open fun p c hl => ?_
    have hO := fun F => msh_ofO (F := F) (b := b) (room := room) (l := l) (line := line) (p := p) (c := c) (by omega)
    have hkk : kind = 1 ∨ ¬ kind = 1 ∧ kind = 2 := by omega
    cases h : misIn l line with
    | true =>
      have e1 : openE room l line kind = 6 := by unfold openE; rw [if_neg hk, if_pos h]
      have e2 : openL room l line kind = l := by unfold openL; rw [e1]; rfl
      rw [e1, e2]
      rw [if_pos h] at hO
      rcases hkk with h1 | ⟨h1, h2⟩
      · repeat (first | rintro _ _ ⟨rfl, rfl⟩ | refine exq fun _ => ?_ | intro _ | refine go ?_ | refine drq ?_ | refine cal @hO ?_)
        (apply WE_ret rfl rfl (by (repeat (first | exact ResOk.nil | (apply ResOk.tmp; rfl) | (apply resOk_cell; rfl; exact inferInstance; rfl; rfl)))))
        · exact ⟨rfl, rfl⟩
        · (apply RL_in; (focus (exact entu0)); all_goals (first | rfl | (with_reducible assumption) | (simp; done) | (simp; omega) | omega | (constructor <;> (simp) <;> omega)))
      · repeat (first | rintro _ _ ⟨rfl, rfl⟩ | refine exq fun _ => ?_ | intro _ | refine go ?_ | refine drq ?_ | refine cal @hO ?_)
        (apply WE_ret rfl rfl (by (repeat (first | exact ResOk.nil | (apply ResOk.tmp; rfl) | (apply resOk_cell; rfl; exact inferInstance; rfl; rfl)))))
        · exact ⟨rfl, rfl⟩
        · (apply RL_in; (focus (exact entu0)); all_goals (first | rfl | (with_reducible assumption) | (simp; done) | (simp; omega) | omega | (constructor <;> (simp) <;> omega)))
    | false =>
      rw [h, if_neg Bool.false_ne_true] at hO
      by_cases hf : (l.length : Int) = room
      · have e1 : openE room l line kind = 4 := by unfold openE; rw [if_neg hk, h, if_neg Bool.false_ne_true, if_pos hf]
        have e2 : openL room l line kind = l := by unfold openL; rw [e1]; rfl
        rw [e1, e2]
        rcases hkk with h1 | ⟨h1, h2⟩
        · repeat (first | rintro _ _ ⟨rfl, rfl⟩ | refine exq fun _ => ?_ | intro _ | refine go ?_ | refine drq ?_ | refine cal @hO ?_)
          (apply WE_ret rfl rfl (by (repeat (first | exact ResOk.nil | (apply ResOk.tmp; rfl) | (apply resOk_cell; rfl; exact inferInstance; rfl; rfl)))))
          · exact ⟨rfl, rfl⟩
          · (apply RL_in; (focus (exact entu0)); all_goals (first | rfl | (with_reducible assumption) | (simp; done) | (simp; omega) | omega | (constructor <;> (simp) <;> omega)))
        · repeat (first | rintro _ _ ⟨rfl, rfl⟩ | refine exq fun _ => ?_ | intro _ | refine go ?_ | refine drq ?_ | refine cal @hO ?_)
          (apply WE_ret rfl rfl (by (repeat (first | exact ResOk.nil | (apply ResOk.tmp; rfl) | (apply resOk_cell; rfl; exact inferInstance; rfl; rfl)))))
          · exact ⟨rfl, rfl⟩
          · (apply RL_in; (focus (exact entu0)); all_goals (first | rfl | (with_reducible assumption) | (simp; done) | (simp; omega) | omega | (constructor <;> (simp) <;> omega)))
      · have e1 : openE room l line kind = 0 := by unfold openE; rw [if_neg hk, h, if_neg Bool.false_ne_true, if_neg hf]
        have e2 : openL room l line kind = l ++ [⟨line, kind, -1, 0, 0, .zero, false, false⟩] := by unfold openL; rw [e1]; rfl
        rw [e1, e2]
        rcases hkk with h1 | ⟨h1, h2⟩
        · repeat (first | rintro _ _ ⟨rfl, rfl⟩ | refine exq fun _ => ?_ | intro _ | refine go ?_ | refine drq ?_ | refine cal @hO ?_)
          (apply WE_ret rfl rfl (by (repeat (first | exact ResOk.nil | (apply ResOk.tmp; rfl) | (apply resOk_cell; rfl; exact inferInstance; rfl; rfl)))))
          · exact ⟨rfl, rfl⟩
          · (apply RL_in; (focus (exact entu0)); all_goals (first | rfl | (with_reducible assumption) | (simp [flat_append, flat_one]; done) | (simp [flat_append, flat_one]; omega) | omega | (constructor <;> (simp [flat_append, flat_one]) <;> omega)))
        · repeat (first | rintro _ _ ⟨rfl, rfl⟩ | refine exq fun _ => ?_ | intro _ | refine go ?_ | refine drq ?_ | refine cal @hO ?_)
          (apply WE_ret rfl rfl (by (repeat (first | exact ResOk.nil | (apply ResOk.tmp; rfl) | (apply resOk_cell; rfl; exact inferInstance; rfl; rfl)))))
          · exact ⟨rfl, rfl⟩
          · (apply RL_in; (focus (exact entu0)); all_goals (first | rfl | (with_reducible assumption) | (simp [flat_append, flat_one]; done) | (simp [flat_append, flat_one]; omega) | omega | (constructor <;> (simp [flat_append, flat_one]) <;> omega)))
theorem msh_Get {F : List HP} {b : Nat} {room : Int} {l : List Miss} {line : Int} :
    FnF Tryz.prog 83 [.pointer (some ⟨b, 0, none⟩), .int .i64 line] [Msh b room l] F (fun r L' => r = .tuple [msv (misGet l line), .bool (misIn l line)].toArray ∧ L' = [Msh b room l]) := by
  refine FnF.mk' Tryz.func83 rfl rfl Tryz.ntmps83 rfl ?_
  refine RL_open fun p c hl => ?_
  have hO := fun F => msh_ofO (F := F) (b := b) (room := room) (l := l) (line := line) (p := p) (c := c) (by omega)
  cases h : misIn l line with
  | true =>
    obtain ⟨i, hi, e1, e2, _⟩ := misIn_t h
    have e3 : misGet l line = l[i] := by unfold misGet; rw [if_pos h, e2]
    rw [e3]
    rw [if_pos h, e1, Int.toNat_natCast] at hO
    repeat (first | rintro _ _ ⟨rfl, rfl⟩ | refine exq fun _ => ?_ | intro _ | refine go ?_ | refine drq ?_ | refine cal @hO ?_)
    (apply WE_ret rfl rfl (by (repeat (first | exact ResOk.nil | (apply ResOk.tmp; rfl) | (apply resOk_cell; rfl; exact inferInstance; rfl; rfl)))))
    · exact ⟨rfl, rfl⟩
    · (apply RL_in; (focus (exact entu0)); all_goals (first | rfl | (with_reducible assumption) | (simp; done) | (simp; omega) | omega | (constructor <;> (simp) <;> omega)))
  | false =>
    have e3 : misGet l line = .zero := by unfold misGet; rw [h]; rfl
    rw [e3]
    rw [h, if_neg Bool.false_ne_true] at hO
    repeat (first | rintro _ _ ⟨rfl, rfl⟩ | refine exq fun _ => ?_ | intro _ | refine go ?_ | refine drq ?_ | refine cal @hO ?_)
    (apply WE_ret rfl rfl (by (repeat (first | exact ResOk.nil | (apply ResOk.tmp; rfl) | (apply resOk_cell; rfl; exact inferInstance; rfl; rfl)))))
    · exact ⟨rfl, rfl⟩
    · (apply RL_in; (focus (exact entu0)); all_goals (first | rfl | (with_reducible assumption) | (simp; done) | (simp; omega) | omega | (constructor <;> (simp) <;> omega)))
end Go.Sx

/- What files of misses do, third part. The program's. My own work. -/
namespace Go.Sx
open Go Go.Proofs
set_option linter.unusedVariables false
set_option linter.unusedSectionVars false
set_option linter.unusedSimpArgs false
set_option maxRecDepth 100000
set_option maxHeartbeats 4000000
attribute [local irreducible] Go.Exit.then Go.Exit.inBlock Go.Code.wp WC WO WE WQ V LoopQ FnQ Sat Star band bor IntKind.wrap WR Code.rounds WT KO
theorem msh_fits {F : List HP} {l : List Miss} {i : Nat} {acks own : Int} {p : Option Addr} {c : Nat} (hi : i < l.length) (hn : l.length ≤ 4096) :
    FnF Tryz.prog 207 [.pointer (some ⟨pb (.slice p l.length c), po (.slice p l.length c) + i * 15, none⟩), .int .i64 acks, .int .i64 own] [Own 162 15 (.slice p l.length c) l.length (flat msc' l)] F
      (fun r L' => r = .bool (fitsM l[i] acks own) ∧ L' = [Own 162 15 (.slice p l.length c) l.length (flat msc' l)]) := by
  refine FnF.mk' Tryz.func207 rfl rfl Tryz.ntmps207 rfl ?_
  unfold fitsM
  by_cases h1 : l[i].needs = -1
  · by_cases h2 : acks < l[i].got
    · rw [decide_eq_false (by omega), Bool.false_and]
      repeat (first | rintro _ _ ⟨rfl, rfl⟩ | refine exq fun _ => ?_ | intro _ | refine go ?_ | refine drq ?_)
      exact fin0
    · rw [decide_eq_true (by omega), Bool.true_and]
      by_cases h3 : l[i].kind = 2
      · rw [if_pos h3]
        repeat (first | rintro _ _ ⟨rfl, rfl⟩ | refine exq fun _ => ?_ | intro _ | refine go ?_ | refine drq ?_)
        exact fin0
      · rw [if_neg h3]
        by_cases h4 : acks = 0
        · by_cases h5 : own = 1
          · repeat (first | rintro _ _ ⟨rfl, rfl⟩ | refine exq fun _ => ?_ | intro _ | refine go ?_ | refine drq ?_)
            (apply WE_ret rfl rfl (by (repeat (first | exact ResOk.nil | (apply ResOk.tmp; rfl) | (apply resOk_cell; rfl; exact inferInstance; rfl; rfl)))); (first | exact ⟨rfl, rfl⟩ | exact ⟨congrArg Value.bool (by decide), rfl⟩ | exact ⟨_, rfl, rfl⟩ | exact ⟨_, _, rfl, rfl⟩ | exact ⟨by first | (simp [h4, h5]; done) | (simp [h4, h5] <;> omega), rfl⟩); (repeat (first | exact Ent.refl | exact Ent.nil | apply Ent.pick | apply Ent.drop)))
          · repeat (first | rintro _ _ ⟨rfl, rfl⟩ | refine exq fun _ => ?_ | intro _ | refine go ?_ | refine drq ?_)
            (apply WE_ret rfl rfl (by (repeat (first | exact ResOk.nil | (apply ResOk.tmp; rfl) | (apply resOk_cell; rfl; exact inferInstance; rfl; rfl)))); (first | exact ⟨rfl, rfl⟩ | exact ⟨congrArg Value.bool (by decide), rfl⟩ | exact ⟨_, rfl, rfl⟩ | exact ⟨_, _, rfl, rfl⟩ | exact ⟨by first | (simp [h4, h5]; done) | (simp [h4, h5] <;> omega), rfl⟩); (repeat (first | exact Ent.refl | exact Ent.nil | apply Ent.pick | apply Ent.drop)))
        · repeat (first | rintro _ _ ⟨rfl, rfl⟩ | refine exq fun _ => ?_ | intro _ | refine go ?_ | refine drq ?_)
          (apply WE_ret rfl rfl (by (repeat (first | exact ResOk.nil | (apply ResOk.tmp; rfl) | (apply resOk_cell; rfl; exact inferInstance; rfl; rfl)))); (first | exact ⟨rfl, rfl⟩ | exact ⟨congrArg Value.bool (by decide), rfl⟩ | exact ⟨_, rfl, rfl⟩ | exact ⟨_, _, rfl, rfl⟩ | exact ⟨by first | (simp [h4]; done) | (simp [h4] <;> omega), rfl⟩); (repeat (first | exact Ent.refl | exact Ent.nil | apply Ent.pick | apply Ent.drop)))
  · rw [decide_eq_false (by omega), Bool.false_and]
    repeat (first | rintro _ _ ⟨rfl, rfl⟩ | refine exq fun _ => ?_ | intro _ | refine go ?_ | refine drq ?_)
    exact fin0
end Go.Sx

/- What files of misses do, fourth part. The program's. My own work. -/
namespace Go.Sx
open Go Go.Proofs
set_option linter.unusedVariables false
set_option linter.unusedSectionVars false
set_option linter.unusedSimpArgs false
theorem mis_n {l : List Miss} {i : Nat} (hi : i < l.length) (x : Int) : splice (flat msc' l) (i * 15 + 2) [.int .i64 x] = flat msc' (l.set i { l[i] with needs := x }) :=
  splice_flatJ (enc := msc') (n := 15) (fun _ => rfl) l i hi (j := 2) (cs := [.int .i64 x]) (x := { l[i] with needs := x }) (by simp) rfl
theorem mis_g {l : List Miss} {i : Nat} (hi : i < l.length) (x : Int) : splice (flat msc' l) (i * 15 + 3) [.int .i64 x] = flat msc' (l.set i { l[i] with got := x }) :=
  splice_flatJ (enc := msc') (n := 15) (fun _ => rfl) l i hi (j := 3) (cs := [.int .i64 x]) (x := { l[i] with got := x }) (by simp) rfl
theorem mis_o {l : List Miss} {i : Nat} (hi : i < l.length) (x : Int) : splice (flat msc' l) (i * 15 + 4) [.int .i64 x] = flat msc' (l.set i { l[i] with own := x }) :=
  splice_flatJ (enc := msc') (n := 15) (fun _ => rfl) l i hi (j := 4) (cs := [.int .i64 x]) (x := { l[i] with own := x }) (by simp) rfl
theorem mis_w {l : List Miss} {i : Nat} (hi : i < l.length) (x : Words) : splice (flat msc' l) (i * 15 + 5) (wc x) = flat msc' (l.set i { l[i] with words := x }) :=
  splice_flatJ (enc := msc') (n := 15) (fun _ => rfl) l i hi (j := 5) (cs := wc x) (x := { l[i] with words := x }) (by simp) rfl
theorem mis_gr {l : List Miss} {i : Nat} (hi : i < l.length) (x : Bool) : splice (flat msc' l) (i * 15 + 13) [.bool x] = flat msc' (l.set i { l[i] with granted := x }) :=
  splice_flatJ (enc := msc') (n := 15) (fun _ => rfl) l i hi (j := 13) (cs := [.bool x]) (x := { l[i] with granted := x }) (by simp) rfl
theorem mis_ow {l : List Miss} {i : Nat} (hi : i < l.length) (x : Bool) : splice (flat msc' l) (i * 15 + 14) [.bool x] = flat msc' (l.set i { l[i] with owes := x }) :=
  splice_flatJ (enc := msc') (n := 15) (fun _ => rfl) l i hi (j := 14) (cs := [.bool x]) (x := { l[i] with owes := x }) (by simp) rfl
def ackE (l : List Miss) (line : Int) : Int := if misIn l line then (if (misAt l line).kind = 1 ∨ (misAt l line).needs = (misAt l line).got then 7 else 0) else 5
def ackL (l : List Miss) (line : Int) : List Miss := if ackE l line = 0 then l.set (misP l line).toNat { misAt l line with got := (misAt l line).got + 1 } else l
set_option maxRecDepth 100000
set_option maxHeartbeats 4000000
attribute [local irreducible] Go.Exit.then Go.Exit.inBlock Go.Code.wp WC WO WE WQ V LoopQ FnQ Sat Star band bor IntKind.wrap WR Code.rounds WT KO
theorem msh_Ack {F : List HP} {b : Nat} {room : Int} {l : List Miss} {line : Int} (hg : ∀ m ∈ l, -9223372036854775808 ≤ m.got ∧ m.got ≤ 9223372036854775806) :
    FnF Tryz.prog 162 [.pointer (some ⟨b, 0, none⟩), .int .i64 line] [Msh b room l] F (fun r L' => r = .int .i64 (ackE l line) ∧ L' = [Msh b room (ackL l line)]) := by
  refine FnF.mk' Tryz.func162 rfl rfl Tryz.ntmps162 rfl ?_
  refine RL_open fun p c hl => ?_
  have hO := fun F => msh_ofO (F := F) (b := b) (room := room) (l := l) (line := line) (p := p) (c := c) (by omega)
  cases h : misIn l line with
  | false =>
    have e1 : ackE l line = 5 := by unfold ackE; rw [h]; rfl
    have e2 : ackL l line = l := by unfold ackL; rw [e1]; rfl
    rw [e1, e2]
    rw [h, if_neg Bool.false_ne_true] at hO
    repeat (first | rintro _ _ ⟨rfl, rfl⟩ | refine exq fun _ => ?_ | intro _ | refine go ?_ | refine drq ?_ | refine cal @hO ?_)
    (apply WE_ret rfl rfl (by (repeat (first | exact ResOk.nil | (apply ResOk.tmp; rfl) | (apply resOk_cell; rfl; exact inferInstance; rfl; rfl)))))
    · exact ⟨rfl, rfl⟩
    · (apply RL_in; (focus (exact entu0)); all_goals (first | rfl | (with_reducible assumption) | (simp; done) | (simp; omega) | omega | (constructor <;> (simp) <;> omega)))
  | true =>
    obtain ⟨i, hi, e0, ea, _⟩ := misIn_t h
    rw [if_pos h, e0, Int.toNat_natCast] at hO
    have hgi := hg _ (List.getElem_mem hi)
    by_cases h1 : l[i].kind = 1
    · have e1 : ackE l line = 7 := by unfold ackE; rw [if_pos h, ea, if_pos (.inl h1)]
      have e2 : ackL l line = l := by unfold ackL; rw [e1]; rfl
      rw [e1, e2]
      repeat' (first | rintro _ _ ⟨rfl, rfl⟩ | refine exq fun _ => ?_ | intro _ | refine go ?_ | refine drq ?_ | refine cal @hO ?_ | refine spl ?_ ?_ | fail)
      all_goals (apply WE_ret rfl rfl (by (repeat (first | exact ResOk.nil | (apply ResOk.tmp; rfl) | (apply resOk_cell; rfl; exact inferInstance; rfl; rfl)))))
      all_goals first | exact ⟨rfl, rfl⟩ | (apply RL_in; (focus (exact entu0)); all_goals (first | rfl | (with_reducible assumption) | (simp; done) | (simp; omega) | omega | (constructor <;> (simp) <;> omega)))
    · by_cases h2 : l[i].needs = l[i].got
      · have e1 : ackE l line = 7 := by unfold ackE; rw [if_pos h, ea, if_pos (.inr h2)]
        have e2 : ackL l line = l := by unfold ackL; rw [e1]; rfl
        rw [e1, e2]
        repeat' (first | rintro _ _ ⟨rfl, rfl⟩ | refine exq fun _ => ?_ | intro _ | refine go ?_ | refine drq ?_ | refine cal @hO ?_ | refine spl ?_ ?_ | fail)
        all_goals (apply WE_ret rfl rfl (by (repeat (first | exact ResOk.nil | (apply ResOk.tmp; rfl) | (apply resOk_cell; rfl; exact inferInstance; rfl; rfl)))))
        all_goals first | exact ⟨rfl, rfl⟩ | (apply RL_in; (focus (exact entu0)); all_goals (first | rfl | (with_reducible assumption) | (simp; done) | (simp; omega) | omega | (constructor <;> (simp) <;> omega)))
      · have e1 : ackE l line = 0 := by unfold ackE; rw [if_pos h, ea, if_neg (by omega)]
        have e2 : ackL l line = l.set i { l[i] with got := l[i].got + 1 } := by unfold ackL; rw [if_pos e1, e0, Int.toNat_natCast, ea]
        rw [e1, e2]
        repeat' (first | rintro _ _ ⟨rfl, rfl⟩ | refine exq fun _ => ?_ | intro _ | refine go ?_ | refine drq ?_ | refine cal @hO ?_ | refine spl ?_ ?_ | fail)
        all_goals rw [mis_g hi]
        all_goals (apply WE_ret rfl rfl (by (repeat (first | exact ResOk.nil | (apply ResOk.tmp; rfl) | (apply resOk_cell; rfl; exact inferInstance; rfl; rfl)))))
        all_goals first | exact ⟨rfl, rfl⟩ | (rw [show l.length = (l.set i { l[i] with got := l[i].got + 1 }).length by simp]; (apply RL_in; (focus (exact entu0)); all_goals (first | rfl | (with_reducible assumption) | (simp; done) | (simp; omega) | omega | (constructor <;> (simp) <;> omega))))
end Go.Sx
