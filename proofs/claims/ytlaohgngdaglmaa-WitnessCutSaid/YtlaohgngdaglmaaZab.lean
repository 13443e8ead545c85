/- BagR, Msh, Msh2, Msh3, Msh4, Msh5: several of my texts as one. My own work. -/
import Derived.Test.YtlaohgngdaglmaaZaa
/- What the document's bag does. My own work. -/
namespace Go.Sx
open Go Go.Proofs
set_option linter.unusedVariables false
set_option linter.unusedSectionVars false
set_option maxRecDepth 100000
set_option maxHeartbeats 4000000
attribute [local irreducible] Go.Exit.then Go.Exit.inBlock Go.Code.wp WC WO WE WQ V LoopQ FnQ Sat Star band bor IntKind.wrap WR Code.rounds WT KO

theorem take_erase {α : Type} (l : List α) (n i : Nat) (hi : i < l.length) : (l.take (i + 1)).eraseIdx n = if i = n then (l.take i).eraseIdx n else (l.take i).eraseIdx n ++ [l[i]] := by
  have hti : (l.take i).length = i := by rw [List.length_take]; omega
  rw [List.take_add_one]
  simp only [hi, List.getElem?_eq_getElem, Option.toList_some]
  split
  · rename_i h; subst h
    rw [List.eraseIdx_append_of_length_le (by omega), hti, List.eraseIdx_of_length_le (l := l.take i) (k := i) (by omega)]
    simp
  · rename_i h
    by_cases h1 : n < i
    · rw [List.eraseIdx_append_of_lt_length (by omega)]
    · rw [List.eraseIdx_of_length_le (by simp; omega), List.eraseIdx_of_length_le (by omega)]
theorem erase_len {α : Type} (l : List α) (i : Nat) : (l.eraseIdx i).length ≤ l.length := List.length_eraseIdx_le _ _

end Go.Sx

/- What files of misses do. The program's. My own work. -/
namespace Go.Sx
open Go Go.Proofs
set_option linter.unusedVariables false
set_option linter.unusedSectionVars false
set_option linter.unusedSimpArgs false
/-! ## Told of lists -/
def misP (l : List Miss) (line : Int) : Int := indexBy (fun m => decide (m.line = line)) l
def misAt (l : List Miss) (line : Int) : Miss := l.getD (misP l line).toNat .zero
def misIn (l : List Miss) (line : Int) : Bool := decide (0 ≤ misP l line)
def openE (room : Int) (l : List Miss) (line kind : Int) : Int := if kind ≠ 1 ∧ kind ≠ 2 then 1 else if misIn l line then 6 else if (l.length : Int) = room then 4 else 0
def openL (room : Int) (l : List Miss) (line kind : Int) : List Miss := if openE room l line kind = 0 then l ++ [⟨line, kind, -1, 0, 0, .zero, false, false⟩] else l
def owingP (l : List Miss) : Int := indexBy (fun m => m.owes) l
theorem misIn_t {l : List Miss} {line : Int} (h : misIn l line = true) : ∃ i : Nat, ∃ hi : i < l.length, misP l line = i ∧ misAt l line = l[i] ∧ l[i].line = line := by
  obtain ⟨i, hi, h1, h2, _⟩ := indexBy_nat (of_decide_eq_true h)
  refine ⟨i, hi, h1, ?_, by simpa using h2⟩
  unfold misAt misP
  rw [h1]; simp [hi]
theorem misIn_f {l : List Miss} {line : Int} (h : misIn l line = false) : misP l line = -1 := (indexBy_neg (of_decide_eq_false h)).1
set_option maxRecDepth 100000
set_option maxHeartbeats 4000000
attribute [local irreducible] Go.Exit.then Go.Exit.inBlock Go.Code.wp WC WO WE WQ V LoopQ FnQ Sat Star band bor IntKind.wrap WR Code.rounds WT KO
abbrev Msh (b : Nat) (room : Int) (l : List Miss) : HP := RL 233 279 15 msc' b room l
theorem msh_New {F : List HP} {room : Int} (h : 1 ≤ room ∧ room ≤ 8) : FnF Try.prog 86 [.int .i64 room] [] F (fun r L' => ∃ b, r = .tuple [.pointer (some ⟨b, 0, none⟩), .int .i64 0].toArray ∧ L' = [Msh b room []]) := by
  refine FnF.mk' Try.func86 rfl rfl Try.ntmps86 rfl ?_
  repeat (first | rintro _ _ ⟨rfl, rfl⟩ | refine exq fun _ => ?_ | intro _ | refine go ?_ | refine drq ?_)
  (apply WE_ret rfl rfl (by (repeat (first | exact ResOk.nil | (apply ResOk.tmp; rfl) | (apply resOk_cell; rfl; exact inferInstance; rfl; rfl)))))
  · exact ⟨_, rfl, rfl⟩
  · exact RL_in (l := []) (Ent.cons (own_empty Ent.refl)) rfl rfl (by simp; omega)
theorem msh_New_no {F : List HP} {room : Int} (h : ¬ (1 ≤ room ∧ room ≤ 8)) : FnF Try.prog 86 [.int .i64 room] [] F (fun r L' => r = .tuple [.pointer none, .int .i64 1].toArray ∧ L' = []) := by
  refine FnF.mk' Try.func86 rfl rfl Try.ntmps86 rfl ?_
  repeat' (first | rintro _ _ ⟨rfl, rfl⟩ | refine exq fun _ => ?_ | intro _ | refine go ?_ | refine drq ?_ | refine spl ?_ ?_ | fail)
  all_goals first | omega | exact fin0
end Go.Sx

/- What files of misses do, second part. The program's. My own work. -/
namespace Go.Sx
open Go Go.Proofs
set_option linter.unusedVariables false
set_option linter.unusedSectionVars false
set_option linter.unusedSimpArgs false
def misGet (l : List Miss) (line : Int) : Miss := if misIn l line then misAt l line else .zero
def fitsM (m : Miss) (acks own : Int) : Bool := decide (m.needs = -1 ∧ m.got ≤ acks) && (if m.kind = 2 then decide (own = 4) else decide (acks = 0 ∧ (own = 1 ∨ own = 2)))
def dataE (l : List Miss) (line acks own : Int) : Int := if misIn l line then (if fitsM (misAt l line) acks own then 0 else 7) else 5
def dataL (l : List Miss) (line acks own : Int) (w : Words) : List Miss := if dataE l line acks own = 0 then l.set (misP l line).toNat { misAt l line with needs := acks, own := own, words := w } else l
set_option maxRecDepth 100000
set_option maxHeartbeats 4000000
attribute [local irreducible] Go.Exit.then Go.Exit.inBlock Go.Code.wp WC WO WE WQ V LoopQ FnQ Sat Star band bor IntKind.wrap WR Code.rounds WT KO
end Go.Sx

/- What files of misses do, third part. The program's. My own work. -/
namespace Go.Sx
open Go Go.Proofs
set_option linter.unusedVariables false
set_option linter.unusedSectionVars false
set_option linter.unusedSimpArgs false
set_option maxRecDepth 100000
set_option maxHeartbeats 4000000
attribute [local irreducible] Go.Exit.then Go.Exit.inBlock Go.Code.wp WC WO WE WQ V LoopQ FnQ Sat Star band bor IntKind.wrap WR Code.rounds WT KO
end Go.Sx

/- What files of misses do, fourth part. The program's. My own work. -/
namespace Go.Sx
open Go Go.Proofs
set_option linter.unusedVariables false
set_option linter.unusedSectionVars false
set_option linter.unusedSimpArgs false
theorem mis_n {l : List Miss} {i : Nat} (hi : i < l.length) (x : Int) : splice (flat msc' l) (i * 15 + 2) [.int .i64 x] = flat msc' (l.set i { l[i] with needs := x }) :=
  splice_flatJ (enc := msc') (n := 15) (fun _ => rfl) l i hi (j := 2) (cs := [.int .i64 x]) (x := { l[i] with needs := x }) (by simp) rfl
theorem mis_g {l : List Miss} {i : Nat} (hi : i < l.length) (x : Int) : splice (flat msc' l) (i * 15 + 3) [.int .i64 x] = flat msc' (l.set i { l[i] with got := x }) :=
  splice_flatJ (enc := msc') (n := 15) (fun _ => rfl) l i hi (j := 3) (cs := [.int .i64 x]) (x := { l[i] with got := x }) (by simp) rfl
theorem mis_o {l : List Miss} {i : Nat} (hi : i < l.length) (x : Int) : splice (flat msc' l) (i * 15 + 4) [.int .i64 x] = flat msc' (l.set i { l[i] with own := x }) :=
  splice_flatJ (enc := msc') (n := 15) (fun _ => rfl) l i hi (j := 4) (cs := [.int .i64 x]) (x := { l[i] with own := x }) (by simp) rfl
theorem mis_w {l : List Miss} {i : Nat} (hi : i < l.length) (x : Words) : splice (flat msc' l) (i * 15 + 5) (wc x) = flat msc' (l.set i { l[i] with words := x }) :=
  splice_flatJ (enc := msc') (n := 15) (fun _ => rfl) l i hi (j := 5) (cs := wc x) (x := { l[i] with words := x }) (by simp) rfl
theorem mis_gr {l : List Miss} {i : Nat} (hi : i < l.length) (x : Bool) : splice (flat msc' l) (i * 15 + 13) [.bool x] = flat msc' (l.set i { l[i] with granted := x }) :=
  splice_flatJ (enc := msc') (n := 15) (fun _ => rfl) l i hi (j := 13) (cs := [.bool x]) (x := { l[i] with granted := x }) (by simp) rfl
theorem mis_ow {l : List Miss} {i : Nat} (hi : i < l.length) (x : Bool) : splice (flat msc' l) (i * 15 + 14) [.bool x] = flat msc' (l.set i { l[i] with owes := x }) :=
  splice_flatJ (enc := msc') (n := 15) (fun _ => rfl) l i hi (j := 14) (cs := [.bool x]) (x := { l[i] with owes := x }) (by simp) rfl
def ackE (l : List Miss) (line : Int) : Int := if misIn l line then (if (misAt l line).kind = 1 ∨ (misAt l line).needs = (misAt l line).got then 7 else 0) else 5
def ackL (l : List Miss) (line : Int) : List Miss := if ackE l line = 0 then l.set (misP l line).toNat { misAt l line with got := (misAt l line).got + 1 } else l
set_option maxRecDepth 100000
set_option maxHeartbeats 4000000
attribute [local irreducible] Go.Exit.then Go.Exit.inBlock Go.Code.wp WC WO WE WQ V LoopQ FnQ Sat Star band bor IntKind.wrap WR Code.rounds WT KO
end Go.Sx

/- What files of misses do, fifth part. The program's. My own work. -/
namespace Go.Sx
open Go Go.Proofs
set_option linter.unusedVariables false
set_option linter.unusedSectionVars false
set_option linter.unusedSimpArgs false
set_option maxRecDepth 100000
set_option maxHeartbeats 4000000
attribute [local irreducible] Go.Exit.then Go.Exit.inBlock Go.Code.wp WC WO WE WQ V LoopQ FnQ Sat Star band bor IntKind.wrap WR Code.rounds WT KO
end Go.Sx
