/-
  No cell of these rows narrows 'for every input' (looked for: loops, veiled, ifaces, maps, wideKeys, modest, calm, conditions, laid).
  DERIVED. THE GIVEN ROWS OF THIS SEAT. 6 by the template 'for every input the law returns true; each argument reads behind the call as it read before'; 0 by the template 'total and deterministic' (their statements: YtngjlgddgamjkaaTotals.lean).
  GIVEN WITH THE SEED: the statements are not yours to turn. If you find one false, say at which input.
  Laid BY PROGRAM, IN A SANDBOX (cutbox-rows.mjs): the forced cells as the released guide's own fill.sh prints them over the translation c527637181c3807b… (all of the seat's roots in one cut). By AI agents, Wed Nov 11 2026. No macro, syntax, notation, axiom, sorry.
-/
import Derived.Test.YtngjlgddgamjkaaChecked
import GoSem.Claim
import GoSem.ClaimJoined
import GoSem.ClaimMapViews
import Derived.JoinedTies
import Derived.KernelRfl
namespace Go.Proofs.Ytngjlgddgamjkaa
/- THE CELL 'sum', in the pinned program and in every row, IS THE sha256 OF THE DUMP (.gsa) THAT YtngjlgddgamjkaaProg.lean LOADS. Nothing in Lean hashes anything: it is a label: what it is worth is what the hold of that sum in a sandbox is worth. -/
noncomputable def Try.pinned : Pinned := { name := "ytngjlgddgamjkaa", sum := "c527637181c3807b5a54ceeaf03650acfe9096763b3271337e57cfbdb3eab91e", checked := Try.checked }
namespace Rows
def none {H : Type} : Left H := { results := [], args := [] }

/-- 'mesnelaw01.ShapeTells': WHATEVER THE INPUT: true; the input reads as it did. -/
def shapeTellsSpec : ChangeSpec := { name := "shapeTells", fn := fun _ => fun
  | [d1, d2] => { results := [.lit (.bool true)], args := [d1, d2] }
  | _ => none }
def shapeTellsRow : OpenClaim := { program := "ytngjlgddgamjkaa", sum := "c527637181c3807b5a54ceeaf03650acfe9096763b3271337e57cfbdb3eab91e", func := "mesne/mesnelaw01.ShapeTells", spec := "shapeTells", apart := false }
def ShapeTellsSaid : Prop := shapeTellsRow.holds Try.pinned (OpenSpec.ofChange shapeTellsSpec)

/-- ITS FALSE NEIGHBOUR: 'it returns false'. Refute it at one input. -/
def shapeTellsWrong : ChangeSpec := { name := "shapeTells", fn := fun _ => fun
  | [d1, d2] => { results := [.lit (.bool false)], args := [d1, d2] }
  | _ => none }
def ShapeTellsWrongFalsely : Prop := shapeTellsRow.holds Try.pinned (OpenSpec.ofChange shapeTellsWrong)

/-- 'mesnelaw01.ShapePowers': WHATEVER THE INPUT: true; the input reads as it did. -/
def shapePowersSpec : ChangeSpec := { name := "shapePowers", fn := fun _ => fun
  | [d1, d2] => { results := [.lit (.bool true)], args := [d1, d2] }
  | _ => none }
def shapePowersRow : OpenClaim := { program := "ytngjlgddgamjkaa", sum := "c527637181c3807b5a54ceeaf03650acfe9096763b3271337e57cfbdb3eab91e", func := "mesne/mesnelaw01.ShapePowers", spec := "shapePowers", apart := false }
def ShapePowersSaid : Prop := shapePowersRow.holds Try.pinned (OpenSpec.ofChange shapePowersSpec)

/-- ITS FALSE NEIGHBOUR: 'it returns false'. Refute it at one input. -/
def shapePowersWrong : ChangeSpec := { name := "shapePowers", fn := fun _ => fun
  | [d1, d2] => { results := [.lit (.bool false)], args := [d1, d2] }
  | _ => none }
def ShapePowersWrongFalsely : Prop := shapePowersRow.holds Try.pinned (OpenSpec.ofChange shapePowersWrong)

/-- 'mesnelaw01.ShapeLess': WHATEVER THE INPUT: true; the input reads as it did. -/
def shapeLessSpec : ChangeSpec := { name := "shapeLess", fn := fun _ => fun
  | [d] => { results := [.lit (.bool true)], args := [d] }
  | _ => none }
def shapeLessRow : OpenClaim := { program := "ytngjlgddgamjkaa", sum := "c527637181c3807b5a54ceeaf03650acfe9096763b3271337e57cfbdb3eab91e", func := "mesne/mesnelaw01.ShapeLess", spec := "shapeLess", apart := false }
def ShapeLessSaid : Prop := shapeLessRow.holds Try.pinned (OpenSpec.ofChange shapeLessSpec)

/-- ITS FALSE NEIGHBOUR: 'it returns false'. Refute it at one input. -/
def shapeLessWrong : ChangeSpec := { name := "shapeLess", fn := fun _ => fun
  | [d] => { results := [.lit (.bool false)], args := [d] }
  | _ => none }
def ShapeLessWrongFalsely : Prop := shapeLessRow.holds Try.pinned (OpenSpec.ofChange shapeLessWrong)

/-- 'mesnelaw06.BagDoes': WHATEVER THE INPUT: true; the input reads as it did. -/
def bagDoesSpec : ChangeSpec := { name := "bagDoes", fn := fun _ => fun
  | [d1, d2] => { results := [.lit (.bool true)], args := [d1, d2] }
  | _ => none }
def bagDoesRow : OpenClaim := { program := "ytngjlgddgamjkaa", sum := "c527637181c3807b5a54ceeaf03650acfe9096763b3271337e57cfbdb3eab91e", func := "mesne/mesnelaw06.BagDoes", spec := "bagDoes", apart := false }
def BagDoesSaid : Prop := bagDoesRow.holds Try.pinned (OpenSpec.ofChange bagDoesSpec)

/-- ITS FALSE NEIGHBOUR: 'it returns false'. Refute it at one input. -/
def bagDoesWrong : ChangeSpec := { name := "bagDoes", fn := fun _ => fun
  | [d1, d2] => { results := [.lit (.bool false)], args := [d1, d2] }
  | _ => none }
def BagDoesWrongFalsely : Prop := bagDoesRow.holds Try.pinned (OpenSpec.ofChange bagDoesWrong)

/-- 'mesnelaw06.BagKeeps': WHATEVER THE INPUT: true; the input reads as it did. -/
def bagKeepsSpec : ChangeSpec := { name := "bagKeeps", fn := fun _ => fun
  | [d1, d2] => { results := [.lit (.bool true)], args := [d1, d2] }
  | _ => none }
def bagKeepsRow : OpenClaim := { program := "ytngjlgddgamjkaa", sum := "c527637181c3807b5a54ceeaf03650acfe9096763b3271337e57cfbdb3eab91e", func := "mesne/mesnelaw06.BagKeeps", spec := "bagKeeps", apart := false }
def BagKeepsSaid : Prop := bagKeepsRow.holds Try.pinned (OpenSpec.ofChange bagKeepsSpec)

/-- ITS FALSE NEIGHBOUR: 'it returns false'. Refute it at one input. -/
def bagKeepsWrong : ChangeSpec := { name := "bagKeeps", fn := fun _ => fun
  | [d1, d2] => { results := [.lit (.bool false)], args := [d1, d2] }
  | _ => none }
def BagKeepsWrongFalsely : Prop := bagKeepsRow.holds Try.pinned (OpenSpec.ofChange bagKeepsWrong)

/-- 'mesnelaw06.BagFirst': WHATEVER THE INPUT: true; the input reads as it did. -/
def bagFirstSpec : ChangeSpec := { name := "bagFirst", fn := fun _ => fun
  | [d1, d2] => { results := [.lit (.bool true)], args := [d1, d2] }
  | _ => none }
def bagFirstRow : OpenClaim := { program := "ytngjlgddgamjkaa", sum := "c527637181c3807b5a54ceeaf03650acfe9096763b3271337e57cfbdb3eab91e", func := "mesne/mesnelaw06.BagFirst", spec := "bagFirst", apart := false }
def BagFirstSaid : Prop := bagFirstRow.holds Try.pinned (OpenSpec.ofChange bagFirstSpec)

/-- ITS FALSE NEIGHBOUR: 'it returns false'. Refute it at one input. -/
def bagFirstWrong : ChangeSpec := { name := "bagFirst", fn := fun _ => fun
  | [d1, d2] => { results := [.lit (.bool false)], args := [d1, d2] }
  | _ => none }
def BagFirstWrongFalsely : Prop := bagFirstRow.holds Try.pinned (OpenSpec.ofChange bagFirstWrong)

/- THE SECOND FORM. 'bulk': how many values and letters a reading holds, each counted each time it is reached (what is shared counts as often as it is met; a slice's spare places count too). A statement '..UptoSaid' is the law's where the arguments, and the package variables that the reading takes, are together of bulk at most 1048576: NARROWER than '..Said'. Prove '..Said' where nothing that the law and all that it calls make is longer than what came in: it says more and counts as full. Else prove '..UptoSaid'. A law counts once. -/
mutual
def uptoBulk {H : Type} : DataW H → Nat
  | .lit (.string bytes) => bytes.length + 1
  | .lit _ => 1
  | .nil => 1
  | .ptr d => uptoBulk d + 1
  | .slice elems spare => uptoBulkAll elems + uptoBulkAll spare + 1
  | .agg parts => uptoBulkAll parts + 1
  | .iface _ d => uptoBulk d + 1
  | .map entries => uptoBulkEntries entries + 1
  | .held _ => 1
def uptoBulkAll {H : Type} : List (DataW H) → Nat
  | [] => 0
  | d :: r => uptoBulk d + uptoBulkAll r
def uptoBulkEntries {H : Type} : List (Lit × DataW H) → Nat
  | [] => 0
  | x :: r => uptoBulkEntry x + uptoBulkEntries r
def uptoBulkEntry {H : Type} : Lit × DataW H → Nat
  | (.string bytes, d) => bytes.length + uptoBulk d + 1
  | (_, d) => uptoBulk d + 1
 end
def uptoSmall : (H : Type) → List (DataW H) → Bool := fun _ ds => decide (uptoBulkAll ds ≤ 1048576)
def OpenSpec.upto (s : _root_.Go.ChangeSpec) : _root_.Go.OpenSpec := { _root_.Go.OpenSpec.ofChange s with cond := some uptoSmall }

/-- 'mesnelaw01.ShapeTells', WHERE WHAT IT READS IS OF BULK AT MOST 1048576: true; the input reads as it did. -/
def shapeTellsUptoRow : OpenClaim := { program := "ytngjlgddgamjkaa", sum := "c527637181c3807b5a54ceeaf03650acfe9096763b3271337e57cfbdb3eab91e", func := "mesne/mesnelaw01.ShapeTells", spec := "shapeTells", apart := false, narrowed := true }
def ShapeTellsUptoSaid : Prop := shapeTellsUptoRow.holds Try.pinned (OpenSpec.upto shapeTellsSpec)

/-- 'mesnelaw01.ShapePowers', WHERE WHAT IT READS IS OF BULK AT MOST 1048576: true; the input reads as it did. -/
def shapePowersUptoRow : OpenClaim := { program := "ytngjlgddgamjkaa", sum := "c527637181c3807b5a54ceeaf03650acfe9096763b3271337e57cfbdb3eab91e", func := "mesne/mesnelaw01.ShapePowers", spec := "shapePowers", apart := false, narrowed := true }
def ShapePowersUptoSaid : Prop := shapePowersUptoRow.holds Try.pinned (OpenSpec.upto shapePowersSpec)

/-- 'mesnelaw01.ShapeLess', WHERE WHAT IT READS IS OF BULK AT MOST 1048576: true; the input reads as it did. -/
def shapeLessUptoRow : OpenClaim := { program := "ytngjlgddgamjkaa", sum := "c527637181c3807b5a54ceeaf03650acfe9096763b3271337e57cfbdb3eab91e", func := "mesne/mesnelaw01.ShapeLess", spec := "shapeLess", apart := false, narrowed := true }
def ShapeLessUptoSaid : Prop := shapeLessUptoRow.holds Try.pinned (OpenSpec.upto shapeLessSpec)

/-- 'mesnelaw06.BagDoes', WHERE WHAT IT READS IS OF BULK AT MOST 1048576: true; the input reads as it did. -/
def bagDoesUptoRow : OpenClaim := { program := "ytngjlgddgamjkaa", sum := "c527637181c3807b5a54ceeaf03650acfe9096763b3271337e57cfbdb3eab91e", func := "mesne/mesnelaw06.BagDoes", spec := "bagDoes", apart := false, narrowed := true }
def BagDoesUptoSaid : Prop := bagDoesUptoRow.holds Try.pinned (OpenSpec.upto bagDoesSpec)

/-- 'mesnelaw06.BagKeeps', WHERE WHAT IT READS IS OF BULK AT MOST 1048576: true; the input reads as it did. -/
def bagKeepsUptoRow : OpenClaim := { program := "ytngjlgddgamjkaa", sum := "c527637181c3807b5a54ceeaf03650acfe9096763b3271337e57cfbdb3eab91e", func := "mesne/mesnelaw06.BagKeeps", spec := "bagKeeps", apart := false, narrowed := true }
def BagKeepsUptoSaid : Prop := bagKeepsUptoRow.holds Try.pinned (OpenSpec.upto bagKeepsSpec)

/-- 'mesnelaw06.BagFirst', WHERE WHAT IT READS IS OF BULK AT MOST 1048576: true; the input reads as it did. -/
def bagFirstUptoRow : OpenClaim := { program := "ytngjlgddgamjkaa", sum := "c527637181c3807b5a54ceeaf03650acfe9096763b3271337e57cfbdb3eab91e", func := "mesne/mesnelaw06.BagFirst", spec := "bagFirst", apart := false, narrowed := true }
def BagFirstUptoSaid : Prop := bagFirstUptoRow.holds Try.pinned (OpenSpec.upto bagFirstSpec)

end Rows
end Go.Proofs.Ytngjlgddgamjkaa
