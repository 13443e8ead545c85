/-
  No cell of these rows narrows 'for every input' (looked for: loops, veiled, ifaces, maps, wideKeys, modest, calm, conditions, laid).
  DERIVED. THE GIVEN ROWS OF THIS SEAT. 4 by the template 'for every input the law returns true; each argument reads behind the call as it read before'; 0 by the template 'total and deterministic' (their statements: YtlaohgngdaglmaaTotals.lean).
  GIVEN WITH THE SEED: the statements are not yours to turn. If you find one false, say at which input.
  Laid BY PROGRAM, IN A SANDBOX (cutbox-rows.mjs): the forced cells as the released guide's own fill.sh prints them over the translation 9f83d870887ff02c… (all of the seat's roots in one cut). By AI agents, Wed Nov 11 2026. No macro, syntax, notation, axiom, sorry.
-/
import Derived.Test.YtlaohgngdaglmaaChecked
import GoSem.Claim
import GoSem.ClaimJoined
import GoSem.ClaimMapViews
import Derived.JoinedTies
import Derived.KernelRfl
namespace Go.Proofs.Ytlaohgngdaglmaa
/- THE CELL 'sum', in the pinned program and in every row, IS THE sha256 OF THE DUMP (.gsa) THAT YtlaohgngdaglmaaProg.lean LOADS. Nothing in Lean hashes anything: it is a label: what it is worth is what the hold of that sum in a sandbox is worth. -/
noncomputable def Try.pinned : Pinned := { name := "ytlaohgngdaglmaa", sum := "9f83d870887ff02c6fb3f81d2987f9420bf0fad3611aafca519e7b67c2d456ea", checked := Try.checked }
namespace Rows
def none {H : Type} : Left H := { results := [], args := [] }

/-- 'mesnelaw19.WitnessTells': WHATEVER THE INPUT: true; the input reads as it did. -/
def witnessTellsSpec : ChangeSpec := { name := "witnessTells", fn := fun _ => fun
  | [d1, d2, d3, d4] => { results := [.lit (.bool true)], args := [d1, d2, d3, d4] }
  | _ => none }
def witnessTellsRow : OpenClaim := { program := "ytlaohgngdaglmaa", sum := "9f83d870887ff02c6fb3f81d2987f9420bf0fad3611aafca519e7b67c2d456ea", func := "mesne/mesnelaw19.WitnessTells", spec := "witnessTells", unfollowed := true, recurses := true, apart := false }
def WitnessTellsSaid : Prop := witnessTellsRow.holds Try.pinned (OpenSpec.ofChange witnessTellsSpec)

/-- ITS FALSE NEIGHBOUR: 'it returns false'. Refute it at one input. -/
def witnessTellsWrong : ChangeSpec := { name := "witnessTells", fn := fun _ => fun
  | [d1, d2, d3, d4] => { results := [.lit (.bool false)], args := [d1, d2, d3, d4] }
  | _ => none }
def WitnessTellsWrongFalsely : Prop := witnessTellsRow.holds Try.pinned (OpenSpec.ofChange witnessTellsWrong)

/-- 'mesnelaw19.WitnessCut': WHATEVER THE INPUT: true; the input reads as it did. -/
def witnessCutSpec : ChangeSpec := { name := "witnessCut", fn := fun _ => fun
  | [d1, d2, d3, d4, d5] => { results := [.lit (.bool true)], args := [d1, d2, d3, d4, d5] }
  | _ => none }
def witnessCutRow : OpenClaim := { program := "ytlaohgngdaglmaa", sum := "9f83d870887ff02c6fb3f81d2987f9420bf0fad3611aafca519e7b67c2d456ea", func := "mesne/mesnelaw19.WitnessCut", spec := "witnessCut", unfollowed := true, recurses := true, apart := false }
def WitnessCutSaid : Prop := witnessCutRow.holds Try.pinned (OpenSpec.ofChange witnessCutSpec)

/-- ITS FALSE NEIGHBOUR: 'it returns false'. Refute it at one input. -/
def witnessCutWrong : ChangeSpec := { name := "witnessCut", fn := fun _ => fun
  | [d1, d2, d3, d4, d5] => { results := [.lit (.bool false)], args := [d1, d2, d3, d4, d5] }
  | _ => none }
def WitnessCutWrongFalsely : Prop := witnessCutRow.holds Try.pinned (OpenSpec.ofChange witnessCutWrong)

/-- 'mesnelaw16.HomeOrder': WHATEVER THE INPUT: true; the input reads as it did. -/
def homeOrderSpec : ChangeSpec := { name := "homeOrder", fn := fun _ => fun
  | [d1, d2, d3, d4] => { results := [.lit (.bool true)], args := [d1, d2, d3, d4] }
  | _ => none }
def homeOrderRow : OpenClaim := { program := "ytlaohgngdaglmaa", sum := "9f83d870887ff02c6fb3f81d2987f9420bf0fad3611aafca519e7b67c2d456ea", func := "mesne/mesnelaw16.HomeOrder", spec := "homeOrder", inPlace := ["slices.overlaps[int]"], unfollowed := true, recurses := true, apart := false }
def HomeOrderSaid : Prop := homeOrderRow.holds Try.pinned (OpenSpec.ofChange homeOrderSpec)

/-- ITS FALSE NEIGHBOUR: 'it returns false'. Refute it at one input. -/
def homeOrderWrong : ChangeSpec := { name := "homeOrder", fn := fun _ => fun
  | [d1, d2, d3, d4] => { results := [.lit (.bool false)], args := [d1, d2, d3, d4] }
  | _ => none }
def HomeOrderWrongFalsely : Prop := homeOrderRow.holds Try.pinned (OpenSpec.ofChange homeOrderWrong)

/-- 'mesnelaw16.HomeBounds': WHATEVER THE INPUT: true; the input reads as it did. -/
def homeBoundsSpec : ChangeSpec := { name := "homeBounds", fn := fun _ => fun
  | [d1, d2, d3, d4] => { results := [.lit (.bool true)], args := [d1, d2, d3, d4] }
  | _ => none }
def homeBoundsRow : OpenClaim := { program := "ytlaohgngdaglmaa", sum := "9f83d870887ff02c6fb3f81d2987f9420bf0fad3611aafca519e7b67c2d456ea", func := "mesne/mesnelaw16.HomeBounds", spec := "homeBounds", inPlace := ["slices.overlaps[int]"], unfollowed := true, recurses := true, apart := false }
def HomeBoundsSaid : Prop := homeBoundsRow.holds Try.pinned (OpenSpec.ofChange homeBoundsSpec)

/-- ITS FALSE NEIGHBOUR: 'it returns false'. Refute it at one input. -/
def homeBoundsWrong : ChangeSpec := { name := "homeBounds", fn := fun _ => fun
  | [d1, d2, d3, d4] => { results := [.lit (.bool false)], args := [d1, d2, d3, d4] }
  | _ => none }
def HomeBoundsWrongFalsely : Prop := homeBoundsRow.holds Try.pinned (OpenSpec.ofChange homeBoundsWrong)

/- THE SECOND FORM. 'bulk': how many values and letters a reading holds, each counted each time it is reached (what is shared counts as often as it is met; a slice's spare places count too). A statement '..UptoSaid' is the law's where the arguments, and the package variables that the reading takes, are together of bulk at most 1048576: NARROWER than '..Said'. Prove '..Said' where nothing that the law and all that it calls make is longer than what came in: it says more and counts as full. Else prove '..UptoSaid'. A law counts once. -/
mutual
def uptoBulk {H : Type} : DataW H → Nat
  | .lit (.string bytes) => bytes.length + 1
  | .lit _ => 1
  | .nil => 1
  | .ptr d => uptoBulk d + 1
  | .slice elems spare => uptoBulkAll elems + uptoBulkAll spare + 1
  | .agg parts => uptoBulkAll parts + 1
  | .iface _ d => uptoBulk d + 1
  | .map entries => uptoBulkEntries entries + 1
  | .held _ => 1
def uptoBulkAll {H : Type} : List (DataW H) → Nat
  | [] => 0
  | d :: r => uptoBulk d + uptoBulkAll r
def uptoBulkEntries {H : Type} : List (Lit × DataW H) → Nat
  | [] => 0
  | x :: r => uptoBulkEntry x + uptoBulkEntries r
def uptoBulkEntry {H : Type} : Lit × DataW H → Nat
  | (.string bytes, d) => bytes.length + uptoBulk d + 1
  | (_, d) => uptoBulk d + 1
 end
def uptoSmall : (H : Type) → List (DataW H) → Bool := fun _ ds => decide (uptoBulkAll ds ≤ 1048576)
def OpenSpec.upto (s : _root_.Go.ChangeSpec) : _root_.Go.OpenSpec := { _root_.Go.OpenSpec.ofChange s with cond := some uptoSmall }

/-- 'mesnelaw19.WitnessTells', WHERE WHAT IT READS IS OF BULK AT MOST 1048576: true; the input reads as it did. -/
def witnessTellsUptoRow : OpenClaim := { program := "ytlaohgngdaglmaa", sum := "9f83d870887ff02c6fb3f81d2987f9420bf0fad3611aafca519e7b67c2d456ea", func := "mesne/mesnelaw19.WitnessTells", spec := "witnessTells", unfollowed := true, recurses := true, apart := false, narrowed := true }
def WitnessTellsUptoSaid : Prop := witnessTellsUptoRow.holds Try.pinned (OpenSpec.upto witnessTellsSpec)

/-- 'mesnelaw19.WitnessCut', WHERE WHAT IT READS IS OF BULK AT MOST 1048576: true; the input reads as it did. -/
def witnessCutUptoRow : OpenClaim := { program := "ytlaohgngdaglmaa", sum := "9f83d870887ff02c6fb3f81d2987f9420bf0fad3611aafca519e7b67c2d456ea", func := "mesne/mesnelaw19.WitnessCut", spec := "witnessCut", unfollowed := true, recurses := true, apart := false, narrowed := true }
def WitnessCutUptoSaid : Prop := witnessCutUptoRow.holds Try.pinned (OpenSpec.upto witnessCutSpec)

/-- 'mesnelaw16.HomeOrder', WHERE WHAT IT READS IS OF BULK AT MOST 1048576: true; the input reads as it did. -/
def homeOrderUptoRow : OpenClaim := { program := "ytlaohgngdaglmaa", sum := "9f83d870887ff02c6fb3f81d2987f9420bf0fad3611aafca519e7b67c2d456ea", func := "mesne/mesnelaw16.HomeOrder", spec := "homeOrder", inPlace := ["slices.overlaps[int]"], unfollowed := true, recurses := true, apart := false, narrowed := true }
def HomeOrderUptoSaid : Prop := homeOrderUptoRow.holds Try.pinned (OpenSpec.upto homeOrderSpec)

/-- 'mesnelaw16.HomeBounds', WHERE WHAT IT READS IS OF BULK AT MOST 1048576: true; the input reads as it did. -/
def homeBoundsUptoRow : OpenClaim := { program := "ytlaohgngdaglmaa", sum := "9f83d870887ff02c6fb3f81d2987f9420bf0fad3611aafca519e7b67c2d456ea", func := "mesne/mesnelaw16.HomeBounds", spec := "homeBounds", inPlace := ["slices.overlaps[int]"], unfollowed := true, recurses := true, apart := false, narrowed := true }
def HomeBoundsUptoSaid : Prop := homeBoundsUptoRow.holds Try.pinned (OpenSpec.upto homeBoundsSpec)

end Rows
end Go.Proofs.Ytlaohgngdaglmaa
