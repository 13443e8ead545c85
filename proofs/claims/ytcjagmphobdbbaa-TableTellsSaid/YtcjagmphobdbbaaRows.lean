/-
  No cell of these rows narrows 'for every input' (looked for: loops, veiled, ifaces, maps, wideKeys, modest, calm, conditions, laid).
  DERIVED. THE GIVEN ROWS OF THIS SEAT. 10 by the template 'for every input the law returns true; each argument reads behind the call as it read before'; 0 by the template 'total and deterministic' (their statements: YtcjagmphobdbbaaTotals.lean).
  GIVEN WITH THE SEED: the statements are not yours to turn. If you find one false, say at which input.
  Laid BY PROGRAM, IN A SANDBOX (cutbox-rows.mjs): the forced cells as the released guide's own fill.sh prints them over the translation b744344cd43a40f8… (all of the seat's roots in one cut). By AI agents, Wed Nov 11 2026. No macro, syntax, notation, axiom, sorry.
-/
import Derived.Test.YtcjagmphobdbbaaChecked
import GoSem.Claim
import GoSem.ClaimJoined
import GoSem.ClaimMapViews
import Derived.JoinedTies
import Derived.KernelRfl
namespace Go.Proofs.Ytcjagmphobdbbaa
/- THE CELL 'sum', in the pinned program and in every row, IS THE sha256 OF THE DUMP (.gsa) THAT YtcjagmphobdbbaaProg.lean LOADS. Nothing in Lean hashes anything: it is a label: what it is worth is what the hold of that sum in a sandbox is worth. -/
noncomputable def Try.pinned : Pinned := { name := "ytcjagmphobdbbaa", sum := "b744344cd43a40f8833d9323a3726df702618fbd0c8251888ae0e59a73dfd80b", checked := Try.checked }
namespace Rows
def none {H : Type} : Left H := { results := [], args := [] }

/-- 'mesnelaw07.NetDoes': WHATEVER THE INPUT: true; the input reads as it did. -/
def netDoesSpec : ChangeSpec := { name := "netDoes", fn := fun _ => fun
  | [d1, d2, d3] => { results := [.lit (.bool true)], args := [d1, d2, d3] }
  | _ => none }
def netDoesRow : OpenClaim := { program := "ytcjagmphobdbbaa", sum := "b744344cd43a40f8833d9323a3726df702618fbd0c8251888ae0e59a73dfd80b", func := "mesne/mesnelaw07.NetDoes", spec := "netDoes", unfollowed := true, recurses := true, apart := false }
def NetDoesSaid : Prop := netDoesRow.holds Try.pinned (OpenSpec.ofChange netDoesSpec)

/-- ITS FALSE NEIGHBOUR: 'it returns false'. Refute it at one input. -/
def netDoesWrong : ChangeSpec := { name := "netDoes", fn := fun _ => fun
  | [d1, d2, d3] => { results := [.lit (.bool false)], args := [d1, d2, d3] }
  | _ => none }
def NetDoesWrongFalsely : Prop := netDoesRow.holds Try.pinned (OpenSpec.ofChange netDoesWrong)

/-- 'mesnelaw07.NetRooms': WHATEVER THE INPUT: true; the input reads as it did. -/
def netRoomsSpec : ChangeSpec := { name := "netRooms", fn := fun _ => fun
  | [d1, d2] => { results := [.lit (.bool true)], args := [d1, d2] }
  | _ => none }
def netRoomsRow : OpenClaim := { program := "ytcjagmphobdbbaa", sum := "b744344cd43a40f8833d9323a3726df702618fbd0c8251888ae0e59a73dfd80b", func := "mesne/mesnelaw07.NetRooms", spec := "netRooms", unfollowed := true, recurses := true, apart := false }
def NetRoomsSaid : Prop := netRoomsRow.holds Try.pinned (OpenSpec.ofChange netRoomsSpec)

/-- ITS FALSE NEIGHBOUR: 'it returns false'. Refute it at one input. -/
def netRoomsWrong : ChangeSpec := { name := "netRooms", fn := fun _ => fun
  | [d1, d2] => { results := [.lit (.bool false)], args := [d1, d2] }
  | _ => none }
def NetRoomsWrongFalsely : Prop := netRoomsRow.holds Try.pinned (OpenSpec.ofChange netRoomsWrong)

/-- 'mesnelaw13.TableTells': WHATEVER THE INPUT: true; the input reads as it did. -/
def tableTellsSpec : ChangeSpec := { name := "tableTells", fn := fun _ => fun
  | [d1, d2, d3, d4, d5] => { results := [.lit (.bool true)], args := [d1, d2, d3, d4, d5] }
  | _ => none }
def tableTellsRow : OpenClaim := { program := "ytcjagmphobdbbaa", sum := "b744344cd43a40f8833d9323a3726df702618fbd0c8251888ae0e59a73dfd80b", func := "mesne/mesnelaw13.TableTells", spec := "tableTells", inPlace := ["slices.overlaps[int]"], unfollowed := true, recurses := true, apart := false }
def TableTellsSaid : Prop := tableTellsRow.holds Try.pinned (OpenSpec.ofChange tableTellsSpec)

/-- ITS FALSE NEIGHBOUR: 'it returns false'. Refute it at one input. -/
def tableTellsWrong : ChangeSpec := { name := "tableTells", fn := fun _ => fun
  | [d1, d2, d3, d4, d5] => { results := [.lit (.bool false)], args := [d1, d2, d3, d4, d5] }
  | _ => none }
def TableTellsWrongFalsely : Prop := tableTellsRow.holds Try.pinned (OpenSpec.ofChange tableTellsWrong)

/-- 'mesnelaw13.TableOne': WHATEVER THE INPUT: true; the input reads as it did. -/
def tableOneSpec : ChangeSpec := { name := "tableOne", fn := fun _ => fun
  | [d1, d2, d3] => { results := [.lit (.bool true)], args := [d1, d2, d3] }
  | _ => none }
def tableOneRow : OpenClaim := { program := "ytcjagmphobdbbaa", sum := "b744344cd43a40f8833d9323a3726df702618fbd0c8251888ae0e59a73dfd80b", func := "mesne/mesnelaw13.TableOne", spec := "tableOne", inPlace := ["slices.overlaps[int]"], unfollowed := true, recurses := true, apart := false }
def TableOneSaid : Prop := tableOneRow.holds Try.pinned (OpenSpec.ofChange tableOneSpec)

/-- ITS FALSE NEIGHBOUR: 'it returns false'. Refute it at one input. -/
def tableOneWrong : ChangeSpec := { name := "tableOne", fn := fun _ => fun
  | [d1, d2, d3] => { results := [.lit (.bool false)], args := [d1, d2, d3] }
  | _ => none }
def TableOneWrongFalsely : Prop := tableOneRow.holds Try.pinned (OpenSpec.ofChange tableOneWrong)

/-- 'mesnelaw13.TableAlone': WHATEVER THE INPUT: true; the input reads as it did. -/
def tableAloneSpec : ChangeSpec := { name := "tableAlone", fn := fun _ => fun
  | [d1, d2, d3, d4] => { results := [.lit (.bool true)], args := [d1, d2, d3, d4] }
  | _ => none }
def tableAloneRow : OpenClaim := { program := "ytcjagmphobdbbaa", sum := "b744344cd43a40f8833d9323a3726df702618fbd0c8251888ae0e59a73dfd80b", func := "mesne/mesnelaw13.TableAlone", spec := "tableAlone", inPlace := ["slices.overlaps[int]"], unfollowed := true, recurses := true, apart := false }
def TableAloneSaid : Prop := tableAloneRow.holds Try.pinned (OpenSpec.ofChange tableAloneSpec)

/-- ITS FALSE NEIGHBOUR: 'it returns false'. Refute it at one input. -/
def tableAloneWrong : ChangeSpec := { name := "tableAlone", fn := fun _ => fun
  | [d1, d2, d3, d4] => { results := [.lit (.bool false)], args := [d1, d2, d3, d4] }
  | _ => none }
def TableAloneWrongFalsely : Prop := tableAloneRow.holds Try.pinned (OpenSpec.ofChange tableAloneWrong)

/-- 'mesnelaw09.ArrayDoes': WHATEVER THE INPUT: true; the input reads as it did. -/
def arrayDoesSpec : ChangeSpec := { name := "arrayDoes", fn := fun _ => fun
  | [d1, d2, d3] => { results := [.lit (.bool true)], args := [d1, d2, d3] }
  | _ => none }
def arrayDoesRow : OpenClaim := { program := "ytcjagmphobdbbaa", sum := "b744344cd43a40f8833d9323a3726df702618fbd0c8251888ae0e59a73dfd80b", func := "mesne/mesnelaw09.ArrayDoes", spec := "arrayDoes", unfollowed := true, recurses := true, apart := false }
def ArrayDoesSaid : Prop := arrayDoesRow.holds Try.pinned (OpenSpec.ofChange arrayDoesSpec)

/-- ITS FALSE NEIGHBOUR: 'it returns false'. Refute it at one input. -/
def arrayDoesWrong : ChangeSpec := { name := "arrayDoes", fn := fun _ => fun
  | [d1, d2, d3] => { results := [.lit (.bool false)], args := [d1, d2, d3] }
  | _ => none }
def ArrayDoesWrongFalsely : Prop := arrayDoesRow.holds Try.pinned (OpenSpec.ofChange arrayDoesWrong)

/-- 'mesnelaw09.ArrayOnce': WHATEVER THE INPUT: true; the input reads as it did. -/
def arrayOnceSpec : ChangeSpec := { name := "arrayOnce", fn := fun _ => fun
  | [d1, d2] => { results := [.lit (.bool true)], args := [d1, d2] }
  | _ => none }
def arrayOnceRow : OpenClaim := { program := "ytcjagmphobdbbaa", sum := "b744344cd43a40f8833d9323a3726df702618fbd0c8251888ae0e59a73dfd80b", func := "mesne/mesnelaw09.ArrayOnce", spec := "arrayOnce", unfollowed := true, recurses := true, apart := false }
def ArrayOnceSaid : Prop := arrayOnceRow.holds Try.pinned (OpenSpec.ofChange arrayOnceSpec)

/-- ITS FALSE NEIGHBOUR: 'it returns false'. Refute it at one input. -/
def arrayOnceWrong : ChangeSpec := { name := "arrayOnce", fn := fun _ => fun
  | [d1, d2] => { results := [.lit (.bool false)], args := [d1, d2] }
  | _ => none }
def ArrayOnceWrongFalsely : Prop := arrayOnceRow.holds Try.pinned (OpenSpec.ofChange arrayOnceWrong)

/-- 'mesnelaw09.ArrayHolds': WHATEVER THE INPUT: true; the input reads as it did. -/
def arrayHoldsSpec : ChangeSpec := { name := "arrayHolds", fn := fun _ => fun
  | [d1, d2, d3, d4, d5, d6] => { results := [.lit (.bool true)], args := [d1, d2, d3, d4, d5, d6] }
  | _ => none }
def arrayHoldsRow : OpenClaim := { program := "ytcjagmphobdbbaa", sum := "b744344cd43a40f8833d9323a3726df702618fbd0c8251888ae0e59a73dfd80b", func := "mesne/mesnelaw09.ArrayHolds", spec := "arrayHolds", unfollowed := true, recurses := true, apart := false }
def ArrayHoldsSaid : Prop := arrayHoldsRow.holds Try.pinned (OpenSpec.ofChange arrayHoldsSpec)

/-- ITS FALSE NEIGHBOUR: 'it returns false'. Refute it at one input. -/
def arrayHoldsWrong : ChangeSpec := { name := "arrayHolds", fn := fun _ => fun
  | [d1, d2, d3, d4, d5, d6] => { results := [.lit (.bool false)], args := [d1, d2, d3, d4, d5, d6] }
  | _ => none }
def ArrayHoldsWrongFalsely : Prop := arrayHoldsRow.holds Try.pinned (OpenSpec.ofChange arrayHoldsWrong)

/-- 'mesnelaw19.WitnessTells': WHATEVER THE INPUT: true; the input reads as it did. -/
def witnessTellsSpec : ChangeSpec := { name := "witnessTells", fn := fun _ => fun
  | [d1, d2, d3, d4] => { results := [.lit (.bool true)], args := [d1, d2, d3, d4] }
  | _ => none }
def witnessTellsRow : OpenClaim := { program := "ytcjagmphobdbbaa", sum := "b744344cd43a40f8833d9323a3726df702618fbd0c8251888ae0e59a73dfd80b", func := "mesne/mesnelaw19.WitnessTells", spec := "witnessTells", unfollowed := true, recurses := true, apart := false }
def WitnessTellsSaid : Prop := witnessTellsRow.holds Try.pinned (OpenSpec.ofChange witnessTellsSpec)

/-- ITS FALSE NEIGHBOUR: 'it returns false'. Refute it at one input. -/
def witnessTellsWrong : ChangeSpec := { name := "witnessTells", fn := fun _ => fun
  | [d1, d2, d3, d4] => { results := [.lit (.bool false)], args := [d1, d2, d3, d4] }
  | _ => none }
def WitnessTellsWrongFalsely : Prop := witnessTellsRow.holds Try.pinned (OpenSpec.ofChange witnessTellsWrong)

/-- 'mesnelaw19.WitnessCut': WHATEVER THE INPUT: true; the input reads as it did. -/
def witnessCutSpec : ChangeSpec := { name := "witnessCut", fn := fun _ => fun
  | [d1, d2, d3, d4, d5] => { results := [.lit (.bool true)], args := [d1, d2, d3, d4, d5] }
  | _ => none }
def witnessCutRow : OpenClaim := { program := "ytcjagmphobdbbaa", sum := "b744344cd43a40f8833d9323a3726df702618fbd0c8251888ae0e59a73dfd80b", func := "mesne/mesnelaw19.WitnessCut", spec := "witnessCut", unfollowed := true, recurses := true, apart := false }
def WitnessCutSaid : Prop := witnessCutRow.holds Try.pinned (OpenSpec.ofChange witnessCutSpec)

/-- ITS FALSE NEIGHBOUR: 'it returns false'. Refute it at one input. -/
def witnessCutWrong : ChangeSpec := { name := "witnessCut", fn := fun _ => fun
  | [d1, d2, d3, d4, d5] => { results := [.lit (.bool false)], args := [d1, d2, d3, d4, d5] }
  | _ => none }
def WitnessCutWrongFalsely : Prop := witnessCutRow.holds Try.pinned (OpenSpec.ofChange witnessCutWrong)

/- THE SECOND FORM. 'bulk': how many values and letters a reading holds, each counted each time it is reached (what is shared counts as often as it is met; a slice's spare places count too). A statement '..UptoSaid' is the law's where the arguments, and the package variables that the reading takes, are together of bulk at most 1048576: NARROWER than '..Said'. Prove '..Said' where nothing that the law and all that it calls make is longer than what came in: it says more and counts as full. Else prove '..UptoSaid'. A law counts once. -/
mutual
def uptoBulk {H : Type} : DataW H → Nat
  | .lit (.string bytes) => bytes.length + 1
  | .lit _ => 1
  | .nil => 1
  | .ptr d => uptoBulk d + 1
  | .slice elems spare => uptoBulkAll elems + uptoBulkAll spare + 1
  | .agg parts => uptoBulkAll parts + 1
  | .iface _ d => uptoBulk d + 1
  | .map entries => uptoBulkEntries entries + 1
  | .held _ => 1
def uptoBulkAll {H : Type} : List (DataW H) → Nat
  | [] => 0
  | d :: r => uptoBulk d + uptoBulkAll r
def uptoBulkEntries {H : Type} : List (Lit × DataW H) → Nat
  | [] => 0
  | x :: r => uptoBulkEntry x + uptoBulkEntries r
def uptoBulkEntry {H : Type} : Lit × DataW H → Nat
  | (.string bytes, d) => bytes.length + uptoBulk d + 1
  | (_, d) => uptoBulk d + 1
 end
def uptoSmall : (H : Type) → List (DataW H) → Bool := fun _ ds => decide (uptoBulkAll ds ≤ 1048576)
def OpenSpec.upto (s : _root_.Go.ChangeSpec) : _root_.Go.OpenSpec := { _root_.Go.OpenSpec.ofChange s with cond := some uptoSmall }

/-- 'mesnelaw07.NetDoes', WHERE WHAT IT READS IS OF BULK AT MOST 1048576: true; the input reads as it did. -/
def netDoesUptoRow : OpenClaim := { program := "ytcjagmphobdbbaa", sum := "b744344cd43a40f8833d9323a3726df702618fbd0c8251888ae0e59a73dfd80b", func := "mesne/mesnelaw07.NetDoes", spec := "netDoes", unfollowed := true, recurses := true, apart := false, narrowed := true }
def NetDoesUptoSaid : Prop := netDoesUptoRow.holds Try.pinned (OpenSpec.upto netDoesSpec)

/-- 'mesnelaw07.NetRooms', WHERE WHAT IT READS IS OF BULK AT MOST 1048576: true; the input reads as it did. -/
def netRoomsUptoRow : OpenClaim := { program := "ytcjagmphobdbbaa", sum := "b744344cd43a40f8833d9323a3726df702618fbd0c8251888ae0e59a73dfd80b", func := "mesne/mesnelaw07.NetRooms", spec := "netRooms", unfollowed := true, recurses := true, apart := false, narrowed := true }
def NetRoomsUptoSaid : Prop := netRoomsUptoRow.holds Try.pinned (OpenSpec.upto netRoomsSpec)

/-- 'mesnelaw13.TableTells', WHERE WHAT IT READS IS OF BULK AT MOST 1048576: true; the input reads as it did. -/
def tableTellsUptoRow : OpenClaim := { program := "ytcjagmphobdbbaa", sum := "b744344cd43a40f8833d9323a3726df702618fbd0c8251888ae0e59a73dfd80b", func := "mesne/mesnelaw13.TableTells", spec := "tableTells", inPlace := ["slices.overlaps[int]"], unfollowed := true, recurses := true, apart := false, narrowed := true }
def TableTellsUptoSaid : Prop := tableTellsUptoRow.holds Try.pinned (OpenSpec.upto tableTellsSpec)

/-- 'mesnelaw13.TableOne', WHERE WHAT IT READS IS OF BULK AT MOST 1048576: true; the input reads as it did. -/
def tableOneUptoRow : OpenClaim := { program := "ytcjagmphobdbbaa", sum := "b744344cd43a40f8833d9323a3726df702618fbd0c8251888ae0e59a73dfd80b", func := "mesne/mesnelaw13.TableOne", spec := "tableOne", inPlace := ["slices.overlaps[int]"], unfollowed := true, recurses := true, apart := false, narrowed := true }
def TableOneUptoSaid : Prop := tableOneUptoRow.holds Try.pinned (OpenSpec.upto tableOneSpec)

/-- 'mesnelaw13.TableAlone', WHERE WHAT IT READS IS OF BULK AT MOST 1048576: true; the input reads as it did. -/
def tableAloneUptoRow : OpenClaim := { program := "ytcjagmphobdbbaa", sum := "b744344cd43a40f8833d9323a3726df702618fbd0c8251888ae0e59a73dfd80b", func := "mesne/mesnelaw13.TableAlone", spec := "tableAlone", inPlace := ["slices.overlaps[int]"], unfollowed := true, recurses := true, apart := false, narrowed := true }
def TableAloneUptoSaid : Prop := tableAloneUptoRow.holds Try.pinned (OpenSpec.upto tableAloneSpec)

/-- 'mesnelaw09.ArrayDoes', WHERE WHAT IT READS IS OF BULK AT MOST 1048576: true; the input reads as it did. -/
def arrayDoesUptoRow : OpenClaim := { program := "ytcjagmphobdbbaa", sum := "b744344cd43a40f8833d9323a3726df702618fbd0c8251888ae0e59a73dfd80b", func := "mesne/mesnelaw09.ArrayDoes", spec := "arrayDoes", unfollowed := true, recurses := true, apart := false, narrowed := true }
def ArrayDoesUptoSaid : Prop := arrayDoesUptoRow.holds Try.pinned (OpenSpec.upto arrayDoesSpec)

/-- 'mesnelaw09.ArrayOnce', WHERE WHAT IT READS IS OF BULK AT MOST 1048576: true; the input reads as it did. -/
def arrayOnceUptoRow : OpenClaim := { program := "ytcjagmphobdbbaa", sum := "b744344cd43a40f8833d9323a3726df702618fbd0c8251888ae0e59a73dfd80b", func := "mesne/mesnelaw09.ArrayOnce", spec := "arrayOnce", unfollowed := true, recurses := true, apart := false, narrowed := true }
def ArrayOnceUptoSaid : Prop := arrayOnceUptoRow.holds Try.pinned (OpenSpec.upto arrayOnceSpec)

/-- 'mesnelaw09.ArrayHolds', WHERE WHAT IT READS IS OF BULK AT MOST 1048576: true; the input reads as it did. -/
def arrayHoldsUptoRow : OpenClaim := { program := "ytcjagmphobdbbaa", sum := "b744344cd43a40f8833d9323a3726df702618fbd0c8251888ae0e59a73dfd80b", func := "mesne/mesnelaw09.ArrayHolds", spec := "arrayHolds", unfollowed := true, recurses := true, apart := false, narrowed := true }
def ArrayHoldsUptoSaid : Prop := arrayHoldsUptoRow.holds Try.pinned (OpenSpec.upto arrayHoldsSpec)

/-- 'mesnelaw19.WitnessTells', WHERE WHAT IT READS IS OF BULK AT MOST 1048576: true; the input reads as it did. -/
def witnessTellsUptoRow : OpenClaim := { program := "ytcjagmphobdbbaa", sum := "b744344cd43a40f8833d9323a3726df702618fbd0c8251888ae0e59a73dfd80b", func := "mesne/mesnelaw19.WitnessTells", spec := "witnessTells", unfollowed := true, recurses := true, apart := false, narrowed := true }
def WitnessTellsUptoSaid : Prop := witnessTellsUptoRow.holds Try.pinned (OpenSpec.upto witnessTellsSpec)

/-- 'mesnelaw19.WitnessCut', WHERE WHAT IT READS IS OF BULK AT MOST 1048576: true; the input reads as it did. -/
def witnessCutUptoRow : OpenClaim := { program := "ytcjagmphobdbbaa", sum := "b744344cd43a40f8833d9323a3726df702618fbd0c8251888ae0e59a73dfd80b", func := "mesne/mesnelaw19.WitnessCut", spec := "witnessCut", unfollowed := true, recurses := true, apart := false, narrowed := true }
def WitnessCutUptoSaid : Prop := witnessCutUptoRow.holds Try.pinned (OpenSpec.upto witnessCutSpec)

end Rows
end Go.Proofs.Ytcjagmphobdbbaa
