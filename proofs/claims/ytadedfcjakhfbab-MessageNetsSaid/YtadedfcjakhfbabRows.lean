/-
  No cell of these rows narrows 'for every input' (looked for: loops, veiled, ifaces, maps, wideKeys, modest, calm, conditions, laid).
  DERIVED. THE GIVEN ROWS OF THIS SEAT. 12 by the template 'for every input the law returns true; each argument reads behind the call as it read before'; 0 by the template 'total and deterministic' (their statements: YtadedfcjakhfbabTotals.lean).
  GIVEN WITH THE SEED: the statements are not yours to turn. If you find one false, say at which input.
  Laid BY PROGRAM, IN A SANDBOX (cutbox-rows.mjs): the forced cells as the released guide's own fill.sh prints them over the translation 8884ae55c7ce3a94… (all of the seat's roots in one cut). By AI agents, Wed Nov 11 2026. No macro, syntax, notation, axiom, sorry.
-/
import Derived.Test.YtadedfcjakhfbabChecked
import GoSem.Claim
import GoSem.ClaimJoined
import GoSem.ClaimMapViews
import Derived.JoinedTies
import Derived.KernelRfl
namespace Go.Proofs.Ytadedfcjakhfbab
/- THE CELL 'sum', in the pinned program and in every row, IS THE sha256 OF THE DUMP (.gsa) THAT YtadedfcjakhfbabProg.lean LOADS. Nothing in Lean hashes anything: it is a label: what it is worth is what the hold of that sum in a sandbox is worth. -/
noncomputable def Try.pinned : Pinned := { name := "ytadedfcjakhfbab", sum := "8884ae55c7ce3a94e765e1d544589f4634540c849b45b38400754d87ec64c95f", checked := Try.checked }
namespace Rows
def none {H : Type} : Left H := { results := [], args := [] }

/-- 'mesnelaw02.SplitTells': WHATEVER THE INPUT: true; the input reads as it did. -/
def splitTellsSpec : ChangeSpec := { name := "splitTells", fn := fun _ => fun
  | [d1, d2, d3] => { results := [.lit (.bool true)], args := [d1, d2, d3] }
  | _ => none }
def splitTellsRow : OpenClaim := { program := "ytadedfcjakhfbab", sum := "8884ae55c7ce3a94e765e1d544589f4634540c849b45b38400754d87ec64c95f", func := "mesne/mesnelaw02.SplitTells", spec := "splitTells", unfollowed := true, recurses := true, apart := false }
def SplitTellsSaid : Prop := splitTellsRow.holds Try.pinned (OpenSpec.ofChange splitTellsSpec)

/-- ITS FALSE NEIGHBOUR: 'it returns false'. Refute it at one input. -/
def splitTellsWrong : ChangeSpec := { name := "splitTells", fn := fun _ => fun
  | [d1, d2, d3] => { results := [.lit (.bool false)], args := [d1, d2, d3] }
  | _ => none }
def SplitTellsWrongFalsely : Prop := splitTellsRow.holds Try.pinned (OpenSpec.ofChange splitTellsWrong)

/-- 'mesnelaw02.SplitBack': WHATEVER THE INPUT: true; the input reads as it did. -/
def splitBackSpec : ChangeSpec := { name := "splitBack", fn := fun _ => fun
  | [d1, d2] => { results := [.lit (.bool true)], args := [d1, d2] }
  | _ => none }
def splitBackRow : OpenClaim := { program := "ytadedfcjakhfbab", sum := "8884ae55c7ce3a94e765e1d544589f4634540c849b45b38400754d87ec64c95f", func := "mesne/mesnelaw02.SplitBack", spec := "splitBack", unfollowed := true, recurses := true, apart := false }
def SplitBackSaid : Prop := splitBackRow.holds Try.pinned (OpenSpec.ofChange splitBackSpec)

/-- ITS FALSE NEIGHBOUR: 'it returns false'. Refute it at one input. -/
def splitBackWrong : ChangeSpec := { name := "splitBack", fn := fun _ => fun
  | [d1, d2] => { results := [.lit (.bool false)], args := [d1, d2] }
  | _ => none }
def SplitBackWrongFalsely : Prop := splitBackRow.holds Try.pinned (OpenSpec.ofChange splitBackWrong)

/-- 'mesnelaw02.SplitHomes': WHATEVER THE INPUT: true; the input reads as it did. -/
def splitHomesSpec : ChangeSpec := { name := "splitHomes", fn := fun _ => fun
  | [d] => { results := [.lit (.bool true)], args := [d] }
  | _ => none }
def splitHomesRow : OpenClaim := { program := "ytadedfcjakhfbab", sum := "8884ae55c7ce3a94e765e1d544589f4634540c849b45b38400754d87ec64c95f", func := "mesne/mesnelaw02.SplitHomes", spec := "splitHomes", unfollowed := true, recurses := true, apart := false }
def SplitHomesSaid : Prop := splitHomesRow.holds Try.pinned (OpenSpec.ofChange splitHomesSpec)

/-- ITS FALSE NEIGHBOUR: 'it returns false'. Refute it at one input. -/
def splitHomesWrong : ChangeSpec := { name := "splitHomes", fn := fun _ => fun
  | [d] => { results := [.lit (.bool false)], args := [d] }
  | _ => none }
def SplitHomesWrongFalsely : Prop := splitHomesRow.holds Try.pinned (OpenSpec.ofChange splitHomesWrong)

/-- 'mesnelaw08.SharerTells': WHATEVER THE INPUT: true; the input reads as it did. -/
def sharerTellsSpec : ChangeSpec := { name := "sharerTells", fn := fun _ => fun
  | [d1, d2, d3, d4, d5] => { results := [.lit (.bool true)], args := [d1, d2, d3, d4, d5] }
  | _ => none }
def sharerTellsRow : OpenClaim := { program := "ytadedfcjakhfbab", sum := "8884ae55c7ce3a94e765e1d544589f4634540c849b45b38400754d87ec64c95f", func := "mesne/mesnelaw08.SharerTells", spec := "sharerTells", inPlace := ["slices.overlaps[int]"], apart := false }
def SharerTellsSaid : Prop := sharerTellsRow.holds Try.pinned (OpenSpec.ofChange sharerTellsSpec)

/-- ITS FALSE NEIGHBOUR: 'it returns false'. Refute it at one input. -/
def sharerTellsWrong : ChangeSpec := { name := "sharerTells", fn := fun _ => fun
  | [d1, d2, d3, d4, d5] => { results := [.lit (.bool false)], args := [d1, d2, d3, d4, d5] }
  | _ => none }
def SharerTellsWrongFalsely : Prop := sharerTellsRow.holds Try.pinned (OpenSpec.ofChange sharerTellsWrong)

/-- 'mesnelaw08.SharerHas': WHATEVER THE INPUT: true; the input reads as it did. -/
def sharerHasSpec : ChangeSpec := { name := "sharerHas", fn := fun _ => fun
  | [d1, d2, d3] => { results := [.lit (.bool true)], args := [d1, d2, d3] }
  | _ => none }
def sharerHasRow : OpenClaim := { program := "ytadedfcjakhfbab", sum := "8884ae55c7ce3a94e765e1d544589f4634540c849b45b38400754d87ec64c95f", func := "mesne/mesnelaw08.SharerHas", spec := "sharerHas", inPlace := ["slices.overlaps[int]"], apart := false }
def SharerHasSaid : Prop := sharerHasRow.holds Try.pinned (OpenSpec.ofChange sharerHasSpec)

/-- ITS FALSE NEIGHBOUR: 'it returns false'. Refute it at one input. -/
def sharerHasWrong : ChangeSpec := { name := "sharerHas", fn := fun _ => fun
  | [d1, d2, d3] => { results := [.lit (.bool false)], args := [d1, d2, d3] }
  | _ => none }
def SharerHasWrongFalsely : Prop := sharerHasRow.holds Try.pinned (OpenSpec.ofChange sharerHasWrong)

/-- 'mesnelaw08.SharerBut': WHATEVER THE INPUT: true; the input reads as it did. -/
def sharerButSpec : ChangeSpec := { name := "sharerBut", fn := fun _ => fun
  | [d1, d2] => { results := [.lit (.bool true)], args := [d1, d2] }
  | _ => none }
def sharerButRow : OpenClaim := { program := "ytadedfcjakhfbab", sum := "8884ae55c7ce3a94e765e1d544589f4634540c849b45b38400754d87ec64c95f", func := "mesne/mesnelaw08.SharerBut", spec := "sharerBut", inPlace := ["slices.overlaps[int]"], apart := false }
def SharerButSaid : Prop := sharerButRow.holds Try.pinned (OpenSpec.ofChange sharerButSpec)

/-- ITS FALSE NEIGHBOUR: 'it returns false'. Refute it at one input. -/
def sharerButWrong : ChangeSpec := { name := "sharerBut", fn := fun _ => fun
  | [d1, d2] => { results := [.lit (.bool false)], args := [d1, d2] }
  | _ => none }
def SharerButWrongFalsely : Prop := sharerButRow.holds Try.pinned (OpenSpec.ofChange sharerButWrong)

/-- 'mesnelaw08.SharerOrder': WHATEVER THE INPUT: true; the input reads as it did. -/
def sharerOrderSpec : ChangeSpec := { name := "sharerOrder", fn := fun _ => fun
  | [d1, d2, d3, d4] => { results := [.lit (.bool true)], args := [d1, d2, d3, d4] }
  | _ => none }
def sharerOrderRow : OpenClaim := { program := "ytadedfcjakhfbab", sum := "8884ae55c7ce3a94e765e1d544589f4634540c849b45b38400754d87ec64c95f", func := "mesne/mesnelaw08.SharerOrder", spec := "sharerOrder", inPlace := ["slices.overlaps[int]"], apart := false }
def SharerOrderSaid : Prop := sharerOrderRow.holds Try.pinned (OpenSpec.ofChange sharerOrderSpec)

/-- ITS FALSE NEIGHBOUR: 'it returns false'. Refute it at one input. -/
def sharerOrderWrong : ChangeSpec := { name := "sharerOrder", fn := fun _ => fun
  | [d1, d2, d3, d4] => { results := [.lit (.bool false)], args := [d1, d2, d3, d4] }
  | _ => none }
def SharerOrderWrongFalsely : Prop := sharerOrderRow.holds Try.pinned (OpenSpec.ofChange sharerOrderWrong)

/-- 'mesnelaw05.MessageTells': WHATEVER THE INPUT: true; the input reads as it did. -/
def messageTellsSpec : ChangeSpec := { name := "messageTells", fn := fun _ => fun
  | [d1, d2, d3] => { results := [.lit (.bool true)], args := [d1, d2, d3] }
  | _ => none }
def messageTellsRow : OpenClaim := { program := "ytadedfcjakhfbab", sum := "8884ae55c7ce3a94e765e1d544589f4634540c849b45b38400754d87ec64c95f", func := "mesne/mesnelaw05.MessageTells", spec := "messageTells", unfollowed := true, recurses := true, apart := false }
def MessageTellsSaid : Prop := messageTellsRow.holds Try.pinned (OpenSpec.ofChange messageTellsSpec)

/-- ITS FALSE NEIGHBOUR: 'it returns false'. Refute it at one input. -/
def messageTellsWrong : ChangeSpec := { name := "messageTells", fn := fun _ => fun
  | [d1, d2, d3] => { results := [.lit (.bool false)], args := [d1, d2, d3] }
  | _ => none }
def MessageTellsWrongFalsely : Prop := messageTellsRow.holds Try.pinned (OpenSpec.ofChange messageTellsWrong)

/-- 'mesnelaw05.MessageBack': WHATEVER THE INPUT: true; the input reads as it did. -/
def messageBackSpec : ChangeSpec := { name := "messageBack", fn := fun _ => fun
  | [d1, d2, d3] => { results := [.lit (.bool true)], args := [d1, d2, d3] }
  | _ => none }
def messageBackRow : OpenClaim := { program := "ytadedfcjakhfbab", sum := "8884ae55c7ce3a94e765e1d544589f4634540c849b45b38400754d87ec64c95f", func := "mesne/mesnelaw05.MessageBack", spec := "messageBack", unfollowed := true, recurses := true, apart := false }
def MessageBackSaid : Prop := messageBackRow.holds Try.pinned (OpenSpec.ofChange messageBackSpec)

/-- ITS FALSE NEIGHBOUR: 'it returns false'. Refute it at one input. -/
def messageBackWrong : ChangeSpec := { name := "messageBack", fn := fun _ => fun
  | [d1, d2, d3] => { results := [.lit (.bool false)], args := [d1, d2, d3] }
  | _ => none }
def MessageBackWrongFalsely : Prop := messageBackRow.holds Try.pinned (OpenSpec.ofChange messageBackWrong)

/-- 'mesnelaw05.MessageNets': WHATEVER THE INPUT: true; the input reads as it did. -/
def messageNetsSpec : ChangeSpec := { name := "messageNets", fn := fun _ => fun
  | [d1, d2] => { results := [.lit (.bool true)], args := [d1, d2] }
  | _ => none }
def messageNetsRow : OpenClaim := { program := "ytadedfcjakhfbab", sum := "8884ae55c7ce3a94e765e1d544589f4634540c849b45b38400754d87ec64c95f", func := "mesne/mesnelaw05.MessageNets", spec := "messageNets", unfollowed := true, recurses := true, apart := false }
def MessageNetsSaid : Prop := messageNetsRow.holds Try.pinned (OpenSpec.ofChange messageNetsSpec)

/-- ITS FALSE NEIGHBOUR: 'it returns false'. Refute it at one input. -/
def messageNetsWrong : ChangeSpec := { name := "messageNets", fn := fun _ => fun
  | [d1, d2] => { results := [.lit (.bool false)], args := [d1, d2] }
  | _ => none }
def MessageNetsWrongFalsely : Prop := messageNetsRow.holds Try.pinned (OpenSpec.ofChange messageNetsWrong)

/-- 'mesnelaw07.NetDoes': WHATEVER THE INPUT: true; the input reads as it did. -/
def netDoesSpec : ChangeSpec := { name := "netDoes", fn := fun _ => fun
  | [d1, d2, d3] => { results := [.lit (.bool true)], args := [d1, d2, d3] }
  | _ => none }
def netDoesRow : OpenClaim := { program := "ytadedfcjakhfbab", sum := "8884ae55c7ce3a94e765e1d544589f4634540c849b45b38400754d87ec64c95f", func := "mesne/mesnelaw07.NetDoes", spec := "netDoes", unfollowed := true, recurses := true, apart := false }
def NetDoesSaid : Prop := netDoesRow.holds Try.pinned (OpenSpec.ofChange netDoesSpec)

/-- ITS FALSE NEIGHBOUR: 'it returns false'. Refute it at one input. -/
def netDoesWrong : ChangeSpec := { name := "netDoes", fn := fun _ => fun
  | [d1, d2, d3] => { results := [.lit (.bool false)], args := [d1, d2, d3] }
  | _ => none }
def NetDoesWrongFalsely : Prop := netDoesRow.holds Try.pinned (OpenSpec.ofChange netDoesWrong)

/-- 'mesnelaw07.NetRooms': WHATEVER THE INPUT: true; the input reads as it did. -/
def netRoomsSpec : ChangeSpec := { name := "netRooms", fn := fun _ => fun
  | [d1, d2] => { results := [.lit (.bool true)], args := [d1, d2] }
  | _ => none }
def netRoomsRow : OpenClaim := { program := "ytadedfcjakhfbab", sum := "8884ae55c7ce3a94e765e1d544589f4634540c849b45b38400754d87ec64c95f", func := "mesne/mesnelaw07.NetRooms", spec := "netRooms", unfollowed := true, recurses := true, apart := false }
def NetRoomsSaid : Prop := netRoomsRow.holds Try.pinned (OpenSpec.ofChange netRoomsSpec)

/-- ITS FALSE NEIGHBOUR: 'it returns false'. Refute it at one input. -/
def netRoomsWrong : ChangeSpec := { name := "netRooms", fn := fun _ => fun
  | [d1, d2] => { results := [.lit (.bool false)], args := [d1, d2] }
  | _ => none }
def NetRoomsWrongFalsely : Prop := netRoomsRow.holds Try.pinned (OpenSpec.ofChange netRoomsWrong)

/- THE SECOND FORM. 'bulk': how many values and letters a reading holds, each counted each time it is reached (what is shared counts as often as it is met; a slice's spare places count too). A statement '..UptoSaid' is the law's where the arguments, and the package variables that the reading takes, are together of bulk at most 1048576: NARROWER than '..Said'. Prove '..Said' where nothing that the law and all that it calls make is longer than what came in: it says more and counts as full. Else prove '..UptoSaid'. A law counts once. -/
mutual
def uptoBulk {H : Type} : DataW H → Nat
  | .lit (.string bytes) => bytes.length + 1
  | .lit _ => 1
  | .nil => 1
  | .ptr d => uptoBulk d + 1
  | .slice elems spare => uptoBulkAll elems + uptoBulkAll spare + 1
  | .agg parts => uptoBulkAll parts + 1
  | .iface _ d => uptoBulk d + 1
  | .map entries => uptoBulkEntries entries + 1
  | .held _ => 1
def uptoBulkAll {H : Type} : List (DataW H) → Nat
  | [] => 0
  | d :: r => uptoBulk d + uptoBulkAll r
def uptoBulkEntries {H : Type} : List (Lit × DataW H) → Nat
  | [] => 0
  | x :: r => uptoBulkEntry x + uptoBulkEntries r
def uptoBulkEntry {H : Type} : Lit × DataW H → Nat
  | (.string bytes, d) => bytes.length + uptoBulk d + 1
  | (_, d) => uptoBulk d + 1
 end
def uptoSmall : (H : Type) → List (DataW H) → Bool := fun _ ds => decide (uptoBulkAll ds ≤ 1048576)
def OpenSpec.upto (s : _root_.Go.ChangeSpec) : _root_.Go.OpenSpec := { _root_.Go.OpenSpec.ofChange s with cond := some uptoSmall }

/-- 'mesnelaw02.SplitTells', WHERE WHAT IT READS IS OF BULK AT MOST 1048576: true; the input reads as it did. -/
def splitTellsUptoRow : OpenClaim := { program := "ytadedfcjakhfbab", sum := "8884ae55c7ce3a94e765e1d544589f4634540c849b45b38400754d87ec64c95f", func := "mesne/mesnelaw02.SplitTells", spec := "splitTells", unfollowed := true, recurses := true, apart := false, narrowed := true }
def SplitTellsUptoSaid : Prop := splitTellsUptoRow.holds Try.pinned (OpenSpec.upto splitTellsSpec)

/-- 'mesnelaw02.SplitBack', WHERE WHAT IT READS IS OF BULK AT MOST 1048576: true; the input reads as it did. -/
def splitBackUptoRow : OpenClaim := { program := "ytadedfcjakhfbab", sum := "8884ae55c7ce3a94e765e1d544589f4634540c849b45b38400754d87ec64c95f", func := "mesne/mesnelaw02.SplitBack", spec := "splitBack", unfollowed := true, recurses := true, apart := false, narrowed := true }
def SplitBackUptoSaid : Prop := splitBackUptoRow.holds Try.pinned (OpenSpec.upto splitBackSpec)

/-- 'mesnelaw02.SplitHomes', WHERE WHAT IT READS IS OF BULK AT MOST 1048576: true; the input reads as it did. -/
def splitHomesUptoRow : OpenClaim := { program := "ytadedfcjakhfbab", sum := "8884ae55c7ce3a94e765e1d544589f4634540c849b45b38400754d87ec64c95f", func := "mesne/mesnelaw02.SplitHomes", spec := "splitHomes", unfollowed := true, recurses := true, apart := false, narrowed := true }
def SplitHomesUptoSaid : Prop := splitHomesUptoRow.holds Try.pinned (OpenSpec.upto splitHomesSpec)

/-- 'mesnelaw08.SharerTells', WHERE WHAT IT READS IS OF BULK AT MOST 1048576: true; the input reads as it did. -/
def sharerTellsUptoRow : OpenClaim := { program := "ytadedfcjakhfbab", sum := "8884ae55c7ce3a94e765e1d544589f4634540c849b45b38400754d87ec64c95f", func := "mesne/mesnelaw08.SharerTells", spec := "sharerTells", inPlace := ["slices.overlaps[int]"], apart := false, narrowed := true }
def SharerTellsUptoSaid : Prop := sharerTellsUptoRow.holds Try.pinned (OpenSpec.upto sharerTellsSpec)

/-- 'mesnelaw08.SharerHas', WHERE WHAT IT READS IS OF BULK AT MOST 1048576: true; the input reads as it did. -/
def sharerHasUptoRow : OpenClaim := { program := "ytadedfcjakhfbab", sum := "8884ae55c7ce3a94e765e1d544589f4634540c849b45b38400754d87ec64c95f", func := "mesne/mesnelaw08.SharerHas", spec := "sharerHas", inPlace := ["slices.overlaps[int]"], apart := false, narrowed := true }
def SharerHasUptoSaid : Prop := sharerHasUptoRow.holds Try.pinned (OpenSpec.upto sharerHasSpec)

/-- 'mesnelaw08.SharerBut', WHERE WHAT IT READS IS OF BULK AT MOST 1048576: true; the input reads as it did. -/
def sharerButUptoRow : OpenClaim := { program := "ytadedfcjakhfbab", sum := "8884ae55c7ce3a94e765e1d544589f4634540c849b45b38400754d87ec64c95f", func := "mesne/mesnelaw08.SharerBut", spec := "sharerBut", inPlace := ["slices.overlaps[int]"], apart := false, narrowed := true }
def SharerButUptoSaid : Prop := sharerButUptoRow.holds Try.pinned (OpenSpec.upto sharerButSpec)

/-- 'mesnelaw08.SharerOrder', WHERE WHAT IT READS IS OF BULK AT MOST 1048576: true; the input reads as it did. -/
def sharerOrderUptoRow : OpenClaim := { program := "ytadedfcjakhfbab", sum := "8884ae55c7ce3a94e765e1d544589f4634540c849b45b38400754d87ec64c95f", func := "mesne/mesnelaw08.SharerOrder", spec := "sharerOrder", inPlace := ["slices.overlaps[int]"], apart := false, narrowed := true }
def SharerOrderUptoSaid : Prop := sharerOrderUptoRow.holds Try.pinned (OpenSpec.upto sharerOrderSpec)

/-- 'mesnelaw05.MessageTells', WHERE WHAT IT READS IS OF BULK AT MOST 1048576: true; the input reads as it did. -/
def messageTellsUptoRow : OpenClaim := { program := "ytadedfcjakhfbab", sum := "8884ae55c7ce3a94e765e1d544589f4634540c849b45b38400754d87ec64c95f", func := "mesne/mesnelaw05.MessageTells", spec := "messageTells", unfollowed := true, recurses := true, apart := false, narrowed := true }
def MessageTellsUptoSaid : Prop := messageTellsUptoRow.holds Try.pinned (OpenSpec.upto messageTellsSpec)

/-- 'mesnelaw05.MessageBack', WHERE WHAT IT READS IS OF BULK AT MOST 1048576: true; the input reads as it did. -/
def messageBackUptoRow : OpenClaim := { program := "ytadedfcjakhfbab", sum := "8884ae55c7ce3a94e765e1d544589f4634540c849b45b38400754d87ec64c95f", func := "mesne/mesnelaw05.MessageBack", spec := "messageBack", unfollowed := true, recurses := true, apart := false, narrowed := true }
def MessageBackUptoSaid : Prop := messageBackUptoRow.holds Try.pinned (OpenSpec.upto messageBackSpec)

/-- 'mesnelaw05.MessageNets', WHERE WHAT IT READS IS OF BULK AT MOST 1048576: true; the input reads as it did. -/
def messageNetsUptoRow : OpenClaim := { program := "ytadedfcjakhfbab", sum := "8884ae55c7ce3a94e765e1d544589f4634540c849b45b38400754d87ec64c95f", func := "mesne/mesnelaw05.MessageNets", spec := "messageNets", unfollowed := true, recurses := true, apart := false, narrowed := true }
def MessageNetsUptoSaid : Prop := messageNetsUptoRow.holds Try.pinned (OpenSpec.upto messageNetsSpec)

/-- 'mesnelaw07.NetDoes', WHERE WHAT IT READS IS OF BULK AT MOST 1048576: true; the input reads as it did. -/
def netDoesUptoRow : OpenClaim := { program := "ytadedfcjakhfbab", sum := "8884ae55c7ce3a94e765e1d544589f4634540c849b45b38400754d87ec64c95f", func := "mesne/mesnelaw07.NetDoes", spec := "netDoes", unfollowed := true, recurses := true, apart := false, narrowed := true }
def NetDoesUptoSaid : Prop := netDoesUptoRow.holds Try.pinned (OpenSpec.upto netDoesSpec)

/-- 'mesnelaw07.NetRooms', WHERE WHAT IT READS IS OF BULK AT MOST 1048576: true; the input reads as it did. -/
def netRoomsUptoRow : OpenClaim := { program := "ytadedfcjakhfbab", sum := "8884ae55c7ce3a94e765e1d544589f4634540c849b45b38400754d87ec64c95f", func := "mesne/mesnelaw07.NetRooms", spec := "netRooms", unfollowed := true, recurses := true, apart := false, narrowed := true }
def NetRoomsUptoSaid : Prop := netRoomsUptoRow.holds Try.pinned (OpenSpec.upto netRoomsSpec)

end Rows
end Go.Proofs.Ytadedfcjakhfbab
