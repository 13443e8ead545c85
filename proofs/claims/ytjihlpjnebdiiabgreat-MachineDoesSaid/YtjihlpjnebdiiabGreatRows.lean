/-
  No cell of these rows narrows 'for every input' (looked for: loops, veiled, ifaces, maps, wideKeys, modest, calm, conditions, laid).
  DERIVED. THE GIVEN ROWS OF THIS SEAT. 6 by the template 'for every input the law returns true; each argument reads behind the call as it read before'; 0 by the template 'total and deterministic' (their statements: YtjihlpjnebdiiabGreatTotals.lean).
  GIVEN WITH THE SEED: the statements are not yours to turn. If you find one false, say at which input.
  Laid BY PROGRAM, IN A SANDBOX (cutbox-rows.mjs): the forced cells as the released guide's own fill.sh prints them over the translation 661fdecd4433d274… (all of the seat's roots in one cut). By AI agents, Wed Nov 11 2026. No macro, syntax, notation, axiom, sorry.
-/
import Derived.Test.YtjihlpjnebdiiabGreatChecked
import GoSem.Claim
import GoSem.ClaimJoined
import GoSem.ClaimMapViews
import Derived.JoinedTies
import Derived.KernelRfl
namespace Go.Proofs.YtjihlpjnebdiiabGreat
/- THE CELL 'sum', in the pinned program and in every row, IS THE sha256 OF THE DUMP (.gsa) THAT YtjihlpjnebdiiabGreatProg.lean LOADS. Nothing in Lean hashes anything: it is a label: what it is worth is what the hold of that sum in a sandbox is worth. -/
noncomputable def Tryz.pinned : Pinned := { name := "ytjihlpjnebdiiabgreat", sum := "661fdecd4433d27439307dcd98770a4d65494bff92d71ed0a74bdd737b637654", checked := Tryz.checked }
namespace Rows
def none {H : Type} : Left H := { results := [], args := [] }

/-- 'mesnetop.TopScripts': WHATEVER THE INPUT: true; the input reads as it did. -/
def topScriptsSpec : ChangeSpec := { name := "topScripts", fn := fun _ => fun
  | [d] => { results := [.lit (.bool true)], args := [d] }
  | _ => none }
def topScriptsRow : OpenClaim := { program := "ytjihlpjnebdiiabgreat", sum := "661fdecd4433d27439307dcd98770a4d65494bff92d71ed0a74bdd737b637654", func := "mesne/mesnetop.TopScripts", spec := "topScripts", inPlace := ["internal/bytealg.IndexByteString", "internal/bytealg.IndexString", "slices.overlaps[int]"], unfollowed := true, recurses := true, named := ["internal/bytealg.MaxLen"], apart := false }
def TopScriptsSaid : Prop := topScriptsRow.holds Tryz.pinned (OpenSpec.ofChange topScriptsSpec)

/-- ITS FALSE NEIGHBOUR: 'it returns false'. Refute it at one input. -/
def topScriptsWrong : ChangeSpec := { name := "topScripts", fn := fun _ => fun
  | [d] => { results := [.lit (.bool false)], args := [d] }
  | _ => none }
def TopScriptsWrongFalsely : Prop := topScriptsRow.holds Tryz.pinned (OpenSpec.ofChange topScriptsWrong)

/-- 'mesnetop.TopMoments': WHATEVER THE INPUT: true; the input reads as it did. -/
def topMomentsSpec : ChangeSpec := { name := "topMoments", fn := fun _ => fun
  | [d1, d2] => { results := [.lit (.bool true)], args := [d1, d2] }
  | _ => none }
def topMomentsRow : OpenClaim := { program := "ytjihlpjnebdiiabgreat", sum := "661fdecd4433d27439307dcd98770a4d65494bff92d71ed0a74bdd737b637654", func := "mesne/mesnetop.TopMoments", spec := "topMoments", inPlace := ["internal/bytealg.IndexByteString", "internal/bytealg.IndexString", "slices.overlaps[int]"], unfollowed := true, recurses := true, named := ["internal/bytealg.MaxLen"], apart := false }
def TopMomentsSaid : Prop := topMomentsRow.holds Tryz.pinned (OpenSpec.ofChange topMomentsSpec)

/-- ITS FALSE NEIGHBOUR: 'it returns false'. Refute it at one input. -/
def topMomentsWrong : ChangeSpec := { name := "topMoments", fn := fun _ => fun
  | [d1, d2] => { results := [.lit (.bool false)], args := [d1, d2] }
  | _ => none }
def TopMomentsWrongFalsely : Prop := topMomentsRow.holds Tryz.pinned (OpenSpec.ofChange topMomentsWrong)

/-- 'mesnelaw18.MachineDoes': WHATEVER THE INPUT: true; the input reads as it did. -/
def machineDoesSpec : ChangeSpec := { name := "machineDoes", fn := fun _ => fun
  | [d1, d2, d3] => { results := [.lit (.bool true)], args := [d1, d2, d3] }
  | _ => none }
def machineDoesRow : OpenClaim := { program := "ytjihlpjnebdiiabgreat", sum := "661fdecd4433d27439307dcd98770a4d65494bff92d71ed0a74bdd737b637654", func := "mesne/mesnelaw18.MachineDoes", spec := "machineDoes", inPlace := ["slices.overlaps[int]"], unfollowed := true, recurses := true, apart := false }
def MachineDoesSaid : Prop := machineDoesRow.holds Tryz.pinned (OpenSpec.ofChange machineDoesSpec)

/-- ITS FALSE NEIGHBOUR: 'it returns false'. Refute it at one input. -/
def machineDoesWrong : ChangeSpec := { name := "machineDoes", fn := fun _ => fun
  | [d1, d2, d3] => { results := [.lit (.bool false)], args := [d1, d2, d3] }
  | _ => none }
def MachineDoesWrongFalsely : Prop := machineDoesRow.holds Tryz.pinned (OpenSpec.ofChange machineDoesWrong)

/-- 'mesnelaw19.WitnessFinal': WHATEVER THE INPUT: true; the input reads as it did. -/
def witnessFinalSpec : ChangeSpec := { name := "witnessFinal", fn := fun _ => fun
  | [d1, d2, d3, d4] => { results := [.lit (.bool true)], args := [d1, d2, d3, d4] }
  | _ => none }
def witnessFinalRow : OpenClaim := { program := "ytjihlpjnebdiiabgreat", sum := "661fdecd4433d27439307dcd98770a4d65494bff92d71ed0a74bdd737b637654", func := "mesne/mesnelaw19.WitnessFinal", spec := "witnessFinal", inPlace := ["slices.overlaps[int]"], unfollowed := true, recurses := true, apart := false }
def WitnessFinalSaid : Prop := witnessFinalRow.holds Tryz.pinned (OpenSpec.ofChange witnessFinalSpec)

/-- ITS FALSE NEIGHBOUR: 'it returns false'. Refute it at one input. -/
def witnessFinalWrong : ChangeSpec := { name := "witnessFinal", fn := fun _ => fun
  | [d1, d2, d3, d4] => { results := [.lit (.bool false)], args := [d1, d2, d3, d4] }
  | _ => none }
def WitnessFinalWrongFalsely : Prop := witnessFinalRow.holds Tryz.pinned (OpenSpec.ofChange witnessFinalWrong)

/-- 'mesnelaw21.FairTells': WHATEVER THE INPUT: true; the input reads as it did. -/
def fairTellsSpec : ChangeSpec := { name := "fairTells", fn := fun _ => fun
  | [d1, d2, d3, d4, d5, d6] => { results := [.lit (.bool true)], args := [d1, d2, d3, d4, d5, d6] }
  | _ => none }
def fairTellsRow : OpenClaim := { program := "ytjihlpjnebdiiabgreat", sum := "661fdecd4433d27439307dcd98770a4d65494bff92d71ed0a74bdd737b637654", func := "mesne/mesnelaw21.FairTells", spec := "fairTells", inPlace := ["slices.overlaps[int]"], unfollowed := true, recurses := true, apart := false }
def FairTellsSaid : Prop := fairTellsRow.holds Tryz.pinned (OpenSpec.ofChange fairTellsSpec)

/-- ITS FALSE NEIGHBOUR: 'it returns false'. Refute it at one input. -/
def fairTellsWrong : ChangeSpec := { name := "fairTells", fn := fun _ => fun
  | [d1, d2, d3, d4, d5, d6] => { results := [.lit (.bool false)], args := [d1, d2, d3, d4, d5, d6] }
  | _ => none }
def FairTellsWrongFalsely : Prop := fairTellsRow.holds Tryz.pinned (OpenSpec.ofChange fairTellsWrong)

/-- 'mesnelaw20.GhostTells': WHATEVER THE INPUT: true; the input reads as it did. -/
def ghostTellsSpec : ChangeSpec := { name := "ghostTells", fn := fun _ => fun
  | [d1, d2, d3, d4] => { results := [.lit (.bool true)], args := [d1, d2, d3, d4] }
  | _ => none }
def ghostTellsRow : OpenClaim := { program := "ytjihlpjnebdiiabgreat", sum := "661fdecd4433d27439307dcd98770a4d65494bff92d71ed0a74bdd737b637654", func := "mesne/mesnelaw20.GhostTells", spec := "ghostTells", inPlace := ["slices.overlaps[int]"], unfollowed := true, recurses := true, apart := false }
def GhostTellsSaid : Prop := ghostTellsRow.holds Tryz.pinned (OpenSpec.ofChange ghostTellsSpec)

/-- ITS FALSE NEIGHBOUR: 'it returns false'. Refute it at one input. -/
def ghostTellsWrong : ChangeSpec := { name := "ghostTells", fn := fun _ => fun
  | [d1, d2, d3, d4] => { results := [.lit (.bool false)], args := [d1, d2, d3, d4] }
  | _ => none }
def GhostTellsWrongFalsely : Prop := ghostTellsRow.holds Tryz.pinned (OpenSpec.ofChange ghostTellsWrong)

/- THE SECOND FORM. 'bulk': how many values and letters a reading holds, each counted each time it is reached (what is shared counts as often as it is met; a slice's spare places count too). A statement '..UptoSaid' is the law's where the arguments, and the package variables that the reading takes, are together of bulk at most 1048576: NARROWER than '..Said'. Prove '..Said' where nothing that the law and all that it calls make is longer than what came in: it says more and counts as full. Else prove '..UptoSaid'. A law counts once. -/
mutual
def uptoBulk {H : Type} : DataW H → Nat
  | .lit (.string bytes) => bytes.length + 1
  | .lit _ => 1
  | .nil => 1
  | .ptr d => uptoBulk d + 1
  | .slice elems spare => uptoBulkAll elems + uptoBulkAll spare + 1
  | .agg parts => uptoBulkAll parts + 1
  | .iface _ d => uptoBulk d + 1
  | .map entries => uptoBulkEntries entries + 1
  | .held _ => 1
def uptoBulkAll {H : Type} : List (DataW H) → Nat
  | [] => 0
  | d :: r => uptoBulk d + uptoBulkAll r
def uptoBulkEntries {H : Type} : List (Lit × DataW H) → Nat
  | [] => 0
  | x :: r => uptoBulkEntry x + uptoBulkEntries r
def uptoBulkEntry {H : Type} : Lit × DataW H → Nat
  | (.string bytes, d) => bytes.length + uptoBulk d + 1
  | (_, d) => uptoBulk d + 1
 end
def uptoSmall : (H : Type) → List (DataW H) → Bool := fun _ ds => decide (uptoBulkAll ds ≤ 1048576)
def OpenSpec.upto (s : _root_.Go.ChangeSpec) : _root_.Go.OpenSpec := { _root_.Go.OpenSpec.ofChange s with cond := some uptoSmall }

/-- 'mesnetop.TopScripts', WHERE WHAT IT READS IS OF BULK AT MOST 1048576: true; the input reads as it did. -/
def topScriptsUptoRow : OpenClaim := { program := "ytjihlpjnebdiiabgreat", sum := "661fdecd4433d27439307dcd98770a4d65494bff92d71ed0a74bdd737b637654", func := "mesne/mesnetop.TopScripts", spec := "topScripts", inPlace := ["internal/bytealg.IndexByteString", "internal/bytealg.IndexString", "slices.overlaps[int]"], unfollowed := true, recurses := true, named := ["internal/bytealg.MaxLen"], apart := false, narrowed := true }
def TopScriptsUptoSaid : Prop := topScriptsUptoRow.holds Tryz.pinned (OpenSpec.upto topScriptsSpec)

/-- 'mesnetop.TopMoments', WHERE WHAT IT READS IS OF BULK AT MOST 1048576: true; the input reads as it did. -/
def topMomentsUptoRow : OpenClaim := { program := "ytjihlpjnebdiiabgreat", sum := "661fdecd4433d27439307dcd98770a4d65494bff92d71ed0a74bdd737b637654", func := "mesne/mesnetop.TopMoments", spec := "topMoments", inPlace := ["internal/bytealg.IndexByteString", "internal/bytealg.IndexString", "slices.overlaps[int]"], unfollowed := true, recurses := true, named := ["internal/bytealg.MaxLen"], apart := false, narrowed := true }
def TopMomentsUptoSaid : Prop := topMomentsUptoRow.holds Tryz.pinned (OpenSpec.upto topMomentsSpec)

/-- 'mesnelaw18.MachineDoes', WHERE WHAT IT READS IS OF BULK AT MOST 1048576: true; the input reads as it did. -/
def machineDoesUptoRow : OpenClaim := { program := "ytjihlpjnebdiiabgreat", sum := "661fdecd4433d27439307dcd98770a4d65494bff92d71ed0a74bdd737b637654", func := "mesne/mesnelaw18.MachineDoes", spec := "machineDoes", inPlace := ["slices.overlaps[int]"], unfollowed := true, recurses := true, apart := false, narrowed := true }
def MachineDoesUptoSaid : Prop := machineDoesUptoRow.holds Tryz.pinned (OpenSpec.upto machineDoesSpec)

/-- 'mesnelaw19.WitnessFinal', WHERE WHAT IT READS IS OF BULK AT MOST 1048576: true; the input reads as it did. -/
def witnessFinalUptoRow : OpenClaim := { program := "ytjihlpjnebdiiabgreat", sum := "661fdecd4433d27439307dcd98770a4d65494bff92d71ed0a74bdd737b637654", func := "mesne/mesnelaw19.WitnessFinal", spec := "witnessFinal", inPlace := ["slices.overlaps[int]"], unfollowed := true, recurses := true, apart := false, narrowed := true }
def WitnessFinalUptoSaid : Prop := witnessFinalUptoRow.holds Tryz.pinned (OpenSpec.upto witnessFinalSpec)

/-- 'mesnelaw21.FairTells', WHERE WHAT IT READS IS OF BULK AT MOST 1048576: true; the input reads as it did. -/
def fairTellsUptoRow : OpenClaim := { program := "ytjihlpjnebdiiabgreat", sum := "661fdecd4433d27439307dcd98770a4d65494bff92d71ed0a74bdd737b637654", func := "mesne/mesnelaw21.FairTells", spec := "fairTells", inPlace := ["slices.overlaps[int]"], unfollowed := true, recurses := true, apart := false, narrowed := true }
def FairTellsUptoSaid : Prop := fairTellsUptoRow.holds Tryz.pinned (OpenSpec.upto fairTellsSpec)

/-- 'mesnelaw20.GhostTells', WHERE WHAT IT READS IS OF BULK AT MOST 1048576: true; the input reads as it did. -/
def ghostTellsUptoRow : OpenClaim := { program := "ytjihlpjnebdiiabgreat", sum := "661fdecd4433d27439307dcd98770a4d65494bff92d71ed0a74bdd737b637654", func := "mesne/mesnelaw20.GhostTells", spec := "ghostTells", inPlace := ["slices.overlaps[int]"], unfollowed := true, recurses := true, apart := false, narrowed := true }
def GhostTellsUptoSaid : Prop := ghostTellsUptoRow.holds Tryz.pinned (OpenSpec.upto ghostTellsSpec)

end Rows
end Go.Proofs.YtjihlpjnebdiiabGreat
