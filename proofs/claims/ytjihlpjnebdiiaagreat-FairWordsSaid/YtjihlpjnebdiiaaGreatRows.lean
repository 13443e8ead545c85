/-
  No cell of these rows narrows 'for every input' (looked for: loops, veiled, ifaces, maps, wideKeys, modest, calm, conditions, laid).
  DERIVED. THE GIVEN ROWS OF THIS SEAT. 12 by the template 'for every input the law returns true; each argument reads behind the call as it read before'; 0 by the template 'total and deterministic' (their statements: YtjihlpjnebdiiaaGreatTotals.lean).
  GIVEN WITH THE SEED: the statements are not yours to turn. If you find one false, say at which input.
  Laid BY PROGRAM, IN A SANDBOX (cutbox-rows.mjs): the forced cells as the released guide's own fill.sh prints them over the translation 4d6e5c44237ff8d1… (all of the seat's roots in one cut). By AI agents, Wed Nov 11 2026. No macro, syntax, notation, axiom, sorry.
-/
import Derived.Test.YtjihlpjnebdiiaaGreatChecked
import GoSem.Claim
import GoSem.ClaimJoined
import GoSem.ClaimMapViews
import Derived.JoinedTies
import Derived.KernelRfl
namespace Go.Proofs.YtjihlpjnebdiiaaGreat
/- THE CELL 'sum', in the pinned program and in every row, IS THE sha256 OF THE DUMP (.gsa) THAT YtjihlpjnebdiiaaGreatProg.lean LOADS. Nothing in Lean hashes anything: it is a label: what it is worth is what the hold of that sum in a sandbox is worth. -/
noncomputable def Tryz.pinned : Pinned := { name := "ytjihlpjnebdiiaagreat", sum := "4d6e5c44237ff8d1b72b55f9049b0d2048edaeba90e61b63ed0eff72b3db1a03", checked := Tryz.checked }
namespace Rows
def none {H : Type} : Left H := { results := [], args := [] }

/-- 'mesnelaw18.MachineEntries': WHATEVER THE INPUT: true; the input reads as it did. -/
def machineEntriesSpec : ChangeSpec := { name := "machineEntries", fn := fun _ => fun
  | [d1, d2, d3] => { results := [.lit (.bool true)], args := [d1, d2, d3] }
  | _ => none }
def machineEntriesRow : OpenClaim := { program := "ytjihlpjnebdiiaagreat", sum := "4d6e5c44237ff8d1b72b55f9049b0d2048edaeba90e61b63ed0eff72b3db1a03", func := "mesne/mesnelaw18.MachineEntries", spec := "machineEntries", inPlace := ["slices.overlaps[int]"], unfollowed := true, recurses := true, apart := false }
def MachineEntriesSaid : Prop := machineEntriesRow.holds Tryz.pinned (OpenSpec.ofChange machineEntriesSpec)

/-- ITS FALSE NEIGHBOUR: 'it returns false'. Refute it at one input. -/
def machineEntriesWrong : ChangeSpec := { name := "machineEntries", fn := fun _ => fun
  | [d1, d2, d3] => { results := [.lit (.bool false)], args := [d1, d2, d3] }
  | _ => none }
def MachineEntriesWrongFalsely : Prop := machineEntriesRow.holds Tryz.pinned (OpenSpec.ofChange machineEntriesWrong)

/-- 'mesnelaw18.MachineBounds': WHATEVER THE INPUT: true; the input reads as it did. -/
def machineBoundsSpec : ChangeSpec := { name := "machineBounds", fn := fun _ => fun
  | [d1, d2, d3] => { results := [.lit (.bool true)], args := [d1, d2, d3] }
  | _ => none }
def machineBoundsRow : OpenClaim := { program := "ytjihlpjnebdiiaagreat", sum := "4d6e5c44237ff8d1b72b55f9049b0d2048edaeba90e61b63ed0eff72b3db1a03", func := "mesne/mesnelaw18.MachineBounds", spec := "machineBounds", inPlace := ["slices.overlaps[int]"], unfollowed := true, recurses := true, apart := false }
def MachineBoundsSaid : Prop := machineBoundsRow.holds Tryz.pinned (OpenSpec.ofChange machineBoundsSpec)

/-- ITS FALSE NEIGHBOUR: 'it returns false'. Refute it at one input. -/
def machineBoundsWrong : ChangeSpec := { name := "machineBounds", fn := fun _ => fun
  | [d1, d2, d3] => { results := [.lit (.bool false)], args := [d1, d2, d3] }
  | _ => none }
def MachineBoundsWrongFalsely : Prop := machineBoundsRow.holds Tryz.pinned (OpenSpec.ofChange machineBoundsWrong)

/-- 'mesnelaw18.MachineIdle': WHATEVER THE INPUT: true; the input reads as it did. -/
def machineIdleSpec : ChangeSpec := { name := "machineIdle", fn := fun _ => fun
  | [d1, d2, d3] => { results := [.lit (.bool true)], args := [d1, d2, d3] }
  | _ => none }
def machineIdleRow : OpenClaim := { program := "ytjihlpjnebdiiaagreat", sum := "4d6e5c44237ff8d1b72b55f9049b0d2048edaeba90e61b63ed0eff72b3db1a03", func := "mesne/mesnelaw18.MachineIdle", spec := "machineIdle", inPlace := ["slices.overlaps[int]"], unfollowed := true, recurses := true, apart := false }
def MachineIdleSaid : Prop := machineIdleRow.holds Tryz.pinned (OpenSpec.ofChange machineIdleSpec)

/-- ITS FALSE NEIGHBOUR: 'it returns false'. Refute it at one input. -/
def machineIdleWrong : ChangeSpec := { name := "machineIdle", fn := fun _ => fun
  | [d1, d2, d3] => { results := [.lit (.bool false)], args := [d1, d2, d3] }
  | _ => none }
def MachineIdleWrongFalsely : Prop := machineIdleRow.holds Tryz.pinned (OpenSpec.ofChange machineIdleWrong)

/-- 'mesnelaw19.WitnessFine': WHATEVER THE INPUT: true; the input reads as it did. -/
def witnessFineSpec : ChangeSpec := { name := "witnessFine", fn := fun _ => fun
  | [d1, d2, d3] => { results := [.lit (.bool true)], args := [d1, d2, d3] }
  | _ => none }
def witnessFineRow : OpenClaim := { program := "ytjihlpjnebdiiaagreat", sum := "4d6e5c44237ff8d1b72b55f9049b0d2048edaeba90e61b63ed0eff72b3db1a03", func := "mesne/mesnelaw19.WitnessFine", spec := "witnessFine", inPlace := ["slices.overlaps[int]"], unfollowed := true, recurses := true, apart := false }
def WitnessFineSaid : Prop := witnessFineRow.holds Tryz.pinned (OpenSpec.ofChange witnessFineSpec)

/-- ITS FALSE NEIGHBOUR: 'it returns false'. Refute it at one input. -/
def witnessFineWrong : ChangeSpec := { name := "witnessFine", fn := fun _ => fun
  | [d1, d2, d3] => { results := [.lit (.bool false)], args := [d1, d2, d3] }
  | _ => none }
def WitnessFineWrongFalsely : Prop := witnessFineRow.holds Tryz.pinned (OpenSpec.ofChange witnessFineWrong)

/-- 'mesnelaw19.WitnessQuiet': WHATEVER THE INPUT: true; the input reads as it did. -/
def witnessQuietSpec : ChangeSpec := { name := "witnessQuiet", fn := fun _ => fun
  | [d1, d2, d3] => { results := [.lit (.bool true)], args := [d1, d2, d3] }
  | _ => none }
def witnessQuietRow : OpenClaim := { program := "ytjihlpjnebdiiaagreat", sum := "4d6e5c44237ff8d1b72b55f9049b0d2048edaeba90e61b63ed0eff72b3db1a03", func := "mesne/mesnelaw19.WitnessQuiet", spec := "witnessQuiet", inPlace := ["slices.overlaps[int]"], unfollowed := true, recurses := true, apart := false }
def WitnessQuietSaid : Prop := witnessQuietRow.holds Tryz.pinned (OpenSpec.ofChange witnessQuietSpec)

/-- ITS FALSE NEIGHBOUR: 'it returns false'. Refute it at one input. -/
def witnessQuietWrong : ChangeSpec := { name := "witnessQuiet", fn := fun _ => fun
  | [d1, d2, d3] => { results := [.lit (.bool false)], args := [d1, d2, d3] }
  | _ => none }
def WitnessQuietWrongFalsely : Prop := witnessQuietRow.holds Tryz.pinned (OpenSpec.ofChange witnessQuietWrong)

/-- 'mesnelaw20.GhostSingle': WHATEVER THE INPUT: true; the input reads as it did. -/
def ghostSingleSpec : ChangeSpec := { name := "ghostSingle", fn := fun _ => fun
  | [d1, d2, d3] => { results := [.lit (.bool true)], args := [d1, d2, d3] }
  | _ => none }
def ghostSingleRow : OpenClaim := { program := "ytjihlpjnebdiiaagreat", sum := "4d6e5c44237ff8d1b72b55f9049b0d2048edaeba90e61b63ed0eff72b3db1a03", func := "mesne/mesnelaw20.GhostSingle", spec := "ghostSingle", inPlace := ["slices.overlaps[int]"], unfollowed := true, recurses := true, apart := false }
def GhostSingleSaid : Prop := ghostSingleRow.holds Tryz.pinned (OpenSpec.ofChange ghostSingleSpec)

/-- ITS FALSE NEIGHBOUR: 'it returns false'. Refute it at one input. -/
def ghostSingleWrong : ChangeSpec := { name := "ghostSingle", fn := fun _ => fun
  | [d1, d2, d3] => { results := [.lit (.bool false)], args := [d1, d2, d3] }
  | _ => none }
def GhostSingleWrongFalsely : Prop := ghostSingleRow.holds Tryz.pinned (OpenSpec.ofChange ghostSingleWrong)

/-- 'mesnelaw20.GhostOwned': WHATEVER THE INPUT: true; the input reads as it did. -/
def ghostOwnedSpec : ChangeSpec := { name := "ghostOwned", fn := fun _ => fun
  | [d1, d2, d3] => { results := [.lit (.bool true)], args := [d1, d2, d3] }
  | _ => none }
def ghostOwnedRow : OpenClaim := { program := "ytjihlpjnebdiiaagreat", sum := "4d6e5c44237ff8d1b72b55f9049b0d2048edaeba90e61b63ed0eff72b3db1a03", func := "mesne/mesnelaw20.GhostOwned", spec := "ghostOwned", inPlace := ["slices.overlaps[int]"], unfollowed := true, recurses := true, apart := false }
def GhostOwnedSaid : Prop := ghostOwnedRow.holds Tryz.pinned (OpenSpec.ofChange ghostOwnedSpec)

/-- ITS FALSE NEIGHBOUR: 'it returns false'. Refute it at one input. -/
def ghostOwnedWrong : ChangeSpec := { name := "ghostOwned", fn := fun _ => fun
  | [d1, d2, d3] => { results := [.lit (.bool false)], args := [d1, d2, d3] }
  | _ => none }
def GhostOwnedWrongFalsely : Prop := ghostOwnedRow.holds Tryz.pinned (OpenSpec.ofChange ghostOwnedWrong)

/-- 'mesnelaw20.GhostFresh': WHATEVER THE INPUT: true; the input reads as it did. -/
def ghostFreshSpec : ChangeSpec := { name := "ghostFresh", fn := fun _ => fun
  | [d1, d2, d3] => { results := [.lit (.bool true)], args := [d1, d2, d3] }
  | _ => none }
def ghostFreshRow : OpenClaim := { program := "ytjihlpjnebdiiaagreat", sum := "4d6e5c44237ff8d1b72b55f9049b0d2048edaeba90e61b63ed0eff72b3db1a03", func := "mesne/mesnelaw20.GhostFresh", spec := "ghostFresh", inPlace := ["slices.overlaps[int]"], unfollowed := true, recurses := true, apart := false }
def GhostFreshSaid : Prop := ghostFreshRow.holds Tryz.pinned (OpenSpec.ofChange ghostFreshSpec)

/-- ITS FALSE NEIGHBOUR: 'it returns false'. Refute it at one input. -/
def ghostFreshWrong : ChangeSpec := { name := "ghostFresh", fn := fun _ => fun
  | [d1, d2, d3] => { results := [.lit (.bool false)], args := [d1, d2, d3] }
  | _ => none }
def GhostFreshWrongFalsely : Prop := ghostFreshRow.holds Tryz.pinned (OpenSpec.ofChange ghostFreshWrong)

/-- 'mesnelaw20.GhostKnown': WHATEVER THE INPUT: true; the input reads as it did. -/
def ghostKnownSpec : ChangeSpec := { name := "ghostKnown", fn := fun _ => fun
  | [d1, d2, d3] => { results := [.lit (.bool true)], args := [d1, d2, d3] }
  | _ => none }
def ghostKnownRow : OpenClaim := { program := "ytjihlpjnebdiiaagreat", sum := "4d6e5c44237ff8d1b72b55f9049b0d2048edaeba90e61b63ed0eff72b3db1a03", func := "mesne/mesnelaw20.GhostKnown", spec := "ghostKnown", inPlace := ["slices.overlaps[int]"], unfollowed := true, recurses := true, apart := false }
def GhostKnownSaid : Prop := ghostKnownRow.holds Tryz.pinned (OpenSpec.ofChange ghostKnownSpec)

/-- ITS FALSE NEIGHBOUR: 'it returns false'. Refute it at one input. -/
def ghostKnownWrong : ChangeSpec := { name := "ghostKnown", fn := fun _ => fun
  | [d1, d2, d3] => { results := [.lit (.bool false)], args := [d1, d2, d3] }
  | _ => none }
def GhostKnownWrongFalsely : Prop := ghostKnownRow.holds Tryz.pinned (OpenSpec.ofChange ghostKnownWrong)

/-- 'mesnelaw21.FairMoves': WHATEVER THE INPUT: true; the input reads as it did. -/
def fairMovesSpec : ChangeSpec := { name := "fairMoves", fn := fun _ => fun
  | [d1, d2, d3, d4] => { results := [.lit (.bool true)], args := [d1, d2, d3, d4] }
  | _ => none }
def fairMovesRow : OpenClaim := { program := "ytjihlpjnebdiiaagreat", sum := "4d6e5c44237ff8d1b72b55f9049b0d2048edaeba90e61b63ed0eff72b3db1a03", func := "mesne/mesnelaw21.FairMoves", spec := "fairMoves", inPlace := ["slices.overlaps[int]"], unfollowed := true, recurses := true, apart := false }
def FairMovesSaid : Prop := fairMovesRow.holds Tryz.pinned (OpenSpec.ofChange fairMovesSpec)

/-- ITS FALSE NEIGHBOUR: 'it returns false'. Refute it at one input. -/
def fairMovesWrong : ChangeSpec := { name := "fairMoves", fn := fun _ => fun
  | [d1, d2, d3, d4] => { results := [.lit (.bool false)], args := [d1, d2, d3, d4] }
  | _ => none }
def FairMovesWrongFalsely : Prop := fairMovesRow.holds Tryz.pinned (OpenSpec.ofChange fairMovesWrong)

/-- 'mesnelaw21.FairEnds': WHATEVER THE INPUT: true; the input reads as it did. -/
def fairEndsSpec : ChangeSpec := { name := "fairEnds", fn := fun _ => fun
  | [d1, d2, d3] => { results := [.lit (.bool true)], args := [d1, d2, d3] }
  | _ => none }
def fairEndsRow : OpenClaim := { program := "ytjihlpjnebdiiaagreat", sum := "4d6e5c44237ff8d1b72b55f9049b0d2048edaeba90e61b63ed0eff72b3db1a03", func := "mesne/mesnelaw21.FairEnds", spec := "fairEnds", inPlace := ["slices.overlaps[int]"], unfollowed := true, recurses := true, apart := false }
def FairEndsSaid : Prop := fairEndsRow.holds Tryz.pinned (OpenSpec.ofChange fairEndsSpec)

/-- ITS FALSE NEIGHBOUR: 'it returns false'. Refute it at one input. -/
def fairEndsWrong : ChangeSpec := { name := "fairEnds", fn := fun _ => fun
  | [d1, d2, d3] => { results := [.lit (.bool false)], args := [d1, d2, d3] }
  | _ => none }
def FairEndsWrongFalsely : Prop := fairEndsRow.holds Tryz.pinned (OpenSpec.ofChange fairEndsWrong)

/-- 'mesnelaw21.FairWords': WHATEVER THE INPUT: true; the input reads as it did. -/
def fairWordsSpec : ChangeSpec := { name := "fairWords", fn := fun _ => fun
  | [d1, d2, d3] => { results := [.lit (.bool true)], args := [d1, d2, d3] }
  | _ => none }
def fairWordsRow : OpenClaim := { program := "ytjihlpjnebdiiaagreat", sum := "4d6e5c44237ff8d1b72b55f9049b0d2048edaeba90e61b63ed0eff72b3db1a03", func := "mesne/mesnelaw21.FairWords", spec := "fairWords", inPlace := ["slices.overlaps[int]"], unfollowed := true, recurses := true, apart := false }
def FairWordsSaid : Prop := fairWordsRow.holds Tryz.pinned (OpenSpec.ofChange fairWordsSpec)

/-- ITS FALSE NEIGHBOUR: 'it returns false'. Refute it at one input. -/
def fairWordsWrong : ChangeSpec := { name := "fairWords", fn := fun _ => fun
  | [d1, d2, d3] => { results := [.lit (.bool false)], args := [d1, d2, d3] }
  | _ => none }
def FairWordsWrongFalsely : Prop := fairWordsRow.holds Tryz.pinned (OpenSpec.ofChange fairWordsWrong)

/- THE SECOND FORM. 'bulk': how many values and letters a reading holds, each counted each time it is reached (what is shared counts as often as it is met; a slice's spare places count too). A statement '..UptoSaid' is the law's where the arguments, and the package variables that the reading takes, are together of bulk at most 1048576: NARROWER than '..Said'. Prove '..Said' where nothing that the law and all that it calls make is longer than what came in: it says more and counts as full. Else prove '..UptoSaid'. A law counts once. -/
mutual
def uptoBulk {H : Type} : DataW H → Nat
  | .lit (.string bytes) => bytes.length + 1
  | .lit _ => 1
  | .nil => 1
  | .ptr d => uptoBulk d + 1
  | .slice elems spare => uptoBulkAll elems + uptoBulkAll spare + 1
  | .agg parts => uptoBulkAll parts + 1
  | .iface _ d => uptoBulk d + 1
  | .map entries => uptoBulkEntries entries + 1
  | .held _ => 1
def uptoBulkAll {H : Type} : List (DataW H) → Nat
  | [] => 0
  | d :: r => uptoBulk d + uptoBulkAll r
def uptoBulkEntries {H : Type} : List (Lit × DataW H) → Nat
  | [] => 0
  | x :: r => uptoBulkEntry x + uptoBulkEntries r
def uptoBulkEntry {H : Type} : Lit × DataW H → Nat
  | (.string bytes, d) => bytes.length + uptoBulk d + 1
  | (_, d) => uptoBulk d + 1
 end
def uptoSmall : (H : Type) → List (DataW H) → Bool := fun _ ds => decide (uptoBulkAll ds ≤ 1048576)
def OpenSpec.upto (s : _root_.Go.ChangeSpec) : _root_.Go.OpenSpec := { _root_.Go.OpenSpec.ofChange s with cond := some uptoSmall }

/-- 'mesnelaw18.MachineEntries', WHERE WHAT IT READS IS OF BULK AT MOST 1048576: true; the input reads as it did. -/
def machineEntriesUptoRow : OpenClaim := { program := "ytjihlpjnebdiiaagreat", sum := "4d6e5c44237ff8d1b72b55f9049b0d2048edaeba90e61b63ed0eff72b3db1a03", func := "mesne/mesnelaw18.MachineEntries", spec := "machineEntries", inPlace := ["slices.overlaps[int]"], unfollowed := true, recurses := true, apart := false, narrowed := true }
def MachineEntriesUptoSaid : Prop := machineEntriesUptoRow.holds Tryz.pinned (OpenSpec.upto machineEntriesSpec)

/-- 'mesnelaw18.MachineBounds', WHERE WHAT IT READS IS OF BULK AT MOST 1048576: true; the input reads as it did. -/
def machineBoundsUptoRow : OpenClaim := { program := "ytjihlpjnebdiiaagreat", sum := "4d6e5c44237ff8d1b72b55f9049b0d2048edaeba90e61b63ed0eff72b3db1a03", func := "mesne/mesnelaw18.MachineBounds", spec := "machineBounds", inPlace := ["slices.overlaps[int]"], unfollowed := true, recurses := true, apart := false, narrowed := true }
def MachineBoundsUptoSaid : Prop := machineBoundsUptoRow.holds Tryz.pinned (OpenSpec.upto machineBoundsSpec)

/-- 'mesnelaw18.MachineIdle', WHERE WHAT IT READS IS OF BULK AT MOST 1048576: true; the input reads as it did. -/
def machineIdleUptoRow : OpenClaim := { program := "ytjihlpjnebdiiaagreat", sum := "4d6e5c44237ff8d1b72b55f9049b0d2048edaeba90e61b63ed0eff72b3db1a03", func := "mesne/mesnelaw18.MachineIdle", spec := "machineIdle", inPlace := ["slices.overlaps[int]"], unfollowed := true, recurses := true, apart := false, narrowed := true }
def MachineIdleUptoSaid : Prop := machineIdleUptoRow.holds Tryz.pinned (OpenSpec.upto machineIdleSpec)

/-- 'mesnelaw19.WitnessFine', WHERE WHAT IT READS IS OF BULK AT MOST 1048576: true; the input reads as it did. -/
def witnessFineUptoRow : OpenClaim := { program := "ytjihlpjnebdiiaagreat", sum := "4d6e5c44237ff8d1b72b55f9049b0d2048edaeba90e61b63ed0eff72b3db1a03", func := "mesne/mesnelaw19.WitnessFine", spec := "witnessFine", inPlace := ["slices.overlaps[int]"], unfollowed := true, recurses := true, apart := false, narrowed := true }
def WitnessFineUptoSaid : Prop := witnessFineUptoRow.holds Tryz.pinned (OpenSpec.upto witnessFineSpec)

/-- 'mesnelaw19.WitnessQuiet', WHERE WHAT IT READS IS OF BULK AT MOST 1048576: true; the input reads as it did. -/
def witnessQuietUptoRow : OpenClaim := { program := "ytjihlpjnebdiiaagreat", sum := "4d6e5c44237ff8d1b72b55f9049b0d2048edaeba90e61b63ed0eff72b3db1a03", func := "mesne/mesnelaw19.WitnessQuiet", spec := "witnessQuiet", inPlace := ["slices.overlaps[int]"], unfollowed := true, recurses := true, apart := false, narrowed := true }
def WitnessQuietUptoSaid : Prop := witnessQuietUptoRow.holds Tryz.pinned (OpenSpec.upto witnessQuietSpec)

/-- 'mesnelaw20.GhostSingle', WHERE WHAT IT READS IS OF BULK AT MOST 1048576: true; the input reads as it did. -/
def ghostSingleUptoRow : OpenClaim := { program := "ytjihlpjnebdiiaagreat", sum := "4d6e5c44237ff8d1b72b55f9049b0d2048edaeba90e61b63ed0eff72b3db1a03", func := "mesne/mesnelaw20.GhostSingle", spec := "ghostSingle", inPlace := ["slices.overlaps[int]"], unfollowed := true, recurses := true, apart := false, narrowed := true }
def GhostSingleUptoSaid : Prop := ghostSingleUptoRow.holds Tryz.pinned (OpenSpec.upto ghostSingleSpec)

/-- 'mesnelaw20.GhostOwned', WHERE WHAT IT READS IS OF BULK AT MOST 1048576: true; the input reads as it did. -/
def ghostOwnedUptoRow : OpenClaim := { program := "ytjihlpjnebdiiaagreat", sum := "4d6e5c44237ff8d1b72b55f9049b0d2048edaeba90e61b63ed0eff72b3db1a03", func := "mesne/mesnelaw20.GhostOwned", spec := "ghostOwned", inPlace := ["slices.overlaps[int]"], unfollowed := true, recurses := true, apart := false, narrowed := true }
def GhostOwnedUptoSaid : Prop := ghostOwnedUptoRow.holds Tryz.pinned (OpenSpec.upto ghostOwnedSpec)

/-- 'mesnelaw20.GhostFresh', WHERE WHAT IT READS IS OF BULK AT MOST 1048576: true; the input reads as it did. -/
def ghostFreshUptoRow : OpenClaim := { program := "ytjihlpjnebdiiaagreat", sum := "4d6e5c44237ff8d1b72b55f9049b0d2048edaeba90e61b63ed0eff72b3db1a03", func := "mesne/mesnelaw20.GhostFresh", spec := "ghostFresh", inPlace := ["slices.overlaps[int]"], unfollowed := true, recurses := true, apart := false, narrowed := true }
def GhostFreshUptoSaid : Prop := ghostFreshUptoRow.holds Tryz.pinned (OpenSpec.upto ghostFreshSpec)

/-- 'mesnelaw20.GhostKnown', WHERE WHAT IT READS IS OF BULK AT MOST 1048576: true; the input reads as it did. -/
def ghostKnownUptoRow : OpenClaim := { program := "ytjihlpjnebdiiaagreat", sum := "4d6e5c44237ff8d1b72b55f9049b0d2048edaeba90e61b63ed0eff72b3db1a03", func := "mesne/mesnelaw20.GhostKnown", spec := "ghostKnown", inPlace := ["slices.overlaps[int]"], unfollowed := true, recurses := true, apart := false, narrowed := true }
def GhostKnownUptoSaid : Prop := ghostKnownUptoRow.holds Tryz.pinned (OpenSpec.upto ghostKnownSpec)

/-- 'mesnelaw21.FairMoves', WHERE WHAT IT READS IS OF BULK AT MOST 1048576: true; the input reads as it did. -/
def fairMovesUptoRow : OpenClaim := { program := "ytjihlpjnebdiiaagreat", sum := "4d6e5c44237ff8d1b72b55f9049b0d2048edaeba90e61b63ed0eff72b3db1a03", func := "mesne/mesnelaw21.FairMoves", spec := "fairMoves", inPlace := ["slices.overlaps[int]"], unfollowed := true, recurses := true, apart := false, narrowed := true }
def FairMovesUptoSaid : Prop := fairMovesUptoRow.holds Tryz.pinned (OpenSpec.upto fairMovesSpec)

/-- 'mesnelaw21.FairEnds', WHERE WHAT IT READS IS OF BULK AT MOST 1048576: true; the input reads as it did. -/
def fairEndsUptoRow : OpenClaim := { program := "ytjihlpjnebdiiaagreat", sum := "4d6e5c44237ff8d1b72b55f9049b0d2048edaeba90e61b63ed0eff72b3db1a03", func := "mesne/mesnelaw21.FairEnds", spec := "fairEnds", inPlace := ["slices.overlaps[int]"], unfollowed := true, recurses := true, apart := false, narrowed := true }
def FairEndsUptoSaid : Prop := fairEndsUptoRow.holds Tryz.pinned (OpenSpec.upto fairEndsSpec)

/-- 'mesnelaw21.FairWords', WHERE WHAT IT READS IS OF BULK AT MOST 1048576: true; the input reads as it did. -/
def fairWordsUptoRow : OpenClaim := { program := "ytjihlpjnebdiiaagreat", sum := "4d6e5c44237ff8d1b72b55f9049b0d2048edaeba90e61b63ed0eff72b3db1a03", func := "mesne/mesnelaw21.FairWords", spec := "fairWords", inPlace := ["slices.overlaps[int]"], unfollowed := true, recurses := true, apart := false, narrowed := true }
def FairWordsUptoSaid : Prop := fairWordsUptoRow.holds Tryz.pinned (OpenSpec.upto fairWordsSpec)

end Rows
end Go.Proofs.YtjihlpjnebdiiaaGreat
