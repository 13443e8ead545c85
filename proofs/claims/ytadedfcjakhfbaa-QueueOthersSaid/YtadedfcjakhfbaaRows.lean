/-
  No cell of these rows narrows 'for every input' (looked for: loops, veiled, ifaces, maps, wideKeys, modest, calm, conditions, laid).
  DERIVED. THE GIVEN ROWS OF THIS SEAT. 12 by the template 'for every input the law returns true; each argument reads behind the call as it read before'; 0 by the template 'total and deterministic' (their statements: YtadedfcjakhfbaaTotals.lean).
  GIVEN WITH THE SEED: the statements are not yours to turn. If you find one false, say at which input.
  Laid BY PROGRAM, IN A SANDBOX (cutbox-rows.mjs): the forced cells as the released guide's own fill.sh prints them over the translation 2ca40af16ac94117… (all of the seat's roots in one cut). By AI agents, Wed Nov 11 2026. No macro, syntax, notation, axiom, sorry.
-/
import Derived.Test.YtadedfcjakhfbaaChecked
import GoSem.Claim
import GoSem.ClaimJoined
import GoSem.ClaimMapViews
import Derived.JoinedTies
import Derived.KernelRfl
namespace Go.Proofs.Ytadedfcjakhfbaa
/- THE CELL 'sum', in the pinned program and in every row, IS THE sha256 OF THE DUMP (.gsa) THAT YtadedfcjakhfbaaProg.lean LOADS. Nothing in Lean hashes anything: it is a label: what it is worth is what the hold of that sum in a sandbox is worth. -/
noncomputable def Try.pinned : Pinned := { name := "ytadedfcjakhfbaa", sum := "2ca40af16ac9411729177f3240cc312582684f0f3074b7c08ae93a2b09afa034", checked := Try.checked }
namespace Rows
def none {H : Type} : Left H := { results := [], args := [] }

/-- 'mesnelaw06.BagDoes': WHATEVER THE INPUT: true; the input reads as it did. -/
def bagDoesSpec : ChangeSpec := { name := "bagDoes", fn := fun _ => fun
  | [d1, d2] => { results := [.lit (.bool true)], args := [d1, d2] }
  | _ => none }
def bagDoesRow : OpenClaim := { program := "ytadedfcjakhfbaa", sum := "2ca40af16ac9411729177f3240cc312582684f0f3074b7c08ae93a2b09afa034", func := "mesne/mesnelaw06.BagDoes", spec := "bagDoes", apart := false }
def BagDoesSaid : Prop := bagDoesRow.holds Try.pinned (OpenSpec.ofChange bagDoesSpec)

/-- ITS FALSE NEIGHBOUR: 'it returns false'. Refute it at one input. -/
def bagDoesWrong : ChangeSpec := { name := "bagDoes", fn := fun _ => fun
  | [d1, d2] => { results := [.lit (.bool false)], args := [d1, d2] }
  | _ => none }
def BagDoesWrongFalsely : Prop := bagDoesRow.holds Try.pinned (OpenSpec.ofChange bagDoesWrong)

/-- 'mesnelaw06.BagKeeps': WHATEVER THE INPUT: true; the input reads as it did. -/
def bagKeepsSpec : ChangeSpec := { name := "bagKeeps", fn := fun _ => fun
  | [d1, d2] => { results := [.lit (.bool true)], args := [d1, d2] }
  | _ => none }
def bagKeepsRow : OpenClaim := { program := "ytadedfcjakhfbaa", sum := "2ca40af16ac9411729177f3240cc312582684f0f3074b7c08ae93a2b09afa034", func := "mesne/mesnelaw06.BagKeeps", spec := "bagKeeps", apart := false }
def BagKeepsSaid : Prop := bagKeepsRow.holds Try.pinned (OpenSpec.ofChange bagKeepsSpec)

/-- ITS FALSE NEIGHBOUR: 'it returns false'. Refute it at one input. -/
def bagKeepsWrong : ChangeSpec := { name := "bagKeeps", fn := fun _ => fun
  | [d1, d2] => { results := [.lit (.bool false)], args := [d1, d2] }
  | _ => none }
def BagKeepsWrongFalsely : Prop := bagKeepsRow.holds Try.pinned (OpenSpec.ofChange bagKeepsWrong)

/-- 'mesnelaw06.BagFirst': WHATEVER THE INPUT: true; the input reads as it did. -/
def bagFirstSpec : ChangeSpec := { name := "bagFirst", fn := fun _ => fun
  | [d1, d2] => { results := [.lit (.bool true)], args := [d1, d2] }
  | _ => none }
def bagFirstRow : OpenClaim := { program := "ytadedfcjakhfbaa", sum := "2ca40af16ac9411729177f3240cc312582684f0f3074b7c08ae93a2b09afa034", func := "mesne/mesnelaw06.BagFirst", spec := "bagFirst", apart := false }
def BagFirstSaid : Prop := bagFirstRow.holds Try.pinned (OpenSpec.ofChange bagFirstSpec)

/-- ITS FALSE NEIGHBOUR: 'it returns false'. Refute it at one input. -/
def bagFirstWrong : ChangeSpec := { name := "bagFirst", fn := fun _ => fun
  | [d1, d2] => { results := [.lit (.bool false)], args := [d1, d2] }
  | _ => none }
def BagFirstWrongFalsely : Prop := bagFirstRow.holds Try.pinned (OpenSpec.ofChange bagFirstWrong)

/-- 'mesnelaw11.WritebackDoes': WHATEVER THE INPUT: true; the input reads as it did. -/
def writebackDoesSpec : ChangeSpec := { name := "writebackDoes", fn := fun _ => fun
  | [d1, d2] => { results := [.lit (.bool true)], args := [d1, d2] }
  | _ => none }
def writebackDoesRow : OpenClaim := { program := "ytadedfcjakhfbaa", sum := "2ca40af16ac9411729177f3240cc312582684f0f3074b7c08ae93a2b09afa034", func := "mesne/mesnelaw11.WritebackDoes", spec := "writebackDoes", unfollowed := true, recurses := true, apart := false }
def WritebackDoesSaid : Prop := writebackDoesRow.holds Try.pinned (OpenSpec.ofChange writebackDoesSpec)

/-- ITS FALSE NEIGHBOUR: 'it returns false'. Refute it at one input. -/
def writebackDoesWrong : ChangeSpec := { name := "writebackDoes", fn := fun _ => fun
  | [d1, d2] => { results := [.lit (.bool false)], args := [d1, d2] }
  | _ => none }
def WritebackDoesWrongFalsely : Prop := writebackDoesRow.holds Try.pinned (OpenSpec.ofChange writebackDoesWrong)

/-- 'mesnelaw11.WritebackOnce': WHATEVER THE INPUT: true; the input reads as it did. -/
def writebackOnceSpec : ChangeSpec := { name := "writebackOnce", fn := fun _ => fun
  | [d1, d2] => { results := [.lit (.bool true)], args := [d1, d2] }
  | _ => none }
def writebackOnceRow : OpenClaim := { program := "ytadedfcjakhfbaa", sum := "2ca40af16ac9411729177f3240cc312582684f0f3074b7c08ae93a2b09afa034", func := "mesne/mesnelaw11.WritebackOnce", spec := "writebackOnce", unfollowed := true, recurses := true, apart := false }
def WritebackOnceSaid : Prop := writebackOnceRow.holds Try.pinned (OpenSpec.ofChange writebackOnceSpec)

/-- ITS FALSE NEIGHBOUR: 'it returns false'. Refute it at one input. -/
def writebackOnceWrong : ChangeSpec := { name := "writebackOnce", fn := fun _ => fun
  | [d1, d2] => { results := [.lit (.bool false)], args := [d1, d2] }
  | _ => none }
def WritebackOnceWrongFalsely : Prop := writebackOnceRow.holds Try.pinned (OpenSpec.ofChange writebackOnceWrong)

/-- 'mesnelaw15.QueueDoes': WHATEVER THE INPUT: true; the input reads as it did. -/
def queueDoesSpec : ChangeSpec := { name := "queueDoes", fn := fun _ => fun
  | [d1, d2] => { results := [.lit (.bool true)], args := [d1, d2] }
  | _ => none }
def queueDoesRow : OpenClaim := { program := "ytadedfcjakhfbaa", sum := "2ca40af16ac9411729177f3240cc312582684f0f3074b7c08ae93a2b09afa034", func := "mesne/mesnelaw15.QueueDoes", spec := "queueDoes", unfollowed := true, recurses := true, apart := false }
def QueueDoesSaid : Prop := queueDoesRow.holds Try.pinned (OpenSpec.ofChange queueDoesSpec)

/-- ITS FALSE NEIGHBOUR: 'it returns false'. Refute it at one input. -/
def queueDoesWrong : ChangeSpec := { name := "queueDoes", fn := fun _ => fun
  | [d1, d2] => { results := [.lit (.bool false)], args := [d1, d2] }
  | _ => none }
def QueueDoesWrongFalsely : Prop := queueDoesRow.holds Try.pinned (OpenSpec.ofChange queueDoesWrong)

/-- 'mesnelaw15.QueueFirst': WHATEVER THE INPUT: true; the input reads as it did. -/
def queueFirstSpec : ChangeSpec := { name := "queueFirst", fn := fun _ => fun
  | [d1, d2] => { results := [.lit (.bool true)], args := [d1, d2] }
  | _ => none }
def queueFirstRow : OpenClaim := { program := "ytadedfcjakhfbaa", sum := "2ca40af16ac9411729177f3240cc312582684f0f3074b7c08ae93a2b09afa034", func := "mesne/mesnelaw15.QueueFirst", spec := "queueFirst", unfollowed := true, recurses := true, apart := false }
def QueueFirstSaid : Prop := queueFirstRow.holds Try.pinned (OpenSpec.ofChange queueFirstSpec)

/-- ITS FALSE NEIGHBOUR: 'it returns false'. Refute it at one input. -/
def queueFirstWrong : ChangeSpec := { name := "queueFirst", fn := fun _ => fun
  | [d1, d2] => { results := [.lit (.bool false)], args := [d1, d2] }
  | _ => none }
def QueueFirstWrongFalsely : Prop := queueFirstRow.holds Try.pinned (OpenSpec.ofChange queueFirstWrong)

/-- 'mesnelaw15.QueueOthers': WHATEVER THE INPUT: true; the input reads as it did. -/
def queueOthersSpec : ChangeSpec := { name := "queueOthers", fn := fun _ => fun
  | [d1, d2, d3] => { results := [.lit (.bool true)], args := [d1, d2, d3] }
  | _ => none }
def queueOthersRow : OpenClaim := { program := "ytadedfcjakhfbaa", sum := "2ca40af16ac9411729177f3240cc312582684f0f3074b7c08ae93a2b09afa034", func := "mesne/mesnelaw15.QueueOthers", spec := "queueOthers", unfollowed := true, recurses := true, apart := false }
def QueueOthersSaid : Prop := queueOthersRow.holds Try.pinned (OpenSpec.ofChange queueOthersSpec)

/-- ITS FALSE NEIGHBOUR: 'it returns false'. Refute it at one input. -/
def queueOthersWrong : ChangeSpec := { name := "queueOthers", fn := fun _ => fun
  | [d1, d2, d3] => { results := [.lit (.bool false)], args := [d1, d2, d3] }
  | _ => none }
def QueueOthersWrongFalsely : Prop := queueOthersRow.holds Try.pinned (OpenSpec.ofChange queueOthersWrong)

/-- 'mesnelaw17.CoreDoes': WHATEVER THE INPUT: true; the input reads as it did. -/
def coreDoesSpec : ChangeSpec := { name := "coreDoes", fn := fun _ => fun
  | [d1, d2, d3] => { results := [.lit (.bool true)], args := [d1, d2, d3] }
  | _ => none }
def coreDoesRow : OpenClaim := { program := "ytadedfcjakhfbaa", sum := "2ca40af16ac9411729177f3240cc312582684f0f3074b7c08ae93a2b09afa034", func := "mesne/mesnelaw17.CoreDoes", spec := "coreDoes", apart := false }
def CoreDoesSaid : Prop := coreDoesRow.holds Try.pinned (OpenSpec.ofChange coreDoesSpec)

/-- ITS FALSE NEIGHBOUR: 'it returns false'. Refute it at one input. -/
def coreDoesWrong : ChangeSpec := { name := "coreDoes", fn := fun _ => fun
  | [d1, d2, d3] => { results := [.lit (.bool false)], args := [d1, d2, d3] }
  | _ => none }
def CoreDoesWrongFalsely : Prop := coreDoesRow.holds Try.pinned (OpenSpec.ofChange coreDoesWrong)

/-- 'mesnelaw17.CoreOrder': WHATEVER THE INPUT: true; the input reads as it did. -/
def coreOrderSpec : ChangeSpec := { name := "coreOrder", fn := fun _ => fun
  | [d1, d2, d3] => { results := [.lit (.bool true)], args := [d1, d2, d3] }
  | _ => none }
def coreOrderRow : OpenClaim := { program := "ytadedfcjakhfbaa", sum := "2ca40af16ac9411729177f3240cc312582684f0f3074b7c08ae93a2b09afa034", func := "mesne/mesnelaw17.CoreOrder", spec := "coreOrder", apart := false }
def CoreOrderSaid : Prop := coreOrderRow.holds Try.pinned (OpenSpec.ofChange coreOrderSpec)

/-- ITS FALSE NEIGHBOUR: 'it returns false'. Refute it at one input. -/
def coreOrderWrong : ChangeSpec := { name := "coreOrder", fn := fun _ => fun
  | [d1, d2, d3] => { results := [.lit (.bool false)], args := [d1, d2, d3] }
  | _ => none }
def CoreOrderWrongFalsely : Prop := coreOrderRow.holds Try.pinned (OpenSpec.ofChange coreOrderWrong)

/-- 'mesnelaw12.MemoryLast': WHATEVER THE INPUT: true; the input reads as it did. -/
def memoryLastSpec : ChangeSpec := { name := "memoryLast", fn := fun _ => fun
  | [d1, d2, d3, d4] => { results := [.lit (.bool true)], args := [d1, d2, d3, d4] }
  | _ => none }
def memoryLastRow : OpenClaim := { program := "ytadedfcjakhfbaa", sum := "2ca40af16ac9411729177f3240cc312582684f0f3074b7c08ae93a2b09afa034", func := "mesne/mesnelaw12.MemoryLast", spec := "memoryLast", unfollowed := true, recurses := true, apart := false }
def MemoryLastSaid : Prop := memoryLastRow.holds Try.pinned (OpenSpec.ofChange memoryLastSpec)

/-- ITS FALSE NEIGHBOUR: 'it returns false'. Refute it at one input. -/
def memoryLastWrong : ChangeSpec := { name := "memoryLast", fn := fun _ => fun
  | [d1, d2, d3, d4] => { results := [.lit (.bool false)], args := [d1, d2, d3, d4] }
  | _ => none }
def MemoryLastWrongFalsely : Prop := memoryLastRow.holds Try.pinned (OpenSpec.ofChange memoryLastWrong)

/-- 'mesnelaw12.MemoryApplies': WHATEVER THE INPUT: true; the input reads as it did. -/
def memoryAppliesSpec : ChangeSpec := { name := "memoryApplies", fn := fun _ => fun
  | [d1, d2, d3] => { results := [.lit (.bool true)], args := [d1, d2, d3] }
  | _ => none }
def memoryAppliesRow : OpenClaim := { program := "ytadedfcjakhfbaa", sum := "2ca40af16ac9411729177f3240cc312582684f0f3074b7c08ae93a2b09afa034", func := "mesne/mesnelaw12.MemoryApplies", spec := "memoryApplies", unfollowed := true, recurses := true, apart := false }
def MemoryAppliesSaid : Prop := memoryAppliesRow.holds Try.pinned (OpenSpec.ofChange memoryAppliesSpec)

/-- ITS FALSE NEIGHBOUR: 'it returns false'. Refute it at one input. -/
def memoryAppliesWrong : ChangeSpec := { name := "memoryApplies", fn := fun _ => fun
  | [d1, d2, d3] => { results := [.lit (.bool false)], args := [d1, d2, d3] }
  | _ => none }
def MemoryAppliesWrongFalsely : Prop := memoryAppliesRow.holds Try.pinned (OpenSpec.ofChange memoryAppliesWrong)

/- THE SECOND FORM. 'bulk': how many values and letters a reading holds, each counted each time it is reached (what is shared counts as often as it is met; a slice's spare places count too). A statement '..UptoSaid' is the law's where the arguments, and the package variables that the reading takes, are together of bulk at most 1048576: NARROWER than '..Said'. Prove '..Said' where nothing that the law and all that it calls make is longer than what came in: it says more and counts as full. Else prove '..UptoSaid'. A law counts once. -/
mutual
def uptoBulk {H : Type} : DataW H → Nat
  | .lit (.string bytes) => bytes.length + 1
  | .lit _ => 1
  | .nil => 1
  | .ptr d => uptoBulk d + 1
  | .slice elems spare => uptoBulkAll elems + uptoBulkAll spare + 1
  | .agg parts => uptoBulkAll parts + 1
  | .iface _ d => uptoBulk d + 1
  | .map entries => uptoBulkEntries entries + 1
  | .held _ => 1
def uptoBulkAll {H : Type} : List (DataW H) → Nat
  | [] => 0
  | d :: r => uptoBulk d + uptoBulkAll r
def uptoBulkEntries {H : Type} : List (Lit × DataW H) → Nat
  | [] => 0
  | x :: r => uptoBulkEntry x + uptoBulkEntries r
def uptoBulkEntry {H : Type} : Lit × DataW H → Nat
  | (.string bytes, d) => bytes.length + uptoBulk d + 1
  | (_, d) => uptoBulk d + 1
 end
def uptoSmall : (H : Type) → List (DataW H) → Bool := fun _ ds => decide (uptoBulkAll ds ≤ 1048576)
def OpenSpec.upto (s : _root_.Go.ChangeSpec) : _root_.Go.OpenSpec := { _root_.Go.OpenSpec.ofChange s with cond := some uptoSmall }

/-- 'mesnelaw06.BagDoes', WHERE WHAT IT READS IS OF BULK AT MOST 1048576: true; the input reads as it did. -/
def bagDoesUptoRow : OpenClaim := { program := "ytadedfcjakhfbaa", sum := "2ca40af16ac9411729177f3240cc312582684f0f3074b7c08ae93a2b09afa034", func := "mesne/mesnelaw06.BagDoes", spec := "bagDoes", apart := false, narrowed := true }
def BagDoesUptoSaid : Prop := bagDoesUptoRow.holds Try.pinned (OpenSpec.upto bagDoesSpec)

/-- 'mesnelaw06.BagKeeps', WHERE WHAT IT READS IS OF BULK AT MOST 1048576: true; the input reads as it did. -/
def bagKeepsUptoRow : OpenClaim := { program := "ytadedfcjakhfbaa", sum := "2ca40af16ac9411729177f3240cc312582684f0f3074b7c08ae93a2b09afa034", func := "mesne/mesnelaw06.BagKeeps", spec := "bagKeeps", apart := false, narrowed := true }
def BagKeepsUptoSaid : Prop := bagKeepsUptoRow.holds Try.pinned (OpenSpec.upto bagKeepsSpec)

/-- 'mesnelaw06.BagFirst', WHERE WHAT IT READS IS OF BULK AT MOST 1048576: true; the input reads as it did. -/
def bagFirstUptoRow : OpenClaim := { program := "ytadedfcjakhfbaa", sum := "2ca40af16ac9411729177f3240cc312582684f0f3074b7c08ae93a2b09afa034", func := "mesne/mesnelaw06.BagFirst", spec := "bagFirst", apart := false, narrowed := true }
def BagFirstUptoSaid : Prop := bagFirstUptoRow.holds Try.pinned (OpenSpec.upto bagFirstSpec)

/-- 'mesnelaw11.WritebackDoes', WHERE WHAT IT READS IS OF BULK AT MOST 1048576: true; the input reads as it did. -/
def writebackDoesUptoRow : OpenClaim := { program := "ytadedfcjakhfbaa", sum := "2ca40af16ac9411729177f3240cc312582684f0f3074b7c08ae93a2b09afa034", func := "mesne/mesnelaw11.WritebackDoes", spec := "writebackDoes", unfollowed := true, recurses := true, apart := false, narrowed := true }
def WritebackDoesUptoSaid : Prop := writebackDoesUptoRow.holds Try.pinned (OpenSpec.upto writebackDoesSpec)

/-- 'mesnelaw11.WritebackOnce', WHERE WHAT IT READS IS OF BULK AT MOST 1048576: true; the input reads as it did. -/
def writebackOnceUptoRow : OpenClaim := { program := "ytadedfcjakhfbaa", sum := "2ca40af16ac9411729177f3240cc312582684f0f3074b7c08ae93a2b09afa034", func := "mesne/mesnelaw11.WritebackOnce", spec := "writebackOnce", unfollowed := true, recurses := true, apart := false, narrowed := true }
def WritebackOnceUptoSaid : Prop := writebackOnceUptoRow.holds Try.pinned (OpenSpec.upto writebackOnceSpec)

/-- 'mesnelaw15.QueueDoes', WHERE WHAT IT READS IS OF BULK AT MOST 1048576: true; the input reads as it did. -/
def queueDoesUptoRow : OpenClaim := { program := "ytadedfcjakhfbaa", sum := "2ca40af16ac9411729177f3240cc312582684f0f3074b7c08ae93a2b09afa034", func := "mesne/mesnelaw15.QueueDoes", spec := "queueDoes", unfollowed := true, recurses := true, apart := false, narrowed := true }
def QueueDoesUptoSaid : Prop := queueDoesUptoRow.holds Try.pinned (OpenSpec.upto queueDoesSpec)

/-- 'mesnelaw15.QueueFirst', WHERE WHAT IT READS IS OF BULK AT MOST 1048576: true; the input reads as it did. -/
def queueFirstUptoRow : OpenClaim := { program := "ytadedfcjakhfbaa", sum := "2ca40af16ac9411729177f3240cc312582684f0f3074b7c08ae93a2b09afa034", func := "mesne/mesnelaw15.QueueFirst", spec := "queueFirst", unfollowed := true, recurses := true, apart := false, narrowed := true }
def QueueFirstUptoSaid : Prop := queueFirstUptoRow.holds Try.pinned (OpenSpec.upto queueFirstSpec)

/-- 'mesnelaw15.QueueOthers', WHERE WHAT IT READS IS OF BULK AT MOST 1048576: true; the input reads as it did. -/
def queueOthersUptoRow : OpenClaim := { program := "ytadedfcjakhfbaa", sum := "2ca40af16ac9411729177f3240cc312582684f0f3074b7c08ae93a2b09afa034", func := "mesne/mesnelaw15.QueueOthers", spec := "queueOthers", unfollowed := true, recurses := true, apart := false, narrowed := true }
def QueueOthersUptoSaid : Prop := queueOthersUptoRow.holds Try.pinned (OpenSpec.upto queueOthersSpec)

/-- 'mesnelaw17.CoreDoes', WHERE WHAT IT READS IS OF BULK AT MOST 1048576: true; the input reads as it did. -/
def coreDoesUptoRow : OpenClaim := { program := "ytadedfcjakhfbaa", sum := "2ca40af16ac9411729177f3240cc312582684f0f3074b7c08ae93a2b09afa034", func := "mesne/mesnelaw17.CoreDoes", spec := "coreDoes", apart := false, narrowed := true }
def CoreDoesUptoSaid : Prop := coreDoesUptoRow.holds Try.pinned (OpenSpec.upto coreDoesSpec)

/-- 'mesnelaw17.CoreOrder', WHERE WHAT IT READS IS OF BULK AT MOST 1048576: true; the input reads as it did. -/
def coreOrderUptoRow : OpenClaim := { program := "ytadedfcjakhfbaa", sum := "2ca40af16ac9411729177f3240cc312582684f0f3074b7c08ae93a2b09afa034", func := "mesne/mesnelaw17.CoreOrder", spec := "coreOrder", apart := false, narrowed := true }
def CoreOrderUptoSaid : Prop := coreOrderUptoRow.holds Try.pinned (OpenSpec.upto coreOrderSpec)

/-- 'mesnelaw12.MemoryLast', WHERE WHAT IT READS IS OF BULK AT MOST 1048576: true; the input reads as it did. -/
def memoryLastUptoRow : OpenClaim := { program := "ytadedfcjakhfbaa", sum := "2ca40af16ac9411729177f3240cc312582684f0f3074b7c08ae93a2b09afa034", func := "mesne/mesnelaw12.MemoryLast", spec := "memoryLast", unfollowed := true, recurses := true, apart := false, narrowed := true }
def MemoryLastUptoSaid : Prop := memoryLastUptoRow.holds Try.pinned (OpenSpec.upto memoryLastSpec)

/-- 'mesnelaw12.MemoryApplies', WHERE WHAT IT READS IS OF BULK AT MOST 1048576: true; the input reads as it did. -/
def memoryAppliesUptoRow : OpenClaim := { program := "ytadedfcjakhfbaa", sum := "2ca40af16ac9411729177f3240cc312582684f0f3074b7c08ae93a2b09afa034", func := "mesne/mesnelaw12.MemoryApplies", spec := "memoryApplies", unfollowed := true, recurses := true, apart := false, narrowed := true }
def MemoryAppliesUptoSaid : Prop := memoryAppliesUptoRow.holds Try.pinned (OpenSpec.upto memoryAppliesSpec)

end Rows
end Go.Proofs.Ytadedfcjakhfbaa
