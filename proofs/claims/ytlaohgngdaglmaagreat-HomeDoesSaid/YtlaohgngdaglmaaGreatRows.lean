/-
  No cell of these rows narrows 'for every input' (looked for: loops, veiled, ifaces, maps, wideKeys, modest, calm, conditions, laid).
  DERIVED. THE GIVEN ROWS OF THIS SEAT. 6 by the template 'for every input the law returns true; each argument reads behind the call as it read before'; 0 by the template 'total and deterministic' (their statements: YtlaohgngdaglmaaGreatTotals.lean).
  GIVEN WITH THE SEED: the statements are not yours to turn. If you find one false, say at which input.
  Laid BY PROGRAM, IN A SANDBOX (cutbox-rows.mjs): the forced cells as the released guide's own fill.sh prints them over the translation e2264175703909a8… (all of the seat's roots in one cut). By AI agents, Wed Nov 11 2026. No macro, syntax, notation, axiom, sorry.
-/
import Derived.Test.YtlaohgngdaglmaaGreatChecked
import GoSem.Claim
import GoSem.ClaimJoined
import GoSem.ClaimMapViews
import Derived.JoinedTies
import Derived.KernelRfl
namespace Go.Proofs.YtlaohgngdaglmaaGreat
/- THE CELL 'sum', in the pinned program and in every row, IS THE sha256 OF THE DUMP (.gsa) THAT YtlaohgngdaglmaaGreatProg.lean LOADS. Nothing in Lean hashes anything: it is a label: what it is worth is what the hold of that sum in a sandbox is worth. -/
noncomputable def Tryz.pinned : Pinned := { name := "ytlaohgngdaglmaagreat", sum := "e2264175703909a8126456de261141eee4dca9240acf444e6ef75444370a1442", checked := Tryz.checked }
namespace Rows
def none {H : Type} : Left H := { results := [], args := [] }

/-- 'mesnelaw14.CacheDoes': WHATEVER THE INPUT: true; the input reads as it did. -/
def cacheDoesSpec : ChangeSpec := { name := "cacheDoes", fn := fun _ => fun
  | [d1, d2, d3] => { results := [.lit (.bool true)], args := [d1, d2, d3] }
  | _ => none }
def cacheDoesRow : OpenClaim := { program := "ytlaohgngdaglmaagreat", sum := "e2264175703909a8126456de261141eee4dca9240acf444e6ef75444370a1442", func := "mesne/mesnelaw14.CacheDoes", spec := "cacheDoes", unfollowed := true, recurses := true, apart := false }
def CacheDoesSaid : Prop := cacheDoesRow.holds Tryz.pinned (OpenSpec.ofChange cacheDoesSpec)

/-- ITS FALSE NEIGHBOUR: 'it returns false'. Refute it at one input. -/
def cacheDoesWrong : ChangeSpec := { name := "cacheDoes", fn := fun _ => fun
  | [d1, d2, d3] => { results := [.lit (.bool false)], args := [d1, d2, d3] }
  | _ => none }
def CacheDoesWrongFalsely : Prop := cacheDoesRow.holds Tryz.pinned (OpenSpec.ofChange cacheDoesWrong)

/-- 'mesnelaw14.CacheLocks': WHATEVER THE INPUT: true; the input reads as it did. -/
def cacheLocksSpec : ChangeSpec := { name := "cacheLocks", fn := fun _ => fun
  | [d1, d2, d3] => { results := [.lit (.bool true)], args := [d1, d2, d3] }
  | _ => none }
def cacheLocksRow : OpenClaim := { program := "ytlaohgngdaglmaagreat", sum := "e2264175703909a8126456de261141eee4dca9240acf444e6ef75444370a1442", func := "mesne/mesnelaw14.CacheLocks", spec := "cacheLocks", unfollowed := true, recurses := true, apart := false }
def CacheLocksSaid : Prop := cacheLocksRow.holds Tryz.pinned (OpenSpec.ofChange cacheLocksSpec)

/-- ITS FALSE NEIGHBOUR: 'it returns false'. Refute it at one input. -/
def cacheLocksWrong : ChangeSpec := { name := "cacheLocks", fn := fun _ => fun
  | [d1, d2, d3] => { results := [.lit (.bool false)], args := [d1, d2, d3] }
  | _ => none }
def CacheLocksWrongFalsely : Prop := cacheLocksRow.holds Tryz.pinned (OpenSpec.ofChange cacheLocksWrong)

/-- 'mesnelaw14.CacheWrites': WHATEVER THE INPUT: true; the input reads as it did. -/
def cacheWritesSpec : ChangeSpec := { name := "cacheWrites", fn := fun _ => fun
  | [d1, d2, d3, d4, d5, d6] => { results := [.lit (.bool true)], args := [d1, d2, d3, d4, d5, d6] }
  | _ => none }
def cacheWritesRow : OpenClaim := { program := "ytlaohgngdaglmaagreat", sum := "e2264175703909a8126456de261141eee4dca9240acf444e6ef75444370a1442", func := "mesne/mesnelaw14.CacheWrites", spec := "cacheWrites", unfollowed := true, recurses := true, apart := false }
def CacheWritesSaid : Prop := cacheWritesRow.holds Tryz.pinned (OpenSpec.ofChange cacheWritesSpec)

/-- ITS FALSE NEIGHBOUR: 'it returns false'. Refute it at one input. -/
def cacheWritesWrong : ChangeSpec := { name := "cacheWrites", fn := fun _ => fun
  | [d1, d2, d3, d4, d5, d6] => { results := [.lit (.bool false)], args := [d1, d2, d3, d4, d5, d6] }
  | _ => none }
def CacheWritesWrongFalsely : Prop := cacheWritesRow.holds Tryz.pinned (OpenSpec.ofChange cacheWritesWrong)

/-- 'mesnelaw14.CacheFills': WHATEVER THE INPUT: true; the input reads as it did. -/
def cacheFillsSpec : ChangeSpec := { name := "cacheFills", fn := fun _ => fun
  | [d1, d2, d3, d4, d5, d6] => { results := [.lit (.bool true)], args := [d1, d2, d3, d4, d5, d6] }
  | _ => none }
def cacheFillsRow : OpenClaim := { program := "ytlaohgngdaglmaagreat", sum := "e2264175703909a8126456de261141eee4dca9240acf444e6ef75444370a1442", func := "mesne/mesnelaw14.CacheFills", spec := "cacheFills", unfollowed := true, recurses := true, apart := false }
def CacheFillsSaid : Prop := cacheFillsRow.holds Tryz.pinned (OpenSpec.ofChange cacheFillsSpec)

/-- ITS FALSE NEIGHBOUR: 'it returns false'. Refute it at one input. -/
def cacheFillsWrong : ChangeSpec := { name := "cacheFills", fn := fun _ => fun
  | [d1, d2, d3, d4, d5, d6] => { results := [.lit (.bool false)], args := [d1, d2, d3, d4, d5, d6] }
  | _ => none }
def CacheFillsWrongFalsely : Prop := cacheFillsRow.holds Tryz.pinned (OpenSpec.ofChange cacheFillsWrong)

/-- 'mesnelaw14.CacheLets': WHATEVER THE INPUT: true; the input reads as it did. -/
def cacheLetsSpec : ChangeSpec := { name := "cacheLets", fn := fun _ => fun
  | [d1, d2, d3, d4, d5, d6] => { results := [.lit (.bool true)], args := [d1, d2, d3, d4, d5, d6] }
  | _ => none }
def cacheLetsRow : OpenClaim := { program := "ytlaohgngdaglmaagreat", sum := "e2264175703909a8126456de261141eee4dca9240acf444e6ef75444370a1442", func := "mesne/mesnelaw14.CacheLets", spec := "cacheLets", unfollowed := true, recurses := true, apart := false }
def CacheLetsSaid : Prop := cacheLetsRow.holds Tryz.pinned (OpenSpec.ofChange cacheLetsSpec)

/-- ITS FALSE NEIGHBOUR: 'it returns false'. Refute it at one input. -/
def cacheLetsWrong : ChangeSpec := { name := "cacheLets", fn := fun _ => fun
  | [d1, d2, d3, d4, d5, d6] => { results := [.lit (.bool false)], args := [d1, d2, d3, d4, d5, d6] }
  | _ => none }
def CacheLetsWrongFalsely : Prop := cacheLetsRow.holds Tryz.pinned (OpenSpec.ofChange cacheLetsWrong)

/-- 'mesnelaw16.HomeDoes': WHATEVER THE INPUT: true; the input reads as it did. -/
def homeDoesSpec : ChangeSpec := { name := "homeDoes", fn := fun _ => fun
  | [d1, d2, d3, d4] => { results := [.lit (.bool true)], args := [d1, d2, d3, d4] }
  | _ => none }
def homeDoesRow : OpenClaim := { program := "ytlaohgngdaglmaagreat", sum := "e2264175703909a8126456de261141eee4dca9240acf444e6ef75444370a1442", func := "mesne/mesnelaw16.HomeDoes", spec := "homeDoes", inPlace := ["slices.overlaps[int]"], unfollowed := true, recurses := true, apart := false }
def HomeDoesSaid : Prop := homeDoesRow.holds Tryz.pinned (OpenSpec.ofChange homeDoesSpec)

/-- ITS FALSE NEIGHBOUR: 'it returns false'. Refute it at one input. -/
def homeDoesWrong : ChangeSpec := { name := "homeDoes", fn := fun _ => fun
  | [d1, d2, d3, d4] => { results := [.lit (.bool false)], args := [d1, d2, d3, d4] }
  | _ => none }
def HomeDoesWrongFalsely : Prop := homeDoesRow.holds Tryz.pinned (OpenSpec.ofChange homeDoesWrong)

/- THE SECOND FORM. 'bulk': how many values and letters a reading holds, each counted each time it is reached (what is shared counts as often as it is met; a slice's spare places count too). A statement '..UptoSaid' is the law's where the arguments, and the package variables that the reading takes, are together of bulk at most 1048576: NARROWER than '..Said'. Prove '..Said' where nothing that the law and all that it calls make is longer than what came in: it says more and counts as full. Else prove '..UptoSaid'. A law counts once. -/
mutual
def uptoBulk {H : Type} : DataW H → Nat
  | .lit (.string bytes) => bytes.length + 1
  | .lit _ => 1
  | .nil => 1
  | .ptr d => uptoBulk d + 1
  | .slice elems spare => uptoBulkAll elems + uptoBulkAll spare + 1
  | .agg parts => uptoBulkAll parts + 1
  | .iface _ d => uptoBulk d + 1
  | .map entries => uptoBulkEntries entries + 1
  | .held _ => 1
def uptoBulkAll {H : Type} : List (DataW H) → Nat
  | [] => 0
  | d :: r => uptoBulk d + uptoBulkAll r
def uptoBulkEntries {H : Type} : List (Lit × DataW H) → Nat
  | [] => 0
  | x :: r => uptoBulkEntry x + uptoBulkEntries r
def uptoBulkEntry {H : Type} : Lit × DataW H → Nat
  | (.string bytes, d) => bytes.length + uptoBulk d + 1
  | (_, d) => uptoBulk d + 1
 end
def uptoSmall : (H : Type) → List (DataW H) → Bool := fun _ ds => decide (uptoBulkAll ds ≤ 1048576)
def OpenSpec.upto (s : _root_.Go.ChangeSpec) : _root_.Go.OpenSpec := { _root_.Go.OpenSpec.ofChange s with cond := some uptoSmall }

/-- 'mesnelaw14.CacheDoes', WHERE WHAT IT READS IS OF BULK AT MOST 1048576: true; the input reads as it did. -/
def cacheDoesUptoRow : OpenClaim := { program := "ytlaohgngdaglmaagreat", sum := "e2264175703909a8126456de261141eee4dca9240acf444e6ef75444370a1442", func := "mesne/mesnelaw14.CacheDoes", spec := "cacheDoes", unfollowed := true, recurses := true, apart := false, narrowed := true }
def CacheDoesUptoSaid : Prop := cacheDoesUptoRow.holds Tryz.pinned (OpenSpec.upto cacheDoesSpec)

/-- 'mesnelaw14.CacheLocks', WHERE WHAT IT READS IS OF BULK AT MOST 1048576: true; the input reads as it did. -/
def cacheLocksUptoRow : OpenClaim := { program := "ytlaohgngdaglmaagreat", sum := "e2264175703909a8126456de261141eee4dca9240acf444e6ef75444370a1442", func := "mesne/mesnelaw14.CacheLocks", spec := "cacheLocks", unfollowed := true, recurses := true, apart := false, narrowed := true }
def CacheLocksUptoSaid : Prop := cacheLocksUptoRow.holds Tryz.pinned (OpenSpec.upto cacheLocksSpec)

/-- 'mesnelaw14.CacheWrites', WHERE WHAT IT READS IS OF BULK AT MOST 1048576: true; the input reads as it did. -/
def cacheWritesUptoRow : OpenClaim := { program := "ytlaohgngdaglmaagreat", sum := "e2264175703909a8126456de261141eee4dca9240acf444e6ef75444370a1442", func := "mesne/mesnelaw14.CacheWrites", spec := "cacheWrites", unfollowed := true, recurses := true, apart := false, narrowed := true }
def CacheWritesUptoSaid : Prop := cacheWritesUptoRow.holds Tryz.pinned (OpenSpec.upto cacheWritesSpec)

/-- 'mesnelaw14.CacheFills', WHERE WHAT IT READS IS OF BULK AT MOST 1048576: true; the input reads as it did. -/
def cacheFillsUptoRow : OpenClaim := { program := "ytlaohgngdaglmaagreat", sum := "e2264175703909a8126456de261141eee4dca9240acf444e6ef75444370a1442", func := "mesne/mesnelaw14.CacheFills", spec := "cacheFills", unfollowed := true, recurses := true, apart := false, narrowed := true }
def CacheFillsUptoSaid : Prop := cacheFillsUptoRow.holds Tryz.pinned (OpenSpec.upto cacheFillsSpec)

/-- 'mesnelaw14.CacheLets', WHERE WHAT IT READS IS OF BULK AT MOST 1048576: true; the input reads as it did. -/
def cacheLetsUptoRow : OpenClaim := { program := "ytlaohgngdaglmaagreat", sum := "e2264175703909a8126456de261141eee4dca9240acf444e6ef75444370a1442", func := "mesne/mesnelaw14.CacheLets", spec := "cacheLets", unfollowed := true, recurses := true, apart := false, narrowed := true }
def CacheLetsUptoSaid : Prop := cacheLetsUptoRow.holds Tryz.pinned (OpenSpec.upto cacheLetsSpec)

/-- 'mesnelaw16.HomeDoes', WHERE WHAT IT READS IS OF BULK AT MOST 1048576: true; the input reads as it did. -/
def homeDoesUptoRow : OpenClaim := { program := "ytlaohgngdaglmaagreat", sum := "e2264175703909a8126456de261141eee4dca9240acf444e6ef75444370a1442", func := "mesne/mesnelaw16.HomeDoes", spec := "homeDoes", inPlace := ["slices.overlaps[int]"], unfollowed := true, recurses := true, apart := false, narrowed := true }
def HomeDoesUptoSaid : Prop := homeDoesUptoRow.holds Tryz.pinned (OpenSpec.upto homeDoesSpec)

end Rows
end Go.Proofs.YtlaohgngdaglmaaGreat
