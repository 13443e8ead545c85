/- What sharers do: the law against the document. My own work. -/
import Derived.Test.YtcjagmphobdbbaaShrLaw
namespace Go.Sx
open Go Go.Proofs
set_option linter.unusedVariables false
set_option linter.unusedSectionVars false
set_option linter.unusedSimpArgs false
theorem addS_len (s : SSet) (x : Int) : (shAddS s x).ps.length ≤ s.ps.length + 1 := by
  unfold shAddS
  split
  · split
    · omega
    · split
      · simp
      · simp only [insL_len]; omega
  · simp
theorem tgt_len (s : SSet) (but : List Int) (n : Nat) : (shTgt s but n).length ≤ n := by
  have := List.length_filter_le (fun c => shHas s c && !decide (c ∈ but)) (upto n)
  simp only [upto, List.length_map, List.length_range] at this
  exact this
set_option maxRecDepth 100000
set_option maxHeartbeats 4000000
attribute [local irreducible] Go.Exit.then Go.Exit.inBlock Go.Code.wp WC WO WE WQ V LoopQ FnQ Sat Star band bor IntKind.wrap WR Code.rounds WT KO
end Go.Sx
