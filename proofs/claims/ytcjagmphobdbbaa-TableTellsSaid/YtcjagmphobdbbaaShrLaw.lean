/- The laws of sharers. My own work. -/
import Derived.Test.YtcjagmphobdbbaaShrR
namespace Go.Sx
open Go Go.Proofs
set_option linter.unusedVariables false
set_option linter.unusedSectionVars false
set_option linter.unusedSimpArgs false
instance : MapT Try.prog 111 blv false := ⟨_, _, _, _, _, Try.underlying111, Try.underlying3, TZ.pf⟩
set_option maxRecDepth 100000
set_option maxHeartbeats 4000000
attribute [local irreducible] Go.Exit.then Go.Exit.inBlock Go.Code.wp WC WO WE WQ V LoopQ FnQ Sat Star band bor IntKind.wrap WR Code.rounds WT KO
end Go.Sx
