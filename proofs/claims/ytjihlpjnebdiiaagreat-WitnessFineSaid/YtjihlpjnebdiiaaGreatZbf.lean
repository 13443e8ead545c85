/- WiFiR: several of my texts as one. My own work. -/
import Derived.Test.YtjihlpjnebdiiaaGreatZr
import Derived.Test.YtjihlpjnebdiiaaGreatZaz
import Derived.Test.YtjihlpjnebdiiaaGreatZbe
set_option linter.unusedVariables false
set_option linter.unusedSectionVars false
set_option linter.unusedSimpArgs false
/- Programs and picks, read: the trace is fine. My own work. -/
namespace Go.Sx
open Go Go.Proofs Go.ChangeShapes Go.WideShapes
theorem old19_Fine {W:World} {F:List HP} {c:Cfg} {ps:List PrQ} {u v:Value} {l:List Pk} (hc:c.wf) (hp:∀ p∈ps,PrQ.ok W p) (hl:∀ p∈l,Pk.wf p) (kp:ROld W 1 u ps.length (flat prc ps)) (bp:ps.length*Tryz.prog.bytesOf 61≤reachBytes) (k:ROld W 3 v l.length (flat pkc l)) (bl:l.length*Tryz.prog.bytesOf 34≤reachBytes) :
    FnF Tryz.prog 6 [c.val,u,v] [Old W] F (fun r L'=>r= .bool true∧L'=[Old W]):=
  old18 hp kp bp k bl fun pu pv cu cv a b d e g h=>law19_Fine hc b hl e g h
end Go.Sx
