/- Finite facts of MachineDoes. My own work. -/
import Derived.Test.YtjihlpjnebdiiabGreatRows
import Derived.Test.YtjihlpjnebdiiabGreatData
import Derived.RangeFuncIn
import Derived.RangeFuncLeaves
import Derived.RangeFuncRecord
import Derived.RangeFuncSeq
import Derived.TacticsIn
import Derived.ScopeJumps
import Derived.Carry
import Derived.ChangeOld
import Derived.OpenShut
import Derived.ProofKit
import Derived.WalkKit
import Derived.SizedLaws
set_option linter.unusedVariables false
set_option linter.unusedSectionVars false
set_option linter.unusedSimpArgs false
namespace Go.Proofs.YtjihlpjnebdiiabGreat.machineDoes
open Go.Sx Go.ChangeShapes Go.WideShapes Go.ChangeAt Go.RowKit
theorem ZQ:Tryz.pinned.checked.prog.funcNamed Rows.machineDoesRow.func=some 5:=by kernel_rfl
set_option maxHeartbeats 4000000 in
theorem V0:joinedFacts Tryz.pinned.checked.prog 5 Tryz.f5 Rows.machineDoesSpec Rows.machineDoesRow=true:=by
  unfold joinedFacts
  simp only [Bool.and_eq_true]
  repeat' apply And.intro
  all_goals decide +kernel
theorem XI:Tryz.f5.isInstance Tryz.pinned.checked.prog Rows.machineDoesRow.origin Rows.machineDoesRow.targs:=of_decide_eq_true (by kernel_rfl)
theorem ZR:Tryz.f5.isWrapper Tryz.pinned.checked.prog Rows.machineDoesRow.wrapper Rows.machineDoesRow.mainSum:=by unfold Func.isWrapper;first|(rw [if_pos (by decide +kernel)];kernel_rfl)|(rw [if_neg (by decide +kernel)];exact ⟨rfl,rfl⟩)
end Go.Proofs.YtjihlpjnebdiiabGreat.machineDoes
