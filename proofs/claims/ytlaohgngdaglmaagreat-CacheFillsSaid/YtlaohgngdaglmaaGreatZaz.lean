/- CaRdF: several of my texts as one. My own work. -/
import Derived.Test.YtlaohgngdaglmaaGreatZal
import Derived.Test.YtlaohgngdaglmaaGreatZay
/- Two numbers, read. My own work. -/
namespace Go.Sx
open Go Go.Proofs Go.ChangeShapes Go.WideShapes
set_option linter.unusedVariables false
section
variable {H : Type} (enc : TypeId × Value → H) (P : Program) (W : World)
theorem rd_Two {cs : List Value} (h : LeafsOk enc P W (List.replicate 2 (.int .i64)) cs) : ∃ x : Two, x.wf ∧ cs = twc x ∧ (twc x).all one = true := by
  obtain ⟨l, h1, h2, rfl⟩ := leafs_ints enc P W _ _ h
  match l, h1 with
  | [a, b], _ => exact ⟨⟨a, b⟩, ⟨h2 a (by simp), h2 b (by simp)⟩, rfl, rfl⟩
end
end Go.Sx
