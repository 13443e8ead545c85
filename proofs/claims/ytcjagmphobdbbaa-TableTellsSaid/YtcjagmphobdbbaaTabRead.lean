/- What a home's entry is, read. My own work. -/
import Derived.Test.YtcjagmphobdbbaaShrRead
import Derived.Test.YtcjagmphobdbbaaTabPl
namespace Go.Sx
open Go Go.Proofs Go.ChangeShapes Go.WideShapes
set_option linter.unusedVariables false
abbrev TRd := TEnt × Option Addr × Nat
abbrev tcx (x : TRd) : List Value := tec x.1 x.2.1 x.2.2
def TRd.ok (W : World) (x : TRd) : Prop := ROld W 1 (.slice x.2.1 x.1.s.ps.length x.2.2) x.1.s.ps.length (flat ic x.1.s.ps) ∧ x.1.s.ps.length ≤ 9223372036854775807 ∧ I64 x.1.o
theorem rd_TRd {H : Type} (enc : TypeId × Value → H) (W : World) {cs : List Value} (h : LeafsOkS enc Try.prog W [.int .i64, .int .i64, .int .i64, .other 55, .bool] cs) :
    ∃ x : TRd, TRd.ok W x ∧ cs = tcx x ∧ (tcx x).all one = true := by
  obtain ⟨o, cs, rfl, w, h⟩ := leafsS_int enc _ W h
  obtain ⟨x, hx, rfl, _⟩ := rd_SRd enc W h
  exact ⟨(⟨o, x.1⟩, x.2.1, x.2.2), ⟨hx.1, hx.2, w⟩, rfl, rfl⟩
end Go.Sx
