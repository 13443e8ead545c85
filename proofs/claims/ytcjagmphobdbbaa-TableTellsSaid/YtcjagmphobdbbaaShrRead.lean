/- What a set of sharers is, read. My own work. -/
import Derived.Test.YtcjagmphobdbbaaRead3
import Derived.Test.YtcjagmphobdbbaaShrLaw
namespace Go.Sx
open Go Go.Proofs Go.ChangeShapes Go.WideShapes
set_option linter.unusedVariables false
abbrev SRd := SSet × Option Addr × Nat
abbrev scx (x : SRd) : List Value := scl x.1 x.2.1 x.2.2
def SRd.ok (W : World) (x : SRd) : Prop := ROld W 1 (.slice x.2.1 x.1.ps.length x.2.2) x.1.ps.length (flat ic x.1.ps) ∧ x.1.ps.length ≤ 9223372036854775807
theorem leafsS_bool {H : Type} (enc : TypeId × Value → H) (P : Program) (W : World) {ks : List Leaf} {cs : List Value} (h : LeafsOkS enc P W (.bool :: ks) cs) : ∃ b cs', cs = .bool b :: cs' ∧ LeafsOkS enc P W ks cs' := by
  obtain ⟨c, cs', rfl, ⟨b, rfl⟩, h2⟩ := leafsS_cons enc P W h
  exact ⟨b, cs', rfl, h2⟩
theorem rd_SRd {H : Type} (enc : TypeId × Value → H) (W : World) {cs : List Value} (h : LeafsOkS enc Try.prog W [.int .i64, .int .i64, .other 55, .bool] cs) :
    ∃ x : SRd, SRd.ok W x ∧ cs = scx x ∧ (scx x).all one = true := by
  obtain ⟨c, cs, rfl, w0, h⟩ := leafsS_int enc _ W h
  obtain ⟨m, cs, rfl, w1, h⟩ := leafsS_int enc _ W h
  obtain ⟨v, cs, rfl, hc, h⟩ := leafsS_cons enc _ W h
  obtain ⟨b, cs, rfl, h2⟩ := leafsS_bool enc _ W h
  obtain rfl := leafsS_nil enc _ W h2
  obtain ⟨a, n, e, x, p, rfl, ht, hsm⟩ := leafS_slice enc _ W (e := 3) Try.underlying55 hc
  obtain ⟨xs, hx, kx, lx, bx⟩ := read_listS enc Try.prog W (d := 6) (encA := ic) (wf := I64) (ks := List.replicate 1 (.int .i64)) Try.underlying55 (by kernel_rfl) (by kernel_rfl) (by decide) (fun cs h => rd_Int enc _ W (leafsS_plain enc _ W h)) ⟨a, n, e, rfl⟩ ht hsm
  obtain ⟨a', c', hv⟩ : ∃ a' c', (Value.slice a n e) = .slice a' xs.length c' := by
    rcases kx.pf with ⟨q, c, h1, h2⟩ | ⟨b, o, c, h1, _⟩
    · exact ⟨q, c, by rw [h1, h2]⟩
    · exact ⟨_, c, h1⟩
  rw [hv] at kx ⊢
  exact ⟨(⟨c, m, xs, b⟩, a', c'), ⟨kx, lx⟩, rfl, rfl⟩
end Go.Sx
