/- What an operation of a law of queues is, read. My own work. -/
import Derived.Test.YtadedfcjakhfbaaRead3
import Derived.Test.YtadedfcjakhfbaaQuLaw
namespace Go.Sx
open Go Go.Proofs Go.ChangeShapes Go.WideShapes
set_option linter.unusedVariables false
theorem rd_QOp {H : Type} (enc : TypeId × Value → H) (W : World) {cs : List Value} (h : LeafsOkS enc Try.prog W (List.replicate 17 (.int .i64) ++ [.other 57]) cs) :
    ∃ x : QOp, (x.ok W ∧ x.sends.length ≤ 2000000000000) ∧ cs = qoc x ∧ (qoc x).all one = true := by
  simp only [List.replicate, List.cons_append, List.nil_append] at h
  obtain ⟨d, cs, rfl, w0, h⟩ := leafsS_int enc _ W h
  obtain ⟨n, cs, rfl, w1, h⟩ := leafsS_int enc _ W h
  obtain ⟨k, cs, rfl, w2, h⟩ := leafsS_int enc _ W h
  obtain ⟨l, cs, rfl, w3, h⟩ := leafsS_int enc _ W h
  obtain ⟨s, cs, rfl, w4, h⟩ := leafsS_int enc _ W h
  obtain ⟨t, cs, rfl, w5, h⟩ := leafsS_int enc _ W h
  obtain ⟨y, cs, rfl, w6, h⟩ := leafsS_int enc _ W h
  obtain ⟨z, cs, rfl, w7, h⟩ := leafsS_int enc _ W h
  obtain ⟨o, cs, rfl, w8, h⟩ := leafsS_int enc _ W h
  obtain ⟨a0, cs, rfl, v0, h⟩ := leafsS_int enc _ W h
  obtain ⟨a1, cs, rfl, v1, h⟩ := leafsS_int enc _ W h
  obtain ⟨a2, cs, rfl, v2, h⟩ := leafsS_int enc _ W h
  obtain ⟨a3, cs, rfl, v3, h⟩ := leafsS_int enc _ W h
  obtain ⟨a4, cs, rfl, v4, h⟩ := leafsS_int enc _ W h
  obtain ⟨a5, cs, rfl, v5, h⟩ := leafsS_int enc _ W h
  obtain ⟨a6, cs, rfl, v6, h⟩ := leafsS_int enc _ W h
  obtain ⟨a7, cs, rfl, v7, h⟩ := leafsS_int enc _ W h
  obtain ⟨c, cs, rfl, hc, h⟩ := leafsS_cons enc _ W h
  obtain rfl := leafsS_nil enc _ W h
  obtain ⟨a, m, e, x, p, rfl, ht, hsm⟩ := leafS_slice enc _ W (e := 52) Try.underlying57 hc
  obtain ⟨xs, hx, kx, lx, bx⟩ := read_listS enc Try.prog W (d := 6) (encA := mc) (wf := Msg.wf) (ks := List.replicate 15 (.int .i64)) Try.underlying57 (by kernel_rfl) (by kernel_rfl) (by decide) (fun cs h => rd_Msg enc _ W (leafsS_plain enc _ W h)) ⟨a, m, e, rfl⟩ ht hsm
  have hb : Try.prog.bytesOf 52 = 120 := by kernel_rfl
  have hr : reachBytes = 140737488351232 := rfl
  rw [hb, hr] at bx
  obtain ⟨a', c', hv⟩ : ∃ a' c', (Value.slice a m e) = .slice a' xs.length c' := by
    rcases kx.pf with ⟨q, c, h1, h2⟩ | ⟨b, o, c, h1, _⟩
    · exact ⟨q, c, by rw [h1, h2]⟩
    · exact ⟨_, c, h1⟩
  rw [hv] at kx ⊢
  refine ⟨⟨d, n, ⟨k, l, s, t, y, z, o, ⟨a0, a1, a2, a3, a4, a5, a6, a7⟩⟩, xs, a', c'⟩, ⟨⟨⟨w0, w1, w2, w3, w4, w5, w6, w7, w8, ?_⟩, kx, lx⟩, by dsimp only; omega⟩, rfl, rfl⟩
  intro x hx
  simp only [Words.list, List.mem_cons, List.not_mem_nil, or_false] at hx
  rcases hx with rfl | rfl | rfl | rfl | rfl | rfl | rfl | rfl <;> assumption
end Go.Sx
