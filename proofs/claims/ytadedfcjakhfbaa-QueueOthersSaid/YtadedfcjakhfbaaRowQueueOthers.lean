/- What is started, sent and finished leaves all others as they are: the law QueueOthers answers true for every input. -/
import Derived.Test.YtadedfcjakhfbaaRows
import Derived.Test.YtadedfcjakhfbaaRead2
import Derived.Test.YtadedfcjakhfbaaQuOth
import Derived.Test.YtadedfcjakhfbaaQuRead
namespace Go.Proofs.Ytadedfcjakhfbaa.queueOthers
open Go.Sx Go.ChangeShapes Go.WideShapes Go.ChangeAt Go.RowKit
set_option linter.unusedVariables false
set_option linter.unusedSimpArgs false

theorem own : ownKnob Try.prog.godebug = none := by kernel_rfl
theorem laidOut : laidOutB Try.prog = true := by kernel_rfl

set_option maxRecDepth 100000 in
theorem lifted (os : Os) (started : os.Started) (H : Type) (enc : TypeId × Value → H) :
    ReturnsInHanded {} Try.checked os 10 .any (Rows.queueOthersSpec.pre6 enc Try.prog Try.f10 Rows.queueOthersRow.domain false) (Rows.queueOthersSpec.post enc Try.prog Try.f10 false true false false) := by
  refine returnsInHanded_of_change_sized (C := Try.checked) own started (by kernel_rfl) Try.func10
    (ChangeSpec.witness6 (enc := enc) (C := Try.checked) false ⟨#[], #[.int .i64 0, .slice none 0 0, .agg #[.int .i64 0, .int .i64 0, .int .i64 0, .int .i64 0, .int .i64 0, .int .i64 0, .int .i64 0, .int .i64 0, .int .i64 0, .int .i64 0, .int .i64 0, .int .i64 0, .int .i64 0, .int .i64 0, .int .i64 0, .int .i64 0, .int .i64 0, .slice none 0 0]], []⟩ 8 (by kernel_rfl) (by kernel_rfl) (by kernel_rfl) (by kernel_rfl)) ?_
  intro W base args ds gs before hval0 hW hcnd hwt _
  have hval : ∀ (j : Nat) t v, Try.f10.params[j]? = some t → args[j]? = some v → Value.okWide Try.prog W .any base t v := hval0
  have hW' := hW
  obtain ⟨p, q, hA0, hV, rfl, hfz, hnd⟩ := hW
  have hA : DataW.TrodAll enc Try.prog W 0 (fun _ => true) true Try.f10.params.toList args.toList ds p := hA0
  rw [Try.params10] at hA hval
  obtain ⟨v0, vs0, d0, ds0, p0, q0, hargs, rfl, rfl, h0, r0⟩ := trodAll_cons hA
  obtain ⟨v1, vs1, d1, ds1, p1, q1, rfl, rfl, rfl, h1, r1⟩ := trodAll_cons r0
  obtain ⟨v2, vs2, d2, ds2, p2, q2, rfl, rfl, rfl, h2, r2⟩ := trodAll_cons r1
  obtain ⟨rfl, rfl, rfl⟩ := trodAll_nil r2
  obtain rfl : args = #[v0, v1, v2] := by cases args; simp_all
  obtain ⟨rfl, rfl⟩ := trodVars_none hV
  have lt0 : ∀ x ∈ p0, x.block < W.heap.size := by obtain ⟨m, hm⟩ := h0; exact DataW.trod_lt m _ _ _ hm
  have lt1 : ∀ x ∈ p1, x.block < W.heap.size := by obtain ⟨m, hm⟩ := h1; exact DataW.trod_lt m _ _ _ hm
  have lt2 : ∀ x ∈ p2, x.block < W.heap.size := by obtain ⟨m, hm⟩ := h2; exact DataW.trod_lt m _ _ _ hm
  have hwt0 : (DataW.weightsEach Try.prog (3 :: 87 :: 96 :: _) (d0 :: d1 :: d2 :: _)).all (· ≤ reachBytes) = true := hwt
  obtain ⟨s0, hwt1⟩ := sm_each _ hwt0
  obtain ⟨s1, hwt2⟩ := sm_each _ hwt1
  obtain ⟨s2, hwt3⟩ := sm_each _ hwt2
  obtain ⟨c0, hc0, rfl⟩ : ∃ n : Int, I64 n ∧ v0 = .int .i64 n := by
    obtain ⟨n, e⟩ := okWide_int Try.underlying3 (hval 0 3 v0 rfl rfl)
    have k := read_leafs enc Try.prog W (d := 4) (ks := [.int .i64]) (by kernel_rfl) h0
    obtain ⟨a, cs, e0, w, k⟩ := leafs_int enc _ W k
    obtain rfl := leafs_nil enc _ W k
    subst e
    simp [cellsOf] at e0
    exact ⟨n, e0 ▸ w, rfl⟩
  obtain ⟨c1, hc1, k1, l1, b1⟩ := read_listS enc Try.prog W (d := 6) (encA := qoc) (wf := fun x => x.ok W ∧ x.sends.length ≤ 2000000000000) (ks := List.replicate 17 (.int .i64) ++ [.other 57]) Try.underlying87 (by kernel_rfl) (by kernel_rfl) (by decide) (fun cs h => rd_QOp enc W h) (okWide_slice Try.underlying87 (hval 1 87 v1 rfl rfl)) h1 s1
  obtain ⟨c2, hc2, rfl⟩ : ∃ x : QOp, ((fun x => QOp.ok W x ∧ (QOp.sends x).length ≤ 2000000000000) x) ∧ v2 = .agg (qoc x).toArray := by
    obtain ⟨cs, e, _⟩ := okWide_struct Try.underlying96 (hval 2 96 v2 rfl rfl)
    have k := read_leafsS enc Try.prog W (d := 6) (ks := List.replicate 17 (.int .i64) ++ [.other 57]) (by kernel_rfl) h2 s2
    obtain ⟨x, hx, ex, _⟩ := rd_QOp enc W k
    refine ⟨x, hx, ?_⟩
    rw [cells_of_agg e, ex]
  clear hA0 hval0
  refine (law_calls (FnF.all fun F => law15_Others hc0 hc1 l1 k1 hc2.1)).mono fun e W' ⟨he, bel⟩ => ?_
  subst he
  exact ⟨_, rfl, _, _, _, [], _, [], hW', trodAll_mk1 (shut_bool Try.underlying4 _), (trodAll_cons_mk (Below.trod laidOut (by kernel_rfl) (of_decide_eq_true (by kernel_rfl)) h0 bel lt0) (trodAll_cons_mk (Below.trod laidOut (by kernel_rfl) (of_decide_eq_true (by kernel_rfl)) h1 bel lt1) (trodAll_cons_mk (Below.trod laidOut (by kernel_rfl) (of_decide_eq_true (by kernel_rfl)) h2 bel lt2) trodAll_mk0))), rfl, bel.frame _, fun h => by cases h⟩

theorem over : Rows.queueOthersRow.holds Try.pinned (OpenSpec.ofChange Rows.queueOthersSpec) :=
  OpenClaim.holds_of_wide 10 Try.f10 rfl rfl rfl rfl rfl rfl rfl ⟨rfl, rfl, rfl, rfl, rfl⟩ rfl rfl rfl rfl rfl (by kernel_rfl) Try.func10 (by kernel_rfl)
    (of_decide_eq_true (by kernel_rfl)) (by unfold Func.isWrapper; first | (rw [if_pos (by decide +kernel)]; kernel_rfl) | (rw [if_neg (by decide +kernel)]; exact ⟨rfl, rfl⟩))
    (fun os started H enc _ => lifted os started H enc)

theorem proved : Rows.QueueOthersSaid := over
#print axioms proved
end Go.Proofs.Ytadedfcjakhfbaa.queueOthers
