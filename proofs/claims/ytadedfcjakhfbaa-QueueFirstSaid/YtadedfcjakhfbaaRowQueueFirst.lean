/- At most one entry of a line is started, the first one of it: the law QueueFirst answers true for every input. -/
import Derived.Test.YtadedfcjakhfbaaRows
import Derived.Test.YtadedfcjakhfbaaRead2
import Derived.Test.YtadedfcjakhfbaaQuFirst
import Derived.Test.YtadedfcjakhfbaaQuRead
namespace Go.Proofs.Ytadedfcjakhfbaa.queueFirst
open Go.Sx Go.ChangeShapes Go.WideShapes Go.ChangeAt Go.RowKit
set_option linter.unusedVariables false
set_option linter.unusedSimpArgs false

theorem own : ownKnob Try.prog.godebug = none := by kernel_rfl
theorem laidOut : laidOutB Try.prog = true := by kernel_rfl

set_option maxRecDepth 100000 in
theorem lifted (os : Os) (started : os.Started) (H : Type) (enc : TypeId × Value → H) :
    ReturnsInHanded {} Try.checked os 9 .any (Rows.queueFirstSpec.pre6 enc Try.prog Try.f9 Rows.queueFirstRow.domain false) (Rows.queueFirstSpec.post enc Try.prog Try.f9 false true false false) := by
  refine returnsInHanded_of_change_sized (C := Try.checked) own started (by kernel_rfl) Try.func9
    (ChangeSpec.witness6 (enc := enc) (C := Try.checked) false ⟨#[], #[.int .i64 0, .slice none 0 0], []⟩ 8 (by kernel_rfl) (by kernel_rfl) (by kernel_rfl) (by kernel_rfl)) ?_
  intro W base args ds gs before hval0 hW hcnd hwt _
  have hval : ∀ (j : Nat) t v, Try.f9.params[j]? = some t → args[j]? = some v → Value.okWide Try.prog W .any base t v := hval0
  have hW' := hW
  obtain ⟨p, q, hA0, hV, rfl, hfz, hnd⟩ := hW
  have hA : DataW.TrodAll enc Try.prog W 0 (fun _ => true) true Try.f9.params.toList args.toList ds p := hA0
  rw [Try.params9] at hA hval
  obtain ⟨v0, vs0, d0, ds0, p0, q0, hargs, rfl, rfl, h0, r0⟩ := trodAll_cons hA
  obtain ⟨v1, vs1, d1, ds1, p1, q1, rfl, rfl, rfl, h1, r1⟩ := trodAll_cons r0
  obtain ⟨rfl, rfl, rfl⟩ := trodAll_nil r1
  obtain rfl : args = #[v0, v1] := by cases args; simp_all
  obtain ⟨rfl, rfl⟩ := trodVars_none hV
  have lt0 : ∀ x ∈ p0, x.block < W.heap.size := by obtain ⟨m, hm⟩ := h0; exact DataW.trod_lt m _ _ _ hm
  have lt1 : ∀ x ∈ p1, x.block < W.heap.size := by obtain ⟨m, hm⟩ := h1; exact DataW.trod_lt m _ _ _ hm
  have hwt0 : (DataW.weightsEach Try.prog (3 :: 87 :: _) (d0 :: d1 :: _)).all (· ≤ reachBytes) = true := hwt
  obtain ⟨s0, hwt1⟩ := sm_each _ hwt0
  obtain ⟨s1, hwt2⟩ := sm_each _ hwt1
  obtain ⟨c0, hc0, rfl⟩ : ∃ n : Int, I64 n ∧ v0 = .int .i64 n := by
    obtain ⟨n, e⟩ := okWide_int Try.underlying3 (hval 0 3 v0 rfl rfl)
    have k := read_leafs enc Try.prog W (d := 4) (ks := [.int .i64]) (by kernel_rfl) h0
    obtain ⟨a, cs, e0, w, k⟩ := leafs_int enc _ W k
    obtain rfl := leafs_nil enc _ W k
    subst e
    simp [cellsOf] at e0
    exact ⟨n, e0 ▸ w, rfl⟩
  obtain ⟨c1, hc1, k1, l1, b1⟩ := read_listS enc Try.prog W (d := 6) (encA := qoc) (wf := fun x => x.ok W ∧ x.sends.length ≤ 2000000000000) (ks := List.replicate 17 (.int .i64) ++ [.other 57]) Try.underlying87 (by kernel_rfl) (by kernel_rfl) (by decide) (fun cs h => rd_QOp enc W h) (okWide_slice Try.underlying87 (hval 1 87 v1 rfl rfl)) h1 s1
  clear hA0 hval0
  refine (law_calls (FnF.all fun F => law15_First hc0 hc1 l1 k1)).mono fun e W' ⟨he, bel⟩ => ?_
  subst he
  exact ⟨_, rfl, _, _, _, [], _, [], hW', trodAll_mk1 (shut_bool Try.underlying4 _), (trodAll_cons_mk (Below.trod laidOut (by kernel_rfl) (of_decide_eq_true (by kernel_rfl)) h0 bel lt0) (trodAll_cons_mk (Below.trod laidOut (by kernel_rfl) (of_decide_eq_true (by kernel_rfl)) h1 bel lt1) trodAll_mk0)), rfl, bel.frame _, fun h => by cases h⟩

theorem over : Rows.queueFirstRow.holds Try.pinned (OpenSpec.ofChange Rows.queueFirstSpec) :=
  OpenClaim.holds_of_wide 9 Try.f9 rfl rfl rfl rfl rfl rfl rfl ⟨rfl, rfl, rfl, rfl, rfl⟩ rfl rfl rfl rfl rfl (by kernel_rfl) Try.func9 (by kernel_rfl)
    (of_decide_eq_true (by kernel_rfl)) (by unfold Func.isWrapper; first | (rw [if_pos (by decide +kernel)]; kernel_rfl) | (rw [if_neg (by decide +kernel)]; exact ⟨rfl, rfl⟩))
    (fun os started H enc _ => lifted os started H enc)

theorem proved : Rows.QueueFirstSaid := over
#print axioms proved
end Go.Proofs.Ytadedfcjakhfbaa.queueFirst
