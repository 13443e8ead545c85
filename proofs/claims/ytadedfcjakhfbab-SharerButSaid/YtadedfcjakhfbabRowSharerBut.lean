/- Targets are those that may be sharers and none of those left out: the law SharerBut answers true for every input. -/
import Derived.Test.YtadedfcjakhfbabRows
import Derived.Test.YtadedfcjakhfbabRead2
import Derived.Test.YtadedfcjakhfbabShrBut
import Derived.Test.YtadedfcjakhfbabShrRead
namespace Go.Proofs.Ytadedfcjakhfbab.sharerBut
open Go.Sx Go.ChangeShapes Go.WideShapes Go.ChangeAt Go.RowKit
set_option linter.unusedVariables false
set_option linter.unusedSimpArgs false

theorem own : ownKnob Try.prog.godebug = none := by kernel_rfl
theorem laidOut : laidOutB Try.prog = true := by kernel_rfl

set_option maxRecDepth 100000 in
theorem lifted (os : Os) (started : os.Started) (H : Type) (enc : TypeId × Value → H) :
    ReturnsInHanded {} Try.checked os 8 .any (Rows.sharerButSpec.pre6 enc Try.prog Try.f8 Rows.sharerButRow.domain false) (Rows.sharerButSpec.post enc Try.prog Try.f8 false true false false) := by
  refine returnsInHanded_of_change_sized (C := Try.checked) own started (by kernel_rfl) Try.func8
    (ChangeSpec.witness6 (enc := enc) (C := Try.checked) false ⟨#[], #[.agg #[.int .i64 0, .int .i64 0, .slice none 0 0, .bool false], .slice none 0 0], []⟩ 8 (by kernel_rfl) (by kernel_rfl) (by kernel_rfl) (by kernel_rfl)) ?_
  intro W base args ds gs before hval0 hW hcnd hwt _
  have hval : ∀ (j : Nat) t v, Try.f8.params[j]? = some t → args[j]? = some v → Value.okWide Try.prog W .any base t v := hval0
  have hW' := hW
  obtain ⟨p, q, hA0, hV, rfl, hfz, hnd⟩ := hW
  have hA : DataW.TrodAll enc Try.prog W 0 (fun _ => true) true Try.f8.params.toList args.toList ds p := hA0
  rw [Try.params8] at hA hval
  obtain ⟨v0, vs0, d0, ds0, p0, q0, hargs, rfl, rfl, h0, r0⟩ := trodAll_cons hA
  obtain ⟨v1, vs1, d1, ds1, p1, q1, rfl, rfl, rfl, h1, r1⟩ := trodAll_cons r0
  obtain ⟨rfl, rfl, rfl⟩ := trodAll_nil r1
  obtain rfl : args = #[v0, v1] := by cases args; simp_all
  obtain ⟨rfl, rfl⟩ := trodVars_none hV
  have lt0 : ∀ x ∈ p0, x.block < W.heap.size := by obtain ⟨m, hm⟩ := h0; exact DataW.trod_lt m _ _ _ hm
  have lt1 : ∀ x ∈ p1, x.block < W.heap.size := by obtain ⟨m, hm⟩ := h1; exact DataW.trod_lt m _ _ _ hm
  have hwt0 : (DataW.weightsEach Try.prog (41 :: 34 :: _) (d0 :: d1 :: _)).all (· ≤ reachBytes) = true := hwt
  obtain ⟨s0, hwt1⟩ := sm_each _ hwt0
  obtain ⟨s1, hwt2⟩ := sm_each _ hwt1
  obtain ⟨c0, hc0, rfl⟩ : ∃ x : SRd, (SRd.ok W x) ∧ v0 = .agg (scx x).toArray := by
    obtain ⟨cs, e, _⟩ := okWide_struct Try.underlying41 (hval 0 41 v0 rfl rfl)
    have k := read_leafsS enc Try.prog W (d := 6) (ks := [.int .i64, .int .i64, .other 34, .bool]) (by kernel_rfl) h0 s0
    obtain ⟨x, hx, ex, _⟩ := rd_SRd enc W k
    refine ⟨x, hx, ?_⟩
    rw [cells_of_agg e, ex]
  obtain ⟨c1, hc1, k1, l1⟩ := read_list enc Try.prog W (d := 6) (encA := ic) (wf := I64) (ks := List.replicate 1 (.int .i64)) Try.underlying34 (by kernel_rfl) (by kernel_rfl) (by decide) (fun cs h => rd_Int enc _ W h) (okWide_slice Try.underlying34 (hval 1 34 v1 rfl rfl)) h1
  clear hA0 hval0
  refine (law_calls (FnF.all fun F => law08_But (s := c0.1) (a := c0.2.1) (k := c0.2.2) hc0.1 hc0.2 k1 l1)).mono fun e W' ⟨he, bel⟩ => ?_
  subst he
  exact ⟨_, rfl, _, _, _, [], _, [], hW', trodAll_mk1 (shut_bool Try.underlying4 _), (trodAll_cons_mk (Below.trod laidOut (by kernel_rfl) (of_decide_eq_true (by kernel_rfl)) h0 bel lt0) (trodAll_cons_mk (Below.trod laidOut (by kernel_rfl) (of_decide_eq_true (by kernel_rfl)) h1 bel lt1) trodAll_mk0)), rfl, bel.frame _, fun h => by cases h⟩

theorem over : Rows.sharerButRow.holds Try.pinned (OpenSpec.ofChange Rows.sharerButSpec) :=
  OpenClaim.holds_of_wide 8 Try.f8 rfl rfl rfl rfl rfl rfl rfl ⟨rfl, rfl, rfl, rfl, rfl⟩ rfl rfl rfl rfl rfl (by kernel_rfl) Try.func8 (by kernel_rfl)
    (of_decide_eq_true (by kernel_rfl)) (by unfold Func.isWrapper; first | (rw [if_pos (by decide +kernel)]; kernel_rfl) | (rw [if_neg (by decide +kernel)]; exact ⟨rfl, rfl⟩))
    (fun os started H enc _ => lifted os started H enc)

theorem proved : Rows.SharerButSaid := over
#print axioms proved
end Go.Proofs.Ytadedfcjakhfbab.sharerBut
