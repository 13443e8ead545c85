/- In whichever order cores are added the set is the same: the law SharerOrder answers true for every input. -/
import Derived.Test.YtadedfcjakhfbabRows
import Derived.Test.YtadedfcjakhfbabRead2
import Derived.Test.YtadedfcjakhfbabShrOrd

namespace Go.Proofs.Ytadedfcjakhfbab.sharerOrder
open Go.Sx Go.ChangeShapes Go.WideShapes Go.ChangeAt Go.RowKit
set_option linter.unusedVariables false
set_option linter.unusedSimpArgs false

theorem own : ownKnob Try.prog.godebug = none := by kernel_rfl
theorem laidOut : laidOutB Try.prog = true := by kernel_rfl

set_option maxRecDepth 100000 in
theorem lifted (os : Os) (started : os.Started) (H : Type) (enc : TypeId × Value → H) :
    ReturnsInHanded {} Try.checked os 9 .any (Rows.sharerOrderSpec.pre6 enc Try.prog Try.f9 Rows.sharerOrderRow.domain false) (Rows.sharerOrderSpec.post enc Try.prog Try.f9 false true false false) := by
  refine returnsInHanded_of_change (C := Try.checked) own started (by kernel_rfl) Try.func9
    (ChangeSpec.witness6 (enc := enc) (C := Try.checked) false ⟨#[], #[.int .i64 0, .int .i64 0, .slice none 0 0, .int .i64 0], []⟩ 8 (by kernel_rfl) (by kernel_rfl) (by kernel_rfl) (by kernel_rfl)) ?_
  intro W base args ds gs before hval0 hW hcnd _
  have hval : ∀ (j : Nat) t v, Try.f9.params[j]? = some t → args[j]? = some v → Value.okWide Try.prog W .any base t v := hval0
  have hW' := hW
  obtain ⟨p, q, hA0, hV, rfl, hfz, hnd⟩ := hW
  have hA : DataW.TrodAll enc Try.prog W 0 (fun _ => true) true Try.f9.params.toList args.toList ds p := hA0
  rw [Try.params9] at hA hval
  obtain ⟨v0, vs0, d0, ds0, p0, q0, hargs, rfl, rfl, h0, r0⟩ := trodAll_cons hA
  obtain ⟨v1, vs1, d1, ds1, p1, q1, rfl, rfl, rfl, h1, r1⟩ := trodAll_cons r0
  obtain ⟨v2, vs2, d2, ds2, p2, q2, rfl, rfl, rfl, h2, r2⟩ := trodAll_cons r1
  obtain ⟨v3, vs3, d3, ds3, p3, q3, rfl, rfl, rfl, h3, r3⟩ := trodAll_cons r2
  obtain ⟨rfl, rfl, rfl⟩ := trodAll_nil r3
  obtain rfl : args = #[v0, v1, v2, v3] := by cases args; simp_all
  obtain ⟨rfl, rfl⟩ := trodVars_none hV
  have lt0 : ∀ x ∈ p0, x.block < W.heap.size := by obtain ⟨m, hm⟩ := h0; exact DataW.trod_lt m _ _ _ hm
  have lt1 : ∀ x ∈ p1, x.block < W.heap.size := by obtain ⟨m, hm⟩ := h1; exact DataW.trod_lt m _ _ _ hm
  have lt2 : ∀ x ∈ p2, x.block < W.heap.size := by obtain ⟨m, hm⟩ := h2; exact DataW.trod_lt m _ _ _ hm
  have lt3 : ∀ x ∈ p3, x.block < W.heap.size := by obtain ⟨m, hm⟩ := h3; exact DataW.trod_lt m _ _ _ hm
  obtain ⟨c0, hc0, rfl⟩ : ∃ n : Int, I64 n ∧ v0 = .int .i64 n := by
    obtain ⟨n, e⟩ := okWide_int Try.underlying3 (hval 0 3 v0 rfl rfl)
    have k := read_leafs enc Try.prog W (d := 4) (ks := [.int .i64]) (by kernel_rfl) h0
    obtain ⟨a, cs, e0, w, k⟩ := leafs_int enc _ W k
    obtain rfl := leafs_nil enc _ W k
    subst e
    simp [cellsOf] at e0
    exact ⟨n, e0 ▸ w, rfl⟩
  obtain ⟨c1, hc1, rfl⟩ : ∃ n : Int, I64 n ∧ v1 = .int .i64 n := by
    obtain ⟨n, e⟩ := okWide_int Try.underlying3 (hval 1 3 v1 rfl rfl)
    have k := read_leafs enc Try.prog W (d := 4) (ks := [.int .i64]) (by kernel_rfl) h1
    obtain ⟨a, cs, e0, w, k⟩ := leafs_int enc _ W k
    obtain rfl := leafs_nil enc _ W k
    subst e
    simp [cellsOf] at e0
    exact ⟨n, e0 ▸ w, rfl⟩
  obtain ⟨c2, hc2, k2, l2⟩ := read_list enc Try.prog W (d := 6) (encA := ic) (wf := I64) (ks := List.replicate 1 (.int .i64)) Try.underlying34 (by kernel_rfl) (by kernel_rfl) (by decide) (fun cs h => rd_Int enc _ W h) (okWide_slice Try.underlying34 (hval 2 34 v2 rfl rfl)) h2
  obtain ⟨c3, hc3, rfl⟩ : ∃ n : Int, I64 n ∧ v3 = .int .i64 n := by
    obtain ⟨n, e⟩ := okWide_int Try.underlying3 (hval 3 3 v3 rfl rfl)
    have k := read_leafs enc Try.prog W (d := 4) (ks := [.int .i64]) (by kernel_rfl) h3
    obtain ⟨a, cs, e0, w, k⟩ := leafs_int enc _ W k
    obtain rfl := leafs_nil enc _ W k
    subst e
    simp [cellsOf] at e0
    exact ⟨n, e0 ▸ w, rfl⟩
  clear hA0 hval0
  refine (law_calls (FnF.all fun F => law08_Order l2 k2)).mono fun e W' ⟨he, bel⟩ => ?_
  subst he
  exact ⟨_, rfl, _, _, _, [], _, [], hW', trodAll_mk1 (shut_bool Try.underlying4 _), (trodAll_cons_mk (Below.trod laidOut (by kernel_rfl) (of_decide_eq_true (by kernel_rfl)) h0 bel lt0) (trodAll_cons_mk (Below.trod laidOut (by kernel_rfl) (of_decide_eq_true (by kernel_rfl)) h1 bel lt1) (trodAll_cons_mk (Below.trod laidOut (by kernel_rfl) (of_decide_eq_true (by kernel_rfl)) h2 bel lt2) (trodAll_cons_mk (Below.trod laidOut (by kernel_rfl) (of_decide_eq_true (by kernel_rfl)) h3 bel lt3) trodAll_mk0)))), rfl, bel.frame _, fun h => by cases h⟩

theorem over : Rows.sharerOrderRow.holds Try.pinned (OpenSpec.ofChange Rows.sharerOrderSpec) :=
  OpenClaim.holds_of_wide 9 Try.f9 rfl rfl rfl rfl rfl rfl rfl ⟨rfl, rfl, rfl, rfl, rfl⟩ rfl rfl rfl rfl rfl (by kernel_rfl) Try.func9 (by kernel_rfl)
    (of_decide_eq_true (by kernel_rfl)) (by unfold Func.isWrapper; first | (rw [if_pos (by decide +kernel)]; kernel_rfl) | (rw [if_neg (by decide +kernel)]; exact ⟨rfl, rfl⟩))
    (fun os started H enc _ => lifted os started H enc)

theorem proved : Rows.SharerOrderSaid := over
#print axioms proved
end Go.Proofs.Ytadedfcjakhfbab.sharerOrder
