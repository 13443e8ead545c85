/- Whether any entry may be, and what comes of any request there, or why nothing, are as the document says: the law TableTells answers true for every input. -/
import Derived.Test.YtcjagmphobdbbaaRows
import Derived.Test.YtcjagmphobdbbaaRead2
import Derived.Test.YtcjagmphobdbbaaTabTell
import Derived.Test.YtcjagmphobdbbaaTabRead

namespace Go.Proofs.Ytcjagmphobdbbaa.tableTells
open Go.Sx Go.ChangeShapes Go.WideShapes Go.ChangeAt Go.RowKit
set_option linter.unusedVariables false
set_option linter.unusedSimpArgs false

theorem own : ownKnob Try.prog.godebug = none := by kernel_rfl
theorem laidOut : laidOutB Try.prog = true := by kernel_rfl

set_option maxRecDepth 100000 in
theorem lifted (os : Os) (started : os.Started) (H : Type) (enc : TypeId × Value → H) :
    ReturnsInHanded {} Try.checked os 5 .any (Rows.tableTellsSpec.pre6 enc Try.prog Try.f5 Rows.tableTellsRow.domain false) (Rows.tableTellsSpec.post enc Try.prog Try.f5 false true false false) := by
  refine returnsInHanded_of_change_sized (C := Try.checked) own started (by kernel_rfl) Try.func5
    (ChangeSpec.witness6 (enc := enc) (C := Try.checked) false ⟨#[], #[.agg #[.int .i64 0, .int .i64 0, .int .i64 0, .slice none 0 0, .bool false], .agg #[.int .i64 0, .int .i64 0, .int .i64 0, .int .i64 0, .int .i64 0, .int .i64 0, .int .i64 0, .int .i64 0, .int .i64 0, .int .i64 0, .int .i64 0, .int .i64 0, .int .i64 0, .int .i64 0, .int .i64 0], .agg #[.int .i64 0, .int .i64 0, .int .i64 0, .int .i64 0, .int .i64 0, .int .i64 0, .int .i64 0, .int .i64 0], .int .i64 0, .int .i64 0], []⟩ 8 (by kernel_rfl) (by kernel_rfl) (by kernel_rfl) (by kernel_rfl)) ?_
  intro W base args ds gs before hval0 hW hcnd hwt _
  have hval : ∀ (j : Nat) t v, Try.f5.params[j]? = some t → args[j]? = some v → Value.okWide Try.prog W .any base t v := hval0
  have hW' := hW
  obtain ⟨p, q, hA0, hV, rfl, hfz, hnd⟩ := hW
  have hA : DataW.TrodAll enc Try.prog W 0 (fun _ => true) true Try.f5.params.toList args.toList ds p := hA0
  rw [Try.params5] at hA hval
  obtain ⟨v0, vs0, d0, ds0, p0, q0, hargs, rfl, rfl, h0, r0⟩ := trodAll_cons hA
  obtain ⟨v1, vs1, d1, ds1, p1, q1, rfl, rfl, rfl, h1, r1⟩ := trodAll_cons r0
  obtain ⟨v2, vs2, d2, ds2, p2, q2, rfl, rfl, rfl, h2, r2⟩ := trodAll_cons r1
  obtain ⟨v3, vs3, d3, ds3, p3, q3, rfl, rfl, rfl, h3, r3⟩ := trodAll_cons r2
  obtain ⟨v4, vs4, d4, ds4, p4, q4, rfl, rfl, rfl, h4, r4⟩ := trodAll_cons r3
  obtain ⟨rfl, rfl, rfl⟩ := trodAll_nil r4
  obtain rfl : args = #[v0, v1, v2, v3, v4] := by cases args; simp_all
  obtain ⟨rfl, rfl⟩ := trodVars_none hV
  have lt0 : ∀ x ∈ p0, x.block < W.heap.size := by obtain ⟨m, hm⟩ := h0; exact DataW.trod_lt m _ _ _ hm
  have lt1 : ∀ x ∈ p1, x.block < W.heap.size := by obtain ⟨m, hm⟩ := h1; exact DataW.trod_lt m _ _ _ hm
  have lt2 : ∀ x ∈ p2, x.block < W.heap.size := by obtain ⟨m, hm⟩ := h2; exact DataW.trod_lt m _ _ _ hm
  have lt3 : ∀ x ∈ p3, x.block < W.heap.size := by obtain ⟨m, hm⟩ := h3; exact DataW.trod_lt m _ _ _ hm
  have lt4 : ∀ x ∈ p4, x.block < W.heap.size := by obtain ⟨m, hm⟩ := h4; exact DataW.trod_lt m _ _ _ hm
  have hwt0 : (DataW.weightsEach Try.prog (59 :: 37 :: 35 :: 3 :: 3 :: _) (d0 :: d1 :: d2 :: d3 :: d4 :: _)).all (· ≤ reachBytes) = true := hwt
  obtain ⟨s0, hwt1⟩ := sm_each _ hwt0
  obtain ⟨s1, hwt2⟩ := sm_each _ hwt1
  obtain ⟨s2, hwt3⟩ := sm_each _ hwt2
  obtain ⟨s3, hwt4⟩ := sm_each _ hwt3
  obtain ⟨s4, hwt5⟩ := sm_each _ hwt4
  obtain ⟨c0, hc0, rfl⟩ : ∃ x : TRd, (TRd.ok W x) ∧ v0 = .agg (tcx x).toArray := by
    obtain ⟨cs, e, _⟩ := okWide_struct Try.underlying59 (hval 0 59 v0 rfl rfl)
    have k := read_leafsS enc Try.prog W (d := 6) (ks := [.int .i64, .int .i64, .int .i64, .other 55, .bool]) (by kernel_rfl) h0 s0
    obtain ⟨x, hx, ex, _⟩ := rd_TRd enc W k
    refine ⟨x, hx, ?_⟩
    rw [cells_of_agg e, ex]
  obtain ⟨c1, hc1, rfl⟩ : ∃ x : Msg, x.wf ∧ v1 = .agg (mc x).toArray := by
    obtain ⟨cs, e, _⟩ := okWide_struct Try.underlying37 (hval 1 37 v1 rfl rfl)
    have k := read_leafs enc Try.prog W (d := 6) (ks := List.replicate 15 (.int .i64)) (by kernel_rfl) h1
    obtain ⟨x, hx, ex, _⟩ := rd_Msg enc _ W k
    refine ⟨x, hx, ?_⟩
    rw [cells_of_agg e, ex]
  obtain ⟨c2, hc2, rfl⟩ : ∃ x : Words, x.wf ∧ v2 = .agg (wc x).toArray := by
    obtain ⟨cs, e⟩ : ∃ cs, v2 = .agg cs := by
      have h := hval 2 35 v2 rfl rfl
      simp only [Value.okWide, Try.underlying35] at h
      obtain ⟨cs, h1, _⟩ := h
      exact ⟨cs, h1⟩
    have k := read_leafs enc Try.prog W (d := 6) (ks := List.replicate 8 (.int .i64)) (by kernel_rfl) h2
    obtain ⟨x, hx, ex, _⟩ := rd_Words enc _ W k
    refine ⟨x, hx, ?_⟩
    rw [cells_of_agg e, ex]
  obtain ⟨c3, hc3, rfl⟩ : ∃ n : Int, I64 n ∧ v3 = .int .i64 n := by
    obtain ⟨n, e⟩ := okWide_int Try.underlying3 (hval 3 3 v3 rfl rfl)
    have k := read_leafs enc Try.prog W (d := 4) (ks := [.int .i64]) (by kernel_rfl) h3
    obtain ⟨a, cs, e0, w, k⟩ := leafs_int enc _ W k
    obtain rfl := leafs_nil enc _ W k
    subst e
    simp [cellsOf] at e0
    exact ⟨n, e0 ▸ w, rfl⟩
  obtain ⟨c4, hc4, rfl⟩ : ∃ n : Int, I64 n ∧ v4 = .int .i64 n := by
    obtain ⟨n, e⟩ := okWide_int Try.underlying3 (hval 4 3 v4 rfl rfl)
    have k := read_leafs enc Try.prog W (d := 4) (ks := [.int .i64]) (by kernel_rfl) h4
    obtain ⟨a, cs, e0, w, k⟩ := leafs_int enc _ W k
    obtain rfl := leafs_nil enc _ W k
    subst e
    simp [cellsOf] at e0
    exact ⟨n, e0 ▸ w, rfl⟩
  clear hA0 hval0
  refine (law_calls (FnF.all fun F => law13_Tells (e := c0.1) (a := c0.2.1) (k := c0.2.2) (m := c1) (w := c2) (cores := c3) (most := c4) hc0.1 hc0.2.1)).mono fun e W' ⟨he, bel⟩ => ?_
  subst he
  exact ⟨_, rfl, _, _, _, [], _, [], hW', trodAll_mk1 (shut_bool Try.underlying4 _), (trodAll_cons_mk (Below.trod laidOut (by kernel_rfl) (of_decide_eq_true (by kernel_rfl)) h0 bel lt0) (trodAll_cons_mk (Below.trod laidOut (by kernel_rfl) (of_decide_eq_true (by kernel_rfl)) h1 bel lt1) (trodAll_cons_mk (Below.trod laidOut (by kernel_rfl) (of_decide_eq_true (by kernel_rfl)) h2 bel lt2) (trodAll_cons_mk (Below.trod laidOut (by kernel_rfl) (of_decide_eq_true (by kernel_rfl)) h3 bel lt3) (trodAll_cons_mk (Below.trod laidOut (by kernel_rfl) (of_decide_eq_true (by kernel_rfl)) h4 bel lt4) trodAll_mk0))))), rfl, bel.frame _, fun h => by cases h⟩

theorem over : Rows.tableTellsRow.holds Try.pinned (OpenSpec.ofChange Rows.tableTellsSpec) :=
  OpenClaim.holds_of_wide 5 Try.f5 rfl rfl rfl rfl rfl rfl rfl ⟨rfl, rfl, rfl, rfl, rfl⟩ rfl rfl rfl rfl rfl (by kernel_rfl) Try.func5 (by kernel_rfl)
    (of_decide_eq_true (by kernel_rfl)) (by unfold Func.isWrapper; first | (rw [if_pos (by decide +kernel)]; kernel_rfl) | (rw [if_neg (by decide +kernel)]; exact ⟨rfl, rfl⟩))
    (fun os started H enc _ => lifted os started H enc)

theorem proved : Rows.TableTellsSaid := over
#print axioms proved
end Go.Proofs.Ytcjagmphobdbbaa.tableTells
