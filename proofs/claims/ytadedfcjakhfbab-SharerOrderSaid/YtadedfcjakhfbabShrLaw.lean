/- The laws of sharers. My own work. -/
import Derived.Test.YtadedfcjakhfbabShrR
namespace Go.Sx
open Go Go.Proofs
set_option linter.unusedVariables false
set_option linter.unusedSectionVars false
set_option linter.unusedSimpArgs false
instance : MapT Try.prog 57 blv false := ⟨_, _, _, _, _, Try.underlying57, Try.underlying3, TZ.pf⟩
set_option maxRecDepth 100000
set_option maxHeartbeats 4000000
attribute [local irreducible] Go.Exit.then Go.Exit.inBlock Go.Code.wp WC WO WE WQ V LoopQ FnQ Sat Star band bor IntKind.wrap WR Code.rounds WT KO
theorem law08_awake {F : List HP} : FnF Try.prog 28 [] [] F (fun r L' => r = .bool true ∧ L' = []) := by
  have hN := fun F => shr_New (F := F) (cores := 4) (most := 2)
  have hN0 := fun F => shr_New (F := F) (cores := 0) (most := 2)
  simp only [show shMay ⟨4, 2, [], false⟩ = true by decide, if_true] at hN
  simp only [show shMay ⟨0, 2, [], false⟩ = false by decide, Bool.false_eq_true, if_false] at hN0
  have hA1 := fun F a k => shr_Add (F := F) (s := ⟨4, 2, [], false⟩) (a := a) (k := k) (x := 3)
  have hA2 := fun F a k => shr_Add (F := F) (s := ⟨4, 2, [3], false⟩) (a := a) (k := k) (x := 1)
  have hA3 := fun F a k => shr_Add (F := F) (s := ⟨4, 2, [1, 3], false⟩) (a := a) (k := k) (x := 0)
  have hA4 := fun F a k => shr_Add (F := F) (s := ⟨4, 2, [], false⟩) (a := a) (k := k) (x := 4)
  simp only [show shAddS ⟨4, 2, [], false⟩ 3 = ⟨4, 2, [3], false⟩ by decide, show shAddE ⟨4, 2, [], false⟩ 3 = 0 by decide] at hA1
  simp only [show shAddS ⟨4, 2, [3], false⟩ 1 = ⟨4, 2, [1, 3], false⟩ by decide, show shAddE ⟨4, 2, [3], false⟩ 1 = 0 by decide] at hA2
  simp only [show shAddS ⟨4, 2, [1, 3], false⟩ 0 = ⟨4, 2, [], true⟩ by decide, show shAddE ⟨4, 2, [1, 3], false⟩ 0 = 0 by decide] at hA3
  simp only [show shAddS ⟨4, 2, [], false⟩ 4 = .no by decide, show shAddE ⟨4, 2, [], false⟩ 4 = 5 by decide] at hA4
  have hA1' := fun F => hA1 F none 0 rd_empty (by decide)
  have hA4' := fun F => hA4 F none 0 rd_empty (by decide)
  have hM1 := fun F a k => shr_May (F := F) (s := ⟨4, 2, [1, 3], false⟩) (a := a) (k := k)
  simp only [show shMay ⟨4, 2, [1, 3], false⟩ = true by decide] at hM1
  have hM2 := fun F => shr_May (F := F) (s := .no) (a := none) (k := 0) rd_empty (by decide)
  simp only [show shMay .no = false by decide] at hM2
  have hS1 := fun F v u (k1 : RdL F 1 v ([1, 3] : List Int).length (flat ic [1, 3])) (k2 : RdL F 1 u 2 [.int .i64 1, .int .i64 3]) => @ref02_Same F v u [1, 3] [1, 3] k1 k2 (by decide)
  have hS2 := fun F v u (k1 : RdL F 1 v ([0, 2] : List Int).length (flat ic [0, 2])) (k2 : RdL F 1 u 2 [.int .i64 0, .int .i64 2]) => @ref02_Same F v u [0, 2] [0, 2] k1 k2 (by decide)
  simp only [decide_true] at hS1 hS2
  have hH1 := fun F a k hk => shr_Has (F := F) (s := ⟨4, 2, [1, 3], false⟩) (a := a) (k := k) (c := 3) hk (by decide)
  have hH2 := fun F a k hk => shr_Has (F := F) (s := ⟨4, 2, [1, 3], false⟩) (a := a) (k := k) (c := 0) hk (by decide)
  have hH3 := fun F a k hk => shr_Has (F := F) (s := ⟨4, 2, [], true⟩) (a := a) (k := k) (c := 2) hk (by decide)
  simp only [show shHas ⟨4, 2, [1, 3], false⟩ 3 = true by decide] at hH1
  simp only [show shHas ⟨4, 2, [1, 3], false⟩ 0 = false by decide] at hH2
  simp only [show shHas ⟨4, 2, [], true⟩ 2 = true by decide] at hH3
  have hT := fun F a k u hk (k2 : RdL F 1 u 2 [.int .i64 1, .int .i64 3]) => @shr_Targets F ⟨4, 2, [], true⟩ a k u [1, 3] hk (by decide) k2 (by decide)
  simp only [show shTgt ⟨4, 2, [], true⟩ [1, 3] (Int.toNat 4) = [0, 2] by decide] at hT
  have hC := fun F a k => shr_Clear (F := F) (s := ⟨4, 2, [], true⟩) (a := a) (k := k)
  refine FnF.mk' Try.func28 rfl rfl Try.ntmps28 rfl ?_
  repeat (first | rintro _ _ ⟨rfl, rfl⟩ | rintro _ _ ⟨_, rfl, rfl⟩ | rintro _ _ ⟨_, _, rfl, rfl⟩ | intro _ | refine go ?_ | (refine is_draw ?_; refine WC_draw mixed (by kernel_rfl) ?_) | refine cal @hN ?_ | refine cal @hN0 ?_ | refine cal @hA1' ?_ | refine cal @hA2 ?_ | refine cal @hA3 ?_ | refine cal @hA4' ?_ | refine cal @hM1 ?_ | refine cal @hM2 ?_ | refine cal @hS1 ?_ | refine cal @hS2 ?_ | refine cal @hH1 ?_ | refine cal @hH2 ?_ | refine cal @hH3 ?_ | refine cal @hT ?_ | refine cal @hC ?_)
  (apply WE_ret rfl rfl (by (repeat (first | exact ResOk.nil | (apply ResOk.tmp; rfl) | (apply resOk_cell; rfl; exact inferInstance; rfl; rfl)))); (first | exact ⟨rfl, rfl⟩ | exact ⟨congrArg Value.bool (by decide), rfl⟩ | exact ⟨_, rfl, rfl⟩ | exact ⟨_, _, rfl, rfl⟩ | exact ⟨by first | (simp []; done) | (simp [] <;> omega), rfl⟩); (repeat (first | exact Ent.refl | exact Ent.nil | apply Ent.pick | apply Ent.drop)))
end Go.Sx
