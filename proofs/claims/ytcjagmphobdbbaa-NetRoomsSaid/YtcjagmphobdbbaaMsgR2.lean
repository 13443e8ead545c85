/- The document's May. My own work. -/
import Derived.Test.YtcjagmphobdbbaaMsgRa
import Derived.Test.YtcjagmphobdbbaaMsgRb
import Derived.Test.YtcjagmphobdbbaaMsgRc
import Derived.Test.YtcjagmphobdbbaaMsgRd
namespace Go.Sx
open Go Go.Proofs
set_option linter.unusedVariables false
set_option linter.unusedSectionVars false
set_option linter.unusedSimpArgs false
set_option maxRecDepth 100000
set_option maxHeartbeats 4000000
attribute [local irreducible] Go.Exit.then Go.Exit.inBlock Go.Code.wp WC WO WE WQ V LoopQ FnQ Sat Star band bor IntKind.wrap WR Code.rounds WT KO
theorem ref05_May {F : List HP} {c : Cfg} {m : Msg} (hc : c.wf) : FnF Try.prog 31 [c.val, mv m] [] F (fun r L' => r = .bool (decide (MayP c m)) ∧ L' = []) := by
  have hC := fun F => ref01_Check (F := F) hc
  by_cases he : checkB c = true
  · simp only [checkE, he, if_true] at hC
    by_cases hk : 1 ≤ m.kind ∧ m.kind ≤ 11
    · by_cases hl : 0 ≤ m.line ∧ m.line < c.lines
      · by_cases g1 : m.kind = 1 ∨ m.kind = 2 ∨ m.kind = 3
        · exact ref05_May_a hc he hl g1
        · by_cases g2 : m.kind = 4 ∨ m.kind = 5 ∨ m.kind = 6
          · exact ref05_May_b hc he hl g2
          · by_cases g3 : m.kind = 7
            · exact ref05_May_c hc he hl g3
            · exact ref05_May_d hc he hl (by omega)
      · have hno : ¬ MayP c m := fun h => hl h.2.2.1
        refine FnF.mk' Try.func31 rfl rfl Try.ntmps31 rfl ?_
        repeat' (first | rintro _ _ ⟨rfl, rfl⟩ | rintro _ _ ⟨_, rfl, rfl⟩ | rintro _ _ ⟨_, _, rfl, rfl⟩ | intro _ | refine go ?_ | (refine is_draw ?_; refine WC_draw mixed (by kernel_rfl) ?_) | refine cal @hC ?_ | refine spl ?_ ?_ | fail)
        all_goals first | omega | (apply WE_ret rfl rfl (by (repeat (first | exact ResOk.nil | (apply ResOk.tmp; rfl) | (apply resOk_cell; rfl; exact inferInstance; rfl; rfl)))); (first | exact ⟨rfl, rfl⟩ | exact ⟨congrArg Value.bool (by decide), rfl⟩ | exact ⟨_, rfl, rfl⟩ | exact ⟨_, _, rfl, rfl⟩ | exact ⟨by first | (simp [hno]; done) | (simp [hno] <;> omega), rfl⟩); (repeat (first | exact Ent.refl | exact Ent.nil | apply Ent.pick | apply Ent.drop)))
    · have hno : ¬ MayP c m := fun h => hk h.2.1
      refine FnF.mk' Try.func31 rfl rfl Try.ntmps31 rfl ?_
      repeat' (first | rintro _ _ ⟨rfl, rfl⟩ | rintro _ _ ⟨_, rfl, rfl⟩ | rintro _ _ ⟨_, _, rfl, rfl⟩ | intro _ | refine go ?_ | (refine is_draw ?_; refine WC_draw mixed (by kernel_rfl) ?_) | refine cal @hC ?_ | refine spl ?_ ?_ | fail)
      all_goals first | omega | (apply WE_ret rfl rfl (by (repeat (first | exact ResOk.nil | (apply ResOk.tmp; rfl) | (apply resOk_cell; rfl; exact inferInstance; rfl; rfl)))); (first | exact ⟨rfl, rfl⟩ | exact ⟨congrArg Value.bool (by decide), rfl⟩ | exact ⟨_, rfl, rfl⟩ | exact ⟨_, _, rfl, rfl⟩ | exact ⟨by first | (simp [hno]; done) | (simp [hno] <;> omega), rfl⟩); (repeat (first | exact Ent.refl | exact Ent.nil | apply Ent.pick | apply Ent.drop)))
  · simp only [checkE, if_neg he] at hC
    have hno : ¬ MayP c m := fun h => he h.1
    refine FnF.mk' Try.func31 rfl rfl Try.ntmps31 rfl ?_
    repeat (first | rintro _ _ ⟨rfl, rfl⟩ | rintro _ _ ⟨_, rfl, rfl⟩ | rintro _ _ ⟨_, _, rfl, rfl⟩ | intro _ | refine go ?_ | (refine is_draw ?_; refine WC_draw mixed (by kernel_rfl) ?_) | refine cal @hC ?_)
    (apply WE_ret rfl rfl (by (repeat (first | exact ResOk.nil | (apply ResOk.tmp; rfl) | (apply resOk_cell; rfl; exact inferInstance; rfl; rfl)))); (first | exact ⟨rfl, rfl⟩ | exact ⟨congrArg Value.bool (by decide), rfl⟩ | exact ⟨_, rfl, rfl⟩ | exact ⟨_, _, rfl, rfl⟩ | exact ⟨by first | (simp [hno]; done) | (simp [hno] <;> omega), rfl⟩); (repeat (first | exact Ent.refl | exact Ent.nil | apply Ent.pick | apply Ent.drop)))
end Go.Sx
