/- Lists of messages, held against one another. My own work. -/
import Derived.Test.YtcjagmphobdbbaaSlT
namespace Go.Sx
open Go Go.Proofs
set_option linter.unusedVariables false
set_option linter.unusedSectionVars false
set_option linter.unusedSimpArgs false
theorem mc_inj {a b : Msg} (h : mc a = mc b) : a = b := by
  obtain ⟨a1, a2, a3, a4, a5, a6, a7, ⟨x0, x1, x2, x3, x4, x5, x6, x7⟩⟩ := a
  obtain ⟨b1, b2, b3, b4, b5, b6, b7, ⟨y0, y1, y2, y3, y4, y5, y6, y7⟩⟩ := b
  simp only [mc, List.cons.injEq, Value.int.injEq, true_and, and_true] at h
  obtain ⟨rfl, rfl, rfl, rfl, rfl, rfl, rfl, rfl, rfl, rfl, rfl, rfl, rfl, rfl, rfl⟩ := h
  rfl
set_option maxRecDepth 100000
set_option maxHeartbeats 4000000
attribute [local irreducible] Go.Exit.then Go.Exit.inBlock Go.Code.wp WC WO WE WQ V LoopQ FnQ Sat Star band bor IntKind.wrap WR Code.rounds WT KO
theorem ref07_Same {F : List HP} {v u : Value} {l m : List Msg} (k1 : RdL F 15 v l.length (flat mc l)) (k2 : RdL F 15 u m.length (flat mc m)) (hn : l.length ≤ 1099511627776) : FnF Try.prog 24 [v, u] [] F (fun r L' => r = .bool (decide (l = m)) ∧ L' = []) := by
  refine FnF.mk' Try.func24 rfl rfl Try.ntmps24 rfl ?_
  by_cases e : l.length = m.length
  · repeat (first | rintro _ _ ⟨rfl, rfl⟩ | rintro _ _ ⟨_, rfl, rfl⟩ | rintro _ _ ⟨_, _, rfl, rfl⟩ | intro _ | refine go ?_ | (refine is_draw ?_; refine WC_draw mixed (by kernel_rfl) ?_))
    apply WC_loopE (E0 := [(0, _), (1, _)]) (fun E0 (i : Nat) => (5, .int .i64 i) :: E0) (fun _ => F) (fun i => i ≤ l.length ∧ l.take i = m.take i) (fun i => l.length - i) 0
    · (repeat (first | exact Sub.nil | (refine Sub.cons (by first | rfl | (simp only [Nat.zero_add]; rfl)) ?_)))
    · exact ⟨by omega, rfl⟩
    · exact Ent.refl
    · rintro i ⟨hi, h1⟩
      by_cases hlt : i < l.length
      · have hlt' : i < m.length := by omega
        by_cases he : l[i] = m[i]
        · have he' : ¬ (mc l[i] ≠ mc m[i]) := fun h => h (by rw [he])
          repeat (first | rintro _ _ ⟨rfl, rfl⟩ | rintro _ _ ⟨_, rfl, rfl⟩ | rintro _ _ ⟨_, _, rfl, rfl⟩ | intro _ | refine go ?_ | (refine is_draw ?_; refine WC_draw mixed (by kernel_rfl) ?_))
          refine WE_loop (i + 1) (by omega) ⟨by omega, ?_⟩ ?_ Ent.refl
          · rw [List.take_add_one, List.take_add_one, h1]; simp [hlt, hlt', he]
          · (repeat (first | exact Sub.nil | (refine Sub.cons (by first | rfl | (simp only [Nat.zero_add]; rfl)) ?_)))
        · have he' : mc l[i] ≠ mc m[i] := fun h => he (mc_inj h)
          repeat (first | rintro _ _ ⟨rfl, rfl⟩ | rintro _ _ ⟨_, rfl, rfl⟩ | rintro _ _ ⟨_, _, rfl, rfl⟩ | intro _ | refine go ?_ | (refine is_draw ?_; refine WC_draw mixed (by kernel_rfl) ?_))
          have hne : l ≠ m := fun e => by subst e; exact he rfl
          (apply WE_ret rfl rfl (by (repeat (first | exact ResOk.nil | (apply ResOk.tmp; rfl) | (apply resOk_cell; rfl; exact inferInstance; rfl; rfl)))); (first | exact ⟨rfl, rfl⟩ | exact ⟨congrArg Value.bool (by decide), rfl⟩ | exact ⟨_, rfl, rfl⟩ | exact ⟨_, _, rfl, rfl⟩ | exact ⟨by first | (simp [hne]; done) | (simp [hne] <;> omega), rfl⟩); (repeat (first | exact Ent.refl | exact Ent.nil | apply Ent.pick | apply Ent.drop)))
      · have hil : i = l.length := by omega
        subst hil
        have : l = m := by rw [List.take_length, e, List.take_length] at h1; exact h1
        repeat (first | rintro _ _ ⟨rfl, rfl⟩ | rintro _ _ ⟨_, rfl, rfl⟩ | rintro _ _ ⟨_, _, rfl, rfl⟩ | intro _ | refine go ?_ | (refine is_draw ?_; refine WC_draw mixed (by kernel_rfl) ?_))
        (apply WE_ret rfl rfl (by (repeat (first | exact ResOk.nil | (apply ResOk.tmp; rfl) | (apply resOk_cell; rfl; exact inferInstance; rfl; rfl)))); (first | exact ⟨rfl, rfl⟩ | exact ⟨congrArg Value.bool (by decide), rfl⟩ | exact ⟨_, rfl, rfl⟩ | exact ⟨_, _, rfl, rfl⟩ | exact ⟨by first | (simp [this]; done) | (simp [this] <;> omega), rfl⟩); (repeat (first | exact Ent.refl | exact Ent.nil | apply Ent.pick | apply Ent.drop)))
  · have hne : l ≠ m := fun h => e (by rw [h])
    repeat (first | rintro _ _ ⟨rfl, rfl⟩ | rintro _ _ ⟨_, rfl, rfl⟩ | rintro _ _ ⟨_, _, rfl, rfl⟩ | intro _ | refine go ?_ | (refine is_draw ?_; refine WC_draw mixed (by kernel_rfl) ?_))
    (apply WE_ret rfl rfl (by (repeat (first | exact ResOk.nil | (apply ResOk.tmp; rfl) | (apply resOk_cell; rfl; exact inferInstance; rfl; rfl)))); (first | exact ⟨rfl, rfl⟩ | exact ⟨congrArg Value.bool (by decide), rfl⟩ | exact ⟨_, rfl, rfl⟩ | exact ⟨_, _, rfl, rfl⟩ | exact ⟨by first | (simp [hne]; done) | (simp [hne] <;> omega), rfl⟩); (repeat (first | exact Ent.refl | exact Ent.nil | apply Ent.pick | apply Ent.drop)))
end Go.Sx
