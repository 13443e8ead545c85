/- What the document's bag does. My own work. -/
import Derived.Test.YtcjagmphobdbbaaBag
namespace Go.Sx
open Go Go.Proofs
set_option linter.unusedVariables false
set_option linter.unusedSectionVars false
set_option maxRecDepth 100000
set_option maxHeartbeats 4000000
attribute [local irreducible] Go.Exit.then Go.Exit.inBlock Go.Code.wp WC WO WE WQ V LoopQ FnQ Sat Star band bor IntKind.wrap WR Code.rounds WT KO

theorem take_erase {α : Type} (l : List α) (n i : Nat) (hi : i < l.length) : (l.take (i + 1)).eraseIdx n = if i = n then (l.take i).eraseIdx n else (l.take i).eraseIdx n ++ [l[i]] := by
  have hti : (l.take i).length = i := by rw [List.length_take]; omega
  rw [List.take_add_one]
  simp only [hi, List.getElem?_eq_getElem, Option.toList_some]
  split
  · rename_i h; subst h
    rw [List.eraseIdx_append_of_length_le (by omega), hti, List.eraseIdx_of_length_le (l := l.take i) (k := i) (by omega)]
    simp
  · rename_i h
    by_cases h1 : n < i
    · rw [List.eraseIdx_append_of_lt_length (by omega)]
    · rw [List.eraseIdx_of_length_le (by simp; omega), List.eraseIdx_of_length_le (by omega)]
theorem erase_len {α : Type} (l : List α) (i : Nat) : (l.eraseIdx i).length ≤ l.length := List.length_eraseIdx_le _ _

theorem ref02_Same {F : List HP} {v u : Value} {l m : List Int} (k1 : RdL F 1 v l.length (flat ic l)) (k2 : RdL F 1 u m.length (flat ic m)) (hn : l.length ≤ 1099511627776) : FnF Try.prog 53 [v, u] [] F (fun r L' => r = .bool (decide (l = m)) ∧ L' = []) := by
  refine FnF.mk' Try.func53 rfl rfl Try.ntmps53 rfl ?_
  by_cases e : l.length = m.length
  · repeat (first | rintro _ _ ⟨rfl, rfl⟩ | rintro _ _ ⟨_, rfl, rfl⟩ | rintro _ _ ⟨_, _, rfl, rfl⟩ | intro _ | refine go ?_ | (refine is_draw ?_; refine WC_draw mixed (by kernel_rfl) ?_))
    apply WC_loopE (E0 := [(0, _), (1, _)]) (fun E0 (i : Nat) => (5, .int .i64 i) :: E0) (fun _ => F) (fun i => i ≤ l.length ∧ l.take i = m.take i) (fun i => l.length - i) 0
    · (repeat (first | exact Sub.nil | (refine Sub.cons (by first | rfl | (simp only [Nat.zero_add]; rfl)) ?_)))
    · exact ⟨by omega, rfl⟩
    · exact Ent.refl
    · rintro i ⟨hi, h1⟩
      by_cases hlt : i < l.length
      · have hlt' : i < m.length := by omega
        by_cases he : l[i] = m[i]
        · repeat (first | rintro _ _ ⟨rfl, rfl⟩ | rintro _ _ ⟨_, rfl, rfl⟩ | rintro _ _ ⟨_, _, rfl, rfl⟩ | intro _ | refine go ?_ | (refine is_draw ?_; refine WC_draw mixed (by kernel_rfl) ?_))
          refine WE_loop (i + 1) (by omega) ⟨by omega, ?_⟩ ?_ Ent.refl
          · rw [List.take_add_one, List.take_add_one, h1]; simp [hlt, hlt', he]
          · (repeat (first | exact Sub.nil | (refine Sub.cons (by first | rfl | (simp only [Nat.zero_add]; rfl)) ?_)))
        · repeat (first | rintro _ _ ⟨rfl, rfl⟩ | rintro _ _ ⟨_, rfl, rfl⟩ | rintro _ _ ⟨_, _, rfl, rfl⟩ | intro _ | refine go ?_ | (refine is_draw ?_; refine WC_draw mixed (by kernel_rfl) ?_))
          have hne : l ≠ m := fun e => by subst e; exact he rfl
          (apply WE_ret rfl rfl (by (repeat (first | exact ResOk.nil | (apply ResOk.tmp; rfl) | (apply resOk_cell; rfl; exact inferInstance; rfl; rfl)))); (first | exact ⟨rfl, rfl⟩ | exact ⟨congrArg Value.bool (by decide), rfl⟩ | exact ⟨_, rfl, rfl⟩ | exact ⟨_, _, rfl, rfl⟩ | exact ⟨by first | (simp [hne]; done) | (simp [hne] <;> omega), rfl⟩); (repeat (first | exact Ent.refl | exact Ent.nil | apply Ent.pick | apply Ent.drop)))
      · have hil : i = l.length := by omega
        subst hil
        have : l = m := by rw [List.take_length, e, List.take_length] at h1; exact h1
        repeat (first | rintro _ _ ⟨rfl, rfl⟩ | rintro _ _ ⟨_, rfl, rfl⟩ | rintro _ _ ⟨_, _, rfl, rfl⟩ | intro _ | refine go ?_ | (refine is_draw ?_; refine WC_draw mixed (by kernel_rfl) ?_))
        (apply WE_ret rfl rfl (by (repeat (first | exact ResOk.nil | (apply ResOk.tmp; rfl) | (apply resOk_cell; rfl; exact inferInstance; rfl; rfl)))); (first | exact ⟨rfl, rfl⟩ | exact ⟨congrArg Value.bool (by decide), rfl⟩ | exact ⟨_, rfl, rfl⟩ | exact ⟨_, _, rfl, rfl⟩ | exact ⟨by first | (simp [this]; done) | (simp [this] <;> omega), rfl⟩); (repeat (first | exact Ent.refl | exact Ent.nil | apply Ent.pick | apply Ent.drop)))
  · have hne : l ≠ m := fun h => e (by rw [h])
    repeat (first | rintro _ _ ⟨rfl, rfl⟩ | rintro _ _ ⟨_, rfl, rfl⟩ | rintro _ _ ⟨_, _, rfl, rfl⟩ | intro _ | refine go ?_ | (refine is_draw ?_; refine WC_draw mixed (by kernel_rfl) ?_))
    (apply WE_ret rfl rfl (by (repeat (first | exact ResOk.nil | (apply ResOk.tmp; rfl) | (apply resOk_cell; rfl; exact inferInstance; rfl; rfl)))); (first | exact ⟨rfl, rfl⟩ | exact ⟨congrArg Value.bool (by decide), rfl⟩ | exact ⟨_, rfl, rfl⟩ | exact ⟨_, _, rfl, rfl⟩ | exact ⟨by first | (simp [hne]; done) | (simp [hne] <;> omega), rfl⟩); (repeat (first | exact Ent.refl | exact Ent.nil | apply Ent.pick | apply Ent.drop)))

end Go.Sx
