/- Messages, second part: words, forms, May. My own work. -/
import Derived.Test.YtcjagmphobdbbaaMsg
namespace Go.Sx
open Go Go.Proofs
set_option linter.unusedVariables false
set_option linter.unusedSectionVars false
set_option linter.unusedSimpArgs false
set_option maxRecDepth 100000
set_option maxHeartbeats 4000000
attribute [local irreducible] Go.Exit.then Go.Exit.inBlock Go.Code.wp WC WO WE WQ V LoopQ FnQ Sat Star band bor IntKind.wrap WR Code.rounds WT KO
theorem msg_values {F : List HP} {c : Cfg} {m : Msg} : FnF Try.prog 212 [c.val, mv m] [] F (fun r L' => r = .bool (decide (ValsP c m.words)) ∧ L' = []) := by
  refine FnF.mk' Try.func212 rfl rfl Try.ntmps212 rfl ?_
  repeat (first | rintro _ _ ⟨rfl, rfl⟩ | rintro _ _ ⟨_, rfl, rfl⟩ | rintro _ _ ⟨_, _, rfl, rfl⟩ | intro _ | refine go ?_ | (refine is_draw ?_; refine WC_draw mixed (by kernel_rfl) ?_))
  rename_i bs bm
  apply WC_loopE (E0 := [(2, _), (8, _)]) (fun E0 (i : Nat) => (9, .int .i64 i) :: E0) (fun _ => Cells bm 37 (mc m) :: Cells bs 24 c.cells :: F) (fun i => i ≤ 8 ∧ ∀ j, j < i → OkAt c m.words j) (fun i => 8 - i) 0
  · (repeat (first | exact Sub.nil | (refine Sub.cons (by first | rfl | (simp only [Nat.zero_add]; rfl)) ?_)))
  · exact ⟨by omega, fun j hj => by omega⟩
  · (repeat (first | (with_reducible exact Ent.refl) | exact Ent.nil | (apply ent_pickE; (focus ((repeat (first | (with_reducible exact pk_here) | (apply pk_there))); done))) | apply Ent.drop))
  · rintro i ⟨hi, hok⟩
    by_cases hlt : i < 8
    · have hcase : i = 0 ∨ i = 1 ∨ i = 2 ∨ i = 3 ∨ i = 4 ∨ i = 5 ∨ i = 6 ∨ i = 7 := by omega
      rcases hcase with rfl | rfl | rfl | rfl | rfl | rfl | rfl | rfl
      · have ho : OkAt c m.words 0 ↔ (-2147483648 ≤ m.words.w0 ∧ m.words.w0 ≤ 2147483647 ∧ (c.words ≤ 0 → m.words.w0 = 0)) := Iff.rfl
        have hn : ¬ OkAt c m.words 0 → ¬ ValsP c m.words := fun h hv => h (hv 0 (by omega))
        repeat' (first | rintro _ _ ⟨rfl, rfl⟩ | rintro _ _ ⟨_, rfl, rfl⟩ | rintro _ _ ⟨_, _, rfl, rfl⟩ | intro _ | refine go ?_ | (refine is_draw ?_; refine WC_draw mixed (by kernel_rfl) ?_) | refine spl ?_ ?_ | fail)
        all_goals first
        | (have hno := hn (fun h => by have := ho.1 h; omega)
           (apply WE_ret rfl rfl (by (repeat (first | exact ResOk.nil | (apply ResOk.tmp; rfl) | (apply resOk_cell; rfl; exact inferInstance; rfl; rfl)))); (first | exact ⟨rfl, rfl⟩ | exact ⟨congrArg Value.bool (by decide), rfl⟩ | exact ⟨_, rfl, rfl⟩ | exact ⟨_, _, rfl, rfl⟩ | exact ⟨by first | (simp [hno]; done) | (simp [hno] <;> omega), rfl⟩); (repeat (first | exact Ent.refl | exact Ent.nil | apply Ent.pick | apply Ent.drop))))
        | (have hyes := ho.2 (by omega)
           refine WE_loop 1 (by omega) ⟨by omega, fun j hj => ?_⟩ ?_ ?_
           · by_cases hjl : j = 0
             · subst hjl; exact hyes
             · exact hok j (by omega)
           · (repeat (first | exact Sub.nil | (refine Sub.cons (by first | rfl | (simp only [Nat.zero_add]; rfl)) ?_)))
           · (repeat (first | (with_reducible exact Ent.refl) | exact Ent.nil | (apply ent_pickE; (focus ((repeat (first | (with_reducible exact pk_here) | (apply pk_there))); done))) | apply Ent.drop)))
      · have ho : OkAt c m.words 1 ↔ (-2147483648 ≤ m.words.w1 ∧ m.words.w1 ≤ 2147483647 ∧ (c.words ≤ 1 → m.words.w1 = 0)) := Iff.rfl
        have hn : ¬ OkAt c m.words 1 → ¬ ValsP c m.words := fun h hv => h (hv 1 (by omega))
        repeat' (first | rintro _ _ ⟨rfl, rfl⟩ | rintro _ _ ⟨_, rfl, rfl⟩ | rintro _ _ ⟨_, _, rfl, rfl⟩ | intro _ | refine go ?_ | (refine is_draw ?_; refine WC_draw mixed (by kernel_rfl) ?_) | refine spl ?_ ?_ | fail)
        all_goals first
        | (have hno := hn (fun h => by have := ho.1 h; omega)
           (apply WE_ret rfl rfl (by (repeat (first | exact ResOk.nil | (apply ResOk.tmp; rfl) | (apply resOk_cell; rfl; exact inferInstance; rfl; rfl)))); (first | exact ⟨rfl, rfl⟩ | exact ⟨congrArg Value.bool (by decide), rfl⟩ | exact ⟨_, rfl, rfl⟩ | exact ⟨_, _, rfl, rfl⟩ | exact ⟨by first | (simp [hno]; done) | (simp [hno] <;> omega), rfl⟩); (repeat (first | exact Ent.refl | exact Ent.nil | apply Ent.pick | apply Ent.drop))))
        | (have hyes := ho.2 (by omega)
           refine WE_loop 2 (by omega) ⟨by omega, fun j hj => ?_⟩ ?_ ?_
           · by_cases hjl : j = 1
             · subst hjl; exact hyes
             · exact hok j (by omega)
           · (repeat (first | exact Sub.nil | (refine Sub.cons (by first | rfl | (simp only [Nat.zero_add]; rfl)) ?_)))
           · (repeat (first | (with_reducible exact Ent.refl) | exact Ent.nil | (apply ent_pickE; (focus ((repeat (first | (with_reducible exact pk_here) | (apply pk_there))); done))) | apply Ent.drop)))
      · have ho : OkAt c m.words 2 ↔ (-2147483648 ≤ m.words.w2 ∧ m.words.w2 ≤ 2147483647 ∧ (c.words ≤ 2 → m.words.w2 = 0)) := Iff.rfl
        have hn : ¬ OkAt c m.words 2 → ¬ ValsP c m.words := fun h hv => h (hv 2 (by omega))
        repeat' (first | rintro _ _ ⟨rfl, rfl⟩ | rintro _ _ ⟨_, rfl, rfl⟩ | rintro _ _ ⟨_, _, rfl, rfl⟩ | intro _ | refine go ?_ | (refine is_draw ?_; refine WC_draw mixed (by kernel_rfl) ?_) | refine spl ?_ ?_ | fail)
        all_goals first
        | (have hno := hn (fun h => by have := ho.1 h; omega)
           (apply WE_ret rfl rfl (by (repeat (first | exact ResOk.nil | (apply ResOk.tmp; rfl) | (apply resOk_cell; rfl; exact inferInstance; rfl; rfl)))); (first | exact ⟨rfl, rfl⟩ | exact ⟨congrArg Value.bool (by decide), rfl⟩ | exact ⟨_, rfl, rfl⟩ | exact ⟨_, _, rfl, rfl⟩ | exact ⟨by first | (simp [hno]; done) | (simp [hno] <;> omega), rfl⟩); (repeat (first | exact Ent.refl | exact Ent.nil | apply Ent.pick | apply Ent.drop))))
        | (have hyes := ho.2 (by omega)
           refine WE_loop 3 (by omega) ⟨by omega, fun j hj => ?_⟩ ?_ ?_
           · by_cases hjl : j = 2
             · subst hjl; exact hyes
             · exact hok j (by omega)
           · (repeat (first | exact Sub.nil | (refine Sub.cons (by first | rfl | (simp only [Nat.zero_add]; rfl)) ?_)))
           · (repeat (first | (with_reducible exact Ent.refl) | exact Ent.nil | (apply ent_pickE; (focus ((repeat (first | (with_reducible exact pk_here) | (apply pk_there))); done))) | apply Ent.drop)))
      · have ho : OkAt c m.words 3 ↔ (-2147483648 ≤ m.words.w3 ∧ m.words.w3 ≤ 2147483647 ∧ (c.words ≤ 3 → m.words.w3 = 0)) := Iff.rfl
        have hn : ¬ OkAt c m.words 3 → ¬ ValsP c m.words := fun h hv => h (hv 3 (by omega))
        repeat' (first | rintro _ _ ⟨rfl, rfl⟩ | rintro _ _ ⟨_, rfl, rfl⟩ | rintro _ _ ⟨_, _, rfl, rfl⟩ | intro _ | refine go ?_ | (refine is_draw ?_; refine WC_draw mixed (by kernel_rfl) ?_) | refine spl ?_ ?_ | fail)
        all_goals first
        | (have hno := hn (fun h => by have := ho.1 h; omega)
           (apply WE_ret rfl rfl (by (repeat (first | exact ResOk.nil | (apply ResOk.tmp; rfl) | (apply resOk_cell; rfl; exact inferInstance; rfl; rfl)))); (first | exact ⟨rfl, rfl⟩ | exact ⟨congrArg Value.bool (by decide), rfl⟩ | exact ⟨_, rfl, rfl⟩ | exact ⟨_, _, rfl, rfl⟩ | exact ⟨by first | (simp [hno]; done) | (simp [hno] <;> omega), rfl⟩); (repeat (first | exact Ent.refl | exact Ent.nil | apply Ent.pick | apply Ent.drop))))
        | (have hyes := ho.2 (by omega)
           refine WE_loop 4 (by omega) ⟨by omega, fun j hj => ?_⟩ ?_ ?_
           · by_cases hjl : j = 3
             · subst hjl; exact hyes
             · exact hok j (by omega)
           · (repeat (first | exact Sub.nil | (refine Sub.cons (by first | rfl | (simp only [Nat.zero_add]; rfl)) ?_)))
           · (repeat (first | (with_reducible exact Ent.refl) | exact Ent.nil | (apply ent_pickE; (focus ((repeat (first | (with_reducible exact pk_here) | (apply pk_there))); done))) | apply Ent.drop)))
      · have ho : OkAt c m.words 4 ↔ (-2147483648 ≤ m.words.w4 ∧ m.words.w4 ≤ 2147483647 ∧ (c.words ≤ 4 → m.words.w4 = 0)) := Iff.rfl
        have hn : ¬ OkAt c m.words 4 → ¬ ValsP c m.words := fun h hv => h (hv 4 (by omega))
        repeat' (first | rintro _ _ ⟨rfl, rfl⟩ | rintro _ _ ⟨_, rfl, rfl⟩ | rintro _ _ ⟨_, _, rfl, rfl⟩ | intro _ | refine go ?_ | (refine is_draw ?_; refine WC_draw mixed (by kernel_rfl) ?_) | refine spl ?_ ?_ | fail)
        all_goals first
        | (have hno := hn (fun h => by have := ho.1 h; omega)
           (apply WE_ret rfl rfl (by (repeat (first | exact ResOk.nil | (apply ResOk.tmp; rfl) | (apply resOk_cell; rfl; exact inferInstance; rfl; rfl)))); (first | exact ⟨rfl, rfl⟩ | exact ⟨congrArg Value.bool (by decide), rfl⟩ | exact ⟨_, rfl, rfl⟩ | exact ⟨_, _, rfl, rfl⟩ | exact ⟨by first | (simp [hno]; done) | (simp [hno] <;> omega), rfl⟩); (repeat (first | exact Ent.refl | exact Ent.nil | apply Ent.pick | apply Ent.drop))))
        | (have hyes := ho.2 (by omega)
           refine WE_loop 5 (by omega) ⟨by omega, fun j hj => ?_⟩ ?_ ?_
           · by_cases hjl : j = 4
             · subst hjl; exact hyes
             · exact hok j (by omega)
           · (repeat (first | exact Sub.nil | (refine Sub.cons (by first | rfl | (simp only [Nat.zero_add]; rfl)) ?_)))
           · (repeat (first | (with_reducible exact Ent.refl) | exact Ent.nil | (apply ent_pickE; (focus ((repeat (first | (with_reducible exact pk_here) | (apply pk_there))); done))) | apply Ent.drop)))
      · have ho : OkAt c m.words 5 ↔ (-2147483648 ≤ m.words.w5 ∧ m.words.w5 ≤ 2147483647 ∧ (c.words ≤ 5 → m.words.w5 = 0)) := Iff.rfl
        have hn : ¬ OkAt c m.words 5 → ¬ ValsP c m.words := fun h hv => h (hv 5 (by omega))
        repeat' (first | rintro _ _ ⟨rfl, rfl⟩ | rintro _ _ ⟨_, rfl, rfl⟩ | rintro _ _ ⟨_, _, rfl, rfl⟩ | intro _ | refine go ?_ | (refine is_draw ?_; refine WC_draw mixed (by kernel_rfl) ?_) | refine spl ?_ ?_ | fail)
        all_goals first
        | (have hno := hn (fun h => by have := ho.1 h; omega)
           (apply WE_ret rfl rfl (by (repeat (first | exact ResOk.nil | (apply ResOk.tmp; rfl) | (apply resOk_cell; rfl; exact inferInstance; rfl; rfl)))); (first | exact ⟨rfl, rfl⟩ | exact ⟨congrArg Value.bool (by decide), rfl⟩ | exact ⟨_, rfl, rfl⟩ | exact ⟨_, _, rfl, rfl⟩ | exact ⟨by first | (simp [hno]; done) | (simp [hno] <;> omega), rfl⟩); (repeat (first | exact Ent.refl | exact Ent.nil | apply Ent.pick | apply Ent.drop))))
        | (have hyes := ho.2 (by omega)
           refine WE_loop 6 (by omega) ⟨by omega, fun j hj => ?_⟩ ?_ ?_
           · by_cases hjl : j = 5
             · subst hjl; exact hyes
             · exact hok j (by omega)
           · (repeat (first | exact Sub.nil | (refine Sub.cons (by first | rfl | (simp only [Nat.zero_add]; rfl)) ?_)))
           · (repeat (first | (with_reducible exact Ent.refl) | exact Ent.nil | (apply ent_pickE; (focus ((repeat (first | (with_reducible exact pk_here) | (apply pk_there))); done))) | apply Ent.drop)))
      · have ho : OkAt c m.words 6 ↔ (-2147483648 ≤ m.words.w6 ∧ m.words.w6 ≤ 2147483647 ∧ (c.words ≤ 6 → m.words.w6 = 0)) := Iff.rfl
        have hn : ¬ OkAt c m.words 6 → ¬ ValsP c m.words := fun h hv => h (hv 6 (by omega))
        repeat' (first | rintro _ _ ⟨rfl, rfl⟩ | rintro _ _ ⟨_, rfl, rfl⟩ | rintro _ _ ⟨_, _, rfl, rfl⟩ | intro _ | refine go ?_ | (refine is_draw ?_; refine WC_draw mixed (by kernel_rfl) ?_) | refine spl ?_ ?_ | fail)
        all_goals first
        | (have hno := hn (fun h => by have := ho.1 h; omega)
           (apply WE_ret rfl rfl (by (repeat (first | exact ResOk.nil | (apply ResOk.tmp; rfl) | (apply resOk_cell; rfl; exact inferInstance; rfl; rfl)))); (first | exact ⟨rfl, rfl⟩ | exact ⟨congrArg Value.bool (by decide), rfl⟩ | exact ⟨_, rfl, rfl⟩ | exact ⟨_, _, rfl, rfl⟩ | exact ⟨by first | (simp [hno]; done) | (simp [hno] <;> omega), rfl⟩); (repeat (first | exact Ent.refl | exact Ent.nil | apply Ent.pick | apply Ent.drop))))
        | (have hyes := ho.2 (by omega)
           refine WE_loop 7 (by omega) ⟨by omega, fun j hj => ?_⟩ ?_ ?_
           · by_cases hjl : j = 6
             · subst hjl; exact hyes
             · exact hok j (by omega)
           · (repeat (first | exact Sub.nil | (refine Sub.cons (by first | rfl | (simp only [Nat.zero_add]; rfl)) ?_)))
           · (repeat (first | (with_reducible exact Ent.refl) | exact Ent.nil | (apply ent_pickE; (focus ((repeat (first | (with_reducible exact pk_here) | (apply pk_there))); done))) | apply Ent.drop)))
      · have ho : OkAt c m.words 7 ↔ (-2147483648 ≤ m.words.w7 ∧ m.words.w7 ≤ 2147483647 ∧ (c.words ≤ 7 → m.words.w7 = 0)) := Iff.rfl
        have hn : ¬ OkAt c m.words 7 → ¬ ValsP c m.words := fun h hv => h (hv 7 (by omega))
        repeat' (first | rintro _ _ ⟨rfl, rfl⟩ | rintro _ _ ⟨_, rfl, rfl⟩ | rintro _ _ ⟨_, _, rfl, rfl⟩ | intro _ | refine go ?_ | (refine is_draw ?_; refine WC_draw mixed (by kernel_rfl) ?_) | refine spl ?_ ?_ | fail)
        all_goals first
        | (have hno := hn (fun h => by have := ho.1 h; omega)
           (apply WE_ret rfl rfl (by (repeat (first | exact ResOk.nil | (apply ResOk.tmp; rfl) | (apply resOk_cell; rfl; exact inferInstance; rfl; rfl)))); (first | exact ⟨rfl, rfl⟩ | exact ⟨congrArg Value.bool (by decide), rfl⟩ | exact ⟨_, rfl, rfl⟩ | exact ⟨_, _, rfl, rfl⟩ | exact ⟨by first | (simp [hno]; done) | (simp [hno] <;> omega), rfl⟩); (repeat (first | exact Ent.refl | exact Ent.nil | apply Ent.pick | apply Ent.drop))))
        | (have hyes := ho.2 (by omega)
           refine WE_loop 8 (by omega) ⟨by omega, fun j hj => ?_⟩ ?_ ?_
           · by_cases hjl : j = 7
             · subst hjl; exact hyes
             · exact hok j (by omega)
           · (repeat (first | exact Sub.nil | (refine Sub.cons (by first | rfl | (simp only [Nat.zero_add]; rfl)) ?_)))
           · (repeat (first | (with_reducible exact Ent.refl) | exact Ent.nil | (apply ent_pickE; (focus ((repeat (first | (with_reducible exact pk_here) | (apply pk_there))); done))) | apply Ent.drop)))
    · have hi8 : i = 8 := by omega
      subst hi8
      have hv : ValsP c m.words := hok
      repeat (first | rintro _ _ ⟨rfl, rfl⟩ | rintro _ _ ⟨_, rfl, rfl⟩ | rintro _ _ ⟨_, _, rfl, rfl⟩ | intro _ | refine go ?_ | (refine is_draw ?_; refine WC_draw mixed (by kernel_rfl) ?_))
      (apply WE_ret rfl rfl (by (repeat (first | exact ResOk.nil | (apply ResOk.tmp; rfl) | (apply resOk_cell; rfl; exact inferInstance; rfl; rfl)))); (first | exact ⟨rfl, rfl⟩ | exact ⟨congrArg Value.bool (by decide), rfl⟩ | exact ⟨_, rfl, rfl⟩ | exact ⟨_, _, rfl, rfl⟩ | exact ⟨by first | (simp [hv]; done) | (simp [hv] <;> omega), rfl⟩); (repeat (first | exact Ent.refl | exact Ent.nil | apply Ent.pick | apply Ent.drop)))
theorem msg_pwords {F : List HP} {c : Cfg} {m : Msg} : FnF Try.prog 211 [.agg #[], c.val, mv m] [] F (fun r L' => r = .bool (decide (ValsP c m.words)) ∧ L' = []) := by
  refine FnF.mk' Try.func211 rfl rfl Try.ntmps211 rfl ?_
  repeat (first | rintro _ _ ⟨rfl, rfl⟩ | rintro _ _ ⟨_, rfl, rfl⟩ | rintro _ _ ⟨_, _, rfl, rfl⟩ | intro _ | refine go ?_ | (refine is_draw ?_; refine WC_draw mixed (by kernel_rfl) ?_) | refine cal @msg_values ?_)
  (apply WE_ret rfl rfl (by (repeat (first | exact ResOk.nil | (apply ResOk.tmp; rfl) | (apply resOk_cell; rfl; exact inferInstance; rfl; rfl)))); (first | exact ⟨rfl, rfl⟩ | exact ⟨congrArg Value.bool (by decide), rfl⟩ | exact ⟨_, rfl, rfl⟩ | exact ⟨_, _, rfl, rfl⟩ | exact ⟨by first | (simp []; done) | (simp [] <;> omega), rfl⟩); (repeat (first | exact Ent.refl | exact Ent.nil | apply Ent.pick | apply Ent.drop)))
theorem msg_dwords {F : List HP} {c : Cfg} {m : Msg} : FnF Try.prog 216 [.agg #[], c.val, mv m] [] F (fun r L' => r = .bool (decide (ValsP c m.words)) ∧ L' = []) := by
  refine FnF.mk' Try.func216 rfl rfl Try.ntmps216 rfl ?_
  repeat (first | rintro _ _ ⟨rfl, rfl⟩ | rintro _ _ ⟨_, rfl, rfl⟩ | rintro _ _ ⟨_, _, rfl, rfl⟩ | intro _ | refine go ?_ | (refine is_draw ?_; refine WC_draw mixed (by kernel_rfl) ?_) | refine cal @msg_values ?_)
  (apply WE_ret rfl rfl (by (repeat (first | exact ResOk.nil | (apply ResOk.tmp; rfl) | (apply resOk_cell; rfl; exact inferInstance; rfl; rfl)))); (first | exact ⟨rfl, rfl⟩ | exact ⟨congrArg Value.bool (by decide), rfl⟩ | exact ⟨_, rfl, rfl⟩ | exact ⟨_, _, rfl, rfl⟩ | exact ⟨by first | (simp []; done) | (simp [] <;> omega), rfl⟩); (repeat (first | exact Ent.refl | exact Ent.nil | apply Ent.pick | apply Ent.drop)))
def formV (k : Int) : Value :=
  if k = 3 then .iface 249 (.agg #[]) else if k = 1 ∨ k = 2 ∨ k = 11 then .iface 247 (.agg #[]) else if k = 4 ∨ k = 6 then .iface 251 (.agg #[.bool false]) else if k = 5 then .iface 251 (.agg #[.bool true])
  else if k = 7 then .iface 252 (.agg #[]) else if k = 8 then .iface 253 (.agg #[.bool true]) else if k = 10 then .iface 253 (.agg #[.bool false]) else .iface 254 (.agg #[])
theorem msg_formed {F : List HP} {k : Int} : FnF Try.prog 113 [.int .i64 k] [] F (fun r L' => r = formV k ∧ L' = []) := by
  refine FnF.mk' Try.func113 rfl rfl Try.ntmps113 rfl ?_
  repeat' (first | rintro _ _ ⟨rfl, rfl⟩ | rintro _ _ ⟨_, rfl, rfl⟩ | rintro _ _ ⟨_, _, rfl, rfl⟩ | intro _ | refine go ?_ | (refine is_draw ?_; refine WC_draw mixed (by kernel_rfl) ?_) | refine str ?_ | refine spl ?_ ?_ | fail)
  all_goals ((apply WE_ret rfl rfl (by (repeat (first | exact ResOk.nil | (apply ResOk.tmp; rfl) | (apply resOk_cell; rfl; exact inferInstance; rfl; rfl))))); (refine ⟨?_, rfl⟩; unfold formV; repeat (first | rfl | (rw [if_pos (by omega)]) | (rw [if_neg (by omega)]))); (repeat (first | (with_reducible exact Ent.refl) | exact Ent.nil | (apply ent_pickE; (focus ((repeat (first | (with_reducible exact pk_here) | (apply pk_there))); done))) | apply Ent.drop)))
end Go.Sx
