/- Msg2: several of my texts as one. My own work. -/
import Derived.Test.YtlaohgngdaglmaaZaj
/- Messages, second part: words, forms, May. My own work. -/
namespace Go.Sx
open Go Go.Proofs
set_option linter.unusedVariables false
set_option linter.unusedSectionVars false
set_option linter.unusedSimpArgs false
set_option maxRecDepth 100000
set_option maxHeartbeats 4000000
attribute [local irreducible] Go.Exit.then Go.Exit.inBlock Go.Code.wp WC WO WE WQ V LoopQ FnQ Sat Star band bor IntKind.wrap WR Code.rounds WT KO
theorem msg_values {F : List HP} {c : Cfg} {m : Msg} : FnF Try.prog 159 [c.val, mv m] [] F (fun r L' => r = .bool (decide (ValsP c m.words)) ∧ L' = []) := by
  refine FnF.mk' Try.func159 rfl rfl Try.ntmps159 rfl ?_
  repeat (first | rintro _ _ ⟨rfl, rfl⟩ | refine exq fun _ => ?_ | intro _ | refine go ?_ | refine drq ?_)
  rename_i bs bm
  apply WC_loopE (E0 := [(2, _), (8, _)]) (fun E0 (i : Nat) => (9, .int .i64 i) :: E0) (fun _ => Cells bm 59 (mc m) :: Cells bs 24 c.cells :: F) (fun i => i ≤ 8 ∧ ∀ j, j < i → OkAt c m.words j) (fun i => 8 - i) 0
  · (repeat (first | exact Sub.nil | (refine Sub.cons (by first | rfl | (simp only [Nat.zero_add]; rfl)) ?_)))
  · exact ⟨by omega, fun j hj => by omega⟩
  · exact entu0
  · rintro i ⟨hi, hok⟩
    by_cases hlt : i < 8
    · have hcase : i = 0 ∨ i = 1 ∨ i = 2 ∨ i = 3 ∨ i = 4 ∨ i = 5 ∨ i = 6 ∨ i = 7 := by omega
      rcases hcase with rfl | rfl | rfl | rfl | rfl | rfl | rfl | rfl
      · have ho : OkAt c m.words 0 ↔ (-2147483648 ≤ m.words.w0 ∧ m.words.w0 ≤ 2147483647 ∧ (c.words ≤ 0 → m.words.w0 = 0)) := Iff.rfl
        have hn : ¬ OkAt c m.words 0 → ¬ ValsP c m.words := fun h hv => h (hv 0 (by omega))
        repeat' (first | rintro _ _ ⟨rfl, rfl⟩ | refine exq fun _ => ?_ | intro _ | refine go ?_ | refine drq ?_ | refine spl ?_ ?_ | fail)
        all_goals first
        | (have hno := hn (fun h => by have := ho.1 h; omega)
           (apply WE_ret rfl rfl (by (repeat (first | exact ResOk.nil | (apply ResOk.tmp; rfl) | (apply resOk_cell; rfl; exact inferInstance; rfl; rfl)))); (first | exact ⟨rfl, rfl⟩ | exact ⟨congrArg Value.bool (by decide), rfl⟩ | exact ⟨_, rfl, rfl⟩ | exact ⟨_, _, rfl, rfl⟩ | exact ⟨by first | (simp [hno]; done) | (simp [hno] <;> omega), rfl⟩); (repeat (first | exact Ent.refl | exact Ent.nil | apply Ent.pick | apply Ent.drop))))
        | (have hyes := ho.2 (by omega)
           refine WE_loop 1 (by omega) ⟨by omega, fun j hj => ?_⟩ ?_ ?_
           · by_cases hjl : j = 0
             · subst hjl; exact hyes
             · exact hok j (by omega)
           · (repeat (first | exact Sub.nil | (refine Sub.cons (by first | rfl | (simp only [Nat.zero_add]; rfl)) ?_)))
           · exact entu0)
      · have ho : OkAt c m.words 1 ↔ (-2147483648 ≤ m.words.w1 ∧ m.words.w1 ≤ 2147483647 ∧ (c.words ≤ 1 → m.words.w1 = 0)) := Iff.rfl
        have hn : ¬ OkAt c m.words 1 → ¬ ValsP c m.words := fun h hv => h (hv 1 (by omega))
        repeat' (first | rintro _ _ ⟨rfl, rfl⟩ | refine exq fun _ => ?_ | intro _ | refine go ?_ | refine drq ?_ | refine spl ?_ ?_ | fail)
        all_goals first
        | (have hno := hn (fun h => by have := ho.1 h; omega)
           (apply WE_ret rfl rfl (by (repeat (first | exact ResOk.nil | (apply ResOk.tmp; rfl) | (apply resOk_cell; rfl; exact inferInstance; rfl; rfl)))); (first | exact ⟨rfl, rfl⟩ | exact ⟨congrArg Value.bool (by decide), rfl⟩ | exact ⟨_, rfl, rfl⟩ | exact ⟨_, _, rfl, rfl⟩ | exact ⟨by first | (simp [hno]; done) | (simp [hno] <;> omega), rfl⟩); (repeat (first | exact Ent.refl | exact Ent.nil | apply Ent.pick | apply Ent.drop))))
        | (have hyes := ho.2 (by omega)
           refine WE_loop 2 (by omega) ⟨by omega, fun j hj => ?_⟩ ?_ ?_
           · by_cases hjl : j = 1
             · subst hjl; exact hyes
             · exact hok j (by omega)
           · (repeat (first | exact Sub.nil | (refine Sub.cons (by first | rfl | (simp only [Nat.zero_add]; rfl)) ?_)))
           · exact entu0)
      · have ho : OkAt c m.words 2 ↔ (-2147483648 ≤ m.words.w2 ∧ m.words.w2 ≤ 2147483647 ∧ (c.words ≤ 2 → m.words.w2 = 0)) := Iff.rfl
        have hn : ¬ OkAt c m.words 2 → ¬ ValsP c m.words := fun h hv => h (hv 2 (by omega))
        repeat' (first | rintro _ _ ⟨rfl, rfl⟩ | refine exq fun _ => ?_ | intro _ | refine go ?_ | refine drq ?_ | refine spl ?_ ?_ | fail)
        all_goals first
        | (have hno := hn (fun h => by have := ho.1 h; omega)
           (apply WE_ret rfl rfl (by (repeat (first | exact ResOk.nil | (apply ResOk.tmp; rfl) | (apply resOk_cell; rfl; exact inferInstance; rfl; rfl)))); (first | exact ⟨rfl, rfl⟩ | exact ⟨congrArg Value.bool (by decide), rfl⟩ | exact ⟨_, rfl, rfl⟩ | exact ⟨_, _, rfl, rfl⟩ | exact ⟨by first | (simp [hno]; done) | (simp [hno] <;> omega), rfl⟩); (repeat (first | exact Ent.refl | exact Ent.nil | apply Ent.pick | apply Ent.drop))))
        | (have hyes := ho.2 (by omega)
           refine WE_loop 3 (by omega) ⟨by omega, fun j hj => ?_⟩ ?_ ?_
           · by_cases hjl : j = 2
             · subst hjl; exact hyes
             · exact hok j (by omega)
           · (repeat (first | exact Sub.nil | (refine Sub.cons (by first | rfl | (simp only [Nat.zero_add]; rfl)) ?_)))
           · exact entu0)
      · have ho : OkAt c m.words 3 ↔ (-2147483648 ≤ m.words.w3 ∧ m.words.w3 ≤ 2147483647 ∧ (c.words ≤ 3 → m.words.w3 = 0)) := Iff.rfl
        have hn : ¬ OkAt c m.words 3 → ¬ ValsP c m.words := fun h hv => h (hv 3 (by omega))
        repeat' (first | rintro _ _ ⟨rfl, rfl⟩ | refine exq fun _ => ?_ | intro _ | refine go ?_ | refine drq ?_ | refine spl ?_ ?_ | fail)
        all_goals first
        | (have hno := hn (fun h => by have := ho.1 h; omega)
           (apply WE_ret rfl rfl (by (repeat (first | exact ResOk.nil | (apply ResOk.tmp; rfl) | (apply resOk_cell; rfl; exact inferInstance; rfl; rfl)))); (first | exact ⟨rfl, rfl⟩ | exact ⟨congrArg Value.bool (by decide), rfl⟩ | exact ⟨_, rfl, rfl⟩ | exact ⟨_, _, rfl, rfl⟩ | exact ⟨by first | (simp [hno]; done) | (simp [hno] <;> omega), rfl⟩); (repeat (first | exact Ent.refl | exact Ent.nil | apply Ent.pick | apply Ent.drop))))
        | (have hyes := ho.2 (by omega)
           refine WE_loop 4 (by omega) ⟨by omega, fun j hj => ?_⟩ ?_ ?_
           · by_cases hjl : j = 3
             · subst hjl; exact hyes
             · exact hok j (by omega)
           · (repeat (first | exact Sub.nil | (refine Sub.cons (by first | rfl | (simp only [Nat.zero_add]; rfl)) ?_)))
           · exact entu0)
      · have ho : OkAt c m.words 4 ↔ (-2147483648 ≤ m.words.w4 ∧ m.words.w4 ≤ 2147483647 ∧ (c.words ≤ 4 → m.words.w4 = 0)) := Iff.rfl
        have hn : ¬ OkAt c m.words 4 → ¬ ValsP c m.words := fun h hv => h (hv 4 (by omega))
        repeat' (first | rintro _ _ ⟨rfl, rfl⟩ | refine exq fun _ => ?_ | intro _ | refine go ?_ | refine drq ?_ | refine spl ?_ ?_ | fail)
        all_goals first
        | (have hno := hn (fun h => by have := ho.1 h; omega)
           (apply WE_ret rfl rfl (by (repeat (first | exact ResOk.nil | (apply ResOk.tmp; rfl) | (apply resOk_cell; rfl; exact inferInstance; rfl; rfl)))); (first | exact ⟨rfl, rfl⟩ | exact ⟨congrArg Value.bool (by decide), rfl⟩ | exact ⟨_, rfl, rfl⟩ | exact ⟨_, _, rfl, rfl⟩ | exact ⟨by first | (simp [hno]; done) | (simp [hno] <;> omega), rfl⟩); (repeat (first | exact Ent.refl | exact Ent.nil | apply Ent.pick | apply Ent.drop))))
        | (have hyes := ho.2 (by omega)
           refine WE_loop 5 (by omega) ⟨by omega, fun j hj => ?_⟩ ?_ ?_
           · by_cases hjl : j = 4
             · subst hjl; exact hyes
             · exact hok j (by omega)
           · (repeat (first | exact Sub.nil | (refine Sub.cons (by first | rfl | (simp only [Nat.zero_add]; rfl)) ?_)))
           · exact entu0)
      · have ho : OkAt c m.words 5 ↔ (-2147483648 ≤ m.words.w5 ∧ m.words.w5 ≤ 2147483647 ∧ (c.words ≤ 5 → m.words.w5 = 0)) := Iff.rfl
        have hn : ¬ OkAt c m.words 5 → ¬ ValsP c m.words := fun h hv => h (hv 5 (by omega))
        repeat' (first | rintro _ _ ⟨rfl, rfl⟩ | refine exq fun _ => ?_ | intro _ | refine go ?_ | refine drq ?_ | refine spl ?_ ?_ | fail)
        all_goals first
        | (have hno := hn (fun h => by have := ho.1 h; omega)
           (apply WE_ret rfl rfl (by (repeat (first | exact ResOk.nil | (apply ResOk.tmp; rfl) | (apply resOk_cell; rfl; exact inferInstance; rfl; rfl)))); (first | exact ⟨rfl, rfl⟩ | exact ⟨congrArg Value.bool (by decide), rfl⟩ | exact ⟨_, rfl, rfl⟩ | exact ⟨_, _, rfl, rfl⟩ | exact ⟨by first | (simp [hno]; done) | (simp [hno] <;> omega), rfl⟩); (repeat (first | exact Ent.refl | exact Ent.nil | apply Ent.pick | apply Ent.drop))))
        | (have hyes := ho.2 (by omega)
           refine WE_loop 6 (by omega) ⟨by omega, fun j hj => ?_⟩ ?_ ?_
           · by_cases hjl : j = 5
             · subst hjl; exact hyes
             · exact hok j (by omega)
           · (repeat (first | exact Sub.nil | (refine Sub.cons (by first | rfl | (simp only [Nat.zero_add]; rfl)) ?_)))
           · exact entu0)
      · have ho : OkAt c m.words 6 ↔ (-2147483648 ≤ m.words.w6 ∧ m.words.w6 ≤ 2147483647 ∧ (c.words ≤ 6 → m.words.w6 = 0)) := Iff.rfl
        have hn : ¬ OkAt c m.words 6 → ¬ ValsP c m.words := fun h hv => h (hv 6 (by omega))
        repeat' (first | rintro _ _ ⟨rfl, rfl⟩ | refine exq fun _ => ?_ | intro _ | refine go ?_ | refine drq ?_ | refine spl ?_ ?_ | fail)
        all_goals first
        | (have hno := hn (fun h => by have := ho.1 h; omega)
           (apply WE_ret rfl rfl (by (repeat (first | exact ResOk.nil | (apply ResOk.tmp; rfl) | (apply resOk_cell; rfl; exact inferInstance; rfl; rfl)))); (first | exact ⟨rfl, rfl⟩ | exact ⟨congrArg Value.bool (by decide), rfl⟩ | exact ⟨_, rfl, rfl⟩ | exact ⟨_, _, rfl, rfl⟩ | exact ⟨by first | (simp [hno]; done) | (simp [hno] <;> omega), rfl⟩); (repeat (first | exact Ent.refl | exact Ent.nil | apply Ent.pick | apply Ent.drop))))
        | (have hyes := ho.2 (by omega)
           refine WE_loop 7 (by omega) ⟨by omega, fun j hj => ?_⟩ ?_ ?_
           · by_cases hjl : j = 6
             · subst hjl; exact hyes
             · exact hok j (by omega)
           · (repeat (first | exact Sub.nil | (refine Sub.cons (by first | rfl | (simp only [Nat.zero_add]; rfl)) ?_)))
           · exact entu0)
      · have ho : OkAt c m.words 7 ↔ (-2147483648 ≤ m.words.w7 ∧ m.words.w7 ≤ 2147483647 ∧ (c.words ≤ 7 → m.words.w7 = 0)) := Iff.rfl
        have hn : ¬ OkAt c m.words 7 → ¬ ValsP c m.words := fun h hv => h (hv 7 (by omega))
        repeat' (first | rintro _ _ ⟨rfl, rfl⟩ | refine exq fun _ => ?_ | intro _ | refine go ?_ | refine drq ?_ | refine spl ?_ ?_ | fail)
        all_goals first
        | (have hno := hn (fun h => by have := ho.1 h; omega)
           (apply WE_ret rfl rfl (by (repeat (first | exact ResOk.nil | (apply ResOk.tmp; rfl) | (apply resOk_cell; rfl; exact inferInstance; rfl; rfl)))); (first | exact ⟨rfl, rfl⟩ | exact ⟨congrArg Value.bool (by decide), rfl⟩ | exact ⟨_, rfl, rfl⟩ | exact ⟨_, _, rfl, rfl⟩ | exact ⟨by first | (simp [hno]; done) | (simp [hno] <;> omega), rfl⟩); (repeat (first | exact Ent.refl | exact Ent.nil | apply Ent.pick | apply Ent.drop))))
        | (have hyes := ho.2 (by omega)
           refine WE_loop 8 (by omega) ⟨by omega, fun j hj => ?_⟩ ?_ ?_
           · by_cases hjl : j = 7
             · subst hjl; exact hyes
             · exact hok j (by omega)
           · (repeat (first | exact Sub.nil | (refine Sub.cons (by first | rfl | (simp only [Nat.zero_add]; rfl)) ?_)))
           · exact entu0)
    · have hi8 : i = 8 := by omega
      subst hi8
      have hv : ValsP c m.words := hok
      repeat (first | rintro _ _ ⟨rfl, rfl⟩ | refine exq fun _ => ?_ | intro _ | refine go ?_ | refine drq ?_)
      (apply WE_ret rfl rfl (by (repeat (first | exact ResOk.nil | (apply ResOk.tmp; rfl) | (apply resOk_cell; rfl; exact inferInstance; rfl; rfl)))); (first | exact ⟨rfl, rfl⟩ | exact ⟨congrArg Value.bool (by decide), rfl⟩ | exact ⟨_, rfl, rfl⟩ | exact ⟨_, _, rfl, rfl⟩ | exact ⟨by first | (simp [hv]; done) | (simp [hv] <;> omega), rfl⟩); (repeat (first | exact Ent.refl | exact Ent.nil | apply Ent.pick | apply Ent.drop)))
theorem msg_pwords {F : List HP} {c : Cfg} {m : Msg} : FnF Try.prog 158 [.agg #[], c.val, mv m] [] F (fun r L' => r = .bool (decide (ValsP c m.words)) ∧ L' = []) := by
  refine FnF.mk' Try.func158 rfl rfl Try.ntmps158 rfl ?_
  repeat (first | rintro _ _ ⟨rfl, rfl⟩ | refine exq fun _ => ?_ | intro _ | refine go ?_ | refine drq ?_ | refine cal @msg_values ?_)
  exact fin0
theorem msg_dwords {F : List HP} {c : Cfg} {m : Msg} : FnF Try.prog 163 [.agg #[], c.val, mv m] [] F (fun r L' => r = .bool (decide (ValsP c m.words)) ∧ L' = []) := by
  refine FnF.mk' Try.func163 rfl rfl Try.ntmps163 rfl ?_
  repeat (first | rintro _ _ ⟨rfl, rfl⟩ | refine exq fun _ => ?_ | intro _ | refine go ?_ | refine drq ?_ | refine cal @msg_values ?_)
  exact fin0
def formV (k : Int) : Value :=
  if k = 3 then .iface 253 (.agg #[]) else if k = 1 ∨ k = 2 ∨ k = 11 then .iface 251 (.agg #[]) else if k = 4 ∨ k = 6 then .iface 255 (.agg #[.bool false]) else if k = 5 then .iface 255 (.agg #[.bool true])
  else if k = 7 then .iface 256 (.agg #[]) else if k = 8 then .iface 257 (.agg #[.bool true]) else if k = 10 then .iface 257 (.agg #[.bool false]) else .iface 258 (.agg #[])
theorem msg_formed {F : List HP} {k : Int} : FnF Try.prog 117 [.int .i64 k] [] F (fun r L' => r = formV k ∧ L' = []) := by
  refine FnF.mk' Try.func117 rfl rfl Try.ntmps117 rfl ?_
  repeat' (first | rintro _ _ ⟨rfl, rfl⟩ | refine exq fun _ => ?_ | intro _ | refine go ?_ | refine drq ?_ | refine str ?_ | refine spl ?_ ?_ | fail)
  all_goals ((apply WE_ret rfl rfl (by (repeat (first | exact ResOk.nil | (apply ResOk.tmp; rfl) | (apply resOk_cell; rfl; exact inferInstance; rfl; rfl))))); (refine ⟨?_, rfl⟩; unfold formV; repeat (first | rfl | (rw [if_pos (by omega)]) | (rw [if_neg (by omega)]))); exact entu0)
end Go.Sx
