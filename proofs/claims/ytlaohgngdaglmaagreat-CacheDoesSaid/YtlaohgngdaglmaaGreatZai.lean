/- Msg2, MshR4: several of my texts as one. My own work. -/
import Derived.Test.YtlaohgngdaglmaaGreatZah
/- Messages, second part: words, forms, May. My own work. -/
namespace Go.Sx
open Go Go.Proofs
set_option linter.unusedVariables false
set_option linter.unusedSectionVars false
set_option linter.unusedSimpArgs false
set_option maxRecDepth 100000
set_option maxHeartbeats 4000000
attribute [local irreducible] Go.Exit.then Go.Exit.inBlock Go.Code.wp WC WO WE WQ V LoopQ FnQ Sat Star band bor IntKind.wrap WR Code.rounds WT KO
theorem msg_values {F : List HP} {c : Cfg} {m : Msg} : FnF Tryz.prog 267 [c.val, mv m] [] F (fun r L' => r = .bool (decide (ValsP c m.words)) ∧ L' = []) := by
  refine FnF.mk' Tryz.func267 rfl rfl Tryz.ntmps267 rfl ?_
  repeat (first | rintro _ _ ⟨rfl, rfl⟩ | refine exq fun _ => ?_ | intro _ | refine go ?_ | refine drq ?_)
  rename_i bs bm
  apply WC_loopE (E0 := [(2, _), (8, _)]) (fun E0 (i : Nat) => (9, .int .i64 i) :: E0) (fun _ => Cells bm 38 (mc m) :: Cells bs 24 c.cells :: F) (fun i => i ≤ 8 ∧ ∀ j, j < i → OkAt c m.words j) (fun i => 8 - i) 0
  · (repeat (first | exact Sub.nil | (refine Sub.cons (by first | rfl | (simp only [Nat.zero_add]; rfl)) ?_)))
  · exact ⟨by omega, fun j hj => by omega⟩
  · exact entu0
  · rintro i ⟨hi, hok⟩
    by_cases hlt : i < 8
    · have hcase : i = 0 ∨ i = 1 ∨ i = 2 ∨ i = 3 ∨ i = 4 ∨ i = 5 ∨ i = 6 ∨ i = 7 := by omega
      rcases hcase with rfl | rfl | rfl | rfl | rfl | rfl | rfl | rfl
      · have ho : OkAt c m.words 0 ↔ (-2147483648 ≤ m.words.w0 ∧ m.words.w0 ≤ 2147483647 ∧ (c.words ≤ 0 → m.words.w0 = 0)) := Iff.rfl
        have hn : ¬ OkAt c m.words 0 → ¬ ValsP c m.words := fun h hv => h (hv 0 (by omega))
        repeat' (first | rintro _ _ ⟨rfl, rfl⟩ | refine exq fun _ => ?_ | intro _ | refine go ?_ | refine drq ?_ | refine spl ?_ ?_ | fail)
        all_goals first
        | (have hno := hn (fun h => by have := ho.1 h; omega)
           (apply WE_ret rfl rfl (by (repeat (first | exact ResOk.nil | (apply ResOk.tmp; rfl) | (apply resOk_cell; rfl; exact inferInstance; rfl; rfl)))); (first | exact ⟨rfl, rfl⟩ | exact ⟨congrArg Value.bool (by decide), rfl⟩ | exact ⟨_, rfl, rfl⟩ | exact ⟨_, _, rfl, rfl⟩ | exact ⟨by first | (simp [hno]; done) | (simp [hno] <;> omega), rfl⟩); (repeat (first | exact Ent.refl | exact Ent.nil | apply Ent.pick | apply Ent.drop))))
        | (have hyes := ho.2 (by omega)
           refine WE_loop 1 (by omega) ⟨by omega, fun j hj => ?_⟩ ?_ ?_
           · by_cases hjl : j = 0
             · subst hjl; exact hyes
             · exact hok j (by omega)
           · (repeat (first | exact Sub.nil | (refine Sub.cons (by first | rfl | (simp only [Nat.zero_add]; rfl)) ?_)))
           · exact entu0)
      · have ho : OkAt c m.words 1 ↔ (-2147483648 ≤ m.words.w1 ∧ m.words.w1 ≤ 2147483647 ∧ (c.words ≤ 1 → m.words.w1 = 0)) := Iff.rfl
        have hn : ¬ OkAt c m.words 1 → ¬ ValsP c m.words := fun h hv => h (hv 1 (by omega))
        repeat' (first | rintro _ _ ⟨rfl, rfl⟩ | refine exq fun _ => ?_ | intro _ | refine go ?_ | refine drq ?_ | refine spl ?_ ?_ | fail)
        all_goals first
        | (have hno := hn (fun h => by have := ho.1 h; omega)
           (apply WE_ret rfl rfl (by (repeat (first | exact ResOk.nil | (apply ResOk.tmp; rfl) | (apply resOk_cell; rfl; exact inferInstance; rfl; rfl)))); (first | exact ⟨rfl, rfl⟩ | exact ⟨congrArg Value.bool (by decide), rfl⟩ | exact ⟨_, rfl, rfl⟩ | exact ⟨_, _, rfl, rfl⟩ | exact ⟨by first | (simp [hno]; done) | (simp [hno] <;> omega), rfl⟩); (repeat (first | exact Ent.refl | exact Ent.nil | apply Ent.pick | apply Ent.drop))))
        | (have hyes := ho.2 (by omega)
           refine WE_loop 2 (by omega) ⟨by omega, fun j hj => ?_⟩ ?_ ?_
           · by_cases hjl : j = 1
             · subst hjl; exact hyes
             · exact hok j (by omega)
           · (repeat (first | exact Sub.nil | (refine Sub.cons (by first | rfl | (simp only [Nat.zero_add]; rfl)) ?_)))
           · exact entu0)
      · have ho : OkAt c m.words 2 ↔ (-2147483648 ≤ m.words.w2 ∧ m.words.w2 ≤ 2147483647 ∧ (c.words ≤ 2 → m.words.w2 = 0)) := Iff.rfl
        have hn : ¬ OkAt c m.words 2 → ¬ ValsP c m.words := fun h hv => h (hv 2 (by omega))
        repeat' (first | rintro _ _ ⟨rfl, rfl⟩ | refine exq fun _ => ?_ | intro _ | refine go ?_ | refine drq ?_ | refine spl ?_ ?_ | fail)
        all_goals first
        | (have hno := hn (fun h => by have := ho.1 h; omega)
           (apply WE_ret rfl rfl (by (repeat (first | exact ResOk.nil | (apply ResOk.tmp; rfl) | (apply resOk_cell; rfl; exact inferInstance; rfl; rfl)))); (first | exact ⟨rfl, rfl⟩ | exact ⟨congrArg Value.bool (by decide), rfl⟩ | exact ⟨_, rfl, rfl⟩ | exact ⟨_, _, rfl, rfl⟩ | exact ⟨by first | (simp [hno]; done) | (simp [hno] <;> omega), rfl⟩); (repeat (first | exact Ent.refl | exact Ent.nil | apply Ent.pick | apply Ent.drop))))
        | (have hyes := ho.2 (by omega)
           refine WE_loop 3 (by omega) ⟨by omega, fun j hj => ?_⟩ ?_ ?_
           · by_cases hjl : j = 2
             · subst hjl; exact hyes
             · exact hok j (by omega)
           · (repeat (first | exact Sub.nil | (refine Sub.cons (by first | rfl | (simp only [Nat.zero_add]; rfl)) ?_)))
           · exact entu0)
      · have ho : OkAt c m.words 3 ↔ (-2147483648 ≤ m.words.w3 ∧ m.words.w3 ≤ 2147483647 ∧ (c.words ≤ 3 → m.words.w3 = 0)) := Iff.rfl
        have hn : ¬ OkAt c m.words 3 → ¬ ValsP c m.words := fun h hv => h (hv 3 (by omega))
        repeat' (first | rintro _ _ ⟨rfl, rfl⟩ | refine exq fun _ => ?_ | intro _ | refine go ?_ | refine drq ?_ | refine spl ?_ ?_ | fail)
        all_goals first
        | (have hno := hn (fun h => by have := ho.1 h; omega)
           (apply WE_ret rfl rfl (by (repeat (first | exact ResOk.nil | (apply ResOk.tmp; rfl) | (apply resOk_cell; rfl; exact inferInstance; rfl; rfl)))); (first | exact ⟨rfl, rfl⟩ | exact ⟨congrArg Value.bool (by decide), rfl⟩ | exact ⟨_, rfl, rfl⟩ | exact ⟨_, _, rfl, rfl⟩ | exact ⟨by first | (simp [hno]; done) | (simp [hno] <;> omega), rfl⟩); (repeat (first | exact Ent.refl | exact Ent.nil | apply Ent.pick | apply Ent.drop))))
        | (have hyes := ho.2 (by omega)
           refine WE_loop 4 (by omega) ⟨by omega, fun j hj => ?_⟩ ?_ ?_
           · by_cases hjl : j = 3
             · subst hjl; exact hyes
             · exact hok j (by omega)
           · (repeat (first | exact Sub.nil | (refine Sub.cons (by first | rfl | (simp only [Nat.zero_add]; rfl)) ?_)))
           · exact entu0)
      · have ho : OkAt c m.words 4 ↔ (-2147483648 ≤ m.words.w4 ∧ m.words.w4 ≤ 2147483647 ∧ (c.words ≤ 4 → m.words.w4 = 0)) := Iff.rfl
        have hn : ¬ OkAt c m.words 4 → ¬ ValsP c m.words := fun h hv => h (hv 4 (by omega))
        repeat' (first | rintro _ _ ⟨rfl, rfl⟩ | refine exq fun _ => ?_ | intro _ | refine go ?_ | refine drq ?_ | refine spl ?_ ?_ | fail)
        all_goals first
        | (have hno := hn (fun h => by have := ho.1 h; omega)
           (apply WE_ret rfl rfl (by (repeat (first | exact ResOk.nil | (apply ResOk.tmp; rfl) | (apply resOk_cell; rfl; exact inferInstance; rfl; rfl)))); (first | exact ⟨rfl, rfl⟩ | exact ⟨congrArg Value.bool (by decide), rfl⟩ | exact ⟨_, rfl, rfl⟩ | exact ⟨_, _, rfl, rfl⟩ | exact ⟨by first | (simp [hno]; done) | (simp [hno] <;> omega), rfl⟩); (repeat (first | exact Ent.refl | exact Ent.nil | apply Ent.pick | apply Ent.drop))))
        | (have hyes := ho.2 (by omega)
           refine WE_loop 5 (by omega) ⟨by omega, fun j hj => ?_⟩ ?_ ?_
           · by_cases hjl : j = 4
             · subst hjl; exact hyes
             · exact hok j (by omega)
           · (repeat (first | exact Sub.nil | (refine Sub.cons (by first | rfl | (simp only [Nat.zero_add]; rfl)) ?_)))
           · exact entu0)
      · have ho : OkAt c m.words 5 ↔ (-2147483648 ≤ m.words.w5 ∧ m.words.w5 ≤ 2147483647 ∧ (c.words ≤ 5 → m.words.w5 = 0)) := Iff.rfl
        have hn : ¬ OkAt c m.words 5 → ¬ ValsP c m.words := fun h hv => h (hv 5 (by omega))
        repeat' (first | rintro _ _ ⟨rfl, rfl⟩ | refine exq fun _ => ?_ | intro _ | refine go ?_ | refine drq ?_ | refine spl ?_ ?_ | fail)
        all_goals first
        | (have hno := hn (fun h => by have := ho.1 h; omega)
           (apply WE_ret rfl rfl (by (repeat (first | exact ResOk.nil | (apply ResOk.tmp; rfl) | (apply resOk_cell; rfl; exact inferInstance; rfl; rfl)))); (first | exact ⟨rfl, rfl⟩ | exact ⟨congrArg Value.bool (by decide), rfl⟩ | exact ⟨_, rfl, rfl⟩ | exact ⟨_, _, rfl, rfl⟩ | exact ⟨by first | (simp [hno]; done) | (simp [hno] <;> omega), rfl⟩); (repeat (first | exact Ent.refl | exact Ent.nil | apply Ent.pick | apply Ent.drop))))
        | (have hyes := ho.2 (by omega)
           refine WE_loop 6 (by omega) ⟨by omega, fun j hj => ?_⟩ ?_ ?_
           · by_cases hjl : j = 5
             · subst hjl; exact hyes
             · exact hok j (by omega)
           · (repeat (first | exact Sub.nil | (refine Sub.cons (by first | rfl | (simp only [Nat.zero_add]; rfl)) ?_)))
           · exact entu0)
      · have ho : OkAt c m.words 6 ↔ (-2147483648 ≤ m.words.w6 ∧ m.words.w6 ≤ 2147483647 ∧ (c.words ≤ 6 → m.words.w6 = 0)) := Iff.rfl
        have hn : ¬ OkAt c m.words 6 → ¬ ValsP c m.words := fun h hv => h (hv 6 (by omega))
        repeat' (first | rintro _ _ ⟨rfl, rfl⟩ | refine exq fun _ => ?_ | intro _ | refine go ?_ | refine drq ?_ | refine spl ?_ ?_ | fail)
        all_goals first
        | (have hno := hn (fun h => by have := ho.1 h; omega)
           (apply WE_ret rfl rfl (by (repeat (first | exact ResOk.nil | (apply ResOk.tmp; rfl) | (apply resOk_cell; rfl; exact inferInstance; rfl; rfl)))); (first | exact ⟨rfl, rfl⟩ | exact ⟨congrArg Value.bool (by decide), rfl⟩ | exact ⟨_, rfl, rfl⟩ | exact ⟨_, _, rfl, rfl⟩ | exact ⟨by first | (simp [hno]; done) | (simp [hno] <;> omega), rfl⟩); (repeat (first | exact Ent.refl | exact Ent.nil | apply Ent.pick | apply Ent.drop))))
        | (have hyes := ho.2 (by omega)
           refine WE_loop 7 (by omega) ⟨by omega, fun j hj => ?_⟩ ?_ ?_
           · by_cases hjl : j = 6
             · subst hjl; exact hyes
             · exact hok j (by omega)
           · (repeat (first | exact Sub.nil | (refine Sub.cons (by first | rfl | (simp only [Nat.zero_add]; rfl)) ?_)))
           · exact entu0)
      · have ho : OkAt c m.words 7 ↔ (-2147483648 ≤ m.words.w7 ∧ m.words.w7 ≤ 2147483647 ∧ (c.words ≤ 7 → m.words.w7 = 0)) := Iff.rfl
        have hn : ¬ OkAt c m.words 7 → ¬ ValsP c m.words := fun h hv => h (hv 7 (by omega))
        repeat' (first | rintro _ _ ⟨rfl, rfl⟩ | refine exq fun _ => ?_ | intro _ | refine go ?_ | refine drq ?_ | refine spl ?_ ?_ | fail)
        all_goals first
        | (have hno := hn (fun h => by have := ho.1 h; omega)
           (apply WE_ret rfl rfl (by (repeat (first | exact ResOk.nil | (apply ResOk.tmp; rfl) | (apply resOk_cell; rfl; exact inferInstance; rfl; rfl)))); (first | exact ⟨rfl, rfl⟩ | exact ⟨congrArg Value.bool (by decide), rfl⟩ | exact ⟨_, rfl, rfl⟩ | exact ⟨_, _, rfl, rfl⟩ | exact ⟨by first | (simp [hno]; done) | (simp [hno] <;> omega), rfl⟩); (repeat (first | exact Ent.refl | exact Ent.nil | apply Ent.pick | apply Ent.drop))))
        | (have hyes := ho.2 (by omega)
           refine WE_loop 8 (by omega) ⟨by omega, fun j hj => ?_⟩ ?_ ?_
           · by_cases hjl : j = 7
             · subst hjl; exact hyes
             · exact hok j (by omega)
           · (repeat (first | exact Sub.nil | (refine Sub.cons (by first | rfl | (simp only [Nat.zero_add]; rfl)) ?_)))
           · exact entu0)
    · have hi8 : i = 8 := by omega
      subst hi8
      have hv : ValsP c m.words := hok
      repeat (first | rintro _ _ ⟨rfl, rfl⟩ | refine exq fun _ => ?_ | intro _ | refine go ?_ | refine drq ?_)
      (apply WE_ret rfl rfl (by (repeat (first | exact ResOk.nil | (apply ResOk.tmp; rfl) | (apply resOk_cell; rfl; exact inferInstance; rfl; rfl)))); (first | exact ⟨rfl, rfl⟩ | exact ⟨congrArg Value.bool (by decide), rfl⟩ | exact ⟨_, rfl, rfl⟩ | exact ⟨_, _, rfl, rfl⟩ | exact ⟨by first | (simp [hv]; done) | (simp [hv] <;> omega), rfl⟩); (repeat (first | exact Ent.refl | exact Ent.nil | apply Ent.pick | apply Ent.drop)))
theorem msg_pwords {F : List HP} {c : Cfg} {m : Msg} : FnF Tryz.prog 266 [.agg #[], c.val, mv m] [] F (fun r L' => r = .bool (decide (ValsP c m.words)) ∧ L' = []) := by
  refine FnF.mk' Tryz.func266 rfl rfl Tryz.ntmps266 rfl ?_
  repeat (first | rintro _ _ ⟨rfl, rfl⟩ | refine exq fun _ => ?_ | intro _ | refine go ?_ | refine drq ?_ | refine cal @msg_values ?_)
  exact fin0
theorem msg_dwords {F : List HP} {c : Cfg} {m : Msg} : FnF Tryz.prog 271 [.agg #[], c.val, mv m] [] F (fun r L' => r = .bool (decide (ValsP c m.words)) ∧ L' = []) := by
  refine FnF.mk' Tryz.func271 rfl rfl Tryz.ntmps271 rfl ?_
  repeat (first | rintro _ _ ⟨rfl, rfl⟩ | refine exq fun _ => ?_ | intro _ | refine go ?_ | refine drq ?_ | refine cal @msg_values ?_)
  exact fin0
def formV (k : Int) : Value :=
  if k = 3 then .iface 296 (.agg #[]) else if k = 1 ∨ k = 2 ∨ k = 11 then .iface 294 (.agg #[]) else if k = 4 ∨ k = 6 then .iface 298 (.agg #[.bool false]) else if k = 5 then .iface 298 (.agg #[.bool true])
  else if k = 7 then .iface 299 (.agg #[]) else if k = 8 then .iface 300 (.agg #[.bool true]) else if k = 10 then .iface 300 (.agg #[.bool false]) else .iface 301 (.agg #[])
theorem msg_formed {F : List HP} {k : Int} : FnF Tryz.prog 153 [.int .i64 k] [] F (fun r L' => r = formV k ∧ L' = []) := by
  refine FnF.mk' Tryz.func153 rfl rfl Tryz.ntmps153 rfl ?_
  repeat' (first | rintro _ _ ⟨rfl, rfl⟩ | refine exq fun _ => ?_ | intro _ | refine go ?_ | refine drq ?_ | refine str ?_ | refine spl ?_ ?_ | fail)
  all_goals ((apply WE_ret rfl rfl (by (repeat (first | exact ResOk.nil | (apply ResOk.tmp; rfl) | (apply resOk_cell; rfl; exact inferInstance; rfl; rfl))))); (refine ⟨?_, rfl⟩; unfold formV; repeat (first | rfl | (rw [if_pos (by omega)]) | (rw [if_neg (by omega)]))); exact entu0)
end Go.Sx

/- The document's files of misses, fourth part. My own work. -/
namespace Go.Sx
open Go Go.Proofs
set_option linter.unusedVariables false
set_option linter.unusedSectionVars false
set_option linter.unusedSimpArgs false
set_option maxRecDepth 100000
set_option maxHeartbeats 4000000
attribute [local irreducible] Go.Exit.then Go.Exit.inBlock Go.Code.wp WC WO WE WQ V LoopQ FnQ Sat Star band bor IntKind.wrap WR Code.rounds WT KO
theorem ref10_Owe {F : List HP} {b : Nat} {room : Int} {l : List Miss} {line : Int} (hg : ∀ m ∈ l, 0 ≤ m.got) :
    FnF Tryz.prog 138 [.pointer (some ⟨b, 0, none⟩), .int .i64 line] [MshR b room l] F (fun r L' => r = .tuple [msv (oweM l line), .bool (oweB l line)].toArray ∧ L' = [MshR b room (oweL l line)]) := by
  refine FnF.mk' Tryz.func138 rfl rfl Tryz.ntmps138 rfl ?_
  refine RL_open fun p c hl => ?_
  have hP := fun F => ref10_placeO (F := F) (b := b) (room := room) (l := l) (line := line) (p := p) (c := c) (by omega)
  cases h : misIn l line with
  | false =>
    have e1 : oweB l line = false := by unfold oweB; rw [h]; rfl
    have e2 : oweL l line = l := by unfold oweL; rw [e1]; rfl
    have e3 : oweM l line = .zero := by unfold oweM; rw [e1]; rfl
    rw [e1, e2, e3]
    rw [misIn_f h] at hP
    repeat' (first | rintro _ _ ⟨rfl, rfl⟩ | refine exq fun _ => ?_ | intro _ | refine go ?_ | refine drq ?_ | refine cal @hP ?_ | refine spl ?_ ?_ | fail)
    all_goals (apply WE_ret rfl rfl (by (repeat (first | exact ResOk.nil | (apply ResOk.tmp; rfl) | (apply resOk_cell; rfl; exact inferInstance; rfl; rfl)))))
    all_goals first | exact ⟨rfl, rfl⟩ | (apply RL_in; (focus (exact entu0)); all_goals (first | rfl | (with_reducible assumption) | (simp; done) | (simp; omega) | omega | (constructor <;> (simp) <;> omega)))
  | true =>
    obtain ⟨i, hi, e0, ea, _⟩ := misIn_t h
    have hgi := hg _ (List.getElem_mem hi)
    rw [e0] at hP
    (first | (refine WO_some (Value.slice p l.length c) inferInstance (by omega) ?_; intro _) | (refine WC_some (Value.slice p l.length c) inferInstance (by omega) ?_; intro _))
    cases h1 : l[i].owes with
    | true =>
      have e1 : oweB l line = false := by unfold oweB; rw [ea, h1]; simp
      have e2 : oweL l line = l := by unfold oweL; rw [e1]; rfl
      have e3 : oweM l line = .zero := by unfold oweM; rw [e1]; rfl
      rw [e1, e2, e3]
      repeat' (first | rintro _ _ ⟨rfl, rfl⟩ | refine exq fun _ => ?_ | intro _ | refine go ?_ | refine drq ?_ | refine cal @hP ?_ | refine spl ?_ ?_ | fail)
      all_goals (apply WE_ret rfl rfl (by (repeat (first | exact ResOk.nil | (apply ResOk.tmp; rfl) | (apply resOk_cell; rfl; exact inferInstance; rfl; rfl)))))
      all_goals first | exact ⟨rfl, rfl⟩ | (apply RL_in; (focus (exact entu0)); all_goals (first | rfl | (with_reducible assumption) | (simp; done) | (simp; omega) | omega | (constructor <;> (simp) <;> omega)))
    | false =>
      by_cases h2 : l[i].needs = l[i].got
      · have h3 : ¬ l[i].needs < 0 := by omega
        have e1 : oweB l line = true := by unfold oweB; rw [h, ea, h1]; simp [h2]
        have e2 : oweL l line = l.set i { l[i] with owes := true } := by unfold oweL; rw [if_pos e1, e0, Int.toNat_natCast, ea]
        have e3 : oweM l line = l[i] := by unfold oweM; rw [if_pos e1, ea]
        rw [e1, e2, e3]
        repeat' (first | rintro _ _ ⟨rfl, rfl⟩ | refine exq fun _ => ?_ | intro _ | refine go ?_ | refine drq ?_ | refine cal @hP ?_ | refine spl ?_ ?_ | fail)
        all_goals rw [mis_ow hi]
        all_goals (apply WE_ret rfl rfl (by (repeat (first | exact ResOk.nil | (apply ResOk.tmp; rfl) | (apply resOk_cell; rfl; exact inferInstance; rfl; rfl)))))
        all_goals first | exact ⟨rfl, rfl⟩ | (rw [show l.length = (l.set i { l[i] with owes := true }).length by simp]; (apply RL_in; (focus (exact entu0)); all_goals (first | rfl | (with_reducible assumption) | (simp; done) | (simp; omega) | omega | (constructor <;> (simp) <;> omega))))
      · have e1 : oweB l line = false := by unfold oweB; rw [h, ea, h1]; simp [h2]
        have e2 : oweL l line = l := by unfold oweL; rw [e1]; rfl
        have e3 : oweM l line = .zero := by unfold oweM; rw [e1]; rfl
        rw [e1, e2, e3]
        by_cases h3 : l[i].needs < 0
        · repeat' (first | rintro _ _ ⟨rfl, rfl⟩ | refine exq fun _ => ?_ | intro _ | refine go ?_ | refine drq ?_ | refine cal @hP ?_ | refine spl ?_ ?_ | fail)
          all_goals (apply WE_ret rfl rfl (by (repeat (first | exact ResOk.nil | (apply ResOk.tmp; rfl) | (apply resOk_cell; rfl; exact inferInstance; rfl; rfl)))))
          all_goals first | exact ⟨rfl, rfl⟩ | (apply RL_in; (focus (exact entu0)); all_goals (first | rfl | (with_reducible assumption) | (simp; done) | (simp; omega) | omega | (constructor <;> (simp) <;> omega)))
        · repeat' (first | rintro _ _ ⟨rfl, rfl⟩ | refine exq fun _ => ?_ | intro _ | refine go ?_ | refine drq ?_ | refine cal @hP ?_ | refine spl ?_ ?_ | fail)
          all_goals (apply WE_ret rfl rfl (by (repeat (first | exact ResOk.nil | (apply ResOk.tmp; rfl) | (apply resOk_cell; rfl; exact inferInstance; rfl; rfl)))))
          all_goals first | exact ⟨rfl, rfl⟩ | (apply RL_in; (focus (exact entu0)); all_goals (first | rfl | (with_reducible assumption) | (simp; done) | (simp; omega) | omega | (constructor <;> (simp) <;> omega)))
end Go.Sx
