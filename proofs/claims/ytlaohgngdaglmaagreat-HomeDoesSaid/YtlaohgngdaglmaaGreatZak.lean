/- Msg2, Mem12: several of my texts as one. My own work. -/
import Derived.Test.YtlaohgngdaglmaaGreatZaj
import Derived.Test.YtlaohgngdaglmaaGreatZai
/- Messages, second part: words, forms, May. My own work. -/
namespace Go.Sx
open Go Go.Proofs
set_option linter.unusedVariables false
set_option linter.unusedSectionVars false
set_option linter.unusedSimpArgs false
set_option maxRecDepth 100000
set_option maxHeartbeats 4000000
attribute [local irreducible] Go.Exit.then Go.Exit.inBlock Go.Code.wp WC WO WE WQ V LoopQ FnQ Sat Star band bor IntKind.wrap WR Code.rounds WT KO
theorem msg_values {F : List HP} {c : Cfg} {m : Msg} : FnF Tryz.prog 267 [c.val, mv m] [] F (fun r L' => r = .bool (decide (ValsP c m.words)) ∧ L' = []) := by
  refine FnF.mk' Tryz.func267 rfl rfl Tryz.ntmps267 rfl ?_
  repeat (first | rintro _ _ ⟨rfl, rfl⟩ | refine exq fun _ => ?_ | intro _ | refine go ?_ | refine drq ?_)
  rename_i bs bm
  apply WC_loopE (E0 := [(2, _), (8, _)]) (fun E0 (i : Nat) => (9, .int .i64 i) :: E0) (fun _ => Cells bm 38 (mc m) :: Cells bs 24 c.cells :: F) (fun i => i ≤ 8 ∧ ∀ j, j < i → OkAt c m.words j) (fun i => 8 - i) 0
  · (repeat (first | exact Sub.nil | (refine Sub.cons (by first | rfl | (simp only [Nat.zero_add]; rfl)) ?_)))
  · exact ⟨by omega, fun j hj => by omega⟩
  · exact entu0
  · rintro i ⟨hi, hok⟩
    by_cases hlt : i < 8
    · have hcase : i = 0 ∨ i = 1 ∨ i = 2 ∨ i = 3 ∨ i = 4 ∨ i = 5 ∨ i = 6 ∨ i = 7 := by omega
      rcases hcase with rfl | rfl | rfl | rfl | rfl | rfl | rfl | rfl
      · have ho : OkAt c m.words 0 ↔ (-2147483648 ≤ m.words.w0 ∧ m.words.w0 ≤ 2147483647 ∧ (c.words ≤ 0 → m.words.w0 = 0)) := Iff.rfl
        have hn : ¬ OkAt c m.words 0 → ¬ ValsP c m.words := fun h hv => h (hv 0 (by omega))
        repeat' (first | rintro _ _ ⟨rfl, rfl⟩ | refine exq fun _ => ?_ | intro _ | refine go ?_ | refine drq ?_ | refine spl ?_ ?_ | fail)
        all_goals first
        | (have hno := hn (fun h => by have := ho.1 h; omega)
           (apply WE_ret rfl rfl (by (repeat (first | exact ResOk.nil | (apply ResOk.tmp; rfl) | (apply resOk_cell; rfl; exact inferInstance; rfl; rfl)))); (first | exact ⟨rfl, rfl⟩ | exact ⟨congrArg Value.bool (by decide), rfl⟩ | exact ⟨_, rfl, rfl⟩ | exact ⟨_, _, rfl, rfl⟩ | exact ⟨by first | (simp [hno]; done) | (simp [hno] <;> omega), rfl⟩); (repeat (first | exact Ent.refl | exact Ent.nil | apply Ent.pick | apply Ent.drop))))
        | (have hyes := ho.2 (by omega)
           refine WE_loop 1 (by omega) ⟨by omega, fun j hj => ?_⟩ ?_ ?_
           · by_cases hjl : j = 0
             · subst hjl; exact hyes
             · exact hok j (by omega)
           · (repeat (first | exact Sub.nil | (refine Sub.cons (by first | rfl | (simp only [Nat.zero_add]; rfl)) ?_)))
           · exact entu0)
      · have ho : OkAt c m.words 1 ↔ (-2147483648 ≤ m.words.w1 ∧ m.words.w1 ≤ 2147483647 ∧ (c.words ≤ 1 → m.words.w1 = 0)) := Iff.rfl
        have hn : ¬ OkAt c m.words 1 → ¬ ValsP c m.words := fun h hv => h (hv 1 (by omega))
        repeat' (first | rintro _ _ ⟨rfl, rfl⟩ | refine exq fun _ => ?_ | intro _ | refine go ?_ | refine drq ?_ | refine spl ?_ ?_ | fail)
        all_goals first
        | (have hno := hn (fun h => by have := ho.1 h; omega)
           (apply WE_ret rfl rfl (by (repeat (first | exact ResOk.nil | (apply ResOk.tmp; rfl) | (apply resOk_cell; rfl; exact inferInstance; rfl; rfl)))); (first | exact ⟨rfl, rfl⟩ | exact ⟨congrArg Value.bool (by decide), rfl⟩ | exact ⟨_, rfl, rfl⟩ | exact ⟨_, _, rfl, rfl⟩ | exact ⟨by first | (simp [hno]; done) | (simp [hno] <;> omega), rfl⟩); (repeat (first | exact Ent.refl | exact Ent.nil | apply Ent.pick | apply Ent.drop))))
        | (have hyes := ho.2 (by omega)
           refine WE_loop 2 (by omega) ⟨by omega, fun j hj => ?_⟩ ?_ ?_
           · by_cases hjl : j = 1
             · subst hjl; exact hyes
             · exact hok j (by omega)
           · (repeat (first | exact Sub.nil | (refine Sub.cons (by first | rfl | (simp only [Nat.zero_add]; rfl)) ?_)))
           · exact entu0)
      · have ho : OkAt c m.words 2 ↔ (-2147483648 ≤ m.words.w2 ∧ m.words.w2 ≤ 2147483647 ∧ (c.words ≤ 2 → m.words.w2 = 0)) := Iff.rfl
        have hn : ¬ OkAt c m.words 2 → ¬ ValsP c m.words := fun h hv => h (hv 2 (by omega))
        repeat' (first | rintro _ _ ⟨rfl, rfl⟩ | refine exq fun _ => ?_ | intro _ | refine go ?_ | refine drq ?_ | refine spl ?_ ?_ | fail)
        all_goals first
        | (have hno := hn (fun h => by have := ho.1 h; omega)
           (apply WE_ret rfl rfl (by (repeat (first | exact ResOk.nil | (apply ResOk.tmp; rfl) | (apply resOk_cell; rfl; exact inferInstance; rfl; rfl)))); (first | exact ⟨rfl, rfl⟩ | exact ⟨congrArg Value.bool (by decide), rfl⟩ | exact ⟨_, rfl, rfl⟩ | exact ⟨_, _, rfl, rfl⟩ | exact ⟨by first | (simp [hno]; done) | (simp [hno] <;> omega), rfl⟩); (repeat (first | exact Ent.refl | exact Ent.nil | apply Ent.pick | apply Ent.drop))))
        | (have hyes := ho.2 (by omega)
           refine WE_loop 3 (by omega) ⟨by omega, fun j hj => ?_⟩ ?_ ?_
           · by_cases hjl : j = 2
             · subst hjl; exact hyes
             · exact hok j (by omega)
           · (repeat (first | exact Sub.nil | (refine Sub.cons (by first | rfl | (simp only [Nat.zero_add]; rfl)) ?_)))
           · exact entu0)
      · have ho : OkAt c m.words 3 ↔ (-2147483648 ≤ m.words.w3 ∧ m.words.w3 ≤ 2147483647 ∧ (c.words ≤ 3 → m.words.w3 = 0)) := Iff.rfl
        have hn : ¬ OkAt c m.words 3 → ¬ ValsP c m.words := fun h hv => h (hv 3 (by omega))
        repeat' (first | rintro _ _ ⟨rfl, rfl⟩ | refine exq fun _ => ?_ | intro _ | refine go ?_ | refine drq ?_ | refine spl ?_ ?_ | fail)
        all_goals first
        | (have hno := hn (fun h => by have := ho.1 h; omega)
           (apply WE_ret rfl rfl (by (repeat (first | exact ResOk.nil | (apply ResOk.tmp; rfl) | (apply resOk_cell; rfl; exact inferInstance; rfl; rfl)))); (first | exact ⟨rfl, rfl⟩ | exact ⟨congrArg Value.bool (by decide), rfl⟩ | exact ⟨_, rfl, rfl⟩ | exact ⟨_, _, rfl, rfl⟩ | exact ⟨by first | (simp [hno]; done) | (simp [hno] <;> omega), rfl⟩); (repeat (first | exact Ent.refl | exact Ent.nil | apply Ent.pick | apply Ent.drop))))
        | (have hyes := ho.2 (by omega)
           refine WE_loop 4 (by omega) ⟨by omega, fun j hj => ?_⟩ ?_ ?_
           · by_cases hjl : j = 3
             · subst hjl; exact hyes
             · exact hok j (by omega)
           · (repeat (first | exact Sub.nil | (refine Sub.cons (by first | rfl | (simp only [Nat.zero_add]; rfl)) ?_)))
           · exact entu0)
      · have ho : OkAt c m.words 4 ↔ (-2147483648 ≤ m.words.w4 ∧ m.words.w4 ≤ 2147483647 ∧ (c.words ≤ 4 → m.words.w4 = 0)) := Iff.rfl
        have hn : ¬ OkAt c m.words 4 → ¬ ValsP c m.words := fun h hv => h (hv 4 (by omega))
        repeat' (first | rintro _ _ ⟨rfl, rfl⟩ | refine exq fun _ => ?_ | intro _ | refine go ?_ | refine drq ?_ | refine spl ?_ ?_ | fail)
        all_goals first
        | (have hno := hn (fun h => by have := ho.1 h; omega)
           (apply WE_ret rfl rfl (by (repeat (first | exact ResOk.nil | (apply ResOk.tmp; rfl) | (apply resOk_cell; rfl; exact inferInstance; rfl; rfl)))); (first | exact ⟨rfl, rfl⟩ | exact ⟨congrArg Value.bool (by decide), rfl⟩ | exact ⟨_, rfl, rfl⟩ | exact ⟨_, _, rfl, rfl⟩ | exact ⟨by first | (simp [hno]; done) | (simp [hno] <;> omega), rfl⟩); (repeat (first | exact Ent.refl | exact Ent.nil | apply Ent.pick | apply Ent.drop))))
        | (have hyes := ho.2 (by omega)
           refine WE_loop 5 (by omega) ⟨by omega, fun j hj => ?_⟩ ?_ ?_
           · by_cases hjl : j = 4
             · subst hjl; exact hyes
             · exact hok j (by omega)
           · (repeat (first | exact Sub.nil | (refine Sub.cons (by first | rfl | (simp only [Nat.zero_add]; rfl)) ?_)))
           · exact entu0)
      · have ho : OkAt c m.words 5 ↔ (-2147483648 ≤ m.words.w5 ∧ m.words.w5 ≤ 2147483647 ∧ (c.words ≤ 5 → m.words.w5 = 0)) := Iff.rfl
        have hn : ¬ OkAt c m.words 5 → ¬ ValsP c m.words := fun h hv => h (hv 5 (by omega))
        repeat' (first | rintro _ _ ⟨rfl, rfl⟩ | refine exq fun _ => ?_ | intro _ | refine go ?_ | refine drq ?_ | refine spl ?_ ?_ | fail)
        all_goals first
        | (have hno := hn (fun h => by have := ho.1 h; omega)
           (apply WE_ret rfl rfl (by (repeat (first | exact ResOk.nil | (apply ResOk.tmp; rfl) | (apply resOk_cell; rfl; exact inferInstance; rfl; rfl)))); (first | exact ⟨rfl, rfl⟩ | exact ⟨congrArg Value.bool (by decide), rfl⟩ | exact ⟨_, rfl, rfl⟩ | exact ⟨_, _, rfl, rfl⟩ | exact ⟨by first | (simp [hno]; done) | (simp [hno] <;> omega), rfl⟩); (repeat (first | exact Ent.refl | exact Ent.nil | apply Ent.pick | apply Ent.drop))))
        | (have hyes := ho.2 (by omega)
           refine WE_loop 6 (by omega) ⟨by omega, fun j hj => ?_⟩ ?_ ?_
           · by_cases hjl : j = 5
             · subst hjl; exact hyes
             · exact hok j (by omega)
           · (repeat (first | exact Sub.nil | (refine Sub.cons (by first | rfl | (simp only [Nat.zero_add]; rfl)) ?_)))
           · exact entu0)
      · have ho : OkAt c m.words 6 ↔ (-2147483648 ≤ m.words.w6 ∧ m.words.w6 ≤ 2147483647 ∧ (c.words ≤ 6 → m.words.w6 = 0)) := Iff.rfl
        have hn : ¬ OkAt c m.words 6 → ¬ ValsP c m.words := fun h hv => h (hv 6 (by omega))
        repeat' (first | rintro _ _ ⟨rfl, rfl⟩ | refine exq fun _ => ?_ | intro _ | refine go ?_ | refine drq ?_ | refine spl ?_ ?_ | fail)
        all_goals first
        | (have hno := hn (fun h => by have := ho.1 h; omega)
           (apply WE_ret rfl rfl (by (repeat (first | exact ResOk.nil | (apply ResOk.tmp; rfl) | (apply resOk_cell; rfl; exact inferInstance; rfl; rfl)))); (first | exact ⟨rfl, rfl⟩ | exact ⟨congrArg Value.bool (by decide), rfl⟩ | exact ⟨_, rfl, rfl⟩ | exact ⟨_, _, rfl, rfl⟩ | exact ⟨by first | (simp [hno]; done) | (simp [hno] <;> omega), rfl⟩); (repeat (first | exact Ent.refl | exact Ent.nil | apply Ent.pick | apply Ent.drop))))
        | (have hyes := ho.2 (by omega)
           refine WE_loop 7 (by omega) ⟨by omega, fun j hj => ?_⟩ ?_ ?_
           · by_cases hjl : j = 6
             · subst hjl; exact hyes
             · exact hok j (by omega)
           · (repeat (first | exact Sub.nil | (refine Sub.cons (by first | rfl | (simp only [Nat.zero_add]; rfl)) ?_)))
           · exact entu0)
      · have ho : OkAt c m.words 7 ↔ (-2147483648 ≤ m.words.w7 ∧ m.words.w7 ≤ 2147483647 ∧ (c.words ≤ 7 → m.words.w7 = 0)) := Iff.rfl
        have hn : ¬ OkAt c m.words 7 → ¬ ValsP c m.words := fun h hv => h (hv 7 (by omega))
        repeat' (first | rintro _ _ ⟨rfl, rfl⟩ | refine exq fun _ => ?_ | intro _ | refine go ?_ | refine drq ?_ | refine spl ?_ ?_ | fail)
        all_goals first
        | (have hno := hn (fun h => by have := ho.1 h; omega)
           (apply WE_ret rfl rfl (by (repeat (first | exact ResOk.nil | (apply ResOk.tmp; rfl) | (apply resOk_cell; rfl; exact inferInstance; rfl; rfl)))); (first | exact ⟨rfl, rfl⟩ | exact ⟨congrArg Value.bool (by decide), rfl⟩ | exact ⟨_, rfl, rfl⟩ | exact ⟨_, _, rfl, rfl⟩ | exact ⟨by first | (simp [hno]; done) | (simp [hno] <;> omega), rfl⟩); (repeat (first | exact Ent.refl | exact Ent.nil | apply Ent.pick | apply Ent.drop))))
        | (have hyes := ho.2 (by omega)
           refine WE_loop 8 (by omega) ⟨by omega, fun j hj => ?_⟩ ?_ ?_
           · by_cases hjl : j = 7
             · subst hjl; exact hyes
             · exact hok j (by omega)
           · (repeat (first | exact Sub.nil | (refine Sub.cons (by first | rfl | (simp only [Nat.zero_add]; rfl)) ?_)))
           · exact entu0)
    · have hi8 : i = 8 := by omega
      subst hi8
      have hv : ValsP c m.words := hok
      repeat (first | rintro _ _ ⟨rfl, rfl⟩ | refine exq fun _ => ?_ | intro _ | refine go ?_ | refine drq ?_)
      (apply WE_ret rfl rfl (by (repeat (first | exact ResOk.nil | (apply ResOk.tmp; rfl) | (apply resOk_cell; rfl; exact inferInstance; rfl; rfl)))); (first | exact ⟨rfl, rfl⟩ | exact ⟨congrArg Value.bool (by decide), rfl⟩ | exact ⟨_, rfl, rfl⟩ | exact ⟨_, _, rfl, rfl⟩ | exact ⟨by first | (simp [hv]; done) | (simp [hv] <;> omega), rfl⟩); (repeat (first | exact Ent.refl | exact Ent.nil | apply Ent.pick | apply Ent.drop)))
theorem msg_pwords {F : List HP} {c : Cfg} {m : Msg} : FnF Tryz.prog 266 [.agg #[], c.val, mv m] [] F (fun r L' => r = .bool (decide (ValsP c m.words)) ∧ L' = []) := by
  refine FnF.mk' Tryz.func266 rfl rfl Tryz.ntmps266 rfl ?_
  repeat (first | rintro _ _ ⟨rfl, rfl⟩ | refine exq fun _ => ?_ | intro _ | refine go ?_ | refine drq ?_ | refine cal @msg_values ?_)
  exact fin0
theorem msg_dwords {F : List HP} {c : Cfg} {m : Msg} : FnF Tryz.prog 271 [.agg #[], c.val, mv m] [] F (fun r L' => r = .bool (decide (ValsP c m.words)) ∧ L' = []) := by
  refine FnF.mk' Tryz.func271 rfl rfl Tryz.ntmps271 rfl ?_
  repeat (first | rintro _ _ ⟨rfl, rfl⟩ | refine exq fun _ => ?_ | intro _ | refine go ?_ | refine drq ?_ | refine cal @msg_values ?_)
  exact fin0
def formV (k : Int) : Value :=
  if k = 3 then .iface 296 (.agg #[]) else if k = 1 ∨ k = 2 ∨ k = 11 then .iface 294 (.agg #[]) else if k = 4 ∨ k = 6 then .iface 298 (.agg #[.bool false]) else if k = 5 then .iface 298 (.agg #[.bool true])
  else if k = 7 then .iface 299 (.agg #[]) else if k = 8 then .iface 300 (.agg #[.bool true]) else if k = 10 then .iface 300 (.agg #[.bool false]) else .iface 301 (.agg #[])
theorem msg_formed {F : List HP} {k : Int} : FnF Tryz.prog 153 [.int .i64 k] [] F (fun r L' => r = formV k ∧ L' = []) := by
  refine FnF.mk' Tryz.func153 rfl rfl Tryz.ntmps153 rfl ?_
  repeat' (first | rintro _ _ ⟨rfl, rfl⟩ | refine exq fun _ => ?_ | intro _ | refine go ?_ | refine drq ?_ | refine str ?_ | refine spl ?_ ?_ | fail)
  all_goals ((apply WE_ret rfl rfl (by (repeat (first | exact ResOk.nil | (apply ResOk.tmp; rfl) | (apply resOk_cell; rfl; exact inferInstance; rfl; rfl))))); (refine ⟨?_, rfl⟩; unfold formV; repeat (first | rfl | (rw [if_pos (by omega)]) | (rw [if_neg (by omega)]))); exact entu0)
end Go.Sx

/- What the document's memories do: New, Line, Write. My own work. -/
namespace Go.Sx
open Go Go.Proofs
set_option linter.unusedVariables false
set_option linter.unusedSectionVars false
set_option linter.unusedSimpArgs false
theorem w12_splice {w : Words} {i : Nat} (hi : i < 8) (v : Int) : splice (wc w) (0 + ((i : Nat) : Int).toNat * 1) [.int .i64 v] = wc (Words.of (w.list.set i v)) := by
  rw [Nat.zero_add, Nat.mul_one, Int.toNat_natCast]
  rw [show wc w = flat ic w.list from rfl, splice_ic (ms := w.list) hi, flat_of (by rw [List.length_set]; rfl)]
theorem w12_pad {l : List Int} (h : l.length ≤ 8) : (Words.of l).list = l ++ List.replicate (8 - l.length) 0 := by
  match l, h with
  | [], _ => rfl
  | [_], _ => rfl
  | [_, _], _ => rfl
  | [_, _, _], _ => rfl
  | [_, _, _, _], _ => rfl
  | [_, _, _, _, _], _ => rfl
  | [_, _, _, _, _, _], _ => rfl
  | [_, _, _, _, _, _, _], _ => rfl
  | [_, _, _, _, _, _, _, _], _ => rfl
  | _ :: _ :: _ :: _ :: _ :: _ :: _ :: _ :: _ :: l, h => simp at h
theorem w12_step {l : List Int} {i : Nat} (h : i < l.length) (h8 : l.length ≤ 8) : (Words.of (l.take i)).list.set i l[i] = (Words.of (l.take (i + 1))).list := by
  rw [w12_pad (by simp; omega), w12_pad (by simp; omega)]
  have e1 : (l.take i).length = i := by simp; omega
  have e2 : (l.take (i + 1)).length = i + 1 := by simp; omega
  rw [e1, e2, List.take_add_one, List.getElem?_eq_getElem h]
  obtain ⟨r, hr⟩ : ∃ r, 8 - i = r + 1 := ⟨7 - i, by omega⟩
  rw [hr, show 8 - (i + 1) = r by omega, List.replicate_succ]
  generalize hp : l.take i = p at e1
  subst e1
  simp [List.set_append]
theorem w12_cell (w : Words) (i : Nat) (h : i < 8) : (wc w)[0 + ((i : Nat) : Int).toNat * 1]? = some (.int .i64 (w.list.getD i 0)) := by
  rw [Nat.zero_add, Nat.mul_one, Int.toNat_natCast]
  match i, h with
  | 0, _ => rfl
  | 1, _ => rfl
  | 2, _ => rfl
  | 3, _ => rfl
  | 4, _ => rfl
  | 5, _ => rfl
  | 6, _ => rfl
  | 7, _ => rfl
/-! ## The document's memory -/
def MemRB (b : Nat) (c : Cfg) (ms : List Int) : HP :=
  Ex fun g : Nat => [Cells b 228 (c.cells ++ [.slice (some ⟨g, 0, none⟩) ms.length ms.length]), Cells g 3 (flat ic ms), Fact (checkB c = true ∧ (ms.length : Int) = c.words * c.lines ∧ ms.length ≤ 8192)]
theorem memr_in {b g n : Nat} {c : Cfg} {ms : List Int} {xs : List Value} {L M : List HP}
    (h : Ent L (Cells b 228 (c.cells ++ [.slice (some ⟨g, 0, none⟩) n n]) :: Cells g 3 xs :: M)) (hn : n = ms.length) (hx : xs = flat ic ms) (hl : checkB c = true ∧ (ms.length : Int) = c.words * c.lines ∧ ms.length ≤ 8192) : Ent L (MemRB b c ms :: M) := by
  subst hn hx
  refine Ent.trans h (Ent.trans ?_ (ex_intro (p := fun g : Nat => [Cells b 228 (c.cells ++ [.slice (some ⟨g, 0, none⟩) ms.length ms.length]), Cells g 3 (flat ic ms), Fact (checkB c = true ∧ (ms.length : Int) = c.words * c.lines ∧ ms.length ≤ 8192)]) g))
  exact Ent.cons (Ent.cons (star_fact_mk hl))
theorem memr_sat {b : Nat} {c : Cfg} {ms : List Int} {L : List HP} {w : World} (h : Sat (MemRB b c ms :: L) w) : (checkB c = true ∧ (ms.length : Int) = c.words * c.lines ∧ ms.length ≤ 8192) ∧
    ∃ g, Sat (Cells b 228 (c.cells ++ [.slice (some ⟨g, 0, none⟩) ms.length ms.length]) :: Cells g 3 (flat ic ms) :: L) w := by
  obtain ⟨g, hx⟩ := star_ex h
  simp only [app] at hx
  have hf := fact_of (star_drop (star_drop hx))
  exact ⟨hf, g, (Ent.cons (Ent.cons (Ent.drop Ent.refl))) _ hx⟩
theorem memr_open {b : Nat} {c0 : Cfg} {ms : List Int} {P : Program} {N : Nat} {c : Code} {env : Env} {L : List HP} {Q : Exit → Act → World → Prop}
    (h : ∀ g, (checkB c0 = true ∧ (ms.length : Int) = c0.words * c0.lines ∧ ms.length ≤ 8192) → WC P N c env (Cells b 228 (c0.cells ++ [.slice (some ⟨g, 0, none⟩) ms.length ms.length]) :: Cells g 3 (flat ic ms) :: L) Q) : WC P N c env (MemRB b c0 ms :: L) Q := by
  intro a w ha hw
  obtain ⟨hf, g, hx⟩ := memr_sat hw
  exact h g hf a w ha hx
set_option maxRecDepth 100000
set_option maxHeartbeats 4000000
attribute [local irreducible] Go.Exit.then Go.Exit.inBlock Go.Code.wp WC WO WE WQ V LoopQ FnQ Sat Star band bor IntKind.wrap WR Code.rounds WT KO
theorem dr_Mem12_98 {Q P : Prop} (k : Q) (h : Hid Q → P := by
  intro k
  first
  | (refine is_draw ?_; apply WC_mix (id := 3) .true _ (pl := .p 1 <| .p 3 <| .r 0 <| .r 2 <| .r 4 <| .p 5 <| .e true [(6, .p 7 <| .e true [(8, .p 9 <| .p 10 <| .done)])]); exact mixed; kernel_rfl; kernel_rfl; exact Ent.refl; exact k.out)) : P := h ⟨k⟩
theorem ref12_New_no {F : List HP} {c : Cfg} (hc : c.wf) (h : checkB c = false) : FnF Tryz.prog 98 [c.val] [] F (fun r L' => r = .tuple [.pointer none, .int .i64 1].toArray ∧ L' = []) := by
  have hE := fun F => ref01_Check (F := F) hc
  simp only [checkE, h, Bool.false_eq_true, if_false] at hE
  refine FnF.mk' Tryz.func98 rfl rfl Tryz.ntmps98 rfl ?_
  repeat (first | rintro _ _ ⟨rfl, rfl⟩ | refine exq fun _ => ?_ | intro _ | refine go ?_ | refine dr_Mem12_98 ?_ | refine drq ?_ | refine cal @hE ?_)
  exact fin0
theorem ref12_New {F : List HP} {c : Cfg} (hc : c.wf) (h : checkB c = true) : FnF Tryz.prog 98 [c.val] [] F (fun r L' => ∃ b, r = .tuple [.pointer (some ⟨b, 0, none⟩), .int .i64 0].toArray ∧ L' = [MemRB b c (List.replicate (c.words * c.lines).toNat 0)]) := by
  have hE := fun F => ref01_Check (F := F) hc
  simp only [checkE, h, if_true] at hE
  have hw := check_words h
  have hm := mul_bd (m := 8) (n := 1024) (a := c.words) (b := c.lines) (by omega) (by omega) (by omega) (by omega) (by omega)
  simp only [Int.reduceMul] at hm
  refine FnF.mk' Tryz.func98 rfl rfl Tryz.ntmps98 rfl ?_
  repeat (first | rintro _ _ ⟨rfl, rfl⟩ | refine exq fun _ => ?_ | intro _ | refine go ?_ | refine dr_Mem12_98 ?_ | refine drq ?_ | refine cal @hE ?_)
  rename_i bc bs bm
  (apply WE_ret rfl rfl (by (repeat (first | exact ResOk.nil | (apply ResOk.tmp; rfl) | (apply resOk_cell; rfl; exact inferInstance; rfl; rfl)))))
  · exact ⟨_, rfl, rfl⟩
  · rw [rep_ic]
    refine memr_in (g := bs) (n := (c.words * c.lines).toNat) (ms := List.replicate (c.words * c.lines).toNat 0) (Ent.cons (Ent.cons (Ent.drop Ent.refl))) (by simp) rfl ?_
    exact ⟨h, by simp; omega, by simp; omega⟩
theorem dr_Mem12_42 {Q P : Prop} (k : Q) (h : Hid Q → P := by
  intro k
  first
  | (refine is_draw ?_; apply WC_mix (id := 7) .true _ (pl := .p 0 <| .p 1 <| .p 2 <| .p 3 <| .p 5 <| .p 6 <| .p 7 <| .p 8 <| .p 9 <| .p 12 <| .r 4 <| .r 10 <| .p 11 <| .p 13 <| .p 14 <| .r 15 <| .p 16 <| .e true [(17, .done)]); exact mixed; kernel_rfl; kernel_rfl; exact Ent.refl; exact k.out)) : P := h ⟨k⟩
theorem ref12_Line {F : List HP} {b : Nat} {c : Cfg} {ms : List Int} {line : Int} (hc : c.wf) (hl : I64 line) : FnF Tryz.prog 42 [.pointer (some ⟨b, 0, none⟩), .int .i64 line] [MemRB b c ms] F (fun r L' => r = .tuple [wv (lineWo c ms line), .int .i64 (joinE c line 0)].toArray ∧ L' = [MemRB b c ms]) := by
  refine FnF.mk' Tryz.func42 rfl rfl Tryz.ntmps42 rfl ?_
  refine memr_open fun g hf => ?_
  have hf1 := hf
  obtain ⟨hb, hn, h8⟩ := hf1
  by_cases hl0 : line < 0
  · have e0 : okJoin c line 0 = false := by simp [okJoin]; omega
    repeat (first | rintro _ _ ⟨rfl, rfl⟩ | refine exq fun _ => ?_ | intro _ | refine go ?_ | refine dr_Mem12_42 ?_ | refine drq ?_)
    (apply WE_ret rfl rfl (by (repeat (first | exact ResOk.nil | (apply ResOk.tmp; rfl) | (apply resOk_cell; rfl; exact inferInstance; rfl; rfl)))))
    · exact ⟨by simp [lineWo, joinE, e0, Words.zero], rfl⟩
    · ((repeat (first | (with_reducible exact Ent.refl) | exact Ent.nil | (apply ent_pickE; (focus ((repeat (first | (with_reducible exact pk_here) | (apply pk_there))); done))) | (apply memr_in) | apply Ent.drop)); all_goals (first | rfl | (with_reducible assumption) | (simp; done) | (simp; omega) | omega | (constructor <;> (simp) <;> omega)))
  · by_cases hl1 : line ≥ c.lines
    · have e0 : okJoin c line 0 = false := by simp [okJoin]; omega
      repeat (first | rintro _ _ ⟨rfl, rfl⟩ | refine exq fun _ => ?_ | intro _ | refine go ?_ | refine dr_Mem12_42 ?_ | refine drq ?_)
      (apply WE_ret rfl rfl (by (repeat (first | exact ResOk.nil | (apply ResOk.tmp; rfl) | (apply resOk_cell; rfl; exact inferInstance; rfl; rfl)))))
      · exact ⟨by simp [lineWo, joinE, e0, Words.zero], rfl⟩
      · ((repeat (first | (with_reducible exact Ent.refl) | exact Ent.nil | (apply ent_pickE; (focus ((repeat (first | (with_reducible exact pk_here) | (apply pk_there))); done))) | (apply memr_in) | apply Ent.drop)); all_goals (first | rfl | (with_reducible assumption) | (simp; done) | (simp; omega) | omega | (constructor <;> (simp) <;> omega)))
    · have e0 : okJoin c line 0 = true := by
        have := check_words hb
        simp [okJoin, hb]; omega
      obtain ⟨r1, r2, r3, r4⟩ := line_rd hn e0
      have jf := join_facts e0 hn
      have hf0 : line * c.words = ((lineF c line : Nat) : Int) := by unfold lineF; omega
      repeat (first | rintro _ _ ⟨rfl, rfl⟩ | refine exq fun _ => ?_ | intro _ | refine go ?_ | refine dr_Mem12_42 ?_ | refine drq ?_)
      rename_i b4 b6
      apply WC_loopE (E0 := [(0, _), (1, _), (4, _), (6, _)]) (fun E0 (i : Nat) => (7, .int .i64 i) :: E0) (fun i => Cells b6 36 (wc (Words.of ((lineL c ms line).take i))) :: Cells b4 36 (wc .zero) :: Cells b 228 (c.cells ++ [.slice (some ⟨g, 0, none⟩) ms.length ms.length]) :: Cells g 3 (flat ic ms) :: F) (fun i => i ≤ c.words.toNat) (fun i => c.words.toNat - i) 0
      · (repeat (first | exact Sub.nil | (refine Sub.cons (by first | rfl | (simp only [Nat.zero_add]; rfl)) ?_)))
      · exact Nat.zero_le _
      · rw [List.take_zero, show Words.of [] = .zero from rfl]; exact entu0
      · intro i hi
        by_cases hlt : i < c.words.toNat
        · have hi8 : i < 8 := by omega
          have hil : i < (lineL c ms line).length := by omega
          have hgl : lineF c line + i < ms.length := by omega
          have ev : ms[lineF c line + i] = (lineL c ms line)[i] := by simp [lineL]
          have hgi : (flat ic ms)[0 + (line * c.words + (i : Int)).toNat * 1]? = some (.int .i64 (lineL c ms line)[i]) := by
            rw [show 0 + (line * c.words + (i : Int)).toNat * 1 = lineF c line + i by omega, ← ev]; exact flat_ic_get hgl
          have hle : Nat.ble (0 + ((i : Nat) : Int).toNat * 1 + 1) (wc (Words.of ((lineL c ms line).take i))).length = true := by
            apply Nat.ble_eq_true_of_le
            simp; omega
          repeat (first | rintro _ _ ⟨rfl, rfl⟩ | refine exq fun _ => ?_ | intro _ | refine go ?_ | refine dr_Mem12_42 ?_ | refine drq ?_)
          (apply WT_k; rfl; (first | exact GIn.none | (apply gin_t; rfl; rfl; (first | (with_reducible rfl) | exact congrArg Value.bool (by with_reducible assumption) | exact congrArg Value.bool (dec_t (by first | (with_reducible assumption) | (with_reducible rfl) | (with_reducible exact nn_eq) | (with_reducible exact nn_ne) | omega | decide | exact rfl)))) | (apply gin_f; rfl; rfl; (first | (with_reducible rfl) | exact congrArg Value.bool (by with_reducible assumption) | exact congrArg Value.bool (dec_f (by first | (with_reducible assumption) | (with_reducible rfl) | (with_reducible exact nn_eq) | (with_reducible exact nn_ne) | omega | decide | exact rfl))))); exact K_store (cs := [.int .i64 (lineL c ms line)[i]]) rfl rfl inferInstance rfl rfl rfl hle; refine same_intro ?_)
          rw [w12_splice hi8, w12_step hil (by omega), Words.of_list]
          repeat (first | rintro _ _ ⟨rfl, rfl⟩ | refine exq fun _ => ?_ | intro _ | refine go ?_ | refine dr_Mem12_42 ?_ | refine drq ?_)
          refine WE_loop (i + 1) (by omega) (by omega) ?_ ?_
          · (repeat (first | exact Sub.nil | (refine Sub.cons (by first | rfl | (simp only [Nat.zero_add]; rfl)) ?_)))
          · exact entu0
        · have hil : i = c.words.toNat := by omega
          subst hil
          rw [List.take_of_length_le (by omega)]
          repeat (first | rintro _ _ ⟨rfl, rfl⟩ | refine exq fun _ => ?_ | intro _ | refine go ?_ | refine dr_Mem12_42 ?_ | refine drq ?_)
          (apply WE_ret rfl rfl (by (repeat (first | exact ResOk.nil | (apply ResOk.tmp; rfl) | (apply resOk_cell; rfl; exact inferInstance; rfl; rfl)))))
          · exact ⟨by simp [lineWo, joinE, e0], rfl⟩
          · ((repeat (first | (with_reducible exact Ent.refl) | exact Ent.nil | (apply ent_pickE; (focus ((repeat (first | (with_reducible exact pk_here) | (apply pk_there))); done))) | (apply memr_in) | apply Ent.drop)); all_goals (first | rfl | (with_reducible assumption) | (simp; done) | (simp; omega) | omega | (constructor <;> (simp) <;> omega)))
/-- Words that are being written. -/
def w12L (ms : List Int) (f : Nat) (w : Words) (i : Nat) : List Int := ms.take f ++ w.list.take i ++ ms.drop (f + i)
theorem w12L_len {ms : List Int} {f i : Nat} {w : Words} (h : f + i ≤ ms.length) (h8 : i ≤ 8) : (w12L ms f w i).length = ms.length := wr_len h h8
theorem w12L_step {ms : List Int} {f i : Nat} {w : Words} (h : f + i < ms.length) (h8 : i < 8) : (w12L ms f w i).set (f + i) (w.list.getD i 0) = w12L ms f w (i + 1) := by
  unfold w12L
  have hwl : i < w.list.length := h8
  have e1 : f + i = (ms.take f ++ w.list.take i).length := by
    rw [List.length_append, List.length_take, List.length_take, Words.list_len]; omega
  have e2 : ms.take f ++ w.list.take (i + 1) = (ms.take f ++ w.list.take i) ++ [w.list.getD i 0] := by
    rw [List.take_add_one, List.getElem?_eq_getElem hwl, List.getD_eq_getElem?_getD, List.getElem?_eq_getElem hwl, List.append_assoc]; rfl
  rw [e2, List.drop_eq_getElem_cons h, ← Nat.add_assoc]
  generalize ms[f + i] = x
  generalize List.drop (f + i + 1) ms = r
  generalize ms.take f ++ w.list.take i = p at e1
  rw [e1]
  simp [List.set_append]
theorem dr_Mem12_107 {Q P : Prop} (k : Q) (h : Hid Q → P := by
  intro k
  first
  | (refine is_draw ?_; apply WC_mix (id := 11) .true _ (pl := .p 0 <| .p 1 <| .p 2 <| .p 4 <| .p 5 <| .p 6 <| .p 7 <| .p 8 <| .p 11 <| .p 13 <| .p 14 <| .r 3 <| .r 9 <| .p 10 <| .p 12 <| .r 15 <| .p 16 <| .e true [(17, .done)]); exact mixed; kernel_rfl; kernel_rfl; exact Ent.refl; exact k.out)) : P := h ⟨k⟩
theorem ref12_Write {F : List HP} {b : Nat} {c : Cfg} {ms : List Int} {line : Int} {w : Words} (hc : c.wf) (hl : I64 line) : FnF Tryz.prog 107 [.pointer (some ⟨b, 0, none⟩), .int .i64 line, wv w] [MemRB b c ms] F (fun r L' => r = .int .i64 (wrE c line w) ∧ L' = [MemRB b c (wrL c ms line w)]) := by
  refine FnF.mk' Tryz.func107 rfl rfl Tryz.ntmps107 rfl ?_
  refine memr_open fun g hf => ?_
  have hf1 := hf
  obtain ⟨hb, hn, h8⟩ := hf1
  by_cases hl0 : line < 0
  · have e0 : wrOk c line w = false := by simp [wrOk, okJoin]; omega
    repeat (first | rintro _ _ ⟨rfl, rfl⟩ | refine exq fun _ => ?_ | intro _ | refine go ?_ | refine dr_Mem12_107 ?_ | refine drq ?_)
    (apply WE_ret rfl rfl (by (repeat (first | exact ResOk.nil | (apply ResOk.tmp; rfl) | (apply resOk_cell; rfl; exact inferInstance; rfl; rfl)))))
    · exact ⟨by simp [wrE, e0], rfl⟩
    · simp only [wrL, e0, Bool.false_eq_true, if_false]; ((repeat (first | (with_reducible exact Ent.refl) | exact Ent.nil | (apply ent_pickE; (focus ((repeat (first | (with_reducible exact pk_here) | (apply pk_there))); done))) | (apply memr_in) | apply Ent.drop)); all_goals (first | rfl | (with_reducible assumption) | (simp; done) | (simp; omega) | omega | (constructor <;> (simp) <;> omega)))
  · by_cases hl1 : line ≥ c.lines
    · have e0 : wrOk c line w = false := by simp [wrOk, okJoin]; omega
      repeat (first | rintro _ _ ⟨rfl, rfl⟩ | refine exq fun _ => ?_ | intro _ | refine go ?_ | refine dr_Mem12_107 ?_ | refine drq ?_)
      (apply WE_ret rfl rfl (by (repeat (first | exact ResOk.nil | (apply ResOk.tmp; rfl) | (apply resOk_cell; rfl; exact inferInstance; rfl; rfl)))))
      · exact ⟨by simp [wrE, e0], rfl⟩
      · simp only [wrL, e0, Bool.false_eq_true, if_false]; ((repeat (first | (with_reducible exact Ent.refl) | exact Ent.nil | (apply ent_pickE; (focus ((repeat (first | (with_reducible exact pk_here) | (apply pk_there))); done))) | (apply memr_in) | apply Ent.drop)); all_goals (first | rfl | (with_reducible assumption) | (simp; done) | (simp; omega) | omega | (constructor <;> (simp) <;> omega)))
    · have e0 : okJoin c line 0 = true := by
        have := check_words hb
        simp [okJoin, hb]; omega
      obtain ⟨r1, r2, r3, r4⟩ := line_rd hn e0
      have jf := join_facts e0 hn
      have hf0 : line * c.words = ((lineF c line : Nat) : Int) := by unfold lineF; omega
      repeat (first | rintro _ _ ⟨rfl, rfl⟩ | refine exq fun _ => ?_ | intro _ | refine go ?_ | refine dr_Mem12_107 ?_ | refine drq ?_)
      rename_i bw
      apply WC_loopE (E0 := [(0, _), (1, _), (5, _)]) (fun E0 (q : Int) => (7, .int .i64 q) :: E0) (fun _ => Cells bw 36 (wc w) :: Cells b 228 (c.cells ++ [.slice (some ⟨g, 0, none⟩) ms.length ms.length]) :: Cells g 3 (flat ic ms) :: F) (fun q => (c.words ≤ q ∧ q ≤ 8) ∧ ∀ j : Nat, c.words ≤ j → (j : Int) < q → w.list.getD j 0 = 0) (fun q => (8 - q).toNat) c.words
      · (repeat (first | exact Sub.nil | (refine Sub.cons (by first | rfl | (simp only [Nat.zero_add]; rfl)) ?_)))
      · exact ⟨by omega, fun j h1 h2 => by omega⟩
      · exact entu0
      · rintro q ⟨hq, h1⟩
        obtain ⟨i, rfl⟩ : ∃ i : Nat, q = i := ⟨q.toNat, by omega⟩
        by_cases hlt : (i : Int) < 8
        · have hg := w12_cell w i (by omega)
          by_cases h0 : w.list.getD i 0 = 0
          · repeat (first | rintro _ _ ⟨rfl, rfl⟩ | refine exq fun _ => ?_ | intro _ | refine go ?_ | refine dr_Mem12_107 ?_ | refine drq ?_)
            refine WE_loop ((i : Int) + 1) (by omega) ⟨by omega, fun j h2 h3 => ?_⟩ ?_ ?_
            · by_cases e : j = i
              · subst e; exact h0
              · exact h1 j h2 (by omega)
            · (repeat (first | exact Sub.nil | (refine Sub.cons (by first | rfl | (simp only [Nat.zero_add]; rfl)) ?_)))
            · exact entu0
          · have hw : wrOk c line w = false := by
              have : tailZ c w = false := by
                unfold tailZ
                rw [List.all_eq_false]
                have hi8 : i < w.list.length := by rw [Words.list_len]; omega
                have hm : w.list.getD i 0 = w.list[i] := by rw [List.getD_eq_getElem?_getD, List.getElem?_eq_getElem hi8]; rfl
                refine ⟨w.list[i], List.mem_drop_iff_getElem.2 ⟨i - c.words.toNat, by omega, by congr 1; omega⟩, ?_⟩
                rw [← hm]; simpa using h0
              simp [wrOk, this]
            repeat (first | rintro _ _ ⟨rfl, rfl⟩ | refine exq fun _ => ?_ | intro _ | refine go ?_ | refine dr_Mem12_107 ?_ | refine drq ?_)
            (apply WE_ret rfl rfl (by (repeat (first | exact ResOk.nil | (apply ResOk.tmp; rfl) | (apply resOk_cell; rfl; exact inferInstance; rfl; rfl)))))
            · exact ⟨by simp [wrE, hw], rfl⟩
            · simp only [wrL, hw, Bool.false_eq_true, if_false]; ((repeat (first | (with_reducible exact Ent.refl) | exact Ent.nil | (apply ent_pickE; (focus ((repeat (first | (with_reducible exact pk_here) | (apply pk_there))); done))) | (apply memr_in) | apply Ent.drop)); all_goals (first | rfl | (with_reducible assumption) | (simp; done) | (simp; omega) | omega | (constructor <;> (simp) <;> omega)))
        · have hw : wrOk c line w = true := by
            have : tailZ c w = true := by
              unfold tailZ
              rw [List.all_eq_true]
              intro x hx
              obtain ⟨j, hj, rfl⟩ := List.mem_drop_iff_getElem.1 hx
              have hjl := Words.list_len w
              have := h1 (j + c.words.toNat) (by omega) (by omega)
              rw [List.getD_eq_getElem?_getD, List.getElem?_eq_getElem (by omega), Option.getD_some] at this
              rw [decide_eq_true_eq, ← this]; congr 1; omega
            simp [wrOk, this, e0]
          have e1 : wrE c line w = 0 := by simp [wrE, hw]
          have e2 : wrL c ms line w = w12L ms (lineF c line) w c.words.toNat := by simp only [wrL, hw, if_true]; rfl
          rw [e1, e2]
          repeat (first | rintro _ _ ⟨rfl, rfl⟩ | refine exq fun _ => ?_ | intro _ | refine go ?_ | refine dr_Mem12_107 ?_ | refine drq ?_)
          apply WC_loopE (E0 := [(0, _), (1, _), (5, _)]) (fun E0 (i : Nat) => (8, .int .i64 i) :: E0) (fun i => Cells bw 36 (wc w) :: Cells b 228 (c.cells ++ [.slice (some ⟨g, 0, none⟩) ms.length ms.length]) :: Cells g 3 (flat ic (w12L ms (lineF c line) w i)) :: F) (fun i => i ≤ c.words.toNat) (fun i => c.words.toNat - i) 0
          · (repeat (first | exact Sub.nil | (refine Sub.cons (by first | rfl | (simp only [Nat.zero_add]; rfl)) ?_)))
          · exact Nat.zero_le _
          · rw [show w12L ms (lineF c line) w 0 = ms by simp [w12L]]; exact entu0
          · intro k hk
            by_cases hk1 : k < c.words.toNat
            · have hg := w12_cell w k (by omega)
              have hlen := w12L_len (ms := ms) (f := lineF c line) (w := w) (i := k) (by omega) (by omega)
              have hgl : lineF c line + k < ms.length := by omega
              have hst := w12L_step (ms := ms) (f := lineF c line) (w := w) (i := k) hgl (by omega)
              have hix : 0 + (line * c.words + (k : Int)).toNat * 1 = lineF c line + k := by omega
              have hle : Nat.ble (0 + (line * c.words + (k : Int)).toNat * 1 + 1) (flat ic (w12L ms (lineF c line) w k)).length = true := by
                apply Nat.ble_eq_true_of_le
                rw [flat_ic_len, hix]; omega
              repeat (first | rintro _ _ ⟨rfl, rfl⟩ | refine exq fun _ => ?_ | intro _ | refine go ?_ | refine dr_Mem12_107 ?_ | refine drq ?_)
              (apply WT_k; rfl; (first | exact GIn.none | (apply gin_t; rfl; rfl; (first | (with_reducible rfl) | exact congrArg Value.bool (by with_reducible assumption) | exact congrArg Value.bool (dec_t (by first | (with_reducible assumption) | (with_reducible rfl) | (with_reducible exact nn_eq) | (with_reducible exact nn_ne) | omega | decide | exact rfl)))) | (apply gin_f; rfl; rfl; (first | (with_reducible rfl) | exact congrArg Value.bool (by with_reducible assumption) | exact congrArg Value.bool (dec_f (by first | (with_reducible assumption) | (with_reducible rfl) | (with_reducible exact nn_eq) | (with_reducible exact nn_ne) | omega | decide | exact rfl))))); exact K_store (cs := [.int .i64 (w.list.getD k 0)]) rfl rfl inferInstance rfl rfl rfl hle; refine same_intro ?_)
              rw [hix, splice_ic (by omega), hst]
              repeat (first | rintro _ _ ⟨rfl, rfl⟩ | refine exq fun _ => ?_ | intro _ | refine go ?_ | refine dr_Mem12_107 ?_ | refine drq ?_)
              refine WE_loop (k + 1) (by omega) (by omega) ?_ ?_
              · (repeat (first | exact Sub.nil | (refine Sub.cons (by first | rfl | (simp only [Nat.zero_add]; rfl)) ?_)))
              · exact entu0
            · have hil : k = c.words.toNat := by omega
              subst hil
              have hlen := w12L_len (ms := ms) (f := lineF c line) (w := w) (i := c.words.toNat) (by omega) (by omega)
              repeat (first | rintro _ _ ⟨rfl, rfl⟩ | refine exq fun _ => ?_ | intro _ | refine go ?_ | refine dr_Mem12_107 ?_ | refine drq ?_)
              (apply WE_ret rfl rfl (by (repeat (first | exact ResOk.nil | (apply ResOk.tmp; rfl) | (apply resOk_cell; rfl; exact inferInstance; rfl; rfl)))))
              · exact ⟨rfl, rfl⟩
              · apply memr_in
                · exact entu0
                · exact hlen.symm
                · rfl
                · rw [hlen]; exact hf
end Go.Sx
