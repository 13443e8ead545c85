/- The laws of memories. My own work. -/
import Derived.Test.YtadedfcjakhfbaaMem2
import Derived.Test.YtadedfcjakhfbaaMemPl
namespace Go.Sx
open Go Go.Proofs
set_option linter.unusedVariables false
set_option linter.unusedSectionVars false
set_option linter.unusedSimpArgs false
theorem wc_iff {a b : Words} : wc a = wc b ↔ a = b := by
  rcases a with ⟨w0, w1, w2, w3, w4, w5, w6, w7⟩
  rcases b with ⟨v0, v1, v2, v3, v4, v5, v6, v7⟩
  simp [wc]
theorem WO_memf {b : Nat} {c0 : Cfg} {ms : List Int} {P : Program} {N : Nat} {all : Array Oper} {c : List Oper} {env : Env} {L : List HP} {Q : Exit → Act → World → Prop}
    (h : (checkB c0 = true ∧ (ms.length : Int) = c0.words * c0.lines ∧ ms.length ≤ 8192) → WO P N all c env (MemB b c0 ms :: L) Q) : WO P N all c env (MemB b c0 ms :: L) Q := fun a w ha hw => h (mem_sat hw).1 a w ha hw
set_option maxRecDepth 100000
set_option maxHeartbeats 4000000
attribute [local irreducible] Go.Exit.then Go.Exit.inBlock Go.Code.wp WC WO WE WQ V LoopQ FnQ Sat Star band bor IntKind.wrap WR Code.rounds WT KO
abbrev c12 : Cfg := ⟨1, 1, 1, 1, 2, 2, 0, 1, 1, 1, 1, 1, 1⟩
theorem law12_awake {F : List HP} : FnF Try.prog 77 [] [] F (fun r L' => r = .bool true ∧ L' = []) := by
  have hw : c12.wf := by simp [Cfg.wf, I64, c12]
  have hw0 : (⟨0, 0, 0, 0, 0, 0, 0, 0, 0, 0, 0, 0, 0⟩ : Cfg).wf := by simp [Cfg.wf, I64]
  have hN := fun F => mem_New (F := F) (c := c12) hw (by decide)
  have hN0 := fun F => mem_New_no (F := F) (c := ⟨0, 0, 0, 0, 0, 0, 0, 0, 0, 0, 0, 0, 0⟩) hw0 (by decide)
  have hD1 := fun F b ms => mem_Do (F := F) (b := b) (c := c12) (ms := ms) (x := ⟨2, 3, 7⟩)
  have hD2 := fun F b ms => mem_Do (F := F) (b := b) (c := c12) (ms := ms) (x := ⟨3, 3, 9⟩)
  have hD3 := fun F b ms => mem_Do (F := F) (b := b) (c := c12) (ms := ms) (x := ⟨1, 3, 0⟩)
  have hD4 := fun F b ms => mem_Do (F := F) (b := b) (c := c12) (ms := ms) (x := ⟨1, 4, 0⟩)
  have hL := fun F b ms => mem_Line (F := F) (b := b) (ms := ms) (c := c12) (line := 1) hw (by unfold I64; omega)
  have hW := fun F b ms => mem_Write (F := F) (b := b) (ms := ms) (c := c12) (line := 0) (w := ⟨5, 6, 0, 0, 0, 0, 0, 0⟩) hw (by unfold I64; omega)
  have hW2 := fun F b ms => mem_Write (F := F) (b := b) (ms := ms) (c := c12) (line := 2) (w := .zero) hw (by unfold I64; omega)
  have hA := fun F => mem_Apply (F := F) (c := c12) (w := ⟨1, 2, 0, 0, 0, 0, 0, 0⟩) (x := ⟨3, 3, 8⟩) hw (by simp [Op3.wf, I64])
  refine FnF.mk' Try.func77 rfl rfl Try.ntmps77 rfl ?_
  repeat (first | rintro _ _ ⟨rfl, rfl⟩ | rintro _ _ ⟨_, rfl, rfl⟩ | rintro _ _ ⟨_, _, rfl, rfl⟩ | intro _ | refine go ?_ | (refine is_draw ?_; refine WC_draw mixed (by kernel_rfl) ?_) | refine cal @hN ?_ | refine cal @hN0 ?_ | refine cal @hD1 ?_ | refine cal @hD2 ?_ | refine cal @hD3 ?_ | refine cal @hD4 ?_ | refine cal @hL ?_ | refine cal @hW ?_ | refine cal @hW2 ?_ | refine cal @hA ?_ | refine cal @mem_Word ?_)
  (apply WE_ret rfl rfl (by (repeat (first | exact ResOk.nil | (apply ResOk.tmp; rfl) | (apply resOk_cell; rfl; exact inferInstance; rfl; rfl)))); (first | exact ⟨rfl, rfl⟩ | exact ⟨congrArg Value.bool (by decide), rfl⟩ | exact ⟨_, rfl, rfl⟩ | exact ⟨_, _, rfl, rfl⟩ | exact ⟨by first | (simp []; done) | (simp [] <;> omega), rfl⟩); (repeat (first | exact Ent.refl | exact Ent.nil | apply Ent.pick | apply Ent.drop)))

def memStp (c : Cfg) (ms : List Int) (s : MStep) : List Int := if s.d = 0 then memDoL ms s.x else wrL c ms s.n s.words

theorem law12_Last {W : World} {F : List HP} {c : Cfg} {v : Value} {l : List MStep} {x y : Op3} (hc : c.wf) (hx : x.wf) (hy : y.wf) (hw : ∀ s ∈ l, s.wf) (hl : l.length ≤ 9223372036854775807) (k : ROld W 13 v l.length (flat msc l)) :
    FnF Try.prog 13 [c.val, v, ov x, ov y] [Old W] F (fun r L' => r = .bool true ∧ L' = [Old W]) := by
  refine FnF.mk' Try.func13 rfl rfl Try.ntmps13 rfl ?_
  by_cases hm : 60 < l.length
  · repeat (first | rintro _ _ ⟨rfl, rfl⟩ | rintro _ _ ⟨_, rfl, rfl⟩ | rintro _ _ ⟨_, _, rfl, rfl⟩ | intro _ | refine go ?_ | (refine is_draw ?_; refine WC_draw mixed (by kernel_rfl) ?_) | refine cal @law12_awake ?_)
    (apply WE_ret rfl rfl (by (repeat (first | exact ResOk.nil | (apply ResOk.tmp; rfl) | (apply resOk_cell; rfl; exact inferInstance; rfl; rfl)))); (first | exact ⟨rfl, rfl⟩ | exact ⟨congrArg Value.bool (by decide), rfl⟩ | exact ⟨_, rfl, rfl⟩ | exact ⟨_, _, rfl, rfl⟩ | exact ⟨by first | (simp []; done) | (simp [] <;> omega), rfl⟩); (repeat (first | exact Ent.refl | exact Ent.nil | apply Ent.pick | apply Ent.drop)))
  · cases e : checkB c with
    | false =>
      have hN := fun F => mem_New_no (F := F) hc e
      repeat (first | rintro _ _ ⟨rfl, rfl⟩ | rintro _ _ ⟨_, rfl, rfl⟩ | rintro _ _ ⟨_, _, rfl, rfl⟩ | intro _ | refine go ?_ | (refine is_draw ?_; refine WC_draw mixed (by kernel_rfl) ?_) | refine cal @law12_awake ?_ | refine cal @hN ?_)
      (apply WE_ret rfl rfl (by (repeat (first | exact ResOk.nil | (apply ResOk.tmp; rfl) | (apply resOk_cell; rfl; exact inferInstance; rfl; rfl)))); (first | exact ⟨rfl, rfl⟩ | exact ⟨congrArg Value.bool (by decide), rfl⟩ | exact ⟨_, rfl, rfl⟩ | exact ⟨_, _, rfl, rfl⟩ | exact ⟨by first | (simp []; done) | (simp [] <;> omega), rfl⟩); (repeat (first | exact Ent.refl | exact Ent.nil | apply Ent.pick | apply Ent.drop)))
    | true =>
      have hN := fun F => mem_New (F := F) hc e
      repeat (first | rintro _ _ ⟨rfl, rfl⟩ | rintro _ _ ⟨_, rfl, rfl⟩ | rintro _ _ ⟨_, _, rfl, rfl⟩ | intro _ | refine go ?_ | (refine is_draw ?_; refine WC_draw mixed (by kernel_rfl) ?_) | refine cal @law12_awake ?_ | refine cal @hN ?_)
      rename_i bc bx by' bm
      apply WC_loopE (E0 := [(6, _), (7, _), (9, _), (31, _), (32, _)]) (fun E0 (p : Nat × List Int) => (33, .int .i64 p.1) :: E0) (fun p => MemB bm c p.2 :: Cells by' 132 (oc y) :: Cells bx 132 (oc x) :: Old W :: F) (fun p => p.1 ≤ l.length) (fun p => l.length - p.1) (0, _)
      · (repeat (first | exact Sub.nil | (refine Sub.cons (by first | rfl | (simp only [Nat.zero_add]; rfl)) ?_)))
      · exact Nat.zero_le _
      · (repeat (first | (with_reducible exact Ent.refl) | exact Ent.nil | (apply ent_pickE; (focus ((repeat (first | (with_reducible exact pk_here) | (apply pk_there))); done))) | apply Ent.drop))
      · rintro ⟨i, ms⟩ hi
        dsimp only at hi ⊢
        by_cases hlt : i < l.length
        · have hwi := hw _ (List.getElem_mem hlt)
          by_cases g0 : l[i].d = 0
          · repeat (first | rintro _ _ ⟨rfl, rfl⟩ | rintro _ _ ⟨_, rfl, rfl⟩ | rintro _ _ ⟨_, _, rfl, rfl⟩ | intro _ | refine go ?_ | (refine is_draw ?_; refine WC_draw mixed (by kernel_rfl) ?_) | refine cal @mem_Do ?_)
            refine WE_loop (i + 1, memDoL ms l[i].x) (by dsimp only; omega) (by dsimp only; omega) ?_ ?_
            · (repeat (first | exact Sub.nil | (refine Sub.cons (by first | rfl | (simp only [Nat.zero_add]; rfl)) ?_)))
            · (repeat (first | (with_reducible exact Ent.refl) | exact Ent.nil | (apply ent_pickE; (focus ((repeat (first | (with_reducible exact pk_here) | (apply pk_there))); done))) | apply Ent.drop))
          · have hW := fun F b ms => mem_Write (F := F) (b := b) (ms := ms) (line := l[i].n) (w := l[i].words) hc hwi.2.1
            repeat (first | rintro _ _ ⟨rfl, rfl⟩ | rintro _ _ ⟨_, rfl, rfl⟩ | rintro _ _ ⟨_, _, rfl, rfl⟩ | intro _ | refine go ?_ | (refine is_draw ?_; refine WC_draw mixed (by kernel_rfl) ?_) | refine cal @hW ?_)
            refine WE_loop (i + 1, wrL c ms l[i].n l[i].words) (by dsimp only; omega) (by dsimp only; omega) ?_ ?_
            · (repeat (first | exact Sub.nil | (refine Sub.cons (by first | rfl | (simp only [Nat.zero_add]; rfl)) ?_)))
            · (repeat (first | (with_reducible exact Ent.refl) | exact Ent.nil | (apply ent_pickE; (focus ((repeat (first | (with_reducible exact pk_here) | (apply pk_there))); done))) | apply Ent.drop))
        · have hD := fun F => mem_Do (F := F) (b := bm) (c := c) (ms := ms) (x := x)
          have hy' := fun F ms => mem_Do (F := F) (b := bm) (c := c) (ms := ms) (x := y)
          have hW0 := fun F => mem_Word (F := F) (b := bm) (c := c) (ms := ms) (a := x.addr)
          cases ed : doOk ms x with
          | false =>
            have q1 : memDoV ms x = 0 := by simp [memDoV, ed]
            have q2 : memDoE ms x = 1 := by simp [memDoE, ed]
            have q3 : memDoL ms x = ms := by simp [memDoL, ed]
            simp only [q1, q2, q3] at hD
            repeat (first | rintro _ _ ⟨rfl, rfl⟩ | rintro _ _ ⟨_, rfl, rfl⟩ | rintro _ _ ⟨_, _, rfl, rfl⟩ | intro _ | refine go ?_ | (refine is_draw ?_; refine WC_draw mixed (by kernel_rfl) ?_) | refine cal @hD ?_ | refine cal @hW0 ?_)
            (apply WE_ret rfl rfl (by (repeat (first | exact ResOk.nil | (apply ResOk.tmp; rfl) | (apply resOk_cell; rfl; exact inferInstance; rfl; rfl)))); (first | exact ⟨rfl, rfl⟩ | exact ⟨congrArg Value.bool (by decide), rfl⟩ | exact ⟨_, rfl, rfl⟩ | exact ⟨_, _, rfl, rfl⟩ | exact ⟨by first | (simp []; done) | (simp [] <;> omega), rfl⟩); (repeat (first | exact Ent.refl | exact Ent.nil | apply Ent.pick | apply Ent.drop)))
          | true =>
            obtain ⟨f1, f2, f3, f4, f5⟩ := doOk_facts ed
            have q2 : memDoE ms x = 0 := by simp [memDoE, ed]
            simp only [q2] at hD
            have q4 := word_do ed
            have q5 := doV_was ed
            have hlen := memDoL_len ms x
            generalize hm2 : memDoL ms x = ms2 at hD q4 hlen
            generalize hwas : wordAt ms x.addr = was at hW0 q4 q5
            generalize hv : memDoV ms x = dv at hD q5
            have hW2 := fun F => mem_Word (F := F) (b := bm) (c := c) (ms := ms2) (a := x.addr)
            by_cases hne : y.addr = x.addr
            · have hL := fun F => mem_Do (F := F) (b := bm) (c := c) (ms := ms2) (x := ⟨1, x.addr, 0⟩)
              have e1 := doOk_load (ms := ms2) (a := x.addr) f2 (by omega) f4
              have e2 : memDoE ms2 ⟨1, x.addr, 0⟩ = 0 := by simp [memDoE, e1]
              have e3 : memDoV ms2 ⟨1, x.addr, 0⟩ = wordAt ms2 x.addr := doV_was e1 (.inl rfl)
              simp only [e2, e3] at hL
              rcases f5 with e | e | e | e
              · rw [if_neg (by omega)] at q4
                rw [q4] at hW2 hL
                rw [q5 (.inl e)] at hD
                repeat (first | rintro _ _ ⟨rfl, rfl⟩ | rintro _ _ ⟨_, rfl, rfl⟩ | rintro _ _ ⟨_, _, rfl, rfl⟩ | intro _ | refine go ?_ | (refine is_draw ?_; refine WC_draw mixed (by kernel_rfl) ?_) | refine cal @hD ?_ | refine cal @hW0 ?_ | refine cal @hW2 ?_ | refine cal @hL ?_)
                (apply WE_ret rfl rfl (by (repeat (first | exact ResOk.nil | (apply ResOk.tmp; rfl) | (apply resOk_cell; rfl; exact inferInstance; rfl; rfl)))); (first | exact ⟨rfl, rfl⟩ | exact ⟨congrArg Value.bool (by decide), rfl⟩ | exact ⟨_, rfl, rfl⟩ | exact ⟨_, _, rfl, rfl⟩ | exact ⟨by first | (simp []; done) | (simp [] <;> omega), rfl⟩); (repeat (first | exact Ent.refl | exact Ent.nil | apply Ent.pick | apply Ent.drop)))
              · rw [if_pos (by omega)] at q4
                rw [q4] at hW2 hL
                repeat (first | rintro _ _ ⟨rfl, rfl⟩ | rintro _ _ ⟨_, rfl, rfl⟩ | rintro _ _ ⟨_, _, rfl, rfl⟩ | intro _ | refine go ?_ | (refine is_draw ?_; refine WC_draw mixed (by kernel_rfl) ?_) | refine cal @hD ?_ | refine cal @hW0 ?_ | refine cal @hW2 ?_ | refine cal @hL ?_)
                (apply WE_ret rfl rfl (by (repeat (first | exact ResOk.nil | (apply ResOk.tmp; rfl) | (apply resOk_cell; rfl; exact inferInstance; rfl; rfl)))); (first | exact ⟨rfl, rfl⟩ | exact ⟨congrArg Value.bool (by decide), rfl⟩ | exact ⟨_, rfl, rfl⟩ | exact ⟨_, _, rfl, rfl⟩ | exact ⟨by first | (simp []; done) | (simp [] <;> omega), rfl⟩); (repeat (first | exact Ent.refl | exact Ent.nil | apply Ent.pick | apply Ent.drop)))
              · rw [if_pos (by omega)] at q4
                rw [q4] at hW2 hL
                rw [q5 (.inr e)] at hD
                repeat (first | rintro _ _ ⟨rfl, rfl⟩ | rintro _ _ ⟨_, rfl, rfl⟩ | rintro _ _ ⟨_, _, rfl, rfl⟩ | intro _ | refine go ?_ | (refine is_draw ?_; refine WC_draw mixed (by kernel_rfl) ?_) | refine cal @hD ?_ | refine cal @hW0 ?_ | refine cal @hW2 ?_ | refine cal @hL ?_)
                (apply WE_ret rfl rfl (by (repeat (first | exact ResOk.nil | (apply ResOk.tmp; rfl) | (apply resOk_cell; rfl; exact inferInstance; rfl; rfl)))); (first | exact ⟨rfl, rfl⟩ | exact ⟨congrArg Value.bool (by decide), rfl⟩ | exact ⟨_, rfl, rfl⟩ | exact ⟨_, _, rfl, rfl⟩ | exact ⟨by first | (simp []; done) | (simp [] <;> omega), rfl⟩); (repeat (first | exact Ent.refl | exact Ent.nil | apply Ent.pick | apply Ent.drop)))
              · rw [if_neg (by omega)] at q4
                rw [q4] at hW2 hL
                repeat (first | rintro _ _ ⟨rfl, rfl⟩ | rintro _ _ ⟨_, rfl, rfl⟩ | rintro _ _ ⟨_, _, rfl, rfl⟩ | intro _ | refine go ?_ | (refine is_draw ?_; refine WC_draw mixed (by kernel_rfl) ?_) | refine cal @hD ?_ | refine cal @hW0 ?_ | refine cal @hW2 ?_ | refine cal @hL ?_)
                (apply WE_ret rfl rfl (by (repeat (first | exact ResOk.nil | (apply ResOk.tmp; rfl) | (apply resOk_cell; rfl; exact inferInstance; rfl; rfl)))); (first | exact ⟨rfl, rfl⟩ | exact ⟨congrArg Value.bool (by decide), rfl⟩ | exact ⟨_, rfl, rfl⟩ | exact ⟨_, _, rfl, rfl⟩ | exact ⟨by first | (simp []; done) | (simp [] <;> omega), rfl⟩); (repeat (first | exact Ent.refl | exact Ent.nil | apply Ent.pick | apply Ent.drop)))
            · have hY := fun F => mem_Do (F := F) (b := bm) (c := c) (ms := ms2) (x := y)
              have hlen3 := memDoL_len ms2 y
              have e4 := word_ne (ms := ms2) hne
              generalize hm3 : memDoL ms2 y = ms3 at hY hlen3 e4
              have hL := fun F => mem_Do (F := F) (b := bm) (c := c) (ms := ms3) (x := ⟨1, x.addr, 0⟩)
              have e1 := doOk_load (ms := ms3) (a := x.addr) f2 (by omega) f4
              have e2 : memDoE ms3 ⟨1, x.addr, 0⟩ = 0 := by simp [memDoE, e1]
              have e3 : memDoV ms3 ⟨1, x.addr, 0⟩ = wordAt ms3 x.addr := doV_was e1 (.inl rfl)
              simp only [e2, e3, e4] at hL
              rcases f5 with e | e | e | e
              · rw [if_neg (by omega)] at q4
                rw [q4] at hW2 hL
                rw [q5 (.inl e)] at hD
                repeat (first | rintro _ _ ⟨rfl, rfl⟩ | rintro _ _ ⟨_, rfl, rfl⟩ | rintro _ _ ⟨_, _, rfl, rfl⟩ | intro _ | refine go ?_ | (refine is_draw ?_; refine WC_draw mixed (by kernel_rfl) ?_) | refine cal @hD ?_ | refine cal @hW0 ?_ | refine cal @hW2 ?_ | refine cal @hY ?_ | refine cal @hL ?_)
                (apply WE_ret rfl rfl (by (repeat (first | exact ResOk.nil | (apply ResOk.tmp; rfl) | (apply resOk_cell; rfl; exact inferInstance; rfl; rfl)))); (first | exact ⟨rfl, rfl⟩ | exact ⟨congrArg Value.bool (by decide), rfl⟩ | exact ⟨_, rfl, rfl⟩ | exact ⟨_, _, rfl, rfl⟩ | exact ⟨by first | (simp []; done) | (simp [] <;> omega), rfl⟩); (repeat (first | exact Ent.refl | exact Ent.nil | apply Ent.pick | apply Ent.drop)))
              · rw [if_pos (by omega)] at q4
                rw [q4] at hW2 hL
                repeat (first | rintro _ _ ⟨rfl, rfl⟩ | rintro _ _ ⟨_, rfl, rfl⟩ | rintro _ _ ⟨_, _, rfl, rfl⟩ | intro _ | refine go ?_ | (refine is_draw ?_; refine WC_draw mixed (by kernel_rfl) ?_) | refine cal @hD ?_ | refine cal @hW0 ?_ | refine cal @hW2 ?_ | refine cal @hY ?_ | refine cal @hL ?_)
                (apply WE_ret rfl rfl (by (repeat (first | exact ResOk.nil | (apply ResOk.tmp; rfl) | (apply resOk_cell; rfl; exact inferInstance; rfl; rfl)))); (first | exact ⟨rfl, rfl⟩ | exact ⟨congrArg Value.bool (by decide), rfl⟩ | exact ⟨_, rfl, rfl⟩ | exact ⟨_, _, rfl, rfl⟩ | exact ⟨by first | (simp []; done) | (simp [] <;> omega), rfl⟩); (repeat (first | exact Ent.refl | exact Ent.nil | apply Ent.pick | apply Ent.drop)))
              · rw [if_pos (by omega)] at q4
                rw [q4] at hW2 hL
                rw [q5 (.inr e)] at hD
                repeat (first | rintro _ _ ⟨rfl, rfl⟩ | rintro _ _ ⟨_, rfl, rfl⟩ | rintro _ _ ⟨_, _, rfl, rfl⟩ | intro _ | refine go ?_ | (refine is_draw ?_; refine WC_draw mixed (by kernel_rfl) ?_) | refine cal @hD ?_ | refine cal @hW0 ?_ | refine cal @hW2 ?_ | refine cal @hY ?_ | refine cal @hL ?_)
                (apply WE_ret rfl rfl (by (repeat (first | exact ResOk.nil | (apply ResOk.tmp; rfl) | (apply resOk_cell; rfl; exact inferInstance; rfl; rfl)))); (first | exact ⟨rfl, rfl⟩ | exact ⟨congrArg Value.bool (by decide), rfl⟩ | exact ⟨_, rfl, rfl⟩ | exact ⟨_, _, rfl, rfl⟩ | exact ⟨by first | (simp []; done) | (simp [] <;> omega), rfl⟩); (repeat (first | exact Ent.refl | exact Ent.nil | apply Ent.pick | apply Ent.drop)))
              · rw [if_neg (by omega)] at q4
                rw [q4] at hW2 hL
                repeat (first | rintro _ _ ⟨rfl, rfl⟩ | rintro _ _ ⟨_, rfl, rfl⟩ | rintro _ _ ⟨_, _, rfl, rfl⟩ | intro _ | refine go ?_ | (refine is_draw ?_; refine WC_draw mixed (by kernel_rfl) ?_) | refine cal @hD ?_ | refine cal @hW0 ?_ | refine cal @hW2 ?_ | refine cal @hY ?_ | refine cal @hL ?_)
                (apply WE_ret rfl rfl (by (repeat (first | exact ResOk.nil | (apply ResOk.tmp; rfl) | (apply resOk_cell; rfl; exact inferInstance; rfl; rfl)))); (first | exact ⟨rfl, rfl⟩ | exact ⟨congrArg Value.bool (by decide), rfl⟩ | exact ⟨_, rfl, rfl⟩ | exact ⟨_, _, rfl, rfl⟩ | exact ⟨by first | (simp []; done) | (simp [] <;> omega), rfl⟩); (repeat (first | exact Ent.refl | exact Ent.nil | apply Ent.pick | apply Ent.drop)))

theorem law12_Applies {W : World} {F : List HP} {c : Cfg} {v : Value} {l : List MStep} {x : Op3} (hc : c.wf) (hx : x.wf) (hw : ∀ s ∈ l, s.wf) (hl : l.length ≤ 9223372036854775807) (k : ROld W 13 v l.length (flat msc l)) :
    FnF Try.prog 14 [c.val, v, ov x] [Old W] F (fun r L' => r = .bool true ∧ L' = [Old W]) := by
  refine FnF.mk' Try.func14 rfl rfl Try.ntmps14 rfl ?_
  by_cases hm : 60 < l.length
  · repeat (first | rintro _ _ ⟨rfl, rfl⟩ | rintro _ _ ⟨_, rfl, rfl⟩ | rintro _ _ ⟨_, _, rfl, rfl⟩ | intro _ | refine go ?_ | (refine is_draw ?_; refine WC_draw mixed (by kernel_rfl) ?_) | refine cal @law12_awake ?_)
    (apply WE_ret rfl rfl (by (repeat (first | exact ResOk.nil | (apply ResOk.tmp; rfl) | (apply resOk_cell; rfl; exact inferInstance; rfl; rfl)))); (first | exact ⟨rfl, rfl⟩ | exact ⟨congrArg Value.bool (by decide), rfl⟩ | exact ⟨_, rfl, rfl⟩ | exact ⟨_, _, rfl, rfl⟩ | exact ⟨by first | (simp []; done) | (simp [] <;> omega), rfl⟩); (repeat (first | exact Ent.refl | exact Ent.nil | apply Ent.pick | apply Ent.drop)))
  · cases e : checkB c with
    | false =>
      have hN := fun F => mem_New_no (F := F) hc e
      repeat (first | rintro _ _ ⟨rfl, rfl⟩ | rintro _ _ ⟨_, rfl, rfl⟩ | rintro _ _ ⟨_, _, rfl, rfl⟩ | intro _ | refine go ?_ | (refine is_draw ?_; refine WC_draw mixed (by kernel_rfl) ?_) | refine cal @law12_awake ?_ | refine cal @hN ?_)
      (apply WE_ret rfl rfl (by (repeat (first | exact ResOk.nil | (apply ResOk.tmp; rfl) | (apply resOk_cell; rfl; exact inferInstance; rfl; rfl)))); (first | exact ⟨rfl, rfl⟩ | exact ⟨congrArg Value.bool (by decide), rfl⟩ | exact ⟨_, rfl, rfl⟩ | exact ⟨_, _, rfl, rfl⟩ | exact ⟨by first | (simp []; done) | (simp [] <;> omega), rfl⟩); (repeat (first | exact Ent.refl | exact Ent.nil | apply Ent.pick | apply Ent.drop)))
    | true =>
      have hN := fun F => mem_New (F := F) hc e
      repeat (first | rintro _ _ ⟨rfl, rfl⟩ | rintro _ _ ⟨_, rfl, rfl⟩ | rintro _ _ ⟨_, _, rfl, rfl⟩ | intro _ | refine go ?_ | (refine is_draw ?_; refine WC_draw mixed (by kernel_rfl) ?_) | refine cal @law12_awake ?_ | refine cal @hN ?_)
      rename_i bc bx bm bn
      apply WC_loopE (E0 := [(3, _), (5, _), (7, _), (9, _), (57, _), (58, _)]) (fun E0 (p : Nat × List Int) => (59, .int .i64 p.1) :: E0) (fun p => MemB bm c p.2 :: MemB bn c p.2 :: Cells bx 132 (oc x) :: Cells bc 121 c.cells :: Old W :: F) (fun p => p.1 ≤ l.length) (fun p => l.length - p.1) (0, _)
      · (repeat (first | exact Sub.nil | (refine Sub.cons (by first | rfl | (simp only [Nat.zero_add]; rfl)) ?_)))
      · exact Nat.zero_le _
      · (repeat (first | (with_reducible exact Ent.refl) | exact Ent.nil | (apply ent_pickE; (focus ((repeat (first | (with_reducible exact pk_here) | (apply pk_there))); done))) | apply Ent.drop))
      · rintro ⟨i, ms⟩ hi
        dsimp only at hi ⊢
        by_cases hlt : i < l.length
        · have hwi := hw _ (List.getElem_mem hlt)
          by_cases g0 : l[i].d = 0
          · repeat (first | rintro _ _ ⟨rfl, rfl⟩ | rintro _ _ ⟨_, rfl, rfl⟩ | rintro _ _ ⟨_, _, rfl, rfl⟩ | intro _ | refine go ?_ | (refine is_draw ?_; refine WC_draw mixed (by kernel_rfl) ?_) | refine cal @mem_Do ?_)
            refine WE_loop (i + 1, memDoL ms l[i].x) (by dsimp only; omega) (by dsimp only; omega) ?_ ?_
            · (repeat (first | exact Sub.nil | (refine Sub.cons (by first | rfl | (simp only [Nat.zero_add]; rfl)) ?_)))
            · (repeat (first | (with_reducible exact Ent.refl) | exact Ent.nil | (apply ent_pickE; (focus ((repeat (first | (with_reducible exact pk_here) | (apply pk_there))); done))) | apply Ent.drop))
          · have hW := fun F b ms => mem_Write (F := F) (b := b) (ms := ms) (line := l[i].n) (w := l[i].words) hc hwi.2.1
            repeat (first | rintro _ _ ⟨rfl, rfl⟩ | rintro _ _ ⟨_, rfl, rfl⟩ | rintro _ _ ⟨_, _, rfl, rfl⟩ | intro _ | refine go ?_ | (refine is_draw ?_; refine WC_draw mixed (by kernel_rfl) ?_) | refine cal @hW ?_)
            refine WE_loop (i + 1, wrL c ms l[i].n l[i].words) (by dsimp only; omega) (by dsimp only; omega) ?_ ?_
            · (repeat (first | exact Sub.nil | (refine Sub.cons (by first | rfl | (simp only [Nat.zero_add]; rfl)) ?_)))
            · (repeat (first | (with_reducible exact Ent.refl) | exact Ent.nil | (apply ent_pickE; (focus ((repeat (first | (with_reducible exact pk_here) | (apply pk_there))); done))) | apply Ent.drop))
        · repeat (first | rintro _ _ ⟨rfl, rfl⟩ | rintro _ _ ⟨_, rfl, rfl⟩ | rintro _ _ ⟨_, _, rfl, rfl⟩ | intro _ | refine go ?_)
          refine WO_memf fun hf => ?_
          have hA := fun F => split_Addr (F := F) (c := c) (a := x.addr) hc hx.2.1
          have hM := fun F => program_May (F := F) (x := x)
          have hP := fun F w => mem_Apply (F := F) (c := c) (w := w) (x := x) hc hx
          cases ea : apOk c x with
          | false =>
            have e1 : apE c x = 1 := by simp [apE, ea]
            simp only [e1] at hP
            have hP0 := fun F => hP F .zero
            cases e2 : okAddr c x.addr with
            | false =>
              simp only [addrE, e2, Bool.false_eq_true, if_false] at hA
              repeat (first | rintro _ _ ⟨rfl, rfl⟩ | rintro _ _ ⟨_, rfl, rfl⟩ | rintro _ _ ⟨_, _, rfl, rfl⟩ | intro _ | refine go ?_ | (refine is_draw ?_; refine WC_draw mixed (by kernel_rfl) ?_) | refine cal @hA ?_ | refine cal @hM ?_ | refine cal @hP0 ?_)
              (apply WE_ret rfl rfl (by (repeat (first | exact ResOk.nil | (apply ResOk.tmp; rfl) | (apply resOk_cell; rfl; exact inferInstance; rfl; rfl)))); (first | exact ⟨rfl, rfl⟩ | exact ⟨congrArg Value.bool (by decide), rfl⟩ | exact ⟨_, rfl, rfl⟩ | exact ⟨_, _, rfl, rfl⟩ | exact ⟨by first | (simp []; done) | (simp [] <;> omega), rfl⟩); (repeat (first | exact Ent.refl | exact Ent.nil | apply Ent.pick | apply Ent.drop)))
            | true =>
              simp only [addrE, e2, if_true] at hA
              cases e3 : mayB x with
              | false =>
                simp only [e3] at hM
                repeat (first | rintro _ _ ⟨rfl, rfl⟩ | rintro _ _ ⟨_, rfl, rfl⟩ | rintro _ _ ⟨_, _, rfl, rfl⟩ | intro _ | refine go ?_ | (refine is_draw ?_; refine WC_draw mixed (by kernel_rfl) ?_) | refine cal @hA ?_ | refine cal @hM ?_ | refine cal @hP0 ?_)
                (apply WE_ret rfl rfl (by (repeat (first | exact ResOk.nil | (apply ResOk.tmp; rfl) | (apply resOk_cell; rfl; exact inferInstance; rfl; rfl)))); (first | exact ⟨rfl, rfl⟩ | exact ⟨congrArg Value.bool (by decide), rfl⟩ | exact ⟨_, rfl, rfl⟩ | exact ⟨_, _, rfl, rfl⟩ | exact ⟨by first | (simp []; done) | (simp [] <;> omega), rfl⟩); (repeat (first | exact Ent.refl | exact Ent.nil | apply Ent.pick | apply Ent.drop)))
              | true =>
                simp only [e3] at hM
                have e4 : x.kind = 4 := by
                  rcases Decidable.em (x.kind = 4) with h | h
                  · exact h
                  · simp [apOk, e2, e3, h] at ea
                repeat (first | rintro _ _ ⟨rfl, rfl⟩ | rintro _ _ ⟨_, rfl, rfl⟩ | rintro _ _ ⟨_, _, rfl, rfl⟩ | intro _ | refine go ?_ | (refine is_draw ?_; refine WC_draw mixed (by kernel_rfl) ?_) | refine cal @hA ?_ | refine cal @hM ?_ | refine cal @hP0 ?_)
                (apply WE_ret rfl rfl (by (repeat (first | exact ResOk.nil | (apply ResOk.tmp; rfl) | (apply resOk_cell; rfl; exact inferInstance; rfl; rfl)))); (first | exact ⟨rfl, rfl⟩ | exact ⟨congrArg Value.bool (by decide), rfl⟩ | exact ⟨_, rfl, rfl⟩ | exact ⟨_, _, rfl, rfl⟩ | exact ⟨by first | (simp []; done) | (simp [] <;> omega), rfl⟩); (repeat (first | exact Ent.refl | exact Ent.nil | apply Ent.pick | apply Ent.drop)))
          | true =>
            obtain ⟨j1, j2, j3, j4, j5, j6, j7, j8, j9⟩ := apply_same hf.2.1 ea
            have ea0 := ea
            simp only [apOk, Bool.and_eq_true, Bool.not_eq_true', decide_eq_false_iff_not] at ea0
            obtain ⟨⟨e2, e3⟩, e4⟩ := ea0
            have hal : I64 (addrL c x.addr) := by
              have := join_facts j1 hf.2.1
              have := check_words this.1
              unfold I64; omega
            simp only [addrE, e2, if_true] at hA
            simp only [e3] at hM
            have hL := fun F b ms => mem_Line (F := F) (b := b) (ms := ms) (line := addrL c x.addr) hc hal
            have hW := fun F b => mem_Write (F := F) (b := b) (ms := ms) (line := addrL c x.addr) (w := apW c (lineWo c ms (addrL c x.addr)) x) hc hal
            have hD := fun F b => mem_Do (F := F) (b := b) (c := c) (ms := ms) (x := x)
            have hP0 := fun F => hP F (lineWo c ms (addrL c x.addr))
            have q1 : joinE c (addrL c x.addr) 0 = 0 := by simp [joinE, j1]
            have q2 : wrE c (addrL c x.addr) (apW c (lineWo c ms (addrL c x.addr)) x) = 0 := by simp [wrE, j7]
            have q3 : apE c x = 0 := by simp [apE, ea]
            have q4 : memDoE ms x = 0 := by simp [memDoE, j2]
            simp only [q1] at hL
            simp only [q2, j8] at hW
            simp only [q3, j9] at hP0
            simp only [q4] at hD
            have hg : (wc (lineWo c ms (addrL c x.addr)))[0 + (addrW c x.addr).toNat * 1]? = some (.int .i64 (wordAt ms x.addr)) := by
              rw [← j6]; exact getD_ic (ms := (lineWo c ms (addrL c x.addr)).list) (by rw [Words.list_len]; omega)
            repeat (first | rintro _ _ ⟨rfl, rfl⟩ | rintro _ _ ⟨_, rfl, rfl⟩ | rintro _ _ ⟨_, _, rfl, rfl⟩ | intro _ | refine go ?_ | (refine is_draw ?_; refine WC_draw mixed (by kernel_rfl) ?_) | refine cal @hA ?_ | refine cal @hM ?_ | refine cal @hL ?_ | refine cal @mem_Word ?_ | refine cal @hP0 ?_ | refine cal @hW ?_ | refine cal @hD ?_)
            (apply WE_ret rfl rfl (by (repeat (first | exact ResOk.nil | (apply ResOk.tmp; rfl) | (apply resOk_cell; rfl; exact inferInstance; rfl; rfl)))); (first | exact ⟨rfl, rfl⟩ | exact ⟨congrArg Value.bool (by decide), rfl⟩ | exact ⟨_, rfl, rfl⟩ | exact ⟨_, _, rfl, rfl⟩ | exact ⟨by first | (simp []; done) | (simp [] <;> omega), rfl⟩); (repeat (first | exact Ent.refl | exact Ent.nil | apply Ent.pick | apply Ent.drop)))
end Go.Sx
