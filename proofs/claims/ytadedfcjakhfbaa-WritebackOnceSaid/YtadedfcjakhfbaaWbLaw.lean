/- The laws of chapter 11. My own work. -/
import Derived.Test.YtadedfcjakhfbaaWbR
namespace Go.Sx
open Go Go.Proofs
set_option linter.unusedVariables false
set_option linter.unusedSectionVars false
set_option maxRecDepth 100000
set_option maxHeartbeats 4000000
attribute [local irreducible] Go.Exit.then Go.Exit.inBlock Go.Code.wp WC WO WE WQ V LoopQ FnQ Sat Star band bor IntKind.wrap WR Code.rounds WT KO

theorem law11_awake {F : List HP} : FnF Try.prog 33 [] [] F (fun r L' => r = .bool true ∧ L' = []) := by
  refine FnF.mk' Try.func33 rfl rfl Try.ntmps33 rfl ?_
  repeat (first | rintro _ _ ⟨rfl, rfl⟩ | rintro _ _ ⟨_, rfl, rfl⟩ | rintro _ _ ⟨_, _, rfl, rfl⟩ | intro _ | refine go ?_ | (refine is_draw ?_; refine WC_draw mixed (by kernel_rfl) ?_) | refine cal @wb_New ?_ | refine cal @wb_New_no ?_ | refine cal (wb_Put (w := ⟨3, 0, 0, 0, 0, 0, 0, 0⟩)) ?_ | refine cal (wb_Put (w := Words.zero)) ?_ | refine cal @wb_Share ?_ | refine cal @wb_Give ?_ | refine cal @wb_Get ?_ | refine cal @wb_Drop ?_ | refine cal @wb_Left ?_ | refine cal @wb_List ?_)
  (apply WE_ret rfl rfl (by (repeat (first | exact ResOk.nil | (apply ResOk.tmp; rfl) | (apply resOk_cell; rfl; exact inferInstance; rfl; rfl)))); (first | exact ⟨rfl, rfl⟩ | exact ⟨congrArg Value.bool (by decide), rfl⟩ | exact ⟨_, rfl, rfl⟩ | exact ⟨_, _, rfl, rfl⟩ | exact ⟨by first | (simp []; done) | (simp [] <;> omega), rfl⟩); (repeat (first | exact Ent.refl | exact Ent.nil | apply Ent.pick | apply Ent.drop)))

def wbDoL (room : Int) (l : List WbE) (x : WOp) : List WbE := if x.d = 0 then wbPutL room l x.line x.words else if x.d = 1 then l else if x.d = 2 then wbGiveL l x.line else wbDropL l x.line
def wbDoE (room : Int) (l : List WbE) (x : WOp) : Int := if x.d = 0 then wbPutE room l x.line else if x.d = 1 then wbTellE l x.line else if x.d = 2 then wbTellE l x.line else wbDropE l x.line
def wbDoW (l : List WbE) (x : WOp) : Words := if x.d = 0 then .zero else if x.d = 1 then wbTellW l x.line else if x.d = 2 then wbTellW l x.line else .zero

theorem law11_do {F : List HP} {b : Nat} {room : Int} {l : List WbE} {x : WOp} : FnF Try.prog 36 [.pointer (some ⟨b, 0, none⟩), .agg (woc x).toArray] [Wb b room l] F (fun r L' => r = .tuple [wv (wbDoW l x), .int .i64 (wbDoE room l x)].toArray ∧ L' = [Wb b room (wbDoL room l x)]) := by
  refine FnF.mk' Try.func36 rfl rfl Try.ntmps36 rfl ?_
  by_cases h0 : x.d = 0
  · repeat (first | rintro _ _ ⟨rfl, rfl⟩ | rintro _ _ ⟨_, rfl, rfl⟩ | rintro _ _ ⟨_, _, rfl, rfl⟩ | intro _ | refine go ?_ | (refine is_draw ?_; refine WC_draw mixed (by kernel_rfl) ?_) | refine cal (wb_Put (w := x.words)) ?_)
    (apply WE_ret rfl rfl (by (repeat (first | exact ResOk.nil | (apply ResOk.tmp; rfl) | (apply resOk_cell; rfl; exact inferInstance; rfl; rfl)))))
    · exact ⟨by simp [wbDoW, wbDoE, h0], rfl⟩
    · unfold wbDoL; rw [if_pos h0]; (repeat (first | (with_reducible exact Ent.refl) | exact Ent.nil | (apply ent_pickE; (focus ((repeat (first | (with_reducible exact pk_here) | (apply pk_there))); done))) | apply Ent.drop))
  · by_cases h1 : x.d = 1
    · repeat (first | rintro _ _ ⟨rfl, rfl⟩ | rintro _ _ ⟨_, rfl, rfl⟩ | rintro _ _ ⟨_, _, rfl, rfl⟩ | intro _ | refine go ?_ | (refine is_draw ?_; refine WC_draw mixed (by kernel_rfl) ?_) | refine cal @wb_Share ?_)
      (apply WE_ret rfl rfl (by (repeat (first | exact ResOk.nil | (apply ResOk.tmp; rfl) | (apply resOk_cell; rfl; exact inferInstance; rfl; rfl)))))
      · exact ⟨by simp [wbDoW, wbDoE, h1], rfl⟩
      · unfold wbDoL; rw [if_neg h0, if_pos h1]; (repeat (first | (with_reducible exact Ent.refl) | exact Ent.nil | (apply ent_pickE; (focus ((repeat (first | (with_reducible exact pk_here) | (apply pk_there))); done))) | apply Ent.drop))
    · by_cases h2 : x.d = 2
      · repeat (first | rintro _ _ ⟨rfl, rfl⟩ | rintro _ _ ⟨_, rfl, rfl⟩ | rintro _ _ ⟨_, _, rfl, rfl⟩ | intro _ | refine go ?_ | (refine is_draw ?_; refine WC_draw mixed (by kernel_rfl) ?_) | refine cal @wb_Give ?_)
        (apply WE_ret rfl rfl (by (repeat (first | exact ResOk.nil | (apply ResOk.tmp; rfl) | (apply resOk_cell; rfl; exact inferInstance; rfl; rfl)))))
        · exact ⟨by simp [wbDoW, wbDoE, h2], rfl⟩
        · unfold wbDoL; rw [if_neg h0, if_neg h1, if_pos h2]; (repeat (first | (with_reducible exact Ent.refl) | exact Ent.nil | (apply ent_pickE; (focus ((repeat (first | (with_reducible exact pk_here) | (apply pk_there))); done))) | apply Ent.drop))
      · repeat (first | rintro _ _ ⟨rfl, rfl⟩ | rintro _ _ ⟨_, rfl, rfl⟩ | rintro _ _ ⟨_, _, rfl, rfl⟩ | intro _ | refine go ?_ | (refine is_draw ?_; refine WC_draw mixed (by kernel_rfl) ?_) | refine cal @wb_Drop ?_)
        (apply WE_ret rfl rfl (by (repeat (first | exact ResOk.nil | (apply ResOk.tmp; rfl) | (apply resOk_cell; rfl; exact inferInstance; rfl; rfl)))))
        · exact ⟨by simp [wbDoW, wbDoE, h0, h1, h2], rfl⟩
        · unfold wbDoL; rw [if_neg h0, if_neg h1, if_neg h2]; (repeat (first | (with_reducible exact Ent.refl) | exact Ent.nil | (apply ent_pickE; (focus ((repeat (first | (with_reducible exact pk_here) | (apply pk_there))); done))) | apply Ent.drop))

theorem law11_WritebackDoes {W : World} {F : List HP} {room : Int} (hr : I64 room) {v : Value} {ops : List WOp} (hw : ∀ o ∈ ops, o.wf) (hl : ops.length ≤ 9223372036854775807) (k : ROld W 10 v ops.length (flat woc ops)) :
    FnF Try.prog 6 [.int .i64 room, v] [Old W] F (fun r L' => r = .bool true ∧ L' = [Old W]) := by
  unfold I64 at hr
  refine FnF.mk' Try.func6 rfl rfl Try.ntmps6 rfl ?_
  by_cases hm : 60 < ops.length
  · repeat (first | rintro _ _ ⟨rfl, rfl⟩ | rintro _ _ ⟨_, rfl, rfl⟩ | rintro _ _ ⟨_, _, rfl, rfl⟩ | intro _ | refine go ?_ | (refine is_draw ?_; refine WC_draw mixed (by kernel_rfl) ?_) | refine cal @law11_awake ?_)
    (apply WE_ret rfl rfl (by (repeat (first | exact ResOk.nil | (apply ResOk.tmp; rfl) | (apply resOk_cell; rfl; exact inferInstance; rfl; rfl)))); (first | exact ⟨rfl, rfl⟩ | exact ⟨congrArg Value.bool (by decide), rfl⟩ | exact ⟨_, rfl, rfl⟩ | exact ⟨_, _, rfl, rfl⟩ | exact ⟨by first | (simp []; done) | (simp [] <;> omega), rfl⟩); (repeat (first | exact Ent.refl | exact Ent.nil | apply Ent.pick | apply Ent.drop)))
  · by_cases h1 : 1 ≤ room ∧ room ≤ 8
    · repeat (first | rintro _ _ ⟨rfl, rfl⟩ | rintro _ _ ⟨_, rfl, rfl⟩ | rintro _ _ ⟨_, _, rfl, rfl⟩ | intro _ | refine go ?_ | (refine is_draw ?_; refine WC_draw mixed (by kernel_rfl) ?_) | refine cal @law11_awake ?_ | refine cal @wb_New ?_ | refine cal @ref11_New ?_)
      rename_i b b2
      apply WC_loopE (E0 := [(0, _), (1, _), (5, _), (7, _)]) (fun E0 (q : Nat × List WbE) => (9, .int .i64 q.1) :: E0) (fun q => Wb b room q.2 :: RWb b2 room q.2 :: Old W :: F) (fun q => q.1 ≤ ops.length) (fun q => ops.length - q.1) (0, [])
      · (repeat (first | exact Sub.nil | (refine Sub.cons (by first | rfl | (simp only [Nat.zero_add]; rfl)) ?_)))
      · exact Nat.zero_le _
      · dsimp only; (repeat (first | (with_reducible exact Ent.refl) | exact Ent.nil | (apply ent_pickE; (focus ((repeat (first | (with_reducible exact pk_here) | (apply pk_there))); done))) | apply Ent.drop))
      · rintro ⟨i, m⟩ hi
        dsimp only at hi ⊢
        by_cases hlt : i < ops.length
        · repeat (first | rintro _ _ ⟨rfl, rfl⟩ | rintro _ _ ⟨_, rfl, rfl⟩ | rintro _ _ ⟨_, _, rfl, rfl⟩ | intro _ | refine go ?_ | (refine is_draw ?_; refine WC_draw mixed (by kernel_rfl) ?_) | refine cal (law11_do (x := ops[i])) ?_)
          rename_i bx bu bv
          apply WO_join (P := Try.prog) (fun q : List WbE × Words × Int => [(98, .pointer (some ⟨b, 0, none⟩)), (0, .int .i64 room), (1, v), (5, .pointer (some ⟨b, 0, none⟩)), (7, .pointer (some ⟨b2, 0, none⟩)), (9, .int .i64 i), (10, .pointer (some ⟨bx, 0, none⟩)), (11, .pointer (some ⟨bu, 0, none⟩)), (12, .int .i64 q.2.2), (13, .pointer (some ⟨bv, 0, none⟩)), (14, .int .i64 q.2.2)])
            (fun q => Cells bx 68 (woc ops[i]) :: Cells bu 50 (wc q.2.1) :: Cells bv 50 (wc q.2.1) :: Wb b room q.1 :: RWb b2 room q.1 :: Old W :: F) (fun _ => True)
          · intro hj
            by_cases g0 : ops[i].d = 0
            · unfold wbDoL wbDoW wbDoE
              rw [if_pos g0, if_pos g0, if_pos g0]
              repeat (first | rintro _ _ ⟨rfl, rfl⟩ | rintro _ _ ⟨_, rfl, rfl⟩ | rintro _ _ ⟨_, _, rfl, rfl⟩ | intro _ | refine go ?_ | (refine is_draw ?_; refine WC_draw mixed (by kernel_rfl) ?_) | refine cal (ref11_Put (w := ops[i].words)) ?_)
              exact hj (_, Words.zero, _) _ _ trivial (by (repeat (first | exact Sub.nil | (refine Sub.cons (by first | rfl | (simp only [Nat.zero_add]; rfl)) ?_)))) (by (repeat (first | (with_reducible exact Ent.refl) | exact Ent.nil | (apply ent_pickE; (focus ((repeat (first | (with_reducible exact pk_here) | (apply pk_there))); done))) | apply Ent.drop)))
            · by_cases g1 : ops[i].d = 1
              · unfold wbDoL wbDoW wbDoE
                rw [if_neg g0, if_neg g0, if_neg g0, if_pos g1, if_pos g1, if_pos g1]
                repeat (first | rintro _ _ ⟨rfl, rfl⟩ | rintro _ _ ⟨_, rfl, rfl⟩ | rintro _ _ ⟨_, _, rfl, rfl⟩ | intro _ | refine go ?_ | (refine is_draw ?_; refine WC_draw mixed (by kernel_rfl) ?_) | refine cal @ref11_Share ?_)
                exact hj (_, _, _) _ _ trivial (by (repeat (first | exact Sub.nil | (refine Sub.cons (by first | rfl | (simp only [Nat.zero_add]; rfl)) ?_)))) (by (repeat (first | (with_reducible exact Ent.refl) | exact Ent.nil | (apply ent_pickE; (focus ((repeat (first | (with_reducible exact pk_here) | (apply pk_there))); done))) | apply Ent.drop)))
              · by_cases g2 : ops[i].d = 2
                · unfold wbDoL wbDoW wbDoE
                  rw [if_neg g0, if_neg g0, if_neg g0, if_neg g1, if_neg g1, if_neg g1, if_pos g2, if_pos g2, if_pos g2]
                  repeat (first | rintro _ _ ⟨rfl, rfl⟩ | rintro _ _ ⟨_, rfl, rfl⟩ | rintro _ _ ⟨_, _, rfl, rfl⟩ | intro _ | refine go ?_ | (refine is_draw ?_; refine WC_draw mixed (by kernel_rfl) ?_) | refine cal @ref11_Give ?_)
                  exact hj (_, _, _) _ _ trivial (by (repeat (first | exact Sub.nil | (refine Sub.cons (by first | rfl | (simp only [Nat.zero_add]; rfl)) ?_)))) (by (repeat (first | (with_reducible exact Ent.refl) | exact Ent.nil | (apply ent_pickE; (focus ((repeat (first | (with_reducible exact pk_here) | (apply pk_there))); done))) | apply Ent.drop)))
                · unfold wbDoL wbDoW wbDoE
                  rw [if_neg g0, if_neg g0, if_neg g0, if_neg g1, if_neg g1, if_neg g1, if_neg g2, if_neg g2, if_neg g2]
                  repeat (first | rintro _ _ ⟨rfl, rfl⟩ | rintro _ _ ⟨_, rfl, rfl⟩ | rintro _ _ ⟨_, _, rfl, rfl⟩ | intro _ | refine go ?_ | (refine is_draw ?_; refine WC_draw mixed (by kernel_rfl) ?_) | refine cal @ref11_Drop ?_)
                  exact hj (_, Words.zero, _) _ _ trivial (by (repeat (first | exact Sub.nil | (refine Sub.cons (by first | rfl | (simp only [Nat.zero_add]; rfl)) ?_)))) (by (repeat (first | (with_reducible exact Ent.refl) | exact Ent.nil | (apply ent_pickE; (focus ((repeat (first | (with_reducible exact pk_here) | (apply pk_there))); done))) | apply Ent.drop)))
          · rintro ⟨m', w', e'⟩ _
            dsimp only
            (first | refine WO_front (RWb b2 room m') ?_ | refine WC_front (RWb b2 room m') ?_ | refine WE_front (RWb b2 room m') ?_)
            refine RL_openO fun p c hl0 => ?_
            repeat (first | rintro _ _ ⟨rfl, rfl⟩ | rintro _ _ ⟨_, rfl, rfl⟩ | rintro _ _ ⟨_, _, rfl, rfl⟩ | intro _ | refine go ?_ | (refine is_draw ?_; refine WC_draw mixed (by kernel_rfl) ?_) | refine cal @wb_List ?_ | refine cal @wb_Left ?_)
            rename_i p2 c2
            apply WC_loopE (E0 := [(0, _), (1, _), (5, _), (7, _), (9, _), (10, _), (15, _), (131, _)]) (fun E0 (j : Nat) => (132, .int .i64 j) :: E0) (fun _ => Own 80 10 (.slice p2 m'.length c2) m'.length (flat bc m') :: Wb b room m' :: Cells b2 77 [.int .i64 room, .slice p m'.length c] :: Own 79 10 (.slice p m'.length c) m'.length (flat bc m') :: Cells bx 68 (woc ops[i]) :: Old W :: F) (fun j => j ≤ m'.length) (fun j => m'.length - j) 0
            · (repeat (first | exact Sub.nil | (refine Sub.cons (by first | rfl | (simp only [Nat.zero_add]; rfl)) ?_)))
            · exact Nat.zero_le _
            · (repeat (first | (with_reducible exact Ent.refl) | exact Ent.nil | (apply ent_pickE; (focus ((repeat (first | (with_reducible exact pk_here) | (apply pk_there))); done))) | apply Ent.drop))
            · intro j hj
              by_cases hlt2 : j < m'.length
              · repeat (first | rintro _ _ ⟨rfl, rfl⟩ | rintro _ _ ⟨_, rfl, rfl⟩ | rintro _ _ ⟨_, _, rfl, rfl⟩ | intro _ | refine go ?_ | (refine is_draw ?_; refine WC_draw mixed (by kernel_rfl) ?_))
                refine WE_loop (j + 1) (by omega) (by omega) ?_ (by (repeat (first | (with_reducible exact Ent.refl) | exact Ent.nil | (apply ent_pickE; (focus ((repeat (first | (with_reducible exact pk_here) | (apply pk_there))); done))) | apply Ent.drop)))
                (repeat (first | exact Sub.nil | (refine Sub.cons (by first | rfl | (simp only [Nat.zero_add]; rfl)) ?_)))
              · have hP := fun F => ref11_PlaceO (F := F) (b := b2) (room := room) (l := m') (line := ops[i].line) (p := p) (c := c) hl0
                have hG := fun F => wb_Get (F := F) (b := b) (room := room) (l := m') (line := ops[i].line)
                cases e : wbIn m' ops[i].line with
                | true =>
                  obtain ⟨n, hn, g1, g2, g3⟩ := wbIn_t e
                  have g4 : wbGet m' ops[i].line = m'[n] := by simp [wbGet, e, g2]
                  simp only [g1] at hP
                  simp only [e, g4] at hG
                  (first | (refine WO_some (.slice p m'.length c) inferInstance (by omega) ?_; intro _) | (refine WC_some (.slice p m'.length c) inferInstance (by omega) ?_; intro _))
                  repeat (first | rintro _ _ ⟨rfl, rfl⟩ | rintro _ _ ⟨_, rfl, rfl⟩ | rintro _ _ ⟨_, _, rfl, rfl⟩ | intro _ | refine go ?_ | (refine is_draw ?_; refine WC_draw mixed (by kernel_rfl) ?_) | refine cal @hG ?_ | refine cal @hP ?_)
                  refine WE_loop (i + 1, m') (by dsimp only; omega) (by dsimp only; omega) ?_ ?_
                  · (repeat (first | exact Sub.nil | (refine Sub.cons (by first | rfl | (simp only [Nat.zero_add]; rfl)) ?_)))
                  · dsimp only; ((repeat (first | (with_reducible exact Ent.refl) | exact Ent.nil | (apply ent_pickE; (focus ((repeat (first | (with_reducible exact pk_here) | (apply pk_there))); done))) | (apply RL_in) | apply Ent.drop)); all_goals (first | rfl | (with_reducible assumption) | (simp; done) | (simp; omega) | omega | (constructor <;> (simp) <;> omega)))
                | false =>
                  have g1 := wbIn_f e
                  have g4 : wbGet m' ops[i].line = ⟨0, .zero, false⟩ := by simp [wbGet, e]
                  simp only [g1] at hP
                  simp only [e, g4] at hG
                  repeat (first | rintro _ _ ⟨rfl, rfl⟩ | rintro _ _ ⟨_, rfl, rfl⟩ | rintro _ _ ⟨_, _, rfl, rfl⟩ | intro _ | refine go ?_ | (refine is_draw ?_; refine WC_draw mixed (by kernel_rfl) ?_) | refine cal @hG ?_ | refine cal @hP ?_)
                  refine WE_loop (i + 1, m') (by dsimp only; omega) (by dsimp only; omega) ?_ ?_
                  · (repeat (first | exact Sub.nil | (refine Sub.cons (by first | rfl | (simp only [Nat.zero_add]; rfl)) ?_)))
                  · dsimp only; ((repeat (first | (with_reducible exact Ent.refl) | exact Ent.nil | (apply ent_pickE; (focus ((repeat (first | (with_reducible exact pk_here) | (apply pk_there))); done))) | (apply RL_in) | apply Ent.drop)); all_goals (first | rfl | (with_reducible assumption) | (simp; done) | (simp; omega) | omega | (constructor <;> (simp) <;> omega)))
        · repeat (first | rintro _ _ ⟨rfl, rfl⟩ | rintro _ _ ⟨_, rfl, rfl⟩ | rintro _ _ ⟨_, _, rfl, rfl⟩ | intro _ | refine go ?_ | (refine is_draw ?_; refine WC_draw mixed (by kernel_rfl) ?_))
          (apply WE_ret rfl rfl (by (repeat (first | exact ResOk.nil | (apply ResOk.tmp; rfl) | (apply resOk_cell; rfl; exact inferInstance; rfl; rfl)))); (first | exact ⟨rfl, rfl⟩ | exact ⟨congrArg Value.bool (by decide), rfl⟩ | exact ⟨_, rfl, rfl⟩ | exact ⟨_, _, rfl, rfl⟩ | exact ⟨by first | (simp []; done) | (simp [] <;> omega), rfl⟩); (repeat (first | exact Ent.refl | exact Ent.nil | apply Ent.pick | apply Ent.drop)))
    · repeat (first | rintro _ _ ⟨rfl, rfl⟩ | rintro _ _ ⟨_, rfl, rfl⟩ | rintro _ _ ⟨_, _, rfl, rfl⟩ | intro _ | refine go ?_ | (refine is_draw ?_; refine WC_draw mixed (by kernel_rfl) ?_) | refine cal @law11_awake ?_ | refine cal @wb_New_no ?_ | refine cal @ref11_New_no ?_)
      refine WC_rounds 1 ?_
      repeat (first | rintro _ _ ⟨rfl, rfl⟩ | rintro _ _ ⟨_, rfl, rfl⟩ | rintro _ _ ⟨_, _, rfl, rfl⟩ | intro _ | refine go ?_ | (refine is_draw ?_; refine WC_draw mixed (by kernel_rfl) ?_))
      (apply WE_ret rfl rfl (by (repeat (first | exact ResOk.nil | (apply ResOk.tmp; rfl) | (apply resOk_cell; rfl; exact inferInstance; rfl; rfl)))); (first | exact ⟨rfl, rfl⟩ | exact ⟨congrArg Value.bool (by decide), rfl⟩ | exact ⟨_, rfl, rfl⟩ | exact ⟨_, _, rfl, rfl⟩ | exact ⟨by first | (simp []; done) | (simp [] <;> omega), rfl⟩); (repeat (first | exact Ent.refl | exact Ent.nil | apply Ent.pick | apply Ent.drop)))
end Go.Sx
