/- The law of who may have a line behind a turn: the walk. My own work; written by a program (tools/gental.py). -/
import Derived.Test.YtcjagmphobdbbaaTabAPl
import Derived.Test.YtcjagmphobdbbaaTabOne
namespace Go.Sx
open Go Go.Proofs
set_option linter.unusedVariables false
set_option linter.unusedSectionVars false
set_option linter.unusedSimpArgs false
theorem told_step {S : List Msg} {core : Int} {i : Nat} (h : i < S.length) : (S.take (i + 1)).any (toldP core) = ((S.take i).any (toldP core) || toldP core S[i]) := by
  rw [List.take_succ_eq_append_getElem h, List.any_append]; simp
set_option maxRecDepth 100000
set_option maxHeartbeats 4000000
attribute [local irreducible] Go.Exit.then Go.Exit.inBlock Go.Code.wp WC WO WE WQ V LoopQ FnQ Sat Star band bor IntKind.wrap WR Code.rounds WT KO
theorem law13_Alone2 {W : World} {F : List HP} {e : TEnt} {a : Option Addr} {k : Nat} {m : Msg} {w : Words} {core : Int} (hk : ROld W 1 (.slice a e.s.ps.length k) e.s.ps.length (flat ic e.s.ps)) (hkd : m.kind = 2) (hl : e.s.ps.length ≤ 9223372036854775807) :
    FnF Try.prog 7 [.agg (tec e a k).toArray, mv m, wv w, .int .i64 core] [Old W] F (fun r L' => r = .bool true ∧ L' = [Old W]) := by
  haveI := hk
  refine FnF.mk' Try.func7 rfl rfl Try.ntmps7 rfl ?_
  by_cases h1 : 100 < e.s.ps.length
  · repeat (first | rintro _ _ ⟨rfl, rfl⟩ | rintro _ _ ⟨_, rfl, rfl⟩ | rintro _ _ ⟨_, _, rfl, rfl⟩ | rintro _ _ ⟨_, _, _, _, rfl, rfl⟩ | intro _ | refine go ?_ | (refine is_draw ?_; refine WC_draw mixed (by kernel_rfl) ?_) | refine cal @law13_awake ?_)
    (apply WE_ret rfl rfl (by (repeat (first | exact ResOk.nil | (apply ResOk.tmp; rfl) | (apply resOk_cell; rfl; exact inferInstance; rfl; rfl)))); (first | exact ⟨rfl, rfl⟩ | exact ⟨congrArg Value.bool (by decide), rfl⟩ | exact ⟨_, rfl, rfl⟩ | exact ⟨_, _, rfl, rfl⟩ | exact ⟨by first | (simp []; done) | (simp [] <;> omega), rfl⟩); (repeat (first | exact Ent.refl | exact Ent.nil | apply Ent.pick | apply Ent.drop)))
  · have hN := fun F (hk : RdL F 1 (.slice a e.s.ps.length k) e.s.ps.length (flat ic e.s.ps)) => tab_Next (F := F) (e := e) (a := a) (k := k) (m := m) (w := w) hk (by omega)
    by_cases h0 : nextE e m = 0
    · have hmay := next_may h0
      obtain ⟨hok, hkind⟩ := nextE_ok h0
      obtain ⟨hm, ho1, _, hsrc, _⟩ := okT_facts hok
      have hTm : shMay (nextT e m).s = true := by simp only [mayT, Bool.and_eq_true] at hmay; exact hmay.1.1
      have hM := alone_M (w := w) (core := core) h0
      have hS := alone_S (core := core) h0
      have hP := alone_P (core := core) h0
      obtain ⟨_, hS1, _⟩ := sent_facts (w := w) h0
      have hHT := fun F p q (hk : RdL F 1 (.slice p (nextT e m).s.ps.length q) (nextT e m).s.ps.length (flat ic (nextT e m).s.ps)) => shr_Has (F := F) (s := (nextT e m).s) (a := p) (k := q) (c := core) hk hTm
      have hH := fun F (hk : RdL F 1 (.slice a e.s.ps.length k) e.s.ps.length (flat ic e.s.ps)) => shr_Has (F := F) (s := e.s) (a := a) (k := k) (c := core) hk hm
      simp only [h0] at hN
      generalize nextS e m w = S at *
      generalize nextT e m = T at *
      generalize nextW e m = wr at *
      obtain ⟨hMa, hMb, hMc⟩ := hM hkd
      by_cases c0 : 0 ≤ core
      · by_cases c1 : e.o = core
        · by_cases c2 : T.o = core
          · have hcs : core = m.src := by omega
            repeat (first | rintro _ _ ⟨rfl, rfl⟩ | rintro _ _ ⟨_, rfl, rfl⟩ | rintro _ _ ⟨_, _, rfl, rfl⟩ | rintro _ _ ⟨_, _, _, _, rfl, rfl⟩ | intro _ | refine go ?_ | (refine is_draw ?_; refine WC_draw mixed (by kernel_rfl) ?_) | refine cal @law13_awake ?_ | refine cal @hN ?_ | refine cal @hH ?_ | refine cal @hHT ?_)
            rename_i b4 b5 b6 pp qq pm qm b9
            apply WC_loopE (E0 := [(3, _), (5, _), (9, _), (11, _), (12, _), (67, _), (68, _)]) (fun E0 (i : Nat) => (69, .int .i64 i) :: (13, .bool ((S.take i).any (toldP core))) :: E0) (fun _ => Own 37 15 (.slice pm S.length qm) S.length (flat mc S) :: Cells b9 68 (tuc T pp qq pm S.length qm wr) :: Cells b5 37 (mc m) :: Old W :: F) (fun i => i ≤ S.length) (fun i => S.length - i) 0
            · (repeat (first | exact Sub.nil | (refine Sub.cons (by first | rfl | (simp only [Nat.zero_add]; rfl)) ?_)))
            · exact Nat.zero_le _
            · (repeat (first | (with_reducible exact Ent.refl) | exact Ent.nil | (apply ent_pickE; (focus ((repeat (first | (with_reducible exact pk_here) | (apply pk_there))); done))) | apply Ent.drop))
            · intro i hi
              by_cases hlt : i < S.length
              · have hs := told_step (core := core) hlt
                cases ht : (S.take i).any (toldP core) with
                | true =>
                  rw [ht, Bool.true_or] at hs
                  repeat (first | rintro _ _ ⟨rfl, rfl⟩ | rintro _ _ ⟨_, rfl, rfl⟩ | rintro _ _ ⟨_, _, rfl, rfl⟩ | rintro _ _ ⟨_, _, _, _, rfl, rfl⟩ | intro _ | refine go ?_ | (refine is_draw ?_; refine WC_draw mixed (by kernel_rfl) ?_))
                  refine WE_loop (i + 1) (by omega) (by omega) ?_ ?_
                  · rw [hs]; (repeat (first | exact Sub.nil | (refine Sub.cons (by first | rfl | (simp only [Nat.zero_add]; rfl)) ?_)))
                  · (repeat (first | (with_reducible exact Ent.refl) | exact Ent.nil | (apply ent_pickE; (focus ((repeat (first | (with_reducible exact pk_here) | (apply pk_there))); done))) | apply Ent.drop))
                | false =>
                  rw [ht, Bool.false_or] at hs
                  unfold toldP at hs
                  by_cases d1 : S[i].dst = core
                  · by_cases d2 : S[i].kind = 5
                    · simp only [d1, d2, decide_true, Bool.true_or, Bool.and_true] at hs
                      repeat (first | rintro _ _ ⟨rfl, rfl⟩ | rintro _ _ ⟨_, rfl, rfl⟩ | rintro _ _ ⟨_, _, rfl, rfl⟩ | rintro _ _ ⟨_, _, _, _, rfl, rfl⟩ | intro _ | refine go ?_ | (refine is_draw ?_; refine WC_draw mixed (by kernel_rfl) ?_))
                      refine WE_loop (i + 1) (by omega) (by omega) ?_ ?_
                      · unfold toldP; rw [hs]; (repeat (first | exact Sub.nil | (refine Sub.cons (by first | rfl | (simp only [Nat.zero_add]; rfl)) ?_)))
                      · (repeat (first | (with_reducible exact Ent.refl) | exact Ent.nil | (apply ent_pickE; (focus ((repeat (first | (with_reducible exact pk_here) | (apply pk_there))); done))) | apply Ent.drop))
                    · simp only [d1, d2, decide_true, decide_false, Bool.false_or, Bool.true_and] at hs
                      repeat (first | rintro _ _ ⟨rfl, rfl⟩ | rintro _ _ ⟨_, rfl, rfl⟩ | rintro _ _ ⟨_, _, rfl, rfl⟩ | rintro _ _ ⟨_, _, _, _, rfl, rfl⟩ | intro _ | refine go ?_ | (refine is_draw ?_; refine WC_draw mixed (by kernel_rfl) ?_))
                      refine WE_loop (i + 1) (by omega) (by omega) ?_ ?_
                      · unfold toldP; rw [hs]; (repeat (first | exact Sub.nil | (refine Sub.cons (by first | rfl | (simp only [Nat.zero_add]; rfl)) ?_)))
                      · (repeat (first | (with_reducible exact Ent.refl) | exact Ent.nil | (apply ent_pickE; (focus ((repeat (first | (with_reducible exact pk_here) | (apply pk_there))); done))) | apply Ent.drop))
                  · simp only [d1, decide_false, Bool.false_and] at hs
                    repeat (first | rintro _ _ ⟨rfl, rfl⟩ | rintro _ _ ⟨_, rfl, rfl⟩ | rintro _ _ ⟨_, _, rfl, rfl⟩ | rintro _ _ ⟨_, _, _, _, rfl, rfl⟩ | intro _ | refine go ?_ | (refine is_draw ?_; refine WC_draw mixed (by kernel_rfl) ?_))
                    refine WE_loop (i + 1) (by omega) (by omega) ?_ ?_
                    · unfold toldP; rw [hs]; (repeat (first | exact Sub.nil | (refine Sub.cons (by first | rfl | (simp only [Nat.zero_add]; rfl)) ?_)))
                    · (repeat (first | (with_reducible exact Ent.refl) | exact Ent.nil | (apply ent_pickE; (focus ((repeat (first | (with_reducible exact pk_here) | (apply pk_there))); done))) | apply Ent.drop))
              · have hil : i = S.length := by omega
                subst hil
                rw [List.take_length]
                cases htd : S.any (toldP core) with
                | true =>
                  repeat (first | rintro _ _ ⟨rfl, rfl⟩ | rintro _ _ ⟨_, rfl, rfl⟩ | rintro _ _ ⟨_, _, rfl, rfl⟩ | rintro _ _ ⟨_, _, _, _, rfl, rfl⟩ | intro _ | refine go ?_ | (refine is_draw ?_; refine WC_draw mixed (by kernel_rfl) ?_))
                  (apply WE_ret rfl rfl (by (repeat (first | exact ResOk.nil | (apply ResOk.tmp; rfl) | (apply resOk_cell; rfl; exact inferInstance; rfl; rfl)))); (first | exact ⟨rfl, rfl⟩ | exact ⟨congrArg Value.bool (by decide), rfl⟩ | exact ⟨_, rfl, rfl⟩ | exact ⟨_, _, rfl, rfl⟩ | exact ⟨by first | (simp []; done) | (simp [] <;> omega), rfl⟩); (repeat (first | exact Ent.refl | exact Ent.nil | apply Ent.pick | apply Ent.drop)))
                | false =>
                  repeat (first | rintro _ _ ⟨rfl, rfl⟩ | rintro _ _ ⟨_, rfl, rfl⟩ | rintro _ _ ⟨_, _, rfl, rfl⟩ | rintro _ _ ⟨_, _, _, _, rfl, rfl⟩ | intro _ | refine go ?_ | (refine is_draw ?_; refine WC_draw mixed (by kernel_rfl) ?_))
                  (apply WE_ret rfl rfl (by (repeat (first | exact ResOk.nil | (apply ResOk.tmp; rfl) | (apply resOk_cell; rfl; exact inferInstance; rfl; rfl)))); (first | exact ⟨rfl, rfl⟩ | exact ⟨congrArg Value.bool (by decide), rfl⟩ | exact ⟨_, rfl, rfl⟩ | exact ⟨_, _, rfl, rfl⟩ | exact ⟨by first | (simp []; done) | (simp [] <;> omega), rfl⟩); (repeat (first | exact Ent.refl | exact Ent.nil | apply Ent.pick | apply Ent.drop)))
          · cases hT : shHas T.s core with
            | true =>
              rw [hT] at hMb; cases hMb
            | false =>
              simp only [hT] at hHT
              have hcs : ¬ core = m.src := by omega
              have htd := hMc c0 (.inl c1) hcs
              repeat (first | rintro _ _ ⟨rfl, rfl⟩ | rintro _ _ ⟨_, rfl, rfl⟩ | rintro _ _ ⟨_, _, rfl, rfl⟩ | rintro _ _ ⟨_, _, _, _, rfl, rfl⟩ | intro _ | refine go ?_ | (refine is_draw ?_; refine WC_draw mixed (by kernel_rfl) ?_) | refine cal @law13_awake ?_ | refine cal @hN ?_ | refine cal @hH ?_ | refine cal @hHT ?_)
              rename_i b4 b5 b6 pp qq pm qm b9
              apply WC_loopE (E0 := [(3, _), (5, _), (9, _), (11, _), (12, _), (67, _), (68, _)]) (fun E0 (i : Nat) => (69, .int .i64 i) :: (13, .bool ((S.take i).any (toldP core))) :: E0) (fun _ => Own 37 15 (.slice pm S.length qm) S.length (flat mc S) :: Cells b9 68 (tuc T pp qq pm S.length qm wr) :: Cells b5 37 (mc m) :: Old W :: F) (fun i => i ≤ S.length) (fun i => S.length - i) 0
              · (repeat (first | exact Sub.nil | (refine Sub.cons (by first | rfl | (simp only [Nat.zero_add]; rfl)) ?_)))
              · exact Nat.zero_le _
              · (repeat (first | (with_reducible exact Ent.refl) | exact Ent.nil | (apply ent_pickE; (focus ((repeat (first | (with_reducible exact pk_here) | (apply pk_there))); done))) | apply Ent.drop))
              · intro i hi
                by_cases hlt : i < S.length
                · have hs := told_step (core := core) hlt
                  cases ht : (S.take i).any (toldP core) with
                  | true =>
                    rw [ht, Bool.true_or] at hs
                    repeat (first | rintro _ _ ⟨rfl, rfl⟩ | rintro _ _ ⟨_, rfl, rfl⟩ | rintro _ _ ⟨_, _, rfl, rfl⟩ | rintro _ _ ⟨_, _, _, _, rfl, rfl⟩ | intro _ | refine go ?_ | (refine is_draw ?_; refine WC_draw mixed (by kernel_rfl) ?_))
                    refine WE_loop (i + 1) (by omega) (by omega) ?_ ?_
                    · rw [hs]; (repeat (first | exact Sub.nil | (refine Sub.cons (by first | rfl | (simp only [Nat.zero_add]; rfl)) ?_)))
                    · (repeat (first | (with_reducible exact Ent.refl) | exact Ent.nil | (apply ent_pickE; (focus ((repeat (first | (with_reducible exact pk_here) | (apply pk_there))); done))) | apply Ent.drop))
                  | false =>
                    rw [ht, Bool.false_or] at hs
                    unfold toldP at hs
                    by_cases d1 : S[i].dst = core
                    · by_cases d2 : S[i].kind = 5
                      · simp only [d1, d2, decide_true, Bool.true_or, Bool.and_true] at hs
                        repeat (first | rintro _ _ ⟨rfl, rfl⟩ | rintro _ _ ⟨_, rfl, rfl⟩ | rintro _ _ ⟨_, _, rfl, rfl⟩ | rintro _ _ ⟨_, _, _, _, rfl, rfl⟩ | intro _ | refine go ?_ | (refine is_draw ?_; refine WC_draw mixed (by kernel_rfl) ?_))
                        refine WE_loop (i + 1) (by omega) (by omega) ?_ ?_
                        · unfold toldP; rw [hs]; (repeat (first | exact Sub.nil | (refine Sub.cons (by first | rfl | (simp only [Nat.zero_add]; rfl)) ?_)))
                        · (repeat (first | (with_reducible exact Ent.refl) | exact Ent.nil | (apply ent_pickE; (focus ((repeat (first | (with_reducible exact pk_here) | (apply pk_there))); done))) | apply Ent.drop))
                      · simp only [d1, d2, decide_true, decide_false, Bool.false_or, Bool.true_and] at hs
                        repeat (first | rintro _ _ ⟨rfl, rfl⟩ | rintro _ _ ⟨_, rfl, rfl⟩ | rintro _ _ ⟨_, _, rfl, rfl⟩ | rintro _ _ ⟨_, _, _, _, rfl, rfl⟩ | intro _ | refine go ?_ | (refine is_draw ?_; refine WC_draw mixed (by kernel_rfl) ?_))
                        refine WE_loop (i + 1) (by omega) (by omega) ?_ ?_
                        · unfold toldP; rw [hs]; (repeat (first | exact Sub.nil | (refine Sub.cons (by first | rfl | (simp only [Nat.zero_add]; rfl)) ?_)))
                        · (repeat (first | (with_reducible exact Ent.refl) | exact Ent.nil | (apply ent_pickE; (focus ((repeat (first | (with_reducible exact pk_here) | (apply pk_there))); done))) | apply Ent.drop))
                    · simp only [d1, decide_false, Bool.false_and] at hs
                      repeat (first | rintro _ _ ⟨rfl, rfl⟩ | rintro _ _ ⟨_, rfl, rfl⟩ | rintro _ _ ⟨_, _, rfl, rfl⟩ | rintro _ _ ⟨_, _, _, _, rfl, rfl⟩ | intro _ | refine go ?_ | (refine is_draw ?_; refine WC_draw mixed (by kernel_rfl) ?_))
                      refine WE_loop (i + 1) (by omega) (by omega) ?_ ?_
                      · unfold toldP; rw [hs]; (repeat (first | exact Sub.nil | (refine Sub.cons (by first | rfl | (simp only [Nat.zero_add]; rfl)) ?_)))
                      · (repeat (first | (with_reducible exact Ent.refl) | exact Ent.nil | (apply ent_pickE; (focus ((repeat (first | (with_reducible exact pk_here) | (apply pk_there))); done))) | apply Ent.drop))
                · have hil : i = S.length := by omega
                  subst hil
                  rw [List.take_length]
                  rw [htd]
                  repeat (first | rintro _ _ ⟨rfl, rfl⟩ | rintro _ _ ⟨_, rfl, rfl⟩ | rintro _ _ ⟨_, _, rfl, rfl⟩ | rintro _ _ ⟨_, _, _, _, rfl, rfl⟩ | intro _ | refine go ?_ | (refine is_draw ?_; refine WC_draw mixed (by kernel_rfl) ?_))
                  (apply WE_ret rfl rfl (by (repeat (first | exact ResOk.nil | (apply ResOk.tmp; rfl) | (apply resOk_cell; rfl; exact inferInstance; rfl; rfl)))); (first | exact ⟨rfl, rfl⟩ | exact ⟨congrArg Value.bool (by decide), rfl⟩ | exact ⟨_, rfl, rfl⟩ | exact ⟨_, _, rfl, rfl⟩ | exact ⟨by first | (simp []; done) | (simp [] <;> omega), rfl⟩); (repeat (first | exact Ent.refl | exact Ent.nil | apply Ent.pick | apply Ent.drop)))
        · cases hh : shHas e.s core with
          | true =>
            by_cases c2 : T.o = core
            · simp only [hh] at hH
              have hcs : core = m.src := by omega
              repeat (first | rintro _ _ ⟨rfl, rfl⟩ | rintro _ _ ⟨_, rfl, rfl⟩ | rintro _ _ ⟨_, _, rfl, rfl⟩ | rintro _ _ ⟨_, _, _, _, rfl, rfl⟩ | intro _ | refine go ?_ | (refine is_draw ?_; refine WC_draw mixed (by kernel_rfl) ?_) | refine cal @law13_awake ?_ | refine cal @hN ?_ | refine cal @hH ?_ | refine cal @hHT ?_)
              rename_i b4 b5 b6 pp qq pm qm b9
              apply WC_loopE (E0 := [(3, _), (5, _), (9, _), (11, _), (12, _), (67, _), (68, _)]) (fun E0 (i : Nat) => (69, .int .i64 i) :: (13, .bool ((S.take i).any (toldP core))) :: E0) (fun _ => Own 37 15 (.slice pm S.length qm) S.length (flat mc S) :: Cells b9 68 (tuc T pp qq pm S.length qm wr) :: Cells b5 37 (mc m) :: Old W :: F) (fun i => i ≤ S.length) (fun i => S.length - i) 0
              · (repeat (first | exact Sub.nil | (refine Sub.cons (by first | rfl | (simp only [Nat.zero_add]; rfl)) ?_)))
              · exact Nat.zero_le _
              · (repeat (first | (with_reducible exact Ent.refl) | exact Ent.nil | (apply ent_pickE; (focus ((repeat (first | (with_reducible exact pk_here) | (apply pk_there))); done))) | apply Ent.drop))
              · intro i hi
                by_cases hlt : i < S.length
                · have hs := told_step (core := core) hlt
                  cases ht : (S.take i).any (toldP core) with
                  | true =>
                    rw [ht, Bool.true_or] at hs
                    repeat (first | rintro _ _ ⟨rfl, rfl⟩ | rintro _ _ ⟨_, rfl, rfl⟩ | rintro _ _ ⟨_, _, rfl, rfl⟩ | rintro _ _ ⟨_, _, _, _, rfl, rfl⟩ | intro _ | refine go ?_ | (refine is_draw ?_; refine WC_draw mixed (by kernel_rfl) ?_))
                    refine WE_loop (i + 1) (by omega) (by omega) ?_ ?_
                    · rw [hs]; (repeat (first | exact Sub.nil | (refine Sub.cons (by first | rfl | (simp only [Nat.zero_add]; rfl)) ?_)))
                    · (repeat (first | (with_reducible exact Ent.refl) | exact Ent.nil | (apply ent_pickE; (focus ((repeat (first | (with_reducible exact pk_here) | (apply pk_there))); done))) | apply Ent.drop))
                  | false =>
                    rw [ht, Bool.false_or] at hs
                    unfold toldP at hs
                    by_cases d1 : S[i].dst = core
                    · by_cases d2 : S[i].kind = 5
                      · simp only [d1, d2, decide_true, Bool.true_or, Bool.and_true] at hs
                        repeat (first | rintro _ _ ⟨rfl, rfl⟩ | rintro _ _ ⟨_, rfl, rfl⟩ | rintro _ _ ⟨_, _, rfl, rfl⟩ | rintro _ _ ⟨_, _, _, _, rfl, rfl⟩ | intro _ | refine go ?_ | (refine is_draw ?_; refine WC_draw mixed (by kernel_rfl) ?_))
                        refine WE_loop (i + 1) (by omega) (by omega) ?_ ?_
                        · unfold toldP; rw [hs]; (repeat (first | exact Sub.nil | (refine Sub.cons (by first | rfl | (simp only [Nat.zero_add]; rfl)) ?_)))
                        · (repeat (first | (with_reducible exact Ent.refl) | exact Ent.nil | (apply ent_pickE; (focus ((repeat (first | (with_reducible exact pk_here) | (apply pk_there))); done))) | apply Ent.drop))
                      · simp only [d1, d2, decide_true, decide_false, Bool.false_or, Bool.true_and] at hs
                        repeat (first | rintro _ _ ⟨rfl, rfl⟩ | rintro _ _ ⟨_, rfl, rfl⟩ | rintro _ _ ⟨_, _, rfl, rfl⟩ | rintro _ _ ⟨_, _, _, _, rfl, rfl⟩ | intro _ | refine go ?_ | (refine is_draw ?_; refine WC_draw mixed (by kernel_rfl) ?_))
                        refine WE_loop (i + 1) (by omega) (by omega) ?_ ?_
                        · unfold toldP; rw [hs]; (repeat (first | exact Sub.nil | (refine Sub.cons (by first | rfl | (simp only [Nat.zero_add]; rfl)) ?_)))
                        · (repeat (first | (with_reducible exact Ent.refl) | exact Ent.nil | (apply ent_pickE; (focus ((repeat (first | (with_reducible exact pk_here) | (apply pk_there))); done))) | apply Ent.drop))
                    · simp only [d1, decide_false, Bool.false_and] at hs
                      repeat (first | rintro _ _ ⟨rfl, rfl⟩ | rintro _ _ ⟨_, rfl, rfl⟩ | rintro _ _ ⟨_, _, rfl, rfl⟩ | rintro _ _ ⟨_, _, _, _, rfl, rfl⟩ | intro _ | refine go ?_ | (refine is_draw ?_; refine WC_draw mixed (by kernel_rfl) ?_))
                      refine WE_loop (i + 1) (by omega) (by omega) ?_ ?_
                      · unfold toldP; rw [hs]; (repeat (first | exact Sub.nil | (refine Sub.cons (by first | rfl | (simp only [Nat.zero_add]; rfl)) ?_)))
                      · (repeat (first | (with_reducible exact Ent.refl) | exact Ent.nil | (apply ent_pickE; (focus ((repeat (first | (with_reducible exact pk_here) | (apply pk_there))); done))) | apply Ent.drop))
                · have hil : i = S.length := by omega
                  subst hil
                  rw [List.take_length]
                  cases htd : S.any (toldP core) with
                  | true =>
                    repeat (first | rintro _ _ ⟨rfl, rfl⟩ | rintro _ _ ⟨_, rfl, rfl⟩ | rintro _ _ ⟨_, _, rfl, rfl⟩ | rintro _ _ ⟨_, _, _, _, rfl, rfl⟩ | intro _ | refine go ?_ | (refine is_draw ?_; refine WC_draw mixed (by kernel_rfl) ?_))
                    (apply WE_ret rfl rfl (by (repeat (first | exact ResOk.nil | (apply ResOk.tmp; rfl) | (apply resOk_cell; rfl; exact inferInstance; rfl; rfl)))); (first | exact ⟨rfl, rfl⟩ | exact ⟨congrArg Value.bool (by decide), rfl⟩ | exact ⟨_, rfl, rfl⟩ | exact ⟨_, _, rfl, rfl⟩ | exact ⟨by first | (simp []; done) | (simp [] <;> omega), rfl⟩); (repeat (first | exact Ent.refl | exact Ent.nil | apply Ent.pick | apply Ent.drop)))
                  | false =>
                    repeat (first | rintro _ _ ⟨rfl, rfl⟩ | rintro _ _ ⟨_, rfl, rfl⟩ | rintro _ _ ⟨_, _, rfl, rfl⟩ | rintro _ _ ⟨_, _, _, _, rfl, rfl⟩ | intro _ | refine go ?_ | (refine is_draw ?_; refine WC_draw mixed (by kernel_rfl) ?_))
                    (apply WE_ret rfl rfl (by (repeat (first | exact ResOk.nil | (apply ResOk.tmp; rfl) | (apply resOk_cell; rfl; exact inferInstance; rfl; rfl)))); (first | exact ⟨rfl, rfl⟩ | exact ⟨congrArg Value.bool (by decide), rfl⟩ | exact ⟨_, rfl, rfl⟩ | exact ⟨_, _, rfl, rfl⟩ | exact ⟨by first | (simp []; done) | (simp [] <;> omega), rfl⟩); (repeat (first | exact Ent.refl | exact Ent.nil | apply Ent.pick | apply Ent.drop)))
            · cases hT : shHas T.s core with
              | true =>
                rw [hT] at hMb; cases hMb
              | false =>
                simp only [hh] at hH
                simp only [hT] at hHT
                have hcs : ¬ core = m.src := by omega
                have htd := hMc c0 (.inr hh) hcs
                repeat (first | rintro _ _ ⟨rfl, rfl⟩ | rintro _ _ ⟨_, rfl, rfl⟩ | rintro _ _ ⟨_, _, rfl, rfl⟩ | rintro _ _ ⟨_, _, _, _, rfl, rfl⟩ | intro _ | refine go ?_ | (refine is_draw ?_; refine WC_draw mixed (by kernel_rfl) ?_) | refine cal @law13_awake ?_ | refine cal @hN ?_ | refine cal @hH ?_ | refine cal @hHT ?_)
                rename_i b4 b5 b6 pp qq pm qm b9
                apply WC_loopE (E0 := [(3, _), (5, _), (9, _), (11, _), (12, _), (67, _), (68, _)]) (fun E0 (i : Nat) => (69, .int .i64 i) :: (13, .bool ((S.take i).any (toldP core))) :: E0) (fun _ => Own 37 15 (.slice pm S.length qm) S.length (flat mc S) :: Cells b9 68 (tuc T pp qq pm S.length qm wr) :: Cells b5 37 (mc m) :: Old W :: F) (fun i => i ≤ S.length) (fun i => S.length - i) 0
                · (repeat (first | exact Sub.nil | (refine Sub.cons (by first | rfl | (simp only [Nat.zero_add]; rfl)) ?_)))
                · exact Nat.zero_le _
                · (repeat (first | (with_reducible exact Ent.refl) | exact Ent.nil | (apply ent_pickE; (focus ((repeat (first | (with_reducible exact pk_here) | (apply pk_there))); done))) | apply Ent.drop))
                · intro i hi
                  by_cases hlt : i < S.length
                  · have hs := told_step (core := core) hlt
                    cases ht : (S.take i).any (toldP core) with
                    | true =>
                      rw [ht, Bool.true_or] at hs
                      repeat (first | rintro _ _ ⟨rfl, rfl⟩ | rintro _ _ ⟨_, rfl, rfl⟩ | rintro _ _ ⟨_, _, rfl, rfl⟩ | rintro _ _ ⟨_, _, _, _, rfl, rfl⟩ | intro _ | refine go ?_ | (refine is_draw ?_; refine WC_draw mixed (by kernel_rfl) ?_))
                      refine WE_loop (i + 1) (by omega) (by omega) ?_ ?_
                      · rw [hs]; (repeat (first | exact Sub.nil | (refine Sub.cons (by first | rfl | (simp only [Nat.zero_add]; rfl)) ?_)))
                      · (repeat (first | (with_reducible exact Ent.refl) | exact Ent.nil | (apply ent_pickE; (focus ((repeat (first | (with_reducible exact pk_here) | (apply pk_there))); done))) | apply Ent.drop))
                    | false =>
                      rw [ht, Bool.false_or] at hs
                      unfold toldP at hs
                      by_cases d1 : S[i].dst = core
                      · by_cases d2 : S[i].kind = 5
                        · simp only [d1, d2, decide_true, Bool.true_or, Bool.and_true] at hs
                          repeat (first | rintro _ _ ⟨rfl, rfl⟩ | rintro _ _ ⟨_, rfl, rfl⟩ | rintro _ _ ⟨_, _, rfl, rfl⟩ | rintro _ _ ⟨_, _, _, _, rfl, rfl⟩ | intro _ | refine go ?_ | (refine is_draw ?_; refine WC_draw mixed (by kernel_rfl) ?_))
                          refine WE_loop (i + 1) (by omega) (by omega) ?_ ?_
                          · unfold toldP; rw [hs]; (repeat (first | exact Sub.nil | (refine Sub.cons (by first | rfl | (simp only [Nat.zero_add]; rfl)) ?_)))
                          · (repeat (first | (with_reducible exact Ent.refl) | exact Ent.nil | (apply ent_pickE; (focus ((repeat (first | (with_reducible exact pk_here) | (apply pk_there))); done))) | apply Ent.drop))
                        · simp only [d1, d2, decide_true, decide_false, Bool.false_or, Bool.true_and] at hs
                          repeat (first | rintro _ _ ⟨rfl, rfl⟩ | rintro _ _ ⟨_, rfl, rfl⟩ | rintro _ _ ⟨_, _, rfl, rfl⟩ | rintro _ _ ⟨_, _, _, _, rfl, rfl⟩ | intro _ | refine go ?_ | (refine is_draw ?_; refine WC_draw mixed (by kernel_rfl) ?_))
                          refine WE_loop (i + 1) (by omega) (by omega) ?_ ?_
                          · unfold toldP; rw [hs]; (repeat (first | exact Sub.nil | (refine Sub.cons (by first | rfl | (simp only [Nat.zero_add]; rfl)) ?_)))
                          · (repeat (first | (with_reducible exact Ent.refl) | exact Ent.nil | (apply ent_pickE; (focus ((repeat (first | (with_reducible exact pk_here) | (apply pk_there))); done))) | apply Ent.drop))
                      · simp only [d1, decide_false, Bool.false_and] at hs
                        repeat (first | rintro _ _ ⟨rfl, rfl⟩ | rintro _ _ ⟨_, rfl, rfl⟩ | rintro _ _ ⟨_, _, rfl, rfl⟩ | rintro _ _ ⟨_, _, _, _, rfl, rfl⟩ | intro _ | refine go ?_ | (refine is_draw ?_; refine WC_draw mixed (by kernel_rfl) ?_))
                        refine WE_loop (i + 1) (by omega) (by omega) ?_ ?_
                        · unfold toldP; rw [hs]; (repeat (first | exact Sub.nil | (refine Sub.cons (by first | rfl | (simp only [Nat.zero_add]; rfl)) ?_)))
                        · (repeat (first | (with_reducible exact Ent.refl) | exact Ent.nil | (apply ent_pickE; (focus ((repeat (first | (with_reducible exact pk_here) | (apply pk_there))); done))) | apply Ent.drop))
                  · have hil : i = S.length := by omega
                    subst hil
                    rw [List.take_length]
                    rw [htd]
                    repeat (first | rintro _ _ ⟨rfl, rfl⟩ | rintro _ _ ⟨_, rfl, rfl⟩ | rintro _ _ ⟨_, _, rfl, rfl⟩ | rintro _ _ ⟨_, _, _, _, rfl, rfl⟩ | intro _ | refine go ?_ | (refine is_draw ?_; refine WC_draw mixed (by kernel_rfl) ?_))
                    (apply WE_ret rfl rfl (by (repeat (first | exact ResOk.nil | (apply ResOk.tmp; rfl) | (apply resOk_cell; rfl; exact inferInstance; rfl; rfl)))); (first | exact ⟨rfl, rfl⟩ | exact ⟨congrArg Value.bool (by decide), rfl⟩ | exact ⟨_, rfl, rfl⟩ | exact ⟨_, _, rfl, rfl⟩ | exact ⟨by first | (simp []; done) | (simp [] <;> omega), rfl⟩); (repeat (first | exact Ent.refl | exact Ent.nil | apply Ent.pick | apply Ent.drop)))
          | false =>
            by_cases c2 : T.o = core
            · simp only [hh] at hH
              have hcs : core = m.src := by omega
              repeat (first | rintro _ _ ⟨rfl, rfl⟩ | rintro _ _ ⟨_, rfl, rfl⟩ | rintro _ _ ⟨_, _, rfl, rfl⟩ | rintro _ _ ⟨_, _, _, _, rfl, rfl⟩ | intro _ | refine go ?_ | (refine is_draw ?_; refine WC_draw mixed (by kernel_rfl) ?_) | refine cal @law13_awake ?_ | refine cal @hN ?_ | refine cal @hH ?_ | refine cal @hHT ?_)
              rename_i b4 b5 b6 pp qq pm qm b9
              apply WC_loopE (E0 := [(3, _), (5, _), (9, _), (11, _), (12, _), (67, _), (68, _)]) (fun E0 (i : Nat) => (69, .int .i64 i) :: (13, .bool ((S.take i).any (toldP core))) :: E0) (fun _ => Own 37 15 (.slice pm S.length qm) S.length (flat mc S) :: Cells b9 68 (tuc T pp qq pm S.length qm wr) :: Cells b5 37 (mc m) :: Old W :: F) (fun i => i ≤ S.length) (fun i => S.length - i) 0
              · (repeat (first | exact Sub.nil | (refine Sub.cons (by first | rfl | (simp only [Nat.zero_add]; rfl)) ?_)))
              · exact Nat.zero_le _
              · (repeat (first | (with_reducible exact Ent.refl) | exact Ent.nil | (apply ent_pickE; (focus ((repeat (first | (with_reducible exact pk_here) | (apply pk_there))); done))) | apply Ent.drop))
              · intro i hi
                by_cases hlt : i < S.length
                · have hs := told_step (core := core) hlt
                  cases ht : (S.take i).any (toldP core) with
                  | true =>
                    rw [ht, Bool.true_or] at hs
                    repeat (first | rintro _ _ ⟨rfl, rfl⟩ | rintro _ _ ⟨_, rfl, rfl⟩ | rintro _ _ ⟨_, _, rfl, rfl⟩ | rintro _ _ ⟨_, _, _, _, rfl, rfl⟩ | intro _ | refine go ?_ | (refine is_draw ?_; refine WC_draw mixed (by kernel_rfl) ?_))
                    refine WE_loop (i + 1) (by omega) (by omega) ?_ ?_
                    · rw [hs]; (repeat (first | exact Sub.nil | (refine Sub.cons (by first | rfl | (simp only [Nat.zero_add]; rfl)) ?_)))
                    · (repeat (first | (with_reducible exact Ent.refl) | exact Ent.nil | (apply ent_pickE; (focus ((repeat (first | (with_reducible exact pk_here) | (apply pk_there))); done))) | apply Ent.drop))
                  | false =>
                    rw [ht, Bool.false_or] at hs
                    unfold toldP at hs
                    by_cases d1 : S[i].dst = core
                    · by_cases d2 : S[i].kind = 5
                      · simp only [d1, d2, decide_true, Bool.true_or, Bool.and_true] at hs
                        repeat (first | rintro _ _ ⟨rfl, rfl⟩ | rintro _ _ ⟨_, rfl, rfl⟩ | rintro _ _ ⟨_, _, rfl, rfl⟩ | rintro _ _ ⟨_, _, _, _, rfl, rfl⟩ | intro _ | refine go ?_ | (refine is_draw ?_; refine WC_draw mixed (by kernel_rfl) ?_))
                        refine WE_loop (i + 1) (by omega) (by omega) ?_ ?_
                        · unfold toldP; rw [hs]; (repeat (first | exact Sub.nil | (refine Sub.cons (by first | rfl | (simp only [Nat.zero_add]; rfl)) ?_)))
                        · (repeat (first | (with_reducible exact Ent.refl) | exact Ent.nil | (apply ent_pickE; (focus ((repeat (first | (with_reducible exact pk_here) | (apply pk_there))); done))) | apply Ent.drop))
                      · simp only [d1, d2, decide_true, decide_false, Bool.false_or, Bool.true_and] at hs
                        repeat (first | rintro _ _ ⟨rfl, rfl⟩ | rintro _ _ ⟨_, rfl, rfl⟩ | rintro _ _ ⟨_, _, rfl, rfl⟩ | rintro _ _ ⟨_, _, _, _, rfl, rfl⟩ | intro _ | refine go ?_ | (refine is_draw ?_; refine WC_draw mixed (by kernel_rfl) ?_))
                        refine WE_loop (i + 1) (by omega) (by omega) ?_ ?_
                        · unfold toldP; rw [hs]; (repeat (first | exact Sub.nil | (refine Sub.cons (by first | rfl | (simp only [Nat.zero_add]; rfl)) ?_)))
                        · (repeat (first | (with_reducible exact Ent.refl) | exact Ent.nil | (apply ent_pickE; (focus ((repeat (first | (with_reducible exact pk_here) | (apply pk_there))); done))) | apply Ent.drop))
                    · simp only [d1, decide_false, Bool.false_and] at hs
                      repeat (first | rintro _ _ ⟨rfl, rfl⟩ | rintro _ _ ⟨_, rfl, rfl⟩ | rintro _ _ ⟨_, _, rfl, rfl⟩ | rintro _ _ ⟨_, _, _, _, rfl, rfl⟩ | intro _ | refine go ?_ | (refine is_draw ?_; refine WC_draw mixed (by kernel_rfl) ?_))
                      refine WE_loop (i + 1) (by omega) (by omega) ?_ ?_
                      · unfold toldP; rw [hs]; (repeat (first | exact Sub.nil | (refine Sub.cons (by first | rfl | (simp only [Nat.zero_add]; rfl)) ?_)))
                      · (repeat (first | (with_reducible exact Ent.refl) | exact Ent.nil | (apply ent_pickE; (focus ((repeat (first | (with_reducible exact pk_here) | (apply pk_there))); done))) | apply Ent.drop))
                · have hil : i = S.length := by omega
                  subst hil
                  rw [List.take_length]
                  cases htd : S.any (toldP core) with
                  | true =>
                    repeat (first | rintro _ _ ⟨rfl, rfl⟩ | rintro _ _ ⟨_, rfl, rfl⟩ | rintro _ _ ⟨_, _, rfl, rfl⟩ | rintro _ _ ⟨_, _, _, _, rfl, rfl⟩ | intro _ | refine go ?_ | (refine is_draw ?_; refine WC_draw mixed (by kernel_rfl) ?_))
                    (apply WE_ret rfl rfl (by (repeat (first | exact ResOk.nil | (apply ResOk.tmp; rfl) | (apply resOk_cell; rfl; exact inferInstance; rfl; rfl)))); (first | exact ⟨rfl, rfl⟩ | exact ⟨congrArg Value.bool (by decide), rfl⟩ | exact ⟨_, rfl, rfl⟩ | exact ⟨_, _, rfl, rfl⟩ | exact ⟨by first | (simp []; done) | (simp [] <;> omega), rfl⟩); (repeat (first | exact Ent.refl | exact Ent.nil | apply Ent.pick | apply Ent.drop)))
                  | false =>
                    repeat (first | rintro _ _ ⟨rfl, rfl⟩ | rintro _ _ ⟨_, rfl, rfl⟩ | rintro _ _ ⟨_, _, rfl, rfl⟩ | rintro _ _ ⟨_, _, _, _, rfl, rfl⟩ | intro _ | refine go ?_ | (refine is_draw ?_; refine WC_draw mixed (by kernel_rfl) ?_))
                    (apply WE_ret rfl rfl (by (repeat (first | exact ResOk.nil | (apply ResOk.tmp; rfl) | (apply resOk_cell; rfl; exact inferInstance; rfl; rfl)))); (first | exact ⟨rfl, rfl⟩ | exact ⟨congrArg Value.bool (by decide), rfl⟩ | exact ⟨_, rfl, rfl⟩ | exact ⟨_, _, rfl, rfl⟩ | exact ⟨by first | (simp []; done) | (simp [] <;> omega), rfl⟩); (repeat (first | exact Ent.refl | exact Ent.nil | apply Ent.pick | apply Ent.drop)))
            · cases hT : shHas T.s core with
              | true =>
                rw [hT] at hMb; cases hMb
              | false =>
                simp only [hh] at hH
                simp only [hT] at hHT
                have hcs : ¬ core = m.src := by omega
                repeat (first | rintro _ _ ⟨rfl, rfl⟩ | rintro _ _ ⟨_, rfl, rfl⟩ | rintro _ _ ⟨_, _, rfl, rfl⟩ | rintro _ _ ⟨_, _, _, _, rfl, rfl⟩ | intro _ | refine go ?_ | (refine is_draw ?_; refine WC_draw mixed (by kernel_rfl) ?_) | refine cal @law13_awake ?_ | refine cal @hN ?_ | refine cal @hH ?_ | refine cal @hHT ?_)
                rename_i b4 b5 b6 pp qq pm qm b9
                apply WC_loopE (E0 := [(3, _), (5, _), (9, _), (11, _), (12, _), (67, _), (68, _)]) (fun E0 (i : Nat) => (69, .int .i64 i) :: (13, .bool ((S.take i).any (toldP core))) :: E0) (fun _ => Own 37 15 (.slice pm S.length qm) S.length (flat mc S) :: Cells b9 68 (tuc T pp qq pm S.length qm wr) :: Cells b5 37 (mc m) :: Old W :: F) (fun i => i ≤ S.length) (fun i => S.length - i) 0
                · (repeat (first | exact Sub.nil | (refine Sub.cons (by first | rfl | (simp only [Nat.zero_add]; rfl)) ?_)))
                · exact Nat.zero_le _
                · (repeat (first | (with_reducible exact Ent.refl) | exact Ent.nil | (apply ent_pickE; (focus ((repeat (first | (with_reducible exact pk_here) | (apply pk_there))); done))) | apply Ent.drop))
                · intro i hi
                  by_cases hlt : i < S.length
                  · have hs := told_step (core := core) hlt
                    cases ht : (S.take i).any (toldP core) with
                    | true =>
                      rw [ht, Bool.true_or] at hs
                      repeat (first | rintro _ _ ⟨rfl, rfl⟩ | rintro _ _ ⟨_, rfl, rfl⟩ | rintro _ _ ⟨_, _, rfl, rfl⟩ | rintro _ _ ⟨_, _, _, _, rfl, rfl⟩ | intro _ | refine go ?_ | (refine is_draw ?_; refine WC_draw mixed (by kernel_rfl) ?_))
                      refine WE_loop (i + 1) (by omega) (by omega) ?_ ?_
                      · rw [hs]; (repeat (first | exact Sub.nil | (refine Sub.cons (by first | rfl | (simp only [Nat.zero_add]; rfl)) ?_)))
                      · (repeat (first | (with_reducible exact Ent.refl) | exact Ent.nil | (apply ent_pickE; (focus ((repeat (first | (with_reducible exact pk_here) | (apply pk_there))); done))) | apply Ent.drop))
                    | false =>
                      rw [ht, Bool.false_or] at hs
                      unfold toldP at hs
                      by_cases d1 : S[i].dst = core
                      · by_cases d2 : S[i].kind = 5
                        · simp only [d1, d2, decide_true, Bool.true_or, Bool.and_true] at hs
                          repeat (first | rintro _ _ ⟨rfl, rfl⟩ | rintro _ _ ⟨_, rfl, rfl⟩ | rintro _ _ ⟨_, _, rfl, rfl⟩ | rintro _ _ ⟨_, _, _, _, rfl, rfl⟩ | intro _ | refine go ?_ | (refine is_draw ?_; refine WC_draw mixed (by kernel_rfl) ?_))
                          refine WE_loop (i + 1) (by omega) (by omega) ?_ ?_
                          · unfold toldP; rw [hs]; (repeat (first | exact Sub.nil | (refine Sub.cons (by first | rfl | (simp only [Nat.zero_add]; rfl)) ?_)))
                          · (repeat (first | (with_reducible exact Ent.refl) | exact Ent.nil | (apply ent_pickE; (focus ((repeat (first | (with_reducible exact pk_here) | (apply pk_there))); done))) | apply Ent.drop))
                        · simp only [d1, d2, decide_true, decide_false, Bool.false_or, Bool.true_and] at hs
                          repeat (first | rintro _ _ ⟨rfl, rfl⟩ | rintro _ _ ⟨_, rfl, rfl⟩ | rintro _ _ ⟨_, _, rfl, rfl⟩ | rintro _ _ ⟨_, _, _, _, rfl, rfl⟩ | intro _ | refine go ?_ | (refine is_draw ?_; refine WC_draw mixed (by kernel_rfl) ?_))
                          refine WE_loop (i + 1) (by omega) (by omega) ?_ ?_
                          · unfold toldP; rw [hs]; (repeat (first | exact Sub.nil | (refine Sub.cons (by first | rfl | (simp only [Nat.zero_add]; rfl)) ?_)))
                          · (repeat (first | (with_reducible exact Ent.refl) | exact Ent.nil | (apply ent_pickE; (focus ((repeat (first | (with_reducible exact pk_here) | (apply pk_there))); done))) | apply Ent.drop))
                      · simp only [d1, decide_false, Bool.false_and] at hs
                        repeat (first | rintro _ _ ⟨rfl, rfl⟩ | rintro _ _ ⟨_, rfl, rfl⟩ | rintro _ _ ⟨_, _, rfl, rfl⟩ | rintro _ _ ⟨_, _, _, _, rfl, rfl⟩ | intro _ | refine go ?_ | (refine is_draw ?_; refine WC_draw mixed (by kernel_rfl) ?_))
                        refine WE_loop (i + 1) (by omega) (by omega) ?_ ?_
                        · unfold toldP; rw [hs]; (repeat (first | exact Sub.nil | (refine Sub.cons (by first | rfl | (simp only [Nat.zero_add]; rfl)) ?_)))
                        · (repeat (first | (with_reducible exact Ent.refl) | exact Ent.nil | (apply ent_pickE; (focus ((repeat (first | (with_reducible exact pk_here) | (apply pk_there))); done))) | apply Ent.drop))
                  · have hil : i = S.length := by omega
                    subst hil
                    rw [List.take_length]
                    cases htd : S.any (toldP core) with
                    | true =>
                      repeat (first | rintro _ _ ⟨rfl, rfl⟩ | rintro _ _ ⟨_, rfl, rfl⟩ | rintro _ _ ⟨_, _, rfl, rfl⟩ | rintro _ _ ⟨_, _, _, _, rfl, rfl⟩ | intro _ | refine go ?_ | (refine is_draw ?_; refine WC_draw mixed (by kernel_rfl) ?_))
                      (apply WE_ret rfl rfl (by (repeat (first | exact ResOk.nil | (apply ResOk.tmp; rfl) | (apply resOk_cell; rfl; exact inferInstance; rfl; rfl)))); (first | exact ⟨rfl, rfl⟩ | exact ⟨congrArg Value.bool (by decide), rfl⟩ | exact ⟨_, rfl, rfl⟩ | exact ⟨_, _, rfl, rfl⟩ | exact ⟨by first | (simp []; done) | (simp [] <;> omega), rfl⟩); (repeat (first | exact Ent.refl | exact Ent.nil | apply Ent.pick | apply Ent.drop)))
                    | false =>
                      repeat (first | rintro _ _ ⟨rfl, rfl⟩ | rintro _ _ ⟨_, rfl, rfl⟩ | rintro _ _ ⟨_, _, rfl, rfl⟩ | rintro _ _ ⟨_, _, _, _, rfl, rfl⟩ | intro _ | refine go ?_ | (refine is_draw ?_; refine WC_draw mixed (by kernel_rfl) ?_))
                      (apply WE_ret rfl rfl (by (repeat (first | exact ResOk.nil | (apply ResOk.tmp; rfl) | (apply resOk_cell; rfl; exact inferInstance; rfl; rfl)))); (first | exact ⟨rfl, rfl⟩ | exact ⟨congrArg Value.bool (by decide), rfl⟩ | exact ⟨_, rfl, rfl⟩ | exact ⟨_, _, rfl, rfl⟩ | exact ⟨by first | (simp []; done) | (simp [] <;> omega), rfl⟩); (repeat (first | exact Ent.refl | exact Ent.nil | apply Ent.pick | apply Ent.drop)))
      · have hcs : ¬ core = m.src := by omega
        repeat (first | rintro _ _ ⟨rfl, rfl⟩ | rintro _ _ ⟨_, rfl, rfl⟩ | rintro _ _ ⟨_, _, rfl, rfl⟩ | rintro _ _ ⟨_, _, _, _, rfl, rfl⟩ | intro _ | refine go ?_ | (refine is_draw ?_; refine WC_draw mixed (by kernel_rfl) ?_) | refine cal @law13_awake ?_ | refine cal @hN ?_ | refine cal @hH ?_ | refine cal @hHT ?_)
        rename_i b4 b5 b6 pp qq pm qm b9
        apply WC_loopE (E0 := [(3, _), (5, _), (9, _), (11, _), (12, _), (67, _), (68, _)]) (fun E0 (i : Nat) => (69, .int .i64 i) :: (13, .bool ((S.take i).any (toldP core))) :: E0) (fun _ => Own 37 15 (.slice pm S.length qm) S.length (flat mc S) :: Cells b9 68 (tuc T pp qq pm S.length qm wr) :: Cells b5 37 (mc m) :: Old W :: F) (fun i => i ≤ S.length) (fun i => S.length - i) 0
        · (repeat (first | exact Sub.nil | (refine Sub.cons (by first | rfl | (simp only [Nat.zero_add]; rfl)) ?_)))
        · exact Nat.zero_le _
        · (repeat (first | (with_reducible exact Ent.refl) | exact Ent.nil | (apply ent_pickE; (focus ((repeat (first | (with_reducible exact pk_here) | (apply pk_there))); done))) | apply Ent.drop))
        · intro i hi
          by_cases hlt : i < S.length
          · have hs := told_step (core := core) hlt
            cases ht : (S.take i).any (toldP core) with
            | true =>
              rw [ht, Bool.true_or] at hs
              repeat (first | rintro _ _ ⟨rfl, rfl⟩ | rintro _ _ ⟨_, rfl, rfl⟩ | rintro _ _ ⟨_, _, rfl, rfl⟩ | rintro _ _ ⟨_, _, _, _, rfl, rfl⟩ | intro _ | refine go ?_ | (refine is_draw ?_; refine WC_draw mixed (by kernel_rfl) ?_))
              refine WE_loop (i + 1) (by omega) (by omega) ?_ ?_
              · rw [hs]; (repeat (first | exact Sub.nil | (refine Sub.cons (by first | rfl | (simp only [Nat.zero_add]; rfl)) ?_)))
              · (repeat (first | (with_reducible exact Ent.refl) | exact Ent.nil | (apply ent_pickE; (focus ((repeat (first | (with_reducible exact pk_here) | (apply pk_there))); done))) | apply Ent.drop))
            | false =>
              rw [ht, Bool.false_or] at hs
              unfold toldP at hs
              by_cases d1 : S[i].dst = core
              · by_cases d2 : S[i].kind = 5
                · simp only [d1, d2, decide_true, Bool.true_or, Bool.and_true] at hs
                  repeat (first | rintro _ _ ⟨rfl, rfl⟩ | rintro _ _ ⟨_, rfl, rfl⟩ | rintro _ _ ⟨_, _, rfl, rfl⟩ | rintro _ _ ⟨_, _, _, _, rfl, rfl⟩ | intro _ | refine go ?_ | (refine is_draw ?_; refine WC_draw mixed (by kernel_rfl) ?_))
                  refine WE_loop (i + 1) (by omega) (by omega) ?_ ?_
                  · unfold toldP; rw [hs]; (repeat (first | exact Sub.nil | (refine Sub.cons (by first | rfl | (simp only [Nat.zero_add]; rfl)) ?_)))
                  · (repeat (first | (with_reducible exact Ent.refl) | exact Ent.nil | (apply ent_pickE; (focus ((repeat (first | (with_reducible exact pk_here) | (apply pk_there))); done))) | apply Ent.drop))
                · simp only [d1, d2, decide_true, decide_false, Bool.false_or, Bool.true_and] at hs
                  repeat (first | rintro _ _ ⟨rfl, rfl⟩ | rintro _ _ ⟨_, rfl, rfl⟩ | rintro _ _ ⟨_, _, rfl, rfl⟩ | rintro _ _ ⟨_, _, _, _, rfl, rfl⟩ | intro _ | refine go ?_ | (refine is_draw ?_; refine WC_draw mixed (by kernel_rfl) ?_))
                  refine WE_loop (i + 1) (by omega) (by omega) ?_ ?_
                  · unfold toldP; rw [hs]; (repeat (first | exact Sub.nil | (refine Sub.cons (by first | rfl | (simp only [Nat.zero_add]; rfl)) ?_)))
                  · (repeat (first | (with_reducible exact Ent.refl) | exact Ent.nil | (apply ent_pickE; (focus ((repeat (first | (with_reducible exact pk_here) | (apply pk_there))); done))) | apply Ent.drop))
              · simp only [d1, decide_false, Bool.false_and] at hs
                repeat (first | rintro _ _ ⟨rfl, rfl⟩ | rintro _ _ ⟨_, rfl, rfl⟩ | rintro _ _ ⟨_, _, rfl, rfl⟩ | rintro _ _ ⟨_, _, _, _, rfl, rfl⟩ | intro _ | refine go ?_ | (refine is_draw ?_; refine WC_draw mixed (by kernel_rfl) ?_))
                refine WE_loop (i + 1) (by omega) (by omega) ?_ ?_
                · unfold toldP; rw [hs]; (repeat (first | exact Sub.nil | (refine Sub.cons (by first | rfl | (simp only [Nat.zero_add]; rfl)) ?_)))
                · (repeat (first | (with_reducible exact Ent.refl) | exact Ent.nil | (apply ent_pickE; (focus ((repeat (first | (with_reducible exact pk_here) | (apply pk_there))); done))) | apply Ent.drop))
          · have hil : i = S.length := by omega
            subst hil
            rw [List.take_length]
            cases htd : S.any (toldP core) with
            | true =>
              repeat (first | rintro _ _ ⟨rfl, rfl⟩ | rintro _ _ ⟨_, rfl, rfl⟩ | rintro _ _ ⟨_, _, rfl, rfl⟩ | rintro _ _ ⟨_, _, _, _, rfl, rfl⟩ | intro _ | refine go ?_ | (refine is_draw ?_; refine WC_draw mixed (by kernel_rfl) ?_))
              (apply WE_ret rfl rfl (by (repeat (first | exact ResOk.nil | (apply ResOk.tmp; rfl) | (apply resOk_cell; rfl; exact inferInstance; rfl; rfl)))); (first | exact ⟨rfl, rfl⟩ | exact ⟨congrArg Value.bool (by decide), rfl⟩ | exact ⟨_, rfl, rfl⟩ | exact ⟨_, _, rfl, rfl⟩ | exact ⟨by first | (simp []; done) | (simp [] <;> omega), rfl⟩); (repeat (first | exact Ent.refl | exact Ent.nil | apply Ent.pick | apply Ent.drop)))
            | false =>
              repeat (first | rintro _ _ ⟨rfl, rfl⟩ | rintro _ _ ⟨_, rfl, rfl⟩ | rintro _ _ ⟨_, _, rfl, rfl⟩ | rintro _ _ ⟨_, _, _, _, rfl, rfl⟩ | intro _ | refine go ?_ | (refine is_draw ?_; refine WC_draw mixed (by kernel_rfl) ?_))
              (apply WE_ret rfl rfl (by (repeat (first | exact ResOk.nil | (apply ResOk.tmp; rfl) | (apply resOk_cell; rfl; exact inferInstance; rfl; rfl)))); (first | exact ⟨rfl, rfl⟩ | exact ⟨congrArg Value.bool (by decide), rfl⟩ | exact ⟨_, rfl, rfl⟩ | exact ⟨_, _, rfl, rfl⟩ | exact ⟨by first | (simp []; done) | (simp [] <;> omega), rfl⟩); (repeat (first | exact Ent.refl | exact Ent.nil | apply Ent.pick | apply Ent.drop)))
    · have e1 : nextT e m = .no := by simp [nextT, h0]
      have e2 : nextS e m w = [] := by simp [nextS, h0]
      have e3 : nextW e m = false := by simp [nextW, h0]
      simp only [e1, e2, e3] at hN
      repeat (first | rintro _ _ ⟨rfl, rfl⟩ | rintro _ _ ⟨_, rfl, rfl⟩ | rintro _ _ ⟨_, _, rfl, rfl⟩ | rintro _ _ ⟨_, _, _, _, rfl, rfl⟩ | intro _ | refine go ?_ | (refine is_draw ?_; refine WC_draw mixed (by kernel_rfl) ?_) | refine cal @law13_awake ?_ | refine cal @hN ?_)
      (apply WE_ret rfl rfl (by (repeat (first | exact ResOk.nil | (apply ResOk.tmp; rfl) | (apply resOk_cell; rfl; exact inferInstance; rfl; rfl)))); (first | exact ⟨rfl, rfl⟩ | exact ⟨congrArg Value.bool (by decide), rfl⟩ | exact ⟨_, rfl, rfl⟩ | exact ⟨_, _, rfl, rfl⟩ | exact ⟨by first | (simp []; done) | (simp [] <;> omega), rfl⟩); (repeat (first | exact Ent.refl | exact Ent.nil | apply Ent.pick | apply Ent.drop)))
end Go.Sx
