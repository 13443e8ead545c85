/- The law of a turn's messages. My own work. -/
import Derived.Test.YtcjagmphobdbbaaTabPl
namespace Go.Sx
open Go Go.Proofs
set_option linter.unusedVariables false
set_option linter.unusedSectionVars false
set_option linter.unusedSimpArgs false
set_option maxRecDepth 100000
set_option maxHeartbeats 4000000
attribute [local irreducible] Go.Exit.then Go.Exit.inBlock Go.Code.wp WC WO WE WQ V LoopQ FnQ Sat Star band bor IntKind.wrap WR Code.rounds WT KO
theorem law13_One {W : World} {F : List HP} {e : TEnt} {a : Option Addr} {k : Nat} {m : Msg} {w : Words} (hk : ROld W 1 (.slice a e.s.ps.length k) e.s.ps.length (flat ic e.s.ps)) (hl : e.s.ps.length ≤ 9223372036854775807) :
    FnF Try.prog 6 [.agg (tec e a k).toArray, mv m, wv w] [Old W] F (fun r L' => r = .bool true ∧ L' = [Old W]) := by
  haveI := hk
  refine FnF.mk' Try.func6 rfl rfl Try.ntmps6 rfl ?_
  by_cases h1 : 100 < e.s.ps.length
  · repeat (first | rintro _ _ ⟨rfl, rfl⟩ | rintro _ _ ⟨_, rfl, rfl⟩ | rintro _ _ ⟨_, _, rfl, rfl⟩ | rintro _ _ ⟨_, _, _, _, rfl, rfl⟩ | intro _ | refine go ?_ | (refine is_draw ?_; refine WC_draw mixed (by kernel_rfl) ?_) | refine cal @law13_awake ?_)
    (apply WE_ret rfl rfl (by (repeat (first | exact ResOk.nil | (apply ResOk.tmp; rfl) | (apply resOk_cell; rfl; exact inferInstance; rfl; rfl)))); (first | exact ⟨rfl, rfl⟩ | exact ⟨congrArg Value.bool (by decide), rfl⟩ | exact ⟨_, rfl, rfl⟩ | exact ⟨_, _, rfl, rfl⟩ | exact ⟨by first | (simp []; done) | (simp [] <;> omega), rfl⟩); (repeat (first | exact Ent.refl | exact Ent.nil | apply Ent.pick | apply Ent.drop)))
  · have hN := fun F (hk : RdL F 1 (.slice a e.s.ps.length k) e.s.ps.length (flat ic e.s.ps)) => tab_Next (F := F) (e := e) (a := a) (k := k) (m := m) (w := w) hk (by omega)
    by_cases h0 : nextE e m = 0
    · obtain ⟨s1, s2, s3, s4, s5⟩ := sent_facts (w := w) h0
      have hmay := next_may h0
      obtain ⟨hok, _⟩ := nextE_ok h0
      obtain ⟨hm, _⟩ := okT_facts hok
      have hTl : (nextT e m).s.ps.length ≤ 1000 := by
        simp only [mayT, Bool.and_eq_true] at hmay
        have := (may_facts' hmay.1.1).2.2; omega
      have hM := fun F p q (hk : RdL F 1 (.slice p (nextT e m).s.ps.length q) (nextT e m).s.ps.length (flat ic (nextT e m).s.ps)) => tab_May (F := F) (e := nextT e m) (a := p) (k := q) hk hTl
      simp only [hmay] at hM
      simp only [h0] at hN
      have hH := fun F c (hk : RdL F 1 (.slice a e.s.ps.length k) e.s.ps.length (flat ic e.s.ps)) => shr_Has (F := F) (s := e.s) (a := a) (k := k) (c := c) hk hm
      generalize nextS e m w = S at *
      generalize nextT e m = T at *
      generalize nextW e m = wr at *
      obtain ⟨g1, g2⟩ := s4 s1
      repeat (first | rintro _ _ ⟨rfl, rfl⟩ | rintro _ _ ⟨_, rfl, rfl⟩ | rintro _ _ ⟨_, _, rfl, rfl⟩ | rintro _ _ ⟨_, _, _, _, rfl, rfl⟩ | intro _ | refine go ?_ | (refine is_draw ?_; refine WC_draw mixed (by kernel_rfl) ?_) | refine cal @law13_awake ?_ | refine cal @hN ?_ | refine cal @hM ?_)
      rename_i b3 b4 b5 pp qq pm qm b7 b9
      clear s4
      generalize S[0] = f0 at *
      by_cases gd : f0.dst = m.src
      · skip
        repeat (first | rintro _ _ ⟨rfl, rfl⟩ | rintro _ _ ⟨_, rfl, rfl⟩ | rintro _ _ ⟨_, _, rfl, rfl⟩ | rintro _ _ ⟨_, _, _, _, rfl, rfl⟩ | intro _ | refine go ?_ | (refine is_draw ?_; refine WC_draw mixed (by kernel_rfl) ?_))
        apply WC_loopE (E0 := [(3, _), (4, _), (81, _), (82, _)]) (fun E0 (i : Nat) => (83, .int .i64 i) :: (10, .int .i64 (lastN S i)) :: E0) (fun _ => Own 37 15 (.slice pm S.length qm) S.length (flat mc S) :: Cells b4 37 (mc m) :: Cells b3 59 (tec e a k) :: Old W :: F) (fun i => i ≤ S.length) (fun i => S.length - i) 0
        · (repeat (first | exact Sub.nil | (refine Sub.cons (by first | rfl | (simp only [Nat.zero_add]; rfl)) ?_)))
        · exact Nat.zero_le _
        · (repeat (first | (with_reducible exact Ent.refl) | exact Ent.nil | (apply ent_pickE; (focus ((repeat (first | (with_reducible exact pk_here) | (apply pk_there))); done))) | apply Ent.drop))
        · intro i hi
          by_cases hlt : i < S.length
          · obtain ⟨q1, q2, q3⟩ := s3 i hlt
            by_cases hi0 : i = 0
            · have q4 : ¬ S[i].kind = 6 := fun h => by have := q3.1 h; omega
              have el : lastN S (i + 1) = lastN S i := by subst hi0; rfl
              have q5 : decide (decide (S[i].kind = 6) ≠ decide (0 < (i : Int))) = false := by
                have : ¬ 0 < i := by omega
                simp [q4, this]
              repeat (first | rintro _ _ ⟨rfl, rfl⟩ | rintro _ _ ⟨_, rfl, rfl⟩ | rintro _ _ ⟨_, _, rfl, rfl⟩ | rintro _ _ ⟨_, _, _, _, rfl, rfl⟩ | intro _ | refine go ?_ | (refine is_draw ?_; refine WC_draw mixed (by kernel_rfl) ?_))
              simp only [q5]
              repeat (first | rintro _ _ ⟨rfl, rfl⟩ | rintro _ _ ⟨_, rfl, rfl⟩ | rintro _ _ ⟨_, _, rfl, rfl⟩ | rintro _ _ ⟨_, _, _, _, rfl, rfl⟩ | intro _ | refine go ?_ | (refine is_draw ?_; refine WC_draw mixed (by kernel_rfl) ?_))
              refine WE_loop (i + 1) (by omega) (by omega) ?_ ?_
              · rw [el]; (repeat (first | exact Sub.nil | (refine Sub.cons (by first | rfl | (simp only [Nat.zero_add]; rfl)) ?_)))
              · (repeat (first | (with_reducible exact Ent.refl) | exact Ent.nil | (apply ent_pickE; (focus ((repeat (first | (with_reducible exact pk_here) | (apply pk_there))); done))) | apply Ent.drop))
            · have q4 : S[i].kind = 6 := q3.2 (by omega)
              obtain ⟨t1, t2, t3, t4, t5⟩ := s5 i hlt (by omega)
              have el : lastN S (i + 1) = S[i].dst := by
                unfold lastN; rw [if_neg (by omega), Nat.add_sub_cancel, ← getD_at hlt]
              have hHi := fun F (hk : RdL F 1 (.slice a e.s.ps.length k) e.s.ps.length (flat ic e.s.ps)) => hH F S[i].dst hk
              simp only [t5] at hHi
              have q5 : decide (decide (S[i].kind = 6) ≠ decide (0 < (i : Int))) = false := by
                have : 0 < i := by omega
                simp [q4, this]
              repeat (first | rintro _ _ ⟨rfl, rfl⟩ | rintro _ _ ⟨_, rfl, rfl⟩ | rintro _ _ ⟨_, _, rfl, rfl⟩ | rintro _ _ ⟨_, _, _, _, rfl, rfl⟩ | intro _ | refine go ?_ | (refine is_draw ?_; refine WC_draw mixed (by kernel_rfl) ?_))
              simp only [q5]
              repeat (first | rintro _ _ ⟨rfl, rfl⟩ | rintro _ _ ⟨_, rfl, rfl⟩ | rintro _ _ ⟨_, _, rfl, rfl⟩ | rintro _ _ ⟨_, _, _, _, rfl, rfl⟩ | intro _ | refine go ?_ | (refine is_draw ?_; refine WC_draw mixed (by kernel_rfl) ?_) | refine cal @hHi ?_)
              refine WE_loop (i + 1) (by omega) (by omega) ?_ ?_
              · rw [el]; (repeat (first | exact Sub.nil | (refine Sub.cons (by first | rfl | (simp only [Nat.zero_add]; rfl)) ?_)))
              · (repeat (first | (with_reducible exact Ent.refl) | exact Ent.nil | (apply ent_pickE; (focus ((repeat (first | (with_reducible exact pk_here) | (apply pk_there))); done))) | apply Ent.drop))
          · have hil : i = S.length := by omega
            subst hil
            repeat (first | rintro _ _ ⟨rfl, rfl⟩ | rintro _ _ ⟨_, rfl, rfl⟩ | rintro _ _ ⟨_, _, rfl, rfl⟩ | rintro _ _ ⟨_, _, _, _, rfl, rfl⟩ | intro _ | refine go ?_ | (refine is_draw ?_; refine WC_draw mixed (by kernel_rfl) ?_))
            (apply WE_ret rfl rfl (by (repeat (first | exact ResOk.nil | (apply ResOk.tmp; rfl) | (apply resOk_cell; rfl; exact inferInstance; rfl; rfl)))); (first | exact ⟨rfl, rfl⟩ | exact ⟨congrArg Value.bool (by decide), rfl⟩ | exact ⟨_, rfl, rfl⟩ | exact ⟨_, _, rfl, rfl⟩ | exact ⟨by first | (simp []; done) | (simp [] <;> omega), rfl⟩); (repeat (first | exact Ent.refl | exact Ent.nil | apply Ent.pick | apply Ent.drop)))
      · obtain ⟨gw, gox⟩ := g2.resolve_left gd
        repeat (first | rintro _ _ ⟨rfl, rfl⟩ | rintro _ _ ⟨_, rfl, rfl⟩ | rintro _ _ ⟨_, _, rfl, rfl⟩ | rintro _ _ ⟨_, _, _, _, rfl, rfl⟩ | intro _ | refine go ?_ | (refine is_draw ?_; refine WC_draw mixed (by kernel_rfl) ?_))
        apply WC_loopE (E0 := [(3, _), (4, _), (81, _), (82, _)]) (fun E0 (i : Nat) => (83, .int .i64 i) :: (10, .int .i64 (lastN S i)) :: E0) (fun _ => Own 37 15 (.slice pm S.length qm) S.length (flat mc S) :: Cells b4 37 (mc m) :: Cells b3 59 (tec e a k) :: Old W :: F) (fun i => i ≤ S.length) (fun i => S.length - i) 0
        · (repeat (first | exact Sub.nil | (refine Sub.cons (by first | rfl | (simp only [Nat.zero_add]; rfl)) ?_)))
        · exact Nat.zero_le _
        · (repeat (first | (with_reducible exact Ent.refl) | exact Ent.nil | (apply ent_pickE; (focus ((repeat (first | (with_reducible exact pk_here) | (apply pk_there))); done))) | apply Ent.drop))
        · intro i hi
          by_cases hlt : i < S.length
          · obtain ⟨q1, q2, q3⟩ := s3 i hlt
            by_cases hi0 : i = 0
            · have q4 : ¬ S[i].kind = 6 := fun h => by have := q3.1 h; omega
              have el : lastN S (i + 1) = lastN S i := by subst hi0; rfl
              have q5 : decide (decide (S[i].kind = 6) ≠ decide (0 < (i : Int))) = false := by
                have : ¬ 0 < i := by omega
                simp [q4, this]
              repeat (first | rintro _ _ ⟨rfl, rfl⟩ | rintro _ _ ⟨_, rfl, rfl⟩ | rintro _ _ ⟨_, _, rfl, rfl⟩ | rintro _ _ ⟨_, _, _, _, rfl, rfl⟩ | intro _ | refine go ?_ | (refine is_draw ?_; refine WC_draw mixed (by kernel_rfl) ?_))
              simp only [q5]
              repeat (first | rintro _ _ ⟨rfl, rfl⟩ | rintro _ _ ⟨_, rfl, rfl⟩ | rintro _ _ ⟨_, _, rfl, rfl⟩ | rintro _ _ ⟨_, _, _, _, rfl, rfl⟩ | intro _ | refine go ?_ | (refine is_draw ?_; refine WC_draw mixed (by kernel_rfl) ?_))
              refine WE_loop (i + 1) (by omega) (by omega) ?_ ?_
              · rw [el]; (repeat (first | exact Sub.nil | (refine Sub.cons (by first | rfl | (simp only [Nat.zero_add]; rfl)) ?_)))
              · (repeat (first | (with_reducible exact Ent.refl) | exact Ent.nil | (apply ent_pickE; (focus ((repeat (first | (with_reducible exact pk_here) | (apply pk_there))); done))) | apply Ent.drop))
            · have q4 : S[i].kind = 6 := q3.2 (by omega)
              obtain ⟨t1, t2, t3, t4, t5⟩ := s5 i hlt (by omega)
              have el : lastN S (i + 1) = S[i].dst := by
                unfold lastN; rw [if_neg (by omega), Nat.add_sub_cancel, ← getD_at hlt]
              have hHi := fun F (hk : RdL F 1 (.slice a e.s.ps.length k) e.s.ps.length (flat ic e.s.ps)) => hH F S[i].dst hk
              simp only [t5] at hHi
              have q5 : decide (decide (S[i].kind = 6) ≠ decide (0 < (i : Int))) = false := by
                have : 0 < i := by omega
                simp [q4, this]
              repeat (first | rintro _ _ ⟨rfl, rfl⟩ | rintro _ _ ⟨_, rfl, rfl⟩ | rintro _ _ ⟨_, _, rfl, rfl⟩ | rintro _ _ ⟨_, _, _, _, rfl, rfl⟩ | intro _ | refine go ?_ | (refine is_draw ?_; refine WC_draw mixed (by kernel_rfl) ?_))
              simp only [q5]
              repeat (first | rintro _ _ ⟨rfl, rfl⟩ | rintro _ _ ⟨_, rfl, rfl⟩ | rintro _ _ ⟨_, _, rfl, rfl⟩ | rintro _ _ ⟨_, _, _, _, rfl, rfl⟩ | intro _ | refine go ?_ | (refine is_draw ?_; refine WC_draw mixed (by kernel_rfl) ?_) | refine cal @hHi ?_)
              refine WE_loop (i + 1) (by omega) (by omega) ?_ ?_
              · rw [el]; (repeat (first | exact Sub.nil | (refine Sub.cons (by first | rfl | (simp only [Nat.zero_add]; rfl)) ?_)))
              · (repeat (first | (with_reducible exact Ent.refl) | exact Ent.nil | (apply ent_pickE; (focus ((repeat (first | (with_reducible exact pk_here) | (apply pk_there))); done))) | apply Ent.drop))
          · have hil : i = S.length := by omega
            subst hil
            repeat (first | rintro _ _ ⟨rfl, rfl⟩ | rintro _ _ ⟨_, rfl, rfl⟩ | rintro _ _ ⟨_, _, rfl, rfl⟩ | rintro _ _ ⟨_, _, _, _, rfl, rfl⟩ | intro _ | refine go ?_ | (refine is_draw ?_; refine WC_draw mixed (by kernel_rfl) ?_))
            (apply WE_ret rfl rfl (by (repeat (first | exact ResOk.nil | (apply ResOk.tmp; rfl) | (apply resOk_cell; rfl; exact inferInstance; rfl; rfl)))); (first | exact ⟨rfl, rfl⟩ | exact ⟨congrArg Value.bool (by decide), rfl⟩ | exact ⟨_, rfl, rfl⟩ | exact ⟨_, _, rfl, rfl⟩ | exact ⟨by first | (simp []; done) | (simp [] <;> omega), rfl⟩); (repeat (first | exact Ent.refl | exact Ent.nil | apply Ent.pick | apply Ent.drop)))
    · have e1 : nextT e m = .no := by simp [nextT, h0]
      have e2 : nextS e m w = [] := by simp [nextS, h0]
      have e3 : nextW e m = false := by simp [nextW, h0]
      simp only [e1, e2, e3] at hN
      repeat (first | rintro _ _ ⟨rfl, rfl⟩ | rintro _ _ ⟨_, rfl, rfl⟩ | rintro _ _ ⟨_, _, rfl, rfl⟩ | rintro _ _ ⟨_, _, _, _, rfl, rfl⟩ | intro _ | refine go ?_ | (refine is_draw ?_; refine WC_draw mixed (by kernel_rfl) ?_) | refine cal @law13_awake ?_ | refine cal @hN ?_)
      (apply WE_ret rfl rfl (by (repeat (first | exact ResOk.nil | (apply ResOk.tmp; rfl) | (apply resOk_cell; rfl; exact inferInstance; rfl; rfl)))); (first | exact ⟨rfl, rfl⟩ | exact ⟨congrArg Value.bool (by decide), rfl⟩ | exact ⟨_, rfl, rfl⟩ | exact ⟨_, _, rfl, rfl⟩ | exact ⟨by first | (simp []; done) | (simp [] <;> omega), rfl⟩); (repeat (first | exact Ent.refl | exact Ent.nil | apply Ent.pick | apply Ent.drop)))
end Go.Sx
