/- The order of a core's operations. My own work. -/
import Derived.Test.YtadedfcjakhfbaaCore
namespace Go.Sx
open Go Go.Proofs
set_option linter.unusedVariables false
set_option linter.unusedSectionVars false
set_option linter.unusedSimpArgs false
theorem core_nd {b : Nat} {l : List Op3} {rs : List Int} {tr : List (Int × Bool)} {L : List HP} {w : World} (h : Sat (CoreB b l rs tr :: L) w) : (mkeys tr).Nodup := by
  obtain ⟨hf, p1, c1, p2, c2, bm, hx⟩ := core_sat h
  exact (sat_map (((Ent.drop (Ent.drop (Ent.drop Ent.refl))) : Ent _ (MapAt bm blv tr :: L)).sat hx)).2
theorem WO_corend {b : Nat} {l : List Op3} {rs : List Int} {tr : List (Int × Bool)} {P : Program} {N : Nat} {all : Array Oper} {c : List Oper} {env : Env} {L : List HP} {Q : Exit → Act → World → Prop}
    (h : (mkeys tr).Nodup → WO P N all c env (CoreB b l rs tr :: L) Q) : WO P N all c env (CoreB b l rs tr :: L) Q := fun a w ha hw => h (core_nd hw) a w ha hw

set_option maxRecDepth 100000
set_option maxHeartbeats 4000000
attribute [local irreducible] Go.Exit.then Go.Exit.inBlock Go.Code.wp WC WO WE WQ V LoopQ FnQ Sat Star band bor IntKind.wrap WR Code.rounds WT KO
def c17 : Cfg := ⟨1, 1, 1, 1, 2, 2, 0, 1, 1, 1, 1, 1, 1⟩
abbrev l17 : List Op3 := [⟨1, 1, 0⟩, ⟨4, 0, 0⟩, ⟨1, 2, 0⟩]

theorem law17_awake {F : List HP} : FnF Try.prog 64 [] [] F (fun r L' => r = .bool true ∧ L' = []) := by
  have hw : c17.wf := by simp [Cfg.wf, I64, c17]
  have hA1 := fun F b => core_Ahead (F := F) (b := b) (l := l17) (rs := []) (tr := []) (d := 1)
  have hA2 := fun F b => core_Ahead (F := F) (b := b) (l := l17) (rs := []) (tr := []) (d := 2)
  simp only [show aheadB l17 [] [] 1 = false from by decide, show aheadO l17 [] [] 1 = Op3.zero from by decide] at hA1
  simp only [show aheadB l17 [] [] 2 = true from by decide, show aheadO l17 [] [] 2 = ⟨1, 2, 0⟩ from by decide] at hA2
  have hC := fun F b tr => core_Commit (F := F) (b := b) (l := l17) (rs := []) (tr := tr) (n := 5) (by decide)
  simp only [List.nil_append] at hC
  have hH := fun F b tr => core_Head (F := F) (b := b) (l := l17) (rs := [5]) (tr := tr)
  simp only [show headB l17 [5] = true from by decide, show headO l17 [5] = ⟨4, 0, 0⟩ from by decide] at hH
  refine FnF.mk' Try.func64 rfl rfl Try.ntmps64 rfl ?_
  repeat (first | rintro _ _ ⟨rfl, rfl⟩ | rintro _ _ ⟨_, rfl, rfl⟩ | rintro _ _ ⟨_, _, rfl, rfl⟩ | intro _ | refine go ?_ | (refine is_draw ?_; refine WC_draw mixed (by kernel_rfl) ?_) | refine cal (core_New (c := c17) (l := l17)) ?_ | refine cal (core_New_no (c := c17) (l := [⟨0, 0, 0⟩])) ?_ | refine cal @hA1 ?_ | refine cal @hA2 ?_ | refine cal @core_Try ?_ | refine cal @core_Try_no ?_ | refine cal @hC ?_ | refine cal @hH ?_ | refine cal @core_Results ?_ | refine cal (ref02_Same (m := [5])) ?_ | refine cal @core_Left ?_)
  (apply WE_ret rfl rfl (by (repeat (first | exact ResOk.nil | (apply ResOk.tmp; rfl) | (apply resOk_cell; rfl; exact inferInstance; rfl; rfl)))); (first | exact ⟨rfl, rfl⟩ | exact ⟨congrArg Value.bool (by decide), rfl⟩ | exact ⟨_, rfl, rfl⟩ | exact ⟨_, _, rfl, rfl⟩ | exact ⟨by first | (simp []; done) | (simp [] <;> omega), rfl⟩); (repeat (first | exact Ent.refl | exact Ent.nil | apply Ent.pick | apply Ent.drop)))

theorem ahead_t {l : List Op3} {rs : List Int} {tr : List (Int × Bool)} {d : Int} (h : aheadB l rs tr d = true) : (1 ≤ d ∧ d ≤ 4 ∧ (rs.length : Int) + d < l.length) ∧ ∃ hlt : ((rs.length : Int) + d).toNat < l.length, ¬ l[((rs.length : Int) + d).toNat].kind = 4 ∧ aheadO l rs tr d = l[((rs.length : Int) + d).toNat] ∧ (mget tr ((rs.length : Int) + d)).getD false = false := by
  have h0 := h
  simp only [aheadB, aheadIn, Bool.and_eq_true, decide_eq_true_eq, Bool.not_eq_true', decide_eq_false_iff_not] at h
  obtain ⟨⟨h1, h2⟩, h3⟩ := h
  have hlt : ((rs.length : Int) + d).toNat < l.length := by omega
  have hg : l.getD ((rs.length : Int) + d).toNat Op3.zero = l[((rs.length : Int) + d).toNat] := by simp [hlt]
  rw [hg] at h2
  exact ⟨h1, hlt, h2, by simp only [aheadO, h0, if_true, hg], h3⟩
theorem ahead_f {l : List Op3} {rs : List Int} {tr : List (Int × Bool)} {d : Int} (h : aheadB l rs tr d = false) : aheadO l rs tr d = Op3.zero := by simp [aheadO, h]

theorem law17_CoreOrder {W : World} {F : List HP} {c : Cfg} (hc : c.wf) {v u : Value} {prog : List Op3} {ops : List BOp} (hw : ∀ o ∈ ops, o.wf) (hl1 : prog.length ≤ 9223372036854775807) (hl2 : ops.length ≤ 9223372036854775807) (k1 : ROld W 3 v prog.length (flat oc prog)) (k2 : ROld W 2 u ops.length (flat opc ops)) :
    FnF Try.prog 12 [c.val, v, u] [Old W] F (fun r L' => r = .bool true ∧ L' = [Old W]) := by
  refine FnF.mk' Try.func12 rfl rfl Try.ntmps12 rfl ?_
  by_cases hm1 : 200 < prog.length
  · repeat (first | rintro _ _ ⟨rfl, rfl⟩ | rintro _ _ ⟨_, rfl, rfl⟩ | rintro _ _ ⟨_, _, rfl, rfl⟩ | intro _ | refine go ?_ | (refine is_draw ?_; refine WC_draw mixed (by kernel_rfl) ?_) | refine cal @law17_awake ?_)
    (apply WE_ret rfl rfl (by (repeat (first | exact ResOk.nil | (apply ResOk.tmp; rfl) | (apply resOk_cell; rfl; exact inferInstance; rfl; rfl)))); (first | exact ⟨rfl, rfl⟩ | exact ⟨congrArg Value.bool (by decide), rfl⟩ | exact ⟨_, rfl, rfl⟩ | exact ⟨_, _, rfl, rfl⟩ | exact ⟨by first | (simp []; done) | (simp [] <;> omega), rfl⟩); (repeat (first | exact Ent.refl | exact Ent.nil | apply Ent.pick | apply Ent.drop)))
  · by_cases hm2 : 200 < ops.length
    · repeat (first | rintro _ _ ⟨rfl, rfl⟩ | rintro _ _ ⟨_, rfl, rfl⟩ | rintro _ _ ⟨_, _, rfl, rfl⟩ | intro _ | refine go ?_ | (refine is_draw ?_; refine WC_draw mixed (by kernel_rfl) ?_) | refine cal @law17_awake ?_)
      (apply WE_ret rfl rfl (by (repeat (first | exact ResOk.nil | (apply ResOk.tmp; rfl) | (apply resOk_cell; rfl; exact inferInstance; rfl; rfl)))); (first | exact ⟨rfl, rfl⟩ | exact ⟨congrArg Value.bool (by decide), rfl⟩ | exact ⟨_, rfl, rfl⟩ | exact ⟨_, _, rfl, rfl⟩ | exact ⟨by first | (simp []; done) | (simp [] <;> omega), rfl⟩); (repeat (first | exact Ent.refl | exact Ent.nil | apply Ent.pick | apply Ent.drop)))
    · cases hP : progB c prog with
      | false =>
        repeat (first | rintro _ _ ⟨rfl, rfl⟩ | rintro _ _ ⟨_, rfl, rfl⟩ | rintro _ _ ⟨_, _, rfl, rfl⟩ | intro _ | refine go ?_ | (refine is_draw ?_; refine WC_draw mixed (by kernel_rfl) ?_) | refine cal @law17_awake ?_ | refine cal (core_New_no (c := c)) ?_)
        (apply WE_ret rfl rfl (by (repeat (first | exact ResOk.nil | (apply ResOk.tmp; rfl) | (apply resOk_cell; rfl; exact inferInstance; rfl; rfl)))); (first | exact ⟨rfl, rfl⟩ | exact ⟨congrArg Value.bool (by decide), rfl⟩ | exact ⟨_, rfl, rfl⟩ | exact ⟨_, _, rfl, rfl⟩ | exact ⟨by first | (simp []; done) | (simp [] <;> omega), rfl⟩); (repeat (first | exact Ent.refl | exact Ent.nil | apply Ent.pick | apply Ent.drop)))
      | true =>
        have hpl := prog_len hP
        repeat (first | rintro _ _ ⟨rfl, rfl⟩ | rintro _ _ ⟨_, rfl, rfl⟩ | rintro _ _ ⟨_, _, rfl, rfl⟩ | intro _ | refine go ?_ | (refine is_draw ?_; refine WC_draw mixed (by kernel_rfl) ?_) | refine cal @law17_awake ?_ | refine cal (core_New (c := c)) ?_)
        rename_i bc b bt
        apply WC_loopE (E0 := [(1, _), (7, _), (10, _), (41, _), (42, _)]) (fun E0 (q : Nat × List Int × List (Int × Bool) × List (Int × Bool)) => (43, .int .i64 q.1) :: (9, .int .i64 (q.2.1.length : Nat)) :: E0)
          (fun q => CoreB b prog q.2.1 q.2.2.1 :: MapAt bt blv q.2.2.2 :: Old W :: F) (fun q => q.1 ≤ ops.length ∧ q.2.1.length ≤ prog.length ∧ ∀ k, (q.2.1.length : Int) ≤ k → (mget q.2.2.2 k).getD false = (mget q.2.2.1 k).getD false) (fun q => ops.length - q.1) (0, [], [], [])
        · (repeat (first | exact Sub.nil | (refine Sub.cons (by first | rfl | (simp only [Nat.zero_add]; rfl)) ?_)))
        · exact ⟨Nat.zero_le _, Nat.zero_le _, fun k _ => rfl⟩
        · dsimp only; (repeat (first | (with_reducible exact Ent.refl) | exact Ent.nil | (apply ent_pickE; (focus ((repeat (first | (with_reducible exact pk_here) | (apply pk_there))); done))) | apply Ent.drop))
        · rintro ⟨i, rs, tr, mt⟩ ⟨hi, hrs, hc0⟩
          dsimp only at hi hrs hc0 ⊢
          have hH := fun F => core_Head (F := F) (b := b) (l := prog) (rs := rs) (tr := tr)
          by_cases hlt : i < ops.length
          · have hon : I64 ops[i].n := (hw _ (List.getElem_mem hlt)).2
            unfold I64 at hon
            have hA := fun F => core_Ahead (F := F) (b := b) (l := prog) (rs := rs) (tr := tr) (d := ops[i].n)
            by_cases hd : rs.length = prog.length
            · have e1 : headB prog rs = false := by simp [headB, hd]
              have e2 : headO prog rs = Op3.zero := by simp [headO, hd]
              simp only [e1, e2] at hH
              by_cases g0 : ops[i].d = 0
              · repeat (first | rintro _ _ ⟨rfl, rfl⟩ | rintro _ _ ⟨_, rfl, rfl⟩ | rintro _ _ ⟨_, _, rfl, rfl⟩ | intro _ | refine go ?_ | (refine is_draw ?_; refine WC_draw mixed (by kernel_rfl) ?_) | refine cal @hH ?_ | refine cal @core_Commit_no ?_ | refine cal @core_Results ?_ | refine cal @core_Left ?_)
                refine WE_loop (i + 1, rs, tr, mt) (by dsimp only; omega) ⟨by dsimp only; omega, hrs, hc0⟩ ?_ ?_
                · (repeat (first | exact Sub.nil | (refine Sub.cons (by first | rfl | (simp only [Nat.zero_add]; rfl)) ?_)))
                · dsimp only; (repeat (first | (with_reducible exact Ent.refl) | exact Ent.nil | (apply ent_pickE; (focus ((repeat (first | (with_reducible exact pk_here) | (apply pk_there))); done))) | apply Ent.drop))
              · by_cases g1 : ops[i].d = 1
                · have hB : aheadB prog rs tr ops[i].n = false := by simp [aheadB, aheadIn]; omega
                  have hO := ahead_f hB
                  simp only [hB, hO] at hA
                  repeat (first | rintro _ _ ⟨rfl, rfl⟩ | rintro _ _ ⟨_, rfl, rfl⟩ | rintro _ _ ⟨_, _, rfl, rfl⟩ | intro _ | refine go ?_ | (refine is_draw ?_; refine WC_draw mixed (by kernel_rfl) ?_) | refine cal @hH ?_ | refine cal @hA ?_ | refine cal @core_Try_no ?_ | refine cal @core_Results ?_ | refine cal @core_Left ?_)
                  refine WE_loop (i + 1, rs, tr, mt) (by dsimp only; omega) ⟨by dsimp only; omega, hrs, hc0⟩ ?_ ?_
                  · (repeat (first | exact Sub.nil | (refine Sub.cons (by first | rfl | (simp only [Nat.zero_add]; rfl)) ?_)))
                  · dsimp only; (repeat (first | (with_reducible exact Ent.refl) | exact Ent.nil | (apply ent_pickE; (focus ((repeat (first | (with_reducible exact pk_here) | (apply pk_there))); done))) | apply Ent.drop))
                · repeat (first | rintro _ _ ⟨rfl, rfl⟩ | rintro _ _ ⟨_, rfl, rfl⟩ | rintro _ _ ⟨_, _, rfl, rfl⟩ | intro _ | refine go ?_ | (refine is_draw ?_; refine WC_draw mixed (by kernel_rfl) ?_) | refine cal @hH ?_ | refine cal @core_Results ?_ | refine cal @core_Left ?_)
                  refine WE_loop (i + 1, rs, tr, mt) (by dsimp only; omega) ⟨by dsimp only; omega, hrs, hc0⟩ ?_ ?_
                  · (repeat (first | exact Sub.nil | (refine Sub.cons (by first | rfl | (simp only [Nat.zero_add]; rfl)) ?_)))
                  · dsimp only; (repeat (first | (with_reducible exact Ent.refl) | exact Ent.nil | (apply ent_pickE; (focus ((repeat (first | (with_reducible exact pk_here) | (apply pk_there))); done))) | apply Ent.drop))
            · have hlt1 : rs.length < prog.length := by omega
              have e1 : headB prog rs = true := by simp [headB, hd]
              have e2 : headO prog rs = prog[rs.length] := by simp [headO, hlt1]
              simp only [e1, e2] at hH
              by_cases g0 : ops[i].d = 0
              · have hR := fun F => core_Results (F := F) (b := b) (l := prog) (rs := rs ++ [ops[i].n]) (tr := mdel tr rs.length)
                have hL := fun F => core_Left (F := F) (b := b) (l := prog) (rs := rs ++ [ops[i].n]) (tr := mdel tr rs.length)
                simp only [List.length_append, List.length_singleton] at hR hL
                repeat (first | rintro _ _ ⟨rfl, rfl⟩ | rintro _ _ ⟨_, rfl, rfl⟩ | rintro _ _ ⟨_, _, rfl, rfl⟩ | intro _ | refine go ?_)
                (first | refine WO_front (CoreB b prog rs tr) ?_ | refine WC_front (CoreB b prog rs tr) ?_ | refine WE_front (CoreB b prog rs tr) ?_)
                refine WO_corend fun hnd => ?_
                repeat (first | rintro _ _ ⟨rfl, rfl⟩ | rintro _ _ ⟨_, rfl, rfl⟩ | rintro _ _ ⟨_, _, rfl, rfl⟩ | intro _ | refine go ?_ | (refine is_draw ?_; refine WC_draw mixed (by kernel_rfl) ?_) | refine cal @hH ?_ | refine cal @core_Commit ?_ | refine cal @hR ?_ | refine cal @hL ?_)
                refine WE_loop (i + 1, rs ++ [ops[i].n], mdel tr rs.length, mt) (by dsimp only; omega) ⟨by dsimp only; omega, by dsimp only; rw [List.length_append, List.length_singleton]; omega, fun k hk => ?_⟩ ?_ ?_
                · dsimp only at hk ⊢
                  rw [List.length_append, List.length_singleton] at hk
                  rw [mget_mdel hnd, if_neg (by omega)]
                  exact hc0 k (by omega)
                · dsimp only; rw [List.length_append, List.length_singleton]; (repeat (first | exact Sub.nil | (refine Sub.cons (by first | rfl | (simp only [Nat.zero_add]; rfl)) ?_)))
                · dsimp only; (repeat (first | (with_reducible exact Ent.refl) | exact Ent.nil | (apply ent_pickE; (focus ((repeat (first | (with_reducible exact pk_here) | (apply pk_there))); done))) | apply Ent.drop))
              · by_cases g1 : ops[i].d = 1
                · cases hB : aheadB prog rs tr ops[i].n with
                  | false =>
                    have hO := ahead_f hB
                    simp only [hB, hO] at hA
                    repeat (first | rintro _ _ ⟨rfl, rfl⟩ | rintro _ _ ⟨_, rfl, rfl⟩ | rintro _ _ ⟨_, _, rfl, rfl⟩ | intro _ | refine go ?_ | (refine is_draw ?_; refine WC_draw mixed (by kernel_rfl) ?_) | refine cal @hH ?_ | refine cal @hA ?_ | refine cal @core_Try_no ?_ | refine cal @core_Results ?_ | refine cal @core_Left ?_)
                    refine WE_loop (i + 1, rs, tr, mt) (by dsimp only; omega) ⟨by dsimp only; omega, hrs, hc0⟩ ?_ ?_
                    · (repeat (first | exact Sub.nil | (refine Sub.cons (by first | rfl | (simp only [Nat.zero_add]; rfl)) ?_)))
                    · dsimp only; (repeat (first | (with_reducible exact Ent.refl) | exact Ent.nil | (apply ent_pickE; (focus ((repeat (first | (with_reducible exact pk_here) | (apply pk_there))); done))) | apply Ent.drop))
                  | true =>
                    obtain ⟨hn, hlt2, hk4, hO, htr⟩ := ahead_t hB
                    have hmt : (mget mt ((rs.length : Int) + ops[i].n)).getD false = false := by rw [hc0 _ (by omega)]; exact htr
                    simp only [hB, hO] at hA
                    repeat (first | rintro _ _ ⟨rfl, rfl⟩ | rintro _ _ ⟨_, rfl, rfl⟩ | rintro _ _ ⟨_, _, rfl, rfl⟩ | intro _ | refine go ?_ | (refine is_draw ?_; refine WC_draw mixed (by kernel_rfl) ?_) | refine cal @hH ?_ | refine cal @hA ?_ | refine cal @core_Try ?_ | refine cal @core_Results ?_ | refine cal @core_Left ?_)
                    refine WE_loop (i + 1, rs, mset tr ((rs.length : Int) + ops[i].n) true, mset mt ((rs.length : Int) + ops[i].n) true) (by dsimp only; omega) ⟨by dsimp only; omega, hrs, fun k hk => ?_⟩ ?_ ?_
                    · dsimp only at hk ⊢
                      rw [mget_mset, mget_mset]
                      split
                      · rfl
                      · exact hc0 k hk
                    · (repeat (first | exact Sub.nil | (refine Sub.cons (by first | rfl | (simp only [Nat.zero_add]; rfl)) ?_)))
                    · dsimp only; (repeat (first | (with_reducible exact Ent.refl) | exact Ent.nil | (apply ent_pickE; (focus ((repeat (first | (with_reducible exact pk_here) | (apply pk_there))); done))) | apply Ent.drop))
                · repeat (first | rintro _ _ ⟨rfl, rfl⟩ | rintro _ _ ⟨_, rfl, rfl⟩ | rintro _ _ ⟨_, _, rfl, rfl⟩ | intro _ | refine go ?_ | (refine is_draw ?_; refine WC_draw mixed (by kernel_rfl) ?_) | refine cal @hH ?_ | refine cal @core_Results ?_ | refine cal @core_Left ?_)
                  refine WE_loop (i + 1, rs, tr, mt) (by dsimp only; omega) ⟨by dsimp only; omega, hrs, hc0⟩ ?_ ?_
                  · (repeat (first | exact Sub.nil | (refine Sub.cons (by first | rfl | (simp only [Nat.zero_add]; rfl)) ?_)))
                  · dsimp only; (repeat (first | (with_reducible exact Ent.refl) | exact Ent.nil | (apply ent_pickE; (focus ((repeat (first | (with_reducible exact pk_here) | (apply pk_there))); done))) | apply Ent.drop))
          · repeat (first | rintro _ _ ⟨rfl, rfl⟩ | rintro _ _ ⟨_, rfl, rfl⟩ | rintro _ _ ⟨_, _, rfl, rfl⟩ | intro _ | refine go ?_ | (refine is_draw ?_; refine WC_draw mixed (by kernel_rfl) ?_))
            (apply WE_ret rfl rfl (by (repeat (first | exact ResOk.nil | (apply ResOk.tmp; rfl) | (apply resOk_cell; rfl; exact inferInstance; rfl; rfl)))); (first | exact ⟨rfl, rfl⟩ | exact ⟨congrArg Value.bool (by decide), rfl⟩ | exact ⟨_, rfl, rfl⟩ | exact ⟨_, _, rfl, rfl⟩ | exact ⟨by first | (simp []; done) | (simp [] <;> omega), rfl⟩); (repeat (first | exact Ent.refl | exact Ent.nil | apply Ent.pick | apply Ent.drop)))
end Go.Sx
