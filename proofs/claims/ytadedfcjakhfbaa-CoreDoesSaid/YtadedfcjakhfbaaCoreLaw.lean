/- What a core does: the law against the document's. My own work. -/
import Derived.Test.YtadedfcjakhfbaaCoreOrd
import Derived.Test.YtadedfcjakhfbaaCoreR
namespace Go.Sx
open Go Go.Proofs
set_option linter.unusedVariables false
set_option linter.unusedSectionVars false
set_option linter.unusedSimpArgs false
theorem WC_corend {b : Nat} {l : List Op3} {rs : List Int} {tr : List (Int × Bool)} {P : Program} {N : Nat} {c : Code} {env : Env} {L : List HP} {Q : Exit → Act → World → Prop}
    (h : (mkeys tr).Nodup → WC P N c env (CoreB b l rs tr :: L) Q) : WC P N c env (CoreB b l rs tr :: L) Q := fun a w ha hw => h (core_nd hw) a w ha hw
set_option maxRecDepth 100000
set_option maxHeartbeats 4000000
attribute [local irreducible] Go.Exit.then Go.Exit.inBlock Go.Code.wp WC WO WE WQ V LoopQ FnQ Sat Star band bor IntKind.wrap WR Code.rounds WT KO
theorem ahead_same {l : List Op3} {rs td : List Int} {tr : List (Int × Bool)} (h : ∀ k, (rs.length : Int) < k → (mget tr k).getD false = decide (k ∈ td)) (d : Int) : raheadB l rs td d = aheadB l rs tr d := by
  unfold raheadB aheadB
  cases e : aheadIn l rs d with
  | false => rfl
  | true =>
    have h1 : 1 ≤ d := by simp [aheadIn] at e; omega
    rw [h _ (by omega)]
theorem aheadO_same {l : List Op3} {rs td : List Int} {tr : List (Int × Bool)} (h : ∀ k, (rs.length : Int) < k → (mget tr k).getD false = decide (k ∈ td)) (d : Int) : raheadO l rs td d = aheadO l rs tr d := by
  unfold raheadO aheadO
  rw [ahead_same h]

theorem law17_CoreDoes {W : World} {F : List HP} {c : Cfg} (hc : c.wf) {v u : Value} {prog : List Op3} {ops : List BOp} (hw : ∀ o ∈ ops, o.wf) (hl1 : prog.length ≤ 9223372036854775807) (hl2 : ops.length ≤ 9223372036854775807) (k1 : ROld W 3 v prog.length (flat oc prog)) (k2 : ROld W 2 u ops.length (flat opc ops)) :
    FnF Try.prog 11 [c.val, v, u] [Old W] F (fun r L' => r = .bool true ∧ L' = [Old W]) := by
  refine FnF.mk' Try.func11 rfl rfl Try.ntmps11 rfl ?_
  by_cases hm1 : 200 < prog.length
  · repeat (first | rintro _ _ ⟨rfl, rfl⟩ | rintro _ _ ⟨_, rfl, rfl⟩ | rintro _ _ ⟨_, _, rfl, rfl⟩ | intro _ | refine go ?_ | (refine is_draw ?_; apply WC_mix (id := 26) false _ (pl := .r 0 <| .r 1 <| .p 2 <| .p 3 <| .p 4 <| .p 5 <| .p 6 <| .p 7 <| .p 8 <| .r 9 <| .r 10 <| .p 11 <| .p 12 <| .p 13 <| .p 14 <| .p 15 <| .p 16 <| .p 17 <| .p 18 <| .p 19 <| .p 21 <| .p 22 <| .p 23 <| .r 24 <| .e true [(20, .e true [(25, .p 26 <| .p 27 <| .p 28 <| .p 29 <| .p 31 <| .p 32 <| .p 33 <| .p 36 <| .p 37 <| .p 38 <| .r 34 <| .p 35 <| .r 39 <| .p 40 <| .p 41 <| .e true [(30, .p 42 <| .p 43 <| .done)])])]); exact mixed; kernel_rfl; kernel_rfl; exact Ent.refl) | (refine is_draw ?_; refine WC_draw mixed (by kernel_rfl) ?_) | refine cal @law17_awake ?_)
    (apply WE_ret rfl rfl (by (repeat (first | exact ResOk.nil | (apply ResOk.tmp; rfl) | (apply resOk_cell; rfl; exact inferInstance; rfl; rfl)))); (first | exact ⟨rfl, rfl⟩ | exact ⟨congrArg Value.bool (by decide), rfl⟩ | exact ⟨_, rfl, rfl⟩ | exact ⟨_, _, rfl, rfl⟩ | exact ⟨by first | (simp []; done) | (simp [] <;> omega), rfl⟩); (repeat (first | exact Ent.refl | exact Ent.nil | apply Ent.pick | apply Ent.drop)))
  · by_cases hm2 : 200 < ops.length
    · repeat (first | rintro _ _ ⟨rfl, rfl⟩ | rintro _ _ ⟨_, rfl, rfl⟩ | rintro _ _ ⟨_, _, rfl, rfl⟩ | intro _ | refine go ?_ | (refine is_draw ?_; apply WC_mix (id := 26) false _ (pl := .r 0 <| .r 1 <| .p 2 <| .p 3 <| .p 4 <| .p 5 <| .p 6 <| .p 7 <| .p 8 <| .r 9 <| .r 10 <| .p 11 <| .p 12 <| .p 13 <| .p 14 <| .p 15 <| .p 16 <| .p 17 <| .p 18 <| .p 19 <| .p 21 <| .p 22 <| .p 23 <| .r 24 <| .e true [(20, .e true [(25, .p 26 <| .p 27 <| .p 28 <| .p 29 <| .p 31 <| .p 32 <| .p 33 <| .p 36 <| .p 37 <| .p 38 <| .r 34 <| .p 35 <| .r 39 <| .p 40 <| .p 41 <| .e true [(30, .p 42 <| .p 43 <| .done)])])]); exact mixed; kernel_rfl; kernel_rfl; exact Ent.refl) | (refine is_draw ?_; refine WC_draw mixed (by kernel_rfl) ?_) | refine cal @law17_awake ?_)
      (apply WE_ret rfl rfl (by (repeat (first | exact ResOk.nil | (apply ResOk.tmp; rfl) | (apply resOk_cell; rfl; exact inferInstance; rfl; rfl)))); (first | exact ⟨rfl, rfl⟩ | exact ⟨congrArg Value.bool (by decide), rfl⟩ | exact ⟨_, rfl, rfl⟩ | exact ⟨_, _, rfl, rfl⟩ | exact ⟨by first | (simp []; done) | (simp [] <;> omega), rfl⟩); (repeat (first | exact Ent.refl | exact Ent.nil | apply Ent.pick | apply Ent.drop)))
    · cases hP : progB c prog with
      | false =>
        repeat (first | rintro _ _ ⟨rfl, rfl⟩ | rintro _ _ ⟨_, rfl, rfl⟩ | rintro _ _ ⟨_, _, rfl, rfl⟩ | intro _ | refine go ?_ | (refine is_draw ?_; apply WC_mix (id := 26) false _ (pl := .r 0 <| .r 1 <| .p 2 <| .p 3 <| .p 4 <| .p 5 <| .p 6 <| .p 7 <| .p 8 <| .r 9 <| .r 10 <| .p 11 <| .p 12 <| .p 13 <| .p 14 <| .p 15 <| .p 16 <| .p 17 <| .p 18 <| .p 19 <| .p 21 <| .p 22 <| .p 23 <| .r 24 <| .e true [(20, .e true [(25, .p 26 <| .p 27 <| .p 28 <| .p 29 <| .p 31 <| .p 32 <| .p 33 <| .p 36 <| .p 37 <| .p 38 <| .r 34 <| .p 35 <| .r 39 <| .p 40 <| .p 41 <| .e true [(30, .p 42 <| .p 43 <| .done)])])]); exact mixed; kernel_rfl; kernel_rfl; exact Ent.refl) | (refine is_draw ?_; refine WC_draw mixed (by kernel_rfl) ?_) | refine cal @law17_awake ?_ | refine cal (core_New_no (c := c)) ?_ | refine cal (rcore_New_no (c := c)) ?_)
        refine WC_rounds 1 ?_
        repeat (first | rintro _ _ ⟨rfl, rfl⟩ | rintro _ _ ⟨_, rfl, rfl⟩ | rintro _ _ ⟨_, _, rfl, rfl⟩ | intro _ | refine go ?_ | (refine is_draw ?_; apply WC_mix (id := 26) false _ (pl := .r 0 <| .r 1 <| .p 2 <| .p 3 <| .p 4 <| .p 5 <| .p 6 <| .p 7 <| .p 8 <| .r 9 <| .r 10 <| .p 11 <| .p 12 <| .p 13 <| .p 14 <| .p 15 <| .p 16 <| .p 17 <| .p 18 <| .p 19 <| .p 21 <| .p 22 <| .p 23 <| .r 24 <| .e true [(20, .e true [(25, .p 26 <| .p 27 <| .p 28 <| .p 29 <| .p 31 <| .p 32 <| .p 33 <| .p 36 <| .p 37 <| .p 38 <| .r 34 <| .p 35 <| .r 39 <| .p 40 <| .p 41 <| .e true [(30, .p 42 <| .p 43 <| .done)])])]); exact mixed; kernel_rfl; kernel_rfl; exact Ent.refl) | (refine is_draw ?_; refine WC_draw mixed (by kernel_rfl) ?_))
        (apply WE_ret rfl rfl (by (repeat (first | exact ResOk.nil | (apply ResOk.tmp; rfl) | (apply resOk_cell; rfl; exact inferInstance; rfl; rfl)))); (first | exact ⟨rfl, rfl⟩ | exact ⟨congrArg Value.bool (by decide), rfl⟩ | exact ⟨_, rfl, rfl⟩ | exact ⟨_, _, rfl, rfl⟩ | exact ⟨by first | (simp []; done) | (simp [] <;> omega), rfl⟩); (repeat (first | exact Ent.refl | exact Ent.nil | apply Ent.pick | apply Ent.drop)))
      | true =>
        have hpl := prog_len hP
        repeat (first | rintro _ _ ⟨rfl, rfl⟩ | rintro _ _ ⟨_, rfl, rfl⟩ | rintro _ _ ⟨_, _, rfl, rfl⟩ | intro _ | refine go ?_ | (refine is_draw ?_; apply WC_mix (id := 26) false _ (pl := .r 0 <| .r 1 <| .p 2 <| .p 3 <| .p 4 <| .p 5 <| .p 6 <| .p 7 <| .p 8 <| .r 9 <| .r 10 <| .p 11 <| .p 12 <| .p 13 <| .p 14 <| .p 15 <| .p 16 <| .p 17 <| .p 18 <| .p 19 <| .p 21 <| .p 22 <| .p 23 <| .r 24 <| .e true [(20, .e true [(25, .p 26 <| .p 27 <| .p 28 <| .p 29 <| .p 31 <| .p 32 <| .p 33 <| .p 36 <| .p 37 <| .p 38 <| .r 34 <| .p 35 <| .r 39 <| .p 40 <| .p 41 <| .e true [(30, .p 42 <| .p 43 <| .done)])])]); exact mixed; kernel_rfl; kernel_rfl; exact Ent.refl) | (refine is_draw ?_; refine WC_draw mixed (by kernel_rfl) ?_) | refine cal @law17_awake ?_ | refine cal (core_New (c := c)) ?_ | refine cal (rcore_New (c := c)) ?_)
        rename_i bc b b2
        apply WC_loopE (E0 := [(2, _), (7, _), (9, _)]) (fun E0 (q : Nat × List Int × List (Int × Bool) × List Int) => (11, .int .i64 q.1) :: E0)
          (fun q => CoreB b prog q.2.1 q.2.2.1 :: RCoreB b2 prog q.2.1 q.2.2.2 :: Old W :: F) (fun q => q.1 ≤ ops.length ∧ q.2.1.length ≤ prog.length ∧ q.2.2.2.length ≤ q.1 ∧ ∀ k, (q.2.1.length : Int) < k → (mget q.2.2.1 k).getD false = decide (k ∈ q.2.2.2)) (fun q => ops.length - q.1) (0, [], [], [])
        · (repeat (first | exact Sub.nil | (refine Sub.cons (by first | rfl | (simp only [Nat.zero_add]; rfl)) ?_)))
        · exact ⟨Nat.zero_le _, Nat.zero_le _, Nat.le_refl _, fun k _ => by simp [mget_nil]⟩
        · dsimp only; (repeat (first | (with_reducible exact Ent.refl) | exact Ent.nil | (apply ent_pickE; (focus ((repeat (first | (with_reducible exact pk_here) | (apply pk_there))); done))) | apply Ent.drop))
        · rintro ⟨i, rs, tr, td⟩ ⟨hi, hrs, htd, hc0⟩
          dsimp only at hi hrs htd hc0 ⊢
          by_cases hlt : i < ops.length
          · have hon : I64 ops[i].n := (hw _ (List.getElem_mem hlt)).2
            unfold I64 at hon
            repeat (first | rintro _ _ ⟨rfl, rfl⟩ | rintro _ _ ⟨_, rfl, rfl⟩ | rintro _ _ ⟨_, _, rfl, rfl⟩ | intro _ | refine go ?_ | (refine is_draw ?_; apply WC_mix (id := 26) false _ (pl := .r 0 <| .r 1 <| .p 2 <| .p 3 <| .p 4 <| .p 5 <| .p 6 <| .p 7 <| .p 8 <| .r 9 <| .r 10 <| .p 11 <| .p 12 <| .p 13 <| .p 14 <| .p 15 <| .p 16 <| .p 17 <| .p 18 <| .p 19 <| .p 21 <| .p 22 <| .p 23 <| .r 24 <| .e true [(20, .e true [(25, .p 26 <| .p 27 <| .p 28 <| .p 29 <| .p 31 <| .p 32 <| .p 33 <| .p 36 <| .p 37 <| .p 38 <| .r 34 <| .p 35 <| .r 39 <| .p 40 <| .p 41 <| .e true [(30, .p 42 <| .p 43 <| .done)])])]); exact mixed; kernel_rfl; kernel_rfl; exact Ent.refl) | (refine is_draw ?_; refine WC_draw mixed (by kernel_rfl) ?_))
            apply WO_join (P := Try.prog) (fun q : List Int × List (Int × Bool) × List Int => [(109, .pointer (some ⟨b, 0, none⟩)), (110, .int .i64 ops[i].n), (12, .int .i64 ops[i].n), (11, .int .i64 i), (2, u), (7, .pointer (some ⟨b, 0, none⟩)), (9, .pointer (some ⟨b2, 0, none⟩))])
              (fun q => CoreB b prog q.1 q.2.1 :: RCoreB b2 prog q.1 q.2.2 :: Old W :: F) (fun q => q.1.length ≤ prog.length ∧ q.2.2.length ≤ i + 1 ∧ ∀ k, (q.1.length : Int) < k → (mget q.2.1 k).getD false = decide (k ∈ q.2.2))
            · intro hj
              by_cases g0 : ops[i].d = 0
              · by_cases hd : rs.length = prog.length
                · repeat (first | rintro _ _ ⟨rfl, rfl⟩ | rintro _ _ ⟨_, rfl, rfl⟩ | rintro _ _ ⟨_, _, rfl, rfl⟩ | intro _ | refine go ?_ | (refine is_draw ?_; apply WC_mix (id := 26) false _ (pl := .r 0 <| .r 1 <| .p 2 <| .p 3 <| .p 4 <| .p 5 <| .p 6 <| .p 7 <| .p 8 <| .r 9 <| .r 10 <| .p 11 <| .p 12 <| .p 13 <| .p 14 <| .p 15 <| .p 16 <| .p 17 <| .p 18 <| .p 19 <| .p 21 <| .p 22 <| .p 23 <| .r 24 <| .e true [(20, .e true [(25, .p 26 <| .p 27 <| .p 28 <| .p 29 <| .p 31 <| .p 32 <| .p 33 <| .p 36 <| .p 37 <| .p 38 <| .r 34 <| .p 35 <| .r 39 <| .p 40 <| .p 41 <| .e true [(30, .p 42 <| .p 43 <| .done)])])]); exact mixed; kernel_rfl; kernel_rfl; exact Ent.refl) | (refine is_draw ?_; refine WC_draw mixed (by kernel_rfl) ?_) | refine cal @core_Commit_no ?_ | refine cal @rcore_Commit_no ?_)
                  exact hj (rs, tr, td) _ _ ⟨hrs, by dsimp only; omega, hc0⟩ (by (repeat (first | exact Sub.nil | (refine Sub.cons (by first | rfl | (simp only [Nat.zero_add]; rfl)) ?_)))) (by (repeat (first | (with_reducible exact Ent.refl) | exact Ent.nil | (apply ent_pickE; (focus ((repeat (first | (with_reducible exact pk_here) | (apply pk_there))); done))) | apply Ent.drop)))
                · (first | refine WO_front (CoreB b prog rs tr) ?_ | refine WC_front (CoreB b prog rs tr) ?_ | refine WE_front (CoreB b prog rs tr) ?_)
                  first | refine WO_corend fun hnd => ?_ | refine WC_corend fun hnd => ?_
                  repeat (first | rintro _ _ ⟨rfl, rfl⟩ | rintro _ _ ⟨_, rfl, rfl⟩ | rintro _ _ ⟨_, _, rfl, rfl⟩ | intro _ | refine go ?_ | (refine is_draw ?_; apply WC_mix (id := 26) false _ (pl := .r 0 <| .r 1 <| .p 2 <| .p 3 <| .p 4 <| .p 5 <| .p 6 <| .p 7 <| .p 8 <| .r 9 <| .r 10 <| .p 11 <| .p 12 <| .p 13 <| .p 14 <| .p 15 <| .p 16 <| .p 17 <| .p 18 <| .p 19 <| .p 21 <| .p 22 <| .p 23 <| .r 24 <| .e true [(20, .e true [(25, .p 26 <| .p 27 <| .p 28 <| .p 29 <| .p 31 <| .p 32 <| .p 33 <| .p 36 <| .p 37 <| .p 38 <| .r 34 <| .p 35 <| .r 39 <| .p 40 <| .p 41 <| .e true [(30, .p 42 <| .p 43 <| .done)])])]); exact mixed; kernel_rfl; kernel_rfl; exact Ent.refl) | (refine is_draw ?_; refine WC_draw mixed (by kernel_rfl) ?_) | refine cal @core_Commit ?_ | refine cal @rcore_Commit ?_)
                  exact hj (rs ++ [ops[i].n], mdel tr rs.length, td) _ _ ⟨by dsimp only; rw [List.length_append, List.length_singleton]; omega, by dsimp only; omega, fun k hk => by
                    dsimp only at hk ⊢
                    rw [List.length_append, List.length_singleton] at hk
                    rw [mget_mdel hnd, if_neg (by omega)]
                    exact hc0 k (by omega)⟩ (by (repeat (first | exact Sub.nil | (refine Sub.cons (by first | rfl | (simp only [Nat.zero_add]; rfl)) ?_)))) (by (repeat (first | (with_reducible exact Ent.refl) | exact Ent.nil | (apply ent_pickE; (focus ((repeat (first | (with_reducible exact pk_here) | (apply pk_there))); done))) | apply Ent.drop)))
              · by_cases g1 : ops[i].d = 1
                · have hs := ahead_same (l := prog) hc0 ops[i].n
                  cases hB : aheadB prog rs tr ops[i].n with
                  | false =>
                    rw [hB] at hs
                    repeat (first | rintro _ _ ⟨rfl, rfl⟩ | rintro _ _ ⟨_, rfl, rfl⟩ | rintro _ _ ⟨_, _, rfl, rfl⟩ | intro _ | refine go ?_ | (refine is_draw ?_; apply WC_mix (id := 26) false _ (pl := .r 0 <| .r 1 <| .p 2 <| .p 3 <| .p 4 <| .p 5 <| .p 6 <| .p 7 <| .p 8 <| .r 9 <| .r 10 <| .p 11 <| .p 12 <| .p 13 <| .p 14 <| .p 15 <| .p 16 <| .p 17 <| .p 18 <| .p 19 <| .p 21 <| .p 22 <| .p 23 <| .r 24 <| .e true [(20, .e true [(25, .p 26 <| .p 27 <| .p 28 <| .p 29 <| .p 31 <| .p 32 <| .p 33 <| .p 36 <| .p 37 <| .p 38 <| .r 34 <| .p 35 <| .r 39 <| .p 40 <| .p 41 <| .e true [(30, .p 42 <| .p 43 <| .done)])])]); exact mixed; kernel_rfl; kernel_rfl; exact Ent.refl) | (refine is_draw ?_; refine WC_draw mixed (by kernel_rfl) ?_) | refine cal @core_Try_no ?_ | refine cal @rcore_Try_no ?_)
                    exact hj (rs, tr, td) _ _ ⟨hrs, by dsimp only; omega, hc0⟩ (by (repeat (first | exact Sub.nil | (refine Sub.cons (by first | rfl | (simp only [Nat.zero_add]; rfl)) ?_)))) (by (repeat (first | (with_reducible exact Ent.refl) | exact Ent.nil | (apply ent_pickE; (focus ((repeat (first | (with_reducible exact pk_here) | (apply pk_there))); done))) | apply Ent.drop)))
                  | true =>
                    rw [hB] at hs
                    repeat (first | rintro _ _ ⟨rfl, rfl⟩ | rintro _ _ ⟨_, rfl, rfl⟩ | rintro _ _ ⟨_, _, rfl, rfl⟩ | intro _ | refine go ?_ | (refine is_draw ?_; apply WC_mix (id := 26) false _ (pl := .r 0 <| .r 1 <| .p 2 <| .p 3 <| .p 4 <| .p 5 <| .p 6 <| .p 7 <| .p 8 <| .r 9 <| .r 10 <| .p 11 <| .p 12 <| .p 13 <| .p 14 <| .p 15 <| .p 16 <| .p 17 <| .p 18 <| .p 19 <| .p 21 <| .p 22 <| .p 23 <| .r 24 <| .e true [(20, .e true [(25, .p 26 <| .p 27 <| .p 28 <| .p 29 <| .p 31 <| .p 32 <| .p 33 <| .p 36 <| .p 37 <| .p 38 <| .r 34 <| .p 35 <| .r 39 <| .p 40 <| .p 41 <| .e true [(30, .p 42 <| .p 43 <| .done)])])]); exact mixed; kernel_rfl; kernel_rfl; exact Ent.refl) | (refine is_draw ?_; refine WC_draw mixed (by kernel_rfl) ?_) | refine cal @core_Try ?_ | refine cal @rcore_Try ?_)
                    exact hj (rs, mset tr ((rs.length : Int) + ops[i].n) true, td ++ [(rs.length : Int) + ops[i].n]) _ _ ⟨hrs, by dsimp only; rw [List.length_append, List.length_singleton]; omega, fun k hk => by
                      dsimp only at hk ⊢
                      rw [mget_mset]
                      by_cases e : k = (rs.length : Int) + ops[i].n
                      · subst e; simp
                      · rw [if_neg e, hc0 k hk]; simp [e]⟩ (by (repeat (first | exact Sub.nil | (refine Sub.cons (by first | rfl | (simp only [Nat.zero_add]; rfl)) ?_)))) (by (repeat (first | (with_reducible exact Ent.refl) | exact Ent.nil | (apply ent_pickE; (focus ((repeat (first | (with_reducible exact pk_here) | (apply pk_there))); done))) | apply Ent.drop)))
                · repeat (first | rintro _ _ ⟨rfl, rfl⟩ | rintro _ _ ⟨_, rfl, rfl⟩ | rintro _ _ ⟨_, _, rfl, rfl⟩ | intro _ | refine go ?_ | (refine is_draw ?_; apply WC_mix (id := 26) false _ (pl := .r 0 <| .r 1 <| .p 2 <| .p 3 <| .p 4 <| .p 5 <| .p 6 <| .p 7 <| .p 8 <| .r 9 <| .r 10 <| .p 11 <| .p 12 <| .p 13 <| .p 14 <| .p 15 <| .p 16 <| .p 17 <| .p 18 <| .p 19 <| .p 21 <| .p 22 <| .p 23 <| .r 24 <| .e true [(20, .e true [(25, .p 26 <| .p 27 <| .p 28 <| .p 29 <| .p 31 <| .p 32 <| .p 33 <| .p 36 <| .p 37 <| .p 38 <| .r 34 <| .p 35 <| .r 39 <| .p 40 <| .p 41 <| .e true [(30, .p 42 <| .p 43 <| .done)])])]); exact mixed; kernel_rfl; kernel_rfl; exact Ent.refl) | (refine is_draw ?_; refine WC_draw mixed (by kernel_rfl) ?_))
                  exact hj (rs, tr, td) _ _ ⟨hrs, by dsimp only; omega, hc0⟩ (by (repeat (first | exact Sub.nil | (refine Sub.cons (by first | rfl | (simp only [Nat.zero_add]; rfl)) ?_)))) (by (repeat (first | (with_reducible exact Ent.refl) | exact Ent.nil | (apply ent_pickE; (focus ((repeat (first | (with_reducible exact pk_here) | (apply pk_there))); done))) | apply Ent.drop)))
            · rintro ⟨rs, tr, td⟩ ⟨hrs, htd, hc0⟩
              dsimp only at hrs htd hc0 ⊢
              have hA := fun F => rcore_Ahead (F := F) (b := b2) (l := prog) (rs := rs) (td := td) (d := ops[i].n)
              simp only [ahead_same hc0, aheadO_same hc0] at hA
              repeat (first | rintro _ _ ⟨rfl, rfl⟩ | rintro _ _ ⟨_, rfl, rfl⟩ | rintro _ _ ⟨_, _, rfl, rfl⟩ | intro _ | refine go ?_ | refine cal @core_Ahead ?_ | refine cal @hA ?_ | refine cal @core_Head ?_ | refine cal @rcore_Head ?_)
              (first | refine WO_front (RCoreB b2 prog rs td) ?_ | refine WC_front (RCoreB b2 prog rs td) ?_ | refine WE_front (RCoreB b2 prog rs td) ?_)
              refine rcore_open fun p1 c1 p2 c2 p3 c3 hl => ?_
              repeat (first | rintro _ _ ⟨rfl, rfl⟩ | rintro _ _ ⟨_, rfl, rfl⟩ | rintro _ _ ⟨_, _, rfl, rfl⟩ | intro _ | refine go ?_ | (refine is_draw ?_; apply WC_mix (id := 26) false _ (pl := .r 0 <| .r 1 <| .p 2 <| .p 3 <| .p 4 <| .p 5 <| .p 6 <| .p 7 <| .p 8 <| .r 9 <| .r 10 <| .p 11 <| .p 12 <| .p 13 <| .p 14 <| .p 15 <| .p 16 <| .p 17 <| .p 18 <| .p 19 <| .p 21 <| .p 22 <| .p 23 <| .r 24 <| .e true [(20, .e true [(25, .p 26 <| .p 27 <| .p 28 <| .p 29 <| .p 31 <| .p 32 <| .p 33 <| .p 36 <| .p 37 <| .p 38 <| .r 34 <| .p 35 <| .r 39 <| .p 40 <| .p 41 <| .e true [(30, .p 42 <| .p 43 <| .done)])])]); exact mixed; kernel_rfl; kernel_rfl; exact Ent.refl) | (refine is_draw ?_; refine WC_draw mixed (by kernel_rfl) ?_) | refine cal @core_Results ?_ | refine cal @ref02_Same ?_ | refine cal @core_Left ?_)
              refine WE_loop (i + 1, rs, tr, td) (by dsimp only; omega) ⟨by dsimp only; omega, hrs, htd, hc0⟩ ?_ ?_
              · (repeat (first | exact Sub.nil | (refine Sub.cons (by first | rfl | (simp only [Nat.zero_add]; rfl)) ?_)))
              · dsimp only; ((repeat (first | (with_reducible exact Ent.refl) | exact Ent.nil | (apply ent_pickE; (focus ((repeat (first | (with_reducible exact pk_here) | (apply pk_there))); done))) | (apply rcore_in) | apply Ent.drop)); all_goals (first | rfl | (with_reducible assumption) | (simp; done) | (simp; omega) | omega | (constructor <;> (simp) <;> omega)))
          · repeat (first | rintro _ _ ⟨rfl, rfl⟩ | rintro _ _ ⟨_, rfl, rfl⟩ | rintro _ _ ⟨_, _, rfl, rfl⟩ | intro _ | refine go ?_ | (refine is_draw ?_; apply WC_mix (id := 26) false _ (pl := .r 0 <| .r 1 <| .p 2 <| .p 3 <| .p 4 <| .p 5 <| .p 6 <| .p 7 <| .p 8 <| .r 9 <| .r 10 <| .p 11 <| .p 12 <| .p 13 <| .p 14 <| .p 15 <| .p 16 <| .p 17 <| .p 18 <| .p 19 <| .p 21 <| .p 22 <| .p 23 <| .r 24 <| .e true [(20, .e true [(25, .p 26 <| .p 27 <| .p 28 <| .p 29 <| .p 31 <| .p 32 <| .p 33 <| .p 36 <| .p 37 <| .p 38 <| .r 34 <| .p 35 <| .r 39 <| .p 40 <| .p 41 <| .e true [(30, .p 42 <| .p 43 <| .done)])])]); exact mixed; kernel_rfl; kernel_rfl; exact Ent.refl) | (refine is_draw ?_; refine WC_draw mixed (by kernel_rfl) ?_))
            (apply WE_ret rfl rfl (by (repeat (first | exact ResOk.nil | (apply ResOk.tmp; rfl) | (apply resOk_cell; rfl; exact inferInstance; rfl; rfl)))); (first | exact ⟨rfl, rfl⟩ | exact ⟨congrArg Value.bool (by decide), rfl⟩ | exact ⟨_, rfl, rfl⟩ | exact ⟨_, _, rfl, rfl⟩ | exact ⟨by first | (simp []; done) | (simp [] <;> omega), rfl⟩); (repeat (first | exact Ent.refl | exact Ent.nil | apply Ent.pick | apply Ent.drop)))
end Go.Sx
