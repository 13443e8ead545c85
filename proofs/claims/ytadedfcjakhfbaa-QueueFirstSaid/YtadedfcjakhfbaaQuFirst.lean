/- At most one entry of a line is started: the law of queues. My own work. -/
import Derived.Test.YtadedfcjakhfbaaQuLaw
namespace Go.Sx
open Go Go.Proofs
set_option linter.unusedVariables false
set_option linter.unusedSectionVars false
set_option linter.unusedSimpArgs false
instance : MapT Try.prog 85 blv false := ⟨_, _, _, _, _, Try.underlying85, Try.underlying3, TZ.pf⟩
theorem qready_eq {l : List QE} {i : Nat} (hi : i < l.length) : qready l i = (!l[i].st && !(l.take i).any fun e => decide (e.m.line = l[i].m.line)) := by
  have h1 : qin l i = true := by simp [qin, hi]
  have h2 : qat l i = l[i] := by simp [qat, h1, hi]
  simp only [qready, h1, h2, Bool.true_and, Int.toNat_natCast, qfree]
  congr 1
  rw [List.all_eq_not_any_not]
  simp
/-- Is there one of the line ahead? -/
def qseen (l : List QE) (i : Nat) (line : Int) : Bool := (l.take i).any fun e => decide (e.m.line = line)
theorem qseen_succ {l : List QE} {i : Nat} (hi : i < l.length) (k : Int) : qseen l (i + 1) k = if k = l[i].m.line then true else qseen l i k := by
  unfold qseen
  rw [List.take_add_one, List.any_append]
  simp only [List.getElem?_eq_getElem hi, Option.toList_some, List.any_cons, List.any_nil, Bool.or_false]
  by_cases h : k = l[i].m.line
  · subst h; simp
  · simp [h, Ne.symm h]
theorem qseen_st {l : List QE} (h : QInv l) {i : Nat} (hi : i < l.length) (hs : qseen l i l[i].m.line = true) : l[i].st = false := by
  unfold qseen at hs
  rw [List.any_eq_true] at hs
  obtain ⟨x, hx, he⟩ := hs
  obtain ⟨j, hj, rfl⟩ := List.getElem_of_mem hx
  rw [List.length_take] at hj
  have he' := of_decide_eq_true he
  rw [List.getElem_take] at he'
  exact h.1 j i (by omega) hi (by omega) he'
set_option maxRecDepth 100000
set_option maxHeartbeats 4000000
attribute [local irreducible] Go.Exit.then Go.Exit.inBlock Go.Code.wp WC WO WE WQ V LoopQ FnQ Sat Star band bor IntKind.wrap WR Code.rounds WT KO
theorem law15_First {W : World} {F : List HP} {room : Int} {v : Value} {l : List QOp} (hr : I64 room) (hw : ∀ o ∈ l, o.ok W ∧ o.sends.length ≤ 2000000000000) (hl : l.length ≤ 9223372036854775807) (k : ROld W 18 v l.length (flat qoc l)) :
    FnF Try.prog 9 [.int .i64 room, v] [Old W] F (fun r L' => r = .bool true ∧ L' = [Old W]) := by
  have hs' : ∀ o ∈ l, o.sends.length ≤ 2000000000000 := fun o ho => (hw o ho).2
  refine FnF.mk' Try.func9 rfl rfl Try.ntmps9 rfl ?_
  by_cases h1 : 1 ≤ room ∧ room ≤ 16
  · repeat (first | rintro _ _ ⟨rfl, rfl⟩ | rintro _ _ ⟨_, rfl, rfl⟩ | rintro _ _ ⟨_, _, rfl, rfl⟩ | intro _ | refine go ?_ | (refine is_draw ?_; refine WC_draw mixed (by kernel_rfl) ?_) | refine cal @law15_awake ?_ | refine cal @law15_large ?_)
    rename_i B hB
    cases B with
    | true =>
      repeat (first | rintro _ _ ⟨rfl, rfl⟩ | rintro _ _ ⟨_, rfl, rfl⟩ | rintro _ _ ⟨_, _, rfl, rfl⟩ | intro _ | refine go ?_ | (refine is_draw ?_; refine WC_draw mixed (by kernel_rfl) ?_))
      (apply WE_ret rfl rfl (by (repeat (first | exact ResOk.nil | (apply ResOk.tmp; rfl) | (apply resOk_cell; rfl; exact inferInstance; rfl; rfl)))); (first | exact ⟨rfl, rfl⟩ | exact ⟨congrArg Value.bool (by decide), rfl⟩ | exact ⟨_, rfl, rfl⟩ | exact ⟨_, _, rfl, rfl⟩ | exact ⟨by first | (simp []; done) | (simp [] <;> omega), rfl⟩); (repeat (first | exact Ent.refl | exact Ent.nil | apply Ent.pick | apply Ent.drop)))
    | false =>
      obtain ⟨hlen, hsm⟩ := hB rfl
      repeat (first | rintro _ _ ⟨rfl, rfl⟩ | rintro _ _ ⟨_, rfl, rfl⟩ | rintro _ _ ⟨_, _, rfl, rfl⟩ | intro _ | refine go ?_ | (refine is_draw ?_; refine WC_draw mixed (by kernel_rfl) ?_) | refine cal @qu_New ?_)
      rename_i b
      apply WC_loopE (E0 := [(0, _), (5, _), (25, _), (26, _)]) (fun E0 (q : Nat × List QE) => (27, .int .i64 q.1) :: E0) (fun q => QuP b room q.2 :: Old W :: F) (fun q => q.1 ≤ l.length ∧ (q.2.length : Int) ≤ room ∧ QInv q.2) (fun q => l.length - q.1) (0, [])
      · (repeat (first | exact Sub.nil | (refine Sub.cons (by first | rfl | (simp only [Nat.zero_add]; rfl)) ?_)))
      · exact ⟨Nat.zero_le _, by simp; omega, qinv_nil⟩
      · (repeat (first | (with_reducible exact Ent.refl) | exact Ent.nil | (apply ent_pickE; (focus ((repeat (first | (with_reducible exact pk_here) | (apply pk_there))); done))) | apply Ent.drop))
      · rintro ⟨i, q⟩ ⟨hi, hq, hinv⟩
        dsimp only at hi hq hinv ⊢
        by_cases hlt : i < l.length
        · have hD := fun F => qu_do (W := W) (F := F) (b := b) (room := room) (l := q) (x := l[i]) (hw _ (List.getElem_mem hlt)).1 (by have := hsm _ (List.getElem_mem hlt); omega)
          have hinv2 := qinv_do (room := room) (x := l[i]) hinv
          have hq2 := qroom_do (room := room) (l := q) (x := l[i]) hq
          generalize hgl : qdoL room q l[i] = q2 at hD hinv2 hq2
          repeat (first | rintro _ _ ⟨rfl, rfl⟩ | rintro _ _ ⟨_, rfl, rfl⟩ | rintro _ _ ⟨_, _, rfl, rfl⟩ | intro _ | refine go ?_ | (refine is_draw ?_; refine WC_draw mixed (by kernel_rfl) ?_) | refine cal @hD ?_ | refine cal @qu_List ?_)
          rename_i bx bm p' c'
          (first | refine WO_front (QuL 112 (.slice p' q2.length c') q2) ?_ | refine WC_front (QuL 112 (.slice p' q2.length c') q2) ?_ | refine WE_front (QuL 112 (.slice p' q2.length c') q2) ?_)
          refine ql_open fun qs hqs => ?_
          subst hqs
          rw [List.length_map] at hq2 ⊢
          have hR := fun F j => qu_Ready (F := F) (b := b) (room := room) (l := qs.map (·.1)) (n := (j : Nat))
          apply WC_loopE (E0 := [(0, _), (5, _), (9, _), (11, _), (25, _), (26, _), (27, _), (37, _), (38, _)]) (fun E0 (r : Nat × Bool × List (Int × Bool)) => (39, .int .i64 r.1) :: (10, .bool r.2.1) :: E0)
            (fun r => Own 112 17 (.slice p' qs.length c') qs.length (flat qc qs) :: All (qs.map qrd) :: MapAt bm blv r.2.2 :: QuP b room (qs.map (·.1)) :: Old W :: F)
            (fun r => r.1 ≤ qs.length ∧ (0 < r.1 → r.2.1 = true) ∧ ∀ k, (mget r.2.2 k).getD false = qseen (qs.map (·.1)) r.1 k) (fun r => qs.length - r.1) (0, false, [])
          · (repeat (first | exact Sub.nil | (refine Sub.cons (by first | rfl | (simp only [Nat.zero_add]; rfl)) ?_)))
          · exact ⟨Nat.zero_le _, fun h => by omega, fun k => by simp [mget_nil, qseen]⟩
          · (repeat (first | (with_reducible exact Ent.refl) | exact Ent.nil | (apply ent_pickE; (focus ((repeat (first | (with_reducible exact pk_here) | (apply pk_there))); done))) | apply Ent.drop))
          · rintro ⟨j, on, ml⟩ ⟨hj, hon, hml⟩
            dsimp only at hj hon hml ⊢
            by_cases hjl : j < qs.length
            · have hjl' : j < (qs.map (·.1)).length := by simpa using hjl
              have hgm : (qs.map (·.1))[j] = qs[j].1 := by simp
              have hRj := fun F => hR F j
              have hre := qready_eq hjl'
              have hss := qseen_st hinv2 hjl'
              have hsd := hinv2.2 _ (List.getElem_mem hjl')
              have hm0 := hml qs[j].1.m.line
              have hsu := qseen_succ hjl'
              rw [hgm] at hre hss hsd hsu
              have hse : qready (qs.map (·.1)) j = (!qs[j].1.st && !qseen (qs.map (·.1)) j qs[j].1.m.line) := hre
              have nxt : ∀ k, (mget (mset ml qs[j].1.m.line true) k).getD false = qseen (qs.map (·.1)) (j + 1) k := fun k => by
                rw [mget_mset, hsu]; split
                · rfl
                · exact hml k
              cases hst : qs[j].1.st with
              | true =>
                cases hsn : qseen (qs.map (·.1)) j qs[j].1.m.line with
                | true => exact absurd (hss hsn) (by simp [hst])
                | false =>
                  rw [hst, hsn] at hse
                  rw [hse] at hRj
                  rw [hsn] at hm0
                  cases on with
                  | true =>
                    repeat (first | rintro _ _ ⟨rfl, rfl⟩ | rintro _ _ ⟨_, rfl, rfl⟩ | rintro _ _ ⟨_, _, rfl, rfl⟩ | intro _ | refine go ?_ | (refine is_draw ?_; refine WC_draw mixed (by kernel_rfl) ?_) | refine cal @hRj ?_)
                    refine WE_loop (j + 1, true, _) (by dsimp only; omega) ⟨by dsimp only; omega, fun _ => rfl, nxt⟩ ?_ ?_
                    · (repeat (first | exact Sub.nil | (refine Sub.cons (by first | rfl | (simp only [Nat.zero_add]; rfl)) ?_)))
                    · (repeat (first | (with_reducible exact Ent.refl) | exact Ent.nil | (apply ent_pickE; (focus ((repeat (first | (with_reducible exact pk_here) | (apply pk_there))); done))) | apply Ent.drop))
                  | false =>
                    repeat (first | rintro _ _ ⟨rfl, rfl⟩ | rintro _ _ ⟨_, rfl, rfl⟩ | rintro _ _ ⟨_, _, rfl, rfl⟩ | intro _ | refine go ?_ | (refine is_draw ?_; refine WC_draw mixed (by kernel_rfl) ?_) | refine cal @hRj ?_)
                    rw [hst]
                    repeat (first | rintro _ _ ⟨rfl, rfl⟩ | rintro _ _ ⟨_, rfl, rfl⟩ | rintro _ _ ⟨_, _, rfl, rfl⟩ | intro _ | refine go ?_ | (refine is_draw ?_; refine WC_draw mixed (by kernel_rfl) ?_) | refine cal @hRj ?_)
                    refine WE_loop (j + 1, true, _) (by dsimp only; omega) ⟨by dsimp only; omega, fun _ => rfl, nxt⟩ ?_ ?_
                    · (repeat (first | exact Sub.nil | (refine Sub.cons (by first | rfl | (simp only [Nat.zero_add]; rfl)) ?_)))
                    · (repeat (first | (with_reducible exact Ent.refl) | exact Ent.nil | (apply ent_pickE; (focus ((repeat (first | (with_reducible exact pk_here) | (apply pk_there))); done))) | apply Ent.drop))
              | false =>
                have hs0 : qs[j].1.sends.length = 0 := by rw [hsd hst]; rfl
                cases hsn : qseen (qs.map (·.1)) j qs[j].1.m.line with
                | true =>
                  rw [hst, hsn] at hse
                  rw [hse] at hRj
                  rw [hsn] at hm0
                  cases on with
                  | true =>
                    repeat (first | rintro _ _ ⟨rfl, rfl⟩ | rintro _ _ ⟨_, rfl, rfl⟩ | rintro _ _ ⟨_, _, rfl, rfl⟩ | intro _ | refine go ?_ | (refine is_draw ?_; refine WC_draw mixed (by kernel_rfl) ?_) | refine cal @hRj ?_)
                    refine WE_loop (j + 1, true, _) (by dsimp only; omega) ⟨by dsimp only; omega, fun _ => rfl, nxt⟩ ?_ ?_
                    · (repeat (first | exact Sub.nil | (refine Sub.cons (by first | rfl | (simp only [Nat.zero_add]; rfl)) ?_)))
                    · (repeat (first | (with_reducible exact Ent.refl) | exact Ent.nil | (apply ent_pickE; (focus ((repeat (first | (with_reducible exact pk_here) | (apply pk_there))); done))) | apply Ent.drop))
                  | false =>
                    have hj0 : j = 0 := by
                      rcases Nat.eq_zero_or_pos j with h | h
                      · exact h
                      · exact absurd (hon h) (by simp)
                    subst hj0
                    simp [qseen] at hsn
                | false =>
                  rw [hst, hsn] at hse
                  rw [hse] at hRj
                  rw [hsn] at hm0
                  cases on with
                  | true =>
                    repeat (first | rintro _ _ ⟨rfl, rfl⟩ | rintro _ _ ⟨_, rfl, rfl⟩ | rintro _ _ ⟨_, _, rfl, rfl⟩ | intro _ | refine go ?_ | (refine is_draw ?_; refine WC_draw mixed (by kernel_rfl) ?_) | refine cal @hRj ?_)
                    refine WE_loop (j + 1, true, _) (by dsimp only; omega) ⟨by dsimp only; omega, fun _ => rfl, nxt⟩ ?_ ?_
                    · (repeat (first | exact Sub.nil | (refine Sub.cons (by first | rfl | (simp only [Nat.zero_add]; rfl)) ?_)))
                    · (repeat (first | (with_reducible exact Ent.refl) | exact Ent.nil | (apply ent_pickE; (focus ((repeat (first | (with_reducible exact pk_here) | (apply pk_there))); done))) | apply Ent.drop))
                  | false =>
                    repeat (first | rintro _ _ ⟨rfl, rfl⟩ | rintro _ _ ⟨_, rfl, rfl⟩ | rintro _ _ ⟨_, _, rfl, rfl⟩ | intro _ | refine go ?_ | (refine is_draw ?_; refine WC_draw mixed (by kernel_rfl) ?_) | refine cal @hRj ?_)
                    refine WE_loop (j + 1, true, _) (by dsimp only; omega) ⟨by dsimp only; omega, fun _ => rfl, nxt⟩ ?_ ?_
                    · (repeat (first | exact Sub.nil | (refine Sub.cons (by first | rfl | (simp only [Nat.zero_add]; rfl)) ?_)))
                    · (repeat (first | (with_reducible exact Ent.refl) | exact Ent.nil | (apply ent_pickE; (focus ((repeat (first | (with_reducible exact pk_here) | (apply pk_there))); done))) | apply Ent.drop))
            · have hjq : j = qs.length := by omega
              rcases Nat.eq_zero_or_pos qs.length with h0 | h0
              · repeat (first | rintro _ _ ⟨rfl, rfl⟩ | rintro _ _ ⟨_, rfl, rfl⟩ | rintro _ _ ⟨_, _, rfl, rfl⟩ | intro _ | refine go ?_ | (refine is_draw ?_; refine WC_draw mixed (by kernel_rfl) ?_))
                refine WE_loop (i + 1, qs.map (·.1)) (by dsimp only; omega) ⟨by dsimp only; omega, by dsimp only; rw [List.length_map]; exact hq2, hinv2⟩ ?_ ?_
                · (repeat (first | exact Sub.nil | (refine Sub.cons (by first | rfl | (simp only [Nat.zero_add]; rfl)) ?_)))
                · (repeat (first | (with_reducible exact Ent.refl) | exact Ent.nil | (apply ent_pickE; (focus ((repeat (first | (with_reducible exact pk_here) | (apply pk_there))); done))) | apply Ent.drop))
              · have hon1 := hon (by omega)
                subst hon1
                repeat (first | rintro _ _ ⟨rfl, rfl⟩ | rintro _ _ ⟨_, rfl, rfl⟩ | rintro _ _ ⟨_, _, rfl, rfl⟩ | intro _ | refine go ?_ | (refine is_draw ?_; refine WC_draw mixed (by kernel_rfl) ?_))
                refine WE_loop (i + 1, qs.map (·.1)) (by dsimp only; omega) ⟨by dsimp only; omega, by dsimp only; rw [List.length_map]; exact hq2, hinv2⟩ ?_ ?_
                · (repeat (first | exact Sub.nil | (refine Sub.cons (by first | rfl | (simp only [Nat.zero_add]; rfl)) ?_)))
                · (repeat (first | (with_reducible exact Ent.refl) | exact Ent.nil | (apply ent_pickE; (focus ((repeat (first | (with_reducible exact pk_here) | (apply pk_there))); done))) | apply Ent.drop))
        · repeat (first | rintro _ _ ⟨rfl, rfl⟩ | rintro _ _ ⟨_, rfl, rfl⟩ | rintro _ _ ⟨_, _, rfl, rfl⟩ | intro _ | refine go ?_ | (refine is_draw ?_; refine WC_draw mixed (by kernel_rfl) ?_))
          (apply WE_ret rfl rfl (by (repeat (first | exact ResOk.nil | (apply ResOk.tmp; rfl) | (apply resOk_cell; rfl; exact inferInstance; rfl; rfl)))); (first | exact ⟨rfl, rfl⟩ | exact ⟨congrArg Value.bool (by decide), rfl⟩ | exact ⟨_, rfl, rfl⟩ | exact ⟨_, _, rfl, rfl⟩ | exact ⟨by first | (simp []; done) | (simp [] <;> omega), rfl⟩); (repeat (first | exact Ent.refl | exact Ent.nil | apply Ent.pick | apply Ent.drop)))
  · repeat (first | rintro _ _ ⟨rfl, rfl⟩ | rintro _ _ ⟨_, rfl, rfl⟩ | rintro _ _ ⟨_, _, rfl, rfl⟩ | intro _ | refine go ?_ | (refine is_draw ?_; refine WC_draw mixed (by kernel_rfl) ?_) | refine cal @law15_awake ?_ | refine cal @law15_large ?_)
    rename_i B hB
    cases B with
    | true =>
      repeat (first | rintro _ _ ⟨rfl, rfl⟩ | rintro _ _ ⟨_, rfl, rfl⟩ | rintro _ _ ⟨_, _, rfl, rfl⟩ | intro _ | refine go ?_ | (refine is_draw ?_; refine WC_draw mixed (by kernel_rfl) ?_))
      (apply WE_ret rfl rfl (by (repeat (first | exact ResOk.nil | (apply ResOk.tmp; rfl) | (apply resOk_cell; rfl; exact inferInstance; rfl; rfl)))); (first | exact ⟨rfl, rfl⟩ | exact ⟨congrArg Value.bool (by decide), rfl⟩ | exact ⟨_, rfl, rfl⟩ | exact ⟨_, _, rfl, rfl⟩ | exact ⟨by first | (simp []; done) | (simp [] <;> omega), rfl⟩); (repeat (first | exact Ent.refl | exact Ent.nil | apply Ent.pick | apply Ent.drop)))
    | false =>
      repeat (first | rintro _ _ ⟨rfl, rfl⟩ | rintro _ _ ⟨_, rfl, rfl⟩ | rintro _ _ ⟨_, _, rfl, rfl⟩ | intro _ | refine go ?_ | (refine is_draw ?_; refine WC_draw mixed (by kernel_rfl) ?_) | refine cal @qu_New_no ?_)
      (apply WE_ret rfl rfl (by (repeat (first | exact ResOk.nil | (apply ResOk.tmp; rfl) | (apply resOk_cell; rfl; exact inferInstance; rfl; rfl)))); (first | exact ⟨rfl, rfl⟩ | exact ⟨congrArg Value.bool (by decide), rfl⟩ | exact ⟨_, rfl, rfl⟩ | exact ⟨_, _, rfl, rfl⟩ | exact ⟨by first | (simp []; done) | (simp [] <;> omega), rfl⟩); (repeat (first | exact Ent.refl | exact Ent.nil | apply Ent.pick | apply Ent.drop)))
end Go.Sx
