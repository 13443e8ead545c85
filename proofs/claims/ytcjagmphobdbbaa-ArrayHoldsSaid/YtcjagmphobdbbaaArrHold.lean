/- The law of what an array of ways holds. My own work. -/
import Derived.Test.YtcjagmphobdbbaaArrLaw
import Derived.Test.YtcjagmphobdbbaaArrHPl
namespace Go.Sx
open Go Go.Proofs
set_option linter.unusedVariables false
set_option linter.unusedSectionVars false
set_option linter.unusedSimpArgs false
theorem ado_other {c : Cfg} {l : List Way} {line : Int} {x : AOp} (hI : ArrInv c l) (hx : x.line ≠ line) : findB c (adoL c l x) line = findB c l line ∧ findI c (adoL c l x) line = findI c l line ∧ findW c (adoL c l x) line = findW c l line := by
  have h : arrP c (adoL c l x) line = arrP c l line ∧ findW c (adoL c l x) line = findW c l line := by
    unfold adoL
    split
    · exact lay_other hI hx
    · split
      · exact set_other hI hx
      · split
        · exact lock_other hI hx
        · exact ⟨rfl, rfl⟩
  unfold findB findI
  rw [h.1]
  exact ⟨rfl, rfl, h.2⟩
def doneL (c : Cfg) (l : List Way) (x : AOp) (line : Int) : List Way := if x.line = line then l else adoL c l x
theorem done_other {c : Cfg} {l : List Way} {line : Int} {x : AOp} (hI : ArrInv c l) : findB c (doneL c l x line) line = findB c l line ∧ findI c (doneL c l x line) line = findI c l line ∧ findW c (doneL c l x line) line = findW c l line ∧ ArrInv c (doneL c l x line) := by
  unfold doneL
  split
  · exact ⟨rfl, rfl, rfl, hI⟩
  · rename_i h
    obtain ⟨a, b, d⟩ := ado_other hI h
    exact ⟨a, b, d, adoL_inv hI⟩
set_option maxRecDepth 100000
set_option maxHeartbeats 4000000
attribute [local irreducible] Go.Exit.then Go.Exit.inBlock Go.Code.wp WC WO WE WQ V LoopQ FnQ Sat Star band bor IntKind.wrap WR Code.rounds WT KO
theorem law09_Holds {W : World} {F : List HP} {c : Cfg} {v : Value} {l : List AOp} {line st : Int} {w : Words} {x : AOp} (hc : c.wf) (hli : I64 line) (hx : x.wf) (hl : l.length ≤ 9223372036854775807) (k : ROld W 11 v l.length (flat aoc l)) (hwf : ∀ x ∈ l, AOp.wf x) :
    FnF Try.prog 10 [c.val, v, .int .i64 line, .int .i64 st, wv w, aov x] [Old W] F (fun r L' => r = .bool true ∧ L' = [Old W]) := by
  refine FnF.mk' Try.func10 rfl rfl Try.ntmps10 rfl ?_
  by_cases hm : 60 < l.length
  · repeat (first | rintro _ _ ⟨rfl, rfl⟩ | rintro _ _ ⟨_, rfl, rfl⟩ | rintro _ _ ⟨_, _, rfl, rfl⟩ | rintro _ _ ⟨_, _, _, _, rfl, rfl⟩ | intro _ | refine go ?_ | (refine is_draw ?_; refine WC_draw mixed (by kernel_rfl) ?_) | refine cal @law09_awake ?_)
    (apply WE_ret rfl rfl (by (repeat (first | exact ResOk.nil | (apply ResOk.tmp; rfl) | (apply resOk_cell; rfl; exact inferInstance; rfl; rfl)))); (first | exact ⟨rfl, rfl⟩ | exact ⟨congrArg Value.bool (by decide), rfl⟩ | exact ⟨_, rfl, rfl⟩ | exact ⟨_, _, rfl, rfl⟩ | exact ⟨by first | (simp []; done) | (simp [] <;> omega), rfl⟩); (repeat (first | exact Ent.refl | exact Ent.nil | apply Ent.pick | apply Ent.drop)))
  · by_cases h64 : 64 < c.lines
    · repeat (first | rintro _ _ ⟨rfl, rfl⟩ | rintro _ _ ⟨_, rfl, rfl⟩ | rintro _ _ ⟨_, _, rfl, rfl⟩ | rintro _ _ ⟨_, _, _, _, rfl, rfl⟩ | intro _ | refine go ?_ | (refine is_draw ?_; refine WC_draw mixed (by kernel_rfl) ?_) | refine cal @law09_awake ?_)
      (apply WE_ret rfl rfl (by (repeat (first | exact ResOk.nil | (apply ResOk.tmp; rfl) | (apply resOk_cell; rfl; exact inferInstance; rfl; rfl)))); (first | exact ⟨rfl, rfl⟩ | exact ⟨congrArg Value.bool (by decide), rfl⟩ | exact ⟨_, rfl, rfl⟩ | exact ⟨_, _, rfl, rfl⟩ | exact ⟨by first | (simp []; done) | (simp [] <;> omega), rfl⟩); (repeat (first | exact Ent.refl | exact Ent.nil | apply Ent.pick | apply Ent.drop)))
    · cases he : checkB c with
      | false =>
        have hN := fun F => arr_New_no (F := F) hc he
        repeat (first | rintro _ _ ⟨rfl, rfl⟩ | rintro _ _ ⟨_, rfl, rfl⟩ | rintro _ _ ⟨_, _, rfl, rfl⟩ | rintro _ _ ⟨_, _, _, _, rfl, rfl⟩ | intro _ | refine go ?_ | (refine is_draw ?_; refine WC_draw mixed (by kernel_rfl) ?_) | refine cal @law09_awake ?_ | refine cal @hN ?_)
        (apply WE_ret rfl rfl (by (repeat (first | exact ResOk.nil | (apply ResOk.tmp; rfl) | (apply resOk_cell; rfl; exact inferInstance; rfl; rfl)))); (first | exact ⟨rfl, rfl⟩ | exact ⟨congrArg Value.bool (by decide), rfl⟩ | exact ⟨_, rfl, rfl⟩ | exact ⟨_, _, rfl, rfl⟩ | exact ⟨by first | (simp []; done) | (simp [] <;> omega), rfl⟩); (repeat (first | exact Ent.refl | exact Ent.nil | apply Ent.pick | apply Ent.drop)))
      | true =>
        have hN := fun F => arr_New (F := F) hc he
        repeat (first | rintro _ _ ⟨rfl, rfl⟩ | rintro _ _ ⟨_, rfl, rfl⟩ | rintro _ _ ⟨_, _, rfl, rfl⟩ | rintro _ _ ⟨_, _, _, _, rfl, rfl⟩ | intro _ | refine go ?_ | (refine is_draw ?_; refine WC_draw mixed (by kernel_rfl) ?_) | refine cal @law09_awake ?_ | refine cal @hN ?_)
        rename_i b6 b10 b11 b
        apply WC_loopE (E0 := [(2, _), (3, _), (10, _), (11, _), (13, _), (44, _), (45, _)]) (fun E0 (q : Nat × List Way) => (46, .int .i64 q.1) :: E0) (fun q => ArrP b c q.2 :: Cells b11 91 (aoc x) :: Cells b10 35 (wc w) :: Cells b6 24 c.cells :: Old W :: F) (fun q => q.1 ≤ l.length ∧ ArrInv c q.2) (fun q => l.length - q.1) (0, List.replicate (c.sets * c.ways).toNat .zero)
        · (repeat (first | exact Sub.nil | (refine Sub.cons (by first | rfl | (simp only [Nat.zero_add]; rfl)) ?_)))
        · exact ⟨Nat.zero_le _, arr_inv_no _ _⟩
        · (repeat (first | (with_reducible exact Ent.refl) | exact Ent.nil | (apply ent_pickE; (focus ((repeat (first | (with_reducible exact pk_here) | (apply pk_there))); done))) | apply Ent.drop))
        · rintro ⟨i, n⟩ ⟨hi, hI⟩
          dsimp only at hi hI ⊢
          by_cases hlt : i < l.length
          · have hxi := hwf l[i] (List.getElem_mem hlt)
            have hD := fun F => law09_do (F := F) (b := b) (c := c) (l := n) (x := l[i]) hc hxi.2.1
            repeat (first | rintro _ _ ⟨rfl, rfl⟩ | rintro _ _ ⟨_, rfl, rfl⟩ | rintro _ _ ⟨_, _, rfl, rfl⟩ | rintro _ _ ⟨_, _, _, _, rfl, rfl⟩ | intro _ | refine go ?_ | (refine is_draw ?_; refine WC_draw mixed (by kernel_rfl) ?_) | refine cal @hD ?_)
            refine WE_loop (i + 1, adoL c n l[i]) (by dsimp only; omega) ⟨by dsimp only; omega, adoL_inv hI⟩ ?_ ?_
            · (repeat (first | exact Sub.nil | (refine Sub.cons (by first | rfl | (simp only [Nat.zero_add]; rfl)) ?_)))
            · (repeat (first | (with_reducible exact Ent.refl) | exact Ent.nil | (apply ent_pickE; (focus ((repeat (first | (with_reducible exact pk_here) | (apply pk_there))); done))) | apply Ent.drop))
          · have hil : i = l.length := by omega
            subst hil
            have hF1 := fun F => arr_Find (F := F) (b := b) (c := c) (l := n) (line := line) hc hli
            have hS := fun F => arr_Set (F := F) (b := b) (c := c) (l := n) (line := line) (st := st) (w := w) hc hli
            have hI1 : ArrInv c (setL c n line st w) := setL_inv hI
            obtain ⟨q1, q2, q3, hI2⟩ := done_other (x := x) (line := line) hI1
            have hF2 := fun F => arr_Find (F := F) (b := b) (c := c) (l := doneL c (setL c n line st w) x line) (line := line) hc hli
            have hD : x.line ≠ line → ∀ F, FnF Try.prog 45 [.pointer (some ⟨b, 0, none⟩), aov x] [ArrP b c (setL c n line st w)] F (fun r L' => r = .int .i64 (adoE c (setL c n line st w) x) ∧ L' = [ArrP b c (doneL c (setL c n line st w) x line)]) := fun hne F => by
              unfold doneL; rw [if_neg hne]
              exact law09_do (F := F) (b := b) (c := c) (l := setL c n line st w) (x := x) hc hx.2.1
            have hE : x.line = line → doneL c (setL c n line st w) x line = setL c n line st w := fun h => if_pos h
            have hF3 := fun F => arr_Find (F := F) (b := b) (c := c) (l := lockL c (doneL c (setL c n line st w) x line) line false) (line := line) hc hli
            have hK := fun F => arr_Lock (F := F) (b := b) (c := c) (l := doneL c (setL c n line st w) x line) (line := line) (lk := false) hc hli
            rw [free_self hI2] at hF3
            rw [q1, q2, q3] at hF2
            rw [q1, q3] at hF3
            by_cases hs : setE c n line st w = 0
            · obtain ⟨t1, t2, t3⟩ := set_self hI hs
              rw [hs] at hS
              rw [t1] at hF1
              by_cases hst : (findW c n line).lk = false ∧ st = 0
              · obtain ⟨u1, u2, u3⟩ := t3 hst
                obtain ⟨hlk, h0⟩ := hst
                rw [u1, u2, u3] at hF2
                rw [u1, u3] at hF3
                simp only [Bool.false_and] at hF3
                generalize setL c n line st w = n1 at *
                by_cases hne : x.line = line
                · have hE := hE hne
                  rw [hE] at hF2 hF3 hK
                  repeat (first | rintro _ _ ⟨rfl, rfl⟩ | rintro _ _ ⟨_, rfl, rfl⟩ | rintro _ _ ⟨_, _, rfl, rfl⟩ | rintro _ _ ⟨_, _, _, _, rfl, rfl⟩ | intro _ | refine go ?_ | (refine is_draw ?_; refine WC_draw mixed (by kernel_rfl) ?_) | refine cal @hF1 ?_ | refine cal @hS ?_ | refine cal @hF2 ?_ | refine cal @hK ?_ | refine cal @hF3 ?_)
                  (apply WE_ret rfl rfl (by (repeat (first | exact ResOk.nil | (apply ResOk.tmp; rfl) | (apply resOk_cell; rfl; exact inferInstance; rfl; rfl)))); (first | exact ⟨rfl, rfl⟩ | exact ⟨congrArg Value.bool (by decide), rfl⟩ | exact ⟨_, rfl, rfl⟩ | exact ⟨_, _, rfl, rfl⟩ | exact ⟨by first | (simp [h0]; done) | (simp [h0] <;> omega), rfl⟩); (repeat (first | exact Ent.refl | exact Ent.nil | apply Ent.pick | apply Ent.drop)))
                · have hD := hD hne
                  repeat (first | rintro _ _ ⟨rfl, rfl⟩ | rintro _ _ ⟨_, rfl, rfl⟩ | rintro _ _ ⟨_, _, rfl, rfl⟩ | rintro _ _ ⟨_, _, _, _, rfl, rfl⟩ | intro _ | refine go ?_ | (refine is_draw ?_; refine WC_draw mixed (by kernel_rfl) ?_) | refine cal @hF1 ?_ | refine cal @hS ?_ | refine cal @hD ?_ | refine cal @hF2 ?_ | refine cal @hK ?_ | refine cal @hF3 ?_)
                  (apply WE_ret rfl rfl (by (repeat (first | exact ResOk.nil | (apply ResOk.tmp; rfl) | (apply resOk_cell; rfl; exact inferInstance; rfl; rfl)))); (first | exact ⟨rfl, rfl⟩ | exact ⟨congrArg Value.bool (by decide), rfl⟩ | exact ⟨_, rfl, rfl⟩ | exact ⟨_, _, rfl, rfl⟩ | exact ⟨by first | (simp [h0]; done) | (simp [h0] <;> omega), rfl⟩); (repeat (first | exact Ent.refl | exact Ent.nil | apply Ent.pick | apply Ent.drop)))
              · by_cases h0 : st = 0
                · have hlk : (findW c n line).lk = true := by
                    cases hk : (findW c n line).lk with
                    | false => exact absurd ⟨hk, h0⟩ hst
                    | true => rfl
                  obtain ⟨u1, u2, u3⟩ := t2 (.inl hlk)
                  rw [if_pos h0] at u3
                  rw [u1, u2, u3] at hF2
                  rw [u1, u3] at hF3
                  simp only [Bool.true_and] at hF3
                  generalize setL c n line st w = n1 at *
                  generalize findW c n line = W0 at *
                  by_cases hne : x.line = line
                  · have hE := hE hne
                    rw [hE] at hF2 hF3 hK
                    repeat (first | rintro _ _ ⟨rfl, rfl⟩ | rintro _ _ ⟨_, rfl, rfl⟩ | rintro _ _ ⟨_, _, rfl, rfl⟩ | rintro _ _ ⟨_, _, _, _, rfl, rfl⟩ | intro _ | refine go ?_ | (refine is_draw ?_; refine WC_draw mixed (by kernel_rfl) ?_) | refine cal @hF1 ?_ | refine cal @hS ?_ | refine cal @hF2 ?_ | refine cal @hK ?_ | refine cal @hF3 ?_)
                    (apply WE_ret rfl rfl (by (repeat (first | exact ResOk.nil | (apply ResOk.tmp; rfl) | (apply resOk_cell; rfl; exact inferInstance; rfl; rfl)))); (first | exact ⟨rfl, rfl⟩ | exact ⟨congrArg Value.bool (by decide), rfl⟩ | exact ⟨_, rfl, rfl⟩ | exact ⟨_, _, rfl, rfl⟩ | exact ⟨by first | (simp [h0]; done) | (simp [h0] <;> omega), rfl⟩); (repeat (first | exact Ent.refl | exact Ent.nil | apply Ent.pick | apply Ent.drop)))
                  · have hD := hD hne
                    repeat (first | rintro _ _ ⟨rfl, rfl⟩ | rintro _ _ ⟨_, rfl, rfl⟩ | rintro _ _ ⟨_, _, rfl, rfl⟩ | rintro _ _ ⟨_, _, _, _, rfl, rfl⟩ | intro _ | refine go ?_ | (refine is_draw ?_; refine WC_draw mixed (by kernel_rfl) ?_) | refine cal @hF1 ?_ | refine cal @hS ?_ | refine cal @hD ?_ | refine cal @hF2 ?_ | refine cal @hK ?_ | refine cal @hF3 ?_)
                    (apply WE_ret rfl rfl (by (repeat (first | exact ResOk.nil | (apply ResOk.tmp; rfl) | (apply resOk_cell; rfl; exact inferInstance; rfl; rfl)))); (first | exact ⟨rfl, rfl⟩ | exact ⟨congrArg Value.bool (by decide), rfl⟩ | exact ⟨_, rfl, rfl⟩ | exact ⟨_, _, rfl, rfl⟩ | exact ⟨by first | (simp [h0]; done) | (simp [h0] <;> omega), rfl⟩); (repeat (first | exact Ent.refl | exact Ent.nil | apply Ent.pick | apply Ent.drop)))
                · obtain ⟨u1, u2, u3⟩ := t2 (.inr h0)
                  rw [if_neg h0] at u3
                  rw [u1, u2, u3] at hF2
                  rw [u1, u3] at hF3
                  simp only [Bool.true_and] at hF3
                  generalize setL c n line st w = n1 at *
                  generalize findW c n line = W0 at *
                  cases hlk : W0.lk with
                  | true =>
                    by_cases hne : x.line = line
                    · have hE := hE hne
                      rw [hE] at hF2 hF3 hK
                      repeat (first | rintro _ _ ⟨rfl, rfl⟩ | rintro _ _ ⟨_, rfl, rfl⟩ | rintro _ _ ⟨_, _, rfl, rfl⟩ | rintro _ _ ⟨_, _, _, _, rfl, rfl⟩ | intro _ | refine go ?_ | (refine is_draw ?_; refine WC_draw mixed (by kernel_rfl) ?_) | refine cal @hF1 ?_ | refine cal @hS ?_ | refine cal @hF2 ?_ | refine cal @hK ?_ | refine cal @hF3 ?_)
                      (apply WE_ret rfl rfl (by (repeat (first | exact ResOk.nil | (apply ResOk.tmp; rfl) | (apply resOk_cell; rfl; exact inferInstance; rfl; rfl)))); (first | exact ⟨rfl, rfl⟩ | exact ⟨congrArg Value.bool (by decide), rfl⟩ | exact ⟨_, rfl, rfl⟩ | exact ⟨_, _, rfl, rfl⟩ | exact ⟨by first | (simp [h0]; done) | (simp [h0] <;> omega), rfl⟩); (repeat (first | exact Ent.refl | exact Ent.nil | apply Ent.pick | apply Ent.drop)))
                    · have hD := hD hne
                      repeat (first | rintro _ _ ⟨rfl, rfl⟩ | rintro _ _ ⟨_, rfl, rfl⟩ | rintro _ _ ⟨_, _, rfl, rfl⟩ | rintro _ _ ⟨_, _, _, _, rfl, rfl⟩ | intro _ | refine go ?_ | (refine is_draw ?_; refine WC_draw mixed (by kernel_rfl) ?_) | refine cal @hF1 ?_ | refine cal @hS ?_ | refine cal @hD ?_ | refine cal @hF2 ?_ | refine cal @hK ?_ | refine cal @hF3 ?_)
                      (apply WE_ret rfl rfl (by (repeat (first | exact ResOk.nil | (apply ResOk.tmp; rfl) | (apply resOk_cell; rfl; exact inferInstance; rfl; rfl)))); (first | exact ⟨rfl, rfl⟩ | exact ⟨congrArg Value.bool (by decide), rfl⟩ | exact ⟨_, rfl, rfl⟩ | exact ⟨_, _, rfl, rfl⟩ | exact ⟨by first | (simp [h0]; done) | (simp [h0] <;> omega), rfl⟩); (repeat (first | exact Ent.refl | exact Ent.nil | apply Ent.pick | apply Ent.drop)))
                  | false =>
                    by_cases hne : x.line = line
                    · have hE := hE hne
                      rw [hE] at hF2 hF3 hK
                      repeat (first | rintro _ _ ⟨rfl, rfl⟩ | rintro _ _ ⟨_, rfl, rfl⟩ | rintro _ _ ⟨_, _, rfl, rfl⟩ | rintro _ _ ⟨_, _, _, _, rfl, rfl⟩ | intro _ | refine go ?_ | (refine is_draw ?_; refine WC_draw mixed (by kernel_rfl) ?_) | refine cal @hF1 ?_ | refine cal @hS ?_ | refine cal @hF2 ?_ | refine cal @hK ?_ | refine cal @hF3 ?_)
                      (apply WE_ret rfl rfl (by (repeat (first | exact ResOk.nil | (apply ResOk.tmp; rfl) | (apply resOk_cell; rfl; exact inferInstance; rfl; rfl)))); (first | exact ⟨rfl, rfl⟩ | exact ⟨congrArg Value.bool (by decide), rfl⟩ | exact ⟨_, rfl, rfl⟩ | exact ⟨_, _, rfl, rfl⟩ | exact ⟨by first | (simp [h0]; done) | (simp [h0] <;> omega), rfl⟩); (repeat (first | exact Ent.refl | exact Ent.nil | apply Ent.pick | apply Ent.drop)))
                    · have hD := hD hne
                      repeat (first | rintro _ _ ⟨rfl, rfl⟩ | rintro _ _ ⟨_, rfl, rfl⟩ | rintro _ _ ⟨_, _, rfl, rfl⟩ | rintro _ _ ⟨_, _, _, _, rfl, rfl⟩ | intro _ | refine go ?_ | (refine is_draw ?_; refine WC_draw mixed (by kernel_rfl) ?_) | refine cal @hF1 ?_ | refine cal @hS ?_ | refine cal @hD ?_ | refine cal @hF2 ?_ | refine cal @hK ?_ | refine cal @hF3 ?_)
                      (apply WE_ret rfl rfl (by (repeat (first | exact ResOk.nil | (apply ResOk.tmp; rfl) | (apply resOk_cell; rfl; exact inferInstance; rfl; rfl)))); (first | exact ⟨rfl, rfl⟩ | exact ⟨congrArg Value.bool (by decide), rfl⟩ | exact ⟨_, rfl, rfl⟩ | exact ⟨_, _, rfl, rfl⟩ | exact ⟨by first | (simp [h0]; done) | (simp [h0] <;> omega), rfl⟩); (repeat (first | exact Ent.refl | exact Ent.nil | apply Ent.pick | apply Ent.drop)))
            · have hset : setL c n line st w = n := if_neg hs
              rw [hset] at hS hF2 hF3 hD hE
              generalize setE c n line st w = e at *
              by_cases hne : x.line = line
              · have hE := hE hne
                rw [hE] at hF2
                repeat (first | rintro _ _ ⟨rfl, rfl⟩ | rintro _ _ ⟨_, rfl, rfl⟩ | rintro _ _ ⟨_, _, rfl, rfl⟩ | rintro _ _ ⟨_, _, _, _, rfl, rfl⟩ | intro _ | refine go ?_ | (refine is_draw ?_; refine WC_draw mixed (by kernel_rfl) ?_) | refine cal @hF1 ?_ | refine cal @hS ?_ | refine cal @hF2 ?_)
                (apply WE_ret rfl rfl (by (repeat (first | exact ResOk.nil | (apply ResOk.tmp; rfl) | (apply resOk_cell; rfl; exact inferInstance; rfl; rfl)))); (first | exact ⟨rfl, rfl⟩ | exact ⟨congrArg Value.bool (by decide), rfl⟩ | exact ⟨_, rfl, rfl⟩ | exact ⟨_, _, rfl, rfl⟩ | exact ⟨by first | (simp []; done) | (simp [] <;> omega), rfl⟩); (repeat (first | exact Ent.refl | exact Ent.nil | apply Ent.pick | apply Ent.drop)))
              · have hD := hD hne
                repeat (first | rintro _ _ ⟨rfl, rfl⟩ | rintro _ _ ⟨_, rfl, rfl⟩ | rintro _ _ ⟨_, _, rfl, rfl⟩ | rintro _ _ ⟨_, _, _, _, rfl, rfl⟩ | intro _ | refine go ?_ | (refine is_draw ?_; refine WC_draw mixed (by kernel_rfl) ?_) | refine cal @hF1 ?_ | refine cal @hS ?_ | refine cal @hD ?_ | refine cal @hF2 ?_)
                (apply WE_ret rfl rfl (by (repeat (first | exact ResOk.nil | (apply ResOk.tmp; rfl) | (apply resOk_cell; rfl; exact inferInstance; rfl; rfl)))); (first | exact ⟨rfl, rfl⟩ | exact ⟨congrArg Value.bool (by decide), rfl⟩ | exact ⟨_, rfl, rfl⟩ | exact ⟨_, _, rfl, rfl⟩ | exact ⟨by first | (simp []; done) | (simp [] <;> omega), rfl⟩); (repeat (first | exact Ent.refl | exact Ent.nil | apply Ent.pick | apply Ent.drop)))
end Go.Sx
