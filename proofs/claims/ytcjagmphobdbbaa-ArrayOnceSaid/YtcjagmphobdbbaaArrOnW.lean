/- The law that a line is there once: the walk. My own work. -/
import Derived.Test.YtcjagmphobdbbaaArrOnce
namespace Go.Sx
open Go Go.Proofs
set_option linter.unusedVariables false
set_option linter.unusedSectionVars false
set_option linter.unusedSimpArgs false
set_option maxRecDepth 100000
set_option maxHeartbeats 4000000
attribute [local irreducible] Go.Exit.then Go.Exit.inBlock Go.Code.wp WC WO WE WQ V LoopQ FnQ Sat Star band bor IntKind.wrap WR Code.rounds WT KO
instance : MapT Try.prog 111 Value.bool false := ⟨_, _, _, _, _, Try.underlying111, Try.underlying3, TZ.pf⟩
theorem law09_Once {W : World} {F : List HP} {c : Cfg} {v : Value} {l : List AOp} (hc : c.wf) (hl : l.length ≤ 9223372036854775807) (k : ROld W 11 v l.length (flat aoc l)) (hwf : ∀ x ∈ l, AOp.wf x) :
    FnF Try.prog 9 [c.val, v] [Old W] F (fun r L' => r = .bool true ∧ L' = [Old W]) := by
  refine FnF.mk' Try.func9 rfl rfl Try.ntmps9 rfl ?_
  by_cases hm : 60 < l.length
  · repeat (first | rintro _ _ ⟨rfl, rfl⟩ | rintro _ _ ⟨_, rfl, rfl⟩ | rintro _ _ ⟨_, _, rfl, rfl⟩ | rintro _ _ ⟨_, _, _, _, rfl, rfl⟩ | intro _ | refine go ?_ | (refine is_draw ?_; refine WC_draw mixed (by kernel_rfl) ?_) | refine cal @law09_awake ?_)
    (apply WE_ret rfl rfl (by (repeat (first | exact ResOk.nil | (apply ResOk.tmp; rfl) | (apply resOk_cell; rfl; exact inferInstance; rfl; rfl)))); (first | exact ⟨rfl, rfl⟩ | exact ⟨congrArg Value.bool (by decide), rfl⟩ | exact ⟨_, rfl, rfl⟩ | exact ⟨_, _, rfl, rfl⟩ | exact ⟨by first | (simp []; done) | (simp [] <;> omega), rfl⟩); (repeat (first | exact Ent.refl | exact Ent.nil | apply Ent.pick | apply Ent.drop)))
  · by_cases h64 : 64 < c.lines
    · repeat (first | rintro _ _ ⟨rfl, rfl⟩ | rintro _ _ ⟨_, rfl, rfl⟩ | rintro _ _ ⟨_, _, rfl, rfl⟩ | rintro _ _ ⟨_, _, _, _, rfl, rfl⟩ | intro _ | refine go ?_ | (refine is_draw ?_; refine WC_draw mixed (by kernel_rfl) ?_) | refine cal @law09_awake ?_)
      (apply WE_ret rfl rfl (by (repeat (first | exact ResOk.nil | (apply ResOk.tmp; rfl) | (apply resOk_cell; rfl; exact inferInstance; rfl; rfl)))); (first | exact ⟨rfl, rfl⟩ | exact ⟨congrArg Value.bool (by decide), rfl⟩ | exact ⟨_, rfl, rfl⟩ | exact ⟨_, _, rfl, rfl⟩ | exact ⟨by first | (simp []; done) | (simp [] <;> omega), rfl⟩); (repeat (first | exact Ent.refl | exact Ent.nil | apply Ent.pick | apply Ent.drop)))
    · cases he : checkB c with
      | false =>
        have hN := fun F => arr_New_no (F := F) hc he
        repeat (first | rintro _ _ ⟨rfl, rfl⟩ | rintro _ _ ⟨_, rfl, rfl⟩ | rintro _ _ ⟨_, _, rfl, rfl⟩ | rintro _ _ ⟨_, _, _, _, rfl, rfl⟩ | intro _ | refine go ?_ | (refine is_draw ?_; refine WC_draw mixed (by kernel_rfl) ?_) | refine cal @law09_awake ?_ | refine cal @hN ?_)
        (apply WE_ret rfl rfl (by (repeat (first | exact ResOk.nil | (apply ResOk.tmp; rfl) | (apply resOk_cell; rfl; exact inferInstance; rfl; rfl)))); (first | exact ⟨rfl, rfl⟩ | exact ⟨congrArg Value.bool (by decide), rfl⟩ | exact ⟨_, rfl, rfl⟩ | exact ⟨_, _, rfl, rfl⟩ | exact ⟨by first | (simp []; done) | (simp [] <;> omega), rfl⟩); (repeat (first | exact Ent.refl | exact Ent.nil | apply Ent.pick | apply Ent.drop)))
      | true =>
        have hN := fun F => arr_New (F := F) hc he
        obtain ⟨_, _, ⟨ks, hks, es⟩, _, _, hw1, hw8⟩ := check_facts he
        have hsb := pow_bd hks
        have hs1 : 1 ≤ c.sets ∧ c.sets ≤ 64 := by rw [es]; exact ⟨hsb.1, by have := hsb.2; simpa using this⟩
        have hmul : c.sets * c.ways = ((c.sets.toNat * c.ways.toNat : Nat) : Int) := by rw [Int.natCast_mul, Int.toNat_of_nonneg (by omega), Int.toNat_of_nonneg (by omega)]
        have hm5 : c.sets.toNat * c.ways.toNat ≤ 64 * 8 := Nat.mul_le_mul (by omega) (by omega)
        repeat (first | rintro _ _ ⟨rfl, rfl⟩ | rintro _ _ ⟨_, rfl, rfl⟩ | rintro _ _ ⟨_, _, rfl, rfl⟩ | rintro _ _ ⟨_, _, _, _, rfl, rfl⟩ | intro _ | refine go ?_ | (refine is_draw ?_; refine WC_draw mixed (by kernel_rfl) ?_) | refine cal @law09_awake ?_ | refine cal @hN ?_)
        rename_i bc b
        apply WC_loopE (E0 := [(2, _), (5, _), (37, _), (38, _)]) (fun E0 (q : Nat × List Way) => (39, .int .i64 q.1) :: E0) (fun q => ArrP b c q.2 :: Cells bc 24 c.cells :: Old W :: F) (fun q => q.1 ≤ l.length ∧ ArrInv c q.2 ∧ q.2.length = c.sets.toNat * c.ways.toNat) (fun q => l.length - q.1) (0, List.replicate (c.sets * c.ways).toNat .zero)
        · (repeat (first | exact Sub.nil | (refine Sub.cons (by first | rfl | (simp only [Nat.zero_add]; rfl)) ?_)))
        · exact ⟨Nat.zero_le _, arr_inv_no _ _, by simp; omega⟩
        · (repeat (first | (with_reducible exact Ent.refl) | exact Ent.nil | (apply ent_pickE; (focus ((repeat (first | (with_reducible exact pk_here) | (apply pk_there))); done))) | apply Ent.drop))
        · rintro ⟨i, n0⟩ ⟨hi, hI0, hn0⟩
          dsimp only at hi hI0 hn0 ⊢
          by_cases hlt : i < l.length
          · have hx := hwf l[i] (List.getElem_mem hlt)
            have hD := fun F => law09_do (F := F) (b := b) (c := c) (l := n0) (x := l[i]) hc hx.2.1
            have hI : ArrInv c (adoL c n0 l[i]) := adoL_inv hI0
            have hnl : (adoL c n0 l[i]).length = c.sets.toNat * c.ways.toNat := by rw [adoL_len, hn0]
            generalize adoL c n0 l[i] = n at *
            generalize adoE c n0 l[i] = e at *
            have hnI : (n.length : Int) = c.sets * c.ways := by omega
            repeat (first | rintro _ _ ⟨rfl, rfl⟩ | rintro _ _ ⟨_, rfl, rfl⟩ | rintro _ _ ⟨_, _, rfl, rfl⟩ | rintro _ _ ⟨_, _, _, _, rfl, rfl⟩ | intro _ | refine go ?_ | (refine is_draw ?_; refine WC_draw mixed (by kernel_rfl) ?_) | refine cal @hD ?_)
            rename_i bx bm
            apply WC_loopE (E0 := [(2, _), (5, _), (9, _), (37, _), (38, _), (39, _)]) (fun E0 (q : Nat × List (Int × Bool)) => (10, .int .i64 q.1) :: E0) (fun q => MapAt bm Value.bool q.2 :: ArrP b c n :: Cells bc 24 c.cells :: Old W :: F) (fun q => q.1 ≤ c.sets.toNat ∧ SeenAt q.2 n c.ways.toNat q.1 c.ways.toNat) (fun q => c.sets.toNat - q.1) (0, [])
            · (repeat (first | exact Sub.nil | (refine Sub.cons (by first | rfl | (simp only [Nat.zero_add]; rfl)) ?_)))
            · exact ⟨Nat.zero_le _, seen_start _ _⟩
            · (repeat (first | (with_reducible exact Ent.refl) | exact Ent.nil | (apply ent_pickE; (focus ((repeat (first | (with_reducible exact pk_here) | (apply pk_there))); done))) | apply Ent.drop))
            · rintro ⟨s, mp⟩ ⟨hs, hSeen⟩
              dsimp only at hs hSeen ⊢
              by_cases hslt : s < c.sets.toNat
              · have hsi : (s : Int) < c.sets := by omega
                repeat (first | rintro _ _ ⟨rfl, rfl⟩ | rintro _ _ ⟨_, rfl, rfl⟩ | rintro _ _ ⟨_, _, rfl, rfl⟩ | rintro _ _ ⟨_, _, _, _, rfl, rfl⟩ | intro _ | refine go ?_ | (refine is_draw ?_; refine WC_draw mixed (by kernel_rfl) ?_))
                apply WC_loopE (E0 := [(2, _), (5, _), (9, _), (10, _), (37, _), (38, _), (39, _)]) (fun E0 (q : Nat × Int × List (Int × Bool)) => (12, .int .i64 ((q.1 : Int) - 1)) :: (11, .int .i64 q.2.1) :: E0) (fun q => MapAt bm Value.bool q.2.2 :: ArrP b c n :: Cells bc 24 c.cells :: Old W :: F)
                  (fun q => q.1 ≤ c.ways.toNat ∧ SeenAt q.2.2 n c.ways.toNat s q.1 ∧ FreeAt q.2.1 n c.ways.toNat s q.1) (fun q => q.1) (c.ways.toNat, -1, mp)
                · dsimp only; rw [Int.toNat_of_nonneg (by omega : 0 ≤ c.ways)]; (repeat (first | exact Sub.nil | (refine Sub.cons (by first | rfl | (simp only [Nat.zero_add]; rfl)) ?_)))
                · exact ⟨Nat.le_refl _, hSeen, free_start _ _ _⟩
                · (repeat (first | (with_reducible exact Ent.refl) | exact Ent.nil | (apply ent_pickE; (focus ((repeat (first | (with_reducible exact pk_here) | (apply pk_there))); done))) | apply Ent.drop))
                · rintro ⟨j, fr, mq⟩ ⟨hj, hSe, hFr⟩
                  dsimp only at hj hSe hFr ⊢
                  cases j with
                  | zero =>
                    have hSe2 := seen_next hSe
                    by_cases hsl : (s : Int) < c.lines
                    · have hf := free_end he hnI hsi hsl hFr
                      have hFree := fun F => arr_Free (F := F) (b := b) (c := c) (l := n) (line := s) hc (by simp [I64]; omega)
                      rw [hf] at hFree
                      repeat (first | rintro _ _ ⟨rfl, rfl⟩ | rintro _ _ ⟨_, rfl, rfl⟩ | rintro _ _ ⟨_, _, rfl, rfl⟩ | rintro _ _ ⟨_, _, _, _, rfl, rfl⟩ | intro _ | refine go ?_ | (refine is_draw ?_; refine WC_draw mixed (by kernel_rfl) ?_) | refine cal @hFree ?_)
                      refine WE_loop (s + 1, mq) (by dsimp only; omega) ⟨by dsimp only; omega, hSe2⟩ ?_ ?_
                      · (repeat (first | exact Sub.nil | (refine Sub.cons (by first | rfl | (simp only [Nat.zero_add]; rfl)) ?_)))
                      · (repeat (first | (with_reducible exact Ent.refl) | exact Ent.nil | (apply ent_pickE; (focus ((repeat (first | (with_reducible exact pk_here) | (apply pk_there))); done))) | apply Ent.drop))
                    · repeat (first | rintro _ _ ⟨rfl, rfl⟩ | rintro _ _ ⟨_, rfl, rfl⟩ | rintro _ _ ⟨_, _, rfl, rfl⟩ | rintro _ _ ⟨_, _, _, _, rfl, rfl⟩ | intro _ | refine go ?_ | (refine is_draw ?_; refine WC_draw mixed (by kernel_rfl) ?_))
                      refine WE_loop (s + 1, mq) (by dsimp only; omega) ⟨by dsimp only; omega, hSe2⟩ ?_ ?_
                      · (repeat (first | exact Sub.nil | (refine Sub.cons (by first | rfl | (simp only [Nat.zero_add]; rfl)) ?_)))
                      · (repeat (first | (with_reducible exact Ent.refl) | exact Ent.nil | (apply ent_pickE; (focus ((repeat (first | (with_reducible exact pk_here) | (apply pk_there))); done))) | apply Ent.drop))
                  | succ m =>
                    have hmw : m < c.ways.toNat := by omega
                    obtain ⟨hpl, hat, hin⟩ := at_at he hnI hsi hmw
                    have em : ((m + 1 : Nat) : Int) - 1 = (m : Int) := by omega
                    simp only [em]
                    have hA := fun F => arr_At (F := F) (b := b) (c := c) (l := n) (s := (s : Int)) (k := (m : Int))
                    rw [hat, hin] at hA
                    cases ht : thereB n[s * c.ways.toNat + m] with
                    | false =>
                      have hSe2 := seen_skip hmw hpl hSe ht
                      have hFr2 := free_yes hmw hpl hFr ht
                      have ht2 : n[s * c.ways.toNat + m].st = 0 ∧ n[s * c.ways.toNat + m].lk = false := by simpa [thereB] using ht
                      obtain ⟨ht3, ht4⟩ := ht2
                      generalize n[s * c.ways.toNat + m] = w at *
                      repeat (first | rintro _ _ ⟨rfl, rfl⟩ | rintro _ _ ⟨_, rfl, rfl⟩ | rintro _ _ ⟨_, _, rfl, rfl⟩ | rintro _ _ ⟨_, _, _, _, rfl, rfl⟩ | intro _ | refine go ?_ | (refine is_draw ?_; refine WC_draw mixed (by kernel_rfl) ?_) | refine cal @hA ?_)
                      refine WE_loop (m, (m : Int), mq) (by dsimp only; omega) ⟨by dsimp only; omega, hSe2, hFr2⟩ ?_ ?_
                      · (repeat (first | exact Sub.nil | (refine Sub.cons (by first | rfl | (simp only [Nat.zero_add]; rfl)) ?_)))
                      · (repeat (first | (with_reducible exact Ent.refl) | exact Ent.nil | (apply ent_pickE; (focus ((repeat (first | (with_reducible exact pk_here) | (apply pk_there))); done))) | apply Ent.drop))
                    | true =>
                      obtain ⟨hn0, hSe2⟩ := seen_new hI hmw hpl hSe ht
                      have hFr2 := free_no hmw hpl hFr ht
                      obtain ⟨hp1, hp2, hp3⟩ := once_at hI he hnI hsi hmw hpl ht
                      obtain ⟨hf1, hf2⟩ := find_is hp1
                      have hok := (hI _ hpl ht).1
                      have hli : I64 n[s * c.ways.toNat + m].line := by have := (okLine_iff he).1 hok; simp [I64]; omega
                      have hF := fun F => arr_Find (F := F) (b := b) (c := c) (l := n) (line := n[s * c.ways.toNat + m].line) hc hli
                      rw [hf1, hf2, hp2] at hF
                      have hg : (mget mq n[s * c.ways.toNat + m].line).getD false = false := by rw [hn0]; rfl
                      generalize n[s * c.ways.toNat + m] = w at *
                      by_cases g1 : w.st = 0
                      · have g2 : w.lk = true := by simpa [thereB, g1] using ht
                        repeat (first | rintro _ _ ⟨rfl, rfl⟩ | rintro _ _ ⟨_, rfl, rfl⟩ | rintro _ _ ⟨_, _, rfl, rfl⟩ | rintro _ _ ⟨_, _, _, _, rfl, rfl⟩ | intro _ | refine go ?_ | (refine is_draw ?_; refine WC_draw mixed (by kernel_rfl) ?_) | refine cal @hA ?_ | refine cal @hF ?_)
                        refine WE_loop (m, fr, mset mq w.line true) (by dsimp only; omega) ⟨by dsimp only; omega, hSe2, hFr2⟩ ?_ ?_
                        · (repeat (first | exact Sub.nil | (refine Sub.cons (by first | rfl | (simp only [Nat.zero_add]; rfl)) ?_)))
                        · (repeat (first | (with_reducible exact Ent.refl) | exact Ent.nil | (apply ent_pickE; (focus ((repeat (first | (with_reducible exact pk_here) | (apply pk_there))); done))) | apply Ent.drop))
                      · repeat (first | rintro _ _ ⟨rfl, rfl⟩ | rintro _ _ ⟨_, rfl, rfl⟩ | rintro _ _ ⟨_, _, rfl, rfl⟩ | rintro _ _ ⟨_, _, _, _, rfl, rfl⟩ | intro _ | refine go ?_ | (refine is_draw ?_; refine WC_draw mixed (by kernel_rfl) ?_) | refine cal @hA ?_ | refine cal @hF ?_)
                        refine WE_loop (m, fr, mset mq w.line true) (by dsimp only; omega) ⟨by dsimp only; omega, hSe2, hFr2⟩ ?_ ?_
                        · (repeat (first | exact Sub.nil | (refine Sub.cons (by first | rfl | (simp only [Nat.zero_add]; rfl)) ?_)))
                        · (repeat (first | (with_reducible exact Ent.refl) | exact Ent.nil | (apply ent_pickE; (focus ((repeat (first | (with_reducible exact pk_here) | (apply pk_there))); done))) | apply Ent.drop))
              · have hse : s = c.sets.toNat := by omega
                subst hse
                have hLn := fun F => arr_Lines (F := F) (b := b) (c := c) (l := n)
                repeat (first | rintro _ _ ⟨rfl, rfl⟩ | rintro _ _ ⟨_, rfl, rfl⟩ | rintro _ _ ⟨_, _, rfl, rfl⟩ | rintro _ _ ⟨_, _, _, _, rfl, rfl⟩ | intro _ | refine go ?_)
                (first | refine WO_front (MapAt bm Value.bool mp) ?_ | refine WC_front (MapAt bm Value.bool mp) ?_ | refine WE_front (MapAt bm Value.bool mp) ?_)
                refine WO_mapnd fun hnd => ?_
                have hlen := seen_len hI hnd hnl hSeen
                have hul : (linesW n).length ≤ n.length := by
                  have h1 : (linesW n).length = (linesU n).length := by simp [linesW, srt]
                  have := linesU_len n
                  omega
                repeat (first | rintro _ _ ⟨rfl, rfl⟩ | rintro _ _ ⟨_, rfl, rfl⟩ | rintro _ _ ⟨_, _, rfl, rfl⟩ | rintro _ _ ⟨_, _, _, _, rfl, rfl⟩ | intro _ | refine go ?_ | (refine is_draw ?_; refine WC_draw mixed (by kernel_rfl) ?_) | refine cal @hLn ?_)
                refine WE_loop (i + 1, n) (by dsimp only; omega) ⟨by dsimp only; omega, hI, hnl⟩ ?_ ?_
                · (repeat (first | exact Sub.nil | (refine Sub.cons (by first | rfl | (simp only [Nat.zero_add]; rfl)) ?_)))
                · (repeat (first | (with_reducible exact Ent.refl) | exact Ent.nil | (apply ent_pickE; (focus ((repeat (first | (with_reducible exact pk_here) | (apply pk_there))); done))) | apply Ent.drop))
          · have hil : i = l.length := by omega
            subst hil
            repeat (first | rintro _ _ ⟨rfl, rfl⟩ | rintro _ _ ⟨_, rfl, rfl⟩ | rintro _ _ ⟨_, _, rfl, rfl⟩ | rintro _ _ ⟨_, _, _, _, rfl, rfl⟩ | intro _ | refine go ?_ | (refine is_draw ?_; refine WC_draw mixed (by kernel_rfl) ?_))
            (apply WE_ret rfl rfl (by (repeat (first | exact ResOk.nil | (apply ResOk.tmp; rfl) | (apply resOk_cell; rfl; exact inferInstance; rfl; rfl)))); (first | exact ⟨rfl, rfl⟩ | exact ⟨congrArg Value.bool (by decide), rfl⟩ | exact ⟨_, rfl, rfl⟩ | exact ⟨_, _, rfl, rfl⟩ | exact ⟨by first | (simp []; done) | (simp [] <;> omega), rfl⟩); (repeat (first | exact Ent.refl | exact Ent.nil | apply Ent.pick | apply Ent.drop)))
end Go.Sx
