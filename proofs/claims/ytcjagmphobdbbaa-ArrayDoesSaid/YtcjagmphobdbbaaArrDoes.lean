/- The law of arrays of ways: operation by operation. My own work. -/
import Derived.Test.YtcjagmphobdbbaaArrLaw
namespace Go.Sx
open Go Go.Proofs
set_option linter.unusedVariables false
set_option linter.unusedSectionVars false
set_option linter.unusedSimpArgs false
theorem linesW_len (l : List Way) : (linesW l).length ≤ l.length := by
  have h1 : (linesW l).length = (linesU l).length := by simp [linesW, srt]
  have := linesU_len l
  omega
theorem check_sw {c : Cfg} (hc : checkB c = true) : (((c.sets * c.ways).toNat : Nat) : Int) = c.sets * c.ways ∧ (c.sets * c.ways).toNat ≤ 512 := by
  obtain ⟨_, _, ⟨k, hk, e⟩, _, _, h1, h2⟩ := check_facts hc
  have hb := pow_bd hk
  have h3 : 1 ≤ c.sets ∧ c.sets ≤ 64 := by rw [e]; exact ⟨hb.1, by have := hb.2; simpa using this⟩
  have hz : c.sets * c.ways = ((c.sets.toNat * c.ways.toNat : Nat) : Int) := by rw [Int.natCast_mul, Int.toNat_of_nonneg (by omega), Int.toNat_of_nonneg (by omega)]
  have hm : c.sets.toNat * c.ways.toNat ≤ 64 * 8 := Nat.mul_le_mul (by omega) (by omega)
  omega
theorem tmod5 (i : Nat) : 0 ≤ (i : Int).tmod 5 ∧ (i : Int).tmod 5 < 5 := by
  rw [tmod_nn (by omega)]; omega
theorem at_z {c : Cfg} {l : List Way} {s n : Int} (hc : checkB c = true) (hn : (l.length : Int) = c.sets * c.ways) (a0 : 0 ≤ s) (a1 : s < c.sets) (a2 : 0 ≤ n) (a3 : n < c.ways) :
    ∃ z : Nat, ∃ hz : z < l.length, s * c.ways + n = (z : Int) ∧ atW c l s n = l[z] := by
  obtain ⟨en, h4, h5, h6, h7, h8⟩ := arr_nums hc hn
  have hr := set_room (s := s.toNat) (W := c.ways.toNat) (S := c.sets.toNat) (by omega)
  have hz : s * c.ways = ((s.toNat * c.ways.toNat : Nat) : Int) := by rw [Int.natCast_mul, Int.toNat_of_nonneg a0, Int.toNat_of_nonneg (by omega)]
  refine ⟨s.toNat * c.ways.toNat + n.toNat, by omega, by omega, ?_⟩
  unfold atW
  rw [if_pos (by simp [inWay, a0, a1, a2, a3])]
  exact (getD_at (by omega)).symm
set_option maxRecDepth 100000
set_option maxHeartbeats 4000000
attribute [local irreducible] Go.Exit.then Go.Exit.inBlock Go.Code.wp WC WO WE WQ V LoopQ FnQ Sat Star band bor IntKind.wrap WR Code.rounds WT KO
theorem law09_Does {W : World} {F : List HP} {c : Cfg} {v : Value} {l : List AOp} {line : Int} (hc : c.wf) (hli : I64 line) (hl : l.length ≤ 9223372036854775807) (k : ROld W 11 v l.length (flat aoc l)) (hwf : ∀ x ∈ l, AOp.wf x) :
    FnF Try.prog 8 [c.val, v, .int .i64 line] [Old W] F (fun r L' => r = .bool true ∧ L' = [Old W]) := by
  refine FnF.mk' Try.func8 rfl rfl Try.ntmps8 rfl ?_
  by_cases hm : 60 < l.length
  · repeat (first | rintro _ _ ⟨rfl, rfl⟩ | rintro _ _ ⟨_, rfl, rfl⟩ | rintro _ _ ⟨_, _, rfl, rfl⟩ | rintro _ _ ⟨_, _, _, _, rfl, rfl⟩ | intro _ | refine go ?_ | (refine is_draw ?_; refine WC_draw mixed (by kernel_rfl) ?_) | refine cal @law09_awake ?_)
    (apply WE_ret rfl rfl (by (repeat (first | exact ResOk.nil | (apply ResOk.tmp; rfl) | (apply resOk_cell; rfl; exact inferInstance; rfl; rfl)))); (first | exact ⟨rfl, rfl⟩ | exact ⟨congrArg Value.bool (by decide), rfl⟩ | exact ⟨_, rfl, rfl⟩ | exact ⟨_, _, rfl, rfl⟩ | exact ⟨by first | (simp []; done) | (simp [] <;> omega), rfl⟩); (repeat (first | exact Ent.refl | exact Ent.nil | apply Ent.pick | apply Ent.drop)))
  · by_cases h64 : 64 < c.lines ∧ c.lines ≤ 1024
    · obtain ⟨h64, h65⟩ := h64
      repeat (first | rintro _ _ ⟨rfl, rfl⟩ | rintro _ _ ⟨_, rfl, rfl⟩ | rintro _ _ ⟨_, _, rfl, rfl⟩ | rintro _ _ ⟨_, _, _, _, rfl, rfl⟩ | intro _ | refine go ?_ | (refine is_draw ?_; refine WC_draw mixed (by kernel_rfl) ?_) | refine cal @law09_awake ?_)
      (apply WE_ret rfl rfl (by (repeat (first | exact ResOk.nil | (apply ResOk.tmp; rfl) | (apply resOk_cell; rfl; exact inferInstance; rfl; rfl)))); (first | exact ⟨rfl, rfl⟩ | exact ⟨congrArg Value.bool (by decide), rfl⟩ | exact ⟨_, rfl, rfl⟩ | exact ⟨_, _, rfl, rfl⟩ | exact ⟨by first | (simp []; done) | (simp [] <;> omega), rfl⟩); (repeat (first | exact Ent.refl | exact Ent.nil | apply Ent.pick | apply Ent.drop)))
    · cases he : checkB c with
      | false =>
        have hN := fun F => arr_New_no (F := F) hc he
        have hR := fun F => ref09_New_no (F := F) hc he
        by_cases h65 : 64 < c.lines
        · repeat (first | rintro _ _ ⟨rfl, rfl⟩ | rintro _ _ ⟨_, rfl, rfl⟩ | rintro _ _ ⟨_, _, rfl, rfl⟩ | rintro _ _ ⟨_, _, _, _, rfl, rfl⟩ | intro _ | refine go ?_ | (refine is_draw ?_; refine WC_draw mixed (by kernel_rfl) ?_) | refine cal @law09_awake ?_ | refine cal @hN ?_ | refine cal @hR ?_)
          refine WC_rounds 1 ?_
          repeat (first | rintro _ _ ⟨rfl, rfl⟩ | rintro _ _ ⟨_, rfl, rfl⟩ | rintro _ _ ⟨_, _, rfl, rfl⟩ | rintro _ _ ⟨_, _, _, _, rfl, rfl⟩ | intro _ | refine go ?_ | (refine is_draw ?_; refine WC_draw mixed (by kernel_rfl) ?_))
          (apply WE_ret rfl rfl (by (repeat (first | exact ResOk.nil | (apply ResOk.tmp; rfl) | (apply resOk_cell; rfl; exact inferInstance; rfl; rfl)))); (first | exact ⟨rfl, rfl⟩ | exact ⟨congrArg Value.bool (by decide), rfl⟩ | exact ⟨_, rfl, rfl⟩ | exact ⟨_, _, rfl, rfl⟩ | exact ⟨by first | (simp []; done) | (simp [] <;> omega), rfl⟩); (repeat (first | exact Ent.refl | exact Ent.nil | apply Ent.pick | apply Ent.drop)))
        · repeat (first | rintro _ _ ⟨rfl, rfl⟩ | rintro _ _ ⟨_, rfl, rfl⟩ | rintro _ _ ⟨_, _, rfl, rfl⟩ | rintro _ _ ⟨_, _, _, _, rfl, rfl⟩ | intro _ | refine go ?_ | (refine is_draw ?_; refine WC_draw mixed (by kernel_rfl) ?_) | refine cal @law09_awake ?_ | refine cal @hN ?_ | refine cal @hR ?_)
          refine WC_rounds 1 ?_
          repeat (first | rintro _ _ ⟨rfl, rfl⟩ | rintro _ _ ⟨_, rfl, rfl⟩ | rintro _ _ ⟨_, _, rfl, rfl⟩ | rintro _ _ ⟨_, _, _, _, rfl, rfl⟩ | intro _ | refine go ?_ | (refine is_draw ?_; refine WC_draw mixed (by kernel_rfl) ?_))
          (apply WE_ret rfl rfl (by (repeat (first | exact ResOk.nil | (apply ResOk.tmp; rfl) | (apply resOk_cell; rfl; exact inferInstance; rfl; rfl)))); (first | exact ⟨rfl, rfl⟩ | exact ⟨congrArg Value.bool (by decide), rfl⟩ | exact ⟨_, rfl, rfl⟩ | exact ⟨_, _, rfl, rfl⟩ | exact ⟨by first | (simp []; done) | (simp [] <;> omega), rfl⟩); (repeat (first | exact Ent.refl | exact Ent.nil | apply Ent.pick | apply Ent.drop)))
      | true =>
        have hN := fun F => arr_New (F := F) hc he
        have hR := fun F => ref09_New (F := F) hc he
        have h65 : ¬ 64 < c.lines := by
          obtain ⟨_, _, _, _, ⟨k, hk, ek⟩, _⟩ := check_facts he
          have hbk := pow_bd hk
          have : c.lines ≤ 1024 := by rw [ek]; have := hbk.2; simpa using this
          omega
        obtain ⟨hsw, hs5⟩ := check_sw he
        repeat (first | rintro _ _ ⟨rfl, rfl⟩ | rintro _ _ ⟨_, rfl, rfl⟩ | rintro _ _ ⟨_, _, rfl, rfl⟩ | rintro _ _ ⟨_, _, _, _, rfl, rfl⟩ | intro _ | refine go ?_ | (refine is_draw ?_; refine WC_draw mixed (by kernel_rfl) ?_) | refine cal @law09_awake ?_ | refine cal @hN ?_ | refine cal @hR ?_)
        rename_i bc b br
        apply WC_loopE (E0 := [(1, _), (2, _), (3, _), (7, _), (9, _)]) (fun E0 (q : Nat × List Way) => (11, .int .i64 q.1) :: E0) (fun q => ArrP b c q.2 :: ArrRP br c q.2 :: Cells bc 24 c.cells :: Old W :: F) (fun q => q.1 ≤ l.length ∧ q.2.length = (c.sets * c.ways).toNat) (fun q => l.length - q.1) (0, List.replicate (c.sets * c.ways).toNat .zero)
        · (repeat (first | exact Sub.nil | (refine Sub.cons (by first | rfl | (simp only [Nat.zero_add]; rfl)) ?_)))
        · exact ⟨Nat.zero_le _, by simp⟩
        · (repeat (first | (with_reducible exact Ent.refl) | exact Ent.nil | (apply ent_pickE; (focus ((repeat (first | (with_reducible exact pk_here) | (apply pk_there))); done))) | apply Ent.drop))
        · rintro ⟨i, n⟩ ⟨hi, hnl⟩
          dsimp only at hi hnl ⊢
          by_cases hlt : i < l.length
          · have hx := hwf l[i] (List.getElem_mem hlt)
            have hD := fun F => law09_do (F := F) (b := b) (c := c) (l := n) (x := l[i]) hc hx.2.1
            have hlen : (adoL c n l[i]).length = (c.sets * c.ways).toNat := by rw [adoL_len, hnl]
            have h5 := tmod5 i
            by_cases h0 : l[i].d = 0
            · have hRd := fun F => ref09_Lay (F := F) (b := br) (c := c) (l := n) (line := l[i].line) (way := l[i].n)
              have e1 : layE c n l[i].line l[i].n = adoE c n l[i] := (if_pos h0).symm
              have e2 : layL c n l[i].line l[i].n = adoL c n l[i] := (if_pos h0).symm
              rw [e1, e2] at hRd
              generalize adoL c n l[i] = n2 at *
              generalize adoE c n l[i] = er at *
              have hFi := fun F => arr_Find (F := F) (b := b) (c := c) (l := n2) (line := line) hc hli
              have hFr := fun F => arr_Free (F := F) (b := b) (c := c) (l := n2) (line := line) hc hli
              have hlw := linesW_len n2
              have hSm := fun F v u (k1 : RdL F 1 v (linesW n2).length (flat ic (linesW n2))) (k2 : RdL F 1 u (linesW n2).length (flat ic (linesW n2))) => @ref02_Same F v u (linesW n2) (linesW n2) k1 k2 (by omega)
              simp only [decide_true] at hSm
              repeat (first | rintro _ _ ⟨rfl, rfl⟩ | rintro _ _ ⟨_, rfl, rfl⟩ | rintro _ _ ⟨_, _, rfl, rfl⟩ | rintro _ _ ⟨_, _, _, _, rfl, rfl⟩ | intro _ | refine go ?_ | (refine is_draw ?_; refine WC_draw mixed (by kernel_rfl) ?_) | refine cal @hD ?_ | refine cal @hRd ?_ | refine cal @hFi ?_ | refine cal @ref09_Find ?_ | refine cal @hFr ?_ | refine cal @ref09_Free ?_ | refine cal @arr_Lines ?_ | refine cal @ref09_Lines ?_ | refine cal @hSm ?_ | refine cal @arr_At ?_)
              (first | refine WO_front (ArrRP br c n2) ?_ | refine WC_front (ArrRP br c n2) ?_ | refine WE_front (ArrRP br c n2) ?_)
              refine arrr_openO fun g ⟨_, hn3, hI3⟩ => ?_
              haveI kr := rd_arr (g := g) (T := 100) (l := n2)
              obtain ⟨en, h4, h5', h6, h7, h8⟩ := arr_nums he hn3
              have hpos : 0 < n2.length := by rw [en]; exact Nat.mul_pos (by omega) (by omega)
              (first | (refine WO_some (wsl g (0 * 11) n2.length n2.length) inferInstance (by omega) ?_; intro _) | (refine WC_some (wsl g (0 * 11) n2.length n2.length) inferInstance (by omega) ?_; intro _))
              by_cases a0 : 0 ≤ (i : Int).tmod 5 - 1
              · by_cases a1 : (i : Int).tmod 5 - 1 < c.sets
                · by_cases a2 : 0 ≤ l[i].n
                  · by_cases a3 : l[i].n < c.ways
                    · have hin : inWay c ((i : Int).tmod 5 - 1) l[i].n = true := decide_eq_true ⟨a0, a1, a2, a3⟩
                      obtain ⟨z, hz, ez, hat⟩ := at_z he hn3 a0 a1 a2 a3
                      have ez2 : (((i : Int).tmod 5 - 1) * c.ways + l[i].n).toNat = z := by rw [ez]; rfl
                      simp only [hin, hat]
                      repeat (first | rintro _ _ ⟨rfl, rfl⟩ | rintro _ _ ⟨_, rfl, rfl⟩ | rintro _ _ ⟨_, _, rfl, rfl⟩ | rintro _ _ ⟨_, _, _, _, rfl, rfl⟩ | intro _ | refine go ?_ | (refine is_draw ?_; refine WC_draw mixed (by kernel_rfl) ?_))
                      simp only [ez2, ne_eq, not_true_eq_false, decide_false]
                      repeat (first | rintro _ _ ⟨rfl, rfl⟩ | rintro _ _ ⟨_, rfl, rfl⟩ | rintro _ _ ⟨_, _, rfl, rfl⟩ | rintro _ _ ⟨_, _, _, _, rfl, rfl⟩ | intro _ | refine go ?_ | (refine is_draw ?_; refine WC_draw mixed (by kernel_rfl) ?_))
                      refine WE_loop (i + 1, n2) (by dsimp only; omega) ⟨by dsimp only; omega, hlen⟩ ?_ ?_
                      · (repeat (first | exact Sub.nil | (refine Sub.cons (by first | rfl | (simp only [Nat.zero_add]; rfl)) ?_)))
                      · ((repeat (first | (with_reducible exact Ent.refl) | exact Ent.nil | (apply ent_pickE; (focus ((repeat (first | (with_reducible exact pk_here) | (apply pk_there))); done))) | (apply arrr_in) | apply Ent.drop)); all_goals (first | rfl | (with_reducible assumption) | (simp; done) | (simp; omega) | omega | (constructor <;> (simp) <;> omega)))
                    · have hin : inWay c ((i : Int).tmod 5 - 1) l[i].n = false := decide_eq_false (fun h => a3 h.2.2.2)
                      have hat : atW c n2 ((i : Int).tmod 5 - 1) l[i].n = .zero := by unfold atW; rw [hin]; rfl
                      simp only [hin, hat]
                      repeat (first | rintro _ _ ⟨rfl, rfl⟩ | rintro _ _ ⟨_, rfl, rfl⟩ | rintro _ _ ⟨_, _, rfl, rfl⟩ | rintro _ _ ⟨_, _, _, _, rfl, rfl⟩ | intro _ | refine go ?_ | (refine is_draw ?_; refine WC_draw mixed (by kernel_rfl) ?_))
                      refine WE_loop (i + 1, n2) (by dsimp only; omega) ⟨by dsimp only; omega, hlen⟩ ?_ ?_
                      · (repeat (first | exact Sub.nil | (refine Sub.cons (by first | rfl | (simp only [Nat.zero_add]; rfl)) ?_)))
                      · ((repeat (first | (with_reducible exact Ent.refl) | exact Ent.nil | (apply ent_pickE; (focus ((repeat (first | (with_reducible exact pk_here) | (apply pk_there))); done))) | (apply arrr_in) | apply Ent.drop)); all_goals (first | rfl | (with_reducible assumption) | (simp; done) | (simp; omega) | omega | (constructor <;> (simp) <;> omega)))
                  · have hin : inWay c ((i : Int).tmod 5 - 1) l[i].n = false := decide_eq_false (fun h => a2 h.2.2.1)
                    have hat : atW c n2 ((i : Int).tmod 5 - 1) l[i].n = .zero := by unfold atW; rw [hin]; rfl
                    simp only [hin, hat]
                    repeat (first | rintro _ _ ⟨rfl, rfl⟩ | rintro _ _ ⟨_, rfl, rfl⟩ | rintro _ _ ⟨_, _, rfl, rfl⟩ | rintro _ _ ⟨_, _, _, _, rfl, rfl⟩ | intro _ | refine go ?_ | (refine is_draw ?_; refine WC_draw mixed (by kernel_rfl) ?_))
                    refine WE_loop (i + 1, n2) (by dsimp only; omega) ⟨by dsimp only; omega, hlen⟩ ?_ ?_
                    · (repeat (first | exact Sub.nil | (refine Sub.cons (by first | rfl | (simp only [Nat.zero_add]; rfl)) ?_)))
                    · ((repeat (first | (with_reducible exact Ent.refl) | exact Ent.nil | (apply ent_pickE; (focus ((repeat (first | (with_reducible exact pk_here) | (apply pk_there))); done))) | (apply arrr_in) | apply Ent.drop)); all_goals (first | rfl | (with_reducible assumption) | (simp; done) | (simp; omega) | omega | (constructor <;> (simp) <;> omega)))
                · have hin : inWay c ((i : Int).tmod 5 - 1) l[i].n = false := decide_eq_false (fun h => a1 h.2.1)
                  have hat : atW c n2 ((i : Int).tmod 5 - 1) l[i].n = .zero := by unfold atW; rw [hin]; rfl
                  simp only [hin, hat]
                  repeat (first | rintro _ _ ⟨rfl, rfl⟩ | rintro _ _ ⟨_, rfl, rfl⟩ | rintro _ _ ⟨_, _, rfl, rfl⟩ | rintro _ _ ⟨_, _, _, _, rfl, rfl⟩ | intro _ | refine go ?_ | (refine is_draw ?_; refine WC_draw mixed (by kernel_rfl) ?_))
                  refine WE_loop (i + 1, n2) (by dsimp only; omega) ⟨by dsimp only; omega, hlen⟩ ?_ ?_
                  · (repeat (first | exact Sub.nil | (refine Sub.cons (by first | rfl | (simp only [Nat.zero_add]; rfl)) ?_)))
                  · ((repeat (first | (with_reducible exact Ent.refl) | exact Ent.nil | (apply ent_pickE; (focus ((repeat (first | (with_reducible exact pk_here) | (apply pk_there))); done))) | (apply arrr_in) | apply Ent.drop)); all_goals (first | rfl | (with_reducible assumption) | (simp; done) | (simp; omega) | omega | (constructor <;> (simp) <;> omega)))
              · have hin : inWay c ((i : Int).tmod 5 - 1) l[i].n = false := decide_eq_false (fun h => a0 h.1)
                have hat : atW c n2 ((i : Int).tmod 5 - 1) l[i].n = .zero := by unfold atW; rw [hin]; rfl
                simp only [hin, hat]
                repeat (first | rintro _ _ ⟨rfl, rfl⟩ | rintro _ _ ⟨_, rfl, rfl⟩ | rintro _ _ ⟨_, _, rfl, rfl⟩ | rintro _ _ ⟨_, _, _, _, rfl, rfl⟩ | intro _ | refine go ?_ | (refine is_draw ?_; refine WC_draw mixed (by kernel_rfl) ?_))
                refine WE_loop (i + 1, n2) (by dsimp only; omega) ⟨by dsimp only; omega, hlen⟩ ?_ ?_
                · (repeat (first | exact Sub.nil | (refine Sub.cons (by first | rfl | (simp only [Nat.zero_add]; rfl)) ?_)))
                · ((repeat (first | (with_reducible exact Ent.refl) | exact Ent.nil | (apply ent_pickE; (focus ((repeat (first | (with_reducible exact pk_here) | (apply pk_there))); done))) | (apply arrr_in) | apply Ent.drop)); all_goals (first | rfl | (with_reducible assumption) | (simp; done) | (simp; omega) | omega | (constructor <;> (simp) <;> omega)))
            · by_cases h1 : l[i].d = 1
              · have hRd := fun F => ref09_Set (F := F) (b := br) (c := c) (l := n) (line := l[i].line) (st := l[i].n) (w := l[i].words)
                have e1 : setE c n l[i].line l[i].n l[i].words = adoE c n l[i] := by unfold adoE; rw [if_neg h0, if_pos h1]
                have e2 : setL c n l[i].line l[i].n l[i].words = adoL c n l[i] := by unfold adoL; rw [if_neg h0, if_pos h1]
                rw [e1, e2] at hRd
                generalize adoL c n l[i] = n2 at *
                generalize adoE c n l[i] = er at *
                have hFi := fun F => arr_Find (F := F) (b := b) (c := c) (l := n2) (line := line) hc hli
                have hFr := fun F => arr_Free (F := F) (b := b) (c := c) (l := n2) (line := line) hc hli
                have hlw := linesW_len n2
                have hSm := fun F v u (k1 : RdL F 1 v (linesW n2).length (flat ic (linesW n2))) (k2 : RdL F 1 u (linesW n2).length (flat ic (linesW n2))) => @ref02_Same F v u (linesW n2) (linesW n2) k1 k2 (by omega)
                simp only [decide_true] at hSm
                repeat (first | rintro _ _ ⟨rfl, rfl⟩ | rintro _ _ ⟨_, rfl, rfl⟩ | rintro _ _ ⟨_, _, rfl, rfl⟩ | rintro _ _ ⟨_, _, _, _, rfl, rfl⟩ | intro _ | refine go ?_ | (refine is_draw ?_; refine WC_draw mixed (by kernel_rfl) ?_) | refine cal @hD ?_ | refine cal @hRd ?_ | refine cal @hFi ?_ | refine cal @ref09_Find ?_ | refine cal @hFr ?_ | refine cal @ref09_Free ?_ | refine cal @arr_Lines ?_ | refine cal @ref09_Lines ?_ | refine cal @hSm ?_ | refine cal @arr_At ?_)
                (first | refine WO_front (ArrRP br c n2) ?_ | refine WC_front (ArrRP br c n2) ?_ | refine WE_front (ArrRP br c n2) ?_)
                refine arrr_openO fun g ⟨_, hn3, hI3⟩ => ?_
                haveI kr := rd_arr (g := g) (T := 100) (l := n2)
                obtain ⟨en, h4, h5', h6, h7, h8⟩ := arr_nums he hn3
                have hpos : 0 < n2.length := by rw [en]; exact Nat.mul_pos (by omega) (by omega)
                (first | (refine WO_some (wsl g (0 * 11) n2.length n2.length) inferInstance (by omega) ?_; intro _) | (refine WC_some (wsl g (0 * 11) n2.length n2.length) inferInstance (by omega) ?_; intro _))
                by_cases a0 : 0 ≤ (i : Int).tmod 5 - 1
                · by_cases a1 : (i : Int).tmod 5 - 1 < c.sets
                  · by_cases a2 : 0 ≤ l[i].n
                    · by_cases a3 : l[i].n < c.ways
                      · have hin : inWay c ((i : Int).tmod 5 - 1) l[i].n = true := decide_eq_true ⟨a0, a1, a2, a3⟩
                        obtain ⟨z, hz, ez, hat⟩ := at_z he hn3 a0 a1 a2 a3
                        have ez2 : (((i : Int).tmod 5 - 1) * c.ways + l[i].n).toNat = z := by rw [ez]; rfl
                        simp only [hin, hat]
                        repeat (first | rintro _ _ ⟨rfl, rfl⟩ | rintro _ _ ⟨_, rfl, rfl⟩ | rintro _ _ ⟨_, _, rfl, rfl⟩ | rintro _ _ ⟨_, _, _, _, rfl, rfl⟩ | intro _ | refine go ?_ | (refine is_draw ?_; refine WC_draw mixed (by kernel_rfl) ?_))
                        simp only [ez2, ne_eq, not_true_eq_false, decide_false]
                        repeat (first | rintro _ _ ⟨rfl, rfl⟩ | rintro _ _ ⟨_, rfl, rfl⟩ | rintro _ _ ⟨_, _, rfl, rfl⟩ | rintro _ _ ⟨_, _, _, _, rfl, rfl⟩ | intro _ | refine go ?_ | (refine is_draw ?_; refine WC_draw mixed (by kernel_rfl) ?_))
                        refine WE_loop (i + 1, n2) (by dsimp only; omega) ⟨by dsimp only; omega, hlen⟩ ?_ ?_
                        · (repeat (first | exact Sub.nil | (refine Sub.cons (by first | rfl | (simp only [Nat.zero_add]; rfl)) ?_)))
                        · ((repeat (first | (with_reducible exact Ent.refl) | exact Ent.nil | (apply ent_pickE; (focus ((repeat (first | (with_reducible exact pk_here) | (apply pk_there))); done))) | (apply arrr_in) | apply Ent.drop)); all_goals (first | rfl | (with_reducible assumption) | (simp; done) | (simp; omega) | omega | (constructor <;> (simp) <;> omega)))
                      · have hin : inWay c ((i : Int).tmod 5 - 1) l[i].n = false := decide_eq_false (fun h => a3 h.2.2.2)
                        have hat : atW c n2 ((i : Int).tmod 5 - 1) l[i].n = .zero := by unfold atW; rw [hin]; rfl
                        simp only [hin, hat]
                        repeat (first | rintro _ _ ⟨rfl, rfl⟩ | rintro _ _ ⟨_, rfl, rfl⟩ | rintro _ _ ⟨_, _, rfl, rfl⟩ | rintro _ _ ⟨_, _, _, _, rfl, rfl⟩ | intro _ | refine go ?_ | (refine is_draw ?_; refine WC_draw mixed (by kernel_rfl) ?_))
                        refine WE_loop (i + 1, n2) (by dsimp only; omega) ⟨by dsimp only; omega, hlen⟩ ?_ ?_
                        · (repeat (first | exact Sub.nil | (refine Sub.cons (by first | rfl | (simp only [Nat.zero_add]; rfl)) ?_)))
                        · ((repeat (first | (with_reducible exact Ent.refl) | exact Ent.nil | (apply ent_pickE; (focus ((repeat (first | (with_reducible exact pk_here) | (apply pk_there))); done))) | (apply arrr_in) | apply Ent.drop)); all_goals (first | rfl | (with_reducible assumption) | (simp; done) | (simp; omega) | omega | (constructor <;> (simp) <;> omega)))
                    · have hin : inWay c ((i : Int).tmod 5 - 1) l[i].n = false := decide_eq_false (fun h => a2 h.2.2.1)
                      have hat : atW c n2 ((i : Int).tmod 5 - 1) l[i].n = .zero := by unfold atW; rw [hin]; rfl
                      simp only [hin, hat]
                      repeat (first | rintro _ _ ⟨rfl, rfl⟩ | rintro _ _ ⟨_, rfl, rfl⟩ | rintro _ _ ⟨_, _, rfl, rfl⟩ | rintro _ _ ⟨_, _, _, _, rfl, rfl⟩ | intro _ | refine go ?_ | (refine is_draw ?_; refine WC_draw mixed (by kernel_rfl) ?_))
                      refine WE_loop (i + 1, n2) (by dsimp only; omega) ⟨by dsimp only; omega, hlen⟩ ?_ ?_
                      · (repeat (first | exact Sub.nil | (refine Sub.cons (by first | rfl | (simp only [Nat.zero_add]; rfl)) ?_)))
                      · ((repeat (first | (with_reducible exact Ent.refl) | exact Ent.nil | (apply ent_pickE; (focus ((repeat (first | (with_reducible exact pk_here) | (apply pk_there))); done))) | (apply arrr_in) | apply Ent.drop)); all_goals (first | rfl | (with_reducible assumption) | (simp; done) | (simp; omega) | omega | (constructor <;> (simp) <;> omega)))
                  · have hin : inWay c ((i : Int).tmod 5 - 1) l[i].n = false := decide_eq_false (fun h => a1 h.2.1)
                    have hat : atW c n2 ((i : Int).tmod 5 - 1) l[i].n = .zero := by unfold atW; rw [hin]; rfl
                    simp only [hin, hat]
                    repeat (first | rintro _ _ ⟨rfl, rfl⟩ | rintro _ _ ⟨_, rfl, rfl⟩ | rintro _ _ ⟨_, _, rfl, rfl⟩ | rintro _ _ ⟨_, _, _, _, rfl, rfl⟩ | intro _ | refine go ?_ | (refine is_draw ?_; refine WC_draw mixed (by kernel_rfl) ?_))
                    refine WE_loop (i + 1, n2) (by dsimp only; omega) ⟨by dsimp only; omega, hlen⟩ ?_ ?_
                    · (repeat (first | exact Sub.nil | (refine Sub.cons (by first | rfl | (simp only [Nat.zero_add]; rfl)) ?_)))
                    · ((repeat (first | (with_reducible exact Ent.refl) | exact Ent.nil | (apply ent_pickE; (focus ((repeat (first | (with_reducible exact pk_here) | (apply pk_there))); done))) | (apply arrr_in) | apply Ent.drop)); all_goals (first | rfl | (with_reducible assumption) | (simp; done) | (simp; omega) | omega | (constructor <;> (simp) <;> omega)))
                · have hin : inWay c ((i : Int).tmod 5 - 1) l[i].n = false := decide_eq_false (fun h => a0 h.1)
                  have hat : atW c n2 ((i : Int).tmod 5 - 1) l[i].n = .zero := by unfold atW; rw [hin]; rfl
                  simp only [hin, hat]
                  repeat (first | rintro _ _ ⟨rfl, rfl⟩ | rintro _ _ ⟨_, rfl, rfl⟩ | rintro _ _ ⟨_, _, rfl, rfl⟩ | rintro _ _ ⟨_, _, _, _, rfl, rfl⟩ | intro _ | refine go ?_ | (refine is_draw ?_; refine WC_draw mixed (by kernel_rfl) ?_))
                  refine WE_loop (i + 1, n2) (by dsimp only; omega) ⟨by dsimp only; omega, hlen⟩ ?_ ?_
                  · (repeat (first | exact Sub.nil | (refine Sub.cons (by first | rfl | (simp only [Nat.zero_add]; rfl)) ?_)))
                  · ((repeat (first | (with_reducible exact Ent.refl) | exact Ent.nil | (apply ent_pickE; (focus ((repeat (first | (with_reducible exact pk_here) | (apply pk_there))); done))) | (apply arrr_in) | apply Ent.drop)); all_goals (first | rfl | (with_reducible assumption) | (simp; done) | (simp; omega) | omega | (constructor <;> (simp) <;> omega)))
              · by_cases h2 : l[i].d = 2
                · have hRd := fun F => ref09_Lock (F := F) (b := br) (c := c) (l := n) (line := l[i].line) (lk := decide (l[i].n ≠ 0))
                  have e1 : lockE c n l[i].line = adoE c n l[i] := by unfold adoE; rw [if_neg h0, if_neg h1, if_pos h2]
                  have e2 : lockL c n l[i].line (decide (l[i].n ≠ 0)) = adoL c n l[i] := by unfold adoL; rw [if_neg h0, if_neg h1, if_pos h2]
                  rw [e1, e2] at hRd
                  generalize adoL c n l[i] = n2 at *
                  generalize adoE c n l[i] = er at *
                  have hFi := fun F => arr_Find (F := F) (b := b) (c := c) (l := n2) (line := line) hc hli
                  have hFr := fun F => arr_Free (F := F) (b := b) (c := c) (l := n2) (line := line) hc hli
                  have hlw := linesW_len n2
                  have hSm := fun F v u (k1 : RdL F 1 v (linesW n2).length (flat ic (linesW n2))) (k2 : RdL F 1 u (linesW n2).length (flat ic (linesW n2))) => @ref02_Same F v u (linesW n2) (linesW n2) k1 k2 (by omega)
                  simp only [decide_true] at hSm
                  repeat (first | rintro _ _ ⟨rfl, rfl⟩ | rintro _ _ ⟨_, rfl, rfl⟩ | rintro _ _ ⟨_, _, rfl, rfl⟩ | rintro _ _ ⟨_, _, _, _, rfl, rfl⟩ | intro _ | refine go ?_ | (refine is_draw ?_; refine WC_draw mixed (by kernel_rfl) ?_) | refine cal @hD ?_ | refine cal @hRd ?_ | refine cal @hFi ?_ | refine cal @ref09_Find ?_ | refine cal @hFr ?_ | refine cal @ref09_Free ?_ | refine cal @arr_Lines ?_ | refine cal @ref09_Lines ?_ | refine cal @hSm ?_ | refine cal @arr_At ?_)
                  (first | refine WO_front (ArrRP br c n2) ?_ | refine WC_front (ArrRP br c n2) ?_ | refine WE_front (ArrRP br c n2) ?_)
                  refine arrr_openO fun g ⟨_, hn3, hI3⟩ => ?_
                  haveI kr := rd_arr (g := g) (T := 100) (l := n2)
                  obtain ⟨en, h4, h5', h6, h7, h8⟩ := arr_nums he hn3
                  have hpos : 0 < n2.length := by rw [en]; exact Nat.mul_pos (by omega) (by omega)
                  (first | (refine WO_some (wsl g (0 * 11) n2.length n2.length) inferInstance (by omega) ?_; intro _) | (refine WC_some (wsl g (0 * 11) n2.length n2.length) inferInstance (by omega) ?_; intro _))
                  by_cases a0 : 0 ≤ (i : Int).tmod 5 - 1
                  · by_cases a1 : (i : Int).tmod 5 - 1 < c.sets
                    · by_cases a2 : 0 ≤ l[i].n
                      · by_cases a3 : l[i].n < c.ways
                        · have hin : inWay c ((i : Int).tmod 5 - 1) l[i].n = true := decide_eq_true ⟨a0, a1, a2, a3⟩
                          obtain ⟨z, hz, ez, hat⟩ := at_z he hn3 a0 a1 a2 a3
                          have ez2 : (((i : Int).tmod 5 - 1) * c.ways + l[i].n).toNat = z := by rw [ez]; rfl
                          simp only [hin, hat]
                          repeat (first | rintro _ _ ⟨rfl, rfl⟩ | rintro _ _ ⟨_, rfl, rfl⟩ | rintro _ _ ⟨_, _, rfl, rfl⟩ | rintro _ _ ⟨_, _, _, _, rfl, rfl⟩ | intro _ | refine go ?_ | (refine is_draw ?_; refine WC_draw mixed (by kernel_rfl) ?_))
                          simp only [ez2, ne_eq, not_true_eq_false, decide_false]
                          repeat (first | rintro _ _ ⟨rfl, rfl⟩ | rintro _ _ ⟨_, rfl, rfl⟩ | rintro _ _ ⟨_, _, rfl, rfl⟩ | rintro _ _ ⟨_, _, _, _, rfl, rfl⟩ | intro _ | refine go ?_ | (refine is_draw ?_; refine WC_draw mixed (by kernel_rfl) ?_))
                          refine WE_loop (i + 1, n2) (by dsimp only; omega) ⟨by dsimp only; omega, hlen⟩ ?_ ?_
                          · (repeat (first | exact Sub.nil | (refine Sub.cons (by first | rfl | (simp only [Nat.zero_add]; rfl)) ?_)))
                          · ((repeat (first | (with_reducible exact Ent.refl) | exact Ent.nil | (apply ent_pickE; (focus ((repeat (first | (with_reducible exact pk_here) | (apply pk_there))); done))) | (apply arrr_in) | apply Ent.drop)); all_goals (first | rfl | (with_reducible assumption) | (simp; done) | (simp; omega) | omega | (constructor <;> (simp) <;> omega)))
                        · have hin : inWay c ((i : Int).tmod 5 - 1) l[i].n = false := decide_eq_false (fun h => a3 h.2.2.2)
                          have hat : atW c n2 ((i : Int).tmod 5 - 1) l[i].n = .zero := by unfold atW; rw [hin]; rfl
                          simp only [hin, hat]
                          repeat (first | rintro _ _ ⟨rfl, rfl⟩ | rintro _ _ ⟨_, rfl, rfl⟩ | rintro _ _ ⟨_, _, rfl, rfl⟩ | rintro _ _ ⟨_, _, _, _, rfl, rfl⟩ | intro _ | refine go ?_ | (refine is_draw ?_; refine WC_draw mixed (by kernel_rfl) ?_))
                          refine WE_loop (i + 1, n2) (by dsimp only; omega) ⟨by dsimp only; omega, hlen⟩ ?_ ?_
                          · (repeat (first | exact Sub.nil | (refine Sub.cons (by first | rfl | (simp only [Nat.zero_add]; rfl)) ?_)))
                          · ((repeat (first | (with_reducible exact Ent.refl) | exact Ent.nil | (apply ent_pickE; (focus ((repeat (first | (with_reducible exact pk_here) | (apply pk_there))); done))) | (apply arrr_in) | apply Ent.drop)); all_goals (first | rfl | (with_reducible assumption) | (simp; done) | (simp; omega) | omega | (constructor <;> (simp) <;> omega)))
                      · have hin : inWay c ((i : Int).tmod 5 - 1) l[i].n = false := decide_eq_false (fun h => a2 h.2.2.1)
                        have hat : atW c n2 ((i : Int).tmod 5 - 1) l[i].n = .zero := by unfold atW; rw [hin]; rfl
                        simp only [hin, hat]
                        repeat (first | rintro _ _ ⟨rfl, rfl⟩ | rintro _ _ ⟨_, rfl, rfl⟩ | rintro _ _ ⟨_, _, rfl, rfl⟩ | rintro _ _ ⟨_, _, _, _, rfl, rfl⟩ | intro _ | refine go ?_ | (refine is_draw ?_; refine WC_draw mixed (by kernel_rfl) ?_))
                        refine WE_loop (i + 1, n2) (by dsimp only; omega) ⟨by dsimp only; omega, hlen⟩ ?_ ?_
                        · (repeat (first | exact Sub.nil | (refine Sub.cons (by first | rfl | (simp only [Nat.zero_add]; rfl)) ?_)))
                        · ((repeat (first | (with_reducible exact Ent.refl) | exact Ent.nil | (apply ent_pickE; (focus ((repeat (first | (with_reducible exact pk_here) | (apply pk_there))); done))) | (apply arrr_in) | apply Ent.drop)); all_goals (first | rfl | (with_reducible assumption) | (simp; done) | (simp; omega) | omega | (constructor <;> (simp) <;> omega)))
                    · have hin : inWay c ((i : Int).tmod 5 - 1) l[i].n = false := decide_eq_false (fun h => a1 h.2.1)
                      have hat : atW c n2 ((i : Int).tmod 5 - 1) l[i].n = .zero := by unfold atW; rw [hin]; rfl
                      simp only [hin, hat]
                      repeat (first | rintro _ _ ⟨rfl, rfl⟩ | rintro _ _ ⟨_, rfl, rfl⟩ | rintro _ _ ⟨_, _, rfl, rfl⟩ | rintro _ _ ⟨_, _, _, _, rfl, rfl⟩ | intro _ | refine go ?_ | (refine is_draw ?_; refine WC_draw mixed (by kernel_rfl) ?_))
                      refine WE_loop (i + 1, n2) (by dsimp only; omega) ⟨by dsimp only; omega, hlen⟩ ?_ ?_
                      · (repeat (first | exact Sub.nil | (refine Sub.cons (by first | rfl | (simp only [Nat.zero_add]; rfl)) ?_)))
                      · ((repeat (first | (with_reducible exact Ent.refl) | exact Ent.nil | (apply ent_pickE; (focus ((repeat (first | (with_reducible exact pk_here) | (apply pk_there))); done))) | (apply arrr_in) | apply Ent.drop)); all_goals (first | rfl | (with_reducible assumption) | (simp; done) | (simp; omega) | omega | (constructor <;> (simp) <;> omega)))
                  · have hin : inWay c ((i : Int).tmod 5 - 1) l[i].n = false := decide_eq_false (fun h => a0 h.1)
                    have hat : atW c n2 ((i : Int).tmod 5 - 1) l[i].n = .zero := by unfold atW; rw [hin]; rfl
                    simp only [hin, hat]
                    repeat (first | rintro _ _ ⟨rfl, rfl⟩ | rintro _ _ ⟨_, rfl, rfl⟩ | rintro _ _ ⟨_, _, rfl, rfl⟩ | rintro _ _ ⟨_, _, _, _, rfl, rfl⟩ | intro _ | refine go ?_ | (refine is_draw ?_; refine WC_draw mixed (by kernel_rfl) ?_))
                    refine WE_loop (i + 1, n2) (by dsimp only; omega) ⟨by dsimp only; omega, hlen⟩ ?_ ?_
                    · (repeat (first | exact Sub.nil | (refine Sub.cons (by first | rfl | (simp only [Nat.zero_add]; rfl)) ?_)))
                    · ((repeat (first | (with_reducible exact Ent.refl) | exact Ent.nil | (apply ent_pickE; (focus ((repeat (first | (with_reducible exact pk_here) | (apply pk_there))); done))) | (apply arrr_in) | apply Ent.drop)); all_goals (first | rfl | (with_reducible assumption) | (simp; done) | (simp; omega) | omega | (constructor <;> (simp) <;> omega)))
                · have e1 : adoE c n l[i] = 0 := by unfold adoE; rw [if_neg h0, if_neg h1, if_neg h2]
                  have e2 : adoL c n l[i] = n := by unfold adoL; rw [if_neg h0, if_neg h1, if_neg h2]
                  rw [e1, e2] at hD
                  rw [e2] at hlen
                  have hRd := fun F => ref09_Free (F := F) (b := br) (c := c) (l := n) (line := line)
                  have hFi := fun F => arr_Find (F := F) (b := b) (c := c) (l := n) (line := line) hc hli
                  have hFr := fun F => arr_Free (F := F) (b := b) (c := c) (l := n) (line := line) hc hli
                  have hlw := linesW_len n
                  have hSm := fun F v u (k1 : RdL F 1 v (linesW n).length (flat ic (linesW n))) (k2 : RdL F 1 u (linesW n).length (flat ic (linesW n))) => @ref02_Same F v u (linesW n) (linesW n) k1 k2 (by omega)
                  simp only [decide_true] at hSm
                  repeat (first | rintro _ _ ⟨rfl, rfl⟩ | rintro _ _ ⟨_, rfl, rfl⟩ | rintro _ _ ⟨_, _, rfl, rfl⟩ | rintro _ _ ⟨_, _, _, _, rfl, rfl⟩ | intro _ | refine go ?_ | (refine is_draw ?_; refine WC_draw mixed (by kernel_rfl) ?_) | refine cal @hD ?_ | refine cal @hRd ?_ | refine cal @hFi ?_ | refine cal @ref09_Find ?_ | refine cal @hFr ?_ | refine cal @ref09_Free ?_ | refine cal @arr_Lines ?_ | refine cal @ref09_Lines ?_ | refine cal @hSm ?_ | refine cal @arr_At ?_)
                  (first | refine WO_front (ArrRP br c n) ?_ | refine WC_front (ArrRP br c n) ?_ | refine WE_front (ArrRP br c n) ?_)
                  refine arrr_openO fun g ⟨_, hn3, hI3⟩ => ?_
                  haveI kr := rd_arr (g := g) (T := 100) (l := n)
                  obtain ⟨en, h4, h5', h6, h7, h8⟩ := arr_nums he hn3
                  have hpos : 0 < n.length := by rw [en]; exact Nat.mul_pos (by omega) (by omega)
                  (first | (refine WO_some (wsl g (0 * 11) n.length n.length) inferInstance (by omega) ?_; intro _) | (refine WC_some (wsl g (0 * 11) n.length n.length) inferInstance (by omega) ?_; intro _))
                  by_cases a0 : 0 ≤ (i : Int).tmod 5 - 1
                  · by_cases a1 : (i : Int).tmod 5 - 1 < c.sets
                    · by_cases a2 : 0 ≤ l[i].n
                      · by_cases a3 : l[i].n < c.ways
                        · have hin : inWay c ((i : Int).tmod 5 - 1) l[i].n = true := decide_eq_true ⟨a0, a1, a2, a3⟩
                          obtain ⟨z, hz, ez, hat⟩ := at_z he hn3 a0 a1 a2 a3
                          have ez2 : (((i : Int).tmod 5 - 1) * c.ways + l[i].n).toNat = z := by rw [ez]; rfl
                          simp only [hin, hat]
                          repeat (first | rintro _ _ ⟨rfl, rfl⟩ | rintro _ _ ⟨_, rfl, rfl⟩ | rintro _ _ ⟨_, _, rfl, rfl⟩ | rintro _ _ ⟨_, _, _, _, rfl, rfl⟩ | intro _ | refine go ?_ | (refine is_draw ?_; refine WC_draw mixed (by kernel_rfl) ?_))
                          simp only [ez2, ne_eq, not_true_eq_false, decide_false]
                          repeat (first | rintro _ _ ⟨rfl, rfl⟩ | rintro _ _ ⟨_, rfl, rfl⟩ | rintro _ _ ⟨_, _, rfl, rfl⟩ | rintro _ _ ⟨_, _, _, _, rfl, rfl⟩ | intro _ | refine go ?_ | (refine is_draw ?_; refine WC_draw mixed (by kernel_rfl) ?_))
                          refine WE_loop (i + 1, n) (by dsimp only; omega) ⟨by dsimp only; omega, hlen⟩ ?_ ?_
                          · (repeat (first | exact Sub.nil | (refine Sub.cons (by first | rfl | (simp only [Nat.zero_add]; rfl)) ?_)))
                          · ((repeat (first | (with_reducible exact Ent.refl) | exact Ent.nil | (apply ent_pickE; (focus ((repeat (first | (with_reducible exact pk_here) | (apply pk_there))); done))) | (apply arrr_in) | apply Ent.drop)); all_goals (first | rfl | (with_reducible assumption) | (simp; done) | (simp; omega) | omega | (constructor <;> (simp) <;> omega)))
                        · have hin : inWay c ((i : Int).tmod 5 - 1) l[i].n = false := decide_eq_false (fun h => a3 h.2.2.2)
                          have hat : atW c n ((i : Int).tmod 5 - 1) l[i].n = .zero := by unfold atW; rw [hin]; rfl
                          simp only [hin, hat]
                          repeat (first | rintro _ _ ⟨rfl, rfl⟩ | rintro _ _ ⟨_, rfl, rfl⟩ | rintro _ _ ⟨_, _, rfl, rfl⟩ | rintro _ _ ⟨_, _, _, _, rfl, rfl⟩ | intro _ | refine go ?_ | (refine is_draw ?_; refine WC_draw mixed (by kernel_rfl) ?_))
                          refine WE_loop (i + 1, n) (by dsimp only; omega) ⟨by dsimp only; omega, hlen⟩ ?_ ?_
                          · (repeat (first | exact Sub.nil | (refine Sub.cons (by first | rfl | (simp only [Nat.zero_add]; rfl)) ?_)))
                          · ((repeat (first | (with_reducible exact Ent.refl) | exact Ent.nil | (apply ent_pickE; (focus ((repeat (first | (with_reducible exact pk_here) | (apply pk_there))); done))) | (apply arrr_in) | apply Ent.drop)); all_goals (first | rfl | (with_reducible assumption) | (simp; done) | (simp; omega) | omega | (constructor <;> (simp) <;> omega)))
                      · have hin : inWay c ((i : Int).tmod 5 - 1) l[i].n = false := decide_eq_false (fun h => a2 h.2.2.1)
                        have hat : atW c n ((i : Int).tmod 5 - 1) l[i].n = .zero := by unfold atW; rw [hin]; rfl
                        simp only [hin, hat]
                        repeat (first | rintro _ _ ⟨rfl, rfl⟩ | rintro _ _ ⟨_, rfl, rfl⟩ | rintro _ _ ⟨_, _, rfl, rfl⟩ | rintro _ _ ⟨_, _, _, _, rfl, rfl⟩ | intro _ | refine go ?_ | (refine is_draw ?_; refine WC_draw mixed (by kernel_rfl) ?_))
                        refine WE_loop (i + 1, n) (by dsimp only; omega) ⟨by dsimp only; omega, hlen⟩ ?_ ?_
                        · (repeat (first | exact Sub.nil | (refine Sub.cons (by first | rfl | (simp only [Nat.zero_add]; rfl)) ?_)))
                        · ((repeat (first | (with_reducible exact Ent.refl) | exact Ent.nil | (apply ent_pickE; (focus ((repeat (first | (with_reducible exact pk_here) | (apply pk_there))); done))) | (apply arrr_in) | apply Ent.drop)); all_goals (first | rfl | (with_reducible assumption) | (simp; done) | (simp; omega) | omega | (constructor <;> (simp) <;> omega)))
                    · have hin : inWay c ((i : Int).tmod 5 - 1) l[i].n = false := decide_eq_false (fun h => a1 h.2.1)
                      have hat : atW c n ((i : Int).tmod 5 - 1) l[i].n = .zero := by unfold atW; rw [hin]; rfl
                      simp only [hin, hat]
                      repeat (first | rintro _ _ ⟨rfl, rfl⟩ | rintro _ _ ⟨_, rfl, rfl⟩ | rintro _ _ ⟨_, _, rfl, rfl⟩ | rintro _ _ ⟨_, _, _, _, rfl, rfl⟩ | intro _ | refine go ?_ | (refine is_draw ?_; refine WC_draw mixed (by kernel_rfl) ?_))
                      refine WE_loop (i + 1, n) (by dsimp only; omega) ⟨by dsimp only; omega, hlen⟩ ?_ ?_
                      · (repeat (first | exact Sub.nil | (refine Sub.cons (by first | rfl | (simp only [Nat.zero_add]; rfl)) ?_)))
                      · ((repeat (first | (with_reducible exact Ent.refl) | exact Ent.nil | (apply ent_pickE; (focus ((repeat (first | (with_reducible exact pk_here) | (apply pk_there))); done))) | (apply arrr_in) | apply Ent.drop)); all_goals (first | rfl | (with_reducible assumption) | (simp; done) | (simp; omega) | omega | (constructor <;> (simp) <;> omega)))
                  · have hin : inWay c ((i : Int).tmod 5 - 1) l[i].n = false := decide_eq_false (fun h => a0 h.1)
                    have hat : atW c n ((i : Int).tmod 5 - 1) l[i].n = .zero := by unfold atW; rw [hin]; rfl
                    simp only [hin, hat]
                    repeat (first | rintro _ _ ⟨rfl, rfl⟩ | rintro _ _ ⟨_, rfl, rfl⟩ | rintro _ _ ⟨_, _, rfl, rfl⟩ | rintro _ _ ⟨_, _, _, _, rfl, rfl⟩ | intro _ | refine go ?_ | (refine is_draw ?_; refine WC_draw mixed (by kernel_rfl) ?_))
                    refine WE_loop (i + 1, n) (by dsimp only; omega) ⟨by dsimp only; omega, hlen⟩ ?_ ?_
                    · (repeat (first | exact Sub.nil | (refine Sub.cons (by first | rfl | (simp only [Nat.zero_add]; rfl)) ?_)))
                    · ((repeat (first | (with_reducible exact Ent.refl) | exact Ent.nil | (apply ent_pickE; (focus ((repeat (first | (with_reducible exact pk_here) | (apply pk_there))); done))) | (apply arrr_in) | apply Ent.drop)); all_goals (first | rfl | (with_reducible assumption) | (simp; done) | (simp; omega) | omega | (constructor <;> (simp) <;> omega)))
          · have hil : i = l.length := by omega
            subst hil
            repeat (first | rintro _ _ ⟨rfl, rfl⟩ | rintro _ _ ⟨_, rfl, rfl⟩ | rintro _ _ ⟨_, _, rfl, rfl⟩ | rintro _ _ ⟨_, _, _, _, rfl, rfl⟩ | intro _ | refine go ?_ | (refine is_draw ?_; refine WC_draw mixed (by kernel_rfl) ?_))
            (apply WE_ret rfl rfl (by (repeat (first | exact ResOk.nil | (apply ResOk.tmp; rfl) | (apply resOk_cell; rfl; exact inferInstance; rfl; rfl)))); (first | exact ⟨rfl, rfl⟩ | exact ⟨congrArg Value.bool (by decide), rfl⟩ | exact ⟨_, rfl, rfl⟩ | exact ⟨_, _, rfl, rfl⟩ | exact ⟨by first | (simp []; done) | (simp [] <;> omega), rfl⟩); (repeat (first | exact Ent.refl | exact Ent.nil | apply Ent.pick | apply Ent.drop)))
end Go.Sx
