/- The document's arrays of ways, third part: Set. My own work. -/
import Derived.Test.YtcjagmphobdbbaaArrR2
namespace Go.Sx
open Go Go.Proofs
set_option linter.unusedVariables false
set_option linter.unusedSectionVars false
set_option linter.unusedSimpArgs false
theorem wcell (w : Words) (i : Nat) (h : i < 8) : (wc w)[0 + ((i : Nat) : Int).toNat * 1]? = some (.int .i64 (w.list.getD i 0)) := by
  have hcase : i = 0 ∨ i = 1 ∨ i = 2 ∨ i = 3 ∨ i = 4 ∨ i = 5 ∨ i = 6 ∨ i = 7 := by omega
  rcases hcase with rfl | rfl | rfl | rfl | rfl | rfl | rfl | rfl <;> rfl
theorem odd_yes {c : Cfg} {w : Words} {k : Nat} (h1 : c.words.toNat ≤ k) (h2 : k < 8) (h3 : w.list.getD k 0 ≠ 0) : oddW c w = true := by
  unfold oddW
  rw [decide_eq_true_eq]
  by_cases hn : 0 ≤ indexBy (fun n => !decide (n = 0)) (w.list.drop c.words.toNat)
  · exact hn
  · exfalso
    have h4 := (indexBy_neg hn).2
    have hl := Words.list_len w
    have h5 : k - c.words.toNat < (w.list.drop c.words.toNat).length := by rw [List.length_drop]; omega
    have h6 := h4 _ (List.getElem_mem h5)
    rw [List.getElem_drop] at h6
    simp only [show c.words.toNat + (k - c.words.toNat) = k by omega] at h6
    rw [List.getD_eq_getElem?_getD, List.getElem?_eq_getElem (by omega), Option.getD_some] at h3
    simp at h6
    exact h3 h6
theorem odd_no {c : Cfg} {w : Words} (h : ∀ k, c.words.toNat ≤ k → k < 8 → w.list.getD k 0 = 0) : oddW c w = false := by
  unfold oddW
  rw [decide_eq_false_iff_not]
  have hl := Words.list_len w
  rw [indexBy_none]
  · omega
  · intro j hj _
    rw [List.length_drop] at hj
    have := h (c.words.toNat + j) (by omega) (by omega)
    rw [List.getD_eq_getElem?_getD, List.getElem?_eq_getElem (by omega), Option.getD_some] at this
    rw [List.getElem_drop, this]
    rfl
set_option maxRecDepth 100000
set_option maxHeartbeats 4000000
attribute [local irreducible] Go.Exit.then Go.Exit.inBlock Go.Code.wp WC WO WE WQ V LoopQ FnQ Sat Star band bor IntKind.wrap WR Code.rounds WT KO
theorem ref09_Set {F : List HP} {b : Nat} {c : Cfg} {l : List Way} {line st : Int} {w : Words} :
    FnF Try.prog 47 [.pointer (some ⟨b, 0, none⟩), .int .i64 line, .int .i64 st, wv w] [ArrRP b c l] F (fun r L' => r = .int .i64 (setE c l line st w) ∧ L' = [ArrRP b c (setL c l line st w)]) := by
  refine FnF.mk' Try.func47 rfl rfl Try.ntmps47 rfl ?_
  refine arrr_open fun g hf => ?_
  obtain ⟨hc, hn, hI⟩ := hf
  obtain ⟨_, h4, h5, h6, h7, h8⟩ := arr_nums hc hn
  obtain ⟨_, _, _, ⟨kw, hkw, ewd⟩, _⟩ := check_facts hc
  have hbw := pow_bd hkw
  have hwd : 1 ≤ c.words ∧ c.words ≤ 8 := by rw [ewd]; exact ⟨hbw.1, by have := hbw.2; simpa using this⟩
  have hI2 : ArrInv c (setL c l line st w) := setL_inv hI
  have hn2 : ((setL c l line st w).length : Int) = c.sets * c.ways := by rw [setL_len]; exact hn
  have hP := fun F => ref09_placeO (F := F) (b := b) (g := g) (line := line) h8 hI
  haveI kr := rd_arr (g := g) (T := 100) (l := l)
  by_cases hp : arrP c l line = -1
  · have e4 : arrG c l line = -1 := if_pos (by omega)
    rw [e4] at hP
    have e1 : setE c l line st w = 5 := if_pos hp
    have e2 : setL c l line st w = l := by unfold setL; rw [e1]; rfl
    rw [e1, e2]
    repeat (first | rintro _ _ ⟨rfl, rfl⟩ | rintro _ _ ⟨_, rfl, rfl⟩ | rintro _ _ ⟨_, _, rfl, rfl⟩ | rintro _ _ ⟨_, _, _, _, rfl, rfl⟩ | intro _ | refine go ?_ | (refine is_draw ?_; apply WC_mix (id := 12) true _ (pl := .p 0 <| .p 1 <| .p 2 <| .p 4 <| .r 3 <| .r 5 <| .p 6 <| .p 7 <| .e true [(8, .done)]); exact mixed; kernel_rfl; kernel_rfl; exact Ent.refl) | (refine is_draw ?_; refine WC_draw mixed (by kernel_rfl) ?_) | refine cal @hP ?_)
    (apply WE_ret rfl rfl (by (repeat (first | exact ResOk.nil | (apply ResOk.tmp; rfl) | (apply resOk_cell; rfl; exact inferInstance; rfl; rfl)))))
    · exact ⟨rfl, rfl⟩
    · (apply arrr_in; (focus ((repeat (first | (with_reducible exact Ent.refl) | exact Ent.nil | (apply ent_pickE; (focus ((repeat (first | (with_reducible exact pk_here) | (apply pk_there))); done))) | apply Ent.drop)); done)); all_goals (first | rfl | (with_reducible assumption) | (simp; done) | (simp; omega) | omega | (constructor <;> (simp) <;> omega)))
  · have h0 : 0 ≤ arrP c l line := by have := (arrP_lt c l line).1; omega
    obtain ⟨i, hi⟩ : ∃ i : Nat, arrP c l line = i := ⟨(arrP c l line).toNat, by omega⟩
    obtain ⟨h2, hok, h3, h4'⟩ := arrP_at hi
    have ew := findW_at hi h2
    have e4 : arrG c l line = ((arrF c line + i : Nat) : Int) := by unfold arrG; rw [if_neg (by omega), hi]; omega
    rw [e4] at hP
    by_cases hs : st < 0 ∨ st > 4
    · have e1 : setE c l line st w = 1 := by unfold setE; rw [if_neg hp, if_pos (by omega)]
      have e2 : setL c l line st w = l := by unfold setL; rw [e1]; rfl
      rw [e1, e2]
      by_cases hs0 : st < 0
      · repeat (first | rintro _ _ ⟨rfl, rfl⟩ | rintro _ _ ⟨_, rfl, rfl⟩ | rintro _ _ ⟨_, _, rfl, rfl⟩ | rintro _ _ ⟨_, _, _, _, rfl, rfl⟩ | intro _ | refine go ?_ | (refine is_draw ?_; apply WC_mix (id := 12) true _ (pl := .p 0 <| .p 1 <| .p 2 <| .p 4 <| .r 3 <| .r 5 <| .p 6 <| .p 7 <| .e true [(8, .done)]); exact mixed; kernel_rfl; kernel_rfl; exact Ent.refl) | (refine is_draw ?_; refine WC_draw mixed (by kernel_rfl) ?_) | refine cal @hP ?_)
        (apply WE_ret rfl rfl (by (repeat (first | exact ResOk.nil | (apply ResOk.tmp; rfl) | (apply resOk_cell; rfl; exact inferInstance; rfl; rfl)))))
        · exact ⟨rfl, rfl⟩
        · (apply arrr_in; (focus ((repeat (first | (with_reducible exact Ent.refl) | exact Ent.nil | (apply ent_pickE; (focus ((repeat (first | (with_reducible exact pk_here) | (apply pk_there))); done))) | apply Ent.drop)); done)); all_goals (first | rfl | (with_reducible assumption) | (simp; done) | (simp; omega) | omega | (constructor <;> (simp) <;> omega)))
      · repeat (first | rintro _ _ ⟨rfl, rfl⟩ | rintro _ _ ⟨_, rfl, rfl⟩ | rintro _ _ ⟨_, _, rfl, rfl⟩ | rintro _ _ ⟨_, _, _, _, rfl, rfl⟩ | intro _ | refine go ?_ | (refine is_draw ?_; apply WC_mix (id := 12) true _ (pl := .p 0 <| .p 1 <| .p 2 <| .p 4 <| .r 3 <| .r 5 <| .p 6 <| .p 7 <| .e true [(8, .done)]); exact mixed; kernel_rfl; kernel_rfl; exact Ent.refl) | (refine is_draw ?_; refine WC_draw mixed (by kernel_rfl) ?_) | refine cal @hP ?_)
        (apply WE_ret rfl rfl (by (repeat (first | exact ResOk.nil | (apply ResOk.tmp; rfl) | (apply resOk_cell; rfl; exact inferInstance; rfl; rfl)))))
        · exact ⟨rfl, rfl⟩
        · (apply arrr_in; (focus ((repeat (first | (with_reducible exact Ent.refl) | exact Ent.nil | (apply ent_pickE; (focus ((repeat (first | (with_reducible exact pk_here) | (apply pk_there))); done))) | apply Ent.drop)); done)); all_goals (first | rfl | (with_reducible assumption) | (simp; done) | (simp; omega) | omega | (constructor <;> (simp) <;> omega)))
    · have ex : oddW c w = false → setE c l line st w = 0 := fun ho => by unfold setE; rw [if_neg hp, if_neg (by rw [ho]; simp; omega)]
      have ey : oddW c w = false → setL c l line st w = l.set (arrF c line + i) { l[arrF c line + i] with st := st, words := if st = 0 then .zero else w } := fun ho => by unfold setL; rw [ex ho, hi, Int.toNat_natCast, ew]; rfl
      have ez : oddW c w = true → setE c l line st w = 1 ∧ setL c l line st w = l := fun ho => by
        have e1 : setE c l line st w = 1 := by unfold setE; rw [if_neg hp, if_pos (.inr (.inr ho))]
        exact ⟨e1, by unfold setL; rw [e1]; rfl⟩
      generalize arrF c line + i = k at *
      repeat (first | rintro _ _ ⟨rfl, rfl⟩ | rintro _ _ ⟨_, rfl, rfl⟩ | rintro _ _ ⟨_, _, rfl, rfl⟩ | rintro _ _ ⟨_, _, _, _, rfl, rfl⟩ | intro _ | refine go ?_ | (refine is_draw ?_; apply WC_mix (id := 12) true _ (pl := .p 0 <| .p 1 <| .p 2 <| .p 4 <| .r 3 <| .r 5 <| .p 6 <| .p 7 <| .e true [(8, .done)]); exact mixed; kernel_rfl; kernel_rfl; exact Ent.refl) | (refine is_draw ?_; refine WC_draw mixed (by kernel_rfl) ?_) | refine cal @hP ?_)
      rename_i bw
      apply WC_loopE (E0 := [(0, _), (2, _), (7, _), (9, _)]) (fun E0 (i : Nat) => (10, .int .i64 i) :: E0) (fun _ => Cells bw 35 (wc w) :: Cells b 109 (c.cells ++ [wsl g (0 * 11) l.length l.length]) :: Cells g 100 (flat wyc l) :: F) (fun i => (c.words.toNat ≤ i ∧ i ≤ 8) ∧ ∀ j, c.words.toNat ≤ j → j < i → w.list.getD j 0 = 0) (fun i => 8 - i) c.words.toNat
      · rw [Int.toNat_of_nonneg (by omega : 0 ≤ c.words)]; (repeat (first | exact Sub.nil | (refine Sub.cons (by first | rfl | (simp only [Nat.zero_add]; rfl)) ?_)))
      · exact ⟨by omega, fun j _ hj => by omega⟩
      · (repeat (first | (with_reducible exact Ent.refl) | exact Ent.nil | (apply ent_pickE; (focus ((repeat (first | (with_reducible exact pk_here) | (apply pk_there))); done))) | apply Ent.drop))
      · rintro n ⟨⟨hi, hi8⟩, h1⟩
        by_cases hlt : n < 8
        · have hg := wcell w n hlt
          by_cases g0 : w.list.getD n 0 = 0
          · repeat (first | rintro _ _ ⟨rfl, rfl⟩ | rintro _ _ ⟨_, rfl, rfl⟩ | rintro _ _ ⟨_, _, rfl, rfl⟩ | rintro _ _ ⟨_, _, _, _, rfl, rfl⟩ | intro _ | refine go ?_ | (refine is_draw ?_; apply WC_mix (id := 12) true _ (pl := .p 0 <| .p 1 <| .p 2 <| .p 4 <| .r 3 <| .r 5 <| .p 6 <| .p 7 <| .e true [(8, .done)]); exact mixed; kernel_rfl; kernel_rfl; exact Ent.refl) | (refine is_draw ?_; refine WC_draw mixed (by kernel_rfl) ?_))
            refine WE_loop (n + 1) (by omega) ⟨by omega, fun j hj hji => ?_⟩ ?_ ?_
            · by_cases e : j = n
              · subst e; exact g0
              · exact h1 j hj (by omega)
            · (repeat (first | exact Sub.nil | (refine Sub.cons (by first | rfl | (simp only [Nat.zero_add]; rfl)) ?_)))
            · (repeat (first | (with_reducible exact Ent.refl) | exact Ent.nil | (apply ent_pickE; (focus ((repeat (first | (with_reducible exact pk_here) | (apply pk_there))); done))) | apply Ent.drop))
          · obtain ⟨e1, e2⟩ := ez (odd_yes hi hlt g0)
            rw [e1, e2]
            repeat (first | rintro _ _ ⟨rfl, rfl⟩ | rintro _ _ ⟨_, rfl, rfl⟩ | rintro _ _ ⟨_, _, rfl, rfl⟩ | rintro _ _ ⟨_, _, _, _, rfl, rfl⟩ | intro _ | refine go ?_ | (refine is_draw ?_; apply WC_mix (id := 12) true _ (pl := .p 0 <| .p 1 <| .p 2 <| .p 4 <| .r 3 <| .r 5 <| .p 6 <| .p 7 <| .e true [(8, .done)]); exact mixed; kernel_rfl; kernel_rfl; exact Ent.refl) | (refine is_draw ?_; refine WC_draw mixed (by kernel_rfl) ?_))
            (apply WE_ret rfl rfl (by (repeat (first | exact ResOk.nil | (apply ResOk.tmp; rfl) | (apply resOk_cell; rfl; exact inferInstance; rfl; rfl)))))
            · exact ⟨rfl, rfl⟩
            · (apply arrr_in; (focus ((repeat (first | (with_reducible exact Ent.refl) | exact Ent.nil | (apply ent_pickE; (focus ((repeat (first | (with_reducible exact pk_here) | (apply pk_there))); done))) | apply Ent.drop)); done)); all_goals (first | rfl | (with_reducible assumption) | (simp; done) | (simp; omega) | omega | (constructor <;> (simp) <;> omega)))
        · have hi8 : n = 8 := by omega
          subst hi8
          have ho := odd_no h1
          rw [ex ho]
          rw [ey ho] at hI2 hn2 ⊢
          (first | (refine WO_some (wsl g (0 * 11) l.length l.length) inferInstance (by omega) ?_; intro _) | (refine WC_some (wsl g (0 * 11) l.length l.length) inferInstance (by omega) ?_; intro _))
          repeat (first | rintro _ _ ⟨rfl, rfl⟩ | rintro _ _ ⟨_, rfl, rfl⟩ | rintro _ _ ⟨_, _, rfl, rfl⟩ | rintro _ _ ⟨_, _, _, _, rfl, rfl⟩ | intro _ | refine go ?_ | (refine is_draw ?_; apply WC_mix (id := 12) true _ (pl := .p 0 <| .p 1 <| .p 2 <| .p 4 <| .r 3 <| .r 5 <| .p 6 <| .p 7 <| .e true [(8, .done)]); exact mixed; kernel_rfl; kernel_rfl; exact Ent.refl) | (refine is_draw ?_; refine WC_draw mixed (by kernel_rfl) ?_))
          apply WO_k; rfl; (refine K_way (l := l) (f := 0) (i := k) (j := 0) (w := { l[k] with st := st }) (by rfl) (by rfl) (by exact pb_wsl) (by rw [po_wsl]; omega) (by exact inferInstance) (by exact inferInstance) (by rfl) (by rfl) (by omega) (by decide) (by simp only [Nat.zero_add]; rfl)); refine same_intro ?_
          simp only [Nat.zero_add]
          have kr2 := rd_arr (g := g) (T := 100) (l := l.set k { l[k] with st := st })
          rw [List.length_set] at kr2
          haveI := kr2
          repeat (first | rintro _ _ ⟨rfl, rfl⟩ | rintro _ _ ⟨_, rfl, rfl⟩ | rintro _ _ ⟨_, _, rfl, rfl⟩ | rintro _ _ ⟨_, _, _, _, rfl, rfl⟩ | intro _ | refine go ?_ | (refine is_draw ?_; apply WC_mix (id := 12) true _ (pl := .p 0 <| .p 1 <| .p 2 <| .p 4 <| .r 3 <| .r 5 <| .p 6 <| .p 7 <| .e true [(8, .done)]); exact mixed; kernel_rfl; kernel_rfl; exact Ent.refl) | (refine is_draw ?_; refine WC_draw mixed (by kernel_rfl) ?_))
          apply WT_k; rfl; exact GIn.none; (refine K_way (l := l.set k { l[k] with st := st }) (f := 0) (i := k) (j := 2) (w := { l[k] with st := st, words := w }) (by rfl) (by rfl) (by exact pb_wsl) (by rw [po_wsl]; omega) (by exact inferInstance) (by exact inferInstance) (by rfl) (by rfl) (by rw [List.length_set]; omega) (by decide) (by simp only [Nat.zero_add, List.getElem_set_self]; rfl)); refine same_intro ?_; (refine ⟨by first | exact After.free | exact After.turns rfl | (refine After.still ?_; (repeat (first | exact Ent.refl | exact Ent.nil | apply Ent.pick | apply Ent.drop)); done), ?_⟩)
          simp only [Nat.zero_add, List.set_set]
          have kr3 := rd_arr (g := g) (T := 100) (l := l.set k { l[k] with st := st, words := w })
          rw [List.length_set] at kr3
          haveI := kr3
          by_cases hz : st = 0
          · rw [if_pos hz] at hI2 hn2
            rw [if_pos hz]
            repeat (first | rintro _ _ ⟨rfl, rfl⟩ | rintro _ _ ⟨_, rfl, rfl⟩ | rintro _ _ ⟨_, _, rfl, rfl⟩ | rintro _ _ ⟨_, _, _, _, rfl, rfl⟩ | intro _ | refine go ?_ | (refine is_draw ?_; apply WC_mix (id := 12) true _ (pl := .p 0 <| .p 1 <| .p 2 <| .p 4 <| .r 3 <| .r 5 <| .p 6 <| .p 7 <| .e true [(8, .done)]); exact mixed; kernel_rfl; kernel_rfl; exact Ent.refl) | (refine is_draw ?_; refine WC_draw mixed (by kernel_rfl) ?_))
            apply WO_k; rfl; (refine K_way (l := l.set k { l[k] with st := st, words := w }) (f := 0) (i := k) (j := 2) (w := { l[k] with st := st, words := .zero }) (by rfl) (by rfl) (by exact pb_wsl) (by rw [po_wsl]; omega) (by exact inferInstance) (by exact inferInstance) (by rfl) (by rfl) (by rw [List.length_set]; omega) (by decide) (by simp only [Nat.zero_add, List.getElem_set_self]; rfl)); refine same_intro ?_
            simp only [Nat.zero_add, List.set_set]
            repeat (first | rintro _ _ ⟨rfl, rfl⟩ | rintro _ _ ⟨_, rfl, rfl⟩ | rintro _ _ ⟨_, _, rfl, rfl⟩ | rintro _ _ ⟨_, _, _, _, rfl, rfl⟩ | intro _ | refine go ?_ | (refine is_draw ?_; apply WC_mix (id := 12) true _ (pl := .p 0 <| .p 1 <| .p 2 <| .p 4 <| .r 3 <| .r 5 <| .p 6 <| .p 7 <| .e true [(8, .done)]); exact mixed; kernel_rfl; kernel_rfl; exact Ent.refl) | (refine is_draw ?_; refine WC_draw mixed (by kernel_rfl) ?_))
            (apply WE_ret rfl rfl (by (repeat (first | exact ResOk.nil | (apply ResOk.tmp; rfl) | (apply resOk_cell; rfl; exact inferInstance; rfl; rfl)))))
            · exact ⟨rfl, rfl⟩
            · (apply arrr_in; (focus ((repeat (first | (with_reducible exact Ent.refl) | exact Ent.nil | (apply ent_pickE; (focus ((repeat (first | (with_reducible exact pk_here) | (apply pk_there))); done))) | apply Ent.drop)); done)); all_goals (first | rfl | (with_reducible assumption) | (simp; done) | (simp; omega) | omega | (constructor <;> (simp) <;> omega)))
          · rw [if_neg hz] at hI2 hn2
            rw [if_neg hz]
            repeat (first | rintro _ _ ⟨rfl, rfl⟩ | rintro _ _ ⟨_, rfl, rfl⟩ | rintro _ _ ⟨_, _, rfl, rfl⟩ | rintro _ _ ⟨_, _, _, _, rfl, rfl⟩ | intro _ | refine go ?_ | (refine is_draw ?_; apply WC_mix (id := 12) true _ (pl := .p 0 <| .p 1 <| .p 2 <| .p 4 <| .r 3 <| .r 5 <| .p 6 <| .p 7 <| .e true [(8, .done)]); exact mixed; kernel_rfl; kernel_rfl; exact Ent.refl) | (refine is_draw ?_; refine WC_draw mixed (by kernel_rfl) ?_))
            (apply WE_ret rfl rfl (by (repeat (first | exact ResOk.nil | (apply ResOk.tmp; rfl) | (apply resOk_cell; rfl; exact inferInstance; rfl; rfl)))))
            · exact ⟨rfl, rfl⟩
            · (apply arrr_in; (focus ((repeat (first | (with_reducible exact Ent.refl) | exact Ent.nil | (apply ent_pickE; (focus ((repeat (first | (with_reducible exact pk_here) | (apply pk_there))); done))) | apply Ent.drop)); done)); all_goals (first | rfl | (with_reducible assumption) | (simp; done) | (simp; omega) | omega | (constructor <;> (simp) <;> omega)))
end Go.Sx
