/- The document's arrays of ways, second part. My own work. -/
import Derived.Test.YtcjagmphobdbbaaArrR
namespace Go.Sx
open Go Go.Proofs
set_option linter.unusedVariables false
set_option linter.unusedSectionVars false
set_option linter.unusedSimpArgs false
set_option maxRecDepth 100000
set_option maxHeartbeats 4000000
attribute [local irreducible] Go.Exit.then Go.Exit.inBlock Go.Code.wp WC WO WE WQ V LoopQ FnQ Sat Star band bor IntKind.wrap WR Code.rounds WT KO
theorem arrF_tmod {c : Cfg} {line : Int} (h : okLine c line = true) : line.tmod c.sets * c.ways = (arrF c line : Int) ∨ c.ways < 0 := by
  by_cases hw : c.ways < 0
  · exact .inr hw
  · obtain ⟨s0, s1, s2, s3, s4⟩ := ok_set' h
    left
    unfold arrF
    rw [tmod_nn s3, Int.natCast_mul, Int.toNat_of_nonneg s0, Int.toNat_of_nonneg (by omega), s2]
theorem ref09_Free {F : List HP} {b : Nat} {c : Cfg} {l : List Way} {line : Int} :
    FnF Try.prog 52 [.pointer (some ⟨b, 0, none⟩), .int .i64 line] [ArrRP b c l] F (fun r L' => r = .int .i64 (arrFree c l line) ∧ L' = [ArrRP b c l]) := by
  refine FnF.mk' Try.func52 rfl rfl Try.ntmps52 rfl ?_
  refine arrr_open fun g hf => ?_
  obtain ⟨hc, hn, hI⟩ := hf
  obtain ⟨_, h4, h5, h6, h7, h8⟩ := arr_nums hc hn
  haveI kr := rd_arr (g := g) (T := 100) (l := l)
  cases h : okLine c line with
  | false =>
    have e1 : arrFree c l line = -1 := by unfold arrFree; rw [waysOf_no h]; rfl
    rw [e1]
    have hn' : line < 0 ∨ line ≥ c.lines := by
      by_cases hx : 0 ≤ line ∧ line < c.lines
      · rw [(okLine_iff hc).2 hx] at h; cases h
      · omega
    by_cases h0 : line < 0
    · repeat (first | rintro _ _ ⟨rfl, rfl⟩ | rintro _ _ ⟨_, rfl, rfl⟩ | rintro _ _ ⟨_, _, rfl, rfl⟩ | rintro _ _ ⟨_, _, _, _, rfl, rfl⟩ | intro _ | refine go ?_ | (refine is_draw ?_; apply WC_mix (id := 6) true _ (pl := .p 0 <| .p 1 <| .p 2 <| .p 4 <| .p 5 <| .p 6 <| .p 7 <| .p 8 <| .p 11 <| .p 12 <| .p 13 <| .p 14 <| .p 17 <| .r 3 <| .r 9 <| .p 10 <| .r 15 <| .p 16 <| .p 18 <| .p 19 <| .r 20 <| .e true [(21, .e true [(22, .done)])]); exact mixed; kernel_rfl; kernel_rfl; exact Ent.refl) | (refine is_draw ?_; refine WC_draw mixed (by kernel_rfl) ?_))
      (apply WE_ret rfl rfl (by (repeat (first | exact ResOk.nil | (apply ResOk.tmp; rfl) | (apply resOk_cell; rfl; exact inferInstance; rfl; rfl)))))
      · exact ⟨rfl, rfl⟩
      · (apply arrr_in; (focus ((repeat (first | (with_reducible exact Ent.refl) | exact Ent.nil | (apply ent_pickE; (focus ((repeat (first | (with_reducible exact pk_here) | (apply pk_there))); done))) | apply Ent.drop)); done)); all_goals (first | rfl | (with_reducible assumption) | (simp; done) | (simp; omega) | omega | (constructor <;> (simp) <;> omega)))
    · repeat (first | rintro _ _ ⟨rfl, rfl⟩ | rintro _ _ ⟨_, rfl, rfl⟩ | rintro _ _ ⟨_, _, rfl, rfl⟩ | rintro _ _ ⟨_, _, _, _, rfl, rfl⟩ | intro _ | refine go ?_ | (refine is_draw ?_; apply WC_mix (id := 6) true _ (pl := .p 0 <| .p 1 <| .p 2 <| .p 4 <| .p 5 <| .p 6 <| .p 7 <| .p 8 <| .p 11 <| .p 12 <| .p 13 <| .p 14 <| .p 17 <| .r 3 <| .r 9 <| .p 10 <| .r 15 <| .p 16 <| .p 18 <| .p 19 <| .r 20 <| .e true [(21, .e true [(22, .done)])]); exact mixed; kernel_rfl; kernel_rfl; exact Ent.refl) | (refine is_draw ?_; refine WC_draw mixed (by kernel_rfl) ?_))
      (apply WE_ret rfl rfl (by (repeat (first | exact ResOk.nil | (apply ResOk.tmp; rfl) | (apply resOk_cell; rfl; exact inferInstance; rfl; rfl)))))
      · exact ⟨rfl, rfl⟩
      · (apply arrr_in; (focus ((repeat (first | (with_reducible exact Ent.refl) | exact Ent.nil | (apply ent_pickE; (focus ((repeat (first | (with_reducible exact pk_here) | (apply pk_there))); done))) | apply Ent.drop)); done)); all_goals (first | rfl | (with_reducible assumption) | (simp; done) | (simp; omega) | omega | (constructor <;> (simp) <;> omega)))
  | true =>
    obtain ⟨g0, g1⟩ := (okLine_iff hc).1 h
    obtain ⟨k1, k2⟩ := ways_len hc hn h
    have et := (arrF_tmod h).resolve_right (by omega)
    have hg := fun i (hi : i < (waysOf c l line).length) => ways_get h hi
    unfold arrFree
    repeat (first | rintro _ _ ⟨rfl, rfl⟩ | rintro _ _ ⟨_, rfl, rfl⟩ | rintro _ _ ⟨_, _, rfl, rfl⟩ | rintro _ _ ⟨_, _, _, _, rfl, rfl⟩ | intro _ | refine go ?_ | (refine is_draw ?_; apply WC_mix (id := 6) true _ (pl := .p 0 <| .p 1 <| .p 2 <| .p 4 <| .p 5 <| .p 6 <| .p 7 <| .p 8 <| .p 11 <| .p 12 <| .p 13 <| .p 14 <| .p 17 <| .r 3 <| .r 9 <| .p 10 <| .r 15 <| .p 16 <| .p 18 <| .p 19 <| .r 20 <| .e true [(21, .e true [(22, .done)])]); exact mixed; kernel_rfl; kernel_rfl; exact Ent.refl) | (refine is_draw ?_; refine WC_draw mixed (by kernel_rfl) ?_))
    apply WC_loopE (E0 := [(0, _), (1, _)]) (fun E0 (i : Nat) => (5, .int .i64 i) :: E0) (fun _ => Cells b 109 (c.cells ++ [wsl g (0 * 11) l.length l.length]) :: Cells g 100 (flat wyc l) :: F) (fun i => i ≤ c.ways.toNat ∧ ∀ j (h : j < (waysOf c l line).length), j < i → (!thereB (waysOf c l line)[j]) = false) (fun i => c.ways.toNat - i) 0
    · (repeat (first | exact Sub.nil | (refine Sub.cons (by first | rfl | (simp only [Nat.zero_add]; rfl)) ?_)))
    · exact ⟨by omega, fun j _ hj => by omega⟩
    · (repeat (first | (with_reducible exact Ent.refl) | exact Ent.nil | (apply ent_pickE; (focus ((repeat (first | (with_reducible exact pk_here) | (apply pk_there))); done))) | apply Ent.drop))
    · rintro i ⟨hi, h1⟩
      by_cases hlt : i < c.ways.toNat
      · have hlw : i < (waysOf c l line).length := by omega
        obtain ⟨hb, eg⟩ := hg i hlw
        have next : (!thereB l[arrF c line + i]) = false → ∀ j (h : j < (waysOf c l line).length), j < i + 1 → (!thereB (waysOf c l line)[j]) = false := fun h0 j hj hji => by
          by_cases e : j = i
          · subst e; rw [eg]; exact h0
          · exact h1 j hj (by omega)
        have ek : (line.tmod c.sets * c.ways + (i : Int)).toNat = arrF c line + i := by omega
        (first | (refine WO_some (wsl g (0 * 11) l.length l.length) inferInstance (by omega) ?_; intro _) | (refine WC_some (wsl g (0 * 11) l.length l.length) inferInstance (by omega) ?_; intro _))
        repeat (first | rintro _ _ ⟨rfl, rfl⟩ | rintro _ _ ⟨_, rfl, rfl⟩ | rintro _ _ ⟨_, _, rfl, rfl⟩ | rintro _ _ ⟨_, _, _, _, rfl, rfl⟩ | intro _ | refine go ?_ | (refine is_draw ?_; apply WC_mix (id := 6) true _ (pl := .p 0 <| .p 1 <| .p 2 <| .p 4 <| .p 5 <| .p 6 <| .p 7 <| .p 8 <| .p 11 <| .p 12 <| .p 13 <| .p 14 <| .p 17 <| .r 3 <| .r 9 <| .p 10 <| .r 15 <| .p 16 <| .p 18 <| .p 19 <| .r 20 <| .e true [(21, .e true [(22, .done)])]); exact mixed; kernel_rfl; kernel_rfl; exact Ent.refl) | (refine is_draw ?_; refine WC_draw mixed (by kernel_rfl) ?_))
        simp only [ek]
        generalize ew : l[arrF c line + i] = w at *
        by_cases g2 : w.st = 0
        · cases g3 : w.lk with
          | false =>
            have he : (!thereB (waysOf c l line)[i]) = true := by simp [eg, thereB, g2, g3]
            repeat (first | rintro _ _ ⟨rfl, rfl⟩ | rintro _ _ ⟨_, rfl, rfl⟩ | rintro _ _ ⟨_, _, rfl, rfl⟩ | rintro _ _ ⟨_, _, _, _, rfl, rfl⟩ | intro _ | refine go ?_ | (refine is_draw ?_; apply WC_mix (id := 6) true _ (pl := .p 0 <| .p 1 <| .p 2 <| .p 4 <| .p 5 <| .p 6 <| .p 7 <| .p 8 <| .p 11 <| .p 12 <| .p 13 <| .p 14 <| .p 17 <| .r 3 <| .r 9 <| .p 10 <| .r 15 <| .p 16 <| .p 18 <| .p 19 <| .r 20 <| .e true [(21, .e true [(22, .done)])]); exact mixed; kernel_rfl; kernel_rfl; exact Ent.refl) | (refine is_draw ?_; refine WC_draw mixed (by kernel_rfl) ?_))
            (apply WE_ret rfl rfl (by (repeat (first | exact ResOk.nil | (apply ResOk.tmp; rfl) | (apply resOk_cell; rfl; exact inferInstance; rfl; rfl)))))
            · exact ⟨by rw [indexBy_at hlw h1 he]; rfl, rfl⟩
            · (apply arrr_in; (focus ((repeat (first | (with_reducible exact Ent.refl) | exact Ent.nil | (apply ent_pickE; (focus ((repeat (first | (with_reducible exact pk_here) | (apply pk_there))); done))) | apply Ent.drop)); done)); all_goals (first | rfl | (with_reducible assumption) | (simp; done) | (simp; omega) | omega | (constructor <;> (simp) <;> omega)))
          | true =>
            have he : (!thereB w) = false := by simp [thereB, g2, g3]
            repeat (first | rintro _ _ ⟨rfl, rfl⟩ | rintro _ _ ⟨_, rfl, rfl⟩ | rintro _ _ ⟨_, _, rfl, rfl⟩ | rintro _ _ ⟨_, _, _, _, rfl, rfl⟩ | intro _ | refine go ?_ | (refine is_draw ?_; apply WC_mix (id := 6) true _ (pl := .p 0 <| .p 1 <| .p 2 <| .p 4 <| .p 5 <| .p 6 <| .p 7 <| .p 8 <| .p 11 <| .p 12 <| .p 13 <| .p 14 <| .p 17 <| .r 3 <| .r 9 <| .p 10 <| .r 15 <| .p 16 <| .p 18 <| .p 19 <| .r 20 <| .e true [(21, .e true [(22, .done)])]); exact mixed; kernel_rfl; kernel_rfl; exact Ent.refl) | (refine is_draw ?_; refine WC_draw mixed (by kernel_rfl) ?_))
            refine WE_loop (i + 1) (by omega) ⟨by omega, next he⟩ ?_ ?_
            · (repeat (first | exact Sub.nil | (refine Sub.cons (by first | rfl | (simp only [Nat.zero_add]; rfl)) ?_)))
            · (repeat (first | (with_reducible exact Ent.refl) | exact Ent.nil | (apply ent_pickE; (focus ((repeat (first | (with_reducible exact pk_here) | (apply pk_there))); done))) | apply Ent.drop))
        · have he : (!thereB w) = false := by simp [thereB, g2]
          repeat (first | rintro _ _ ⟨rfl, rfl⟩ | rintro _ _ ⟨_, rfl, rfl⟩ | rintro _ _ ⟨_, _, rfl, rfl⟩ | rintro _ _ ⟨_, _, _, _, rfl, rfl⟩ | intro _ | refine go ?_ | (refine is_draw ?_; apply WC_mix (id := 6) true _ (pl := .p 0 <| .p 1 <| .p 2 <| .p 4 <| .p 5 <| .p 6 <| .p 7 <| .p 8 <| .p 11 <| .p 12 <| .p 13 <| .p 14 <| .p 17 <| .r 3 <| .r 9 <| .p 10 <| .r 15 <| .p 16 <| .p 18 <| .p 19 <| .r 20 <| .e true [(21, .e true [(22, .done)])]); exact mixed; kernel_rfl; kernel_rfl; exact Ent.refl) | (refine is_draw ?_; refine WC_draw mixed (by kernel_rfl) ?_))
          refine WE_loop (i + 1) (by omega) ⟨by omega, next he⟩ ?_ ?_
          · (repeat (first | exact Sub.nil | (refine Sub.cons (by first | rfl | (simp only [Nat.zero_add]; rfl)) ?_)))
          · (repeat (first | (with_reducible exact Ent.refl) | exact Ent.nil | (apply ent_pickE; (focus ((repeat (first | (with_reducible exact pk_here) | (apply pk_there))); done))) | apply Ent.drop))
      · have hil : i = c.ways.toNat := by omega
        subst hil
        repeat (first | rintro _ _ ⟨rfl, rfl⟩ | rintro _ _ ⟨_, rfl, rfl⟩ | rintro _ _ ⟨_, _, rfl, rfl⟩ | rintro _ _ ⟨_, _, _, _, rfl, rfl⟩ | intro _ | refine go ?_ | (refine is_draw ?_; apply WC_mix (id := 6) true _ (pl := .p 0 <| .p 1 <| .p 2 <| .p 4 <| .p 5 <| .p 6 <| .p 7 <| .p 8 <| .p 11 <| .p 12 <| .p 13 <| .p 14 <| .p 17 <| .r 3 <| .r 9 <| .p 10 <| .r 15 <| .p 16 <| .p 18 <| .p 19 <| .r 20 <| .e true [(21, .e true [(22, .done)])]); exact mixed; kernel_rfl; kernel_rfl; exact Ent.refl) | (refine is_draw ?_; refine WC_draw mixed (by kernel_rfl) ?_))
        (apply WE_ret rfl rfl (by (repeat (first | exact ResOk.nil | (apply ResOk.tmp; rfl) | (apply resOk_cell; rfl; exact inferInstance; rfl; rfl)))))
        · exact ⟨by rw [indexBy_none (fun j hj _ => h1 j hj (by omega))]; rfl, rfl⟩
        · (apply arrr_in; (focus ((repeat (first | (with_reducible exact Ent.refl) | exact Ent.nil | (apply ent_pickE; (focus ((repeat (first | (with_reducible exact pk_here) | (apply pk_there))); done))) | apply Ent.drop)); done)); all_goals (first | rfl | (with_reducible assumption) | (simp; done) | (simp; omega) | omega | (constructor <;> (simp) <;> omega)))
theorem ref09_Lock {F : List HP} {b : Nat} {c : Cfg} {l : List Way} {line : Int} {lk : Bool} :
    FnF Try.prog 48 [.pointer (some ⟨b, 0, none⟩), .int .i64 line, .bool lk] [ArrRP b c l] F (fun r L' => r = .int .i64 (lockE c l line) ∧ L' = [ArrRP b c (lockL c l line lk)]) := by
  refine FnF.mk' Try.func48 rfl rfl Try.ntmps48 rfl ?_
  refine arrr_open fun g hf => ?_
  obtain ⟨hc, hn, hI⟩ := hf
  obtain ⟨_, h4, h5, _, _, h8⟩ := arr_nums hc hn
  have hI2 : ArrInv c (lockL c l line lk) := lockL_inv hI
  have hn2 : ((lockL c l line lk).length : Int) = c.sets * c.ways := by rw [lockL_len]; exact hn
  have hP := fun F => ref09_placeO (F := F) (b := b) (g := g) (line := line) h8 hI
  haveI kr := rd_arr (g := g) (T := 100) (l := l)
  by_cases hp : arrP c l line = -1
  · have e4 : arrG c l line = -1 := if_pos (by omega)
    rw [e4] at hP
    have e1 : lockE c l line = 5 := if_pos hp
    have e2 : lockL c l line lk = l := by unfold lockL; rw [e1]; rfl
    rw [e1, e2]
    repeat (first | rintro _ _ ⟨rfl, rfl⟩ | rintro _ _ ⟨_, rfl, rfl⟩ | rintro _ _ ⟨_, _, rfl, rfl⟩ | rintro _ _ ⟨_, _, _, _, rfl, rfl⟩ | intro _ | refine go ?_ | (refine is_draw ?_; refine WC_draw mixed (by kernel_rfl) ?_) | refine cal @hP ?_)
    (apply WE_ret rfl rfl (by (repeat (first | exact ResOk.nil | (apply ResOk.tmp; rfl) | (apply resOk_cell; rfl; exact inferInstance; rfl; rfl)))))
    · exact ⟨rfl, rfl⟩
    · (apply arrr_in; (focus ((repeat (first | (with_reducible exact Ent.refl) | exact Ent.nil | (apply ent_pickE; (focus ((repeat (first | (with_reducible exact pk_here) | (apply pk_there))); done))) | apply Ent.drop)); done)); all_goals (first | rfl | (with_reducible assumption) | (simp; done) | (simp; omega) | omega | (constructor <;> (simp) <;> omega)))
  · have h0 : 0 ≤ arrP c l line := by have := (arrP_lt c l line).1; omega
    obtain ⟨i, hi⟩ : ∃ i : Nat, arrP c l line = i := ⟨(arrP c l line).toNat, by omega⟩
    obtain ⟨h2, hok, h3, h4'⟩ := arrP_at hi
    have ew := findW_at hi h2
    have e4 : arrG c l line = ((arrF c line + i : Nat) : Int) := by unfold arrG; rw [if_neg (by omega), hi]; omega
    have e1 : lockE c l line = 0 := if_neg hp
    have e2 : lockL c l line lk = l.set (arrF c line + i) { l[arrF c line + i] with lk := lk } := by unfold lockL; rw [e1, hi, Int.toNat_natCast, ew]; rfl
    rw [e4] at hP
    rw [e1]
    rw [e2] at hI2 hn2 ⊢
    generalize arrF c line + i = k at *
    (first | (refine WO_some (wsl g (0 * 11) l.length l.length) inferInstance (by omega) ?_; intro _) | (refine WC_some (wsl g (0 * 11) l.length l.length) inferInstance (by omega) ?_; intro _))
    repeat (first | rintro _ _ ⟨rfl, rfl⟩ | rintro _ _ ⟨_, rfl, rfl⟩ | rintro _ _ ⟨_, _, rfl, rfl⟩ | rintro _ _ ⟨_, _, _, _, rfl, rfl⟩ | intro _ | refine go ?_ | (refine is_draw ?_; refine WC_draw mixed (by kernel_rfl) ?_) | refine cal @hP ?_)
    apply WO_k; rfl; (refine K_way (l := l) (f := 0) (i := k) (j := 10) (w := { l[k] with lk := lk }) (by rfl) (by rfl) (by exact pb_wsl) (by rw [po_wsl]; omega) (by exact inferInstance) (by exact inferInstance) (by rfl) (by rfl) (by omega) (by decide) (by simp only [Nat.zero_add]; rfl)); refine same_intro ?_
    simp only [Nat.zero_add]
    repeat (first | rintro _ _ ⟨rfl, rfl⟩ | rintro _ _ ⟨_, rfl, rfl⟩ | rintro _ _ ⟨_, _, rfl, rfl⟩ | rintro _ _ ⟨_, _, _, _, rfl, rfl⟩ | intro _ | refine go ?_ | (refine is_draw ?_; refine WC_draw mixed (by kernel_rfl) ?_))
    (apply WE_ret rfl rfl (by (repeat (first | exact ResOk.nil | (apply ResOk.tmp; rfl) | (apply resOk_cell; rfl; exact inferInstance; rfl; rfl)))))
    · exact ⟨rfl, rfl⟩
    · (apply arrr_in; (focus ((repeat (first | (with_reducible exact Ent.refl) | exact Ent.nil | (apply ent_pickE; (focus ((repeat (first | (with_reducible exact pk_here) | (apply pk_there))); done))) | apply Ent.drop)); done)); all_goals (first | rfl | (with_reducible assumption) | (simp; done) | (simp; omega) | omega | (constructor <;> (simp) <;> omega)))
theorem ref09_Lay {F : List HP} {b : Nat} {c : Cfg} {l : List Way} {line way : Int} :
    FnF Try.prog 46 [.pointer (some ⟨b, 0, none⟩), .int .i64 line, .int .i64 way] [ArrRP b c l] F (fun r L' => r = .int .i64 (layE c l line way) ∧ L' = [ArrRP b c (layL c l line way)]) := by
  refine FnF.mk' Try.func46 rfl rfl Try.ntmps46 rfl ?_
  refine arrr_open fun g hf => ?_
  obtain ⟨hc, hn, hI⟩ := hf
  obtain ⟨_, h4, h5, h6, h7, h8⟩ := arr_nums hc hn
  have hI2 : ArrInv c (layL c l line way) := layL_inv hI
  have hn2 : ((layL c l line way).length : Int) = c.sets * c.ways := by rw [layL_len]; exact hn
  have hP := fun F => ref09_placeO (F := F) (b := b) (g := g) (line := line) h8 hI
  haveI kr := rd_arr (g := g) (T := 100) (l := l)
  by_cases h0 : (0 ≤ line ∧ line < c.lines) ∧ 0 ≤ way ∧ way < c.ways
  · obtain ⟨⟨g0, g1⟩, g2, g3⟩ := h0
    have h := (okLine_iff hc).2 ⟨g0, g1⟩
    obtain ⟨k1, k2⟩ := ways_len hc hn h
    have et := (arrF_tmod h).resolve_right (by omega)
    obtain ⟨i, rfl⟩ : ∃ i : Nat, way = i := ⟨way.toNat, by omega⟩
    have hi : i < (waysOf c l line).length := by omega
    have h0 : 0 ≤ (i : Int) ∧ (i : Int) < (waysOf c l line).length := by omega
    obtain ⟨hi2, eg⟩ := ways_get h hi
    have hg : (waysOf c l line).getD i .zero = (waysOf c l line)[i] := (getD_at hi).symm
    by_cases hp : arrP c l line = -1
    · have e4 : arrG c l line = -1 := if_pos (by omega)
      rw [e4] at hP
      have ek : (line.tmod c.sets * c.ways + (i : Int)).toNat = arrF c line + i := by omega
      have ex : layE c l line i = if thereB l[arrF c line + i] then 4 else 0 := by unfold layE; rw [if_pos h0, if_pos hp, Int.toNat_natCast, hg, eg]
      have ey : layL c l line i = if thereB l[arrF c line + i] then l else l.set (arrF c line + i) ⟨0, line, .zero, true⟩ := by unfold layL; rw [ex, Int.toNat_natCast]; split <;> rfl
      rw [ey] at hI2 hn2 ⊢
      rw [ex]
      generalize hk : arrF c line + i = k at *
      (first | (refine WO_some (wsl g (0 * 11) l.length l.length) inferInstance (by omega) ?_; intro _) | (refine WC_some (wsl g (0 * 11) l.length l.length) inferInstance (by omega) ?_; intro _))
      repeat (first | rintro _ _ ⟨rfl, rfl⟩ | rintro _ _ ⟨_, rfl, rfl⟩ | rintro _ _ ⟨_, _, rfl, rfl⟩ | rintro _ _ ⟨_, _, _, _, rfl, rfl⟩ | intro _ | refine go ?_ | (refine is_draw ?_; refine WC_draw mixed (by kernel_rfl) ?_) | refine cal @hP ?_)
      simp only [ek]
      by_cases g4 : l[k].st = 0
      · cases g5 : l[k].lk with
        | true =>
          have he : thereB l[k] = true := by simp [thereB, g4, g5]
          rw [he] at hI2 hn2 ⊢
          repeat (first | rintro _ _ ⟨rfl, rfl⟩ | rintro _ _ ⟨_, rfl, rfl⟩ | rintro _ _ ⟨_, _, rfl, rfl⟩ | rintro _ _ ⟨_, _, _, _, rfl, rfl⟩ | intro _ | refine go ?_ | (refine is_draw ?_; refine WC_draw mixed (by kernel_rfl) ?_))
          simp only [ek]
          repeat (first | rintro _ _ ⟨rfl, rfl⟩ | rintro _ _ ⟨_, rfl, rfl⟩ | rintro _ _ ⟨_, _, rfl, rfl⟩ | rintro _ _ ⟨_, _, _, _, rfl, rfl⟩ | intro _ | refine go ?_ | (refine is_draw ?_; refine WC_draw mixed (by kernel_rfl) ?_))
          (apply WE_ret rfl rfl (by (repeat (first | exact ResOk.nil | (apply ResOk.tmp; rfl) | (apply resOk_cell; rfl; exact inferInstance; rfl; rfl)))))
          · exact ⟨rfl, rfl⟩
          · (apply arrr_in; (focus ((repeat (first | (with_reducible exact Ent.refl) | exact Ent.nil | (apply ent_pickE; (focus ((repeat (first | (with_reducible exact pk_here) | (apply pk_there))); done))) | apply Ent.drop)); done)); all_goals (first | rfl | (with_reducible assumption) | (simp; done) | (simp; omega) | omega | (constructor <;> (simp) <;> omega)))
        | false =>
          have he : thereB l[k] = false := by simp [thereB, g4, g5]
          rw [he] at hI2 hn2 ⊢
          repeat (first | rintro _ _ ⟨rfl, rfl⟩ | rintro _ _ ⟨_, rfl, rfl⟩ | rintro _ _ ⟨_, _, rfl, rfl⟩ | rintro _ _ ⟨_, _, _, _, rfl, rfl⟩ | intro _ | refine go ?_ | (refine is_draw ?_; refine WC_draw mixed (by kernel_rfl) ?_))
          simp only [ek]
          repeat (first | rintro _ _ ⟨rfl, rfl⟩ | rintro _ _ ⟨_, rfl, rfl⟩ | rintro _ _ ⟨_, _, rfl, rfl⟩ | rintro _ _ ⟨_, _, _, _, rfl, rfl⟩ | intro _ | refine go ?_ | (refine is_draw ?_; refine WC_draw mixed (by kernel_rfl) ?_))
          simp only [ek]
          apply WO_k; rfl; (refine K_way (l := l) (f := 0) (i := k) (j := 0) (w := ⟨0, line, .zero, true⟩) (by rfl) (by rfl) (by exact pb_wsl) (by rw [po_wsl]; omega) (by exact inferInstance) (by exact inferInstance) (by rfl) (by rfl) (by omega) (by decide) (by simp only [Nat.zero_add]; rfl)); refine same_intro ?_
          simp only [Nat.zero_add]
          repeat (first | rintro _ _ ⟨rfl, rfl⟩ | rintro _ _ ⟨_, rfl, rfl⟩ | rintro _ _ ⟨_, _, rfl, rfl⟩ | rintro _ _ ⟨_, _, _, _, rfl, rfl⟩ | intro _ | refine go ?_ | (refine is_draw ?_; refine WC_draw mixed (by kernel_rfl) ?_))
          (apply WE_ret rfl rfl (by (repeat (first | exact ResOk.nil | (apply ResOk.tmp; rfl) | (apply resOk_cell; rfl; exact inferInstance; rfl; rfl)))))
          · exact ⟨rfl, rfl⟩
          · (apply arrr_in; (focus ((repeat (first | (with_reducible exact Ent.refl) | exact Ent.nil | (apply ent_pickE; (focus ((repeat (first | (with_reducible exact pk_here) | (apply pk_there))); done))) | apply Ent.drop)); done)); all_goals (first | rfl | (with_reducible assumption) | (simp; done) | (simp; omega) | omega | (constructor <;> (simp) <;> omega)))
      · have he : thereB l[k] = true := by simp [thereB, g4]
        rw [he] at hI2 hn2 ⊢
        repeat (first | rintro _ _ ⟨rfl, rfl⟩ | rintro _ _ ⟨_, rfl, rfl⟩ | rintro _ _ ⟨_, _, rfl, rfl⟩ | rintro _ _ ⟨_, _, _, _, rfl, rfl⟩ | intro _ | refine go ?_ | (refine is_draw ?_; refine WC_draw mixed (by kernel_rfl) ?_))
        (apply WE_ret rfl rfl (by (repeat (first | exact ResOk.nil | (apply ResOk.tmp; rfl) | (apply resOk_cell; rfl; exact inferInstance; rfl; rfl)))))
        · exact ⟨rfl, rfl⟩
        · (apply arrr_in; (focus ((repeat (first | (with_reducible exact Ent.refl) | exact Ent.nil | (apply ent_pickE; (focus ((repeat (first | (with_reducible exact pk_here) | (apply pk_there))); done))) | apply Ent.drop)); done)); all_goals (first | rfl | (with_reducible assumption) | (simp; done) | (simp; omega) | omega | (constructor <;> (simp) <;> omega)))
    · have e1 : layE c l line i = 6 := by unfold layE; rw [if_pos h0, if_neg hp]
      have e2 : layL c l line i = l := by unfold layL; rw [e1]; rfl
      have e4 : 0 ≤ arrG c l line := by have := (arrP_lt c l line).1; unfold arrG; rw [if_neg (by omega)]; omega
      rw [e1, e2]
      generalize arrG c l line = gg at *
      repeat (first | rintro _ _ ⟨rfl, rfl⟩ | rintro _ _ ⟨_, rfl, rfl⟩ | rintro _ _ ⟨_, _, rfl, rfl⟩ | rintro _ _ ⟨_, _, _, _, rfl, rfl⟩ | intro _ | refine go ?_ | (refine is_draw ?_; refine WC_draw mixed (by kernel_rfl) ?_) | refine cal @hP ?_)
      (apply WE_ret rfl rfl (by (repeat (first | exact ResOk.nil | (apply ResOk.tmp; rfl) | (apply resOk_cell; rfl; exact inferInstance; rfl; rfl)))))
      · exact ⟨rfl, rfl⟩
      · (apply arrr_in; (focus ((repeat (first | (with_reducible exact Ent.refl) | exact Ent.nil | (apply ent_pickE; (focus ((repeat (first | (with_reducible exact pk_here) | (apply pk_there))); done))) | apply Ent.drop)); done)); all_goals (first | rfl | (with_reducible assumption) | (simp; done) | (simp; omega) | omega | (constructor <;> (simp) <;> omega)))
  · have hw0 : ¬ (0 ≤ way ∧ way < (waysOf c l line).length) := by
      intro hh
      cases h : okLine c line with
      | true =>
        obtain ⟨k1, k2⟩ := ways_len hc hn h
        exact h0 ⟨(okLine_iff hc).1 h, by omega⟩
      | false => rw [waysOf_no h] at hh; simp only [List.length_nil] at hh; omega
    have e1 : layE c l line way = 1 := if_neg hw0
    have e2 : layL c l line way = l := by unfold layL; rw [e1]; rfl
    rw [e1, e2]
    repeat' (first | rintro _ _ ⟨rfl, rfl⟩ | rintro _ _ ⟨_, rfl, rfl⟩ | rintro _ _ ⟨_, _, rfl, rfl⟩ | rintro _ _ ⟨_, _, _, _, rfl, rfl⟩ | intro _ | refine go ?_ | (refine is_draw ?_; refine WC_draw mixed (by kernel_rfl) ?_) | refine cal @hP ?_ | refine spl ?_ ?_ | fail)
    all_goals first | (exfalso; omega) | skip
    all_goals (apply WE_ret rfl rfl (by (repeat (first | exact ResOk.nil | (apply ResOk.tmp; rfl) | (apply resOk_cell; rfl; exact inferInstance; rfl; rfl)))))
    all_goals first | exact ⟨rfl, rfl⟩ | (apply arrr_in; (focus ((repeat (first | (with_reducible exact Ent.refl) | exact Ent.nil | (apply ent_pickE; (focus ((repeat (first | (with_reducible exact pk_here) | (apply pk_there))); done))) | apply Ent.drop)); done)); all_goals (first | rfl | (with_reducible assumption) | (simp; done) | (simp; omega) | omega | (constructor <;> (simp) <;> omega)))
end Go.Sx
