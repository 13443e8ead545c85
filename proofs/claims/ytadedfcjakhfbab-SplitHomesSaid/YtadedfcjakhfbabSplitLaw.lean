/- The laws of chapter 2. My own work. -/
import Derived.Test.YtadedfcjakhfbabSplitR
namespace Go.Sx
open Go Go.Proofs
set_option linter.unusedVariables false
set_option maxRecDepth 100000
attribute [local irreducible] Go.Exit.then Go.Exit.inBlock Go.Code.wp WC WO WE WQ V LoopQ FnQ Sat Star band bor IntKind.wrap WR Code.rounds WT KO

def c02 : Cfg := ⟨1, 2, 4, 1, 4, 16, 0, 1, 1, 1, 1, 1, 1⟩

theorem law02_awake {F : List HP} : FnF Try.prog 15 [] [] F (fun r L' => r = .bool true ∧ L' = []) := by
  refine FnF.mk' Try.func15 rfl rfl Try.ntmps15 rfl ?_
  repeat (first | rintro _ _ ⟨rfl, rfl⟩ | rintro _ _ ⟨_, rfl, rfl⟩ | rintro _ _ ⟨_, _, rfl, rfl⟩ | intro _ | refine go ?_ | (refine is_draw ?_; refine WC_draw mixed (by kernel_rfl) ?_) | refine cal (split_Addr (c := c02)) ?_ | refine cal (split_Line (c := c02)) ?_ | refine cal (split_Join (c := c02)) ?_ | refine cal (split_Tagged (c := c02)) ?_ | refine cal (split_Lines (c := c02)) ?_)
  (apply WE_ret rfl rfl (by (repeat (first | exact ResOk.nil | (apply ResOk.tmp; rfl) | (apply resOk_cell; rfl; exact inferInstance; rfl; rfl)))); (first | exact ⟨rfl, rfl⟩ | exact ⟨congrArg Value.bool (by decide), rfl⟩ | exact ⟨_, rfl, rfl⟩ | exact ⟨_, _, rfl, rfl⟩ | exact ⟨by first | (simp []; done) | (simp [] <;> omega), rfl⟩); (repeat (first | exact Ent.refl | exact Ent.nil | apply Ent.pick | apply Ent.drop)))

theorem law02_SplitTells {F : List HP} {c : Cfg} {a b : Int} (hc : c.wf) (ha : I64 a) (hb : I64 b) : FnF Try.prog 3 [c.val, .int .i64 a, .int .i64 b] [] F (fun r L' => r = .bool true ∧ L' = []) := by
  have hlen : (linesL c a).length ≤ 1099511627776 := by
    unfold linesL
    split
    · rename_i h
      simp only [Bool.and_eq_true, decide_eq_true_eq] at h
      have hb := cfg_bd h.1
      rw [rowN_len]
      unfold cntN
      exact Nat.le_trans (Nat.div_le_self _ _) (by omega)
    · simp
  refine FnF.mk' Try.func3 rfl rfl Try.ntmps3 rfl ?_
  repeat (first | rintro _ _ ⟨rfl, rfl⟩ | rintro _ _ ⟨_, rfl, rfl⟩ | rintro _ _ ⟨_, _, rfl, rfl⟩ | intro _ | refine go ?_ | (refine is_draw ?_; apply WC_mix false _ (pl := .p 0 <| .p 1 <| .p 2 <| .p 3 <| .p 4 <| .p 5 <| .p 6 <| .p 7 <| .p 8 <| .p 9 <| .p 10 <| .p 11 <| .p 12 <| .p 13 <| .p 14 <| .p 15 <| .p 16 <| .p 17 <| .p 18 <| .p 19 <| .p 20 <| .p 21 <| .p 22 <| .p 23 <| .p 24 <| .p 25 <| .p 26 <| .p 27 <| .p 28 <| .p 29 <| .p 30 <| .p 31 <| .p 32 <| .p 33 <| .p 34 <| .p 35 <| .p 36 <| .p 37 <| .p 38 <| .p 39 <| .p 40 <| .p 41 <| .p 42 <| .p 43 <| .p 44 <| .p 45 <| .p 46 <| .p 47 <| .p 48 <| .p 49 <| .p 50 <| .p 51 <| .p 52 <| .p 53 <| .p 55 <| .p 58 <| .r 54 <| .r 57 <| .e true [(56, .e true [(59, .e true [(60, .p 61 <| .p 62 <| .done)])])]); exact mixed; kernel_rfl; kernel_rfl; exact Ent.refl) | (refine is_draw ?_; refine WC_draw mixed (by kernel_rfl) ?_) | refine cal @law02_awake ?_ | refine cal @split_Addr ?_ | refine cal @ref02_Addr ?_ | refine cal @split_Line ?_ | refine cal @ref02_Line ?_ | refine cal @split_Join ?_ | refine cal @ref02_Join ?_ | refine cal @split_Tagged ?_ | refine cal @ref02_Tagged ?_ | refine cal @split_Lines ?_ | refine cal @ref02_Lines ?_ | refine cal @ref02_Same ?_)
  (apply WE_ret rfl rfl (by (repeat (first | exact ResOk.nil | (apply ResOk.tmp; rfl) | (apply resOk_cell; rfl; exact inferInstance; rfl; rfl)))); (first | exact ⟨rfl, rfl⟩ | exact ⟨congrArg Value.bool (by decide), rfl⟩ | exact ⟨_, rfl, rfl⟩ | exact ⟨_, _, rfl, rfl⟩ | exact ⟨by first | (simp []; done) | (simp [] <;> omega), rfl⟩); (repeat (first | exact Ent.refl | exact Ent.nil | apply Ent.pick | apply Ent.drop)))

theorem okJoin_back {c : Cfg} {a : Int} (e : okAddr c a = true) : joinN c (addrL c a) (addrW c a) = a ∧ joinE c (addrL c a) (addrW c a) = 0 ∧ okLine c (addrL c a) = true ∧ 0 ≤ addrW c a ∧ addrW c a < c.words := by
  obtain ⟨h1, h2, h3⟩ := addr_big e
  have hb := cfg_bd h1
  have r1 : addrL c a = a / c.words := by simp [addrL, e]
  have r2 : addrW c a = a % c.words := by simp [addrW, e]
  have q1 : 0 ≤ a / c.words := Int.ediv_nonneg h2 (by omega)
  have q2 : a / c.words < c.lines := Int.ediv_lt_of_lt_mul (by omega) (by rw [Int.mul_comm]; exact h3)
  have q3 := Int.emod_nonneg a (show c.words ≠ 0 by omega)
  have q4 := Int.emod_lt_of_pos a (show 0 < c.words by omega)
  have e0 : okJoin c (a / c.words) (a % c.words) = true := by simp only [okJoin, h1, Bool.true_and, decide_eq_true_eq]; omega
  have e1 : okLine c (a / c.words) = true := by simp only [okLine, h1, Bool.true_and, decide_eq_true_eq]; omega
  rw [r1, r2]
  refine ⟨?_, by simp [joinE, e0], e1, q3, q4⟩
  have := Int.mul_ediv_add_emod a c.words
  rw [Int.mul_comm] at this
  simp [joinN, e0, this]
theorem okTag_back {c : Cfg} {l : Int} (e : okLine c l = true) : tagN c (lineS c l) (lineT c l) = l ∧ tagE c (lineS c l) (lineT c l) = 0 ∧ lineE c l = 0 ∧ 0 ≤ lineS c l ∧ lineS c l < c.sets := by
  obtain ⟨h1, h2, h3⟩ := line_big e
  have hb := cfg_bd h1
  have r1 : lineS c l = l % c.sets := by simp [lineS, e]
  have r2 : lineT c l = l / c.sets := by simp [lineT, e]
  obtain ⟨g1, g2, g3, g4⟩ := (tag_iff (c := c) (s := l % c.sets) (t := l / c.sets) (i := l) (by omega) h2).1 ⟨rfl, rfl⟩
  have e0 : okTag c (l % c.sets) (l / c.sets) = true := by simp only [okTag, h1, Bool.true_and, decide_eq_true_eq]; omega
  rw [r1, r2]
  exact ⟨by simp [tagN, e0, g4], by simp [tagE, e0], by simp [lineE, e], g1, g2⟩
theorem small_line {c : Cfg} {l : Int} (e : okLine c l = true) : I64 l ∧ I64 (lineS c l) ∧ I64 (lineT c l) := by
  obtain ⟨h1, h2, h3⟩ := line_big e
  have hb := cfg_bd h1
  have r2 : lineT c l = l / c.sets := by simp [lineT, e]
  obtain ⟨_, _, _, q1, q2⟩ := okTag_back e
  have q3 : 0 ≤ l / c.sets := Int.ediv_nonneg h2 (by omega)
  have q4 := Int.ediv_le_self c.sets h2
  unfold I64; rw [r2]; omega

theorem law02_SplitBack {F : List HP} {c : Cfg} {a : Int} (hc : c.wf) (ha : I64 a) : FnF Try.prog 4 [c.val, .int .i64 a] [] F (fun r L' => r = .bool true ∧ L' = []) := by
  cases e : okAddr c a with
  | false =>
    have r0 : addrE c a = 1 := by simp [addrE, e]
    have r1 : addrL c a = 0 := by simp [addrL, e]
    have r2 : addrW c a = 0 := by simp [addrW, e]
    have hA := fun F => split_Addr (F := F) hc ha
    simp only [r0, r1, r2] at hA
    refine FnF.mk' Try.func4 rfl rfl Try.ntmps4 rfl ?_
    repeat (first | rintro _ _ ⟨rfl, rfl⟩ | rintro _ _ ⟨_, rfl, rfl⟩ | rintro _ _ ⟨_, _, rfl, rfl⟩ | intro _ | refine go ?_ | (refine is_draw ?_; refine WC_draw mixed (by kernel_rfl) ?_) | refine cal @law02_awake ?_ | refine cal @hA ?_)
    (apply WE_ret rfl rfl (by (repeat (first | exact ResOk.nil | (apply ResOk.tmp; rfl) | (apply resOk_cell; rfl; exact inferInstance; rfl; rfl)))); (first | exact ⟨rfl, rfl⟩ | exact ⟨congrArg Value.bool (by decide), rfl⟩ | exact ⟨_, rfl, rfl⟩ | exact ⟨_, _, rfl, rfl⟩ | exact ⟨by first | (simp []; done) | (simp [] <;> omega), rfl⟩); (repeat (first | exact Ent.refl | exact Ent.nil | apply Ent.pick | apply Ent.drop)))
  | true =>
    obtain ⟨j1, j2, j3, j4, j5⟩ := okJoin_back e
    obtain ⟨t1, t2, t3, t4, t5⟩ := okTag_back j3
    obtain ⟨s1, s2, s3⟩ := small_line j3
    have r0 : addrE c a = 0 := by simp [addrE, e]
    have hb := cfg_bd (addr_big e).1
    have s4 : I64 (addrW c a) := by unfold I64; omega
    have hA := fun F => split_Addr (F := F) hc ha
    simp only [r0] at hA
    refine FnF.mk' Try.func4 rfl rfl Try.ntmps4 rfl ?_
    repeat (first | rintro _ _ ⟨rfl, rfl⟩ | rintro _ _ ⟨_, rfl, rfl⟩ | rintro _ _ ⟨_, _, rfl, rfl⟩ | intro _ | refine go ?_ | (refine is_draw ?_; refine WC_draw mixed (by kernel_rfl) ?_) | refine cal @law02_awake ?_ | refine cal @hA ?_ | refine cal @split_Join ?_ | refine cal @split_Line ?_ | refine cal @split_Tagged ?_)
    (apply WE_ret rfl rfl (by (repeat (first | exact ResOk.nil | (apply ResOk.tmp; rfl) | (apply resOk_cell; rfl; exact inferInstance; rfl; rfl)))); (first | exact ⟨rfl, rfl⟩ | exact ⟨congrArg Value.bool (by decide), rfl⟩ | exact ⟨_, rfl, rfl⟩ | exact ⟨_, _, rfl, rfl⟩ | exact ⟨by first | (simp [t5]; done) | (simp [t5] <;> omega), rfl⟩); (repeat (first | exact Ent.refl | exact Ent.nil | apply Ent.pick | apply Ent.drop)))

def sumC (n H : Nat) : Nat → Nat
  | 0 => 0
  | h + 1 => sumC n H h + cntN n h H
theorem sumC_zero (H : Nat) : ∀ h, h ≤ H → sumC 0 H h = 0
  | 0, _ => rfl
  | h + 1, hh => by rw [sumC, sumC_zero H h (by omega), cnt_zero (by omega)]
theorem sumC_succ (n H : Nat) : ∀ h, h ≤ H → sumC (n + 1) H h = sumC n H h + if n % H < h then 1 else 0
  | 0, _ => by simp [sumC]
  | h + 1, hh => by
    rw [sumC, sumC, sumC_succ n H h (by omega), cnt_succ (by omega)]
    by_cases h1 : n % H = h
    · rw [if_pos h1, if_neg (by omega), if_pos (by omega)]; omega
    · by_cases h2 : n % H < h
      · rw [if_neg h1, if_pos h2, if_pos (by omega)]; omega
      · rw [if_neg h1, if_neg h2, if_neg (by omega)]; omega
theorem sumC_all (H : Nat) (hH : 0 < H) : ∀ n, sumC n H H = n
  | 0 => sumC_zero H H (Nat.le_refl _)
  | n + 1 => by rw [sumC_succ n H H (Nat.le_refl _), sumC_all H hH n, if_pos (Nat.mod_lt _ hH)]
theorem sumC_mono (n H : Nat) : ∀ h k, h ≤ k → sumC n H h ≤ sumC n H k := by
  intro h k hk
  induction hk with
  | refl => exact Nat.le_refl _
  | step _ ih => exact Nat.le_trans ih (by simp [sumC])

theorem law02_SplitHomes {F : List HP} {c : Cfg} (hc : c.wf) : FnF Try.prog 5 [c.val] [] F (fun r L' => r = .bool true ∧ L' = []) := by
  have hE := fun F => shape_Check (F := F) hc
  cases e : checkB c with
  | false =>
    simp only [checkE, e] at hE
    have r1 : linesL c 0 = [] := by simp [linesL, e]
    have hL := fun F => split_Lines (F := F) (h := 0) hc (by decide)
    simp only [r1] at hL
    refine FnF.mk' Try.func5 rfl rfl Try.ntmps5 rfl ?_
    repeat (first | rintro _ _ ⟨rfl, rfl⟩ | rintro _ _ ⟨_, rfl, rfl⟩ | rintro _ _ ⟨_, _, rfl, rfl⟩ | intro _ | refine go ?_ | (refine is_draw ?_; refine WC_draw mixed (by kernel_rfl) ?_) | refine cal @law02_awake ?_ | refine cal @hE ?_ | refine cal @hL ?_)
    (apply WE_ret rfl rfl (by (repeat (first | exact ResOk.nil | (apply ResOk.tmp; rfl) | (apply resOk_cell; rfl; exact inferInstance; rfl; rfl)))); (first | exact ⟨rfl, rfl⟩ | exact ⟨congrArg Value.bool (by decide), rfl⟩ | exact ⟨_, rfl, rfl⟩ | exact ⟨_, _, rfl, rfl⟩ | exact ⟨by first | (simp []; done) | (simp [] <;> omega), rfl⟩); (repeat (first | exact Ent.refl | exact Ent.nil | apply Ent.pick | apply Ent.drop)))
  | true =>
    simp only [checkE, e, if_true] at hE
    have hb := cfg_bd e
    obtain ⟨n, en⟩ : ∃ n : Nat, c.lines = n := ⟨c.lines.toNat, by omega⟩
    obtain ⟨H, eH⟩ : ∃ H : Nat, c.homes = H := ⟨c.homes.toNat, by omega⟩
    have hall := sumC_all H (by omega) n
    refine FnF.mk' Try.func5 rfl rfl Try.ntmps5 rfl ?_
    repeat (first | rintro _ _ ⟨rfl, rfl⟩ | rintro _ _ ⟨_, rfl, rfl⟩ | rintro _ _ ⟨_, _, rfl, rfl⟩ | intro _ | refine go ?_ | (refine is_draw ?_; refine WC_draw mixed (by kernel_rfl) ?_) | refine cal @law02_awake ?_ | refine cal @hE ?_)
    rename_i bc
    apply WC_loopE (E0 := [(1, _)]) (fun E0 (h : Nat) => (4, .int .i64 h) :: (3, .int .i64 (sumC n H h : Nat)) :: E0) (fun _ => Cells bc 24 c.cells :: F) (fun h => h ≤ H) (fun h => H - h) 0
    · (repeat (first | exact Sub.nil | (refine Sub.cons (by first | rfl | (simp only [Nat.zero_add]; rfl)) ?_)))
    · exact Nat.zero_le _
    · (repeat (first | (with_reducible exact Ent.refl) | exact Ent.nil | (apply ent_pickE; (focus ((repeat (first | (with_reducible exact pk_here) | (apply pk_there))); done))) | apply Ent.drop))
    · intro h hh
      have hs1 := sumC_mono n H h H hh
      by_cases hlt : h < H
      · have r1 : linesL c h = rowN h H (cntN n h H) := by simp [linesL, e, eH, en]; omega
        have hL := fun F => split_Lines (F := F) (h := (h : Int)) hc (by unfold I64; omega)
        have hcn : cntN n h H ≤ n := by
          have := sumC_mono n H (h + 1) H (by omega)
          simp only [sumC] at this; omega
        simp only [r1, rowN_len] at hL
        repeat (first | rintro _ _ ⟨rfl, rfl⟩ | rintro _ _ ⟨_, rfl, rfl⟩ | rintro _ _ ⟨_, _, rfl, rfl⟩ | intro _ | refine go ?_ | (refine is_draw ?_; refine WC_draw mixed (by kernel_rfl) ?_) | refine cal @hL ?_)
        rename_i p q
        apply WC_loopE (E0 := [(1, _), (3, _), (4, _), (5, _), (30, _), (31, _)]) (fun E0 (i : Nat) => (32, .int .i64 i) :: E0) (fun _ => Own 3 1 (.slice p (cntN n h H) q) (cntN n h H) (flat ic (rowN h H (cntN n h H))) :: Cells bc 24 c.cells :: F) (fun i => i ≤ cntN n h H) (fun i => cntN n h H - i) 0
        · (repeat (first | exact Sub.nil | (refine Sub.cons (by first | rfl | (simp only [Nat.zero_add]; rfl)) ?_)))
        · exact Nat.zero_le _
        · (repeat (first | (with_reducible exact Ent.refl) | exact Ent.nil | (apply ent_pickE; (focus ((repeat (first | (with_reducible exact pk_here) | (apply pk_there))); done))) | apply Ent.drop))
        · intro i hi
          by_cases hlt2 : i < cntN n h H
          · have hi2 : i < (rowN h H (cntN n h H)).length := by rw [rowN_len]; exact hlt2
            have g1 := rowN_get h H (cntN n h H) i hi2
            have g2 := (cnt_lt (n := n) (k := i) hlt).1 hlt2
            have hok : okLine c (rowN h H (cntN n h H))[i] = true := by
              rw [g1]; simp only [okLine, e, Bool.true_and, decide_eq_true_eq]; omega
            have f1 : lineH c (rowN h H (cntN n h H))[i] = h := by
              rw [lineH, if_pos hok, g1, eH]
              have : (h + i * H) % H = h := by rw [Nat.add_mul_mod_self_right, Nat.mod_eq_of_lt hlt]
              exact_mod_cast congrArg (fun x : Nat => (x : Int)) this
            have f2 : lineE c (rowN h H (cntN n h H))[i] = 0 := by rw [lineE, if_pos hok]
            have hLn := fun F => split_Line (F := F) (a := (rowN h H (cntN n h H))[i]) hc (by rw [g1]; unfold I64; omega)
            simp only [f1, f2] at hLn
            cases i with
            | zero =>
              repeat (first | rintro _ _ ⟨rfl, rfl⟩ | rintro _ _ ⟨_, rfl, rfl⟩ | rintro _ _ ⟨_, _, rfl, rfl⟩ | intro _ | refine go ?_ | (refine is_draw ?_; refine WC_draw mixed (by kernel_rfl) ?_) | refine cal @hLn ?_)
              refine WE_loop 1 (by omega) (by omega) ?_ (by (repeat (first | (with_reducible exact Ent.refl) | exact Ent.nil | (apply ent_pickE; (focus ((repeat (first | (with_reducible exact pk_here) | (apply pk_there))); done))) | apply Ent.drop)))
              (repeat (first | exact Sub.nil | (refine Sub.cons (by first | rfl | (simp only [Nat.zero_add]; rfl)) ?_)))
            | succ j =>
              have hj2 : (((j + 1 : Nat) : Int) - 1).toNat < (rowN h H (cntN n h H)).length := by omega
              have g3 : (rowN h H (cntN n h H))[(((j + 1 : Nat) : Int) - 1).toNat] = ((h + j * H : Nat) : Int) := by
                rw [rowN_get]; congr 3; omega
              have g4 : ¬ ((rowN h H (cntN n h H))[j + 1] ≠ (rowN h H (cntN n h H))[(((j + 1 : Nat) : Int) - 1).toNat] + c.homes) := by
                rw [g1, g3, eH, Nat.add_mul]; omega
              have g5 : h + j * H ≤ n := by rw [Nat.add_mul] at g2; omega
              repeat (first | rintro _ _ ⟨rfl, rfl⟩ | rintro _ _ ⟨_, rfl, rfl⟩ | rintro _ _ ⟨_, _, rfl, rfl⟩ | intro _ | refine go ?_ | (refine is_draw ?_; refine WC_draw mixed (by kernel_rfl) ?_) | refine cal @hLn ?_)
              refine WE_loop (j + 1 + 1) (by omega) (by omega) ?_ (by (repeat (first | (with_reducible exact Ent.refl) | exact Ent.nil | (apply ent_pickE; (focus ((repeat (first | (with_reducible exact pk_here) | (apply pk_there))); done))) | apply Ent.drop)))
              (repeat (first | exact Sub.nil | (refine Sub.cons (by first | rfl | (simp only [Nat.zero_add]; rfl)) ?_)))
          · repeat (first | rintro _ _ ⟨rfl, rfl⟩ | rintro _ _ ⟨_, rfl, rfl⟩ | rintro _ _ ⟨_, _, rfl, rfl⟩ | intro _ | refine go ?_ | (refine is_draw ?_; refine WC_draw mixed (by kernel_rfl) ?_))
            refine WE_loop (h + 1) (by omega) (by omega) ?_ (by (repeat (first | (with_reducible exact Ent.refl) | exact Ent.nil | (apply ent_pickE; (focus ((repeat (first | (with_reducible exact pk_here) | (apply pk_there))); done))) | apply Ent.drop)))
            have : ((sumC n H (h + 1) : Nat) : Int) = (sumC n H h : Nat) + (cntN n h H : Nat) := by simp [sumC]
            rw [this]
            (repeat (first | exact Sub.nil | (refine Sub.cons (by first | rfl | (simp only [Nat.zero_add]; rfl)) ?_)))
      · have : h = H := by omega
        subst this
        repeat (first | rintro _ _ ⟨rfl, rfl⟩ | rintro _ _ ⟨_, rfl, rfl⟩ | rintro _ _ ⟨_, _, rfl, rfl⟩ | intro _ | refine go ?_ | (refine is_draw ?_; refine WC_draw mixed (by kernel_rfl) ?_))
        (apply WE_ret rfl rfl (by (repeat (first | exact ResOk.nil | (apply ResOk.tmp; rfl) | (apply resOk_cell; rfl; exact inferInstance; rfl; rfl)))); (first | exact ⟨rfl, rfl⟩ | exact ⟨congrArg Value.bool (by decide), rfl⟩ | exact ⟨_, rfl, rfl⟩ | exact ⟨_, _, rfl, rfl⟩ | exact ⟨by first | (simp [hall, en]; done) | (simp [hall, en] <;> omega), rfl⟩); (repeat (first | exact Ent.refl | exact Ent.nil | apply Ent.pick | apply Ent.drop)))
end Go.Sx
