/- What the document's answer for chapter 2 does. My own work. -/
import Derived.Test.YtadedfcjakhfbabSplit
namespace Go.Sx
open Go Go.Proofs
set_option linter.unusedVariables false
set_option maxRecDepth 100000
attribute [local irreducible] Go.Exit.then Go.Exit.inBlock Go.Code.wp WC WO WE WQ V LoopQ FnQ Sat Star band bor IntKind.wrap WR Code.rounds WT KO

theorem cfg_bd {c : Cfg} (e : checkB c = true) : (1 ≤ c.cores ∧ c.cores ≤ 64) ∧ (1 ≤ c.homes ∧ c.homes ≤ 16) ∧ (1 ≤ c.sets ∧ c.sets ≤ 64) ∧ (1 ≤ c.words ∧ c.words ≤ 8) ∧ (1 ≤ c.lines ∧ c.lines ≤ 1024) ∧ (1 ≤ c.ways ∧ c.ways ≤ 8) ∧ (0 ≤ c.words * c.lines ∧ c.words * c.lines ≤ 8192) := by
  obtain ⟨h1, ⟨k, hk, ek⟩, ⟨k2, hk2, ek2⟩, ⟨k3, hk3, ek3⟩, ⟨k4, hk4, ek4⟩, h6⟩ := check_facts e
  have b1 := pow_bd hk
  have b2 := pow_bd hk2
  have b3 := pow_bd hk3
  have b4 := pow_bd hk4
  rw [← ek] at b1
  rw [← ek2] at b2
  rw [← ek3] at b3
  rw [← ek4] at b4
  simp only [Int.reducePow] at b1 b2 b3 b4
  have hb := mul_bd (a := c.words) (b := c.lines) (m := 8) (n := 1024) (by omega) (by omega) (by omega) (by omega) (by omega)
  exact ⟨h1, b1, b2, b3, b4, h6, by omega⟩

theorem quo_nn {a b : Int} (ha : 0 ≤ a) (hb : 1 ≤ b) (h : a ≤ 9223372036854775807) : IntKind.i64.wrap (a.tdiv b) = a / b := by
  rw [tdiv_nn ha]
  have h1 : 0 ≤ a / b := Int.ediv_nonneg ha (by omega)
  have h2 : a / b ≤ a := Int.ediv_le_self _ ha
  exact wrap_id (by omega) (by omega)

theorem ref02_Addr {F : List HP} {c : Cfg} {a : Int} (hc : c.wf) (ha : I64 a) : FnF Try.prog 17 [c.val, .int .i64 a] [] F (fun r L' => r = .tuple [.int .i64 (addrL c a), .int .i64 (addrW c a), .int .i64 (addrE c a)].toArray ∧ L' = []) := by
  have hE := fun F => ref01_Check (F := F) hc
  unfold I64 at ha
  cases e : checkB c with
  | false =>
    simp only [checkE, e] at hE
    have e0 : okAddr c a = false := by simp [okAddr, e]
    refine FnF.mk' Try.func17 rfl rfl Try.ntmps17 rfl ?_
    repeat (first | rintro _ _ ⟨rfl, rfl⟩ | rintro _ _ ⟨_, rfl, rfl⟩ | rintro _ _ ⟨_, _, rfl, rfl⟩ | intro _ | refine go ?_ | (refine is_draw ?_; refine WC_draw mixed (by kernel_rfl) ?_) | refine cal @hE ?_)
    (apply WE_ret rfl rfl (by (repeat (first | exact ResOk.nil | (apply ResOk.tmp; rfl) | (apply resOk_cell; rfl; exact inferInstance; rfl; rfl)))); (first | exact ⟨rfl, rfl⟩ | exact ⟨_, rfl, rfl⟩ | exact ⟨_, _, rfl, rfl⟩ | exact ⟨by first | (simp [addrL, addrW, addrE, e0]; done) | (simp [addrL, addrW, addrE, e0] <;> omega), rfl⟩); (repeat (first | exact Ent.refl | exact Ent.nil | apply Ent.pick | apply Ent.drop)))
  | true =>
    simp only [checkE, e, if_true] at hE
    have hb := cfg_bd e
    by_cases h : 0 ≤ a ∧ a < c.words * c.lines
    · have e0 : okAddr c a = true := by simp [okAddr, e, h]
      have q1 := quo_nn (a := a) (b := c.words) (by omega) (by omega) (by omega)
      have q2 := tmod_nn (n := a) (m := c.words) (by omega)
      refine FnF.mk' Try.func17 rfl rfl Try.ntmps17 rfl ?_
      repeat (first | rintro _ _ ⟨rfl, rfl⟩ | rintro _ _ ⟨_, rfl, rfl⟩ | rintro _ _ ⟨_, _, rfl, rfl⟩ | intro _ | refine go ?_ | (refine is_draw ?_; refine WC_draw mixed (by kernel_rfl) ?_) | refine cal @hE ?_)
      (apply WE_ret rfl rfl (by (repeat (first | exact ResOk.nil | (apply ResOk.tmp; rfl) | (apply resOk_cell; rfl; exact inferInstance; rfl; rfl)))); (first | exact ⟨rfl, rfl⟩ | exact ⟨_, rfl, rfl⟩ | exact ⟨_, _, rfl, rfl⟩ | exact ⟨by first | (simp [addrL, addrW, addrE, e0, q1, q2]; done) | (simp [addrL, addrW, addrE, e0, q1, q2] <;> omega), rfl⟩); (repeat (first | exact Ent.refl | exact Ent.nil | apply Ent.pick | apply Ent.drop)))
    · have e0 : okAddr c a = false := by simp [okAddr, e]; omega
      refine FnF.mk' Try.func17 rfl rfl Try.ntmps17 rfl ?_
      repeat' (first | rintro _ _ ⟨rfl, rfl⟩ | rintro _ _ ⟨_, rfl, rfl⟩ | rintro _ _ ⟨_, _, rfl, rfl⟩ | intro _ | refine go ?_ | (refine is_draw ?_; refine WC_draw mixed (by kernel_rfl) ?_) | refine cal @hE ?_ | refine spl ?_ ?_ | fail)
      all_goals first | (exfalso; omega) | (apply WE_ret rfl rfl (by (repeat (first | exact ResOk.nil | (apply ResOk.tmp; rfl) | (apply resOk_cell; rfl; exact inferInstance; rfl; rfl)))); (first | exact ⟨rfl, rfl⟩ | exact ⟨_, rfl, rfl⟩ | exact ⟨_, _, rfl, rfl⟩ | exact ⟨by first | (simp [addrL, addrW, addrE, e0]; done) | (simp [addrL, addrW, addrE, e0] <;> omega), rfl⟩); (repeat (first | exact Ent.refl | exact Ent.nil | apply Ent.pick | apply Ent.drop)))

theorem ref02_Line {F : List HP} {c : Cfg} {a : Int} (hc : c.wf) (ha : I64 a) : FnF Try.prog 19 [c.val, .int .i64 a] [] F (fun r L' => r = .tuple [.int .i64 (lineH c a), .int .i64 (lineS c a), .int .i64 (lineT c a), .int .i64 (lineE c a)].toArray ∧ L' = []) := by
  have hE := fun F => ref01_Check (F := F) hc
  unfold I64 at ha
  cases e : checkB c with
  | false =>
    simp only [checkE, e] at hE
    have e0 : okLine c a = false := by simp [okLine, e]
    refine FnF.mk' Try.func19 rfl rfl Try.ntmps19 rfl ?_
    repeat (first | rintro _ _ ⟨rfl, rfl⟩ | rintro _ _ ⟨_, rfl, rfl⟩ | rintro _ _ ⟨_, _, rfl, rfl⟩ | intro _ | refine go ?_ | (refine is_draw ?_; refine WC_draw mixed (by kernel_rfl) ?_) | refine cal @hE ?_)
    (apply WE_ret rfl rfl (by (repeat (first | exact ResOk.nil | (apply ResOk.tmp; rfl) | (apply resOk_cell; rfl; exact inferInstance; rfl; rfl)))); (first | exact ⟨rfl, rfl⟩ | exact ⟨_, rfl, rfl⟩ | exact ⟨_, _, rfl, rfl⟩ | exact ⟨by first | (simp [lineH, lineS, lineT, lineE, e0]; done) | (simp [lineH, lineS, lineT, lineE, e0] <;> omega), rfl⟩); (repeat (first | exact Ent.refl | exact Ent.nil | apply Ent.pick | apply Ent.drop)))
  | true =>
    simp only [checkE, e, if_true] at hE
    have hb := cfg_bd e
    by_cases h : 0 ≤ a ∧ a < c.lines
    · have e0 : okLine c a = true := by simp [okLine, e, h]
      have q1 := quo_nn (a := a) (b := c.sets) (by omega) (by omega) (by omega)
      have q2 := tmod_nn (n := a) (m := c.sets) (by omega)
      have q3 := tmod_nn (n := a) (m := c.homes) (by omega)
      refine FnF.mk' Try.func19 rfl rfl Try.ntmps19 rfl ?_
      repeat (first | rintro _ _ ⟨rfl, rfl⟩ | rintro _ _ ⟨_, rfl, rfl⟩ | rintro _ _ ⟨_, _, rfl, rfl⟩ | intro _ | refine go ?_ | (refine is_draw ?_; refine WC_draw mixed (by kernel_rfl) ?_) | refine cal @hE ?_)
      (apply WE_ret rfl rfl (by (repeat (first | exact ResOk.nil | (apply ResOk.tmp; rfl) | (apply resOk_cell; rfl; exact inferInstance; rfl; rfl)))); (first | exact ⟨rfl, rfl⟩ | exact ⟨_, rfl, rfl⟩ | exact ⟨_, _, rfl, rfl⟩ | exact ⟨by first | (simp [lineH, lineS, lineT, lineE, e0, q1, q2, q3]; done) | (simp [lineH, lineS, lineT, lineE, e0, q1, q2, q3] <;> omega), rfl⟩); (repeat (first | exact Ent.refl | exact Ent.nil | apply Ent.pick | apply Ent.drop)))
    · have e0 : okLine c a = false := by simp [okLine, e]; omega
      refine FnF.mk' Try.func19 rfl rfl Try.ntmps19 rfl ?_
      repeat' (first | rintro _ _ ⟨rfl, rfl⟩ | rintro _ _ ⟨_, rfl, rfl⟩ | rintro _ _ ⟨_, _, rfl, rfl⟩ | intro _ | refine go ?_ | (refine is_draw ?_; refine WC_draw mixed (by kernel_rfl) ?_) | refine cal @hE ?_ | refine spl ?_ ?_ | fail)
      all_goals first | (exfalso; omega) | (apply WE_ret rfl rfl (by (repeat (first | exact ResOk.nil | (apply ResOk.tmp; rfl) | (apply resOk_cell; rfl; exact inferInstance; rfl; rfl)))); (first | exact ⟨rfl, rfl⟩ | exact ⟨_, rfl, rfl⟩ | exact ⟨_, _, rfl, rfl⟩ | exact ⟨by first | (simp [lineH, lineS, lineT, lineE, e0]; done) | (simp [lineH, lineS, lineT, lineE, e0] <;> omega), rfl⟩); (repeat (first | exact Ent.refl | exact Ent.nil | apply Ent.pick | apply Ent.drop)))

theorem ref02_Join {F : List HP} {c : Cfg} {l w : Int} (hc : c.wf) (hl : I64 l) (hw : I64 w) : FnF Try.prog 21 [c.val, .int .i64 l, .int .i64 w] [] F (fun r L' => r = .tuple [.int .i64 (joinN c l w), .int .i64 (joinE c l w)].toArray ∧ L' = []) := by
  have hE := fun F => ref01_Check (F := F) hc
  cases e : checkB c with
  | false =>
    simp only [checkE, e] at hE
    have e0 : okJoin c l w = false := by simp [okJoin, e]
    refine FnF.mk' Try.func21 rfl rfl Try.ntmps21 rfl ?_
    repeat (first | rintro _ _ ⟨rfl, rfl⟩ | rintro _ _ ⟨_, rfl, rfl⟩ | rintro _ _ ⟨_, _, rfl, rfl⟩ | intro _ | refine go ?_ | (refine is_draw ?_; refine WC_draw mixed (by kernel_rfl) ?_) | refine cal @hE ?_)
    (apply WE_ret rfl rfl (by (repeat (first | exact ResOk.nil | (apply ResOk.tmp; rfl) | (apply resOk_cell; rfl; exact inferInstance; rfl; rfl)))); (first | exact ⟨rfl, rfl⟩ | exact ⟨_, rfl, rfl⟩ | exact ⟨_, _, rfl, rfl⟩ | exact ⟨by first | (simp [joinN, joinE, e0]; done) | (simp [joinN, joinE, e0] <;> omega), rfl⟩); (repeat (first | exact Ent.refl | exact Ent.nil | apply Ent.pick | apply Ent.drop)))
  | true =>
    simp only [checkE, e, if_true] at hE
    have hb := cfg_bd e
    by_cases h : 0 ≤ l ∧ l < c.lines ∧ 0 ≤ w ∧ w < c.words
    · have e0 : okJoin c l w = true := by simp [okJoin, e, h]
      have hm := mul_bd (a := l) (b := c.words) (m := 1024) (n := 8) (by omega) (by omega) (by omega) (by omega) (by omega)
      refine FnF.mk' Try.func21 rfl rfl Try.ntmps21 rfl ?_
      repeat (first | rintro _ _ ⟨rfl, rfl⟩ | rintro _ _ ⟨_, rfl, rfl⟩ | rintro _ _ ⟨_, _, rfl, rfl⟩ | intro _ | refine go ?_ | (refine is_draw ?_; refine WC_draw mixed (by kernel_rfl) ?_) | refine cal @hE ?_)
      (apply WE_ret rfl rfl (by (repeat (first | exact ResOk.nil | (apply ResOk.tmp; rfl) | (apply resOk_cell; rfl; exact inferInstance; rfl; rfl)))); (first | exact ⟨rfl, rfl⟩ | exact ⟨_, rfl, rfl⟩ | exact ⟨_, _, rfl, rfl⟩ | exact ⟨by first | (simp [joinN, joinE, e0]; done) | (simp [joinN, joinE, e0] <;> omega), rfl⟩); (repeat (first | exact Ent.refl | exact Ent.nil | apply Ent.pick | apply Ent.drop)))
    · have e0 : okJoin c l w = false := by simp [okJoin, e]; omega
      refine FnF.mk' Try.func21 rfl rfl Try.ntmps21 rfl ?_
      repeat' (first | rintro _ _ ⟨rfl, rfl⟩ | rintro _ _ ⟨_, rfl, rfl⟩ | rintro _ _ ⟨_, _, rfl, rfl⟩ | intro _ | refine go ?_ | (refine is_draw ?_; refine WC_draw mixed (by kernel_rfl) ?_) | refine cal @hE ?_ | refine spl ?_ ?_ | fail)
      all_goals first | (exfalso; omega) | (apply WE_ret rfl rfl (by (repeat (first | exact ResOk.nil | (apply ResOk.tmp; rfl) | (apply resOk_cell; rfl; exact inferInstance; rfl; rfl)))); (first | exact ⟨rfl, rfl⟩ | exact ⟨_, rfl, rfl⟩ | exact ⟨_, _, rfl, rfl⟩ | exact ⟨by first | (simp [joinN, joinE, e0]; done) | (simp [joinN, joinE, e0] <;> omega), rfl⟩); (repeat (first | exact Ent.refl | exact Ent.nil | apply Ent.pick | apply Ent.drop)))

theorem tag_iff {c : Cfg} {s t : Int} {i : Int} (hs : 1 ≤ c.sets) (hi : 0 ≤ i) : (i % c.sets = s ∧ i / c.sets = t) ↔ (0 ≤ s ∧ s < c.sets ∧ 0 ≤ t ∧ t * c.sets + s = i) := by
  constructor
  · rintro ⟨rfl, rfl⟩
    refine ⟨Int.emod_nonneg _ (by omega), Int.emod_lt_of_pos _ (by omega), Int.ediv_nonneg hi (by omega), ?_⟩
    have := Int.mul_ediv_add_emod i c.sets
    rw [Int.mul_comm] at this; exact this
  · rintro ⟨h1, h2, h3, rfl⟩
    refine ⟨?_, ?_⟩
    · rw [Int.add_comm, Int.add_mul_emod_self_right, Int.emod_eq_of_lt h1 h2]
    · rw [Int.add_comm, Int.add_mul_ediv_right _ _ (by omega), Int.ediv_eq_zero_of_lt h1 h2]; omega

theorem ref02_Tagged {F : List HP} {c : Cfg} {s t : Int} (hc : c.wf) (hs : I64 s) (ht : I64 t) : FnF Try.prog 23 [c.val, .int .i64 s, .int .i64 t] [] F (fun r L' => r = .tuple [.int .i64 (tagN c s t), .int .i64 (tagE c s t)].toArray ∧ L' = []) := by
  have hE := fun F => ref01_Check (F := F) hc
  cases e : checkB c with
  | false =>
    simp only [checkE, e] at hE
    have e0 : okTag c s t = false := by simp [okTag, e]
    refine FnF.mk' Try.func23 rfl rfl Try.ntmps23 rfl ?_
    repeat (first | rintro _ _ ⟨rfl, rfl⟩ | rintro _ _ ⟨_, rfl, rfl⟩ | rintro _ _ ⟨_, _, rfl, rfl⟩ | intro _ | refine go ?_ | (refine is_draw ?_; refine WC_draw mixed (by kernel_rfl) ?_) | refine cal @hE ?_)
    (apply WE_ret rfl rfl (by (repeat (first | exact ResOk.nil | (apply ResOk.tmp; rfl) | (apply resOk_cell; rfl; exact inferInstance; rfl; rfl)))); (first | exact ⟨rfl, rfl⟩ | exact ⟨_, rfl, rfl⟩ | exact ⟨_, _, rfl, rfl⟩ | exact ⟨by first | (simp [tagN, tagE, e0]; done) | (simp [tagN, tagE, e0] <;> omega), rfl⟩); (repeat (first | exact Ent.refl | exact Ent.nil | apply Ent.pick | apply Ent.drop)))
  | true =>
    simp only [checkE, e, if_true] at hE
    have hb := cfg_bd e
    obtain ⟨n, en⟩ : ∃ n : Nat, c.lines = n := ⟨c.lines.toNat, by omega⟩
    refine FnF.mk' Try.func23 rfl rfl Try.ntmps23 rfl ?_
    repeat (first | rintro _ _ ⟨rfl, rfl⟩ | rintro _ _ ⟨_, rfl, rfl⟩ | rintro _ _ ⟨_, _, rfl, rfl⟩ | intro _ | refine go ?_ | (refine is_draw ?_; refine WC_draw mixed (by kernel_rfl) ?_) | refine cal @hE ?_)
    rename_i bc
    apply WC_loopE (E0 := [(1, _), (2, _), (3, _)]) (fun E0 (i : Nat) => (8, .int .i64 i) :: E0) (fun _ => Cells bc 24 c.cells :: F) (fun i => i ≤ n ∧ ∀ j : Nat, j < i → ¬ ((j : Int) % c.sets = s ∧ (j : Int) / c.sets = t)) (fun i => n - i) 0
    · (repeat (first | exact Sub.nil | (refine Sub.cons (by first | rfl | (simp only [Nat.zero_add]; rfl)) ?_)))
    · exact ⟨Nat.zero_le _, fun j hj => by omega⟩
    · (repeat (first | (with_reducible exact Ent.refl) | exact Ent.nil | (apply ent_pickE; (focus ((repeat (first | (with_reducible exact pk_here) | (apply pk_there))); done))) | apply Ent.drop))
    · rintro i ⟨hi, h1⟩
      have q1 := quo_nn (a := i) (b := c.sets) (by omega) (by omega) (by omega)
      have q2 := tmod_nn (n := i) (m := c.sets) (by omega)
      by_cases hlt : i < n
      · by_cases hm : (i : Int) % c.sets = s
        · by_cases hd : (i : Int) / c.sets = t
          · have e0 : okTag c s t = true := by
              have := (tag_iff (c := c) (s := s) (t := t) (i := i) (by omega) (by omega)).1 ⟨hm, hd⟩
              simp only [okTag, e, Bool.true_and, decide_eq_true_eq]; omega
            have e1 : t * c.sets + s = i := ((tag_iff (c := c) (s := s) (t := t) (i := i) (by omega) (by omega)).1 ⟨hm, hd⟩).2.2.2
            repeat (first | rintro _ _ ⟨rfl, rfl⟩ | rintro _ _ ⟨_, rfl, rfl⟩ | rintro _ _ ⟨_, _, rfl, rfl⟩ | intro _ | refine go ?_ | (refine is_draw ?_; refine WC_draw mixed (by kernel_rfl) ?_))
            rw [q2]
            repeat (first | rintro _ _ ⟨rfl, rfl⟩ | rintro _ _ ⟨_, rfl, rfl⟩ | rintro _ _ ⟨_, _, rfl, rfl⟩ | intro _ | refine go ?_ | (refine is_draw ?_; refine WC_draw mixed (by kernel_rfl) ?_))
            rw [q1]
            repeat (first | rintro _ _ ⟨rfl, rfl⟩ | rintro _ _ ⟨_, rfl, rfl⟩ | rintro _ _ ⟨_, _, rfl, rfl⟩ | intro _ | refine go ?_ | (refine is_draw ?_; refine WC_draw mixed (by kernel_rfl) ?_))
            (apply WE_ret rfl rfl (by (repeat (first | exact ResOk.nil | (apply ResOk.tmp; rfl) | (apply resOk_cell; rfl; exact inferInstance; rfl; rfl)))); (first | exact ⟨rfl, rfl⟩ | exact ⟨_, rfl, rfl⟩ | exact ⟨_, _, rfl, rfl⟩ | exact ⟨by first | (simp [tagN, tagE, e0, e1]; done) | (simp [tagN, tagE, e0, e1] <;> omega), rfl⟩); (repeat (first | exact Ent.refl | exact Ent.nil | apply Ent.pick | apply Ent.drop)))
          · repeat (first | rintro _ _ ⟨rfl, rfl⟩ | rintro _ _ ⟨_, rfl, rfl⟩ | rintro _ _ ⟨_, _, rfl, rfl⟩ | intro _ | refine go ?_ | (refine is_draw ?_; refine WC_draw mixed (by kernel_rfl) ?_))
            rw [q2]
            repeat (first | rintro _ _ ⟨rfl, rfl⟩ | rintro _ _ ⟨_, rfl, rfl⟩ | rintro _ _ ⟨_, _, rfl, rfl⟩ | intro _ | refine go ?_ | (refine is_draw ?_; refine WC_draw mixed (by kernel_rfl) ?_))
            rw [q1]
            repeat (first | rintro _ _ ⟨rfl, rfl⟩ | rintro _ _ ⟨_, rfl, rfl⟩ | rintro _ _ ⟨_, _, rfl, rfl⟩ | intro _ | refine go ?_ | (refine is_draw ?_; refine WC_draw mixed (by kernel_rfl) ?_))
            refine WE_loop (i + 1) (by omega) ⟨by omega, fun j hj => ?_⟩ ?_ Ent.refl
            · by_cases ej : j = i
              · subst ej; exact fun z => hd z.2
              · exact h1 j (by omega)
            · (repeat (first | exact Sub.nil | (refine Sub.cons (by first | rfl | (simp only [Nat.zero_add]; rfl)) ?_)))
        · repeat (first | rintro _ _ ⟨rfl, rfl⟩ | rintro _ _ ⟨_, rfl, rfl⟩ | rintro _ _ ⟨_, _, rfl, rfl⟩ | intro _ | refine go ?_ | (refine is_draw ?_; refine WC_draw mixed (by kernel_rfl) ?_))
          rw [q2]
          repeat (first | rintro _ _ ⟨rfl, rfl⟩ | rintro _ _ ⟨_, rfl, rfl⟩ | rintro _ _ ⟨_, _, rfl, rfl⟩ | intro _ | refine go ?_ | (refine is_draw ?_; refine WC_draw mixed (by kernel_rfl) ?_))
          refine WE_loop (i + 1) (by omega) ⟨by omega, fun j hj => ?_⟩ ?_ Ent.refl
          · by_cases ej : j = i
            · subst ej; exact fun z => hm z.1
            · exact h1 j (by omega)
          · (repeat (first | exact Sub.nil | (refine Sub.cons (by first | rfl | (simp only [Nat.zero_add]; rfl)) ?_)))
      · have e0 : okTag c s t = false := by
          cases q : okTag c s t with
          | false => rfl
          | true =>
            exfalso
            simp only [okTag, Bool.and_eq_true, decide_eq_true_eq] at q
            obtain ⟨_, g1, g2, g3, g4⟩ := q
            have hnn : 0 ≤ t * c.sets := Int.mul_nonneg g3 (by omega)
            have := (tag_iff (c := c) (s := s) (t := t) (i := ((t * c.sets + s).toNat : Nat)) (by omega) (by omega)).2 ⟨g1, g2, g3, by omega⟩
            exact h1 _ (by omega) this
        repeat (first | rintro _ _ ⟨rfl, rfl⟩ | rintro _ _ ⟨_, rfl, rfl⟩ | rintro _ _ ⟨_, _, rfl, rfl⟩ | intro _ | refine go ?_ | (refine is_draw ?_; refine WC_draw mixed (by kernel_rfl) ?_))
        (apply WE_ret rfl rfl (by (repeat (first | exact ResOk.nil | (apply ResOk.tmp; rfl) | (apply resOk_cell; rfl; exact inferInstance; rfl; rfl)))); (first | exact ⟨rfl, rfl⟩ | exact ⟨_, rfl, rfl⟩ | exact ⟨_, _, rfl, rfl⟩ | exact ⟨by first | (simp [tagN, tagE, e0]; done) | (simp [tagN, tagE, e0] <;> omega), rfl⟩); (repeat (first | exact Ent.refl | exact Ent.nil | apply Ent.pick | apply Ent.drop)))

theorem ref02_Lines {F : List HP} {c : Cfg} {h : Int} (hc : c.wf) (hh : I64 h) :
    FnF Try.prog 26 [c.val, .int .i64 h] [] F (fun r L' => ∃ p q, r = .slice p (linesL c h).length q ∧ L' = [Own 3 1 (.slice p (linesL c h).length q) (linesL c h).length (flat ic (linesL c h))]) := by
  have hE := fun F => ref01_Check (F := F) hc
  cases e : checkB c with
  | false =>
    have r1 : linesL c h = [] := by simp [linesL, e]
    rw [r1]
    simp only [checkE, e] at hE
    refine FnF.mk' Try.func26 rfl rfl Try.ntmps26 rfl ?_
    repeat (first | rintro _ _ ⟨rfl, rfl⟩ | rintro _ _ ⟨_, rfl, rfl⟩ | rintro _ _ ⟨_, _, rfl, rfl⟩ | intro _ | refine go ?_ | (refine is_draw ?_; refine WC_draw mixed (by kernel_rfl) ?_))
    refine WC_rounds 1 ?_
    repeat (first | rintro _ _ ⟨rfl, rfl⟩ | rintro _ _ ⟨_, rfl, rfl⟩ | rintro _ _ ⟨_, _, rfl, rfl⟩ | intro _ | refine go ?_ | (refine is_draw ?_; refine WC_draw mixed (by kernel_rfl) ?_) | refine cal @hE ?_)
    (apply WE_ret rfl rfl (by (repeat (first | exact ResOk.nil | (apply ResOk.tmp; rfl) | (apply resOk_cell; rfl; exact inferInstance; rfl; rfl)))))
    · exact ⟨_, _, rfl, rfl⟩
    · exact own_empty (by (repeat (first | (with_reducible exact Ent.refl) | exact Ent.nil | (apply ent_pickE; (focus ((repeat (first | (with_reducible exact pk_here) | (apply pk_there))); done))) | apply Ent.drop)))
  | true =>
    simp only [checkE, e, if_true] at hE
    have hb := cfg_bd e
    obtain ⟨n, en⟩ : ∃ n : Nat, c.lines = n := ⟨c.lines.toNat, by omega⟩
    obtain ⟨H, eH⟩ : ∃ H : Nat, c.homes = H := ⟨c.homes.toNat, by omega⟩
    let cn : Nat → Nat := fun i => if 0 ≤ h ∧ h < c.homes then cntN i h.toNat H else 0
    have hcn : ∀ i, cn i = if 0 ≤ h ∧ h < c.homes then cntN i h.toNat H else 0 := fun i => rfl
    have r1 : linesL c h = rowN h.toNat H (cn n) := by
      simp only [linesL, e, eH, en, hcn, Bool.true_and, decide_eq_true_eq, Int.toNat_natCast]
      split <;> rfl
    rw [r1, rowN_len]
    have z0 : cn 0 = 0 := by
      rw [hcn]; split
      · exact cnt_zero (by omega)
      · rfl
    have zs : ∀ i : Nat, cn (i + 1) = cn i + if (i : Int) % c.homes = h then 1 else 0 := by
      intro i
      rw [hcn, hcn]
      have hm : (i : Int) % c.homes = ((i % H : Nat) : Int) := by rw [eH]; simp
      rw [hm]
      have hlt := Nat.mod_lt i (show H > 0 by omega)
      split
      · rw [cnt_succ (by omega)]
        congr 1
        by_cases q : i % H = h.toNat
        · rw [if_pos q, if_pos (by omega)]
        · rw [if_neg q, if_neg (by omega)]
      · rw [if_neg (by omega)]
    have zg : ∀ i : Nat, (i : Int) % c.homes = h → ((h.toNat + cn i * H : Nat) : Int) = i := by
      intro i q
      have hm : (i : Int) % c.homes = ((i % H : Nat) : Int) := by rw [eH]; simp
      rw [hm] at q
      have hlt := Nat.mod_lt i (show H > 0 by omega)
      have h1 : h.toNat < H := by omega
      have h2 : i % H = h.toNat := by omega
      have e1 : cn i = cntN i h.toNat H := by rw [hcn, if_pos (by omega)]
      have e2 := cnt_succ (n := i) h1
      rw [if_pos h2] at e2
      have h3 := (cnt_lt (n := i + 1) (k := cntN i h.toNat H) h1).1 (by omega)
      have h4 : ¬ h.toNat + cntN i h.toNat H * H < i := fun z => by have := (cnt_lt (n := i) (k := cntN i h.toNat H) h1).2 z; omega
      rw [e1]; omega
    have zle : ∀ i : Nat, cn i ≤ i := by
      intro i
      induction i with
      | zero => omega
      | succ i ih => rw [zs]; split <;> omega
    clear_value cn
    refine FnF.mk' Try.func26 rfl rfl Try.ntmps26 rfl ?_
    repeat (first | rintro _ _ ⟨rfl, rfl⟩ | rintro _ _ ⟨_, rfl, rfl⟩ | rintro _ _ ⟨_, _, rfl, rfl⟩ | intro _ | refine go ?_ | (refine is_draw ?_; refine WC_draw mixed (by kernel_rfl) ?_))
    rename_i bc b0
    apply WC_loopE (E0 := [(1, _), (2, _)]) (fun E0 (q : Nat × Option Addr × Nat) => (6, .int .i64 q.1) :: (5, .slice q.2.1 (cn q.1) q.2.2) :: E0)
      (fun q => Own 3 1 (.slice q.2.1 (cn q.1) q.2.2) (cn q.1) (flat ic (rowN h.toNat H (cn q.1))) :: Cells bc 24 c.cells :: F) (fun q => q.1 ≤ n) (fun q => n - q.1) (0, some ⟨b0, 0, none⟩, 0)
    · dsimp only; rw [z0]; (repeat (first | exact Sub.nil | (refine Sub.cons (by first | rfl | (simp only [Nat.zero_add]; rfl)) ?_)))
    · exact Nat.zero_le _
    · dsimp only; rw [z0]; simp only [rowN, List.range_zero, List.map_nil, flat_nil]; (repeat (first | (with_reducible exact Ent.refl) | exact Ent.nil | (apply ent_pickE; (focus ((repeat (first | (with_reducible exact pk_here) | (apply pk_there))); done))) | apply Ent.drop))
    · rintro ⟨i, p, q⟩ hi
      dsimp only at hi ⊢
      have hle := zle i
      by_cases hlt : i < n
      · have q2 := tmod_nn (n := i) (m := c.homes) (by omega)
        by_cases hm : (i : Int) % c.homes = h
        · repeat (first | rintro _ _ ⟨rfl, rfl⟩ | rintro _ _ ⟨_, rfl, rfl⟩ | rintro _ _ ⟨_, _, rfl, rfl⟩ | intro _ | refine go ?_ | (refine is_draw ?_; refine WC_draw mixed (by kernel_rfl) ?_) | refine cal @hE ?_)
          rw [q2]
          repeat (first | rintro _ _ ⟨rfl, rfl⟩ | rintro _ _ ⟨_, rfl, rfl⟩ | rintro _ _ ⟨_, _, rfl, rfl⟩ | intro _ | refine go ?_ | (refine is_draw ?_; refine WC_draw mixed (by kernel_rfl) ?_))
          rename_i b' p' q'
          refine WE_loop (i + 1, p', q') (by dsimp only; omega) (by dsimp only; omega) ?_ ?_
          · dsimp only; rw [zs, if_pos hm]; (repeat (first | exact Sub.nil | (refine Sub.cons (by first | rfl | (simp only [Nat.zero_add]; rfl)) ?_)))
          · dsimp only; rw [zs, if_pos hm, rowN_succ, flat_append, flat_one, zg i hm]; (repeat (first | (with_reducible exact Ent.refl) | exact Ent.nil | (apply ent_pickE; (focus ((repeat (first | (with_reducible exact pk_here) | (apply pk_there))); done))) | apply Ent.drop))
        · repeat (first | rintro _ _ ⟨rfl, rfl⟩ | rintro _ _ ⟨_, rfl, rfl⟩ | rintro _ _ ⟨_, _, rfl, rfl⟩ | intro _ | refine go ?_ | (refine is_draw ?_; refine WC_draw mixed (by kernel_rfl) ?_) | refine cal @hE ?_)
          rw [q2]
          repeat (first | rintro _ _ ⟨rfl, rfl⟩ | rintro _ _ ⟨_, rfl, rfl⟩ | rintro _ _ ⟨_, _, rfl, rfl⟩ | intro _ | refine go ?_ | (refine is_draw ?_; refine WC_draw mixed (by kernel_rfl) ?_))
          refine WE_loop (i + 1, p, q) (by dsimp only; omega) (by dsimp only; omega) ?_ ?_
          · dsimp only; rw [zs, if_neg hm]; (repeat (first | exact Sub.nil | (refine Sub.cons (by first | rfl | (simp only [Nat.zero_add]; rfl)) ?_)))
          · dsimp only; rw [zs, if_neg hm, Nat.add_zero]; (repeat (first | (with_reducible exact Ent.refl) | exact Ent.nil | (apply ent_pickE; (focus ((repeat (first | (with_reducible exact pk_here) | (apply pk_there))); done))) | apply Ent.drop))
      · have hin : i = n := by omega
        subst hin
        repeat (first | rintro _ _ ⟨rfl, rfl⟩ | rintro _ _ ⟨_, rfl, rfl⟩ | rintro _ _ ⟨_, _, rfl, rfl⟩ | intro _ | refine go ?_ | (refine is_draw ?_; refine WC_draw mixed (by kernel_rfl) ?_) | refine cal @hE ?_)
        (apply WE_ret rfl rfl (by (repeat (first | exact ResOk.nil | (apply ResOk.tmp; rfl) | (apply resOk_cell; rfl; exact inferInstance; rfl; rfl)))))
        · exact ⟨_, _, rfl, rfl⟩
        · (repeat (first | (with_reducible exact Ent.refl) | exact Ent.nil | (apply ent_pickE; (focus ((repeat (first | (with_reducible exact pk_here) | (apply pk_there))); done))) | apply Ent.drop))
end Go.Sx
