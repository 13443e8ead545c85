/- Shp, Wb, May, MshR: several of my texts as one. My own work. -/
import Derived.Test.YtlaohgngdaglmaaGreatData
import Derived.Test.YtlaohgngdaglmaaGreatZac
import Derived.Test.YtlaohgngdaglmaaGreatZad
/- What the functions of package shape do, and the document's. My own work. -/
namespace Go.Sx
open Go Go.Proofs
set_option linter.unusedVariables false
set_option maxRecDepth 100000
set_option maxHeartbeats 4000000
attribute [local irreducible] Go.Exit.then Go.Exit.inBlock Go.Code.wp WC WO WE WQ V LoopQ FnQ Sat Star band bor IntKind.wrap WR Code.rounds WT KO



theorem shape_Power {F : List HP} {n : Int} (hn : I64 n) : FnF Tryz.prog 144 [.int .i64 n] [] F (fun r L' => r = (.tuple [.int .i64 (powK n), .bool (powB n)].toArray) ∧ L' = []) := by
  unfold I64 at hn
  refine FnF.mk' Tryz.func144 rfl rfl Tryz.ntmps144 rfl ?_
  by_cases h : n < 1
  · have e : powOf n = none := by
      cases e : powOf n with
      | none => rfl
      | some k => have := powOf_some e; have h0 : (0 : Int) < 2 ^ k := Int.pow_pos (by omega); omega
    have e1 : powK n = 0 := by simp [powK, e]
    have e2 : powB n = false := by simp [powB, e]
    clear e
    repeat (first | rintro _ _ ⟨rfl, rfl⟩ | refine exq fun _ => ?_ | intro _ | refine go ?_ | refine drq ?_)
    (apply WE_ret rfl rfl (by (repeat (first | exact ResOk.nil | (apply ResOk.tmp; rfl) | (apply resOk_cell; rfl; exact inferInstance; rfl; rfl)))))
    · rw [e1, e2]; exact ⟨rfl, rfl⟩
    · exact entu0
  · cases e : powOf n with
    | none =>
      have hb := band_nopow (by omega) hn.2 e
      have e1 : powK n = 0 := by simp [powK, e]
      have e2 : powB n = false := by simp [powB, e]
      clear e
      repeat (first | rintro _ _ ⟨rfl, rfl⟩ | refine exq fun _ => ?_ | intro _ | refine go ?_ | refine drq ?_)
      (apply WE_ret rfl rfl (by (repeat (first | exact ResOk.nil | (apply ResOk.tmp; rfl) | (apply resOk_cell; rfl; exact inferInstance; rfl; rfl)))))
      · rw [e1, e2]; exact ⟨rfl, rfl⟩
      · exact entu0
    | some m =>
      obtain ⟨hm, rfl⟩ := powOf_some e
      have hb := band_pow hm
      have e1 : powK (2 ^ m) = m := by simp [powK, e]
      have e2 : powB (2 ^ m) = true := by simp [powB, e]
      clear e
      repeat (first | rintro _ _ ⟨rfl, rfl⟩ | refine exq fun _ => ?_ | intro _ | refine go ?_ | refine drq ?_)
      apply WC_loop (fun k : Nat => [(0, .int .i64 (2 ^ m)), (4, .int .i64 (k : Int))]) (fun _ => F) (fun k => k ≤ m) (fun k => m - k) 0
      · omega
      · exact Sub.cons rfl (Sub.cons rfl Sub.nil)
      · exact entu0
      · intro k hk
        have hf := fdiv_pow hk
        have hmin : min ((k : Int)).toNat IntKind.i64.bits = k := by simp [IntKind.bits]; omega
        repeat (first | rintro _ _ ⟨rfl, rfl⟩ | refine exq fun _ => ?_ | intro _ | refine go ?_ | refine drq ?_)
        rw [hmin, hf]
        by_cases hlt : k < m
        · have : (1 : Int) < 2 ^ (m - k) := by
            have : (2 : Nat) ^ 1 ≤ 2 ^ (m - k) := Nat.pow_le_pow_right (by omega) (by omega)
            have : ((2 ^ 1 : Nat) : Int) ≤ ((2 ^ (m - k) : Nat) : Int) := by exact_mod_cast this
            simp at this; omega
          repeat (first | rintro _ _ ⟨rfl, rfl⟩ | refine exq fun _ => ?_ | intro _ | refine go ?_ | refine drq ?_)
          refine WE_loop (k + 1) (by omega) (by omega) (Sub.cons rfl (Sub.cons rfl Sub.nil)) Ent.refl
        · obtain rfl : k = m := by omega
          have : ¬ (1 : Int) < 2 ^ (k - k) := by simp
          repeat (first | rintro _ _ ⟨rfl, rfl⟩ | refine exq fun _ => ?_ | intro _ | refine go ?_ | refine drq ?_)
          (apply WE_ret rfl rfl (by (repeat (first | exact ResOk.nil | (apply ResOk.tmp; rfl) | (apply resOk_cell; rfl; exact inferInstance; rfl; rfl)))))
          · rw [e1, e2]; exact ⟨rfl, rfl⟩
          · exact entu0

theorem shape_fits {F : List HP} {n l m : Int} {p : Bool} (hn : I64 n) : FnF Tryz.prog 61 [.agg [.int .i64 n, .int .i64 l, .int .i64 m, .bool p].toArray] [] F (fun r L' => r = (.bool (fitsB n l m p)) ∧ L' = []) := by
  refine FnF.mk' Tryz.func61 rfl rfl Tryz.ntmps61 rfl ?_
  cases p
  · repeat' (first | rintro _ _ ⟨rfl, rfl⟩ | refine exq fun _ => ?_ | intro _ | refine go ?_ | refine drq ?_ | refine spl ?_ ?_ | fail)
    all_goals (apply WE_ret rfl rfl (by (repeat (first | exact ResOk.nil | (apply ResOk.tmp; rfl) | (apply resOk_cell; rfl; exact inferInstance; rfl; rfl)))); (exact ⟨by first | (simp_all [fitsB]; done) | (simp_all [fitsB]; omega), rfl⟩); (repeat (first | exact Ent.refl | exact Ent.nil | apply Ent.pick | apply Ent.drop)))
  · repeat (first | rintro _ _ ⟨rfl, rfl⟩ | refine exq fun _ => ?_ | intro _ | refine go ?_ | refine drq ?_)
    repeat (first | rintro _ _ ⟨rfl, rfl⟩ | refine exq fun _ => ?_ | intro _ | refine go ?_ | refine drq ?_ | refine cal @shape_Power ?_)
    cases h : powB n
    all_goals repeat' (first | rintro _ _ ⟨rfl, rfl⟩ | refine exq fun _ => ?_ | intro _ | refine go ?_ | refine drq ?_ | refine spl ?_ ?_ | fail)
    all_goals (apply WE_ret rfl rfl (by (repeat (first | exact ResOk.nil | (apply ResOk.tmp; rfl) | (apply resOk_cell; rfl; exact inferInstance; rfl; rfl)))); (exact ⟨by first | (simp_all [fitsB]; done) | (simp_all [fitsB]; omega), rfl⟩); (repeat (first | exact Ent.refl | exact Ent.nil | apply Ent.pick | apply Ent.drop)))

def bnds (c : Cfg) : List (Int × Int × Int × Bool) := [(c.cores, 1, 64, false), (c.homes, 1, 16, true), (c.sets, 1, 64, true), (c.words, 1, 8, true), (c.lines, 1, 1024, true), (c.ways, 1, 8, false),
  (c.pointers, 0, 8, false), (c.mshrs, 1, 8, false), (c.buffer, 1, 16, false), (c.writebacks, 1, 8, false), (c.r0, 1, 64, false), (c.r1, 1, 64, false), (c.r2, 1, 64, false)]
def encBnd (b : Int × Int × Int × Bool) : List Value := [.int .i64 b.1, .int .i64 b.2.1, .int .i64 b.2.2.1, .bool b.2.2.2]
theorem checkB_all (c : Cfg) : checkB c = (bnds c).all (fun b => fitsB b.1 b.2.1 b.2.2.1 b.2.2.2) := by
  simp [checkB, bnds, Bool.and_assoc]
theorem bnds_wf (c : Cfg) (hc : c.wf) : ∀ b ∈ bnds c, I64 b.1 := by
  intro b hb
  obtain ⟨h1, h2, h3, h4, h5, h6, h7, h8, h9, h10, h11, h12, h13⟩ := hc
  simp only [bnds, List.mem_cons, List.not_mem_nil, or_false] at hb
  rcases hb with rfl | rfl | rfl | rfl | rfl | rfl | rfl | rfl | rfl | rfl | rfl | rfl | rfl <;> assumption

theorem shape_Check {F : List HP} {c : Cfg} (hc : c.wf) : FnF Tryz.prog 19 [c.val] [] F (fun r L' => r = (.int .i64 (checkE c)) ∧ L' = []) := by
  refine FnF.mk' Tryz.func19 rfl rfl Tryz.ntmps19 rfl ?_
  repeat (first | rintro _ _ ⟨rfl, rfl⟩ | refine exq fun _ => ?_ | intro _ | refine go ?_ | refine drq ?_)
  apply WC_loop (fun j : Nat => [(50, .int .i64 (j : Int)), (49, .agg (flat encBnd (bnds c)).toArray)]) (fun _ => F) (fun j => j ≤ 13 ∧ ∀ i (h : i < (bnds c).length), i < j → fitsB (bnds c)[i].1 (bnds c)[i].2.1 (bnds c)[i].2.2.1 (bnds c)[i].2.2.2 = true) (fun j => 13 - j) 0
  · exact ⟨by omega, fun i h hi => by omega⟩
  · exact Sub.cons rfl (Sub.cons rfl Sub.nil)
  · exact entu0
  · rintro j ⟨hj, hall⟩
    by_cases hlt : j < 13
    · have hlen : j < (bnds c).length := hlt
      have hs := sub_flat (enc := encBnd) (n := 4) (fun _ => rfl) (bnds c) j hlen
      repeat (first | rintro _ _ ⟨rfl, rfl⟩ | refine exq fun _ => ?_ | intro _ | refine go ?_ | refine drq ?_)
      refine WO_v (v_index_array rfl rfl (by omega) (by omega) hs rfl) rfl ?_
      have hwf := bnds_wf c hc _ (List.getElem_mem hlen)
      generalize hb : (bnds c)[j] = b at hwf
      repeat (first | rintro _ _ ⟨rfl, rfl⟩ | refine exq fun _ => ?_ | intro _ | refine go ?_ | refine drq ?_)
      repeat (first | rintro _ _ ⟨rfl, rfl⟩ | refine exq fun _ => ?_ | intro _ | refine go ?_ | refine drq ?_ | refine cal @shape_fits ?_)
      cases hf : fitsB b.1 b.2.1 b.2.2.1 b.2.2.2
      · repeat (first | rintro _ _ ⟨rfl, rfl⟩ | refine exq fun _ => ?_ | intro _ | refine go ?_ | refine drq ?_)
        have e : checkB c = false := by
          rw [checkB_all, List.all_eq_false]
          exact ⟨_, List.getElem_mem hlen, by simp [hb, hf]⟩
        (apply WE_ret rfl rfl (by (repeat (first | exact ResOk.nil | (apply ResOk.tmp; rfl) | (apply resOk_cell; rfl; exact inferInstance; rfl; rfl)))); (exact ⟨by first | (simp [checkE, e]; done) | (simp [checkE, e]; omega), rfl⟩); (repeat (first | exact Ent.refl | exact Ent.nil | apply Ent.pick | apply Ent.drop)))
      · repeat (first | rintro _ _ ⟨rfl, rfl⟩ | refine exq fun _ => ?_ | intro _ | refine go ?_ | refine drq ?_)
        refine WE_loop (j + 1) (by omega) ⟨by omega, fun i h hi => ?_⟩ (Sub.cons rfl (Sub.cons rfl Sub.nil)) ?_
        · by_cases hij : i = j
          · subst hij; rw [hb]; exact hf
          · exact hall i h (by omega)
        · exact entu0
    · obtain rfl : j = 13 := by omega
      have e : checkB c = true := by
        rw [checkB_all, List.all_eq_true]
        intro b hb
        obtain ⟨i, hi, rfl⟩ := List.getElem_of_mem hb
        exact hall i hi hi
      repeat (first | rintro _ _ ⟨rfl, rfl⟩ | refine exq fun _ => ?_ | intro _ | refine go ?_ | refine drq ?_)
      (apply WE_ret rfl rfl (by (repeat (first | exact ResOk.nil | (apply ResOk.tmp; rfl) | (apply resOk_cell; rfl; exact inferInstance; rfl; rfl)))); (exact ⟨by first | (simp [checkE, e]; done) | (simp [checkE, e]; omega), rfl⟩); (repeat (first | exact Ent.refl | exact Ent.nil | apply Ent.pick | apply Ent.drop)))


theorem powB_pos {n : Int} (h : powB n = true) : ∃ k, k < 63 ∧ n = 2 ^ k := by
  unfold powB at h
  cases e : powOf n with
  | none => simp [e] at h
  | some k => exact ⟨k, powOf_some e⟩

theorem check_words {c : Cfg} (h : checkB c = true) : 1 ≤ c.words ∧ c.words ≤ 8 ∧ 1 ≤ c.lines ∧ c.lines ≤ 1024 := by
  simp only [checkB, fitsB, Bool.and_eq_true, decide_eq_true_eq] at h
  omega

theorem mul_bd {a b m n : Int} (h1 : 0 ≤ a) (h2 : a ≤ m) (h3 : 0 ≤ b) (h4 : b ≤ n) (hn : 0 ≤ n) : 0 ≤ a * b ∧ a * b ≤ m * n :=
  ⟨Int.mul_nonneg h1 h3, Int.le_trans (Int.mul_le_mul_of_nonneg_right h2 h3) (Int.mul_le_mul_of_nonneg_left h4 (by omega))⟩

theorem shape_Size {F : List HP} {c : Cfg} (hc : c.wf) : FnF Tryz.prog 63 [c.val] [] F (fun r L' => r = (.int .i64 (sizeOf' c)) ∧ L' = []) := by
  refine FnF.mk' Tryz.func63 rfl rfl Tryz.ntmps63 rfl ?_
  repeat (first | rintro _ _ ⟨rfl, rfl⟩ | refine exq fun _ => ?_ | intro _ | refine go ?_ | refine drq ?_)
  repeat (first | rintro _ _ ⟨rfl, rfl⟩ | refine exq fun _ => ?_ | intro _ | refine go ?_ | refine drq ?_ | refine cal @shape_Check ?_)
  cases e : checkB c
  · have e1 : checkE c = 1 := by simp [checkE, e]
    repeat (first | rintro _ _ ⟨rfl, rfl⟩ | refine exq fun _ => ?_ | intro _ | refine go ?_ | refine drq ?_)
    (apply WE_ret rfl rfl (by (repeat (first | exact ResOk.nil | (apply ResOk.tmp; rfl) | (apply resOk_cell; rfl; exact inferInstance; rfl; rfl)))); (exact ⟨by first | (simp [sizeOf', e]; done) | (simp [sizeOf', e]; omega), rfl⟩); (repeat (first | exact Ent.refl | exact Ent.nil | apply Ent.pick | apply Ent.drop)))
  · have e1 : checkE c = 0 := by simp [checkE, e]
    have hw := check_words e
    have hm := mul_bd (m := 8) (n := 1024) (a := c.words) (b := c.lines) (by omega) (by omega) (by omega) (by omega) (by omega)
    repeat (first | rintro _ _ ⟨rfl, rfl⟩ | refine exq fun _ => ?_ | intro _ | refine go ?_ | refine drq ?_)
    (apply WE_ret rfl rfl (by (repeat (first | exact ResOk.nil | (apply ResOk.tmp; rfl) | (apply resOk_cell; rfl; exact inferInstance; rfl; rfl)))); (exact ⟨by first | (simp [sizeOf', e]; done) | (simp [sizeOf', e]; omega), rfl⟩); (repeat (first | exact Ent.refl | exact Ent.nil | apply Ent.pick | apply Ent.drop)))

theorem ref01_Power {F : List HP} {n : Int} (hn : I64 n) : FnF Tryz.prog 192 [.int .i64 n] [] F (fun r L' => r = (.tuple [.int .i64 (powK n), .bool (powB n)].toArray) ∧ L' = []) := by
  unfold I64 at hn
  refine FnF.mk' Tryz.func192 rfl rfl Tryz.ntmps192 rfl ?_
  repeat (first | rintro _ _ ⟨rfl, rfl⟩ | refine exq fun _ => ?_ | intro _ | refine go ?_ | refine drq ?_)
  apply WC_loop (fun k : Nat => [(0, .int .i64 n), (5, .int .i64 (k : Int)), (4, .int .i64 (IntKind.i64.wrap (2 ^ k)))]) (fun _ => F) (fun k => k ≤ 63 ∧ ∀ j, j < k → (2 : Int) ^ j ≠ n) (fun k => 64 - k) 0
  · exact ⟨by omega, fun j hj => by omega⟩
  · exact Sub.cons rfl (Sub.cons rfl (Sub.cons (by rw [show IntKind.i64.wrap ((2 : Int) ^ 0) = 1 from wrap_id (by decide) (by decide)]; rfl) Sub.nil))
  · exact entu0
  · rintro k ⟨hk, h1⟩
    by_cases hlt : k < 63
    · have hp := pow_lt63 hlt
      have h0 : (0 : Int) < 2 ^ k := Int.pow_pos (by omega)
      rw [wrap_id (n := (2 : Int) ^ k) (by omega) (by omega)]
      by_cases he : (2 : Int) ^ k = n
      · subst he
        have e1 : powK (2 ^ k) = k := by simp [powK, powOf_pow hlt]
        have e2 : powB (2 ^ k) = true := by simp [powB, powOf_pow hlt]
        repeat (first | rintro _ _ ⟨rfl, rfl⟩ | refine exq fun _ => ?_ | intro _ | refine go ?_ | refine drq ?_)
        (apply WE_ret rfl rfl (by (repeat (first | exact ResOk.nil | (apply ResOk.tmp; rfl) | (apply resOk_cell; rfl; exact inferInstance; rfl; rfl)))); (exact ⟨by first | (rw [e1, e2]; rfl; done) | (rw [e1, e2]; rfl; omega), rfl⟩); (repeat (first | exact Ent.refl | exact Ent.nil | apply Ent.pick | apply Ent.drop)))
      · repeat (first | rintro _ _ ⟨rfl, rfl⟩ | refine exq fun _ => ?_ | intro _ | refine go ?_ | refine drq ?_)
        refine WE_loop (k + 1) (by omega) ⟨by omega, fun j hj => ?_⟩ (Sub.cons rfl (Sub.cons rfl (Sub.cons ?_ Sub.nil))) ?_
        · by_cases e : j = k
          · subst e; exact he
          · exact h1 j (by omega)
        · rw [Int.pow_succ, Int.mul_comm]; rfl
        · exact entu0
    · obtain rfl : k = 63 := by omega
      have e : powOf n = none := by
        cases e : powOf n with
        | none => rfl
        | some k => obtain ⟨h2, h3⟩ := powOf_some e; exact absurd h3.symm (h1 k h2)
      have e1 : powK n = 0 := by simp [powK, e]
      have e2 : powB n = false := by simp [powB, e]
      repeat (first | rintro _ _ ⟨rfl, rfl⟩ | refine exq fun _ => ?_ | intro _ | refine go ?_ | refine drq ?_)
      (apply WE_ret rfl rfl (by (repeat (first | exact ResOk.nil | (apply ResOk.tmp; rfl) | (apply resOk_cell; rfl; exact inferInstance; rfl; rfl)))); (exact ⟨by first | (rw [e1, e2]; rfl; done) | (rw [e1, e2]; rfl; omega), rfl⟩); (repeat (first | exact Ent.refl | exact Ent.nil | apply Ent.pick | apply Ent.drop)))

theorem ref01_in {F : List HP} {n l h : Int} : FnF Tryz.prog 120 [.int .i64 n, .int .i64 l, .int .i64 h] [] F (fun r L' => r = (.bool (fitsB n l h false)) ∧ L' = []) := by
  refine FnF.mk' Tryz.func120 rfl rfl Tryz.ntmps120 rfl ?_
  repeat' (first | rintro _ _ ⟨rfl, rfl⟩ | refine exq fun _ => ?_ | intro _ | refine go ?_ | refine drq ?_ | refine spl ?_ ?_ | fail)
  all_goals (apply WE_ret rfl rfl (by (repeat (first | exact ResOk.nil | (apply ResOk.tmp; rfl) | (apply resOk_cell; rfl; exact inferInstance; rfl; rfl)))); (exact ⟨by first | (simp_all [fitsB]; done) | (simp_all [fitsB]; omega), rfl⟩); (repeat (first | exact Ent.refl | exact Ent.nil | apply Ent.pick | apply Ent.drop)))

theorem ref01_power {F : List HP} {n h : Int} (hn : I64 n) : FnF Tryz.prog 121 [.int .i64 n, .int .i64 h] [] F (fun r L' => r = (.bool (fitsB n 1 h true)) ∧ L' = []) := by
  refine FnF.mk' Tryz.func121 rfl rfl Tryz.ntmps121 rfl ?_
  repeat (first | rintro _ _ ⟨rfl, rfl⟩ | refine exq fun _ => ?_ | intro _ | refine go ?_ | refine drq ?_)
  repeat (first | rintro _ _ ⟨rfl, rfl⟩ | refine exq fun _ => ?_ | intro _ | refine go ?_ | refine drq ?_ | refine cal @ref01_Power ?_)
  have key : powB n = true → 1 ≤ n := fun e => by
    obtain ⟨k, hk, rfl⟩ := powB_pos e
    have : (0 : Int) < 2 ^ k := Int.pow_pos (by omega)
    omega
  cases e : powB n
  · repeat (first | rintro _ _ ⟨rfl, rfl⟩ | refine exq fun _ => ?_ | intro _ | refine go ?_ | refine drq ?_)
    (apply WE_ret rfl rfl (by (repeat (first | exact ResOk.nil | (apply ResOk.tmp; rfl) | (apply resOk_cell; rfl; exact inferInstance; rfl; rfl)))); (exact ⟨by first | (simp [fitsB, e]; done) | (simp [fitsB, e]; omega), rfl⟩); (repeat (first | exact Ent.refl | exact Ent.nil | apply Ent.pick | apply Ent.drop)))
  · have := key e
    repeat (first | rintro _ _ ⟨rfl, rfl⟩ | refine exq fun _ => ?_ | intro _ | refine go ?_ | refine drq ?_)
    (apply WE_ret rfl rfl (by (repeat (first | exact ResOk.nil | (apply ResOk.tmp; rfl) | (apply resOk_cell; rfl; exact inferInstance; rfl; rfl)))); (exact ⟨by first | (simp [fitsB, e, this]; done) | (simp [fitsB, e, this]; omega), rfl⟩); (repeat (first | exact Ent.refl | exact Ent.nil | apply Ent.pick | apply Ent.drop)))


theorem ref01_Check {F : List HP} {c : Cfg} (hc : c.wf) : FnF Tryz.prog 50 [c.val] [] F (fun r L' => r = (.int .i64 (checkE c)) ∧ L' = []) := by
  obtain ⟨h1, h2, h3, h4, h5, h6, h7, h8, h9, h10, h11, h12, h13⟩ := hc
  refine FnF.mk' Tryz.func50 rfl rfl Tryz.ntmps50 rfl ?_
  repeat' (first | rintro _ _ ⟨rfl, rfl⟩ | refine exq fun _ => ?_ | intro _ | refine go ?_ | refine drq ?_ | refine cal @ref01_in ?_ | refine cal @ref01_power ?_ | refine spl ?_ ?_ | fail)
  all_goals try (refine WC_rounds 4 ?_; repeat' (first | rintro _ _ ⟨rfl, rfl⟩ | refine exq fun _ => ?_ | intro _ | refine go ?_ | refine drq ?_ | refine cal @ref01_in ?_ | refine spl ?_ ?_ | fail))
  all_goals (apply WE_ret rfl rfl (by (repeat (first | exact ResOk.nil | (apply ResOk.tmp; rfl) | (apply resOk_cell; rfl; exact inferInstance; rfl; rfl)))); (exact ⟨by first | (simp_all [checkE, checkB]; done) | (simp_all [checkE, checkB]; omega), rfl⟩); (repeat (first | exact Ent.refl | exact Ent.nil | apply Ent.pick | apply Ent.drop)))

end Go.Sx

/- What write-back buffers do, the program's. My own work. -/
namespace Go.Sx
open Go Go.Proofs
set_option linter.unusedVariables false
set_option linter.unusedSectionVars false
set_option maxRecDepth 100000
set_option maxHeartbeats 4000000
attribute [local irreducible] Go.Exit.then Go.Exit.inBlock Go.Code.wp WC WO WE WQ V LoopQ FnQ Sat Star band bor IntKind.wrap WR Code.rounds WT KO


/-! ## What they do, told of lists -/
def wbPlace (l : List WbE) (line : Int) : Int := indexBy (fun e => decide (e.line = line)) l
def wbAt (l : List WbE) (line : Int) : WbE := l.getD (wbPlace l line).toNat ⟨0, .zero, false⟩
def wbIn (l : List WbE) (line : Int) : Bool := decide (0 ≤ wbPlace l line)
def wbPutE (room : Int) (l : List WbE) (line : Int) : Int := if wbIn l line then 6 else if (l.length : Int) = room then 4 else 0
def wbPutL (room : Int) (l : List WbE) (line : Int) (w : Words) : List WbE := if wbIn l line then l else if (l.length : Int) = room then l else l ++ [⟨line, w, true⟩]
def wbTellE (l : List WbE) (line : Int) : Int := if wbIn l line then (if (wbAt l line).live then 0 else 7) else 5
def wbTellW (l : List WbE) (line : Int) : Words := if wbIn l line && (wbAt l line).live then (wbAt l line).words else .zero
def wbGiveL (l : List WbE) (line : Int) : List WbE := if wbIn l line && (wbAt l line).live then l.set (wbPlace l line).toNat { wbAt l line with live := false } else l
def wbDropE (l : List WbE) (line : Int) : Int := if wbIn l line then 0 else 5
def wbDropL (l : List WbE) (line : Int) : List WbE := if wbIn l line then l.eraseIdx (wbPlace l line).toNat else l
def wbGet (l : List WbE) (line : Int) : WbE := if wbIn l line then wbAt l line else ⟨0, .zero, false⟩

theorem wbIn_t {l : List WbE} {line : Int} (h : wbIn l line = true) : ∃ i : Nat, ∃ hi : i < l.length, wbPlace l line = i ∧ wbAt l line = l[i] ∧ l[i].line = line := by
  obtain ⟨i, hi, h1, h2, _⟩ := indexBy_nat (of_decide_eq_true h)
  refine ⟨i, hi, h1, ?_, by simpa using h2⟩
  unfold wbAt wbPlace
  rw [h1]; simp [hi]
theorem wbIn_f {l : List WbE} {line : Int} (h : wbIn l line = false) : wbPlace l line = -1 := (indexBy_neg (of_decide_eq_false h)).1

abbrev Wb (b : Nat) (room : Int) (l : List WbE) : HP := RL 238 142 10 bc b room l

theorem wb_New {F : List HP} {room : Int} (h : 1 ≤ room ∧ room ≤ 8) : FnF Tryz.prog 49 [.int .i64 room] [] F (fun r L' => ∃ b, r = .tuple [.pointer (some ⟨b, 0, none⟩), .int .i64 0].toArray ∧ L' = [Wb b room []]) := by
  refine FnF.mk' Tryz.func49 rfl rfl Tryz.ntmps49 rfl ?_
  repeat (first | rintro _ _ ⟨rfl, rfl⟩ | refine exq fun _ => ?_ | intro _ | refine go ?_ | refine drq ?_)
  (apply WE_ret rfl rfl (by (repeat (first | exact ResOk.nil | (apply ResOk.tmp; rfl) | (apply resOk_cell; rfl; exact inferInstance; rfl; rfl)))))
  · exact ⟨_, rfl, rfl⟩
  · exact RL_in (l := []) (Ent.cons (own_empty Ent.refl)) rfl rfl (by simp; omega)
theorem wb_New_no {F : List HP} {room : Int} (h : ¬ (1 ≤ room ∧ room ≤ 8)) : FnF Tryz.prog 49 [.int .i64 room] [] F (fun r L' => r = .tuple [.pointer none, .int .i64 1].toArray ∧ L' = []) := by
  refine FnF.mk' Tryz.func49 rfl rfl Tryz.ntmps49 rfl ?_
  repeat' (first | rintro _ _ ⟨rfl, rfl⟩ | refine exq fun _ => ?_ | intro _ | refine go ?_ | refine drq ?_ | refine spl ?_ ?_ | fail)
  all_goals first | omega | exact fin0

theorem wb_at1 {F : List HP} {b : Nat} {line : Int} {T : TypeId} {C : List Value → List HP} {e : WbE} (k : CellsAt b F T [.int .i64 line] C) :
    FnF Tryz.prog 201 [bv e, .pointer (some ⟨b, 0, none⟩)] [] F (fun r L' => r = .bool (decide (e.line = line)) ∧ L' = []) := by
  refine FnF.mk' Tryz.func201 rfl rfl Tryz.ntmps201 rfl ?_
  repeat (first | rintro _ _ ⟨rfl, rfl⟩ | refine exq fun _ => ?_ | intro _ | refine go ?_ | refine drq ?_)
  exact fin0

theorem wb_idx {F : List HP} {b : Nat} {line : Int} {T : TypeId} {C : List Value → List HP} {v : Value} {l : List WbE} (k1 : CellsAt b F T [.int .i64 line] C) (k : RdL F 10 v l.length (flat bc l)) (hn : l.length ≤ 1099511627776) :
    FnF Tryz.prog 200 [v, .func (.func 201) [].toArray [.pointer (some ⟨b, 0, none⟩)].toArray] [] F (fun r L' => r = .int .i64 (wbPlace l line) ∧ L' = []) :=
  sl_IndexFunc_wbe (first := []) (p := fun e => decide (e.line = line)) k hn (fun x _ => wb_at1 k1)

theorem wb_at {F : List HP} {b : Nat} {room : Int} {l : List WbE} {line : Int} : FnF Tryz.prog 149 [.pointer (some ⟨b, 0, none⟩), .int .i64 line] [Wb b room l] F (fun r L' => r = .int .i64 (wbPlace l line) ∧ L' = [Wb b room l]) := by
  refine FnF.mk' Tryz.func149 rfl rfl Tryz.ntmps149 rfl ?_
  refine RL_open fun p c hl => ?_
  repeat (first | rintro _ _ ⟨rfl, rfl⟩ | refine exq fun _ => ?_ | intro _ | refine go ?_ | refine drq ?_ | refine cal @wb_idx ?_)
  (apply WE_ret rfl rfl (by (repeat (first | exact ResOk.nil | (apply ResOk.tmp; rfl) | (apply resOk_cell; rfl; exact inferInstance; rfl; rfl)))))
  · exact ⟨rfl, rfl⟩
  · (apply RL_in; (focus (exact entu0)); all_goals (first | rfl | (with_reducible assumption) | (simp; done) | (simp; omega) | omega | (constructor <;> (simp) <;> omega)))

theorem wb_Left {F : List HP} {b : Nat} {room : Int} {l : List WbE} : FnF Tryz.prog 150 [.pointer (some ⟨b, 0, none⟩)] [Wb b room l] F (fun r L' => r = .int .i64 (room - l.length) ∧ L' = [Wb b room l]) := by
  refine FnF.mk' Tryz.func150 rfl rfl Tryz.ntmps150 rfl ?_
  refine RL_open fun p c hl => ?_
  repeat (first | rintro _ _ ⟨rfl, rfl⟩ | refine exq fun _ => ?_ | intro _ | refine go ?_ | refine drq ?_)
  (apply WE_ret rfl rfl (by (repeat (first | exact ResOk.nil | (apply ResOk.tmp; rfl) | (apply resOk_cell; rfl; exact inferInstance; rfl; rfl)))))
  · exact ⟨rfl, rfl⟩
  · (apply RL_in; (focus (exact entu0)); all_goals (first | rfl | (with_reducible assumption) | (simp; done) | (simp; omega) | omega | (constructor <;> (simp) <;> omega)))

theorem dr_Wb_71 {Q P : Prop} (k : Q) (h : Hid Q → P := by
  intro k
  first
  | (refine is_draw ?_; apply WC_mix (id := 5) .true _ (pl := .p 0 <| .p 1 <| .p 2 <| .p 3 <| .p 5 <| .r 4 <| .r 6 <| .p 7 <| .e true [(8, .e true [(9, .p 10 <| .p 11 <| .e false [(12, .done)])])]); exact mixed; kernel_rfl; kernel_rfl; exact Ent.refl; exact k.out)) : P := h ⟨k⟩
theorem wb_Put {F : List HP} {b : Nat} {room : Int} {l : List WbE} {line : Int} {w : Words} : FnF Tryz.prog 71 [.pointer (some ⟨b, 0, none⟩), .int .i64 line, wv w] [Wb b room l] F (fun r L' => r = .int .i64 (wbPutE room l line) ∧ L' = [Wb b room (wbPutL room l line w)]) := by
  refine FnF.mk' Tryz.func71 rfl rfl Tryz.ntmps71 rfl ?_
  cases e : wbIn l line with
  | true =>
    have h0 : 0 ≤ wbPlace l line := of_decide_eq_true e
    repeat (first | rintro _ _ ⟨rfl, rfl⟩ | refine exq fun _ => ?_ | intro _ | refine go ?_ | refine dr_Wb_71 ?_ | refine drq ?_ | refine cal @wb_at ?_)
    (apply WE_ret rfl rfl (by (repeat (first | exact ResOk.nil | (apply ResOk.tmp; rfl) | (apply resOk_cell; rfl; exact inferInstance; rfl; rfl)))))
    · exact ⟨by simp [wbPutE, e], rfl⟩
    · simp only [wbPutL, e, if_true]; exact entu0
  | false =>
    have h0 := wbIn_f e
    by_cases hf : (l.length : Int) = room
    · repeat (first | rintro _ _ ⟨rfl, rfl⟩ | refine exq fun _ => ?_ | intro _ | refine go ?_ | refine dr_Wb_71 ?_ | refine drq ?_ | refine cal @wb_at ?_ | refine cal @wb_Left ?_)
      (apply WE_ret rfl rfl (by (repeat (first | exact ResOk.nil | (apply ResOk.tmp; rfl) | (apply resOk_cell; rfl; exact inferInstance; rfl; rfl)))))
      · exact ⟨by simp [wbPutE, e, hf], rfl⟩
      · simp only [wbPutL, e, hf, Bool.false_eq_true, if_false, if_true]; exact entu0
    · repeat (first | rintro _ _ ⟨rfl, rfl⟩ | refine exq fun _ => ?_ | intro _ | refine go ?_ | refine cal @wb_at ?_ | refine cal @wb_Left ?_)
      (first | refine WO_front (Wb b room l) ?_ | refine WC_front (Wb b room l) ?_ | refine WE_front (Wb b room l) ?_)
      refine RL_open fun p c hl => ?_
      repeat (first | rintro _ _ ⟨rfl, rfl⟩ | refine exq fun _ => ?_ | intro _ | refine go ?_ | refine dr_Wb_71 ?_ | refine drq ?_)
      (apply WE_ret rfl rfl (by (repeat (first | exact ResOk.nil | (apply ResOk.tmp; rfl) | (apply resOk_cell; rfl; exact inferInstance; rfl; rfl)))))
      · exact ⟨by simp [wbPutE, e, hf], rfl⟩
      · simp only [wbPutL, e, hf, Bool.false_eq_true, if_false]
        (apply RL_in; (focus (exact entu0)); all_goals (first | rfl | (with_reducible assumption) | (simp; done) | (simp; omega) | omega | (constructor <;> (simp) <;> omega)))

theorem wb_Share1 {F : List HP} {v : Value} : FnF Tryz.prog 204 [v] [] F (fun r L' => r = .tuple [].toArray ∧ L' = []) := by
  refine FnF.mk' Tryz.func204 rfl rfl Tryz.ntmps204 rfl ?_
  repeat (first | rintro _ _ ⟨rfl, rfl⟩ | refine exq fun _ => ?_ | intro _ | refine go ?_ | refine drq ?_)
  exact fin0

theorem wb_Give1 {F : List HP} {v : Value} {l : List WbE} {i : Nat} (hi : i < l.length) :
    FnF Tryz.prog 205 [.pointer (some ⟨pb v, po v + i * 10, none⟩)] [Own 142 10 v l.length (flat bc l)] F (fun r L' => r = .tuple [].toArray ∧ L' = [Own 142 10 v l.length (flat bc (l.set i { l[i] with live := false }))]) := by
  refine FnF.mk' Tryz.func205 rfl rfl Tryz.ntmps205 rfl ?_
  repeat (first | rintro _ _ ⟨rfl, rfl⟩ | refine exq fun _ => ?_ | intro _ | refine go ?_ | refine drq ?_)
  rw [splice_flatJ (enc := bc) (n := 10) (fun _ => rfl) l i hi (x := { l[i] with live := false }) (by simp) rfl]
  exact fin0

theorem wb_tell {F : List HP} {b : Nat} {room : Int} {l : List WbE} {line : Int} {fk : FuncId} {g : WbE → WbE}
    (H : ∀ (F : List HP) (v : Value) (i : Nat) (hi : i < l.length), l[i].live = true → FnF Tryz.prog fk [.pointer (some ⟨pb v, po v + i * 10, none⟩)] [Own 142 10 v l.length (flat bc l)] F (fun r L' => r = .tuple [].toArray ∧ L' = [Own 142 10 v l.length (flat bc (l.set i (g l[i])))]))
    (hg : ∀ e, (g e).words = e.words) :
    FnF Tryz.prog 203 [.pointer (some ⟨b, 0, none⟩), .int .i64 line, .func (.func fk) [].toArray [].toArray] [Wb b room l] F
      (fun r L' => r = .tuple [wv (wbTellW l line), .int .i64 (wbTellE l line)].toArray ∧ L' = [Wb b room (if wbIn l line && (wbAt l line).live then l.set (wbPlace l line).toNat (g (wbAt l line)) else l)]) := by
  refine FnF.mk' Tryz.func203 rfl rfl Tryz.ntmps203 rfl ?_
  cases e : wbIn l line with
  | false =>
    have h0 := wbIn_f e
    repeat (first | rintro _ _ ⟨rfl, rfl⟩ | refine exq fun _ => ?_ | intro _ | refine go ?_ | refine drq ?_ | refine cal @wb_at ?_)
    (apply WE_ret rfl rfl (by (repeat (first | exact ResOk.nil | (apply ResOk.tmp; rfl) | (apply resOk_cell; rfl; exact inferInstance; rfl; rfl)))))
    · exact ⟨by simp [wbTellE, wbTellW, e, Words.zero], rfl⟩
    · simp only [Bool.false_and, Bool.false_eq_true, if_false]; exact entu0
  | true =>
    obtain ⟨i, hi, h1, h2, h3⟩ := wbIn_t e
    have hA := fun F => wb_at (F := F) (b := b) (room := room) (l := l) (line := line)
    simp only [h1] at hA
    rw [h1, h2]
    have hn : (i : Int).toNat = i := by omega
    cases hl : l[i].live with
    | false =>
      repeat (first | rintro _ _ ⟨rfl, rfl⟩ | refine exq fun _ => ?_ | intro _ | refine go ?_ | refine drq ?_ | refine cal @hA ?_)
      (first | refine WO_front (Wb b room l) ?_ | refine WC_front (Wb b room l) ?_ | refine WE_front (Wb b room l) ?_)
      refine RL_openO fun p c hl0 => ?_
      repeat (first | rintro _ _ ⟨rfl, rfl⟩ | refine exq fun _ => ?_ | intro _ | refine go ?_ | refine drq ?_)
      (apply WE_ret rfl rfl (by (repeat (first | exact ResOk.nil | (apply ResOk.tmp; rfl) | (apply resOk_cell; rfl; exact inferInstance; rfl; rfl)))))
      · exact ⟨by simp [wbTellE, wbTellW, e, h2, hl, Words.zero], rfl⟩
      · simp only [Bool.and_false, Bool.false_eq_true, if_false]; ((repeat (first | (with_reducible exact Ent.refl) | exact Ent.nil | (apply ent_pickE; (focus ((repeat (first | (with_reducible exact pk_here) | (apply pk_there))); done))) | (apply RL_in) | apply Ent.drop)); all_goals (first | rfl | (with_reducible assumption) | (simp; done) | (simp; omega) | omega | (constructor <;> (simp) <;> omega)))
    | true =>
      have hls : (l.set i (g l[i])).length = l.length := List.length_set
      have hget : (l.set i (g l[i]))[i]'(by omega) = g l[i] := by simp
      have hH := fun F v => H F v i hi hl
      repeat (first | rintro _ _ ⟨rfl, rfl⟩ | refine exq fun _ => ?_ | intro _ | refine go ?_ | refine drq ?_ | refine cal @hA ?_)
      (first | refine WO_front (Wb b room l) ?_ | refine WC_front (Wb b room l) ?_ | refine WE_front (Wb b room l) ?_)
      refine RL_openO fun p c hl0 => ?_
      (first | (refine WO_some (.slice p l.length c) inferInstance (by omega) ?_; intro _) | (refine WC_some (.slice p l.length c) inferInstance (by omega) ?_; intro _))
      repeat (first | rintro _ _ ⟨rfl, rfl⟩ | refine exq fun _ => ?_ | intro _ | refine go ?_ | refine drq ?_ | refine cal @hH ?_)
      rw [hget, hg]
      (apply WE_ret rfl rfl (by (repeat (first | exact ResOk.nil | (apply ResOk.tmp; rfl) | (apply resOk_cell; rfl; exact inferInstance; rfl; rfl)))))
      · exact ⟨by simp [wbTellE, wbTellW, e, h2, hl], rfl⟩
      · simp only [Bool.and_true, if_true, hn]
        ((repeat (first | (with_reducible exact Ent.refl) | exact Ent.nil | (apply ent_pickE; (focus ((repeat (first | (with_reducible exact pk_here) | (apply pk_there))); done))) | (apply RL_in) | apply Ent.drop)); all_goals (first | rfl | (with_reducible assumption) | (simp; done) | (simp; omega) | omega | (constructor <;> (simp) <;> omega)))

theorem wb_Share {F : List HP} {b : Nat} {room : Int} {l : List WbE} {line : Int} : FnF Tryz.prog 156 [.pointer (some ⟨b, 0, none⟩), .int .i64 line] [Wb b room l] F (fun r L' => r = .tuple [wv (wbTellW l line), .int .i64 (wbTellE l line)].toArray ∧ L' = [Wb b room l]) := by
  have hT := fun F => wb_tell (F := F) (b := b) (room := room) (l := l) (line := line) (fk := 204) (g := fun e => e) (fun F v i hi hl => by
    rw [List.set_getElem_self]; exact wb_Share1.pure) (fun _ => rfl)
  have hs : (if (wbIn l line && (wbAt l line).live) = true then l.set (wbPlace l line).toNat (wbAt l line) else l) = l := by
    split
    · rename_i h
      obtain ⟨i, hi, h1, h2, h3⟩ := wbIn_t (Bool.and_eq_true_iff.1 h).1
      rw [h1, h2]; simp
    · rfl
  simp only [hs] at hT
  refine FnF.mk' Tryz.func156 rfl rfl Tryz.ntmps156 rfl ?_
  repeat (first | rintro _ _ ⟨rfl, rfl⟩ | refine exq fun _ => ?_ | intro _ | refine go ?_ | refine drq ?_ | refine cal @hT ?_)
  (apply WE_ret rfl rfl (by (repeat (first | exact ResOk.nil | (apply ResOk.tmp; rfl) | (apply resOk_cell; rfl; exact inferInstance; rfl; rfl)))))
  · exact ⟨rfl, rfl⟩
  · exact entu0

theorem wb_Give {F : List HP} {b : Nat} {room : Int} {l : List WbE} {line : Int} : FnF Tryz.prog 157 [.pointer (some ⟨b, 0, none⟩), .int .i64 line] [Wb b room l] F (fun r L' => r = .tuple [wv (wbTellW l line), .int .i64 (wbTellE l line)].toArray ∧ L' = [Wb b room (wbGiveL l line)]) := by
  have hT := fun F => wb_tell (F := F) (b := b) (room := room) (l := l) (line := line) (fk := 205) (g := fun e => { e with live := false }) (fun F v i hi hl => wb_Give1 hi) (fun _ => rfl)
  refine FnF.mk' Tryz.func157 rfl rfl Tryz.ntmps157 rfl ?_
  repeat (first | rintro _ _ ⟨rfl, rfl⟩ | refine exq fun _ => ?_ | intro _ | refine go ?_ | refine drq ?_ | refine cal @hT ?_)
  (apply WE_ret rfl rfl (by (repeat (first | exact ResOk.nil | (apply ResOk.tmp; rfl) | (apply resOk_cell; rfl; exact inferInstance; rfl; rfl)))))
  · exact ⟨rfl, rfl⟩
  · unfold wbGiveL; exact entu0

theorem wb_Drop {F : List HP} {b : Nat} {room : Int} {l : List WbE} {line : Int} : FnF Tryz.prog 154 [.pointer (some ⟨b, 0, none⟩), .int .i64 line] [Wb b room l] F (fun r L' => r = .int .i64 (wbDropE l line) ∧ L' = [Wb b room (wbDropL l line)]) := by
  refine FnF.mk' Tryz.func154 rfl rfl Tryz.ntmps154 rfl ?_
  cases e : wbIn l line with
  | false =>
    have h0 := wbIn_f e
    repeat (first | rintro _ _ ⟨rfl, rfl⟩ | refine exq fun _ => ?_ | intro _ | refine go ?_ | refine drq ?_ | refine cal @wb_at ?_)
    (apply WE_ret rfl rfl (by (repeat (first | exact ResOk.nil | (apply ResOk.tmp; rfl) | (apply resOk_cell; rfl; exact inferInstance; rfl; rfl)))))
    · exact ⟨by simp [wbDropE, e], rfl⟩
    · simp only [wbDropL, e, Bool.false_eq_true, if_false]; exact entu0
  | true =>
    obtain ⟨i, hi, h1, h2, h3⟩ := wbIn_t e
    have hA := fun F => wb_at (F := F) (b := b) (room := room) (l := l) (line := line)
    simp only [h1] at hA
    repeat (first | rintro _ _ ⟨rfl, rfl⟩ | refine exq fun _ => ?_ | intro _ | refine go ?_ | refine drq ?_ | refine cal @hA ?_)
    (first | refine WO_front (Wb b room l) ?_ | refine WC_front (Wb b room l) ?_ | refine WE_front (Wb b room l) ?_)
    refine RL_openO fun p c hl0 => ?_
    repeat (first | rintro _ _ ⟨rfl, rfl⟩ | refine exq fun _ => ?_ | intro _ | refine go ?_ | refine drq ?_)
    refine cal (@sl_Delete_wbe (i := i) (j := i + 1)) ?_
    repeat (first | rintro _ _ ⟨rfl, rfl⟩ | refine exq fun _ => ?_ | intro _ | refine go ?_ | refine drq ?_)
    (apply WE_ret rfl rfl (by (repeat (first | exact ResOk.nil | (apply ResOk.tmp; rfl) | (apply resOk_cell; rfl; exact inferInstance; rfl; rfl)))))
    · exact ⟨by simp [wbDropE, e], rfl⟩
    · simp only [wbDropL, e, if_true, h1]
      apply RL_in
      · exact entu0
      · simp only [List.length_eraseIdx, Int.toNat_natCast]; split <;> omega
      · rw [flat_take (enc := bc) (n := 10) (fun _ => rfl), flat_drop (enc := bc) (n := 10) (fun _ => rfl)]
        simp [List.eraseIdx_eq_take_drop_succ]
      · have := List.length_eraseIdx_le l i
        simp only [Int.toNat_natCast]
        omega

theorem wb_Get {F : List HP} {b : Nat} {room : Int} {l : List WbE} {line : Int} : FnF Tryz.prog 84 [.pointer (some ⟨b, 0, none⟩), .int .i64 line] [Wb b room l] F (fun r L' => r = .tuple [bv (wbGet l line), .bool (wbIn l line)].toArray ∧ L' = [Wb b room l]) := by
  refine FnF.mk' Tryz.func84 rfl rfl Tryz.ntmps84 rfl ?_
  cases e : wbIn l line with
  | false =>
    have h0 := wbIn_f e
    repeat (first | rintro _ _ ⟨rfl, rfl⟩ | refine exq fun _ => ?_ | intro _ | refine go ?_ | refine drq ?_ | refine cal @wb_at ?_)
    (apply WE_ret rfl rfl (by (repeat (first | exact ResOk.nil | (apply ResOk.tmp; rfl) | (apply resOk_cell; rfl; exact inferInstance; rfl; rfl)))))
    · exact ⟨by simp [wbGet, e, Words.zero], rfl⟩
    · exact entu0
  | true =>
    obtain ⟨i, hi, h1, h2, h3⟩ := wbIn_t e
    have hA := fun F => wb_at (F := F) (b := b) (room := room) (l := l) (line := line)
    simp only [h1] at hA
    repeat (first | rintro _ _ ⟨rfl, rfl⟩ | refine exq fun _ => ?_ | intro _ | refine go ?_ | refine drq ?_ | refine cal @hA ?_)
    (first | refine WO_front (Wb b room l) ?_ | refine WC_front (Wb b room l) ?_ | refine WE_front (Wb b room l) ?_)
    refine RL_openO fun p c hl0 => ?_
    repeat (first | rintro _ _ ⟨rfl, rfl⟩ | refine exq fun _ => ?_ | intro _ | refine go ?_ | refine drq ?_)
    (apply WE_ret rfl rfl (by (repeat (first | exact ResOk.nil | (apply ResOk.tmp; rfl) | (apply resOk_cell; rfl; exact inferInstance; rfl; rfl)))))
    · exact ⟨by simp [wbGet, e, h2], rfl⟩
    · ((repeat (first | (with_reducible exact Ent.refl) | exact Ent.nil | (apply ent_pickE; (focus ((repeat (first | (with_reducible exact pk_here) | (apply pk_there))); done))) | (apply RL_in) | apply Ent.drop)); all_goals (first | rfl | (with_reducible assumption) | (simp; done) | (simp; omega) | omega | (constructor <;> (simp) <;> omega)))

theorem wb_List {F : List HP} {b : Nat} {room : Int} {l : List WbE} : FnF Tryz.prog 119 [.pointer (some ⟨b, 0, none⟩)] [Wb b room l] F (fun r L' => ∃ p c, r = .slice p l.length c ∧ L' = [Own 142 10 (.slice p l.length c) l.length (flat bc l), Wb b room l]) := by
  refine FnF.mk' Tryz.func119 rfl rfl Tryz.ntmps119 rfl ?_
  refine RL_open fun p c hl => ?_
  repeat (first | rintro _ _ ⟨rfl, rfl⟩ | refine exq fun _ => ?_ | intro _ | refine go ?_ | refine drq ?_ | refine cal @sl_Clone_wbe ?_)
  (apply WE_ret rfl rfl (by (repeat (first | exact ResOk.nil | (apply ResOk.tmp; rfl) | (apply resOk_cell; rfl; exact inferInstance; rfl; rfl)))))
  · exact ⟨_, _, rfl, rfl⟩
  · refine Ent.cons ?_
    (apply RL_in; (focus (exact entu0)); all_goals (first | rfl | (with_reducible assumption) | (simp; done) | (simp; omega) | omega | (constructor <;> (simp) <;> omega)))
end Go.Sx

/- What package program tells of operations and of programs. My own work. -/
namespace Go.Sx
open Go Go.Proofs
set_option linter.unusedVariables false
set_option linter.unusedSimpArgs false
set_option maxRecDepth 100000
set_option maxHeartbeats 4000000
attribute [local irreducible] Go.Exit.then Go.Exit.inBlock Go.Code.wp WC WO WE WQ V LoopQ FnQ Sat Star band bor IntKind.wrap WR Code.rounds WT KO

def mayB (x : Op3) : Bool := if x.kind = 4 then decide (x.addr = 0) && decide (x.value = 0) else if x.kind = 1 then decide (0 ≤ x.addr) && decide (x.addr ≤ 8191) && decide (x.value = 0)
  else if x.kind = 2 ∨ x.kind = 3 then decide (0 ≤ x.addr) && decide (x.addr ≤ 8191) && decide (-2147483648 ≤ x.value) && decide (x.value ≤ 2147483647) else false
def progB (c : Cfg) (l : List Op3) : Bool := (l.all fun x => mayB x && decide (x.addr < sizeOf' c)) && checkB c && decide (l.length ≤ 64)

theorem program_May {F : List HP} {x : Op3} : FnF Tryz.prog 145 [ov x] [] F (fun r L' => r = .bool (mayB x) ∧ L' = []) := by
  refine FnF.mk' Tryz.func145 rfl rfl Tryz.ntmps145 rfl ?_
  repeat' (first | rintro _ _ ⟨rfl, rfl⟩ | refine exq fun _ => ?_ | intro _ | refine go ?_ | refine drq ?_ | refine spl ?_ ?_ | fail)
  all_goals (apply WE_ret rfl rfl (by (repeat (first | exact ResOk.nil | (apply ResOk.tmp; rfl) | (apply resOk_cell; rfl; exact inferInstance; rfl; rfl)))); (exact ⟨by first | (simp_all [mayB]; done) | (simp_all [mayB]; omega), rfl⟩); (repeat (first | exact Ent.refl | exact Ent.nil | apply Ent.pick | apply Ent.drop)))

end Go.Sx

/- The document's files of misses. My own work. -/
namespace Go.Sx
open Go Go.Proofs
set_option linter.unusedVariables false
set_option linter.unusedSectionVars false
set_option linter.unusedSimpArgs false
set_option maxRecDepth 100000
set_option maxHeartbeats 4000000
attribute [local irreducible] Go.Exit.then Go.Exit.inBlock Go.Code.wp WC WO WE WQ V LoopQ FnQ Sat Star band bor IntKind.wrap WR Code.rounds WT KO
abbrev MshR (b : Nat) (room : Int) (l : List Miss) : HP := RL 62 75 15 msc' b room l
theorem ref10_New {F : List HP} {room : Int} (h : 1 ≤ room ∧ room ≤ 8) : FnF Tryz.prog 52 [.int .i64 room] [] F (fun r L' => ∃ b, r = .tuple [.pointer (some ⟨b, 0, none⟩), .int .i64 0].toArray ∧ L' = [MshR b room []]) := by
  refine FnF.mk' Tryz.func52 rfl rfl Tryz.ntmps52 rfl ?_
  repeat (first | rintro _ _ ⟨rfl, rfl⟩ | refine exq fun _ => ?_ | intro _ | refine go ?_ | refine drq ?_)
  (apply WE_ret rfl rfl (by (repeat (first | exact ResOk.nil | (apply ResOk.tmp; rfl) | (apply resOk_cell; rfl; exact inferInstance; rfl; rfl)))))
  · exact ⟨_, rfl, rfl⟩
  · exact RL_in (l := []) (Ent.cons (own_empty Ent.refl)) rfl rfl (by simp; omega)
theorem ref10_New_no {F : List HP} {room : Int} (h : ¬ (1 ≤ room ∧ room ≤ 8)) : FnF Tryz.prog 52 [.int .i64 room] [] F (fun r L' => r = .tuple [.pointer none, .int .i64 1].toArray ∧ L' = []) := by
  refine FnF.mk' Tryz.func52 rfl rfl Tryz.ntmps52 rfl ?_
  repeat' (first | rintro _ _ ⟨rfl, rfl⟩ | refine exq fun _ => ?_ | intro _ | refine go ?_ | refine drq ?_ | refine spl ?_ ?_ | fail)
  all_goals first | omega | exact fin0
theorem ref10_placeO {F : List HP} {b : Nat} {room line : Int} {l : List Miss} {p : Option Addr} {c : Nat} (hn : l.length ≤ 4096) :
    FnF Tryz.prog 193 [.pointer (some ⟨b, 0, none⟩), .int .i64 line] [Cells b 62 [.int .i64 room, .slice p l.length c], Own 75 15 (.slice p l.length c) l.length (flat msc' l)] F
      (fun r L' => r = .int .i64 (misP l line) ∧ L' = [Cells b 62 [.int .i64 room, .slice p l.length c], Own 75 15 (.slice p l.length c) l.length (flat msc' l)]) := by
  refine FnF.mk' Tryz.func193 rfl rfl Tryz.ntmps193 rfl ?_
  repeat (first | rintro _ _ ⟨rfl, rfl⟩ | refine exq fun _ => ?_ | intro _ | refine go ?_ | refine drq ?_)
  apply WC_loopE (E0 := [(0, _), (1, _)]) (fun E0 (i : Nat) => (5, .int .i64 i) :: E0) (fun _ => Cells b 62 [.int .i64 room, .slice p l.length c] :: Own 75 15 (.slice p l.length c) l.length (flat msc' l) :: F) (fun i => i ≤ l.length ∧ ∀ j (h : j < l.length), j < i → decide (l[j].line = line) = false) (fun i => l.length - i) 0
  · (repeat (first | exact Sub.nil | (refine Sub.cons (by first | rfl | (simp only [Nat.zero_add]; rfl)) ?_)))
  · exact ⟨by omega, fun j _ hj => by omega⟩
  · exact entu0
  · rintro i ⟨hi, h1⟩
    by_cases hlt : i < l.length
    · by_cases h2 : l[i].line = line
      · repeat (first | rintro _ _ ⟨rfl, rfl⟩ | refine exq fun _ => ?_ | intro _ | refine go ?_ | refine drq ?_)
        (apply WE_ret rfl rfl (by (repeat (first | exact ResOk.nil | (apply ResOk.tmp; rfl) | (apply resOk_cell; rfl; exact inferInstance; rfl; rfl)))))
        · exact ⟨by unfold misP; rw [indexBy_at hlt h1 (decide_eq_true h2)]; rfl, rfl⟩
        · exact entu0
      · repeat (first | rintro _ _ ⟨rfl, rfl⟩ | refine exq fun _ => ?_ | intro _ | refine go ?_ | refine drq ?_)
        refine WE_loop (i + 1) (by omega) ⟨by omega, fun j hj hji => ?_⟩ ?_ ?_
        · by_cases e : j = i
          · subst e; exact decide_eq_false h2
          · exact h1 j hj (by omega)
        · (repeat (first | exact Sub.nil | (refine Sub.cons (by first | rfl | (simp only [Nat.zero_add]; rfl)) ?_)))
        · exact entu0
    · have hil : i = l.length := by omega
      subst hil
      repeat (first | rintro _ _ ⟨rfl, rfl⟩ | refine exq fun _ => ?_ | intro _ | refine go ?_ | refine drq ?_)
      (apply WE_ret rfl rfl (by (repeat (first | exact ResOk.nil | (apply ResOk.tmp; rfl) | (apply resOk_cell; rfl; exact inferInstance; rfl; rfl)))))
      · exact ⟨by unfold misP; rw [indexBy_none h1]; rfl, rfl⟩
      · exact entu0
end Go.Sx
