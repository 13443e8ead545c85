/- Shp, Split, Arr, Arr2, ArrPl: several of my texts as one. My own work. -/
import Derived.Test.YtlaohgngdaglmaaGreatData
import Derived.Test.YtlaohgngdaglmaaGreatZCacheLocksab
import Derived.Test.YtlaohgngdaglmaaGreatZCacheLocksaa
/- What the functions of package shape do, and the document's. My own work. -/
namespace Go.Sx
open Go Go.Proofs
set_option linter.unusedVariables false
set_option maxRecDepth 100000
set_option maxHeartbeats 4000000
attribute [local irreducible] Go.Exit.then Go.Exit.inBlock Go.Code.wp WC WO WE WQ V LoopQ FnQ Sat Star band bor IntKind.wrap WR Code.rounds WT KO



theorem shape_Power {F : List HP} {n : Int} (hn : I64 n) : FnF Tryz.prog 144 [.int .i64 n] [] F (fun r L' => r = (.tuple [.int .i64 (powK n), .bool (powB n)].toArray) ∧ L' = []) := by
  unfold I64 at hn
  refine FnF.mk' Tryz.func144 rfl rfl Tryz.ntmps144 rfl ?_
  by_cases h : n < 1
  · have e : powOf n = none := by
      cases e : powOf n with
      | none => rfl
      | some k => have := powOf_some e; have h0 : (0 : Int) < 2 ^ k := Int.pow_pos (by omega); omega
    have e1 : powK n = 0 := by simp [powK, e]
    have e2 : powB n = false := by simp [powB, e]
    clear e
    repeat (first | rintro _ _ ⟨rfl, rfl⟩ | refine exq fun _ => ?_ | intro _ | refine go ?_ | refine drq ?_)
    (apply WE_ret rfl rfl (by (repeat (first | exact ResOk.nil | (apply ResOk.tmp; rfl) | (apply resOk_cell; rfl; exact inferInstance; rfl; rfl)))))
    · rw [e1, e2]; exact ⟨rfl, rfl⟩
    · exact entu0
  · cases e : powOf n with
    | none =>
      have hb := band_nopow (by omega) hn.2 e
      have e1 : powK n = 0 := by simp [powK, e]
      have e2 : powB n = false := by simp [powB, e]
      clear e
      repeat (first | rintro _ _ ⟨rfl, rfl⟩ | refine exq fun _ => ?_ | intro _ | refine go ?_ | refine drq ?_)
      (apply WE_ret rfl rfl (by (repeat (first | exact ResOk.nil | (apply ResOk.tmp; rfl) | (apply resOk_cell; rfl; exact inferInstance; rfl; rfl)))))
      · rw [e1, e2]; exact ⟨rfl, rfl⟩
      · exact entu0
    | some m =>
      obtain ⟨hm, rfl⟩ := powOf_some e
      have hb := band_pow hm
      have e1 : powK (2 ^ m) = m := by simp [powK, e]
      have e2 : powB (2 ^ m) = true := by simp [powB, e]
      clear e
      repeat (first | rintro _ _ ⟨rfl, rfl⟩ | refine exq fun _ => ?_ | intro _ | refine go ?_ | refine drq ?_)
      apply WC_loop (fun k : Nat => [(0, .int .i64 (2 ^ m)), (4, .int .i64 (k : Int))]) (fun _ => F) (fun k => k ≤ m) (fun k => m - k) 0
      · omega
      · exact Sub.cons rfl (Sub.cons rfl Sub.nil)
      · exact entu0
      · intro k hk
        have hf := fdiv_pow hk
        have hmin : min ((k : Int)).toNat IntKind.i64.bits = k := by simp [IntKind.bits]; omega
        repeat (first | rintro _ _ ⟨rfl, rfl⟩ | refine exq fun _ => ?_ | intro _ | refine go ?_ | refine drq ?_)
        rw [hmin, hf]
        by_cases hlt : k < m
        · have : (1 : Int) < 2 ^ (m - k) := by
            have : (2 : Nat) ^ 1 ≤ 2 ^ (m - k) := Nat.pow_le_pow_right (by omega) (by omega)
            have : ((2 ^ 1 : Nat) : Int) ≤ ((2 ^ (m - k) : Nat) : Int) := by exact_mod_cast this
            simp at this; omega
          repeat (first | rintro _ _ ⟨rfl, rfl⟩ | refine exq fun _ => ?_ | intro _ | refine go ?_ | refine drq ?_)
          refine WE_loop (k + 1) (by omega) (by omega) (Sub.cons rfl (Sub.cons rfl Sub.nil)) Ent.refl
        · obtain rfl : k = m := by omega
          have : ¬ (1 : Int) < 2 ^ (k - k) := by simp
          repeat (first | rintro _ _ ⟨rfl, rfl⟩ | refine exq fun _ => ?_ | intro _ | refine go ?_ | refine drq ?_)
          (apply WE_ret rfl rfl (by (repeat (first | exact ResOk.nil | (apply ResOk.tmp; rfl) | (apply resOk_cell; rfl; exact inferInstance; rfl; rfl)))))
          · rw [e1, e2]; exact ⟨rfl, rfl⟩
          · exact entu0

theorem shape_fits {F : List HP} {n l m : Int} {p : Bool} (hn : I64 n) : FnF Tryz.prog 61 [.agg [.int .i64 n, .int .i64 l, .int .i64 m, .bool p].toArray] [] F (fun r L' => r = (.bool (fitsB n l m p)) ∧ L' = []) := by
  refine FnF.mk' Tryz.func61 rfl rfl Tryz.ntmps61 rfl ?_
  cases p
  · repeat' (first | rintro _ _ ⟨rfl, rfl⟩ | refine exq fun _ => ?_ | intro _ | refine go ?_ | refine drq ?_ | refine spl ?_ ?_ | fail)
    all_goals (apply WE_ret rfl rfl (by (repeat (first | exact ResOk.nil | (apply ResOk.tmp; rfl) | (apply resOk_cell; rfl; exact inferInstance; rfl; rfl)))); (exact ⟨by first | (simp_all [fitsB]; done) | (simp_all [fitsB]; omega), rfl⟩); (repeat (first | exact Ent.refl | exact Ent.nil | apply Ent.pick | apply Ent.drop)))
  · repeat (first | rintro _ _ ⟨rfl, rfl⟩ | refine exq fun _ => ?_ | intro _ | refine go ?_ | refine drq ?_)
    repeat (first | rintro _ _ ⟨rfl, rfl⟩ | refine exq fun _ => ?_ | intro _ | refine go ?_ | refine drq ?_ | refine cal @shape_Power ?_)
    cases h : powB n
    all_goals repeat' (first | rintro _ _ ⟨rfl, rfl⟩ | refine exq fun _ => ?_ | intro _ | refine go ?_ | refine drq ?_ | refine spl ?_ ?_ | fail)
    all_goals (apply WE_ret rfl rfl (by (repeat (first | exact ResOk.nil | (apply ResOk.tmp; rfl) | (apply resOk_cell; rfl; exact inferInstance; rfl; rfl)))); (exact ⟨by first | (simp_all [fitsB]; done) | (simp_all [fitsB]; omega), rfl⟩); (repeat (first | exact Ent.refl | exact Ent.nil | apply Ent.pick | apply Ent.drop)))

def bnds (c : Cfg) : List (Int × Int × Int × Bool) := [(c.cores, 1, 64, false), (c.homes, 1, 16, true), (c.sets, 1, 64, true), (c.words, 1, 8, true), (c.lines, 1, 1024, true), (c.ways, 1, 8, false),
  (c.pointers, 0, 8, false), (c.mshrs, 1, 8, false), (c.buffer, 1, 16, false), (c.writebacks, 1, 8, false), (c.r0, 1, 64, false), (c.r1, 1, 64, false), (c.r2, 1, 64, false)]
def encBnd (b : Int × Int × Int × Bool) : List Value := [.int .i64 b.1, .int .i64 b.2.1, .int .i64 b.2.2.1, .bool b.2.2.2]
theorem checkB_all (c : Cfg) : checkB c = (bnds c).all (fun b => fitsB b.1 b.2.1 b.2.2.1 b.2.2.2) := by
  simp [checkB, bnds, Bool.and_assoc]
theorem bnds_wf (c : Cfg) (hc : c.wf) : ∀ b ∈ bnds c, I64 b.1 := by
  intro b hb
  obtain ⟨h1, h2, h3, h4, h5, h6, h7, h8, h9, h10, h11, h12, h13⟩ := hc
  simp only [bnds, List.mem_cons, List.not_mem_nil, or_false] at hb
  rcases hb with rfl | rfl | rfl | rfl | rfl | rfl | rfl | rfl | rfl | rfl | rfl | rfl | rfl <;> assumption

theorem shape_Check {F : List HP} {c : Cfg} (hc : c.wf) : FnF Tryz.prog 19 [c.val] [] F (fun r L' => r = (.int .i64 (checkE c)) ∧ L' = []) := by
  refine FnF.mk' Tryz.func19 rfl rfl Tryz.ntmps19 rfl ?_
  repeat (first | rintro _ _ ⟨rfl, rfl⟩ | refine exq fun _ => ?_ | intro _ | refine go ?_ | refine drq ?_)
  apply WC_loop (fun j : Nat => [(50, .int .i64 (j : Int)), (49, .agg (flat encBnd (bnds c)).toArray)]) (fun _ => F) (fun j => j ≤ 13 ∧ ∀ i (h : i < (bnds c).length), i < j → fitsB (bnds c)[i].1 (bnds c)[i].2.1 (bnds c)[i].2.2.1 (bnds c)[i].2.2.2 = true) (fun j => 13 - j) 0
  · exact ⟨by omega, fun i h hi => by omega⟩
  · exact Sub.cons rfl (Sub.cons rfl Sub.nil)
  · exact entu0
  · rintro j ⟨hj, hall⟩
    by_cases hlt : j < 13
    · have hlen : j < (bnds c).length := hlt
      have hs := sub_flat (enc := encBnd) (n := 4) (fun _ => rfl) (bnds c) j hlen
      repeat (first | rintro _ _ ⟨rfl, rfl⟩ | refine exq fun _ => ?_ | intro _ | refine go ?_ | refine drq ?_)
      refine WO_v (v_index_array rfl rfl (by omega) (by omega) hs rfl) rfl ?_
      have hwf := bnds_wf c hc _ (List.getElem_mem hlen)
      generalize hb : (bnds c)[j] = b at hwf
      repeat (first | rintro _ _ ⟨rfl, rfl⟩ | refine exq fun _ => ?_ | intro _ | refine go ?_ | refine drq ?_)
      repeat (first | rintro _ _ ⟨rfl, rfl⟩ | refine exq fun _ => ?_ | intro _ | refine go ?_ | refine drq ?_ | refine cal @shape_fits ?_)
      cases hf : fitsB b.1 b.2.1 b.2.2.1 b.2.2.2
      · repeat (first | rintro _ _ ⟨rfl, rfl⟩ | refine exq fun _ => ?_ | intro _ | refine go ?_ | refine drq ?_)
        have e : checkB c = false := by
          rw [checkB_all, List.all_eq_false]
          exact ⟨_, List.getElem_mem hlen, by simp [hb, hf]⟩
        (apply WE_ret rfl rfl (by (repeat (first | exact ResOk.nil | (apply ResOk.tmp; rfl) | (apply resOk_cell; rfl; exact inferInstance; rfl; rfl)))); (exact ⟨by first | (simp [checkE, e]; done) | (simp [checkE, e]; omega), rfl⟩); (repeat (first | exact Ent.refl | exact Ent.nil | apply Ent.pick | apply Ent.drop)))
      · repeat (first | rintro _ _ ⟨rfl, rfl⟩ | refine exq fun _ => ?_ | intro _ | refine go ?_ | refine drq ?_)
        refine WE_loop (j + 1) (by omega) ⟨by omega, fun i h hi => ?_⟩ (Sub.cons rfl (Sub.cons rfl Sub.nil)) ?_
        · by_cases hij : i = j
          · subst hij; rw [hb]; exact hf
          · exact hall i h (by omega)
        · exact entu0
    · obtain rfl : j = 13 := by omega
      have e : checkB c = true := by
        rw [checkB_all, List.all_eq_true]
        intro b hb
        obtain ⟨i, hi, rfl⟩ := List.getElem_of_mem hb
        exact hall i hi hi
      repeat (first | rintro _ _ ⟨rfl, rfl⟩ | refine exq fun _ => ?_ | intro _ | refine go ?_ | refine drq ?_)
      (apply WE_ret rfl rfl (by (repeat (first | exact ResOk.nil | (apply ResOk.tmp; rfl) | (apply resOk_cell; rfl; exact inferInstance; rfl; rfl)))); (exact ⟨by first | (simp [checkE, e]; done) | (simp [checkE, e]; omega), rfl⟩); (repeat (first | exact Ent.refl | exact Ent.nil | apply Ent.pick | apply Ent.drop)))


theorem powB_pos {n : Int} (h : powB n = true) : ∃ k, k < 63 ∧ n = 2 ^ k := by
  unfold powB at h
  cases e : powOf n with
  | none => simp [e] at h
  | some k => exact ⟨k, powOf_some e⟩

theorem check_words {c : Cfg} (h : checkB c = true) : 1 ≤ c.words ∧ c.words ≤ 8 ∧ 1 ≤ c.lines ∧ c.lines ≤ 1024 := by
  simp only [checkB, fitsB, Bool.and_eq_true, decide_eq_true_eq] at h
  omega

theorem mul_bd {a b m n : Int} (h1 : 0 ≤ a) (h2 : a ≤ m) (h3 : 0 ≤ b) (h4 : b ≤ n) (hn : 0 ≤ n) : 0 ≤ a * b ∧ a * b ≤ m * n :=
  ⟨Int.mul_nonneg h1 h3, Int.le_trans (Int.mul_le_mul_of_nonneg_right h2 h3) (Int.mul_le_mul_of_nonneg_left h4 (by omega))⟩

theorem shape_Size {F : List HP} {c : Cfg} (hc : c.wf) : FnF Tryz.prog 63 [c.val] [] F (fun r L' => r = (.int .i64 (sizeOf' c)) ∧ L' = []) := by
  refine FnF.mk' Tryz.func63 rfl rfl Tryz.ntmps63 rfl ?_
  repeat (first | rintro _ _ ⟨rfl, rfl⟩ | refine exq fun _ => ?_ | intro _ | refine go ?_ | refine drq ?_)
  repeat (first | rintro _ _ ⟨rfl, rfl⟩ | refine exq fun _ => ?_ | intro _ | refine go ?_ | refine drq ?_ | refine cal @shape_Check ?_)
  cases e : checkB c
  · have e1 : checkE c = 1 := by simp [checkE, e]
    repeat (first | rintro _ _ ⟨rfl, rfl⟩ | refine exq fun _ => ?_ | intro _ | refine go ?_ | refine drq ?_)
    (apply WE_ret rfl rfl (by (repeat (first | exact ResOk.nil | (apply ResOk.tmp; rfl) | (apply resOk_cell; rfl; exact inferInstance; rfl; rfl)))); (exact ⟨by first | (simp [sizeOf', e]; done) | (simp [sizeOf', e]; omega), rfl⟩); (repeat (first | exact Ent.refl | exact Ent.nil | apply Ent.pick | apply Ent.drop)))
  · have e1 : checkE c = 0 := by simp [checkE, e]
    have hw := check_words e
    have hm := mul_bd (m := 8) (n := 1024) (a := c.words) (b := c.lines) (by omega) (by omega) (by omega) (by omega) (by omega)
    repeat (first | rintro _ _ ⟨rfl, rfl⟩ | refine exq fun _ => ?_ | intro _ | refine go ?_ | refine drq ?_)
    (apply WE_ret rfl rfl (by (repeat (first | exact ResOk.nil | (apply ResOk.tmp; rfl) | (apply resOk_cell; rfl; exact inferInstance; rfl; rfl)))); (exact ⟨by first | (simp [sizeOf', e]; done) | (simp [sizeOf', e]; omega), rfl⟩); (repeat (first | exact Ent.refl | exact Ent.nil | apply Ent.pick | apply Ent.drop)))

theorem ref01_Power {F : List HP} {n : Int} (hn : I64 n) : FnF Tryz.prog 192 [.int .i64 n] [] F (fun r L' => r = (.tuple [.int .i64 (powK n), .bool (powB n)].toArray) ∧ L' = []) := by
  unfold I64 at hn
  refine FnF.mk' Tryz.func192 rfl rfl Tryz.ntmps192 rfl ?_
  repeat (first | rintro _ _ ⟨rfl, rfl⟩ | refine exq fun _ => ?_ | intro _ | refine go ?_ | refine drq ?_)
  apply WC_loop (fun k : Nat => [(0, .int .i64 n), (5, .int .i64 (k : Int)), (4, .int .i64 (IntKind.i64.wrap (2 ^ k)))]) (fun _ => F) (fun k => k ≤ 63 ∧ ∀ j, j < k → (2 : Int) ^ j ≠ n) (fun k => 64 - k) 0
  · exact ⟨by omega, fun j hj => by omega⟩
  · exact Sub.cons rfl (Sub.cons rfl (Sub.cons (by rw [show IntKind.i64.wrap ((2 : Int) ^ 0) = 1 from wrap_id (by decide) (by decide)]; rfl) Sub.nil))
  · exact entu0
  · rintro k ⟨hk, h1⟩
    by_cases hlt : k < 63
    · have hp := pow_lt63 hlt
      have h0 : (0 : Int) < 2 ^ k := Int.pow_pos (by omega)
      rw [wrap_id (n := (2 : Int) ^ k) (by omega) (by omega)]
      by_cases he : (2 : Int) ^ k = n
      · subst he
        have e1 : powK (2 ^ k) = k := by simp [powK, powOf_pow hlt]
        have e2 : powB (2 ^ k) = true := by simp [powB, powOf_pow hlt]
        repeat (first | rintro _ _ ⟨rfl, rfl⟩ | refine exq fun _ => ?_ | intro _ | refine go ?_ | refine drq ?_)
        (apply WE_ret rfl rfl (by (repeat (first | exact ResOk.nil | (apply ResOk.tmp; rfl) | (apply resOk_cell; rfl; exact inferInstance; rfl; rfl)))); (exact ⟨by first | (rw [e1, e2]; rfl; done) | (rw [e1, e2]; rfl; omega), rfl⟩); (repeat (first | exact Ent.refl | exact Ent.nil | apply Ent.pick | apply Ent.drop)))
      · repeat (first | rintro _ _ ⟨rfl, rfl⟩ | refine exq fun _ => ?_ | intro _ | refine go ?_ | refine drq ?_)
        refine WE_loop (k + 1) (by omega) ⟨by omega, fun j hj => ?_⟩ (Sub.cons rfl (Sub.cons rfl (Sub.cons ?_ Sub.nil))) ?_
        · by_cases e : j = k
          · subst e; exact he
          · exact h1 j (by omega)
        · rw [Int.pow_succ, Int.mul_comm]; rfl
        · exact entu0
    · obtain rfl : k = 63 := by omega
      have e : powOf n = none := by
        cases e : powOf n with
        | none => rfl
        | some k => obtain ⟨h2, h3⟩ := powOf_some e; exact absurd h3.symm (h1 k h2)
      have e1 : powK n = 0 := by simp [powK, e]
      have e2 : powB n = false := by simp [powB, e]
      repeat (first | rintro _ _ ⟨rfl, rfl⟩ | refine exq fun _ => ?_ | intro _ | refine go ?_ | refine drq ?_)
      (apply WE_ret rfl rfl (by (repeat (first | exact ResOk.nil | (apply ResOk.tmp; rfl) | (apply resOk_cell; rfl; exact inferInstance; rfl; rfl)))); (exact ⟨by first | (rw [e1, e2]; rfl; done) | (rw [e1, e2]; rfl; omega), rfl⟩); (repeat (first | exact Ent.refl | exact Ent.nil | apply Ent.pick | apply Ent.drop)))

theorem ref01_in {F : List HP} {n l h : Int} : FnF Tryz.prog 120 [.int .i64 n, .int .i64 l, .int .i64 h] [] F (fun r L' => r = (.bool (fitsB n l h false)) ∧ L' = []) := by
  refine FnF.mk' Tryz.func120 rfl rfl Tryz.ntmps120 rfl ?_
  repeat' (first | rintro _ _ ⟨rfl, rfl⟩ | refine exq fun _ => ?_ | intro _ | refine go ?_ | refine drq ?_ | refine spl ?_ ?_ | fail)
  all_goals (apply WE_ret rfl rfl (by (repeat (first | exact ResOk.nil | (apply ResOk.tmp; rfl) | (apply resOk_cell; rfl; exact inferInstance; rfl; rfl)))); (exact ⟨by first | (simp_all [fitsB]; done) | (simp_all [fitsB]; omega), rfl⟩); (repeat (first | exact Ent.refl | exact Ent.nil | apply Ent.pick | apply Ent.drop)))

theorem ref01_power {F : List HP} {n h : Int} (hn : I64 n) : FnF Tryz.prog 121 [.int .i64 n, .int .i64 h] [] F (fun r L' => r = (.bool (fitsB n 1 h true)) ∧ L' = []) := by
  refine FnF.mk' Tryz.func121 rfl rfl Tryz.ntmps121 rfl ?_
  repeat (first | rintro _ _ ⟨rfl, rfl⟩ | refine exq fun _ => ?_ | intro _ | refine go ?_ | refine drq ?_)
  repeat (first | rintro _ _ ⟨rfl, rfl⟩ | refine exq fun _ => ?_ | intro _ | refine go ?_ | refine drq ?_ | refine cal @ref01_Power ?_)
  have key : powB n = true → 1 ≤ n := fun e => by
    obtain ⟨k, hk, rfl⟩ := powB_pos e
    have : (0 : Int) < 2 ^ k := Int.pow_pos (by omega)
    omega
  cases e : powB n
  · repeat (first | rintro _ _ ⟨rfl, rfl⟩ | refine exq fun _ => ?_ | intro _ | refine go ?_ | refine drq ?_)
    (apply WE_ret rfl rfl (by (repeat (first | exact ResOk.nil | (apply ResOk.tmp; rfl) | (apply resOk_cell; rfl; exact inferInstance; rfl; rfl)))); (exact ⟨by first | (simp [fitsB, e]; done) | (simp [fitsB, e]; omega), rfl⟩); (repeat (first | exact Ent.refl | exact Ent.nil | apply Ent.pick | apply Ent.drop)))
  · have := key e
    repeat (first | rintro _ _ ⟨rfl, rfl⟩ | refine exq fun _ => ?_ | intro _ | refine go ?_ | refine drq ?_)
    (apply WE_ret rfl rfl (by (repeat (first | exact ResOk.nil | (apply ResOk.tmp; rfl) | (apply resOk_cell; rfl; exact inferInstance; rfl; rfl)))); (exact ⟨by first | (simp [fitsB, e, this]; done) | (simp [fitsB, e, this]; omega), rfl⟩); (repeat (first | exact Ent.refl | exact Ent.nil | apply Ent.pick | apply Ent.drop)))


theorem ref01_Check {F : List HP} {c : Cfg} (hc : c.wf) : FnF Tryz.prog 50 [c.val] [] F (fun r L' => r = (.int .i64 (checkE c)) ∧ L' = []) := by
  obtain ⟨h1, h2, h3, h4, h5, h6, h7, h8, h9, h10, h11, h12, h13⟩ := hc
  refine FnF.mk' Tryz.func50 rfl rfl Tryz.ntmps50 rfl ?_
  repeat' (first | rintro _ _ ⟨rfl, rfl⟩ | refine exq fun _ => ?_ | intro _ | refine go ?_ | refine drq ?_ | refine cal @ref01_in ?_ | refine cal @ref01_power ?_ | refine spl ?_ ?_ | fail)
  all_goals try (refine WC_rounds 4 ?_; repeat' (first | rintro _ _ ⟨rfl, rfl⟩ | refine exq fun _ => ?_ | intro _ | refine go ?_ | refine drq ?_ | refine cal @ref01_in ?_ | refine spl ?_ ?_ | fail))
  all_goals (apply WE_ret rfl rfl (by (repeat (first | exact ResOk.nil | (apply ResOk.tmp; rfl) | (apply resOk_cell; rfl; exact inferInstance; rfl; rfl)))); (exact ⟨by first | (simp_all [checkE, checkB]; done) | (simp_all [checkE, checkB]; omega), rfl⟩); (repeat (first | exact Ent.refl | exact Ent.nil | apply Ent.pick | apply Ent.drop)))

end Go.Sx

/- What the functions of package split do, and the document's. My own work. -/
namespace Go.Sx
open Go Go.Proofs
set_option linter.unusedVariables false
set_option maxRecDepth 100000
set_option maxHeartbeats 4000000
attribute [local irreducible] Go.Exit.then Go.Exit.inBlock Go.Code.wp WC WO WE WQ V LoopQ FnQ Sat Star band bor IntKind.wrap WR Code.rounds WT KO

/-! ## What they do, told of numbers -/
def okAddr (c : Cfg) (a : Int) : Bool := checkB c && decide (0 ≤ a ∧ a < c.words * c.lines)
def addrL (c : Cfg) (a : Int) : Int := if okAddr c a then a / c.words else 0
def addrW (c : Cfg) (a : Int) : Int := if okAddr c a then a % c.words else 0
def addrE (c : Cfg) (a : Int) : Int := if okAddr c a then 0 else 1
def okLine (c : Cfg) (l : Int) : Bool := checkB c && decide (0 ≤ l ∧ l < c.lines)
def lineH (c : Cfg) (l : Int) : Int := if okLine c l then l % c.homes else 0
def lineS (c : Cfg) (l : Int) : Int := if okLine c l then l % c.sets else 0
def lineT (c : Cfg) (l : Int) : Int := if okLine c l then l / c.sets else 0
def lineE (c : Cfg) (l : Int) : Int := if okLine c l then 0 else 1
def okJoin (c : Cfg) (l w : Int) : Bool := checkB c && decide (0 ≤ l ∧ l < c.lines ∧ 0 ≤ w ∧ w < c.words)
def joinN (c : Cfg) (l w : Int) : Int := if okJoin c l w then l * c.words + w else 0
def joinE (c : Cfg) (l w : Int) : Int := if okJoin c l w then 0 else 1
def okTag (c : Cfg) (s t : Int) : Bool := checkB c && decide (0 ≤ s ∧ s < c.sets ∧ 0 ≤ t ∧ t * c.sets + s < c.lines)
def tagN (c : Cfg) (s t : Int) : Int := if okTag c s t then t * c.sets + s else 0
def tagE (c : Cfg) (s t : Int) : Int := if okTag c s t then 0 else 1

theorem check_facts {c : Cfg} (h : checkB c = true) : (1 ≤ c.cores ∧ c.cores ≤ 64) ∧ (∃ k : Nat, k ≤ 4 ∧ c.homes = 2 ^ k) ∧ (∃ k : Nat, k ≤ 6 ∧ c.sets = 2 ^ k) ∧ (∃ k : Nat, k ≤ 3 ∧ c.words = 2 ^ k) ∧ (∃ k : Nat, k ≤ 10 ∧ c.lines = 2 ^ k) ∧ (1 ≤ c.ways ∧ c.ways ≤ 8) := by
  simp only [checkB, fitsB, Bool.and_eq_true, decide_eq_true_eq] at h
  have pw : ∀ (n : Int) (m : Nat), powB n = true → n ≤ 2 ^ m → m < 63 → ∃ k : Nat, k ≤ m ∧ n = 2 ^ k := by
    intro n m h1 h2 h3
    obtain ⟨k, hk, rfl⟩ := powB_pos h1
    refine ⟨k, ?_, rfl⟩
    rcases Nat.lt_or_ge m k with h | h
    · have : (2 : Nat) ^ m < 2 ^ k := Nat.pow_lt_pow_right (by omega) h
      have h4 : ((2 ^ m : Nat) : Int) < ((2 ^ k : Nat) : Int) := by exact_mod_cast this
      simp at h4; omega
    · exact h
  simp at h
  refine ⟨by omega, pw _ 4 (by simp_all) (by simp; omega) (by omega), pw _ 6 (by simp_all) (by simp; omega) (by omega), pw _ 3 (by simp_all) (by simp; omega) (by omega), pw _ 10 (by simp_all) (by simp; omega) (by omega), by omega⟩

theorem pow_bd {k m : Nat} (h : k ≤ m) : (1 : Int) ≤ 2 ^ k ∧ (2 : Int) ^ k ≤ 2 ^ m := by
  have h1 : (2 : Nat) ^ k ≤ 2 ^ m := Nat.pow_le_pow_right (by omega) h
  have h2 : 1 ≤ (2 : Nat) ^ k := Nat.one_le_two_pow
  have h3 : ((2 ^ k : Nat) : Int) ≤ ((2 ^ m : Nat) : Int) := by exact_mod_cast h1
  have h4 : ((1 : Nat) : Int) ≤ ((2 ^ k : Nat) : Int) := by exact_mod_cast h2
  simp at h3 h4
  exact ⟨h4, h3⟩

theorem band_mod {n : Int} {k : Nat} (h0 : 0 ≤ n) (h1 : n ≤ 9223372036854775807) (hk : k < 63) : band .i64 n (2 ^ k - 1) = n % 2 ^ k := by
  have hp := pow_lt63 hk
  have hp0 : (0 : Int) < 2 ^ k := Int.pow_pos (by omega)
  rw [band_nat h0 (by omega) (by omega) (by omega)]
  have e : ((2 : Int) ^ k - 1).toNat = 2 ^ k - 1 := by
    have : ((2 ^ k : Nat) : Int) = (2 : Int) ^ k := by simp
    have h2 : 1 ≤ (2 : Nat) ^ k := Nat.one_le_two_pow
    omega
  rw [e, Nat.and_two_pow_sub_one_eq_mod]
  obtain ⟨m, rfl⟩ := Int.eq_ofNat_of_zero_le h0
  simp

theorem fdiv_nn {n : Int} {k : Nat} : n.fdiv (2 ^ k) = n / 2 ^ k := by
  rw [Int.fdiv_eq_ediv_of_nonneg]
  exact Int.le_of_lt (Int.pow_pos (by omega))
theorem tdiv_nn {n m : Int} (h : 0 ≤ n) : n.tdiv m = n / m := Int.tdiv_eq_ediv_of_nonneg h
theorem tmod_nn {n m : Int} (h : 0 ≤ n) : n.tmod m = n % m := Int.tmod_eq_emod_of_nonneg h

theorem split_by {F : List HP} {n : Int} (hn : I64 n) : FnF Tryz.prog 64 [.int .i64 n] [] F (fun r L' => r = .agg [.int .i64 (IntKind.i64.wrap (n - 1)), .int .i64 (powK n)].toArray ∧ L' = []) := by
  refine FnF.mk' Tryz.func64 rfl rfl Tryz.ntmps64 rfl ?_
  repeat (first | rintro _ _ ⟨rfl, rfl⟩ | refine exq fun _ => ?_ | intro _ | refine go ?_ | refine drq ?_ | refine cal @shape_Power ?_)
  exact fin0

theorem split_of {F : List HP} {n : Int} {k : Nat} (hk : k < 63) (h0 : 0 ≤ n) (h1 : n ≤ 9223372036854775807) :
    FnF Tryz.prog 65 [.agg [.int .i64 (2 ^ k - 1), .int .i64 k].toArray, .int .i64 n] [] F (fun r L' => r = .tuple [.int .i64 (n / 2 ^ k), .int .i64 (n % 2 ^ k)].toArray ∧ L' = []) := by
  refine FnF.mk' Tryz.func65 rfl rfl Tryz.ntmps65 rfl ?_
  repeat (first | rintro _ _ ⟨rfl, rfl⟩ | refine exq fun _ => ?_ | intro _ | refine go ?_ | refine drq ?_)
  have hmin : min ((k : Int)).toNat IntKind.i64.bits = k := by simp [IntKind.bits]; omega
  rw [hmin, fdiv_nn, band_mod h0 h1 hk]
  exact fin0

abbrev cutV (k : Nat) : Value := .func (.func 65) [.agg [.int .i64 (2 ^ k - 1), .int .i64 k].toArray].toArray [].toArray

theorem split_parted_no {F : List HP} {c : Cfg} {n m : Int} {f : Value} (hc : c.wf) (h : ¬ (checkB c = true ∧ 0 ≤ n ∧ n < m)) :
    FnF Tryz.prog 62 [c.val, .int .i64 n, .int .i64 m, f] [] F (fun r L' => r = .tuple [.int .i64 0, .int .i64 0, .int .i64 1].toArray ∧ L' = []) := by
  refine FnF.mk' Tryz.func62 rfl rfl Tryz.ntmps62 rfl ?_
  have hE := fun F => shape_Check (F := F) hc
  cases e : checkB c with
  | false =>
    simp only [checkE, e] at hE
    repeat (first | rintro _ _ ⟨rfl, rfl⟩ | refine exq fun _ => ?_ | intro _ | refine go ?_ | refine drq ?_ | refine cal @hE ?_)
    exact fin0
  | true =>
    simp only [checkE, e, if_true] at hE
    rw [e] at h
    repeat' (first | rintro _ _ ⟨rfl, rfl⟩ | refine exq fun _ => ?_ | intro _ | refine go ?_ | refine drq ?_ | refine cal @hE ?_ | refine spl ?_ ?_ | fail)
    all_goals first | (exfalso; simp at h; omega) | exact fin0

theorem split_parted {F : List HP} {c : Cfg} {n m : Int} {k : Nat} (hc : c.wf) (h : checkB c = true) (h0 : 0 ≤ n) (hm : n < m) (hk : k < 63) (h1 : n ≤ 9223372036854775807) :
    FnF Tryz.prog 62 [c.val, .int .i64 n, .int .i64 m, cutV k] [] F (fun r L' => r = .tuple [.int .i64 (n / 2 ^ k), .int .i64 (n % 2 ^ k), .int .i64 0].toArray ∧ L' = []) := by
  refine FnF.mk' Tryz.func62 rfl rfl Tryz.ntmps62 rfl ?_
  have hE := fun F => shape_Check (F := F) hc
  simp only [checkE, h, if_true] at hE
  repeat (first | rintro _ _ ⟨rfl, rfl⟩ | refine exq fun _ => ?_ | intro _ | refine go ?_ | refine drq ?_ | refine cal @hE ?_ | refine cal @split_of ?_)
  exact fin0

theorem split_by2 {F : List HP} {n : Int} {k : Nat} (h : n = 2 ^ k) (hk : k ≤ 30) : FnF Tryz.prog 64 [.int .i64 n] [] F (fun r L' => r = .agg [.int .i64 (2 ^ k - 1), .int .i64 k].toArray ∧ L' = []) := by
  have hp := pow_bd hk
  simp only [Int.reducePow] at hp
  have hb := split_by (F := F) (n := n) (by unfold I64; omega)
  have e1 : powK n = k := by rw [h]; simp [powK, powOf_pow (show k < 63 by omega)]
  have e2 : IntKind.i64.wrap (n - 1) = 2 ^ k - 1 := by rw [h, wrap_id (by omega) (by omega)]
  rwa [e1, e2] at hb

theorem addr_big {c : Cfg} {a : Int} (e : okAddr c a = true) : checkB c = true ∧ 0 ≤ a ∧ a < c.words * c.lines := by
  simpa only [okAddr, Bool.and_eq_true, decide_eq_true_eq] using e
theorem addr_not {c : Cfg} {a : Int} (e : okAddr c a = false) : ¬ (checkB c = true ∧ 0 ≤ a ∧ a < sizeOf' c) := by
  rintro ⟨h1, h2, h3⟩
  simp only [sizeOf', h1, if_true] at h3
  simp [okAddr, h1] at e
  omega
theorem line_big {c : Cfg} {a : Int} (e : okLine c a = true) : checkB c = true ∧ 0 ≤ a ∧ a < c.lines := by
  simpa only [okLine, Bool.and_eq_true, decide_eq_true_eq] using e
theorem line_not {c : Cfg} {a : Int} (e : okLine c a = false) : ¬ (checkB c = true ∧ 0 ≤ a ∧ a < c.lines) := by
  rintro ⟨h1, h2, h3⟩
  simp [okLine, h1] at e
  omega

theorem dr_Split_20 {Q P : Prop} (k : Q) (h : Hid Q → P := by
  intro k
  first
  | (refine is_draw ?_; apply WC_mix (id := 1) .false _ (pl := .p 1 <| .p 4 <| .r 0 <| .r 2 <| .r 5 <| .e true [(3, .e true [(6, .p 7 <| .e true [(8, .p 9 <| .p 10 <| .p 11 <| .p 12 <| .p 13 <| .p 14 <| .done)])])]); exact mixed; kernel_rfl; kernel_rfl; exact Ent.refl; exact k.out)) : P := h ⟨k⟩
theorem split_Addr {F : List HP} {c : Cfg} {a : Int} (hc : c.wf) (ha : I64 a) : FnF Tryz.prog 20 [c.val, .int .i64 a] [] F (fun r L' => r = .tuple [.int .i64 (addrL c a), .int .i64 (addrW c a), .int .i64 (addrE c a)].toArray ∧ L' = []) := by
  obtain ⟨_, _, _, _, hw, _⟩ := id hc
  unfold I64 at ha
  cases e : okAddr c a with
  | true =>
    obtain ⟨e1, e2, e3⟩ := addr_big e
    obtain ⟨k, hk, ek⟩ := (check_facts e1).2.2.2.1
    have hs : sizeOf' c = c.words * c.lines := by simp [sizeOf', e1]
    have r1 : addrL c a = a / 2 ^ k := by simp [addrL, e, ek]
    have r2 : addrW c a = a % 2 ^ k := by simp [addrW, e, ek]
    have r3 : addrE c a = 0 := by simp [addrE, e]
    rw [r1, r2, r3]
    have hS := fun F => shape_Size (F := F) hc
    simp only [hs] at hS
    refine FnF.mk' Tryz.func20 rfl rfl Tryz.ntmps20 rfl ?_
    repeat (first | rintro _ _ ⟨rfl, rfl⟩ | refine exq fun _ => ?_ | intro _ | refine go ?_ | refine dr_Split_20 ?_ | refine drq ?_ | refine cal @hS ?_ | refine cal (split_by2 ek) ?_ | refine cal @split_parted ?_)
    exact fin0
  | false =>
    have r1 : addrL c a = 0 := by simp [addrL, e]
    have r2 : addrW c a = 0 := by simp [addrW, e]
    have r3 : addrE c a = 1 := by simp [addrE, e]
    rw [r1, r2, r3]
    have hn := addr_not e
    refine FnF.mk' Tryz.func20 rfl rfl Tryz.ntmps20 rfl ?_
    repeat (first | rintro _ _ ⟨rfl, rfl⟩ | refine exq fun _ => ?_ | intro _ | refine go ?_ | refine dr_Split_20 ?_ | refine drq ?_ | refine cal @shape_Size ?_ | refine cal @split_by ?_ | refine cal @split_parted_no ?_)
    exact fin0

theorem dr_Split_82 {Q P : Prop} (k : Q) (h : Hid Q → P := by
  intro k
  first
  | (refine is_draw ?_; apply WC_mix (id := 1) .false _ (pl := .p 1 <| .p 2 <| .p 4 <| .r 0 <| .r 3 <| .r 5 <| .e true [(6, .p 7 <| .e true [(8, .p 9 <| .p 10 <| .p 11 <| .p 12 <| .p 13 <| .p 14 <| .p 15 <| .done)])]); exact mixed; kernel_rfl; kernel_rfl; exact Ent.refl; exact k.out)) : P := h ⟨k⟩
theorem split_Line {F : List HP} {c : Cfg} {a : Int} (hc : c.wf) (ha : I64 a) : FnF Tryz.prog 82 [c.val, .int .i64 a] [] F (fun r L' => r = .tuple [.int .i64 (lineH c a), .int .i64 (lineS c a), .int .i64 (lineT c a), .int .i64 (lineE c a)].toArray ∧ L' = []) := by
  obtain ⟨_, _, hs, _⟩ := id hc
  unfold I64 at ha
  cases e : okLine c a with
  | true =>
    obtain ⟨e1, e2, e3⟩ := line_big e
    obtain ⟨k, hk, ek⟩ := (check_facts e1).2.2.1
    obtain ⟨m, hm, em⟩ := (check_facts e1).2.1
    have r0 : lineH c a = a % 2 ^ m := by simp [lineH, e, em]
    have r1 : lineS c a = a % 2 ^ k := by simp [lineS, e, ek]
    have r2 : lineT c a = a / 2 ^ k := by simp [lineT, e, ek]
    have r3 : lineE c a = 0 := by simp [lineE, e]
    rw [r0, r1, r2, r3]
    refine FnF.mk' Tryz.func82 rfl rfl Tryz.ntmps82 rfl ?_
    repeat (first | rintro _ _ ⟨rfl, rfl⟩ | refine exq fun _ => ?_ | intro _ | refine go ?_ | refine dr_Split_82 ?_ | refine drq ?_ | refine cal (split_by2 ek) ?_ | refine cal (split_by2 em) ?_ | refine cal @split_parted ?_ | refine cal @split_of ?_)
    exact fin0
  | false =>
    have r0 : lineH c a = 0 := by simp [lineH, e]
    have r1 : lineS c a = 0 := by simp [lineS, e]
    have r2 : lineT c a = 0 := by simp [lineT, e]
    have r3 : lineE c a = 1 := by simp [lineE, e]
    rw [r0, r1, r2, r3]
    have hn := line_not e
    refine FnF.mk' Tryz.func82 rfl rfl Tryz.ntmps82 rfl ?_
    repeat (first | rintro _ _ ⟨rfl, rfl⟩ | refine exq fun _ => ?_ | intro _ | refine go ?_ | refine dr_Split_82 ?_ | refine drq ?_ | refine cal @split_by ?_ | refine cal @split_parted_no ?_)
    exact fin0

/-! ## What is put together -/
theorem mul_lt {t s a b : Int} (ht : 0 ≤ t) (hta : t < a) (hs : s < b) (hb : 0 < b) : t * b + s < a * b := by
  have h1 : (t + 1) * b ≤ a * b := Int.mul_le_mul_of_nonneg_right (by omega) (by omega)
  rw [Int.add_mul, Int.one_mul] at h1
  omega
theorem lt_of_mul {t s a b : Int} (h : t * b + s < a * b) (hs : 0 ≤ s) (hb : 0 < b) : t < a := by
  rcases Int.lt_or_le t a with h1 | h1
  · exact h1
  · have := Int.mul_le_mul_of_nonneg_right h1 (Int.le_of_lt hb)
    omega

theorem split_joined_no {F : List HP} {c : Cfg} {hi lo e m : Int} (hc : c.wf) (h : ¬ (checkB c = true ∧ 0 ≤ lo ∧ lo < e ∧ 0 ≤ hi ∧ hi < m)) :
    FnF Tryz.prog 90 [c.val, .int .i64 hi, .int .i64 lo, .int .i64 e, .int .i64 m] [] F (fun r L' => r = .tuple [.int .i64 0, .int .i64 1].toArray ∧ L' = []) := by
  have hE := fun F => shape_Check (F := F) hc
  refine FnF.mk' Tryz.func90 rfl rfl Tryz.ntmps90 rfl ?_
  cases e : checkB c with
  | false =>
    simp only [checkE, e] at hE
    repeat (first | rintro _ _ ⟨rfl, rfl⟩ | refine exq fun _ => ?_ | intro _ | refine go ?_ | refine drq ?_ | refine cal @hE ?_)
    exact fin0
  | true =>
    simp only [checkE, e, if_true] at hE
    rw [e] at h
    repeat' (first | rintro _ _ ⟨rfl, rfl⟩ | refine exq fun _ => ?_ | intro _ | refine go ?_ | refine drq ?_ | refine cal @hE ?_ | refine spl ?_ ?_ | fail)
    all_goals first | (exfalso; simp at h; omega) | exact fin0
theorem split_joined {F : List HP} {c : Cfg} {hi lo e m : Int} (hc : c.wf) (h : checkB c = true) (h0 : 0 ≤ lo) (h1 : lo < e) (h2 : 0 ≤ hi) (h3 : hi < m) (he : e ≤ 64) (hm : m ≤ 8192) :
    FnF Tryz.prog 90 [c.val, .int .i64 hi, .int .i64 lo, .int .i64 e, .int .i64 m] [] F (fun r L' => r = .tuple [.int .i64 (if hi * e + lo < m then hi * e + lo else 0), .int .i64 (if hi * e + lo < m then 0 else 1)].toArray ∧ L' = []) := by
  have hE := fun F => shape_Check (F := F) hc
  simp only [checkE, h, if_true] at hE
  have hb := mul_bd (a := hi) (b := e) (m := 8192) (n := 64) h2 (by omega) (by omega) he (by omega)
  refine FnF.mk' Tryz.func90 rfl rfl Tryz.ntmps90 rfl ?_
  by_cases hlt : hi * e + lo < m
  · repeat (first | rintro _ _ ⟨rfl, rfl⟩ | refine exq fun _ => ?_ | intro _ | refine go ?_ | refine drq ?_ | refine cal @hE ?_)
    (apply WE_ret rfl rfl (by (repeat (first | exact ResOk.nil | (apply ResOk.tmp; rfl) | (apply resOk_cell; rfl; exact inferInstance; rfl; rfl)))); (first | exact ⟨rfl, rfl⟩ | exact ⟨congrArg Value.bool (by decide), rfl⟩ | exact ⟨_, rfl, rfl⟩ | exact ⟨_, _, rfl, rfl⟩ | exact ⟨by first | (simp [hlt]; done) | (simp [hlt] <;> omega), rfl⟩); (repeat (first | exact Ent.refl | exact Ent.nil | apply Ent.pick | apply Ent.drop)))
  · repeat (first | rintro _ _ ⟨rfl, rfl⟩ | refine exq fun _ => ?_ | intro _ | refine go ?_ | refine drq ?_ | refine cal @hE ?_)
    (apply WE_ret rfl rfl (by (repeat (first | exact ResOk.nil | (apply ResOk.tmp; rfl) | (apply resOk_cell; rfl; exact inferInstance; rfl; rfl)))); (first | exact ⟨rfl, rfl⟩ | exact ⟨congrArg Value.bool (by decide), rfl⟩ | exact ⟨_, rfl, rfl⟩ | exact ⟨_, _, rfl, rfl⟩ | exact ⟨by first | (simp [hlt]; done) | (simp [hlt] <;> omega), rfl⟩); (repeat (first | exact Ent.refl | exact Ent.nil | apply Ent.pick | apply Ent.drop)))

theorem dr_Split_26 {Q P : Prop} (k : Q) (h : Hid Q → P := by
  intro k
  first
  | (refine is_draw ?_; apply WC_mix (id := 1) .false _ (pl := .p 1 <| .p 2 <| .p 3 <| .r 0 <| .r 4 <| .r 5 <| .e true [(6, .e true [(7, .p 8 <| .p 9 <| .p 10 <| .p 11 <| .done)])]); exact mixed; kernel_rfl; kernel_rfl; exact Ent.refl; exact k.out)) : P := h ⟨k⟩
theorem split_Join {F : List HP} {c : Cfg} {l w : Int} (hc : c.wf) (hl : I64 l) (hw : I64 w) : FnF Tryz.prog 26 [c.val, .int .i64 l, .int .i64 w] [] F (fun r L' => r = .tuple [.int .i64 (joinN c l w), .int .i64 (joinE c l w)].toArray ∧ L' = []) := by
  cases e : checkB c with
  | false =>
    have r1 : joinN c l w = 0 := by simp [joinN, okJoin, e]
    have r2 : joinE c l w = 1 := by simp [joinE, okJoin, e]
    have hn : ∀ a b : Prop, ¬ (checkB c = true ∧ a ∧ b) := fun a b h => by simp [e] at h
    rw [r1, r2]
    refine FnF.mk' Tryz.func26 rfl rfl Tryz.ntmps26 rfl ?_
    repeat (first | rintro _ _ ⟨rfl, rfl⟩ | refine exq fun _ => ?_ | intro _ | refine go ?_ | refine dr_Split_26 ?_ | refine drq ?_ | refine cal @shape_Size ?_ | refine cal (split_joined_no hc (by simp [e])) ?_)
    exact fin0
  | true =>
    obtain ⟨_, _, _, ⟨k, hk, ek⟩, ⟨n, hn, en⟩, _⟩ := check_facts e
    have b1 := pow_bd hk
    have b2 := pow_bd hn
    rw [← ek] at b1
    rw [← en] at b2
    simp only [Int.reducePow] at b1 b2
    have hb := mul_bd (a := c.words) (b := c.lines) (m := 8) (n := 1024) (by omega) (by omega) (by omega) (by omega) (by omega)
    have hS := fun F => shape_Size (F := F) hc
    simp only [sizeOf', e, if_true] at hS
    by_cases h : 0 ≤ w ∧ w < c.words ∧ 0 ≤ l ∧ l < c.words * c.lines
    · have key : l * c.words + w < c.words * c.lines ↔ l < c.lines := by
        rw [Int.mul_comm c.words c.lines]
        exact ⟨fun q => lt_of_mul q (by omega) (by omega), fun q => mul_lt (by omega) q (by omega) (by omega)⟩
      have r1 : joinN c l w = if l * c.words + w < c.words * c.lines then l * c.words + w else 0 := by simp only [joinN, okJoin, e, key]; simp; congr 1; simp; omega
      have r2 : joinE c l w = if l * c.words + w < c.words * c.lines then 0 else 1 := by simp only [joinE, okJoin, e, key]; simp; congr 1; simp; omega
      rw [r1, r2]
      refine FnF.mk' Tryz.func26 rfl rfl Tryz.ntmps26 rfl ?_
      repeat (first | rintro _ _ ⟨rfl, rfl⟩ | refine exq fun _ => ?_ | intro _ | refine go ?_ | refine dr_Split_26 ?_ | refine drq ?_ | refine cal @hS ?_ | refine cal @split_joined ?_)
      exact fin0
    · have hle : c.lines ≤ c.words * c.lines := by
        have := Int.mul_le_mul_of_nonneg_right (a := 1) (b := c.words) (c := c.lines) (by omega) (by omega)
        omega
      have r0 : okJoin c l w = false := by simp only [okJoin, e]; simp; omega
      have r1 : joinN c l w = 0 := by simp [joinN, r0]
      have r2 : joinE c l w = 1 := by simp [joinE, r0]
      rw [r1, r2]
      have hno : ¬ (checkB c = true ∧ 0 ≤ w ∧ w < c.words ∧ 0 ≤ l ∧ l < c.words * c.lines) := fun q => h q.2
      refine FnF.mk' Tryz.func26 rfl rfl Tryz.ntmps26 rfl ?_
      repeat (first | rintro _ _ ⟨rfl, rfl⟩ | refine exq fun _ => ?_ | intro _ | refine go ?_ | refine dr_Split_26 ?_ | refine drq ?_ | refine cal @hS ?_ | refine cal @split_joined_no ?_)
      exact fin0

/-! ## The lines of a home -/
/-- How many lines below n are h, h + H, .. -/
def cntN (n h H : Nat) : Nat := (n + (H - 1) - h) / H
theorem cnt_lt {n h H k : Nat} (hH : h < H) : k < cntN n h H ↔ h + k * H < n := by
  unfold cntN
  rw [Nat.lt_iff_add_one_le, Nat.le_div_iff_mul_le (by omega), Nat.add_mul]
  omega
theorem cnt_zero {h H : Nat} (hH : h < H) : cntN 0 h H = 0 := by
  have : ¬ 0 < cntN 0 h H := fun q => by have := (cnt_lt hH).1 q; omega
  omega
theorem cnt_succ {n h H : Nat} (hH : h < H) : cntN (n + 1) h H = cntN n h H + if n % H = h then 1 else 0 := by
  have a : ∀ k, k < cntN (n + 1) h H ↔ k < cntN n h H ∨ h + k * H = n := fun k => by rw [cnt_lt hH, cnt_lt hH]; omega
  have b : ∀ k, h + k * H = n → n % H = h := fun k q => by rw [← q, Nat.add_mul_mod_self_right, Nat.mod_eq_of_lt hH]
  split
  · rename_i hm
    have hk : h + (n / H) * H = n := by rw [← hm]; have := Nat.mod_add_div n H; rw [Nat.mul_comm] at this; omega
    have h1 := (a (n / H)).2 (.inr hk)
    have h2 : ∀ k, k < cntN n h H → k < n / H := fun k q => by
      have := (cnt_lt hH).1 q
      rcases Nat.lt_or_ge k (n / H) with z | z
      · exact z
      · have := Nat.mul_le_mul_right H z; omega
    have h3 : ¬ n / H < cntN n h H := fun q => Nat.lt_irrefl _ (h2 _ q)
    have h4 : ¬ n / H + 1 < cntN (n + 1) h H := fun q => by
      rcases (a _).1 q with z | z
      · have := h2 _ z; omega
      · rw [Nat.add_mul] at z; omega
    have h5 : cntN n h H = n / H := by
      rcases Nat.lt_or_ge (cntN n h H) (n / H) with z | z
      · exfalso
        have : cntN n h H < cntN (n + 1) h H := by omega
        rcases (a _).1 this with y | y
        · omega
        · have := Nat.mul_le_mul_right H z
          rw [Nat.succ_mul] at this
          omega
      · omega
    omega
  · rename_i hm
    have h1 : ∀ k, k < cntN (n + 1) h H ↔ k < cntN n h H := fun k => by
      rw [a]; exact ⟨fun q => q.elim id (fun z => absurd (b k z) hm), .inl⟩
    have := h1 (cntN n h H)
    have := h1 (cntN (n + 1) h H)
    omega

def rowN (h H k : Nat) : List Int := (List.range k).map fun (i : Nat) => ((h + i * H : Nat) : Int)
theorem rowN_succ (h H k : Nat) : rowN h H (k + 1) = rowN h H k ++ [((h + k * H : Nat) : Int)] := by
  simp [rowN, List.range_succ]
theorem rowN_len (h H k : Nat) : (rowN h H k).length = k := by simp [rowN]
theorem rowN_get (h H k i : Nat) (hi : i < (rowN h H k).length) : (rowN h H k)[i] = ((h + i * H : Nat) : Int) := by
  simp [rowN]
def linesL (c : Cfg) (h : Int) : List Int := if checkB c && decide (0 ≤ h ∧ h < c.homes) then rowN h.toNat c.homes.toNat (cntN c.lines.toNat h.toNat c.homes.toNat) else []

theorem split_Lines {F : List HP} {c : Cfg} {h : Int} (hc : c.wf) (hh : I64 h) :
    FnF Tryz.prog 96 [c.val, .int .i64 h] [] F (fun r L' => ∃ p q, r = .slice p (linesL c h).length q ∧ L' = [Own 3 1 (.slice p (linesL c h).length q) (linesL c h).length (flat ic (linesL c h))]) := by
  have hE := fun F => shape_Check (F := F) hc
  cases e : checkB c with
  | false =>
    have r1 : linesL c h = [] := by simp [linesL, e]
    rw [r1]
    simp only [checkE, e] at hE
    refine FnF.mk' Tryz.func96 rfl rfl Tryz.ntmps96 rfl ?_
    repeat (first | rintro _ _ ⟨rfl, rfl⟩ | refine exq fun _ => ?_ | intro _ | refine go ?_ | refine drq ?_ | refine cal @hE ?_)
    (apply WE_ret rfl rfl (by (repeat (first | exact ResOk.nil | (apply ResOk.tmp; rfl) | (apply resOk_cell; rfl; exact inferInstance; rfl; rfl)))))
    · exact ⟨_, _, rfl, rfl⟩
    · exact own_empty (by exact entu0)
  | true =>
    simp only [checkE, e, if_true] at hE
    by_cases hr : 0 ≤ h ∧ h < c.homes
    · obtain ⟨_, ⟨m, hm, em⟩, _, _, ⟨n, hn, en⟩, _⟩ := check_facts e
      have b1 := pow_bd hm
      have b2 := pow_bd hn
      rw [← em] at b1
      rw [← en] at b2
      simp only [Int.reducePow] at b1 b2
      obtain ⟨H, eH⟩ : ∃ H : Nat, c.homes = H := ⟨c.homes.toNat, by omega⟩
      obtain ⟨n, en⟩ : ∃ n : Nat, c.lines = n := ⟨c.lines.toNat, by omega⟩
      obtain ⟨h, rfl⟩ : ∃ n : Nat, h = n := ⟨h.toNat, by omega⟩
      have r1 : linesL c h = rowN h H (cntN n h H) := by simp [linesL, e, eH, en]; omega
      have hH : h < H := by omega
      rw [r1]
      refine FnF.mk' Tryz.func96 rfl rfl Tryz.ntmps96 rfl ?_
      repeat (first | rintro _ _ ⟨rfl, rfl⟩ | refine exq fun _ => ?_ | intro _ | refine go ?_ | refine drq ?_ | refine cal @hE ?_)
      rename_i bc
      apply WC_loopE (E0 := [(2, _)]) (fun E0 (q : Nat × Option Addr × Nat) => (6, .int .i64 ((h + q.1 * H : Nat) : Int)) :: (5, .slice q.2.1 q.1 q.2.2) :: E0)
        (fun q => Own 3 1 (.slice q.2.1 q.1 q.2.2) q.1 (flat ic (rowN h H q.1)) :: Cells bc 24 c.cells :: F) (fun q => q.1 ≤ cntN n h H) (fun q => cntN n h H - q.1) (0, none, 0)
      · simp only [Nat.zero_mul, Nat.add_zero]; (repeat (first | exact Sub.nil | (refine Sub.cons (by first | rfl | (simp only [Nat.zero_add]; rfl)) ?_)))
      · exact Nat.zero_le _
      · exact own_empty (by exact entu0)
      · rintro ⟨k, p, q⟩ hk
        dsimp only at hk ⊢
        have hlt := cnt_lt (n := n) (k := k) hH
        have hcn : cntN n h H ≤ n + H := by
          unfold cntN
          exact Nat.le_trans (Nat.div_le_self _ _) (by omega)
        by_cases hk2 : k < cntN n h H
        · have h2 := hlt.1 hk2
          repeat (first | rintro _ _ ⟨rfl, rfl⟩ | refine exq fun _ => ?_ | intro _ | refine go ?_ | refine drq ?_)
          rename_i b' p' q'
          refine WE_loop (k + 1, p', q') (by dsimp only; omega) (by dsimp only; omega) ?_ ?_
          · dsimp only
            have e3 : ((h + (k + 1) * H : Nat) : Int) = ((h + k * H : Nat) : Int) + c.homes := by rw [eH, Nat.add_mul]; omega
            rw [e3]; (repeat (first | exact Sub.nil | (refine Sub.cons (by first | rfl | (simp only [Nat.zero_add]; rfl)) ?_)))
          · dsimp only; rw [rowN_succ, flat_append, flat_one]; exact entu0
        · have h2 : ¬ h + k * H < n := fun z => hk2 (hlt.2 z)
          have h3 : k = cntN n h H := by omega
          subst h3
          repeat (first | rintro _ _ ⟨rfl, rfl⟩ | refine exq fun _ => ?_ | intro _ | refine go ?_ | refine drq ?_)
          rw [show (rowN h H (cntN n h H)).length = cntN n h H from rowN_len _ _ _]
          (apply WE_ret rfl rfl (by (repeat (first | exact ResOk.nil | (apply ResOk.tmp; rfl) | (apply resOk_cell; rfl; exact inferInstance; rfl; rfl)))))
          · exact ⟨_, _, rfl, rfl⟩
          · exact entu0
    · have r1 : linesL c h = [] := by simp [linesL, hr]
      rw [r1]
      refine FnF.mk' Tryz.func96 rfl rfl Tryz.ntmps96 rfl ?_
      repeat' (first | rintro _ _ ⟨rfl, rfl⟩ | refine exq fun _ => ?_ | intro _ | refine go ?_ | refine drq ?_ | refine cal @hE ?_ | refine spl ?_ ?_ | fail)
      all_goals first | (exfalso; omega) | skip
      all_goals (apply WE_ret rfl rfl (by (repeat (first | exact ResOk.nil | (apply ResOk.tmp; rfl) | (apply resOk_cell; rfl; exact inferInstance; rfl; rfl)))))
      all_goals first | exact ⟨_, _, rfl, rfl⟩ | exact own_empty (by exact entu0)
end Go.Sx

/- What arrays of ways do. The program's. My own work. -/
namespace Go.Sx
open Go Go.Proofs
set_option linter.unusedVariables false
set_option linter.unusedSectionVars false
set_option linter.unusedSimpArgs false

/-! ## Told of lists -/
def thereB (w : Way) : Bool := decide (w.st ≠ 0) || w.lk
def pHas (line : Int) (w : Way) : Bool := thereB w && decide (w.line = line)
def arrF (c : Cfg) (line : Int) : Nat := (lineS c line).toNat * c.ways.toNat
def waysOf (c : Cfg) (l : List Way) (line : Int) : List Way := if okLine c line then (l.drop (arrF c line)).take c.ways.toNat else []
def arrP (c : Cfg) (l : List Way) (line : Int) : Int := indexBy (pHas line) (waysOf c l line)
def arrFree (c : Cfg) (l : List Way) (line : Int) : Int := indexBy (fun w => !thereB w) (waysOf c l line)
def findW (c : Cfg) (l : List Way) (line : Int) : Way := if arrP c l line < 0 then .zero else (waysOf c l line).getD (arrP c l line).toNat .zero
def findI (c : Cfg) (l : List Way) (line : Int) : Int := if arrP c l line < 0 then 0 else arrP c l line
def findB (c : Cfg) (l : List Way) (line : Int) : Bool := !decide (arrP c l line < 0)
def oddW (c : Cfg) (w : Words) : Bool := decide (0 ≤ indexBy (fun n => !decide (n = 0)) (w.list.drop c.words.toNat))
def layE (c : Cfg) (l : List Way) (line way : Int) : Int := if 0 ≤ way ∧ way < (waysOf c l line).length then (if arrP c l line = -1 then (if thereB ((waysOf c l line).getD way.toNat .zero) then 4 else 0) else 6) else 1
def layL (c : Cfg) (l : List Way) (line way : Int) : List Way := if layE c l line way = 0 then l.set (arrF c line + way.toNat) ⟨0, line, .zero, true⟩ else l
def setE (c : Cfg) (l : List Way) (line st : Int) (w : Words) : Int := if arrP c l line = -1 then 5 else if st < 0 ∨ st > 4 ∨ oddW c w = true then 1 else 0
def setL (c : Cfg) (l : List Way) (line st : Int) (w : Words) : List Way := if setE c l line st w = 0 then l.set (arrF c line + (arrP c l line).toNat) { findW c l line with st := st, words := if st = 0 then .zero else w } else l
def lockE (c : Cfg) (l : List Way) (line : Int) : Int := if arrP c l line = -1 then 5 else 0
def lockL (c : Cfg) (l : List Way) (line : Int) (lk : Bool) : List Way := if lockE c l line = 0 then l.set (arrF c line + (arrP c l line).toNat) { findW c l line with lk := lk } else l
def inWay (c : Cfg) (s k : Int) : Bool := decide (0 ≤ s ∧ s < c.sets ∧ 0 ≤ k ∧ k < c.ways)
def atW (c : Cfg) (l : List Way) (s k : Int) : Way := if inWay c s k then l.getD (s.toNat * c.ways.toNat + k.toNat) .zero else .zero

/-- A slice in a block, not to be looked into. -/
def wsl (g o n c : Nat) : Value := .slice (some ⟨g, o, none⟩) n c
theorem pb_wsl {g o n c : Nat} : pb (wsl g o n c) = g := rfl
theorem po_wsl {g o n c : Nat} : po (wsl g o n c) = o := rfl

/-! ## An array in memory -/
def ArrB (T TW : TypeId) (b : Nat) (c : Cfg) (l : List Way) : HP :=
  Ex fun g : Nat => [Cells b T (c.cells ++ [.slice (some ⟨g, 0, none⟩) l.length l.length]), Cells g TW (flat wyc l), Fact (checkB c = true ∧ (l.length : Int) = c.sets * c.ways)]
theorem arr_in {T TW : TypeId} {b g n : Nat} {c : Cfg} {l : List Way} {xs : List Value} {L M : List HP} (h : Ent L (Cells b T (c.cells ++ [.slice (some ⟨g, 0, none⟩) n n]) :: Cells g TW xs :: M)) (hn : n = l.length) (hx : xs = flat wyc l)
    (hc : checkB c = true) (hl : (l.length : Int) = c.sets * c.ways) : Ent L (ArrB T TW b c l :: M) := by
  subst hn hx
  refine Ent.trans h (Ent.trans ?_ (ex_intro (p := fun g : Nat => [Cells b T (c.cells ++ [.slice (some ⟨g, 0, none⟩) l.length l.length]), Cells g TW (flat wyc l), Fact (checkB c = true ∧ (l.length : Int) = c.sets * c.ways)]) g))
  exact Ent.cons (Ent.cons (star_fact_mk ⟨hc, hl⟩))
theorem arr_sat {T TW : TypeId} {b : Nat} {c : Cfg} {l : List Way} {L : List HP} {w : World} (h : Sat (ArrB T TW b c l :: L) w) : ∃ g, (checkB c = true ∧ (l.length : Int) = c.sets * c.ways) ∧ Sat (Cells b T (c.cells ++ [.slice (some ⟨g, 0, none⟩) l.length l.length]) :: Cells g TW (flat wyc l) :: L) w := by
  obtain ⟨g, hx⟩ := star_ex h
  simp only [app] at hx
  exact ⟨g, fact_of (star_drop (star_drop hx)), (Ent.cons (Ent.cons (Ent.drop Ent.refl))) _ hx⟩
section
variable {T TW : TypeId} {b : Nat} {c : Cfg} {l : List Way} {P : Program} {N : Nat} {env : Env} {L : List HP} {Q : Exit → Act → World → Prop}
theorem arr_open {co : Code} (h : ∀ g, (checkB c = true ∧ (l.length : Int) = c.sets * c.ways) → WC P N co env (Cells b T (c.cells ++ [.slice (some ⟨g, 0, none⟩) l.length l.length]) :: Cells g TW (flat wyc l) :: L) Q) : WC P N co env (ArrB T TW b c l :: L) Q := by
  intro a w ha hw
  obtain ⟨g, hf, hx⟩ := arr_sat hw
  exact h g hf a w ha hx
theorem arr_openO {all : Array Oper} {o : List Oper} (h : ∀ g, (checkB c = true ∧ (l.length : Int) = c.sets * c.ways) → WO P N all o env (Cells b T (c.cells ++ [.slice (some ⟨g, 0, none⟩) l.length l.length]) :: Cells g TW (flat wyc l) :: L) Q) : WO P N all o env (ArrB T TW b c l :: L) Q := by
  intro a w ha hw
  obtain ⟨g, hf, hx⟩ := arr_sat hw
  exact h g hf a w ha hx
end

/-! ## Numbers -/
theorem set_room {s W S : Nat} (h : s < S) : s * W + W ≤ S * W := by
  have := Nat.mul_le_mul_right W (show s + 1 ≤ S by omega)
  rw [Nat.succ_mul] at this; exact this
theorem arr_nums {c : Cfg} {n : Nat} (hc : checkB c = true) (hn : (n : Int) = c.sets * c.ways) : n = c.sets.toNat * c.ways.toNat ∧ 1 ≤ c.ways ∧ c.ways ≤ 8 ∧ 1 ≤ c.sets ∧ c.sets ≤ 64 ∧ n ≤ 512 := by
  obtain ⟨_, _, ⟨k, hk, e⟩, _, _, h1, h2⟩ := check_facts hc
  have := pow_bd hk
  have h3 : 1 ≤ c.sets ∧ c.sets ≤ 64 := by rw [e]; exact ⟨this.1, by have := this.2; simpa using this⟩
  have e1 : ((c.sets.toNat * c.ways.toNat : Nat) : Int) = c.sets * c.ways := by
    rw [Int.natCast_mul, Int.toNat_of_nonneg (by omega), Int.toNat_of_nonneg (by omega)]
  have e2 : n = c.sets.toNat * c.ways.toNat := by omega
  have e3 : c.sets.toNat * c.ways.toNat ≤ 64 * 8 := Nat.mul_le_mul (by omega) (by omega)
  exact ⟨e2, h1, h2, h3.1, h3.2, by omega⟩
theorem ok_set' {c : Cfg} {line : Int} (h : okLine c line = true) : 0 ≤ lineS c line ∧ lineS c line < c.sets ∧ lineS c line = line % c.sets ∧ 0 ≤ line ∧ line < c.lines := by
  obtain ⟨hc, h0, h1⟩ := line_big h
  obtain ⟨_, _, ⟨k, hk, e⟩, _⟩ := check_facts hc
  have h2 := (pow_bd hk).1
  have e2 : lineS c line = line % c.sets := if_pos h
  rw [e2]
  rw [e]
  exact ⟨Int.emod_nonneg _ (by omega), Int.emod_lt_of_pos _ (by omega), rfl, h0, h1⟩
theorem ways_len {c : Cfg} {l : List Way} {line : Int} (hc : checkB c = true) (hn : (l.length : Int) = c.sets * c.ways) (h : okLine c line = true) : (waysOf c l line).length = c.ways.toNat ∧ arrF c line + c.ways.toNat ≤ l.length := by
  obtain ⟨e, h1, h2, h3, h4, h5⟩ := arr_nums hc hn
  obtain ⟨s0, s1, _⟩ := ok_set' h
  have hr := set_room (s := (lineS c line).toNat) (W := c.ways.toNat) (S := c.sets.toNat) (by omega)
  have : arrF c line + c.ways.toNat ≤ l.length := by rw [e]; exact hr
  refine ⟨?_, this⟩
  unfold waysOf; rw [if_pos h, List.length_take, List.length_drop]; omega
theorem rd_ways {g T : Nat} {l : List Way} {f k cap : Nat} (hf : f + k ≤ l.length) (L : List HP) : RdL (Cells g T (flat wyc l) :: L) 11 (wsl g (f * 11) k cap) ((l.drop f).take k).length (flat wyc ((l.drop f).take k)) := by
  have hx : ((flat wyc l).drop (f * 11)).take (k * 11) = flat wyc ((l.drop f).take k) := by
    rw [flat_drop (enc := wyc) (n := 11) (fun _ => rfl), flat_take (enc := wyc) (n := 11) (fun _ => rfl)]
  have hl : (flat wyc l).length = l.length * 11 := flat_length (enc := wyc) (n := 11) (fun _ => rfl) l
  have kk := rd_cells (L := Cells g T (flat wyc l) :: L) (o := f * 11) (m := k) (c := cap) (sz := 11) (b := g) inferInstance (by rw [hl, ← Nat.add_mul]; exact Nat.mul_le_mul_right _ hf) (by
    rw [hx, List.all_eq_true]
    intro v hv
    obtain ⟨w, _, hw⟩ := List.mem_flatMap.1 hv
    simp [wyc] at hw
    rcases hw with h | h | h | h | h | h | h | h | h | h | h <;> (rw [h]; rfl))
  rw [hx] at kk
  have e : ((l.drop f).take k).length = k := by rw [List.length_take, List.length_drop]; omega
  rw [e]; exact kk
attribute [irreducible] wsl
set_option maxRecDepth 100000
set_option maxHeartbeats 4000000
attribute [local irreducible] Go.Exit.then Go.Exit.inBlock Go.Code.wp WC WO WE WQ V LoopQ FnQ Sat Star band bor IntKind.wrap WR Code.rounds WT KO
abbrev ArrP := ArrB 234 66
abbrev acs (b g : Nat) (c : Cfg) (l : List Way) : HP := Cells b 234 (c.cells ++ [.slice (some ⟨g, 0, none⟩) l.length l.length])

theorem dr_Arr_47 {Q P : Prop} (k : Q) (h : Hid Q → P := by
  intro k
  first
  | (refine is_draw ?_; apply WC_mix (id := 4) .true _ (pl := .p 1 <| .p 3 <| .r 0 <| .r 2 <| .r 4 <| .p 5 <| .e true [(6, .p 7 <| .e true [(8, .p 9 <| .p 10 <| .done)])]); exact mixed; kernel_rfl; kernel_rfl; exact Ent.refl; exact k.out)) : P := h ⟨k⟩
theorem arr_New_no {F : List HP} {c : Cfg} (hc : c.wf) (h : checkB c = false) : FnF Tryz.prog 47 [c.val] [] F (fun r L' => r = .tuple [.pointer none, .int .i64 1].toArray ∧ L' = []) := by
  have hC := fun F => shape_Check (F := F) hc
  simp only [checkE, h, Bool.false_eq_true, if_false] at hC
  refine FnF.mk' Tryz.func47 rfl rfl Tryz.ntmps47 rfl ?_
  repeat (first | rintro _ _ ⟨rfl, rfl⟩ | refine exq fun _ => ?_ | intro _ | refine go ?_ | refine dr_Arr_47 ?_ | refine drq ?_ | refine cal @hC ?_)
  exact fin0
theorem arr_there {F : List HP} {w : Way} : FnF Tryz.prog 166 [wyv w] [] F (fun r L' => r = .bool (thereB w) ∧ L' = []) := by
  refine FnF.mk' Tryz.func166 rfl rfl Tryz.ntmps166 rfl ?_
  by_cases h : w.st = 0
  · repeat (first | rintro _ _ ⟨rfl, rfl⟩ | refine exq fun _ => ?_ | intro _ | refine go ?_ | refine drq ?_)
    (apply WE_ret rfl rfl (by (repeat (first | exact ResOk.nil | (apply ResOk.tmp; rfl) | (apply resOk_cell; rfl; exact inferInstance; rfl; rfl)))); (first | exact ⟨rfl, rfl⟩ | exact ⟨congrArg Value.bool (by decide), rfl⟩ | exact ⟨_, rfl, rfl⟩ | exact ⟨_, _, rfl, rfl⟩ | exact ⟨by first | (simp [thereB, h]; done) | (simp [thereB, h] <;> omega), rfl⟩); (repeat (first | exact Ent.refl | exact Ent.nil | apply Ent.pick | apply Ent.drop)))
  · repeat (first | rintro _ _ ⟨rfl, rfl⟩ | refine exq fun _ => ?_ | intro _ | refine go ?_ | refine drq ?_)
    (apply WE_ret rfl rfl (by (repeat (first | exact ResOk.nil | (apply ResOk.tmp; rfl) | (apply resOk_cell; rfl; exact inferInstance; rfl; rfl)))); (first | exact ⟨rfl, rfl⟩ | exact ⟨congrArg Value.bool (by decide), rfl⟩ | exact ⟨_, rfl, rfl⟩ | exact ⟨_, _, rfl, rfl⟩ | exact ⟨by first | (simp [thereB, h]; done) | (simp [thereB, h] <;> omega), rfl⟩); (repeat (first | exact Ent.refl | exact Ent.nil | apply Ent.pick | apply Ent.drop)))
theorem arr_place1 {F : List HP} {b : Nat} {line : Int} {T : TypeId} {C : List Value → List HP} {w : Way} (k : CellsAt b F T [.int .i64 line] C) :
    FnF Tryz.prog 197 [wyv w, .pointer (some ⟨b, 0, none⟩)] [] F (fun r L' => r = .bool (pHas line w) ∧ L' = []) := by
  have hT := fun F => arr_there (F := F) (w := w)
  refine FnF.mk' Tryz.func197 rfl rfl Tryz.ntmps197 rfl ?_
  cases h : thereB w with
  | true =>
    rw [h] at hT
    repeat (first | rintro _ _ ⟨rfl, rfl⟩ | refine exq fun _ => ?_ | intro _ | refine go ?_ | refine drq ?_ | refine cal @hT ?_)
    (apply WE_ret rfl rfl (by (repeat (first | exact ResOk.nil | (apply ResOk.tmp; rfl) | (apply resOk_cell; rfl; exact inferInstance; rfl; rfl)))); (first | exact ⟨rfl, rfl⟩ | exact ⟨congrArg Value.bool (by decide), rfl⟩ | exact ⟨_, rfl, rfl⟩ | exact ⟨_, _, rfl, rfl⟩ | exact ⟨by first | (simp [pHas, h]; done) | (simp [pHas, h] <;> omega), rfl⟩); (repeat (first | exact Ent.refl | exact Ent.nil | apply Ent.pick | apply Ent.drop)))
  | false =>
    rw [h] at hT
    repeat (first | rintro _ _ ⟨rfl, rfl⟩ | refine exq fun _ => ?_ | intro _ | refine go ?_ | refine drq ?_ | refine cal @hT ?_)
    (apply WE_ret rfl rfl (by (repeat (first | exact ResOk.nil | (apply ResOk.tmp; rfl) | (apply resOk_cell; rfl; exact inferInstance; rfl; rfl)))); (first | exact ⟨rfl, rfl⟩ | exact ⟨congrArg Value.bool (by decide), rfl⟩ | exact ⟨_, rfl, rfl⟩ | exact ⟨_, _, rfl, rfl⟩ | exact ⟨by first | (simp [pHas, h]; done) | (simp [pHas, h] <;> omega), rfl⟩); (repeat (first | exact Ent.refl | exact Ent.nil | apply Ent.pick | apply Ent.drop)))
theorem arr_free1 {F : List HP} {w : Way} : FnF Tryz.prog 165 [wyv w] [] F (fun r L' => r = .bool (!thereB w) ∧ L' = []) := by
  refine FnF.mk' Tryz.func165 rfl rfl Tryz.ntmps165 rfl ?_
  repeat (first | rintro _ _ ⟨rfl, rfl⟩ | refine exq fun _ => ?_ | intro _ | refine go ?_ | refine drq ?_ | refine cal @arr_there ?_)
  exact fin0
theorem arr_ways {F : List HP} {b g : Nat} {c : Cfg} {l : List Way} {s : Int} (hc : checkB c = true) (hn : (l.length : Int) = c.sets * c.ways) (h0 : 0 ≤ s) (h1 : s < c.sets) :
    FnF Tryz.prog 148 [.pointer (some ⟨b, 0, none⟩), .int .i64 s] [acs b g c l] F (fun r L' => r = wsl g (s.toNat * c.ways.toNat * 11) c.ways.toNat c.ways.toNat ∧ L' = [acs b g c l]) := by
  obtain ⟨e, h2, h3, h4, h5, h6⟩ := arr_nums hc hn
  have hr := set_room (s := s.toNat) (W := c.ways.toNat) (S := c.sets.toNat) (by omega)
  have hz : s * c.ways = ((s.toNat * c.ways.toNat : Nat) : Int) := by rw [Int.natCast_mul, Int.toNat_of_nonneg h0, Int.toNat_of_nonneg (by omega)]
  rw [← e] at hr
  generalize s.toNat * c.ways.toNat = z at *
  refine FnF.mk' Tryz.func148 rfl rfl Tryz.ntmps148 rfl ?_
  repeat (first | rintro _ _ ⟨rfl, rfl⟩ | refine exq fun _ => ?_ | intro _ | refine go ?_ | refine drq ?_)
  (apply WE_ret rfl rfl (by (repeat (first | exact ResOk.nil | (apply ResOk.tmp; rfl) | (apply resOk_cell; rfl; exact inferInstance; rfl; rfl)))))
  · refine ⟨?_, rfl⟩
    rw [cut_at (by omega)]
    have e1 : (s * c.ways).toNat = z := by omega
    have e2 : (s * c.ways + c.ways).toNat - (s * c.ways).toNat = c.ways.toNat := by omega
    rw [e2, e1, Nat.zero_add]
    unfold wsl; rfl
  · exact entu0
theorem arr_of {F : List HP} {b g : Nat} {c : Cfg} {l : List Way} {line : Int} (hw : c.wf) (hli : I64 line) (hc : checkB c = true) (hn : (l.length : Int) = c.sets * c.ways) (h : okLine c line = true) :
    FnF Tryz.prog 143 [.pointer (some ⟨b, 0, none⟩), .int .i64 line] [acs b g c l] F (fun r L' => r = wsl g (arrF c line * 11) c.ways.toNat c.ways.toNat ∧ L' = [acs b g c l]) := by
  have hL := fun F => split_Line (F := F) (c := c) (a := line) hw hli
  obtain ⟨s0, s1, _⟩ := ok_set' h
  have hW := fun F => arr_ways (F := F) (b := b) (g := g) (c := c) (l := l) (s := lineS c line) hc hn s0 s1
  have e0 : lineE c line = 0 := if_pos h
  simp only [e0] at hL
  refine FnF.mk' Tryz.func143 rfl rfl Tryz.ntmps143 rfl ?_
  repeat (first | rintro _ _ ⟨rfl, rfl⟩ | refine exq fun _ => ?_ | intro _ | refine go ?_ | refine drq ?_ | refine cal @hL ?_ | refine cal @hW ?_)
  (apply WE_ret rfl rfl (by (repeat (first | exact ResOk.nil | (apply ResOk.tmp; rfl) | (apply resOk_cell; rfl; exact inferInstance; rfl; rfl)))); (first | exact ⟨rfl, rfl⟩ | exact ⟨congrArg Value.bool (by decide), rfl⟩ | exact ⟨_, rfl, rfl⟩ | exact ⟨_, _, rfl, rfl⟩ | exact ⟨by first | (simp [arrF]; done) | (simp [arrF] <;> omega), rfl⟩); (repeat (first | exact Ent.refl | exact Ent.nil | apply Ent.pick | apply Ent.drop)))
theorem arr_of_no {F : List HP} {b g : Nat} {c : Cfg} {l : List Way} {line : Int} (hw : c.wf) (hli : I64 line) (h : okLine c line = false) :
    FnF Tryz.prog 143 [.pointer (some ⟨b, 0, none⟩), .int .i64 line] [acs b g c l] F (fun r L' => r = .slice none 0 0 ∧ L' = [acs b g c l]) := by
  have hL := fun F => split_Line (F := F) (c := c) (a := line) hw hli
  have e0 : lineE c line = 1 := by unfold lineE; rw [h]; rfl
  simp only [e0] at hL
  refine FnF.mk' Tryz.func143 rfl rfl Tryz.ntmps143 rfl ?_
  repeat (first | rintro _ _ ⟨rfl, rfl⟩ | refine exq fun _ => ?_ | intro _ | refine go ?_ | refine drq ?_ | refine cal @hL ?_)
  exact fin0
theorem waysOf_no {c : Cfg} {l : List Way} {line : Int} (h : okLine c line = false) : waysOf c l line = [] := by unfold waysOf; rw [h]; rfl
theorem waysOf_ok {c : Cfg} {l : List Way} {line : Int} (h : okLine c line = true) : waysOf c l line = (l.drop (arrF c line)).take c.ways.toNat := if_pos h
theorem arr_placeO {F : List HP} {b g : Nat} {c : Cfg} {l : List Way} {line : Int} (hw : c.wf) (hli : I64 line) (hc : checkB c = true) (hn : (l.length : Int) = c.sets * c.ways) :
    FnF Tryz.prog 142 [.pointer (some ⟨b, 0, none⟩), .int .i64 line] [acs b g c l, Cells g 66 (flat wyc l)] F (fun r L' => r = .int .i64 (arrP c l line) ∧ L' = [acs b g c l, Cells g 66 (flat wyc l)]) := by
  cases h : okLine c line with
  | true =>
    obtain ⟨k1, k2⟩ := ways_len hc hn h
    have hO := fun F => arr_of (F := F) (b := b) (g := g) hw hli hc hn h
    have kr := rd_ways (g := g) (T := 66) (cap := c.ways.toNat) k2
    rw [← waysOf_ok h, k1] at kr
    haveI := kr
    have hb : c.ways.toNat ≤ 512 := by have := (arr_nums hc hn).2.2.2.2.2; omega
    have hI := fun F (bl : Nat) (C : List Value → List HP) (k1' : CellsAt bl F 3 [.int .i64 line] C) (k : RdL F 11 (wsl g (arrF c line * 11) c.ways.toNat c.ways.toNat) c.ways.toNat (flat wyc (waysOf c l line))) =>
      sl_IndexFunc_way (F := F) (v := wsl g (arrF c line * 11) c.ways.toNat c.ways.toNat) (l := waysOf c l line) (fk := 197) (first := []) (cap := [.pointer (some ⟨bl, 0, none⟩)]) (p := pHas line) (by rw [k1]; exact k) (by omega) (fun x _ => arr_place1 k1')
    refine FnF.mk' Tryz.func142 rfl rfl Tryz.ntmps142 rfl ?_
    repeat (first | rintro _ _ ⟨rfl, rfl⟩ | refine exq fun _ => ?_ | intro _ | refine go ?_ | refine drq ?_ | refine cal @hO ?_ | refine cal @hI ?_)
    (apply WE_ret rfl rfl (by (repeat (first | exact ResOk.nil | (apply ResOk.tmp; rfl) | (apply resOk_cell; rfl; exact inferInstance; rfl; rfl)))); (first | exact ⟨rfl, rfl⟩ | exact ⟨congrArg Value.bool (by decide), rfl⟩ | exact ⟨_, rfl, rfl⟩ | exact ⟨_, _, rfl, rfl⟩ | exact ⟨by first | (simp [arrP]; done) | (simp [arrP] <;> omega), rfl⟩); (repeat (first | exact Ent.refl | exact Ent.nil | apply Ent.pick | apply Ent.drop)))
  | false =>
    have hO := fun F => arr_of_no (F := F) (b := b) (g := g) (l := l) hw hli h
    have hI := fun F (bl : Nat) (C : List Value → List HP) (k1' : CellsAt bl F 3 [.int .i64 line] C) =>
      sl_IndexFunc_way (F := F) (v := .slice none 0 0) (l := []) (fk := 197) (first := []) (cap := [.pointer (some ⟨bl, 0, none⟩)]) (p := pHas line) rd_empty (by simp) (fun x _ => arr_place1 k1')
    refine FnF.mk' Tryz.func142 rfl rfl Tryz.ntmps142 rfl ?_
    repeat (first | rintro _ _ ⟨rfl, rfl⟩ | refine exq fun _ => ?_ | intro _ | refine go ?_ | refine drq ?_ | refine cal @hO ?_ | refine cal @hI ?_)
    (apply WE_ret rfl rfl (by (repeat (first | exact ResOk.nil | (apply ResOk.tmp; rfl) | (apply resOk_cell; rfl; exact inferInstance; rfl; rfl)))); (first | exact ⟨rfl, rfl⟩ | exact ⟨congrArg Value.bool (by decide), rfl⟩ | exact ⟨_, rfl, rfl⟩ | exact ⟨_, _, rfl, rfl⟩ | exact ⟨by first | (simp [arrP, waysOf_no h]; done) | (simp [arrP, waysOf_no h] <;> omega), rfl⟩); (repeat (first | exact Ent.refl | exact Ent.nil | apply Ent.pick | apply Ent.drop)))
end Go.Sx

/- What arrays of ways do, second part. The program's. My own work. -/
namespace Go.Sx
open Go Go.Proofs
set_option linter.unusedVariables false
set_option linter.unusedSectionVars false
set_option linter.unusedSimpArgs false
section
variable {P : Program} {N : Nat} {t ty : TypeId} {x y : Operand} {env : Env} {L : List HP}
theorem K_way {n bs f i j T g bb o : Nat} {z u : Value} {l : List Way} {w : Way} {cs : List Value} {C : List Value → List HP} {pos : String} {aft : Array Edge} [hZ : TZ P t n z bs]
    (hx : ev env x = some (.pointer (some ⟨bb, o, none⟩))) (hy : ev env y = some u) (hb : bb = g) (ho : o = (f + i) * 11 + j) (k : CellsAt g L T (flat wyc l) C) (hc : CO u cs) (hn : cs.length = n) (h1 : cs.all one = true)
    (hi : f + i < l.length) (hj : j + n ≤ 11) (e : splice (wyc l[f + i]) j cs = wyc w) :
    KO P N ⟨none, .store t x y, ty, pos, aft, none⟩ env L (Same env (C (flat wyc (l.set (f + i) w)))) := by
  subst hb ho
  have hl : (flat wyc l).length = l.length * 11 := flat_length (enc := wyc) (n := 11) (fun _ => rfl) l
  have hle : (f + i) * 11 + 11 ≤ l.length * 11 := by have := Nat.mul_le_mul_right 11 (show f + i + 1 ≤ l.length by omega); omega
  have h := K_store (P := P) (N := N) (ty := ty) (pos := pos) (aft := aft) (t := t) hx hy k hc.pf hn h1 (by rw [hl, Nat.ble_eq]; omega)
  have es := splice_flatJ (enc := wyc) (n := 11) (fun _ => rfl) l (f + i) hi (j := j) (cs := cs) (x := w) (by omega) e
  rw [es] at h
  exact h
end
theorem arr_rd {g T : Nat} {c : Cfg} {l : List Way} {line : Int} (hc : checkB c = true) (hn : (l.length : Int) = c.sets * c.ways) (h : okLine c line = true) (L : List HP) :
    RdL (Cells g T (flat wyc l) :: L) 11 (wsl g (arrF c line * 11) c.ways.toNat c.ways.toNat) (waysOf c l line).length (flat wyc (waysOf c l line)) := by
  obtain ⟨k1, k2⟩ := ways_len hc hn h
  have kr := rd_ways (g := g) (T := T) (cap := c.ways.toNat) k2
  rw [← waysOf_ok h] at kr
  exact kr L
theorem ways_get {c : Cfg} {l : List Way} {line : Int} {i : Nat} (h : okLine c line = true) (hi : i < (waysOf c l line).length) : ∃ h2 : arrF c line + i < l.length, (waysOf c l line)[i] = l[arrF c line + i] := by
  have hi' := hi
  simp only [waysOf_ok h, List.length_take, List.length_drop] at hi'
  refine ⟨by omega, ?_⟩
  simp only [waysOf_ok h, List.getElem_take, List.getElem_drop]
theorem arrP_ok {c : Cfg} {l : List Way} {line : Int} (h : 0 ≤ arrP c l line) : okLine c line = true := by
  cases e : okLine c line with
  | true => rfl
  | false =>
    exfalso
    unfold arrP at h
    rw [waysOf_no e] at h
    simp [indexBy] at h
theorem arrP_nat {c : Cfg} {l : List Way} {line : Int} (h : 0 ≤ arrP c l line) : ∃ i : Nat, ∃ hi : i < (waysOf c l line).length, arrP c l line = i ∧ pHas line (waysOf c l line)[i] = true ∧ ∀ j (hj : j < (waysOf c l line).length), j < i → pHas line (waysOf c l line)[j] = false := indexBy_nat h
theorem arrP_lt (c : Cfg) (l : List Way) (line : Int) : -1 ≤ arrP c l line ∧ arrP c l line < (waysOf c l line).length := indexBy_lt _ _
theorem zero_flat (n : Nat) : (List.replicate n (wyc .zero)).flatten = flat wyc (List.replicate n .zero) := by
  induction n with
  | zero => rfl
  | succ n ih => simp only [List.replicate_succ, List.flatten_cons, flat, List.flatMap_cons]; rw [ih]
theorem flat_ic_len' (l : List Int) : (flat ic l).length = l.length := by
  have := flat_length (enc := ic) (n := 1) (fun _ => rfl) l
  omega
set_option maxRecDepth 100000
set_option maxHeartbeats 4000000
attribute [local irreducible] Go.Exit.then Go.Exit.inBlock Go.Code.wp WC WO WE WQ V LoopQ FnQ Sat Star band bor IntKind.wrap WR Code.rounds WT KO
theorem dr_Arr2_47 {Q P : Prop} (k : Q) (h : Hid Q → P := by
  intro k
  first
  | (refine is_draw ?_; apply WC_mix (id := 4) .true _ (pl := .p 1 <| .p 3 <| .r 0 <| .r 2 <| .r 4 <| .p 5 <| .e true [(6, .p 7 <| .e true [(8, .p 9 <| .p 10 <| .done)])]); exact mixed; kernel_rfl; kernel_rfl; exact Ent.refl; exact k.out)) : P := h ⟨k⟩
theorem arr_New {F : List HP} {c : Cfg} (hw : c.wf) (hc : checkB c = true) : FnF Tryz.prog 47 [c.val] [] F (fun r L' => ∃ b, r = .tuple [.pointer (some ⟨b, 0, none⟩), .int .i64 0].toArray ∧ L' = [ArrP b c (List.replicate (c.sets * c.ways).toNat .zero)]) := by
  have hC := fun F => shape_Check (F := F) hw
  simp only [checkE, hc, if_true] at hC
  obtain ⟨_, _, ⟨k, hk, e⟩, _, _, h1, h2⟩ := check_facts hc
  have hb := pow_bd hk
  have h3 : 1 ≤ c.sets ∧ c.sets ≤ 64 := by rw [e]; exact ⟨hb.1, by have := hb.2; simpa using this⟩
  have hz : c.sets * c.ways = ((c.sets.toNat * c.ways.toNat : Nat) : Int) := by rw [Int.natCast_mul, Int.toNat_of_nonneg (by omega), Int.toNat_of_nonneg (by omega)]
  have hm : c.sets.toNat * c.ways.toNat ≤ 64 * 8 := Nat.mul_le_mul (by omega) (by omega)
  refine FnF.mk' Tryz.func47 rfl rfl Tryz.ntmps47 rfl ?_
  have h0 : 0 ≤ c.sets * c.ways ∧ c.sets * c.ways ≤ 512 := by omega
  repeat (first | rintro _ _ ⟨rfl, rfl⟩ | refine exq fun _ => ?_ | intro _ | refine go ?_ | refine dr_Arr2_47 ?_ | refine drq ?_ | refine cal @hC ?_)
  apply WT_k; rfl; exact GIn.none; (apply K_makeSliceN; rfl; omega; omega; omega; rfl; omega; rfl); refine fresh_intro ?_; intro g; (refine ⟨by first | exact After.free | exact After.turns rfl | (refine After.still ?_; (repeat (first | exact Ent.refl | exact Ent.nil | apply Ent.pick | apply Ent.drop)); done), ?_⟩)
  repeat (first | rintro _ _ ⟨rfl, rfl⟩ | refine exq fun _ => ?_ | intro _ | refine go ?_ | refine dr_Arr2_47 ?_ | refine drq ?_)
  (apply WE_ret rfl rfl (by (repeat (first | exact ResOk.nil | (apply ResOk.tmp; rfl) | (apply resOk_cell; rfl; exact inferInstance; rfl; rfl)))))
  · exact ⟨_, rfl, rfl⟩
  · refine Ent.trans ?_ (arr_in (g := g) (l := List.replicate (c.sets * c.ways).toNat .zero) (n := (c.sets * c.ways).toNat) (xs := (List.replicate (c.sets * c.ways).toNat (wyc .zero)).flatten) Ent.refl (by simp) (zero_flat _) hc (by simp; omega))
    change Ent (Cells _ _ (c.cells ++ [.slice (some ⟨g, 0, none⟩) (c.sets * c.ways).toNat (c.sets * c.ways).toNat]) :: _) _
    exact entu0
theorem arr_place {F : List HP} {b : Nat} {c : Cfg} {l : List Way} {line : Int} (hw : c.wf) (hli : I64 line) :
    FnF Tryz.prog 142 [.pointer (some ⟨b, 0, none⟩), .int .i64 line] [ArrP b c l] F (fun r L' => r = .int .i64 (arrP c l line) ∧ L' = [ArrP b c l]) := by
  refine ⟨enters_of Tryz.func142 rfl rfl, fun w hs => ?_⟩
  obtain ⟨g, ⟨hc, hn⟩, hx⟩ := arr_sat hs
  refine ((arr_placeO (F := F) (b := b) (g := g) hw hli hc hn).runs w hx).mono ?_
  rintro e w' ⟨v, L', he, ⟨hv, hL⟩, hs'⟩
  subst hL
  exact ⟨v, _, he, ⟨hv, rfl⟩, (arr_in Ent.refl rfl rfl hc hn).sat hs'⟩
theorem arr_Find {F : List HP} {b : Nat} {c : Cfg} {l : List Way} {line : Int} (hw : c.wf) (hli : I64 line) :
    FnF Tryz.prog 59 [.pointer (some ⟨b, 0, none⟩), .int .i64 line] [ArrP b c l] F (fun r L' => r = .tuple [wyv (findW c l line), .int .i64 (findI c l line), .bool (findB c l line)].toArray ∧ L' = [ArrP b c l]) := by
  refine FnF.mk' Tryz.func59 rfl rfl Tryz.ntmps59 rfl ?_
  refine arr_open fun g hf => ?_
  obtain ⟨hc, hn⟩ := hf
  have hP := fun F => arr_placeO (F := F) (b := b) (g := g) hw hli hc hn
  by_cases h : arrP c l line < 0
  · have e1 : findW c l line = .zero := if_pos h
    have e2 : findI c l line = 0 := if_pos h
    have e3 : findB c l line = false := by simp [findB, h]
    rw [e1, e2, e3]
    repeat (first | rintro _ _ ⟨rfl, rfl⟩ | refine exq fun _ => ?_ | intro _ | refine go ?_ | refine drq ?_ | refine cal @hP ?_)
    (apply WE_ret rfl rfl (by (repeat (first | exact ResOk.nil | (apply ResOk.tmp; rfl) | (apply resOk_cell; rfl; exact inferInstance; rfl; rfl)))))
    · exact ⟨rfl, rfl⟩
    · (apply arr_in; (focus (exact entu0)); all_goals (first | rfl | (with_reducible assumption) | (simp; done) | (simp; omega) | omega | (constructor <;> (simp) <;> omega)))
  · have hok := arrP_ok (by omega : 0 ≤ arrP c l line)
    obtain ⟨i, hi, ei, _, _⟩ := arrP_nat (by omega : 0 ≤ arrP c l line)
    have e1 : findW c l line = (waysOf c l line)[i] := by unfold findW; rw [if_neg h, ei, Int.toNat_natCast]; exact (getD_at hi).symm
    have e2 : findI c l line = i := by unfold findI; rw [if_neg h, ei]
    have e3 : findB c l line = true := by simp [findB, h]
    rw [e1, e2, e3]
    rw [ei] at hP
    have hO := fun F => arr_of (F := F) (b := b) (g := g) hw hli hc hn hok
    haveI kr := arr_rd (g := g) (T := 66) hc hn hok
    repeat (first | rintro _ _ ⟨rfl, rfl⟩ | refine exq fun _ => ?_ | intro _ | refine go ?_ | refine drq ?_ | refine cal @hP ?_ | refine cal @hO ?_)
    (apply WE_ret rfl rfl (by (repeat (first | exact ResOk.nil | (apply ResOk.tmp; rfl) | (apply resOk_cell; rfl; exact inferInstance; rfl; rfl)))))
    · exact ⟨rfl, rfl⟩
    · (apply arr_in; (focus (exact entu0)); all_goals (first | rfl | (with_reducible assumption) | (simp; done) | (simp; omega) | omega | (constructor <;> (simp) <;> omega)))
theorem arr_Free {F : List HP} {b : Nat} {c : Cfg} {l : List Way} {line : Int} (hw : c.wf) (hli : I64 line) :
    FnF Tryz.prog 85 [.pointer (some ⟨b, 0, none⟩), .int .i64 line] [ArrP b c l] F (fun r L' => r = .int .i64 (arrFree c l line) ∧ L' = [ArrP b c l]) := by
  refine FnF.mk' Tryz.func85 rfl rfl Tryz.ntmps85 rfl ?_
  refine arr_open fun g hf => ?_
  obtain ⟨hc, hn⟩ := hf
  cases h : okLine c line with
  | true =>
    obtain ⟨k1, k2⟩ := ways_len hc hn h
    have hO := fun F => arr_of (F := F) (b := b) (g := g) hw hli hc hn h
    haveI kr := arr_rd (g := g) (T := 66) hc hn h
    have hb : c.ways.toNat ≤ 512 := by have := (arr_nums hc hn).2.2.2.2.2; omega
    have hI := fun F (k : RdL F 11 (wsl g (arrF c line * 11) c.ways.toNat c.ways.toNat) (waysOf c l line).length (flat wyc (waysOf c l line))) =>
      sl_IndexFunc_way (F := F) (v := wsl g (arrF c line * 11) c.ways.toNat c.ways.toNat) (l := waysOf c l line) (fk := 165) (first := []) (cap := []) (p := fun w => !thereB w) k (by omega) (fun x _ => arr_free1)
    repeat (first | rintro _ _ ⟨rfl, rfl⟩ | refine exq fun _ => ?_ | intro _ | refine go ?_ | refine drq ?_ | refine cal @hO ?_ | refine cal @hI ?_)
    (apply WE_ret rfl rfl (by (repeat (first | exact ResOk.nil | (apply ResOk.tmp; rfl) | (apply resOk_cell; rfl; exact inferInstance; rfl; rfl)))))
    · exact ⟨rfl, rfl⟩
    · (apply arr_in; (focus (exact entu0)); all_goals (first | rfl | (with_reducible assumption) | (simp; done) | (simp; omega) | omega | (constructor <;> (simp) <;> omega)))
  | false =>
    have hO := fun F => arr_of_no (F := F) (b := b) (g := g) (l := l) hw hli h
    have hI := fun F => sl_IndexFunc_way (F := F) (v := .slice none 0 0) (l := []) (fk := 165) (first := []) (cap := []) (p := fun w => !thereB w) rd_empty (by simp) (fun x _ => arr_free1)
    have e1 : arrFree c l line = -1 := by unfold arrFree; rw [waysOf_no h]; rfl
    rw [e1]
    repeat (first | rintro _ _ ⟨rfl, rfl⟩ | refine exq fun _ => ?_ | intro _ | refine go ?_ | refine drq ?_ | refine cal @hO ?_ | refine cal @hI ?_)
    (apply WE_ret rfl rfl (by (repeat (first | exact ResOk.nil | (apply ResOk.tmp; rfl) | (apply resOk_cell; rfl; exact inferInstance; rfl; rfl)))))
    · exact ⟨rfl, rfl⟩
    · (apply arr_in; (focus (exact entu0)); all_goals (first | rfl | (with_reducible assumption) | (simp; done) | (simp; omega) | omega | (constructor <;> (simp) <;> omega)))
theorem arr_At {F : List HP} {b : Nat} {c : Cfg} {l : List Way} {s k : Int} :
    FnF Tryz.prog 69 [.pointer (some ⟨b, 0, none⟩), .int .i64 s, .int .i64 k] [ArrP b c l] F (fun r L' => r = .tuple [wyv (atW c l s k), .bool (inWay c s k)].toArray ∧ L' = [ArrP b c l]) := by
  refine FnF.mk' Tryz.func69 rfl rfl Tryz.ntmps69 rfl ?_
  refine arr_open fun g hf => ?_
  obtain ⟨hc, hn⟩ := hf
  cases h : inWay c s k with
  | true =>
    have h' := h
    simp only [inWay, decide_eq_true_eq] at h'
    obtain ⟨h0, h1, h2, h3⟩ := h'
    obtain ⟨k, rfl⟩ : ∃ j : Nat, k = j := ⟨k.toNat, by omega⟩
    obtain ⟨en, h4, h5, h6, h7, h8⟩ := arr_nums hc hn
    have hr := set_room (s := s.toNat) (W := c.ways.toNat) (S := c.sets.toNat) (by omega)
    have hW := fun F => arr_ways (F := F) (b := b) (g := g) (c := c) (l := l) (s := s) hc hn h0 h1
    have kr := rd_ways (g := g) (T := 66) (l := l) (f := s.toNat * c.ways.toNat) (k := c.ways.toNat) (cap := c.ways.toNat) (by omega)
    have hkl : k < ((l.drop (s.toNat * c.ways.toNat)).take c.ways.toNat).length := by rw [List.length_take, List.length_drop]; omega
    have e1 : atW c l s k = ((l.drop (s.toNat * c.ways.toNat)).take c.ways.toNat)[k] := by
      unfold atW; rw [if_pos h, Int.toNat_natCast, List.getElem_take, List.getElem_drop]
      exact (getD_at (by rw [List.length_take, List.length_drop] at hkl; omega)).symm
    rw [e1]
    generalize (l.drop (s.toNat * c.ways.toNat)).take c.ways.toNat = m at *
    haveI := kr
    repeat (first | rintro _ _ ⟨rfl, rfl⟩ | refine exq fun _ => ?_ | intro _ | refine go ?_ | refine drq ?_ | refine cal @hW ?_)
    (apply WE_ret rfl rfl (by (repeat (first | exact ResOk.nil | (apply ResOk.tmp; rfl) | (apply resOk_cell; rfl; exact inferInstance; rfl; rfl)))))
    · exact ⟨rfl, rfl⟩
    · (apply arr_in; (focus (exact entu0)); all_goals (first | rfl | (with_reducible assumption) | (simp; done) | (simp; omega) | omega | (constructor <;> (simp) <;> omega)))
  | false =>
    have e1 : atW c l s k = .zero := by unfold atW; rw [if_neg (by simp [h])]
    rw [e1]
    simp only [inWay, decide_eq_false_iff_not] at h
    repeat' (first | rintro _ _ ⟨rfl, rfl⟩ | refine exq fun _ => ?_ | intro _ | refine go ?_ | refine drq ?_ | refine spl ?_ ?_ | fail)
    all_goals first | (exfalso; omega) | skip
    all_goals (apply WE_ret rfl rfl (by (repeat (first | exact ResOk.nil | (apply ResOk.tmp; rfl) | (apply resOk_cell; rfl; exact inferInstance; rfl; rfl)))))
    all_goals first | exact ⟨rfl, rfl⟩ | (apply arr_in; (focus (exact entu0)); all_goals (first | rfl | (with_reducible assumption) | (simp; done) | (simp; omega) | omega | (constructor <;> (simp) <;> omega)))
theorem arr_Lay {F : List HP} {b : Nat} {c : Cfg} {l : List Way} {line way : Int} (hw : c.wf) (hli : I64 line) :
    FnF Tryz.prog 88 [.pointer (some ⟨b, 0, none⟩), .int .i64 line, .int .i64 way] [ArrP b c l] F (fun r L' => r = .int .i64 (layE c l line way) ∧ L' = [ArrP b c (layL c l line way)]) := by
  refine FnF.mk' Tryz.func88 rfl rfl Tryz.ntmps88 rfl ?_
  refine arr_open fun g hf => ?_
  obtain ⟨hc, hn⟩ := hf
  have hP := fun F => arr_placeO (F := F) (b := b) (g := g) hw hli hc hn
  cases h : okLine c line with
  | false =>
    have hO := fun F => arr_of_no (F := F) (b := b) (g := g) (l := l) hw hli h
    have e1 : layE c l line way = 1 := by unfold layE; rw [waysOf_no h, if_neg (by simp only [List.length_nil]; omega)]
    have e2 : layL c l line way = l := by unfold layL; rw [e1]; rfl
    rw [e1, e2]
    by_cases h0 : way < 0
    · repeat (first | rintro _ _ ⟨rfl, rfl⟩ | refine exq fun _ => ?_ | intro _ | refine go ?_ | refine drq ?_ | refine cal @hO ?_)
      (apply WE_ret rfl rfl (by (repeat (first | exact ResOk.nil | (apply ResOk.tmp; rfl) | (apply resOk_cell; rfl; exact inferInstance; rfl; rfl)))))
      · exact ⟨rfl, rfl⟩
      · (apply arr_in; (focus (exact entu0)); all_goals (first | rfl | (with_reducible assumption) | (simp; done) | (simp; omega) | omega | (constructor <;> (simp) <;> omega)))
    · repeat (first | rintro _ _ ⟨rfl, rfl⟩ | refine exq fun _ => ?_ | intro _ | refine go ?_ | refine drq ?_ | refine cal @hO ?_)
      (apply WE_ret rfl rfl (by (repeat (first | exact ResOk.nil | (apply ResOk.tmp; rfl) | (apply resOk_cell; rfl; exact inferInstance; rfl; rfl)))))
      · exact ⟨rfl, rfl⟩
      · (apply arr_in; (focus (exact entu0)); all_goals (first | rfl | (with_reducible assumption) | (simp; done) | (simp; omega) | omega | (constructor <;> (simp) <;> omega)))
  | true =>
    have hO := fun F => arr_of (F := F) (b := b) (g := g) hw hli hc hn h
    haveI kr := arr_rd (g := g) (T := 66) hc hn h
    obtain ⟨k1, k2⟩ := ways_len hc hn h
    obtain ⟨_, _, _, _, _, h8⟩ := arr_nums hc hn
    by_cases h0 : 0 ≤ way ∧ way < (waysOf c l line).length
    · obtain ⟨i, rfl⟩ : ∃ j : Nat, way = j := ⟨way.toNat, by omega⟩
      have hi : i < (waysOf c l line).length := by omega
      obtain ⟨hi2, _⟩ := ways_get h hi
      have hg : (waysOf c l line).getD i .zero = (waysOf c l line)[i] := (getD_at hi).symm
      by_cases hp : arrP c l line = -1
      · rw [hp] at hP
        have hT := fun F => arr_there (F := F) (w := (waysOf c l line)[i])
        cases ht : thereB (waysOf c l line)[i] with
        | true =>
          rw [ht] at hT
          have e1 : layE c l line i = 4 := by unfold layE; rw [if_pos h0, if_pos hp, Int.toNat_natCast, hg, ht]; rfl
          have e2 : layL c l line i = l := by unfold layL; rw [e1]; rfl
          rw [e1, e2]
          repeat (first | rintro _ _ ⟨rfl, rfl⟩ | refine exq fun _ => ?_ | intro _ | refine go ?_ | refine drq ?_ | refine cal @hO ?_ | refine cal @hP ?_ | refine cal @hT ?_)
          (apply WE_ret rfl rfl (by (repeat (first | exact ResOk.nil | (apply ResOk.tmp; rfl) | (apply resOk_cell; rfl; exact inferInstance; rfl; rfl)))))
          · exact ⟨rfl, rfl⟩
          · (apply arr_in; (focus (exact entu0)); all_goals (first | rfl | (with_reducible assumption) | (simp; done) | (simp; omega) | omega | (constructor <;> (simp) <;> omega)))
        | false =>
          rw [ht] at hT
          have e1 : layE c l line i = 0 := by unfold layE; rw [if_pos h0, if_pos hp, Int.toNat_natCast, hg, ht]; rfl
          have e2 : layL c l line i = l.set (arrF c line + i) ⟨0, line, .zero, true⟩ := by unfold layL; rw [e1, Int.toNat_natCast]; rfl
          rw [e1, e2]
          repeat (first | rintro _ _ ⟨rfl, rfl⟩ | refine exq fun _ => ?_ | intro _ | refine go ?_ | refine drq ?_ | refine cal @hO ?_ | refine cal @hP ?_ | refine cal @hT ?_)
          apply WO_k; rfl; (refine K_way (f := arrF c line) (i := i) (j := 0) (w := ⟨0, line, .zero, true⟩) (by rfl) (by rfl) (by exact pb_wsl) (by rw [po_wsl, Nat.add_mul] <;> rfl) (by exact inferInstance) (by exact inferInstance) (by rfl) (by rfl) hi2 (by decide) (by rfl)); refine same_intro ?_
          repeat (first | rintro _ _ ⟨rfl, rfl⟩ | refine exq fun _ => ?_ | intro _ | refine go ?_ | refine drq ?_)
          (apply WE_ret rfl rfl (by (repeat (first | exact ResOk.nil | (apply ResOk.tmp; rfl) | (apply resOk_cell; rfl; exact inferInstance; rfl; rfl)))))
          · exact ⟨rfl, rfl⟩
          · (apply arr_in; (focus (exact entu0)); all_goals (first | rfl | (with_reducible assumption) | (simp; done) | (simp; omega) | omega | (constructor <;> (simp) <;> omega)))
      · have e1 : layE c l line i = 6 := by unfold layE; rw [if_pos h0, if_neg hp]
        have e2 : layL c l line i = l := by unfold layL; rw [e1]; rfl
        rw [e1, e2]
        repeat (first | rintro _ _ ⟨rfl, rfl⟩ | refine exq fun _ => ?_ | intro _ | refine go ?_ | refine drq ?_ | refine cal @hO ?_ | refine cal @hP ?_)
        (apply WE_ret rfl rfl (by (repeat (first | exact ResOk.nil | (apply ResOk.tmp; rfl) | (apply resOk_cell; rfl; exact inferInstance; rfl; rfl)))))
        · exact ⟨rfl, rfl⟩
        · (apply arr_in; (focus (exact entu0)); all_goals (first | rfl | (with_reducible assumption) | (simp; done) | (simp; omega) | omega | (constructor <;> (simp) <;> omega)))
    · have e1 : layE c l line way = 1 := if_neg h0
      have e2 : layL c l line way = l := by unfold layL; rw [e1]; rfl
      rw [e1, e2]
      by_cases h0' : way < 0
      · repeat (first | rintro _ _ ⟨rfl, rfl⟩ | refine exq fun _ => ?_ | intro _ | refine go ?_ | refine drq ?_ | refine cal @hO ?_)
        (apply WE_ret rfl rfl (by (repeat (first | exact ResOk.nil | (apply ResOk.tmp; rfl) | (apply resOk_cell; rfl; exact inferInstance; rfl; rfl)))))
        · exact ⟨rfl, rfl⟩
        · (apply arr_in; (focus (exact entu0)); all_goals (first | rfl | (with_reducible assumption) | (simp; done) | (simp; omega) | omega | (constructor <;> (simp) <;> omega)))
      · repeat (first | rintro _ _ ⟨rfl, rfl⟩ | refine exq fun _ => ?_ | intro _ | refine go ?_ | refine drq ?_ | refine cal @hO ?_)
        (apply WE_ret rfl rfl (by (repeat (first | exact ResOk.nil | (apply ResOk.tmp; rfl) | (apply resOk_cell; rfl; exact inferInstance; rfl; rfl)))))
        · exact ⟨rfl, rfl⟩
        · (apply arr_in; (focus (exact entu0)); all_goals (first | rfl | (with_reducible assumption) | (simp; done) | (simp; omega) | omega | (constructor <;> (simp) <;> omega)))
theorem arr_Lock {F : List HP} {b : Nat} {c : Cfg} {l : List Way} {line : Int} {lk : Bool} (hw : c.wf) (hli : I64 line) :
    FnF Tryz.prog 87 [.pointer (some ⟨b, 0, none⟩), .int .i64 line, .bool lk] [ArrP b c l] F (fun r L' => r = .int .i64 (lockE c l line) ∧ L' = [ArrP b c (lockL c l line lk)]) := by
  refine FnF.mk' Tryz.func87 rfl rfl Tryz.ntmps87 rfl ?_
  refine arr_open fun g hf => ?_
  obtain ⟨hc, hn⟩ := hf
  have hP := fun F => arr_placeO (F := F) (b := b) (g := g) hw hli hc hn
  by_cases hp : arrP c l line = -1
  · rw [hp] at hP
    have e1 : lockE c l line = 5 := if_pos hp
    have e2 : lockL c l line lk = l := by unfold lockL; rw [e1]; rfl
    rw [e1, e2]
    repeat (first | rintro _ _ ⟨rfl, rfl⟩ | refine exq fun _ => ?_ | intro _ | refine go ?_ | refine drq ?_ | refine cal @hP ?_)
    (apply WE_ret rfl rfl (by (repeat (first | exact ResOk.nil | (apply ResOk.tmp; rfl) | (apply resOk_cell; rfl; exact inferInstance; rfl; rfl)))))
    · exact ⟨rfl, rfl⟩
    · (apply arr_in; (focus (exact entu0)); all_goals (first | rfl | (with_reducible assumption) | (simp; done) | (simp; omega) | omega | (constructor <;> (simp) <;> omega)))
  · have h0 : 0 ≤ arrP c l line := by have := (arrP_lt c l line).1; omega
    have hok := arrP_ok h0
    obtain ⟨i, hi, ei, _, _⟩ := arrP_nat h0
    obtain ⟨hi2, eg⟩ := ways_get hok hi
    have e1 : lockE c l line = 0 := if_neg hp
    have ew : findW c l line = l[arrF c line + i] := by unfold findW; rw [if_neg (by omega), ei, Int.toNat_natCast, ← eg]; exact (getD_at hi).symm
    have e2 : lockL c l line lk = l.set (arrF c line + i) { l[arrF c line + i] with lk := lk } := by unfold lockL; rw [e1, ei, Int.toNat_natCast, ew]; rfl
    rw [e1, e2]
    rw [ei] at hP
    have hO := fun F => arr_of (F := F) (b := b) (g := g) hw hli hc hn hok
    haveI kr := arr_rd (g := g) (T := 66) hc hn hok
    repeat (first | rintro _ _ ⟨rfl, rfl⟩ | refine exq fun _ => ?_ | intro _ | refine go ?_ | refine drq ?_ | refine cal @hP ?_ | refine cal @hO ?_)
    apply WO_k; rfl; (refine K_way (f := arrF c line) (i := i) (j := 10) (w := { l[arrF c line + i] with lk := lk }) (by rfl) (by rfl) (by exact pb_wsl) (by rw [po_wsl, Nat.add_mul] <;> rfl) (by exact inferInstance) (by exact inferInstance) (by rfl) (by rfl) hi2 (by decide) (by rfl)); refine same_intro ?_
    repeat (first | rintro _ _ ⟨rfl, rfl⟩ | refine exq fun _ => ?_ | intro _ | refine go ?_ | refine drq ?_)
    (apply WE_ret rfl rfl (by (repeat (first | exact ResOk.nil | (apply ResOk.tmp; rfl) | (apply resOk_cell; rfl; exact inferInstance; rfl; rfl)))))
    · exact ⟨rfl, rfl⟩
    · (apply arr_in; (focus (exact entu0)); all_goals (first | rfl | (with_reducible assumption) | (simp; done) | (simp; omega) | omega | (constructor <;> (simp) <;> omega)))
theorem arr_odd1 {F : List HP} {n : Int} : FnF Tryz.prog 199 [.int .i64 n] [] F (fun r L' => r = .bool (!decide (n = 0)) ∧ L' = []) := by
  refine FnF.mk' Tryz.func199 rfl rfl Tryz.ntmps199 rfl ?_
  by_cases h : n = 0
  · repeat (first | rintro _ _ ⟨rfl, rfl⟩ | refine exq fun _ => ?_ | intro _ | refine go ?_ | refine drq ?_)
    (apply WE_ret rfl rfl (by (repeat (first | exact ResOk.nil | (apply ResOk.tmp; rfl) | (apply resOk_cell; rfl; exact inferInstance; rfl; rfl)))); (first | exact ⟨rfl, rfl⟩ | exact ⟨congrArg Value.bool (by decide), rfl⟩ | exact ⟨_, rfl, rfl⟩ | exact ⟨_, _, rfl, rfl⟩ | exact ⟨by first | (simp [h]; done) | (simp [h] <;> omega), rfl⟩); (repeat (first | exact Ent.refl | exact Ent.nil | apply Ent.pick | apply Ent.drop)))
  · repeat (first | rintro _ _ ⟨rfl, rfl⟩ | refine exq fun _ => ?_ | intro _ | refine go ?_ | refine drq ?_)
    (apply WE_ret rfl rfl (by (repeat (first | exact ResOk.nil | (apply ResOk.tmp; rfl) | (apply resOk_cell; rfl; exact inferInstance; rfl; rfl)))); (first | exact ⟨rfl, rfl⟩ | exact ⟨congrArg Value.bool (by decide), rfl⟩ | exact ⟨_, rfl, rfl⟩ | exact ⟨_, _, rfl, rfl⟩ | exact ⟨by first | (simp [h]; done) | (simp [h] <;> omega), rfl⟩); (repeat (first | exact Ent.refl | exact Ent.nil | apply Ent.pick | apply Ent.drop)))
theorem rd_tail {b T : Nat} {w : Words} {k : Nat} {F : List HP} {C : List Value → List HP} (hk : k ≤ 8) (h : CellsAt b F T (wc w) C) : RdL F 1 (cut (.slice (some ⟨b, 0, none⟩) 8 8) k 8 8 1) (w.list.drop k).length (flat ic (w.list.drop k)) := by
  have k0 : RdL F 1 (.slice (some ⟨b, 0, none⟩) 8 8) 8 (wc w) := rd_cells (o := 0) (m := 8) (c := 8) (sz := 1) (b := b) h (by simp) (by rfl)
  have k1 := RdL.cut (l := k) (h := 8) (m := 8) k0 hk (Nat.le_refl _) (Nat.le_refl _)
  have e1 : (w.list.drop k).length = 8 - k := by rw [List.length_drop]; rfl
  have e2 : ((wc w).drop (k * 1)).take ((8 - k) * 1) = flat ic (w.list.drop k) := by
    have h0 : wc w = flat ic w.list := rfl
    rw [h0, Nat.mul_one, Nat.mul_one]
    have := flat_drop (enc := ic) (n := 1) (fun _ => rfl) w.list k
    rw [Nat.mul_one] at this
    rw [this, List.take_of_length_le (by rw [flat_ic_len', e1]; exact Nat.le_refl _)]
  rw [e2] at k1
  rw [e1]; exact k1
theorem arr_odd {F : List HP} {b g : Nat} {c : Cfg} {l : List Way} {w : Words} (hc : checkB c = true) :
    FnF Tryz.prog 147 [.pointer (some ⟨b, 0, none⟩), wv w] [acs b g c l] F (fun r L' => r = .bool (oddW c w) ∧ L' = [acs b g c l]) := by
  obtain ⟨_, _, _, ⟨k, hk, e⟩, _⟩ := check_facts hc
  have hb := pow_bd hk
  have hwd : 1 ≤ c.words ∧ c.words ≤ 8 := by rw [e]; exact ⟨hb.1, by have := hb.2; simpa using this⟩
  have hI := fun F bw C (k : CellsAt bw F 36 (wc w) C) => sl_ContainsFunc_int (F := F) (v := cut (.slice (some ⟨bw, 0, none⟩) 8 8) c.words.toNat 8 8 1) (l := w.list.drop c.words.toNat) (fk := 199) (first := []) (cap := []) (p := fun n => !decide (n = 0)) (rd_tail (by omega) k) (by rw [List.length_drop]; have := Words.list_len w; omega) (fun x _ => arr_odd1)
  refine FnF.mk' Tryz.func147 rfl rfl Tryz.ntmps147 rfl ?_
  repeat (first | rintro _ _ ⟨rfl, rfl⟩ | refine exq fun _ => ?_ | intro _ | refine go ?_ | refine drq ?_ | refine cal @hI ?_)
  (apply WE_ret rfl rfl (by (repeat (first | exact ResOk.nil | (apply ResOk.tmp; rfl) | (apply resOk_cell; rfl; exact inferInstance; rfl; rfl)))); (first | exact ⟨rfl, rfl⟩ | exact ⟨congrArg Value.bool (by decide), rfl⟩ | exact ⟨_, rfl, rfl⟩ | exact ⟨_, _, rfl, rfl⟩ | exact ⟨by first | (simp [oddW]; done) | (simp [oddW] <;> omega), rfl⟩); (repeat (first | exact Ent.refl | exact Ent.nil | apply Ent.pick | apply Ent.drop)))
theorem dr_Arr2_68 {Q P : Prop} (k : Q) (h : Hid Q → P := by
  intro k
  first
  | (refine is_draw ?_; apply WC_mix (id := 9) .true [] (pl := .p 0 <| .p 1 <| .p 2 <| .p 4 <| .p 5 <| .e true [(3, .e true [(6, .p 7 <| .p 8 <| .e false [(9, .done)])]), (6, .e false [(3, .p 7 <| .p 8 <| .e false [(9, .done)])])]); exact mixed; kernel_rfl; kernel_rfl; exact Ent.nil; exact k.out)) : P := h ⟨k⟩
theorem arr_Set {F : List HP} {b : Nat} {c : Cfg} {l : List Way} {line st : Int} {w : Words} (hw : c.wf) (hli : I64 line) :
    FnF Tryz.prog 68 [.pointer (some ⟨b, 0, none⟩), .int .i64 line, .int .i64 st, wv w] [ArrP b c l] F (fun r L' => r = .int .i64 (setE c l line st w) ∧ L' = [ArrP b c (setL c l line st w)]) := by
  refine FnF.mk' Tryz.func68 rfl rfl Tryz.ntmps68 rfl ?_
  refine arr_open fun g hf => ?_
  obtain ⟨hc, hn⟩ := hf
  have hP := fun F => arr_placeO (F := F) (b := b) (g := g) hw hli hc hn
  have hOd := fun F => arr_odd (F := F) (b := b) (g := g) (l := l) (w := w) hc
  by_cases hp : arrP c l line = -1
  · rw [hp] at hP
    have e1 : setE c l line st w = 5 := if_pos hp
    have e2 : setL c l line st w = l := by unfold setL; rw [e1]; rfl
    rw [e1, e2]
    repeat (first | rintro _ _ ⟨rfl, rfl⟩ | refine exq fun _ => ?_ | intro _ | refine go ?_ | refine dr_Arr2_68 ?_ | refine drq ?_ | refine cal @hP ?_)
    (apply WE_ret rfl rfl (by (repeat (first | exact ResOk.nil | (apply ResOk.tmp; rfl) | (apply resOk_cell; rfl; exact inferInstance; rfl; rfl)))))
    · exact ⟨rfl, rfl⟩
    · (apply arr_in; (focus (exact entu0)); all_goals (first | rfl | (with_reducible assumption) | (simp; done) | (simp; omega) | omega | (constructor <;> (simp) <;> omega)))
  · have h0 : 0 ≤ arrP c l line := by have := (arrP_lt c l line).1; omega
    have hok := arrP_ok h0
    obtain ⟨i, hi, ei, _, _⟩ := arrP_nat h0
    obtain ⟨hi2, eg⟩ := ways_get hok hi
    have ew : findW c l line = l[arrF c line + i] := by unfold findW; rw [if_neg (by omega), ei, Int.toNat_natCast, ← eg]; exact (getD_at hi).symm
    rw [ei] at hP
    have hO := fun F => arr_of (F := F) (b := b) (g := g) hw hli hc hn hok
    haveI kr := arr_rd (g := g) (T := 66) hc hn hok
    by_cases hs : st < 0 ∨ st > 4
    · have e1 : setE c l line st w = 1 := by unfold setE; rw [if_neg hp, if_pos (by omega)]
      have e2 : setL c l line st w = l := by unfold setL; rw [e1]; rfl
      rw [e1, e2]
      by_cases hs0 : st < 0
      · repeat (first | rintro _ _ ⟨rfl, rfl⟩ | refine exq fun _ => ?_ | intro _ | refine go ?_ | refine dr_Arr2_68 ?_ | refine drq ?_ | refine cal @hP ?_)
        (apply WE_ret rfl rfl (by (repeat (first | exact ResOk.nil | (apply ResOk.tmp; rfl) | (apply resOk_cell; rfl; exact inferInstance; rfl; rfl)))))
        · exact ⟨rfl, rfl⟩
        · (apply arr_in; (focus (exact entu0)); all_goals (first | rfl | (with_reducible assumption) | (simp; done) | (simp; omega) | omega | (constructor <;> (simp) <;> omega)))
      · repeat (first | rintro _ _ ⟨rfl, rfl⟩ | refine exq fun _ => ?_ | intro _ | refine go ?_ | refine dr_Arr2_68 ?_ | refine drq ?_ | refine cal @hP ?_)
        (apply WE_ret rfl rfl (by (repeat (first | exact ResOk.nil | (apply ResOk.tmp; rfl) | (apply resOk_cell; rfl; exact inferInstance; rfl; rfl)))))
        · exact ⟨rfl, rfl⟩
        · (apply arr_in; (focus (exact entu0)); all_goals (first | rfl | (with_reducible assumption) | (simp; done) | (simp; omega) | omega | (constructor <;> (simp) <;> omega)))
    · cases ho : oddW c w with
      | true =>
        rw [ho] at hOd
        have e1 : setE c l line st w = 1 := by unfold setE; rw [if_neg hp, if_pos (.inr (.inr ho))]
        have e2 : setL c l line st w = l := by unfold setL; rw [e1]; rfl
        rw [e1, e2]
        repeat (first | rintro _ _ ⟨rfl, rfl⟩ | refine exq fun _ => ?_ | intro _ | refine go ?_ | refine dr_Arr2_68 ?_ | refine drq ?_ | refine cal @hP ?_ | refine cal @hOd ?_)
        (apply WE_ret rfl rfl (by (repeat (first | exact ResOk.nil | (apply ResOk.tmp; rfl) | (apply resOk_cell; rfl; exact inferInstance; rfl; rfl)))))
        · exact ⟨rfl, rfl⟩
        · (apply arr_in; (focus (exact entu0)); all_goals (first | rfl | (with_reducible assumption) | (simp; done) | (simp; omega) | omega | (constructor <;> (simp) <;> omega)))
      | false =>
        rw [ho] at hOd
        have e1 : setE c l line st w = 0 := by unfold setE; rw [if_neg hp, if_neg (by rw [ho]; simp; omega)]
        by_cases hz : st = 0
        · have e2 : setL c l line st w = l.set (arrF c line + i) { l[arrF c line + i] with st := st, words := .zero } := by unfold setL; rw [e1, ei, Int.toNat_natCast, ew, if_pos hz]; rfl
          rw [e1, e2]
          repeat' (first | rintro _ _ ⟨rfl, rfl⟩ | refine exq fun _ => ?_ | intro _ | refine go ?_ | refine dr_Arr2_68 ?_ | refine drq ?_ | refine cal @hP ?_ | refine cal @hOd ?_ | refine cal @hO ?_ | refine spl ?_ ?_ | fail)
          · apply WT_k; rfl; exact GIn.none; (refine K_way (l := l) (f := arrF c line) (i := i) (j := 0) (w := { l[arrF c line + i] with st := st }) (by rfl) (by rfl) (by exact pb_wsl) (by rw [po_wsl, Nat.add_mul] <;> rfl) (by exact inferInstance) (by exact inferInstance) (by rfl) (by rfl) hi2 (by decide) (by rfl)); refine same_intro ?_; (refine ⟨by first | exact After.free | exact After.turns rfl | (refine After.still ?_; (repeat (first | exact Ent.refl | exact Ent.nil | apply Ent.pick | apply Ent.drop)); done), ?_⟩)
            repeat (first | rintro _ _ ⟨rfl, rfl⟩ | refine exq fun _ => ?_ | intro _ | refine go ?_ | refine dr_Arr2_68 ?_ | refine drq ?_)
            apply WT_k; rfl; exact GIn.none; (refine K_way (l := l.set (arrF c line + i) { l[arrF c line + i] with st := st }) (f := arrF c line) (i := i) (j := 2) (w := { l[arrF c line + i] with st := st, words := .zero }) (by rfl) (by rfl) (by exact pb_wsl) (by rw [po_wsl, Nat.add_mul] <;> rfl) (by exact inferInstance) (by exact inferInstance) (by rfl) (by rfl) (by rw [List.length_set]; exact hi2) (by decide) (by rw [List.getElem_set_self]; rfl)); refine same_intro ?_; (refine ⟨by first | exact After.free | exact After.turns rfl | (refine After.still ?_; (repeat (first | exact Ent.refl | exact Ent.nil | apply Ent.pick | apply Ent.drop)); done), ?_⟩)
            repeat (first | rintro _ _ ⟨rfl, rfl⟩ | refine exq fun _ => ?_ | intro _ | refine go ?_ | refine dr_Arr2_68 ?_ | refine drq ?_)
            rw [List.set_set]
            (apply WE_ret rfl rfl (by (repeat (first | exact ResOk.nil | (apply ResOk.tmp; rfl) | (apply resOk_cell; rfl; exact inferInstance; rfl; rfl)))))
            · exact ⟨rfl, rfl⟩
            · (apply arr_in; (focus (exact entu0)); all_goals (first | rfl | (with_reducible assumption) | (simp; done) | (simp; omega) | omega | (constructor <;> (simp) <;> omega)))
          · apply WT_k; rfl; exact GIn.none; (refine K_way (l := l) (f := arrF c line) (i := i) (j := 0) (w := { l[arrF c line + i] with st := st }) (by rfl) (by rfl) (by exact pb_wsl) (by rw [po_wsl, Nat.add_mul] <;> rfl) (by exact inferInstance) (by exact inferInstance) (by rfl) (by rfl) hi2 (by decide) (by rfl)); refine same_intro ?_; (refine ⟨by first | exact After.free | exact After.turns rfl | (refine After.still ?_; (repeat (first | exact Ent.refl | exact Ent.nil | apply Ent.pick | apply Ent.drop)); done), ?_⟩)
            repeat (first | rintro _ _ ⟨rfl, rfl⟩ | refine exq fun _ => ?_ | intro _ | refine go ?_ | refine dr_Arr2_68 ?_ | refine drq ?_)
            apply WT_k; rfl; exact GIn.none; (refine K_way (l := l.set (arrF c line + i) { l[arrF c line + i] with st := st }) (f := arrF c line) (i := i) (j := 2) (w := { l[arrF c line + i] with st := st, words := .zero }) (by rfl) (by rfl) (by exact pb_wsl) (by rw [po_wsl, Nat.add_mul] <;> rfl) (by exact inferInstance) (by exact inferInstance) (by rfl) (by rfl) (by rw [List.length_set]; exact hi2) (by decide) (by rw [List.getElem_set_self]; rfl)); refine same_intro ?_; (refine ⟨by first | exact After.free | exact After.turns rfl | (refine After.still ?_; (repeat (first | exact Ent.refl | exact Ent.nil | apply Ent.pick | apply Ent.drop)); done), ?_⟩)
            repeat (first | rintro _ _ ⟨rfl, rfl⟩ | refine exq fun _ => ?_ | intro _ | refine go ?_ | refine dr_Arr2_68 ?_ | refine drq ?_)
            rw [List.set_set]
            (apply WE_ret rfl rfl (by (repeat (first | exact ResOk.nil | (apply ResOk.tmp; rfl) | (apply resOk_cell; rfl; exact inferInstance; rfl; rfl)))))
            · exact ⟨rfl, rfl⟩
            · (apply arr_in; (focus (exact entu0)); all_goals (first | rfl | (with_reducible assumption) | (simp; done) | (simp; omega) | omega | (constructor <;> (simp) <;> omega)))
        · have e2 : setL c l line st w = l.set (arrF c line + i) { l[arrF c line + i] with st := st, words := w } := by unfold setL; rw [e1, ei, Int.toNat_natCast, ew, if_neg hz]; rfl
          rw [e1, e2]
          repeat' (first | rintro _ _ ⟨rfl, rfl⟩ | refine exq fun _ => ?_ | intro _ | refine go ?_ | refine dr_Arr2_68 ?_ | refine drq ?_ | refine cal @hP ?_ | refine cal @hOd ?_ | refine cal @hO ?_ | refine spl ?_ ?_ | fail)
          · apply WT_k; rfl; exact GIn.none; (refine K_way (l := l) (f := arrF c line) (i := i) (j := 0) (w := { l[arrF c line + i] with st := st }) (by rfl) (by rfl) (by exact pb_wsl) (by rw [po_wsl, Nat.add_mul] <;> rfl) (by exact inferInstance) (by exact inferInstance) (by rfl) (by rfl) hi2 (by decide) (by rfl)); refine same_intro ?_; (refine ⟨by first | exact After.free | exact After.turns rfl | (refine After.still ?_; (repeat (first | exact Ent.refl | exact Ent.nil | apply Ent.pick | apply Ent.drop)); done), ?_⟩)
            repeat (first | rintro _ _ ⟨rfl, rfl⟩ | refine exq fun _ => ?_ | intro _ | refine go ?_ | refine dr_Arr2_68 ?_ | refine drq ?_)
            apply WT_k; rfl; exact GIn.none; (refine K_way (l := l.set (arrF c line + i) { l[arrF c line + i] with st := st }) (f := arrF c line) (i := i) (j := 2) (w := { l[arrF c line + i] with st := st, words := w }) (by rfl) (by rfl) (by exact pb_wsl) (by rw [po_wsl, Nat.add_mul] <;> rfl) (by exact inferInstance) (by exact inferInstance) (by rfl) (by rfl) (by rw [List.length_set]; exact hi2) (by decide) (by rw [List.getElem_set_self]; rfl)); refine same_intro ?_; (refine ⟨by first | exact After.free | exact After.turns rfl | (refine After.still ?_; (repeat (first | exact Ent.refl | exact Ent.nil | apply Ent.pick | apply Ent.drop)); done), ?_⟩)
            repeat (first | rintro _ _ ⟨rfl, rfl⟩ | refine exq fun _ => ?_ | intro _ | refine go ?_ | refine dr_Arr2_68 ?_ | refine drq ?_)
            rw [List.set_set]
            (apply WE_ret rfl rfl (by (repeat (first | exact ResOk.nil | (apply ResOk.tmp; rfl) | (apply resOk_cell; rfl; exact inferInstance; rfl; rfl)))))
            · exact ⟨rfl, rfl⟩
            · (apply arr_in; (focus (exact entu0)); all_goals (first | rfl | (with_reducible assumption) | (simp; done) | (simp; omega) | omega | (constructor <;> (simp) <;> omega)))
          · apply WT_k; rfl; exact GIn.none; (refine K_way (l := l) (f := arrF c line) (i := i) (j := 0) (w := { l[arrF c line + i] with st := st }) (by rfl) (by rfl) (by exact pb_wsl) (by rw [po_wsl, Nat.add_mul] <;> rfl) (by exact inferInstance) (by exact inferInstance) (by rfl) (by rfl) hi2 (by decide) (by rfl)); refine same_intro ?_; (refine ⟨by first | exact After.free | exact After.turns rfl | (refine After.still ?_; (repeat (first | exact Ent.refl | exact Ent.nil | apply Ent.pick | apply Ent.drop)); done), ?_⟩)
            repeat (first | rintro _ _ ⟨rfl, rfl⟩ | refine exq fun _ => ?_ | intro _ | refine go ?_ | refine dr_Arr2_68 ?_ | refine drq ?_)
            apply WT_k; rfl; exact GIn.none; (refine K_way (l := l.set (arrF c line + i) { l[arrF c line + i] with st := st }) (f := arrF c line) (i := i) (j := 2) (w := { l[arrF c line + i] with st := st, words := w }) (by rfl) (by rfl) (by exact pb_wsl) (by rw [po_wsl, Nat.add_mul] <;> rfl) (by exact inferInstance) (by exact inferInstance) (by rfl) (by rfl) (by rw [List.length_set]; exact hi2) (by decide) (by rw [List.getElem_set_self]; rfl)); refine same_intro ?_; (refine ⟨by first | exact After.free | exact After.turns rfl | (refine After.still ?_; (repeat (first | exact Ent.refl | exact Ent.nil | apply Ent.pick | apply Ent.drop)); done), ?_⟩)
            repeat (first | rintro _ _ ⟨rfl, rfl⟩ | refine exq fun _ => ?_ | intro _ | refine go ?_ | refine dr_Arr2_68 ?_ | refine drq ?_)
            rw [List.set_set]
            (apply WE_ret rfl rfl (by (repeat (first | exact ResOk.nil | (apply ResOk.tmp; rfl) | (apply resOk_cell; rfl; exact inferInstance; rfl; rfl)))))
            · exact ⟨rfl, rfl⟩
            · (apply arr_in; (focus (exact entu0)); all_goals (first | rfl | (with_reducible assumption) | (simp; done) | (simp; omega) | omega | (constructor <;> (simp) <;> omega)))
end Go.Sx

/- Arrays of ways: what holds of them. My own work. -/
namespace Go.Sx
open Go Go.Proofs
set_option linter.unusedVariables false
set_option linter.unusedSimpArgs false
/-- Each line is there once, in its set. -/
def ArrInv (c : Cfg) (l : List Way) : Prop :=
  ∀ i (h : i < l.length), thereB l[i] = true → okLine c l[i].line = true ∧ arrF c l[i].line ≤ i ∧ i < arrF c l[i].line + c.ways.toNat ∧ ∀ j (hj : j < l.length), thereB l[j] = true → l[j].line = l[i].line → j = i
/-- Where a line is, of all ways. -/
def arrG (c : Cfg) (l : List Way) (line : Int) : Int := if arrP c l line < 0 then -1 else arrF c line + arrP c l line
theorem pHas_iff {line : Int} {w : Way} : pHas line w = true ↔ thereB w = true ∧ w.line = line := by simp [pHas]
theorem arrP_at {c : Cfg} {l : List Way} {line : Int} {i : Nat} (hi : arrP c l line = i) : ∃ h : arrF c line + i < l.length, okLine c line = true ∧ pHas line l[arrF c line + i] = true ∧ i < c.ways.toNat := by
  obtain ⟨k, hk, e, h1, _⟩ := arrP_nat (by omega : 0 ≤ arrP c l line)
  have hki : k = i := by omega
  subst hki
  have hok := arrP_ok (by omega : 0 ≤ arrP c l line)
  obtain ⟨h2, e2⟩ := ways_get hok hk
  refine ⟨h2, hok, e2 ▸ h1, ?_⟩
  rw [waysOf_ok hok, List.length_take] at hk
  omega
theorem arrP_no {c : Cfg} {l : List Way} {line : Int} (h : arrP c l line < 0) : ∀ i, i < c.ways.toNat → okLine c line = true → ∀ h : arrF c line + i < l.length, pHas line l[arrF c line + i] = false := by
  intro i hi hok hl
  have h2 := (indexBy_neg (by unfold arrP at h; omega : ¬ 0 ≤ indexBy (pHas line) (waysOf c l line))).2
  have hk : i < (waysOf c l line).length := by rw [waysOf_ok hok, List.length_take, List.length_drop]; omega
  have := h2 _ (List.getElem_mem hk)
  obtain ⟨_, e2⟩ := ways_get hok hk
  rw [e2] at this; exact this
/-- Of all ways, the first one that has a line. -/
theorem arrG_eq {c : Cfg} {l : List Way} (hI : ArrInv c l) (line : Int) : indexBy (pHas line) l = arrG c l line := by
  unfold arrG
  by_cases h : arrP c l line < 0
  · rw [if_pos h]
    refine indexBy_none fun j hj _ => ?_
    cases e : pHas line l[j] with
    | false => rfl
    | true =>
      exfalso
      obtain ⟨h1, h2⟩ := pHas_iff.1 e
      obtain ⟨a1, a2, a3, _⟩ := hI j hj h1
      rw [h2] at a1 a2 a3
      have := arrP_no h (j - arrF c line) (by omega) a1 (by omega)
      simp only [show arrF c line + (j - arrF c line) = j by omega] at this
      rw [this] at e; cases e
  · rw [if_neg h]
    obtain ⟨i, hi, e, _, _⟩ := arrP_nat (by omega : 0 ≤ arrP c l line)
    obtain ⟨h2, hok, h3, h4⟩ := arrP_at e
    rw [e]
    have := indexBy_at (p := pHas line) (l := l) (i := arrF c line + i) h2 (fun j hj hlt => by
      cases ej : pHas line l[j] with
      | false => rfl
      | true =>
        exfalso
        obtain ⟨g1, g2⟩ := pHas_iff.1 h3
        obtain ⟨b1, b2⟩ := pHas_iff.1 ej
        have := (hI _ h2 g1).2.2.2 j hj b1 (by rw [b2, g2])
        omega) h3
    rw [this]
    exact Int.natCast_add _ _
theorem arr_inv_no (c : Cfg) (n : Nat) : ArrInv c (List.replicate n .zero) := by
  intro i h ht
  rw [List.getElem_replicate] at ht
  cases ht
/-- A way is turned: what is there then is of its own line. -/
theorem arr_inv_set {c : Cfg} {l : List Way} {k : Nat} {w : Way} (hI : ArrInv c l) (hk : k < l.length) (h : thereB w = true → okLine c w.line = true ∧ arrF c w.line ≤ k ∧ k < arrF c w.line + c.ways.toNat ∧ ∀ j (hj : j < l.length), thereB l[j] = true → l[j].line = w.line → j = k) : ArrInv c (l.set k w) := by
  intro i hi ht
  rw [List.length_set] at hi
  by_cases e : k = i
  · subst e
    rw [List.getElem_set_self] at ht ⊢
    obtain ⟨h1, h2, h3, h4⟩ := h ht
    refine ⟨h1, h2, h3, fun j hj htj hlj => ?_⟩
    rw [List.length_set] at hj
    by_cases e2 : k = j
    · exact e2.symm
    · rw [List.getElem_set_ne e2] at htj hlj
      exact h4 j hj htj hlj
  · rw [List.getElem_set_ne e] at ht ⊢
    obtain ⟨h1, h2, h3, h4⟩ := hI i hi ht
    refine ⟨h1, h2, h3, fun j hj htj hlj => ?_⟩
    rw [List.length_set] at hj
    by_cases e2 : k = j
    · subst e2
      rw [List.getElem_set_self] at htj hlj
      exact ((h htj).2.2.2 i hi ht hlj.symm).symm
    · rw [List.getElem_set_ne e2] at htj hlj
      exact h4 j hj htj hlj
theorem findW_at {c : Cfg} {l : List Way} {line : Int} {i : Nat} (hi : arrP c l line = i) (h2 : arrF c line + i < l.length) : findW c l line = l[arrF c line + i] := by
  obtain ⟨k, hk, e, _, _⟩ := arrP_nat (by omega : 0 ≤ arrP c l line)
  have hki : k = i := by omega
  subst hki
  have hok := arrP_ok (by omega : 0 ≤ arrP c l line)
  obtain ⟨_, e2⟩ := ways_get hok hk
  unfold findW; rw [if_neg (by omega), hi, Int.toNat_natCast, ← e2]; exact (getD_at hk).symm
theorem layL_inv {c : Cfg} {l : List Way} {line way : Int} (hI : ArrInv c l) : ArrInv c (layL c l line way) := by
  unfold layL
  split
  · rename_i h
    unfold layE at h
    split at h
    · rename_i h0
      split at h
      · rename_i hp
        have hok : okLine c line = true := by
          cases e : okLine c line with
          | true => rfl
          | false => rw [waysOf_no e] at h0; simp at h0; omega
        obtain ⟨k, hk⟩ : ∃ k : Nat, way = k := ⟨way.toNat, by omega⟩
        subst hk
        obtain ⟨h2, _⟩ := ways_get hok (show k < (waysOf c l line).length by omega)
        have hkw : k < c.ways.toNat := by have := h0.2; rw [waysOf_ok hok, List.length_take] at this; omega
        rw [Int.toNat_natCast]
        refine arr_inv_set hI h2 fun _ => ⟨hok, by dsimp only; omega, by dsimp only; omega, fun j hj ht hl => ?_⟩
        exfalso
        dsimp only at hl
        obtain ⟨a1, a2, a3, _⟩ := hI j hj ht
        rw [hl] at a1 a2 a3
        have := arrP_no (by omega : arrP c l line < 0) (j - arrF c line) (by omega) a1 (by omega)
        simp only [show arrF c line + (j - arrF c line) = j by omega] at this
        rw [pHas_iff.2 ⟨ht, hl⟩] at this; cases this
      · cases h
    · cases h
  · exact hI
theorem turn_inv {c : Cfg} {l : List Way} {line : Int} {w : Way} (hI : ArrInv c l) (hp : ¬ arrP c l line = -1) (hl : w.line = (findW c l line).line) : ArrInv c (l.set (arrF c line + (arrP c l line).toNat) w) := by
  have h0 : 0 ≤ arrP c l line := by have := (arrP_lt c l line).1; omega
  obtain ⟨i, hi⟩ : ∃ i : Nat, arrP c l line = i := ⟨(arrP c l line).toNat, by omega⟩
  obtain ⟨h2, hok, h3, h4⟩ := arrP_at hi
  have hf := findW_at hi h2
  rw [hi, Int.toNat_natCast]
  obtain ⟨g1, g2⟩ := pHas_iff.1 h3
  have hinv := hI _ h2 g1
  refine arr_inv_set hI h2 fun _ => ?_
  have e : w.line = l[arrF c line + i].line := by rw [hl, hf]
  rw [e]
  exact hinv
theorem setL_inv {c : Cfg} {l : List Way} {line st : Int} {w : Words} (hI : ArrInv c l) : ArrInv c (setL c l line st w) := by
  unfold setL
  split
  · rename_i h
    refine turn_inv hI (fun hp => ?_) rfl
    unfold setE at h; rw [if_pos hp] at h; cases h
  · exact hI
theorem lockL_inv {c : Cfg} {l : List Way} {line : Int} {lk : Bool} (hI : ArrInv c l) : ArrInv c (lockL c l line lk) := by
  unfold lockL
  split
  · rename_i h
    refine turn_inv hI (fun hp => ?_) rfl
    unfold lockE at h; rw [if_pos hp] at h; cases h
  · exact hI
theorem layL_len {c : Cfg} {l : List Way} {line way : Int} : (layL c l line way).length = l.length := by unfold layL; split <;> simp
theorem setL_len {c : Cfg} {l : List Way} {line st : Int} {w : Words} : (setL c l line st w).length = l.length := by unfold setL; split <;> simp
theorem lockL_len {c : Cfg} {l : List Way} {line : Int} {lk : Bool} : (lockL c l line lk).length = l.length := by unfold lockL; split <;> simp
end Go.Sx
