/- Shp, May, Same7, All, Queue, QuPl: several of my texts as one. My own work. -/
import Derived.Test.YtlaohgngdaglmaaData
import Derived.Test.YtlaohgngdaglmaaZab
import Derived.Test.YtlaohgngdaglmaaZaa
/- What the functions of package shape do, and the document's. My own work. -/
namespace Go.Sx
open Go Go.Proofs
set_option linter.unusedVariables false
set_option maxRecDepth 100000
set_option maxHeartbeats 4000000
attribute [local irreducible] Go.Exit.then Go.Exit.inBlock Go.Code.wp WC WO WE WQ V LoopQ FnQ Sat Star band bor IntKind.wrap WR Code.rounds WT KO



theorem shape_Power {F : List HP} {n : Int} (hn : I64 n) : FnF Try.prog 112 [.int .i64 n] [] F (fun r L' => r = (.tuple [.int .i64 (powK n), .bool (powB n)].toArray) ∧ L' = []) := by
  unfold I64 at hn
  refine FnF.mk' Try.func112 rfl rfl Try.ntmps112 rfl ?_
  by_cases h : n < 1
  · have e : powOf n = none := by
      cases e : powOf n with
      | none => rfl
      | some k => have := powOf_some e; have h0 : (0 : Int) < 2 ^ k := Int.pow_pos (by omega); omega
    have e1 : powK n = 0 := by simp [powK, e]
    have e2 : powB n = false := by simp [powB, e]
    clear e
    repeat (first | rintro _ _ ⟨rfl, rfl⟩ | refine exq fun _ => ?_ | intro _ | refine go ?_ | refine drq ?_)
    (apply WE_ret rfl rfl (by (repeat (first | exact ResOk.nil | (apply ResOk.tmp; rfl) | (apply resOk_cell; rfl; exact inferInstance; rfl; rfl)))))
    · rw [e1, e2]; exact ⟨rfl, rfl⟩
    · exact entu0
  · cases e : powOf n with
    | none =>
      have hb := band_nopow (by omega) hn.2 e
      have e1 : powK n = 0 := by simp [powK, e]
      have e2 : powB n = false := by simp [powB, e]
      clear e
      repeat (first | rintro _ _ ⟨rfl, rfl⟩ | refine exq fun _ => ?_ | intro _ | refine go ?_ | refine drq ?_)
      (apply WE_ret rfl rfl (by (repeat (first | exact ResOk.nil | (apply ResOk.tmp; rfl) | (apply resOk_cell; rfl; exact inferInstance; rfl; rfl)))))
      · rw [e1, e2]; exact ⟨rfl, rfl⟩
      · exact entu0
    | some m =>
      obtain ⟨hm, rfl⟩ := powOf_some e
      have hb := band_pow hm
      have e1 : powK (2 ^ m) = m := by simp [powK, e]
      have e2 : powB (2 ^ m) = true := by simp [powB, e]
      clear e
      repeat (first | rintro _ _ ⟨rfl, rfl⟩ | refine exq fun _ => ?_ | intro _ | refine go ?_ | refine drq ?_)
      apply WC_loop (fun k : Nat => [(0, .int .i64 (2 ^ m)), (4, .int .i64 (k : Int))]) (fun _ => F) (fun k => k ≤ m) (fun k => m - k) 0
      · omega
      · exact Sub.cons rfl (Sub.cons rfl Sub.nil)
      · exact entu0
      · intro k hk
        have hf := fdiv_pow hk
        have hmin : min ((k : Int)).toNat IntKind.i64.bits = k := by simp [IntKind.bits]; omega
        repeat (first | rintro _ _ ⟨rfl, rfl⟩ | refine exq fun _ => ?_ | intro _ | refine go ?_ | refine drq ?_)
        rw [hmin, hf]
        by_cases hlt : k < m
        · have : (1 : Int) < 2 ^ (m - k) := by
            have : (2 : Nat) ^ 1 ≤ 2 ^ (m - k) := Nat.pow_le_pow_right (by omega) (by omega)
            have : ((2 ^ 1 : Nat) : Int) ≤ ((2 ^ (m - k) : Nat) : Int) := by exact_mod_cast this
            simp at this; omega
          repeat (first | rintro _ _ ⟨rfl, rfl⟩ | refine exq fun _ => ?_ | intro _ | refine go ?_ | refine drq ?_)
          refine WE_loop (k + 1) (by omega) (by omega) (Sub.cons rfl (Sub.cons rfl Sub.nil)) Ent.refl
        · obtain rfl : k = m := by omega
          have : ¬ (1 : Int) < 2 ^ (k - k) := by simp
          repeat (first | rintro _ _ ⟨rfl, rfl⟩ | refine exq fun _ => ?_ | intro _ | refine go ?_ | refine drq ?_)
          (apply WE_ret rfl rfl (by (repeat (first | exact ResOk.nil | (apply ResOk.tmp; rfl) | (apply resOk_cell; rfl; exact inferInstance; rfl; rfl)))))
          · rw [e1, e2]; exact ⟨rfl, rfl⟩
          · exact entu0

theorem shape_fits {F : List HP} {n l m : Int} {p : Bool} (hn : I64 n) : FnF Try.prog 94 [.agg [.int .i64 n, .int .i64 l, .int .i64 m, .bool p].toArray] [] F (fun r L' => r = (.bool (fitsB n l m p)) ∧ L' = []) := by
  refine FnF.mk' Try.func94 rfl rfl Try.ntmps94 rfl ?_
  cases p
  · repeat' (first | rintro _ _ ⟨rfl, rfl⟩ | refine exq fun _ => ?_ | intro _ | refine go ?_ | refine drq ?_ | refine spl ?_ ?_ | fail)
    all_goals (apply WE_ret rfl rfl (by (repeat (first | exact ResOk.nil | (apply ResOk.tmp; rfl) | (apply resOk_cell; rfl; exact inferInstance; rfl; rfl)))); (exact ⟨by first | (simp_all [fitsB]; done) | (simp_all [fitsB]; omega), rfl⟩); (repeat (first | exact Ent.refl | exact Ent.nil | apply Ent.pick | apply Ent.drop)))
  · repeat (first | rintro _ _ ⟨rfl, rfl⟩ | refine exq fun _ => ?_ | intro _ | refine go ?_ | refine drq ?_)
    repeat (first | rintro _ _ ⟨rfl, rfl⟩ | refine exq fun _ => ?_ | intro _ | refine go ?_ | refine drq ?_ | refine cal @shape_Power ?_)
    cases h : powB n
    all_goals repeat' (first | rintro _ _ ⟨rfl, rfl⟩ | refine exq fun _ => ?_ | intro _ | refine go ?_ | refine drq ?_ | refine spl ?_ ?_ | fail)
    all_goals (apply WE_ret rfl rfl (by (repeat (first | exact ResOk.nil | (apply ResOk.tmp; rfl) | (apply resOk_cell; rfl; exact inferInstance; rfl; rfl)))); (exact ⟨by first | (simp_all [fitsB]; done) | (simp_all [fitsB]; omega), rfl⟩); (repeat (first | exact Ent.refl | exact Ent.nil | apply Ent.pick | apply Ent.drop)))

def bnds (c : Cfg) : List (Int × Int × Int × Bool) := [(c.cores, 1, 64, false), (c.homes, 1, 16, true), (c.sets, 1, 64, true), (c.words, 1, 8, true), (c.lines, 1, 1024, true), (c.ways, 1, 8, false),
  (c.pointers, 0, 8, false), (c.mshrs, 1, 8, false), (c.buffer, 1, 16, false), (c.writebacks, 1, 8, false), (c.r0, 1, 64, false), (c.r1, 1, 64, false), (c.r2, 1, 64, false)]
def encBnd (b : Int × Int × Int × Bool) : List Value := [.int .i64 b.1, .int .i64 b.2.1, .int .i64 b.2.2.1, .bool b.2.2.2]
theorem checkB_all (c : Cfg) : checkB c = (bnds c).all (fun b => fitsB b.1 b.2.1 b.2.2.1 b.2.2.2) := by
  simp [checkB, bnds, Bool.and_assoc]
theorem bnds_wf (c : Cfg) (hc : c.wf) : ∀ b ∈ bnds c, I64 b.1 := by
  intro b hb
  obtain ⟨h1, h2, h3, h4, h5, h6, h7, h8, h9, h10, h11, h12, h13⟩ := hc
  simp only [bnds, List.mem_cons, List.not_mem_nil, or_false] at hb
  rcases hb with rfl | rfl | rfl | rfl | rfl | rfl | rfl | rfl | rfl | rfl | rfl | rfl | rfl <;> assumption

theorem shape_Check {F : List HP} {c : Cfg} (hc : c.wf) : FnF Try.prog 57 [c.val] [] F (fun r L' => r = (.int .i64 (checkE c)) ∧ L' = []) := by
  refine FnF.mk' Try.func57 rfl rfl Try.ntmps57 rfl ?_
  repeat (first | rintro _ _ ⟨rfl, rfl⟩ | refine exq fun _ => ?_ | intro _ | refine go ?_ | refine drq ?_)
  apply WC_loop (fun j : Nat => [(50, .int .i64 (j : Int)), (49, .agg (flat encBnd (bnds c)).toArray)]) (fun _ => F) (fun j => j ≤ 13 ∧ ∀ i (h : i < (bnds c).length), i < j → fitsB (bnds c)[i].1 (bnds c)[i].2.1 (bnds c)[i].2.2.1 (bnds c)[i].2.2.2 = true) (fun j => 13 - j) 0
  · exact ⟨by omega, fun i h hi => by omega⟩
  · exact Sub.cons rfl (Sub.cons rfl Sub.nil)
  · exact entu0
  · rintro j ⟨hj, hall⟩
    by_cases hlt : j < 13
    · have hlen : j < (bnds c).length := hlt
      have hs := sub_flat (enc := encBnd) (n := 4) (fun _ => rfl) (bnds c) j hlen
      repeat (first | rintro _ _ ⟨rfl, rfl⟩ | refine exq fun _ => ?_ | intro _ | refine go ?_ | refine drq ?_)
      refine WO_v (v_index_array rfl rfl (by omega) (by omega) hs rfl) rfl ?_
      have hwf := bnds_wf c hc _ (List.getElem_mem hlen)
      generalize hb : (bnds c)[j] = b at hwf
      repeat (first | rintro _ _ ⟨rfl, rfl⟩ | refine exq fun _ => ?_ | intro _ | refine go ?_ | refine drq ?_)
      repeat (first | rintro _ _ ⟨rfl, rfl⟩ | refine exq fun _ => ?_ | intro _ | refine go ?_ | refine drq ?_ | refine cal @shape_fits ?_)
      cases hf : fitsB b.1 b.2.1 b.2.2.1 b.2.2.2
      · repeat (first | rintro _ _ ⟨rfl, rfl⟩ | refine exq fun _ => ?_ | intro _ | refine go ?_ | refine drq ?_)
        have e : checkB c = false := by
          rw [checkB_all, List.all_eq_false]
          exact ⟨_, List.getElem_mem hlen, by simp [hb, hf]⟩
        (apply WE_ret rfl rfl (by (repeat (first | exact ResOk.nil | (apply ResOk.tmp; rfl) | (apply resOk_cell; rfl; exact inferInstance; rfl; rfl)))); (exact ⟨by first | (simp [checkE, e]; done) | (simp [checkE, e]; omega), rfl⟩); (repeat (first | exact Ent.refl | exact Ent.nil | apply Ent.pick | apply Ent.drop)))
      · repeat (first | rintro _ _ ⟨rfl, rfl⟩ | refine exq fun _ => ?_ | intro _ | refine go ?_ | refine drq ?_)
        refine WE_loop (j + 1) (by omega) ⟨by omega, fun i h hi => ?_⟩ (Sub.cons rfl (Sub.cons rfl Sub.nil)) ?_
        · by_cases hij : i = j
          · subst hij; rw [hb]; exact hf
          · exact hall i h (by omega)
        · exact entu0
    · obtain rfl : j = 13 := by omega
      have e : checkB c = true := by
        rw [checkB_all, List.all_eq_true]
        intro b hb
        obtain ⟨i, hi, rfl⟩ := List.getElem_of_mem hb
        exact hall i hi hi
      repeat (first | rintro _ _ ⟨rfl, rfl⟩ | refine exq fun _ => ?_ | intro _ | refine go ?_ | refine drq ?_)
      (apply WE_ret rfl rfl (by (repeat (first | exact ResOk.nil | (apply ResOk.tmp; rfl) | (apply resOk_cell; rfl; exact inferInstance; rfl; rfl)))); (exact ⟨by first | (simp [checkE, e]; done) | (simp [checkE, e]; omega), rfl⟩); (repeat (first | exact Ent.refl | exact Ent.nil | apply Ent.pick | apply Ent.drop)))


theorem powB_pos {n : Int} (h : powB n = true) : ∃ k, k < 63 ∧ n = 2 ^ k := by
  unfold powB at h
  cases e : powOf n with
  | none => simp [e] at h
  | some k => exact ⟨k, powOf_some e⟩

theorem check_words {c : Cfg} (h : checkB c = true) : 1 ≤ c.words ∧ c.words ≤ 8 ∧ 1 ≤ c.lines ∧ c.lines ≤ 1024 := by
  simp only [checkB, fitsB, Bool.and_eq_true, decide_eq_true_eq] at h
  omega

theorem mul_bd {a b m n : Int} (h1 : 0 ≤ a) (h2 : a ≤ m) (h3 : 0 ≤ b) (h4 : b ≤ n) (hn : 0 ≤ n) : 0 ≤ a * b ∧ a * b ≤ m * n :=
  ⟨Int.mul_nonneg h1 h3, Int.le_trans (Int.mul_le_mul_of_nonneg_right h2 h3) (Int.mul_le_mul_of_nonneg_left h4 (by omega))⟩

theorem shape_Size {F : List HP} {c : Cfg} (hc : c.wf) : FnF Try.prog 58 [c.val] [] F (fun r L' => r = (.int .i64 (sizeOf' c)) ∧ L' = []) := by
  refine FnF.mk' Try.func58 rfl rfl Try.ntmps58 rfl ?_
  repeat (first | rintro _ _ ⟨rfl, rfl⟩ | refine exq fun _ => ?_ | intro _ | refine go ?_ | refine drq ?_)
  repeat (first | rintro _ _ ⟨rfl, rfl⟩ | refine exq fun _ => ?_ | intro _ | refine go ?_ | refine drq ?_ | refine cal @shape_Check ?_)
  cases e : checkB c
  · have e1 : checkE c = 1 := by simp [checkE, e]
    repeat (first | rintro _ _ ⟨rfl, rfl⟩ | refine exq fun _ => ?_ | intro _ | refine go ?_ | refine drq ?_)
    (apply WE_ret rfl rfl (by (repeat (first | exact ResOk.nil | (apply ResOk.tmp; rfl) | (apply resOk_cell; rfl; exact inferInstance; rfl; rfl)))); (exact ⟨by first | (simp [sizeOf', e]; done) | (simp [sizeOf', e]; omega), rfl⟩); (repeat (first | exact Ent.refl | exact Ent.nil | apply Ent.pick | apply Ent.drop)))
  · have e1 : checkE c = 0 := by simp [checkE, e]
    have hw := check_words e
    have hm := mul_bd (m := 8) (n := 1024) (a := c.words) (b := c.lines) (by omega) (by omega) (by omega) (by omega) (by omega)
    repeat (first | rintro _ _ ⟨rfl, rfl⟩ | refine exq fun _ => ?_ | intro _ | refine go ?_ | refine drq ?_)
    (apply WE_ret rfl rfl (by (repeat (first | exact ResOk.nil | (apply ResOk.tmp; rfl) | (apply resOk_cell; rfl; exact inferInstance; rfl; rfl)))); (exact ⟨by first | (simp [sizeOf', e]; done) | (simp [sizeOf', e]; omega), rfl⟩); (repeat (first | exact Ent.refl | exact Ent.nil | apply Ent.pick | apply Ent.drop)))

theorem ref01_Power {F : List HP} {n : Int} (hn : I64 n) : FnF Try.prog 95 [.int .i64 n] [] F (fun r L' => r = (.tuple [.int .i64 (powK n), .bool (powB n)].toArray) ∧ L' = []) := by
  unfold I64 at hn
  refine FnF.mk' Try.func95 rfl rfl Try.ntmps95 rfl ?_
  repeat (first | rintro _ _ ⟨rfl, rfl⟩ | refine exq fun _ => ?_ | intro _ | refine go ?_ | refine drq ?_)
  apply WC_loop (fun k : Nat => [(0, .int .i64 n), (5, .int .i64 (k : Int)), (4, .int .i64 (IntKind.i64.wrap (2 ^ k)))]) (fun _ => F) (fun k => k ≤ 63 ∧ ∀ j, j < k → (2 : Int) ^ j ≠ n) (fun k => 64 - k) 0
  · exact ⟨by omega, fun j hj => by omega⟩
  · exact Sub.cons rfl (Sub.cons rfl (Sub.cons (by rw [show IntKind.i64.wrap ((2 : Int) ^ 0) = 1 from wrap_id (by decide) (by decide)]; rfl) Sub.nil))
  · exact entu0
  · rintro k ⟨hk, h1⟩
    by_cases hlt : k < 63
    · have hp := pow_lt63 hlt
      have h0 : (0 : Int) < 2 ^ k := Int.pow_pos (by omega)
      rw [wrap_id (n := (2 : Int) ^ k) (by omega) (by omega)]
      by_cases he : (2 : Int) ^ k = n
      · subst he
        have e1 : powK (2 ^ k) = k := by simp [powK, powOf_pow hlt]
        have e2 : powB (2 ^ k) = true := by simp [powB, powOf_pow hlt]
        repeat (first | rintro _ _ ⟨rfl, rfl⟩ | refine exq fun _ => ?_ | intro _ | refine go ?_ | refine drq ?_)
        (apply WE_ret rfl rfl (by (repeat (first | exact ResOk.nil | (apply ResOk.tmp; rfl) | (apply resOk_cell; rfl; exact inferInstance; rfl; rfl)))); (exact ⟨by first | (rw [e1, e2]; rfl; done) | (rw [e1, e2]; rfl; omega), rfl⟩); (repeat (first | exact Ent.refl | exact Ent.nil | apply Ent.pick | apply Ent.drop)))
      · repeat (first | rintro _ _ ⟨rfl, rfl⟩ | refine exq fun _ => ?_ | intro _ | refine go ?_ | refine drq ?_)
        refine WE_loop (k + 1) (by omega) ⟨by omega, fun j hj => ?_⟩ (Sub.cons rfl (Sub.cons rfl (Sub.cons ?_ Sub.nil))) ?_
        · by_cases e : j = k
          · subst e; exact he
          · exact h1 j (by omega)
        · rw [Int.pow_succ, Int.mul_comm]; rfl
        · exact entu0
    · obtain rfl : k = 63 := by omega
      have e : powOf n = none := by
        cases e : powOf n with
        | none => rfl
        | some k => obtain ⟨h2, h3⟩ := powOf_some e; exact absurd h3.symm (h1 k h2)
      have e1 : powK n = 0 := by simp [powK, e]
      have e2 : powB n = false := by simp [powB, e]
      repeat (first | rintro _ _ ⟨rfl, rfl⟩ | refine exq fun _ => ?_ | intro _ | refine go ?_ | refine drq ?_)
      (apply WE_ret rfl rfl (by (repeat (first | exact ResOk.nil | (apply ResOk.tmp; rfl) | (apply resOk_cell; rfl; exact inferInstance; rfl; rfl)))); (exact ⟨by first | (rw [e1, e2]; rfl; done) | (rw [e1, e2]; rfl; omega), rfl⟩); (repeat (first | exact Ent.refl | exact Ent.nil | apply Ent.pick | apply Ent.drop)))

theorem ref01_in {F : List HP} {n l h : Int} : FnF Try.prog 61 [.int .i64 n, .int .i64 l, .int .i64 h] [] F (fun r L' => r = (.bool (fitsB n l h false)) ∧ L' = []) := by
  refine FnF.mk' Try.func61 rfl rfl Try.ntmps61 rfl ?_
  repeat' (first | rintro _ _ ⟨rfl, rfl⟩ | refine exq fun _ => ?_ | intro _ | refine go ?_ | refine drq ?_ | refine spl ?_ ?_ | fail)
  all_goals (apply WE_ret rfl rfl (by (repeat (first | exact ResOk.nil | (apply ResOk.tmp; rfl) | (apply resOk_cell; rfl; exact inferInstance; rfl; rfl)))); (exact ⟨by first | (simp_all [fitsB]; done) | (simp_all [fitsB]; omega), rfl⟩); (repeat (first | exact Ent.refl | exact Ent.nil | apply Ent.pick | apply Ent.drop)))

theorem ref01_power {F : List HP} {n h : Int} (hn : I64 n) : FnF Try.prog 62 [.int .i64 n, .int .i64 h] [] F (fun r L' => r = (.bool (fitsB n 1 h true)) ∧ L' = []) := by
  refine FnF.mk' Try.func62 rfl rfl Try.ntmps62 rfl ?_
  repeat (first | rintro _ _ ⟨rfl, rfl⟩ | refine exq fun _ => ?_ | intro _ | refine go ?_ | refine drq ?_)
  repeat (first | rintro _ _ ⟨rfl, rfl⟩ | refine exq fun _ => ?_ | intro _ | refine go ?_ | refine drq ?_ | refine cal @ref01_Power ?_)
  have key : powB n = true → 1 ≤ n := fun e => by
    obtain ⟨k, hk, rfl⟩ := powB_pos e
    have : (0 : Int) < 2 ^ k := Int.pow_pos (by omega)
    omega
  cases e : powB n
  · repeat (first | rintro _ _ ⟨rfl, rfl⟩ | refine exq fun _ => ?_ | intro _ | refine go ?_ | refine drq ?_)
    (apply WE_ret rfl rfl (by (repeat (first | exact ResOk.nil | (apply ResOk.tmp; rfl) | (apply resOk_cell; rfl; exact inferInstance; rfl; rfl)))); (exact ⟨by first | (simp [fitsB, e]; done) | (simp [fitsB, e]; omega), rfl⟩); (repeat (first | exact Ent.refl | exact Ent.nil | apply Ent.pick | apply Ent.drop)))
  · have := key e
    repeat (first | rintro _ _ ⟨rfl, rfl⟩ | refine exq fun _ => ?_ | intro _ | refine go ?_ | refine drq ?_)
    (apply WE_ret rfl rfl (by (repeat (first | exact ResOk.nil | (apply ResOk.tmp; rfl) | (apply resOk_cell; rfl; exact inferInstance; rfl; rfl)))); (exact ⟨by first | (simp [fitsB, e, this]; done) | (simp [fitsB, e, this]; omega), rfl⟩); (repeat (first | exact Ent.refl | exact Ent.nil | apply Ent.pick | apply Ent.drop)))


theorem ref01_Check {F : List HP} {c : Cfg} (hc : c.wf) : FnF Try.prog 29 [c.val] [] F (fun r L' => r = (.int .i64 (checkE c)) ∧ L' = []) := by
  obtain ⟨h1, h2, h3, h4, h5, h6, h7, h8, h9, h10, h11, h12, h13⟩ := hc
  refine FnF.mk' Try.func29 rfl rfl Try.ntmps29 rfl ?_
  repeat' (first | rintro _ _ ⟨rfl, rfl⟩ | refine exq fun _ => ?_ | intro _ | refine go ?_ | refine drq ?_ | refine cal @ref01_in ?_ | refine cal @ref01_power ?_ | refine spl ?_ ?_ | fail)
  all_goals try (refine WC_rounds 4 ?_; repeat' (first | rintro _ _ ⟨rfl, rfl⟩ | refine exq fun _ => ?_ | intro _ | refine go ?_ | refine drq ?_ | refine cal @ref01_in ?_ | refine spl ?_ ?_ | fail))
  all_goals (apply WE_ret rfl rfl (by (repeat (first | exact ResOk.nil | (apply ResOk.tmp; rfl) | (apply resOk_cell; rfl; exact inferInstance; rfl; rfl)))); (exact ⟨by first | (simp_all [checkE, checkB]; done) | (simp_all [checkE, checkB]; omega), rfl⟩); (repeat (first | exact Ent.refl | exact Ent.nil | apply Ent.pick | apply Ent.drop)))

end Go.Sx

/- What package program tells of operations and of programs. My own work. -/
namespace Go.Sx
open Go Go.Proofs
set_option linter.unusedVariables false
set_option linter.unusedSimpArgs false
set_option maxRecDepth 100000
set_option maxHeartbeats 4000000
attribute [local irreducible] Go.Exit.then Go.Exit.inBlock Go.Code.wp WC WO WE WQ V LoopQ FnQ Sat Star band bor IntKind.wrap WR Code.rounds WT KO

def mayB (x : Op3) : Bool := if x.kind = 4 then decide (x.addr = 0) && decide (x.value = 0) else if x.kind = 1 then decide (0 ≤ x.addr) && decide (x.addr ≤ 8191) && decide (x.value = 0)
  else if x.kind = 2 ∨ x.kind = 3 then decide (0 ≤ x.addr) && decide (x.addr ≤ 8191) && decide (-2147483648 ≤ x.value) && decide (x.value ≤ 2147483647) else false
def progB (c : Cfg) (l : List Op3) : Bool := (l.all fun x => mayB x && decide (x.addr < sizeOf' c)) && checkB c && decide (l.length ≤ 64)

theorem program_May {F : List HP} {x : Op3} : FnF Try.prog 59 [ov x] [] F (fun r L' => r = .bool (mayB x) ∧ L' = []) := by
  refine FnF.mk' Try.func59 rfl rfl Try.ntmps59 rfl ?_
  repeat' (first | rintro _ _ ⟨rfl, rfl⟩ | refine exq fun _ => ?_ | intro _ | refine go ?_ | refine drq ?_ | refine spl ?_ ?_ | fail)
  all_goals (apply WE_ret rfl rfl (by (repeat (first | exact ResOk.nil | (apply ResOk.tmp; rfl) | (apply resOk_cell; rfl; exact inferInstance; rfl; rfl)))); (exact ⟨by first | (simp_all [mayB]; done) | (simp_all [mayB]; omega), rfl⟩); (repeat (first | exact Ent.refl | exact Ent.nil | apply Ent.pick | apply Ent.drop)))

theorem program_Fits {F : List HP} {c : Cfg} (hc : c.wf) {l : List Op3} {v : Value} (k : RdL F 3 v l.length (flat oc l)) (hn : l.length ≤ 1099511627776) : FnF Try.prog 83 [c.val, v] [] F (fun r L' => r = .bool (progB c l) ∧ L' = []) := by
  refine FnF.mk' Try.func83 rfl rfl Try.ntmps83 rfl ?_
  repeat (first | rintro _ _ ⟨rfl, rfl⟩ | refine exq fun _ => ?_ | intro _ | refine go ?_ | refine drq ?_)
  rename_i bc
  apply WC_loopE (E0 := [(1, _), (2, _), (7, _), (8, _)]) (fun E0 (j : Nat) => (9, .int .i64 j) :: E0) (fun _ => Cells bc 24 c.cells :: F) (fun j => j ≤ l.length ∧ ∀ i (h : i < l.length), i < j → (mayB l[i] && decide (l[i].addr < sizeOf' c)) = true) (fun j => l.length - j) 0
  · (repeat (first | exact Sub.nil | (refine Sub.cons (by first | rfl | (simp only [Nat.zero_add]; rfl)) ?_)))
  · exact ⟨Nat.zero_le _, fun i h hi => by omega⟩
  · exact entu0
  · rintro j ⟨hj, hall⟩
    by_cases hlt : j < l.length
    · cases hm : mayB l[j] with
      | false =>
        have hf : progB c l = false := by
          have : (l.all fun x => mayB x && decide (x.addr < sizeOf' c)) = false := by
            rw [List.all_eq_false]; exact ⟨_, List.getElem_mem hlt, by simp [hm]⟩
          simp [progB, this]
        have hM := fun F => program_May (F := F) (x := l[j])
        simp only [hm] at hM
        repeat (first | rintro _ _ ⟨rfl, rfl⟩ | refine exq fun _ => ?_ | intro _ | refine go ?_ | refine drq ?_ | refine cal @hM ?_)
        (apply WE_ret rfl rfl (by (repeat (first | exact ResOk.nil | (apply ResOk.tmp; rfl) | (apply resOk_cell; rfl; exact inferInstance; rfl; rfl)))); (first | exact ⟨rfl, rfl⟩ | exact ⟨congrArg Value.bool (by decide), rfl⟩ | exact ⟨_, rfl, rfl⟩ | exact ⟨_, _, rfl, rfl⟩ | exact ⟨by first | (simp [hf]; done) | (simp [hf] <;> omega), rfl⟩); (repeat (first | exact Ent.refl | exact Ent.nil | apply Ent.pick | apply Ent.drop)))
      | true =>
        have hM := fun F => program_May (F := F) (x := l[j])
        simp only [hm] at hM
        by_cases hs : l[j].addr < sizeOf' c
        · repeat (first | rintro _ _ ⟨rfl, rfl⟩ | refine exq fun _ => ?_ | intro _ | refine go ?_ | refine drq ?_ | refine cal @hM ?_ | refine cal (shape_Size (c := c)) ?_)
          refine WE_loop (j + 1) (by omega) ⟨by omega, fun i h hi => ?_⟩ ?_ ?_
          · by_cases e : i = j
            · subst e; simp [hm, hs]
            · exact hall i h (by omega)
          · (repeat (first | exact Sub.nil | (refine Sub.cons (by first | rfl | (simp only [Nat.zero_add]; rfl)) ?_)))
          · exact entu0
        · have hf : progB c l = false := by
            have : (l.all fun x => mayB x && decide (x.addr < sizeOf' c)) = false := by
              rw [List.all_eq_false]; exact ⟨_, List.getElem_mem hlt, by simp [hs]⟩
            simp [progB, this]
          repeat (first | rintro _ _ ⟨rfl, rfl⟩ | refine exq fun _ => ?_ | intro _ | refine go ?_ | refine drq ?_ | refine cal @hM ?_ | refine cal (shape_Size (c := c)) ?_)
          (apply WE_ret rfl rfl (by (repeat (first | exact ResOk.nil | (apply ResOk.tmp; rfl) | (apply resOk_cell; rfl; exact inferInstance; rfl; rfl)))); (first | exact ⟨rfl, rfl⟩ | exact ⟨congrArg Value.bool (by decide), rfl⟩ | exact ⟨_, rfl, rfl⟩ | exact ⟨_, _, rfl, rfl⟩ | exact ⟨by first | (simp [hf]; done) | (simp [hf] <;> omega), rfl⟩); (repeat (first | exact Ent.refl | exact Ent.nil | apply Ent.pick | apply Ent.drop)))
    · have ha : (l.all fun x => mayB x && decide (x.addr < sizeOf' c)) = true := by
        rw [List.all_eq_true]
        intro x hx
        obtain ⟨i, hi, rfl⟩ := List.getElem_of_mem hx
        exact hall i hi (by omega)
      repeat (first | rintro _ _ ⟨rfl, rfl⟩ | refine exq fun _ => ?_ | intro _ | refine go ?_ | refine drq ?_ | refine cal (shape_Check (c := c)) ?_)
      cases e : checkB c
      · have e1 : checkE c = 1 := by simp [checkE, e]
        repeat (first | rintro _ _ ⟨rfl, rfl⟩ | refine exq fun _ => ?_ | intro _ | refine go ?_ | refine drq ?_)
        (apply WE_ret rfl rfl (by (repeat (first | exact ResOk.nil | (apply ResOk.tmp; rfl) | (apply resOk_cell; rfl; exact inferInstance; rfl; rfl)))); (first | exact ⟨rfl, rfl⟩ | exact ⟨congrArg Value.bool (by decide), rfl⟩ | exact ⟨_, rfl, rfl⟩ | exact ⟨_, _, rfl, rfl⟩ | exact ⟨by first | (simp [progB, e]; done) | (simp [progB, e] <;> omega), rfl⟩); (repeat (first | exact Ent.refl | exact Ent.nil | apply Ent.pick | apply Ent.drop)))
      · have e1 : checkE c = 0 := by simp [checkE, e]
        repeat (first | rintro _ _ ⟨rfl, rfl⟩ | refine exq fun _ => ?_ | intro _ | refine go ?_ | refine drq ?_)
        (apply WE_ret rfl rfl (by (repeat (first | exact ResOk.nil | (apply ResOk.tmp; rfl) | (apply resOk_cell; rfl; exact inferInstance; rfl; rfl)))); (first | exact ⟨rfl, rfl⟩ | exact ⟨congrArg Value.bool (by decide), rfl⟩ | exact ⟨_, rfl, rfl⟩ | exact ⟨_, _, rfl, rfl⟩ | exact ⟨by first | (simp [progB, e, ha]; done) | (simp [progB, e, ha] <;> omega), rfl⟩); (repeat (first | exact Ent.refl | exact Ent.nil | apply Ent.pick | apply Ent.drop)))
end Go.Sx

/- Lists of messages, held against one another. My own work. -/
namespace Go.Sx
open Go Go.Proofs
set_option linter.unusedVariables false
set_option linter.unusedSectionVars false
set_option linter.unusedSimpArgs false
theorem mc_inj {a b : Msg} (h : mc a = mc b) : a = b := by
  obtain ⟨a1, a2, a3, a4, a5, a6, a7, ⟨x0, x1, x2, x3, x4, x5, x6, x7⟩⟩ := a
  obtain ⟨b1, b2, b3, b4, b5, b6, b7, ⟨y0, y1, y2, y3, y4, y5, y6, y7⟩⟩ := b
  simp only [mc, List.cons.injEq, Value.int.injEq, true_and, and_true] at h
  obtain ⟨rfl, rfl, rfl, rfl, rfl, rfl, rfl, rfl, rfl, rfl, rfl, rfl, rfl, rfl, rfl⟩ := h
  rfl
set_option maxRecDepth 100000
set_option maxHeartbeats 4000000
attribute [local irreducible] Go.Exit.then Go.Exit.inBlock Go.Code.wp WC WO WE WQ V LoopQ FnQ Sat Star band bor IntKind.wrap WR Code.rounds WT KO
theorem ref07_Same {F : List HP} {v u : Value} {l m : List Msg} (k1 : RdL F 15 v l.length (flat mc l)) (k2 : RdL F 15 u m.length (flat mc m)) (hn : l.length ≤ 1099511627776) : FnF Try.prog 24 [v, u] [] F (fun r L' => r = .bool (decide (l = m)) ∧ L' = []) := by
  refine FnF.mk' Try.func24 rfl rfl Try.ntmps24 rfl ?_
  by_cases e : l.length = m.length
  · repeat (first | rintro _ _ ⟨rfl, rfl⟩ | refine exq fun _ => ?_ | intro _ | refine go ?_ | refine drq ?_)
    apply WC_loopE (E0 := [(0, _), (1, _)]) (fun E0 (i : Nat) => (5, .int .i64 i) :: E0) (fun _ => F) (fun i => i ≤ l.length ∧ l.take i = m.take i) (fun i => l.length - i) 0
    · (repeat (first | exact Sub.nil | (refine Sub.cons (by first | rfl | (simp only [Nat.zero_add]; rfl)) ?_)))
    · exact ⟨by omega, rfl⟩
    · exact Ent.refl
    · rintro i ⟨hi, h1⟩
      by_cases hlt : i < l.length
      · have hlt' : i < m.length := by omega
        by_cases he : l[i] = m[i]
        · have he' : ¬ (mc l[i] ≠ mc m[i]) := fun h => h (by rw [he])
          repeat (first | rintro _ _ ⟨rfl, rfl⟩ | refine exq fun _ => ?_ | intro _ | refine go ?_ | refine drq ?_)
          refine WE_loop (i + 1) (by omega) ⟨by omega, ?_⟩ ?_ Ent.refl
          · rw [List.take_add_one, List.take_add_one, h1]; simp [hlt, hlt', he]
          · (repeat (first | exact Sub.nil | (refine Sub.cons (by first | rfl | (simp only [Nat.zero_add]; rfl)) ?_)))
        · have he' : mc l[i] ≠ mc m[i] := fun h => he (mc_inj h)
          repeat (first | rintro _ _ ⟨rfl, rfl⟩ | refine exq fun _ => ?_ | intro _ | refine go ?_ | refine drq ?_)
          have hne : l ≠ m := fun e => by subst e; exact he rfl
          (apply WE_ret rfl rfl (by (repeat (first | exact ResOk.nil | (apply ResOk.tmp; rfl) | (apply resOk_cell; rfl; exact inferInstance; rfl; rfl)))); (first | exact ⟨rfl, rfl⟩ | exact ⟨congrArg Value.bool (by decide), rfl⟩ | exact ⟨_, rfl, rfl⟩ | exact ⟨_, _, rfl, rfl⟩ | exact ⟨by first | (simp [hne]; done) | (simp [hne] <;> omega), rfl⟩); (repeat (first | exact Ent.refl | exact Ent.nil | apply Ent.pick | apply Ent.drop)))
      · have hil : i = l.length := by omega
        subst hil
        have : l = m := by rw [List.take_length, e, List.take_length] at h1; exact h1
        repeat (first | rintro _ _ ⟨rfl, rfl⟩ | refine exq fun _ => ?_ | intro _ | refine go ?_ | refine drq ?_)
        (apply WE_ret rfl rfl (by (repeat (first | exact ResOk.nil | (apply ResOk.tmp; rfl) | (apply resOk_cell; rfl; exact inferInstance; rfl; rfl)))); (first | exact ⟨rfl, rfl⟩ | exact ⟨congrArg Value.bool (by decide), rfl⟩ | exact ⟨_, rfl, rfl⟩ | exact ⟨_, _, rfl, rfl⟩ | exact ⟨by first | (simp [this]; done) | (simp [this] <;> omega), rfl⟩); (repeat (first | exact Ent.refl | exact Ent.nil | apply Ent.pick | apply Ent.drop)))
  · have hne : l ≠ m := fun h => e (by rw [h])
    repeat (first | rintro _ _ ⟨rfl, rfl⟩ | refine exq fun _ => ?_ | intro _ | refine go ?_ | refine drq ?_)
    (apply WE_ret rfl rfl (by (repeat (first | exact ResOk.nil | (apply ResOk.tmp; rfl) | (apply resOk_cell; rfl; exact inferInstance; rfl; rfl)))); (first | exact ⟨rfl, rfl⟩ | exact ⟨congrArg Value.bool (by decide), rfl⟩ | exact ⟨_, rfl, rfl⟩ | exact ⟨_, _, rfl, rfl⟩ | exact ⟨by first | (simp [hne]; done) | (simp [hne] <;> omega), rfl⟩); (repeat (first | exact Ent.refl | exact Ent.nil | apply Ent.pick | apply Ent.drop)))
end Go.Sx

/- Many atoms as one; slices that are only read, in blocks of their own. My own work; names no program. -/
namespace Go.Sx
open Go
set_option linter.unusedVariables false

theorem star_perm {L M : List HP} (p : L.Perm M) : ∀ h, Star L h → Star M h := by
  induction p with
  | nil => exact fun _ h => h
  | cons x _ ih => exact fun _ h => star_cons ih h
  | swap x y l => exact fun _ h => star_swap h
  | trans _ _ a b => exact fun h x => b h (a h x)
theorem ent_perm {L M : List HP} (p : L.Perm M) : Ent L M := star_perm p

theorem erase_perm {α : Type} : ∀ (l : List α) (i : Nat) (hi : i < l.length), (l[i] :: l.eraseIdx i).Perm l
  | a :: r, 0, _ => List.Perm.refl _
  | a :: r, i + 1, hi => (List.Perm.swap _ _ _).trans ((erase_perm r i (by simpa using hi)).cons a)
  | [], i, hi => by simp at hi
/-- Many atoms. -/
structure All (ps : List HP) (h : PH) : Prop where
  pf : Star ps h
theorem all_open {ps L : List HP} : Ent (All ps :: L) (ps ++ L) := fun h ⟨S, T, d, hp, hL⟩ => star_append_of d hp.pf hL
theorem all_close {ps L : List HP} : Ent (ps ++ L) (All ps :: L) := fun h H => by
  obtain ⟨S, T, d, h1, h2⟩ := star_split H
  exact ⟨S, T, d, ⟨h1⟩, h2⟩
theorem all_nil {L : List HP} : Ent L (All [] :: L) := all_close (ps := [])
section
variable {α : Type} {f : α → HP} {qs : List α} {L : List HP}
theorem all_take (i : Nat) (hi : i < qs.length) : Ent (All (qs.map f) :: L) (f qs[i] :: All ((qs.eraseIdx i).map f) :: L) := by
  refine Ent.trans all_open (Ent.trans (ent_perm ?_) (Ent.cons all_close))
  have := (erase_perm qs i hi).map f
  exact (this.symm.append_right L)
theorem all_put (i : Nat) (hi : i < qs.length) (x : α) : Ent (f x :: All ((qs.eraseIdx i).map f) :: L) (All ((qs.set i x).map f) :: L) := by
  refine Ent.trans (Ent.cons all_open) (Ent.trans (ent_perm ?_) all_close)
  have h2 : i < (qs.set i x).length := by simpa using hi
  have := (erase_perm (qs.set i x) i h2).map f
  simp only [List.getElem_set_self, List.eraseIdx_set_eq] at this
  exact this.append_right L
theorem all_back (i : Nat) (hi : i < qs.length) : Ent (f qs[i] :: All ((qs.eraseIdx i).map f) :: L) (All (qs.map f) :: L) := by
  have := all_put (f := f) (L := L) i hi qs[i]
  simpa using this
theorem all_add (x : α) : Ent (f x :: All (qs.map f) :: L) (All ((qs ++ [x]).map f) :: L) := by
  refine Ent.trans (Ent.cons all_open) (Ent.trans (ent_perm ?_) all_close)
  rw [List.map_append]
  exact (List.perm_append_singleton (f x) (qs.map f)).symm.append_right L
theorem all_erase (i : Nat) : Ent (All (qs.map f) :: L) (All ((qs.eraseIdx i).map f) :: L) := by
  by_cases hi : i < qs.length
  · exact Ent.trans (all_take i hi) (Ent.drop Ent.refl)
  · rw [List.eraseIdx_of_length_le (by omega)]; exact Ent.refl
end

/-- 'v' is a slice that can be read, in a block of its own. -/
structure Rds (sz : Nat) (v : Value) (n : Nat) (xs : List Value) (h : PH) : Prop where
  len : xs.length = n * sz
  ones : xs.all one = true
  pf : (∃ p c, v = .slice p 0 c ∧ n = 0) ∨ ∃ b o c cur T, v = .slice (some ⟨b, o, none⟩) n c ∧ h.c b = some (.cells cur T (0, 0)) ∧ ∀ j u, xs[j]? = some u → cur.toList[o + j]? = some u

section
variable {sz n : Nat} {v : Value} {xs : List Value} {L : List HP}
instance (priority := high) RdL.rds : RdL (Rds sz v n xs :: L) sz v n xs :=
  ⟨fun w ⟨_, _, _, hp, _⟩ => hp.len, fun w ⟨_, _, _, hp, _⟩ => hp.ones, fun w ⟨S, _, _, hp, _⟩ => by
    rcases hp.pf with h | ⟨b, o, c, cur, T, h1, h2, h3⟩
    · exact .inl h
    · refine .inr ⟨b, o, c, h1, fun j u hu => ?_⟩
      have hh : w.heap[b]? = some (.cells cur.toList.toArray T (0, 0)) := by have h4 := (res_c h2).2; simp only [ph] at h4; simpa using h4
      rw [cell_of_heap hh]
      exact h3 j u hu⟩
theorem own_rds {e : TypeId} : Ent (Own e sz v n xs :: L) (Rds sz v n xs :: L) := fun h ⟨S, T, d, hp, hL⟩ => by
  refine ⟨S, T, d, ⟨hp.len, hp.ones, ?_⟩, hL⟩
  rcases hp.pf with ⟨p, a, b⟩ | ⟨g, cap, cur, a, b, c, d1, e1, f⟩
  · exact .inl ⟨p, 0, a, b⟩
  · refine .inr ⟨g, 0, cap, cur, e, a, b, fun j u hu => ?_⟩
    rw [← f, List.getElem?_take] at hu
    split at hu
    · simpa using hu
    · simp at hu
theorem rds_nil {p : Option Addr} {c : Nat} : Ent L (Rds sz (.slice p 0 c) 0 [] :: L) := fun hh H => by
  refine ⟨fun _ => False, fun _ => True, fun _ a _ => a, ⟨by simp, rfl, .inl ⟨p, c, rfl, rfl⟩⟩, ?_⟩
  have : res hh (fun _ => True) = hh := by unfold res; simp
  rw [this]; exact H
theorem rds_cut {l h m : Nat} (h1 : l ≤ h) (h2 : h ≤ n) (h3 : h ≤ m) : Ent (Rds sz v n xs :: L) (Rds sz (cut v l h m sz) (h - l) ((xs.drop (l * sz)).take ((h - l) * sz)) :: L) := fun hh ⟨S, T, d, hp, hL⟩ => by
  refine ⟨S, T, d, ⟨?_, ?_, ?_⟩, hL⟩
  · have := hp.len
    have e : (h - l) * sz + l * sz ≤ n * sz := by rw [← Nat.add_mul]; exact Nat.mul_le_mul_right _ (by omega)
    simp; omega
  · have := hp.ones
    rw [List.all_eq_true] at this ⊢
    exact fun u hu => this u (List.mem_of_mem_drop (List.mem_of_mem_take hu))
  · by_cases hq : h = l
    · left
      subst hq
      rcases hp.pf with ⟨p, c, rfl, rfl⟩ | ⟨b, o, c, cur, T, rfl, _⟩ <;> exact ⟨_, _, by simp [Sx.cut]; exact ⟨rfl, rfl⟩, by omega⟩
    · rcases hp.pf with ⟨p, c, rfl, rfl⟩ | ⟨b, o, c, cur, T, rfl, hb, hc⟩
      · omega
      · right
        have hadd : (Addr.add ⟨b, o, none⟩ (l * sz)) = ⟨b, o + l * sz, none⟩ := by unfold Addr.add; split <;> simp_all
        refine ⟨b, o + l * sz, m - l, cur, T, ?_, hb, fun j u hj => ?_⟩
        · simp only [Sx.cut, if_neg (show ¬ m = l by omega), Option.map_some, hadd]
        · rw [List.getElem?_take] at hj
          split at hj
          · rw [List.getElem?_drop] at hj
            have := hc _ _ hj
            rwa [← Nat.add_assoc] at this
          · simp at hj
end
end Go.Sx

/- What queues do, the program's. My own work. -/
namespace Go.Sx
open Go Go.Proofs
set_option linter.unusedVariables false
set_option linter.unusedSectionVars false
set_option linter.unusedSimpArgs false

/-! ## A queue -/
abbrev qrd (p : QP) : HP := Rds 15 (.slice p.2.1 p.1.sends.length p.2.2) p.1.sends.length (flat mc p.1.sends)
/-- A block with a room, and a slice of requests of its own, each with what is to be sent. -/
def QuB (T e : TypeId) (b : Nat) (room : Int) (l : List QE) : HP :=
  Ex fun q : (Option Addr × Nat) × List QP => [Cells b T [.int .i64 room, .slice q.1.1 q.2.length q.1.2], Own e 17 (.slice q.1.1 q.2.length q.1.2) q.2.length (flat qc q.2), All (q.2.map qrd), Fact (q.2.map (·.1) = l ∧ (q.2.length : Int) ≤ room ∧ room ≤ 16 ∧ ∀ p ∈ q.2, p.1.sends.length ≤ p.2.2 ∧ p.1.sends.length ≤ 1000)]
section
variable {T e : TypeId} {b : Nat} {room : Int} {l : List QE}
theorem qu_in {n : Nat} {p : Option Addr} {c : Nat} {xs : List Value} {ps : List QP} {L M : List HP}
    (h : Ent L (Cells b T [.int .i64 room, .slice p n c] :: Own e 17 (.slice p n c) n xs :: All (ps.map qrd) :: M)) (hl : ps.map (·.1) = l) (hn : n = ps.length) (hx : xs = flat qc ps) (h1 : (ps.length : Int) ≤ room) (h2 : room ≤ 16) (h3 : ∀ p ∈ ps, p.1.sends.length ≤ p.2.2 ∧ p.1.sends.length ≤ 1000) : Ent L (QuB T e b room l :: M) := by
  subst hn hx
  refine Ent.trans h (Ent.trans ?_ (ex_intro (p := fun q : (Option Addr × Nat) × List QP => [Cells b T [.int .i64 room, .slice q.1.1 q.2.length q.1.2], Own e 17 (.slice q.1.1 q.2.length q.1.2) q.2.length (flat qc q.2), All (q.2.map qrd), Fact (q.2.map (·.1) = l ∧ (q.2.length : Int) ≤ room ∧ room ≤ 16 ∧ ∀ p ∈ q.2, p.1.sends.length ≤ p.2.2 ∧ p.1.sends.length ≤ 1000)]) ((p, c), ps)))
  exact Ent.cons (Ent.cons (Ent.cons (star_fact_mk ⟨hl, h1, h2, h3⟩)))
theorem own_cap {T : TypeId} {sz n c : Nat} {p : Option Addr} {xs : List Value} {L : List HP} {w : World} (h : Sat (Own T sz (.slice p n c) n xs :: L) w) : n ≤ c := by
  rcases (sat_own h).2.2 with ⟨q, h1, h2⟩ | ⟨g, cap, cur, h1, _, h3, _⟩
  · omega
  · cases h1; exact h3
theorem qu_sat {L : List HP} {w : World} (h : Sat (QuB T e b room l :: L) w) : ∃ p c, ∃ ps : List QP, (ps.map (·.1) = l ∧ (ps.length : Int) ≤ room ∧ room ≤ 16 ∧ (∀ p ∈ ps, p.1.sends.length ≤ p.2.2 ∧ p.1.sends.length ≤ 1000) ∧ ps.length ≤ c) ∧
    Sat (Cells b T [.int .i64 room, .slice p ps.length c] :: Own e 17 (.slice p ps.length c) ps.length (flat qc ps) :: All (ps.map qrd) :: L) w := by
  obtain ⟨⟨⟨p, c⟩, ps⟩, hx⟩ := star_ex h
  simp only [app] at hx
  have hf := fact_of (star_drop (star_drop (star_drop hx)))
  have hx2 : Sat (Cells b T [.int .i64 room, .slice p ps.length c] :: Own e 17 (.slice p ps.length c) ps.length (flat qc ps) :: All (ps.map qrd) :: L) w := (Ent.cons (Ent.cons (Ent.cons (Ent.drop Ent.refl)))) _ hx
  exact ⟨p, c, ps, ⟨hf.1, hf.2.1, hf.2.2.1, hf.2.2.2, own_cap (sat_tail hx2)⟩, hx2⟩
variable {P : Program} {N : Nat} {env : Env} {L : List HP} {Q : Exit → Act → World → Prop}
theorem qu_open {c : Code} (h : ∀ p c0, ∀ ps : List QP, (ps.map (·.1) = l ∧ (ps.length : Int) ≤ room ∧ room ≤ 16 ∧ (∀ p ∈ ps, p.1.sends.length ≤ p.2.2 ∧ p.1.sends.length ≤ 1000) ∧ ps.length ≤ c0) → WC P N c env (Cells b T [.int .i64 room, .slice p ps.length c0] :: Own e 17 (.slice p ps.length c0) ps.length (flat qc ps) :: All (ps.map qrd) :: L) Q) : WC P N c env (QuB T e b room l :: L) Q := by
  intro a w ha hw
  obtain ⟨p, c0, ps, hf, hx⟩ := qu_sat hw
  exact h p c0 ps hf a w ha hx
theorem qu_openO {all : Array Oper} {c : List Oper} (h : ∀ p c0, ∀ ps : List QP, (ps.map (·.1) = l ∧ (ps.length : Int) ≤ room ∧ room ≤ 16 ∧ (∀ p ∈ ps, p.1.sends.length ≤ p.2.2 ∧ p.1.sends.length ≤ 1000) ∧ ps.length ≤ c0) → WO P N all c env (Cells b T [.int .i64 room, .slice p ps.length c0] :: Own e 17 (.slice p ps.length c0) ps.length (flat qc ps) :: All (ps.map qrd) :: L) Q) : WO P N all c env (QuB T e b room l :: L) Q := by
  intro a w ha hw
  obtain ⟨p, c0, ps, hf, hx⟩ := qu_sat hw
  exact h p c0 ps hf a w ha hx
end
theorem all_add0 {ps : List QP} {m : Msg} {st : Bool} {a : Option Addr} {c : Nat} {L M : List HP} (h : Ent L (All (ps.map qrd) :: M)) : Ent L (All ((ps ++ [((⟨m, st, []⟩ : QE), (a, c))]).map qrd) :: M) :=
  Ent.trans h (Ent.trans rds_nil (all_add (f := qrd) ((⟨m, st, []⟩ : QE), (a, c))))
/-- One is changed, and has other things to send. -/
theorem all_set {ps : List QP} {i : Nat} (hi : i < ps.length) {x : QP} {T : TypeId} {L M : List HP} (h : Ent L (Own T 15 (.slice x.2.1 x.1.sends.length x.2.2) x.1.sends.length (flat mc x.1.sends) :: All (ps.map qrd) :: M)) : Ent L (All ((ps.set i x).map qrd) :: M) :=
  Ent.trans h (Ent.trans own_rds (Ent.trans (Ent.cons (all_erase i)) (all_put (f := qrd) i hi x)))
theorem all_era {ps : List QP} {i : Nat} {L M : List HP} (h : Ent L (All (ps.map qrd) :: M)) : Ent L (All ((ps.eraseIdx i).map qrd) :: M) := Ent.trans h (all_erase i)
/-- The first one of what one has to send is sent. -/
theorem all_tail {ps : List QP} {i : Nat} (hi : i < ps.length) {x : QP} {L M : List HP} (hn : 0 < ps[i].1.sends.length) (hc : ps[i].1.sends.length ≤ ps[i].2.2) (h1 : x.1.sends = ps[i].1.sends.drop 1)
    (h2 : qsl x = cut (qsl ps[i]) 1 ps[i].1.sends.length ps[i].1.sends.length 15) (h : Ent L (All (ps.map qrd) :: M)) : Ent L (All ((ps.set i x).map qrd) :: M) := by
  refine Ent.trans h (Ent.trans (all_take (f := qrd) i hi) (Ent.trans (rds_cut (l := 1) (h := ps[i].1.sends.length) (m := ps[i].1.sends.length) (by omega) (Nat.le_refl _) (Nat.le_refl _)) (Ent.trans ?_ (all_put (f := qrd) i hi x))))
  have e1 : ((flat mc ps[i].1.sends).drop (1 * 15)).take ((ps[i].1.sends.length - 1) * 15) = flat mc x.1.sends := by
    rw [flat_drop (enc := mc) (n := 15) (fun _ => rfl), flat_take (enc := mc) (n := 15) (fun _ => rfl), h1, List.take_of_length_le (by simp)]
  have e2 : x.1.sends.length = ps[i].1.sends.length - 1 := by rw [h1]; simp
  rw [e1]
  unfold qrd
  have h2' : Value.slice x.2.1 x.1.sends.length x.2.2 = cut (qsl ps[i]) 1 ps[i].1.sends.length ps[i].1.sends.length 15 := h2
  rw [h2', e2]
  exact Ent.refl
theorem qadd_in {T e : TypeId} {b : Nat} {room : Int} {ps : List QP} {m : Msg} {n : Nat} {p : Option Addr} {c : Nat} {xs : List Value} {L M : List HP}
    (h : Ent L (Cells b T [.int .i64 room, .slice p n c] :: Own e 17 (.slice p n c) n xs :: All (ps.map qrd) :: M)) (hn : n = ps.length + 1) (hx : xs = flat qc ps ++ qc ((⟨m, false, []⟩ : QE), (none, 0))) (h1 : (ps.length : Int) ≤ room) (h0 : ¬ (ps.length : Int) = room) (h2 : room ≤ 16) (h3 : ∀ p ∈ ps, p.1.sends.length ≤ p.2.2 ∧ p.1.sends.length ≤ 1000) :
    Ent L (QuB T e b room (ps.map (·.1) ++ [⟨m, false, []⟩]) :: M) := by
  refine qu_in (ps := ps ++ [((⟨m, false, []⟩ : QE), (none, 0))]) (Ent.trans h (Ent.cons (Ent.cons (all_add0 Ent.refl)))) (by simp) (by simp [hn]) (by rw [hx, flat_append, flat_one]) (by simp; omega) h2 ?_
  intro p hp
  rcases List.mem_append.1 hp with h | h
  · exact h3 p h
  · rw [List.mem_singleton.1 h]; simp
/-- The first ones of what is owned can be read. -/
theorem rd_low {T : TypeId} {p : Option Addr} {c i : Nat} {ps : List QP} (hi : i ≤ ps.length) (hc : ps.length ≤ c) (L : List HP) : RdL (Own T 17 (.slice p ps.length c) ps.length (flat qc ps) :: L) 17 (cut (.slice p ps.length c) 0 i c 17) (ps.take i).length (flat qc (ps.take i)) := by
  have k0 : RdL (Own T 17 (.slice p ps.length c) ps.length (flat qc ps) :: L) 17 (.slice p ps.length c) ps.length (flat qc ps) := RdL.own
  have k := RdL.cut (m := c) k0 (Nat.zero_le i) hi (by omega)
  have e : ((flat qc ps).drop (0 * 17)).take ((i - 0) * 17) = flat qc (ps.take i) := by
    rw [Nat.zero_mul, List.drop_zero, Nat.sub_zero, flat_take (enc := qc) (n := 17) (fun _ => rfl)]
  rw [e] at k
  have e2 : (ps.take i).length = i - 0 := by rw [List.length_take]; omega
  rw [e2]; exact k
theorem WE_owncap {T : TypeId} {sz n c : Nat} {p : Option Addr} {xs : List Value} {N : Nat} {x : Exit} {env : Env} {L : List HP} {Q : Exit → Act → World → Prop} (h : n ≤ c → WE N x env (Own T sz (.slice p n c) n xs :: L) Q) : WE N x env (Own T sz (.slice p n c) n xs :: L) Q :=
  fun a w ha hw => h (own_cap hw) a w ha hw
theorem WO_owncap {T : TypeId} {sz n c : Nat} {p : Option Addr} {xs : List Value} {P : Program} {N : Nat} {all : Array Oper} {o : List Oper} {env : Env} {L : List HP} {Q : Exit → Act → World → Prop} (h : n ≤ c → WO P N all o env (Own T sz (.slice p n c) n xs :: L) Q) : WO P N all o env (Own T sz (.slice p n c) n xs :: L) Q :=
  fun a w ha hw => h (own_cap hw) a w ha hw
/-- What can be read of one of many. -/
theorem rd_all {ps : List QP} {p : QP} (hp : p ∈ ps) {L : List HP} : RdL (All (ps.map qrd) :: L) 15 (qsl p) p.1.sends.length (flat mc p.1.sends) := by
  obtain ⟨i, hi, rfl⟩ := List.getElem_of_mem hp
  have k : RdL (qrd ps[i] :: All ((ps.eraseIdx i).map qrd) :: L) 15 (qsl ps[i]) ps[i].1.sends.length (flat mc ps[i].1.sends) := RdL.rds
  have e := all_take (f := qrd) (L := L) i hi
  exact ⟨fun w h => k.len w (e.sat h), fun w h => k.ones w (e.sat h), fun w h => k.pf w (e.sat h)⟩

/-- What each has to send can be read. -/
class RdAll (L : List HP) (ps : List QP) : Prop where
  pf : ∀ p ∈ ps, RdL L 15 (qsl p) p.1.sends.length (flat mc p.1.sends)
instance (priority := high) RdAll.here {ps : List QP} {L : List HP} : RdAll (All (ps.map qrd) :: L) ps := ⟨fun p hp => rd_all hp⟩
instance RdAll.there {ps : List QP} {q : HP} {L : List HP} [k : RdAll L ps] : RdAll (q :: L) ps := ⟨fun p hp => by haveI := k.pf p hp; exact RdL.there⟩

/-! ## What they do, told of lists -/
def qinit : List QE := []
def qaddE (room : Int) (l : List QE) (m : Msg) : Int := if m.kind < 1 ∨ m.kind > 3 then 1 else if (l.length : Int) = room then 4 else 0
def qaddL (room : Int) (l : List QE) (m : Msg) : List QE := if qaddE room l m = 0 then l ++ [⟨m, false, []⟩] else l
def qin (l : List QE) (n : Int) : Bool := decide (0 ≤ n ∧ n < l.length)
def qat (l : List QE) (n : Int) : QE := if qin l n then l.getD n.toNat ⟨.zero, false, []⟩ else ⟨.zero, false, []⟩
def qfree (l : List QE) (n : Nat) (line : Int) : Bool := (l.take n).all fun e => !decide (e.m.line = line)
def qready (l : List QE) (n : Int) : Bool := qin l n && !(qat l n).st && qfree l n.toNat (qat l n).m.line
def qstartE (l : List QE) (n : Int) (s : List Msg) : Int := if qin l n then (if qready l n && decide (s.length ≠ 0) then 0 else 7) else 5
def qstartL (l : List QE) (n : Int) (s : List Msg) : List QE := if qstartE l n s = 0 then l.set n.toNat { qat l n with st := true, sends := s } else l
def qnextB (l : List QE) (n : Int) : Bool := qin l n && decide ((qat l n).sends.length ≠ 0)
def qnextM (l : List QE) (n : Int) : Msg := if qnextB l n then (qat l n).sends.headD .zero else .zero
def qsentE (l : List QE) (n : Int) : Int := if qin l n then (if (qat l n).sends.length = 0 then 7 else 0) else 5
def qsentL (l : List QE) (n : Int) : List QE :=
  if qsentE l n = 0 then (if (qat l n).sends.length = 1 ∧ (qat l n).m.kind = 3 then l.eraseIdx n.toNat else l.set n.toNat { qat l n with sends := (qat l n).sends.drop 1 }) else l
def qgone (line src : Int) (e : QE) : Bool := e.st && decide (e.m.line = line) && decide (e.m.src = src) && !decide (e.m.kind = 3) && decide (e.sends.length = 0)
def qfinE (l : List QE) (line src : Int) : Int := if indexBy (qgone line src) l < 0 then 7 else 0
def qfinL (l : List QE) (line src : Int) : List QE := if indexBy (qgone line src) l < 0 then l else l.eraseIdx (indexBy (qgone line src) l).toNat
end Go.Sx

/- Queues as lists: what holds of them whatever is done. My own work; names no program. -/
namespace Go.Sx
open Go Go.Proofs
set_option linter.unusedVariables false
set_option linter.unusedSimpArgs false

/-! ## What is done -/
structure QIn where
  d : Int
  n : Int
  m : Msg
  sends : List Msg
def qdoL (room : Int) (l : List QE) (x : QOp) : List QE := if x.d = 0 then qaddL room l x.m else if x.d = 1 then qstartL l x.n x.sends else if x.d = 2 then qsentL l x.n else qfinL l x.m.line x.m.src
def qdoM (l : List QE) (x : QOp) : Msg := if x.d = 0 then .zero else if x.d = 1 then .zero else if x.d = 2 then qnextM l x.n else .zero
def qdoB (l : List QE) (x : QOp) : Bool := if x.d = 0 then false else if x.d = 1 then false else if x.d = 2 then qnextB l x.n else false
def qdoE (room : Int) (l : List QE) (x : QOp) : Int := if x.d = 0 then qaddE room l x.m else if x.d = 1 then qstartE l x.n x.sends else if x.d = 2 then qsentE l x.n else qfinE l x.m.line x.m.src

/-- What holds of a queue's entries: one that is started is the first one of its line; one that isn't has nothing to send. -/
def QInv (l : List QE) : Prop := (∀ i j (hi : i < l.length) (hj : j < l.length), i < j → l[i].m.line = l[j].m.line → l[j].st = false) ∧ ∀ e ∈ l, e.st = false → e.sends = []

theorem qinv_nil : QInv [] := ⟨fun i j hi => by simp at hi, fun e he => by simp at he⟩
theorem qinv_add {l : List QE} {m : Msg} (h : QInv l) : QInv (l ++ [⟨m, false, []⟩]) := by
  refine ⟨fun i j hi hj hij he => ?_, fun e he hs => ?_⟩
  · by_cases hjl : j < l.length
    · have hil : i < l.length := by omega
      rw [List.getElem_append_left hil, List.getElem_append_left hjl] at he
      rw [List.getElem_append_left hjl]
      exact h.1 i j hil hjl hij he
    · rw [List.getElem_append_right (by omega)]
      simp
  · rcases List.mem_append.1 he with h1 | h1
    · exact h.2 e h1 hs
    · rw [List.mem_singleton.1 h1]
theorem getElem_eraseIdx' {l : List QE} {k i : Nat} (hi : i < (l.eraseIdx k).length) : ∃ h : (if i < k then i else i + 1) < l.length, (l.eraseIdx k)[i] = l[if i < k then i else i + 1] := by
  have hlen := List.length_eraseIdx (l := l) (i := k)
  refine ⟨?_, ?_⟩
  · split at hlen <;> split <;> omega
  · rw [List.getElem_eraseIdx]; split <;> rename_i h <;> simp [h]
theorem qinv_erase {l : List QE} {k : Nat} (h : QInv l) : QInv (l.eraseIdx k) := by
  refine ⟨fun i j hi hj hij he => ?_, fun e he hs => h.2 e (List.mem_of_mem_eraseIdx he) hs⟩
  obtain ⟨a, ea⟩ := getElem_eraseIdx' hi
  obtain ⟨b, eb⟩ := getElem_eraseIdx' hj
  rw [ea, eb] at he
  rw [eb]
  refine h.1 _ _ a b ?_ he
  split <;> split <;> omega
/-- One entry is changed: its message stays; it is started, and the first one of its line. -/
theorem qinv_set {l : List QE} {k : Nat} {e : QE} (hk : k < l.length) (h : QInv l) (hm : e.m = l[k].m) (hs : e.st = true) (hf : ∀ i (hi : i < l.length), i < k → l[i].m.line ≠ l[k].m.line)
    (ho : ∀ j (hj : j < l.length), k < j → l[j].m.line = l[k].m.line → l[j].st = false) : QInv (l.set k e) := by
  have hmm : ∀ i (hi : i < (l.set k e).length), (l.set k e)[i].m = (l[i]'(by simpa using hi)).m := by
    intro i hi
    rw [List.getElem_set]; split
    · rename_i h; subst h; exact hm
    · rfl
  refine ⟨fun i j hi hj hij he => ?_, fun x hx hxs => ?_⟩
  · have hi' : i < l.length := by simpa using hi
    have hj' : j < l.length := by simpa using hj
    rw [hmm i hi, hmm j hj] at he
    rw [List.getElem_set]
    split
    · rename_i hkj; subst hkj
      exact absurd he (hf i hi' hij)
    · exact h.1 i j hi' hj' hij he
  · rcases List.mem_or_eq_of_mem_set hx with h1 | h1
    · exact h.2 x h1 hxs
    · subst h1; rw [hs] at hxs; cases hxs

theorem qin_t {l : List QE} {n : Int} (h : qin l n = true) : ∃ i : Nat, ∃ hi : i < l.length, n = i ∧ qat l n = l[i] := by
  have h0 := of_decide_eq_true h
  refine ⟨n.toNat, by omega, by omega, ?_⟩
  have hi : n.toNat < l.length := by omega
  simp [qat, h, hi]
theorem qready_t {l : List QE} {n : Int} (h : qready l n = true) : ∃ i : Nat, ∃ hi : i < l.length, n = i ∧ qat l n = l[i] ∧ l[i].st = false ∧ ∀ j (hj : j < l.length), j < i → l[j].m.line ≠ l[i].m.line := by
  simp only [qready, Bool.and_eq_true, Bool.not_eq_true'] at h
  obtain ⟨⟨h1, h2⟩, h3⟩ := h
  obtain ⟨i, hi, rfl, e⟩ := qin_t h1
  rw [e] at h2 h3
  refine ⟨i, hi, rfl, e, h2, fun j hj hji => ?_⟩
  simp only [qfree, Int.toNat_natCast, List.all_eq_true] at h3
  have := h3 l[j] (by rw [List.mem_iff_getElem]; exact ⟨j, by simp; omega, by simp⟩)
  simpa using this

theorem qinv_do {room : Int} {l : List QE} {x : QOp} (h : QInv l) : QInv (qdoL room l x) := by
  unfold qdoL
  split
  · unfold qaddL; split
    · exact qinv_add h
    · exact h
  · split
    · unfold qstartL; split
      · rename_i hs
        unfold qstartE at hs
        split at hs
        · split at hs
          · rename_i hr
            obtain ⟨hr, _⟩ := Bool.and_eq_true_iff.1 hr
            obtain ⟨i, hi, e1, e2, e3, e4⟩ := qready_t hr
            rw [e2, e1, Int.toNat_natCast]
            exact qinv_set hi h rfl rfl e4 fun j hj hij he => h.1 i j hi hj hij he.symm
          · cases hs
        · cases hs
      · exact h
    · split
      · unfold qsentL; split
        · rename_i hs
          unfold qsentE at hs
          split at hs
          · rename_i hin
            obtain ⟨i, hi, e1, e2⟩ := qin_t hin
            split at hs
            · cases hs
            · rename_i hn
              rw [e2] at hn ⊢
              split
              · exact qinv_erase h
              · rw [e1, Int.toNat_natCast]
                have hst : l[i].st = true := by
                  cases hc : l[i].st with
                  | true => rfl
                  | false => exact absurd (by rw [h.2 _ (List.getElem_mem hi) hc]; rfl) hn
                refine qinv_set hi h rfl hst (fun j hj hji he => ?_) fun j hj hij he => h.1 i j hi hj hij he.symm
                have := h.1 j i hj hi hji he
                rw [hst] at this; cases this
          · cases hs
        · exact h
      · unfold qfinL; split
        · exact h
        · exact qinv_erase h

theorem qroom_do {room : Int} {l : List QE} {x : QOp} (h : (l.length : Int) ≤ room) : ((qdoL room l x).length : Int) ≤ room := by
  unfold qdoL
  split
  · unfold qaddL; split
    · rename_i hs
      unfold qaddE at hs
      split at hs
      · cases hs
      · split at hs
        · cases hs
        · simp; omega
    · exact h
  · split
    · unfold qstartL; split <;> simp [h]
    · split
      · unfold qsentL; split
        · split
          · have := List.length_eraseIdx_le l x.n.toNat; omega
          · simpa using h
        · exact h
      · unfold qfinL; split
        · exact h
        · have := List.length_eraseIdx_le l (indexBy (qgone x.m.line x.m.src) l).toNat; omega
end Go.Sx
