/- Shp, May: several of my texts as one. My own work. -/
import Derived.Test.YtlaohgngdaglmaaData
import Derived.Test.YtlaohgngdaglmaaZac
/- What the functions of package shape do, and the document's. My own work. -/
namespace Go.Sx
open Go Go.Proofs
set_option linter.unusedVariables false
set_option maxRecDepth 100000
set_option maxHeartbeats 4000000
attribute [local irreducible] Go.Exit.then Go.Exit.inBlock Go.Code.wp WC WO WE WQ V LoopQ FnQ Sat Star band bor IntKind.wrap WR Code.rounds WT KO



theorem shape_Power {F : List HP} {n : Int} (hn : I64 n) : FnF Try.prog 112 [.int .i64 n] [] F (fun r L' => r = (.tuple [.int .i64 (powK n), .bool (powB n)].toArray) ∧ L' = []) := by
  unfold I64 at hn
  refine FnF.mk' Try.func112 rfl rfl Try.ntmps112 rfl ?_
  by_cases h : n < 1
  · have e : powOf n = none := by
      cases e : powOf n with
      | none => rfl
      | some k => have := powOf_some e; have h0 : (0 : Int) < 2 ^ k := Int.pow_pos (by omega); omega
    have e1 : powK n = 0 := by simp [powK, e]
    have e2 : powB n = false := by simp [powB, e]
    clear e
    repeat (first | rintro _ _ ⟨rfl, rfl⟩ | refine exq fun _ => ?_ | intro _ | refine go ?_ | refine drq ?_)
    (apply WE_ret rfl rfl (by (repeat (first | exact ResOk.nil | (apply ResOk.tmp; rfl) | (apply resOk_cell; rfl; exact inferInstance; rfl; rfl)))))
    · rw [e1, e2]; exact ⟨rfl, rfl⟩
    · exact entu0
  · cases e : powOf n with
    | none =>
      have hb := band_nopow (by omega) hn.2 e
      have e1 : powK n = 0 := by simp [powK, e]
      have e2 : powB n = false := by simp [powB, e]
      clear e
      repeat (first | rintro _ _ ⟨rfl, rfl⟩ | refine exq fun _ => ?_ | intro _ | refine go ?_ | refine drq ?_)
      (apply WE_ret rfl rfl (by (repeat (first | exact ResOk.nil | (apply ResOk.tmp; rfl) | (apply resOk_cell; rfl; exact inferInstance; rfl; rfl)))))
      · rw [e1, e2]; exact ⟨rfl, rfl⟩
      · exact entu0
    | some m =>
      obtain ⟨hm, rfl⟩ := powOf_some e
      have hb := band_pow hm
      have e1 : powK (2 ^ m) = m := by simp [powK, e]
      have e2 : powB (2 ^ m) = true := by simp [powB, e]
      clear e
      repeat (first | rintro _ _ ⟨rfl, rfl⟩ | refine exq fun _ => ?_ | intro _ | refine go ?_ | refine drq ?_)
      apply WC_loop (fun k : Nat => [(0, .int .i64 (2 ^ m)), (4, .int .i64 (k : Int))]) (fun _ => F) (fun k => k ≤ m) (fun k => m - k) 0
      · omega
      · exact Sub.cons rfl (Sub.cons rfl Sub.nil)
      · exact entu0
      · intro k hk
        have hf := fdiv_pow hk
        have hmin : min ((k : Int)).toNat IntKind.i64.bits = k := by simp [IntKind.bits]; omega
        repeat (first | rintro _ _ ⟨rfl, rfl⟩ | refine exq fun _ => ?_ | intro _ | refine go ?_ | refine drq ?_)
        rw [hmin, hf]
        by_cases hlt : k < m
        · have : (1 : Int) < 2 ^ (m - k) := by
            have : (2 : Nat) ^ 1 ≤ 2 ^ (m - k) := Nat.pow_le_pow_right (by omega) (by omega)
            have : ((2 ^ 1 : Nat) : Int) ≤ ((2 ^ (m - k) : Nat) : Int) := by exact_mod_cast this
            simp at this; omega
          repeat (first | rintro _ _ ⟨rfl, rfl⟩ | refine exq fun _ => ?_ | intro _ | refine go ?_ | refine drq ?_)
          refine WE_loop (k + 1) (by omega) (by omega) (Sub.cons rfl (Sub.cons rfl Sub.nil)) Ent.refl
        · obtain rfl : k = m := by omega
          have : ¬ (1 : Int) < 2 ^ (k - k) := by simp
          repeat (first | rintro _ _ ⟨rfl, rfl⟩ | refine exq fun _ => ?_ | intro _ | refine go ?_ | refine drq ?_)
          (apply WE_ret rfl rfl (by (repeat (first | exact ResOk.nil | (apply ResOk.tmp; rfl) | (apply resOk_cell; rfl; exact inferInstance; rfl; rfl)))))
          · rw [e1, e2]; exact ⟨rfl, rfl⟩
          · exact entu0

theorem shape_fits {F : List HP} {n l m : Int} {p : Bool} (hn : I64 n) : FnF Try.prog 94 [.agg [.int .i64 n, .int .i64 l, .int .i64 m, .bool p].toArray] [] F (fun r L' => r = (.bool (fitsB n l m p)) ∧ L' = []) := by
  refine FnF.mk' Try.func94 rfl rfl Try.ntmps94 rfl ?_
  cases p
  · repeat' (first | rintro _ _ ⟨rfl, rfl⟩ | refine exq fun _ => ?_ | intro _ | refine go ?_ | refine drq ?_ | refine spl ?_ ?_ | fail)
    all_goals (apply WE_ret rfl rfl (by (repeat (first | exact ResOk.nil | (apply ResOk.tmp; rfl) | (apply resOk_cell; rfl; exact inferInstance; rfl; rfl)))); (exact ⟨by first | (simp_all [fitsB]; done) | (simp_all [fitsB]; omega), rfl⟩); (repeat (first | exact Ent.refl | exact Ent.nil | apply Ent.pick | apply Ent.drop)))
  · repeat (first | rintro _ _ ⟨rfl, rfl⟩ | refine exq fun _ => ?_ | intro _ | refine go ?_ | refine drq ?_)
    repeat (first | rintro _ _ ⟨rfl, rfl⟩ | refine exq fun _ => ?_ | intro _ | refine go ?_ | refine drq ?_ | refine cal @shape_Power ?_)
    cases h : powB n
    all_goals repeat' (first | rintro _ _ ⟨rfl, rfl⟩ | refine exq fun _ => ?_ | intro _ | refine go ?_ | refine drq ?_ | refine spl ?_ ?_ | fail)
    all_goals (apply WE_ret rfl rfl (by (repeat (first | exact ResOk.nil | (apply ResOk.tmp; rfl) | (apply resOk_cell; rfl; exact inferInstance; rfl; rfl)))); (exact ⟨by first | (simp_all [fitsB]; done) | (simp_all [fitsB]; omega), rfl⟩); (repeat (first | exact Ent.refl | exact Ent.nil | apply Ent.pick | apply Ent.drop)))

def bnds (c : Cfg) : List (Int × Int × Int × Bool) := [(c.cores, 1, 64, false), (c.homes, 1, 16, true), (c.sets, 1, 64, true), (c.words, 1, 8, true), (c.lines, 1, 1024, true), (c.ways, 1, 8, false),
  (c.pointers, 0, 8, false), (c.mshrs, 1, 8, false), (c.buffer, 1, 16, false), (c.writebacks, 1, 8, false), (c.r0, 1, 64, false), (c.r1, 1, 64, false), (c.r2, 1, 64, false)]
def encBnd (b : Int × Int × Int × Bool) : List Value := [.int .i64 b.1, .int .i64 b.2.1, .int .i64 b.2.2.1, .bool b.2.2.2]
theorem checkB_all (c : Cfg) : checkB c = (bnds c).all (fun b => fitsB b.1 b.2.1 b.2.2.1 b.2.2.2) := by
  simp [checkB, bnds, Bool.and_assoc]
theorem bnds_wf (c : Cfg) (hc : c.wf) : ∀ b ∈ bnds c, I64 b.1 := by
  intro b hb
  obtain ⟨h1, h2, h3, h4, h5, h6, h7, h8, h9, h10, h11, h12, h13⟩ := hc
  simp only [bnds, List.mem_cons, List.not_mem_nil, or_false] at hb
  rcases hb with rfl | rfl | rfl | rfl | rfl | rfl | rfl | rfl | rfl | rfl | rfl | rfl | rfl <;> assumption

theorem shape_Check {F : List HP} {c : Cfg} (hc : c.wf) : FnF Try.prog 57 [c.val] [] F (fun r L' => r = (.int .i64 (checkE c)) ∧ L' = []) := by
  refine FnF.mk' Try.func57 rfl rfl Try.ntmps57 rfl ?_
  repeat (first | rintro _ _ ⟨rfl, rfl⟩ | refine exq fun _ => ?_ | intro _ | refine go ?_ | refine drq ?_)
  apply WC_loop (fun j : Nat => [(50, .int .i64 (j : Int)), (49, .agg (flat encBnd (bnds c)).toArray)]) (fun _ => F) (fun j => j ≤ 13 ∧ ∀ i (h : i < (bnds c).length), i < j → fitsB (bnds c)[i].1 (bnds c)[i].2.1 (bnds c)[i].2.2.1 (bnds c)[i].2.2.2 = true) (fun j => 13 - j) 0
  · exact ⟨by omega, fun i h hi => by omega⟩
  · exact Sub.cons rfl (Sub.cons rfl Sub.nil)
  · exact entu0
  · rintro j ⟨hj, hall⟩
    by_cases hlt : j < 13
    · have hlen : j < (bnds c).length := hlt
      have hs := sub_flat (enc := encBnd) (n := 4) (fun _ => rfl) (bnds c) j hlen
      repeat (first | rintro _ _ ⟨rfl, rfl⟩ | refine exq fun _ => ?_ | intro _ | refine go ?_ | refine drq ?_)
      refine WO_v (v_index_array rfl rfl (by omega) (by omega) hs rfl) rfl ?_
      have hwf := bnds_wf c hc _ (List.getElem_mem hlen)
      generalize hb : (bnds c)[j] = b at hwf
      repeat (first | rintro _ _ ⟨rfl, rfl⟩ | refine exq fun _ => ?_ | intro _ | refine go ?_ | refine drq ?_)
      repeat (first | rintro _ _ ⟨rfl, rfl⟩ | refine exq fun _ => ?_ | intro _ | refine go ?_ | refine drq ?_ | refine cal @shape_fits ?_)
      cases hf : fitsB b.1 b.2.1 b.2.2.1 b.2.2.2
      · repeat (first | rintro _ _ ⟨rfl, rfl⟩ | refine exq fun _ => ?_ | intro _ | refine go ?_ | refine drq ?_)
        have e : checkB c = false := by
          rw [checkB_all, List.all_eq_false]
          exact ⟨_, List.getElem_mem hlen, by simp [hb, hf]⟩
        (apply WE_ret rfl rfl (by (repeat (first | exact ResOk.nil | (apply ResOk.tmp; rfl) | (apply resOk_cell; rfl; exact inferInstance; rfl; rfl)))); (exact ⟨by first | (simp [checkE, e]; done) | (simp [checkE, e]; omega), rfl⟩); (repeat (first | exact Ent.refl | exact Ent.nil | apply Ent.pick | apply Ent.drop)))
      · repeat (first | rintro _ _ ⟨rfl, rfl⟩ | refine exq fun _ => ?_ | intro _ | refine go ?_ | refine drq ?_)
        refine WE_loop (j + 1) (by omega) ⟨by omega, fun i h hi => ?_⟩ (Sub.cons rfl (Sub.cons rfl Sub.nil)) ?_
        · by_cases hij : i = j
          · subst hij; rw [hb]; exact hf
          · exact hall i h (by omega)
        · exact entu0
    · obtain rfl : j = 13 := by omega
      have e : checkB c = true := by
        rw [checkB_all, List.all_eq_true]
        intro b hb
        obtain ⟨i, hi, rfl⟩ := List.getElem_of_mem hb
        exact hall i hi hi
      repeat (first | rintro _ _ ⟨rfl, rfl⟩ | refine exq fun _ => ?_ | intro _ | refine go ?_ | refine drq ?_)
      (apply WE_ret rfl rfl (by (repeat (first | exact ResOk.nil | (apply ResOk.tmp; rfl) | (apply resOk_cell; rfl; exact inferInstance; rfl; rfl)))); (exact ⟨by first | (simp [checkE, e]; done) | (simp [checkE, e]; omega), rfl⟩); (repeat (first | exact Ent.refl | exact Ent.nil | apply Ent.pick | apply Ent.drop)))


theorem powB_pos {n : Int} (h : powB n = true) : ∃ k, k < 63 ∧ n = 2 ^ k := by
  unfold powB at h
  cases e : powOf n with
  | none => simp [e] at h
  | some k => exact ⟨k, powOf_some e⟩

theorem check_words {c : Cfg} (h : checkB c = true) : 1 ≤ c.words ∧ c.words ≤ 8 ∧ 1 ≤ c.lines ∧ c.lines ≤ 1024 := by
  simp only [checkB, fitsB, Bool.and_eq_true, decide_eq_true_eq] at h
  omega

theorem mul_bd {a b m n : Int} (h1 : 0 ≤ a) (h2 : a ≤ m) (h3 : 0 ≤ b) (h4 : b ≤ n) (hn : 0 ≤ n) : 0 ≤ a * b ∧ a * b ≤ m * n :=
  ⟨Int.mul_nonneg h1 h3, Int.le_trans (Int.mul_le_mul_of_nonneg_right h2 h3) (Int.mul_le_mul_of_nonneg_left h4 (by omega))⟩

theorem shape_Size {F : List HP} {c : Cfg} (hc : c.wf) : FnF Try.prog 58 [c.val] [] F (fun r L' => r = (.int .i64 (sizeOf' c)) ∧ L' = []) := by
  refine FnF.mk' Try.func58 rfl rfl Try.ntmps58 rfl ?_
  repeat (first | rintro _ _ ⟨rfl, rfl⟩ | refine exq fun _ => ?_ | intro _ | refine go ?_ | refine drq ?_)
  repeat (first | rintro _ _ ⟨rfl, rfl⟩ | refine exq fun _ => ?_ | intro _ | refine go ?_ | refine drq ?_ | refine cal @shape_Check ?_)
  cases e : checkB c
  · have e1 : checkE c = 1 := by simp [checkE, e]
    repeat (first | rintro _ _ ⟨rfl, rfl⟩ | refine exq fun _ => ?_ | intro _ | refine go ?_ | refine drq ?_)
    (apply WE_ret rfl rfl (by (repeat (first | exact ResOk.nil | (apply ResOk.tmp; rfl) | (apply resOk_cell; rfl; exact inferInstance; rfl; rfl)))); (exact ⟨by first | (simp [sizeOf', e]; done) | (simp [sizeOf', e]; omega), rfl⟩); (repeat (first | exact Ent.refl | exact Ent.nil | apply Ent.pick | apply Ent.drop)))
  · have e1 : checkE c = 0 := by simp [checkE, e]
    have hw := check_words e
    have hm := mul_bd (m := 8) (n := 1024) (a := c.words) (b := c.lines) (by omega) (by omega) (by omega) (by omega) (by omega)
    repeat (first | rintro _ _ ⟨rfl, rfl⟩ | refine exq fun _ => ?_ | intro _ | refine go ?_ | refine drq ?_)
    (apply WE_ret rfl rfl (by (repeat (first | exact ResOk.nil | (apply ResOk.tmp; rfl) | (apply resOk_cell; rfl; exact inferInstance; rfl; rfl)))); (exact ⟨by first | (simp [sizeOf', e]; done) | (simp [sizeOf', e]; omega), rfl⟩); (repeat (first | exact Ent.refl | exact Ent.nil | apply Ent.pick | apply Ent.drop)))

theorem ref01_Power {F : List HP} {n : Int} (hn : I64 n) : FnF Try.prog 95 [.int .i64 n] [] F (fun r L' => r = (.tuple [.int .i64 (powK n), .bool (powB n)].toArray) ∧ L' = []) := by
  unfold I64 at hn
  refine FnF.mk' Try.func95 rfl rfl Try.ntmps95 rfl ?_
  repeat (first | rintro _ _ ⟨rfl, rfl⟩ | refine exq fun _ => ?_ | intro _ | refine go ?_ | refine drq ?_)
  apply WC_loop (fun k : Nat => [(0, .int .i64 n), (5, .int .i64 (k : Int)), (4, .int .i64 (IntKind.i64.wrap (2 ^ k)))]) (fun _ => F) (fun k => k ≤ 63 ∧ ∀ j, j < k → (2 : Int) ^ j ≠ n) (fun k => 64 - k) 0
  · exact ⟨by omega, fun j hj => by omega⟩
  · exact Sub.cons rfl (Sub.cons rfl (Sub.cons (by rw [show IntKind.i64.wrap ((2 : Int) ^ 0) = 1 from wrap_id (by decide) (by decide)]; rfl) Sub.nil))
  · exact entu0
  · rintro k ⟨hk, h1⟩
    by_cases hlt : k < 63
    · have hp := pow_lt63 hlt
      have h0 : (0 : Int) < 2 ^ k := Int.pow_pos (by omega)
      rw [wrap_id (n := (2 : Int) ^ k) (by omega) (by omega)]
      by_cases he : (2 : Int) ^ k = n
      · subst he
        have e1 : powK (2 ^ k) = k := by simp [powK, powOf_pow hlt]
        have e2 : powB (2 ^ k) = true := by simp [powB, powOf_pow hlt]
        repeat (first | rintro _ _ ⟨rfl, rfl⟩ | refine exq fun _ => ?_ | intro _ | refine go ?_ | refine drq ?_)
        (apply WE_ret rfl rfl (by (repeat (first | exact ResOk.nil | (apply ResOk.tmp; rfl) | (apply resOk_cell; rfl; exact inferInstance; rfl; rfl)))); (exact ⟨by first | (rw [e1, e2]; rfl; done) | (rw [e1, e2]; rfl; omega), rfl⟩); (repeat (first | exact Ent.refl | exact Ent.nil | apply Ent.pick | apply Ent.drop)))
      · repeat (first | rintro _ _ ⟨rfl, rfl⟩ | refine exq fun _ => ?_ | intro _ | refine go ?_ | refine drq ?_)
        refine WE_loop (k + 1) (by omega) ⟨by omega, fun j hj => ?_⟩ (Sub.cons rfl (Sub.cons rfl (Sub.cons ?_ Sub.nil))) ?_
        · by_cases e : j = k
          · subst e; exact he
          · exact h1 j (by omega)
        · rw [Int.pow_succ, Int.mul_comm]; rfl
        · exact entu0
    · obtain rfl : k = 63 := by omega
      have e : powOf n = none := by
        cases e : powOf n with
        | none => rfl
        | some k => obtain ⟨h2, h3⟩ := powOf_some e; exact absurd h3.symm (h1 k h2)
      have e1 : powK n = 0 := by simp [powK, e]
      have e2 : powB n = false := by simp [powB, e]
      repeat (first | rintro _ _ ⟨rfl, rfl⟩ | refine exq fun _ => ?_ | intro _ | refine go ?_ | refine drq ?_)
      (apply WE_ret rfl rfl (by (repeat (first | exact ResOk.nil | (apply ResOk.tmp; rfl) | (apply resOk_cell; rfl; exact inferInstance; rfl; rfl)))); (exact ⟨by first | (rw [e1, e2]; rfl; done) | (rw [e1, e2]; rfl; omega), rfl⟩); (repeat (first | exact Ent.refl | exact Ent.nil | apply Ent.pick | apply Ent.drop)))

theorem ref01_in {F : List HP} {n l h : Int} : FnF Try.prog 61 [.int .i64 n, .int .i64 l, .int .i64 h] [] F (fun r L' => r = (.bool (fitsB n l h false)) ∧ L' = []) := by
  refine FnF.mk' Try.func61 rfl rfl Try.ntmps61 rfl ?_
  repeat' (first | rintro _ _ ⟨rfl, rfl⟩ | refine exq fun _ => ?_ | intro _ | refine go ?_ | refine drq ?_ | refine spl ?_ ?_ | fail)
  all_goals (apply WE_ret rfl rfl (by (repeat (first | exact ResOk.nil | (apply ResOk.tmp; rfl) | (apply resOk_cell; rfl; exact inferInstance; rfl; rfl)))); (exact ⟨by first | (simp_all [fitsB]; done) | (simp_all [fitsB]; omega), rfl⟩); (repeat (first | exact Ent.refl | exact Ent.nil | apply Ent.pick | apply Ent.drop)))

theorem ref01_power {F : List HP} {n h : Int} (hn : I64 n) : FnF Try.prog 62 [.int .i64 n, .int .i64 h] [] F (fun r L' => r = (.bool (fitsB n 1 h true)) ∧ L' = []) := by
  refine FnF.mk' Try.func62 rfl rfl Try.ntmps62 rfl ?_
  repeat (first | rintro _ _ ⟨rfl, rfl⟩ | refine exq fun _ => ?_ | intro _ | refine go ?_ | refine drq ?_)
  repeat (first | rintro _ _ ⟨rfl, rfl⟩ | refine exq fun _ => ?_ | intro _ | refine go ?_ | refine drq ?_ | refine cal @ref01_Power ?_)
  have key : powB n = true → 1 ≤ n := fun e => by
    obtain ⟨k, hk, rfl⟩ := powB_pos e
    have : (0 : Int) < 2 ^ k := Int.pow_pos (by omega)
    omega
  cases e : powB n
  · repeat (first | rintro _ _ ⟨rfl, rfl⟩ | refine exq fun _ => ?_ | intro _ | refine go ?_ | refine drq ?_)
    (apply WE_ret rfl rfl (by (repeat (first | exact ResOk.nil | (apply ResOk.tmp; rfl) | (apply resOk_cell; rfl; exact inferInstance; rfl; rfl)))); (exact ⟨by first | (simp [fitsB, e]; done) | (simp [fitsB, e]; omega), rfl⟩); (repeat (first | exact Ent.refl | exact Ent.nil | apply Ent.pick | apply Ent.drop)))
  · have := key e
    repeat (first | rintro _ _ ⟨rfl, rfl⟩ | refine exq fun _ => ?_ | intro _ | refine go ?_ | refine drq ?_)
    (apply WE_ret rfl rfl (by (repeat (first | exact ResOk.nil | (apply ResOk.tmp; rfl) | (apply resOk_cell; rfl; exact inferInstance; rfl; rfl)))); (exact ⟨by first | (simp [fitsB, e, this]; done) | (simp [fitsB, e, this]; omega), rfl⟩); (repeat (first | exact Ent.refl | exact Ent.nil | apply Ent.pick | apply Ent.drop)))


theorem ref01_Check {F : List HP} {c : Cfg} (hc : c.wf) : FnF Try.prog 29 [c.val] [] F (fun r L' => r = (.int .i64 (checkE c)) ∧ L' = []) := by
  obtain ⟨h1, h2, h3, h4, h5, h6, h7, h8, h9, h10, h11, h12, h13⟩ := hc
  refine FnF.mk' Try.func29 rfl rfl Try.ntmps29 rfl ?_
  repeat' (first | rintro _ _ ⟨rfl, rfl⟩ | refine exq fun _ => ?_ | intro _ | refine go ?_ | refine drq ?_ | refine cal @ref01_in ?_ | refine cal @ref01_power ?_ | refine spl ?_ ?_ | fail)
  all_goals try (refine WC_rounds 4 ?_; repeat' (first | rintro _ _ ⟨rfl, rfl⟩ | refine exq fun _ => ?_ | intro _ | refine go ?_ | refine drq ?_ | refine cal @ref01_in ?_ | refine spl ?_ ?_ | fail))
  all_goals (apply WE_ret rfl rfl (by (repeat (first | exact ResOk.nil | (apply ResOk.tmp; rfl) | (apply resOk_cell; rfl; exact inferInstance; rfl; rfl)))); (exact ⟨by first | (simp_all [checkE, checkB]; done) | (simp_all [checkE, checkB]; omega), rfl⟩); (repeat (first | exact Ent.refl | exact Ent.nil | apply Ent.pick | apply Ent.drop)))

end Go.Sx

/- What package program tells of operations and of programs. My own work. -/
namespace Go.Sx
open Go Go.Proofs
set_option linter.unusedVariables false
set_option linter.unusedSimpArgs false
set_option maxRecDepth 100000
set_option maxHeartbeats 4000000
attribute [local irreducible] Go.Exit.then Go.Exit.inBlock Go.Code.wp WC WO WE WQ V LoopQ FnQ Sat Star band bor IntKind.wrap WR Code.rounds WT KO

def mayB (x : Op3) : Bool := if x.kind = 4 then decide (x.addr = 0) && decide (x.value = 0) else if x.kind = 1 then decide (0 ≤ x.addr) && decide (x.addr ≤ 8191) && decide (x.value = 0)
  else if x.kind = 2 ∨ x.kind = 3 then decide (0 ≤ x.addr) && decide (x.addr ≤ 8191) && decide (-2147483648 ≤ x.value) && decide (x.value ≤ 2147483647) else false
def progB (c : Cfg) (l : List Op3) : Bool := (l.all fun x => mayB x && decide (x.addr < sizeOf' c)) && checkB c && decide (l.length ≤ 64)

theorem program_May {F : List HP} {x : Op3} : FnF Try.prog 59 [ov x] [] F (fun r L' => r = .bool (mayB x) ∧ L' = []) := by
  refine FnF.mk' Try.func59 rfl rfl Try.ntmps59 rfl ?_
  repeat' (first | rintro _ _ ⟨rfl, rfl⟩ | refine exq fun _ => ?_ | intro _ | refine go ?_ | refine drq ?_ | refine spl ?_ ?_ | fail)
  all_goals (apply WE_ret rfl rfl (by (repeat (first | exact ResOk.nil | (apply ResOk.tmp; rfl) | (apply resOk_cell; rfl; exact inferInstance; rfl; rfl)))); (exact ⟨by first | (simp_all [mayB]; done) | (simp_all [mayB]; omega), rfl⟩); (repeat (first | exact Ent.refl | exact Ent.nil | apply Ent.pick | apply Ent.drop)))

theorem program_Fits {F : List HP} {c : Cfg} (hc : c.wf) {l : List Op3} {v : Value} (k : RdL F 3 v l.length (flat oc l)) (hn : l.length ≤ 1099511627776) : FnF Try.prog 83 [c.val, v] [] F (fun r L' => r = .bool (progB c l) ∧ L' = []) := by
  refine FnF.mk' Try.func83 rfl rfl Try.ntmps83 rfl ?_
  repeat (first | rintro _ _ ⟨rfl, rfl⟩ | refine exq fun _ => ?_ | intro _ | refine go ?_ | refine drq ?_)
  rename_i bc
  apply WC_loopE (E0 := [(1, _), (2, _), (7, _), (8, _)]) (fun E0 (j : Nat) => (9, .int .i64 j) :: E0) (fun _ => Cells bc 24 c.cells :: F) (fun j => j ≤ l.length ∧ ∀ i (h : i < l.length), i < j → (mayB l[i] && decide (l[i].addr < sizeOf' c)) = true) (fun j => l.length - j) 0
  · (repeat (first | exact Sub.nil | (refine Sub.cons (by first | rfl | (simp only [Nat.zero_add]; rfl)) ?_)))
  · exact ⟨Nat.zero_le _, fun i h hi => by omega⟩
  · exact entu0
  · rintro j ⟨hj, hall⟩
    by_cases hlt : j < l.length
    · cases hm : mayB l[j] with
      | false =>
        have hf : progB c l = false := by
          have : (l.all fun x => mayB x && decide (x.addr < sizeOf' c)) = false := by
            rw [List.all_eq_false]; exact ⟨_, List.getElem_mem hlt, by simp [hm]⟩
          simp [progB, this]
        have hM := fun F => program_May (F := F) (x := l[j])
        simp only [hm] at hM
        repeat (first | rintro _ _ ⟨rfl, rfl⟩ | refine exq fun _ => ?_ | intro _ | refine go ?_ | refine drq ?_ | refine cal @hM ?_)
        (apply WE_ret rfl rfl (by (repeat (first | exact ResOk.nil | (apply ResOk.tmp; rfl) | (apply resOk_cell; rfl; exact inferInstance; rfl; rfl)))); (first | exact ⟨rfl, rfl⟩ | exact ⟨congrArg Value.bool (by decide), rfl⟩ | exact ⟨_, rfl, rfl⟩ | exact ⟨_, _, rfl, rfl⟩ | exact ⟨by first | (simp [hf]; done) | (simp [hf] <;> omega), rfl⟩); (repeat (first | exact Ent.refl | exact Ent.nil | apply Ent.pick | apply Ent.drop)))
      | true =>
        have hM := fun F => program_May (F := F) (x := l[j])
        simp only [hm] at hM
        by_cases hs : l[j].addr < sizeOf' c
        · repeat (first | rintro _ _ ⟨rfl, rfl⟩ | refine exq fun _ => ?_ | intro _ | refine go ?_ | refine drq ?_ | refine cal @hM ?_ | refine cal (shape_Size (c := c)) ?_)
          refine WE_loop (j + 1) (by omega) ⟨by omega, fun i h hi => ?_⟩ ?_ ?_
          · by_cases e : i = j
            · subst e; simp [hm, hs]
            · exact hall i h (by omega)
          · (repeat (first | exact Sub.nil | (refine Sub.cons (by first | rfl | (simp only [Nat.zero_add]; rfl)) ?_)))
          · exact entu0
        · have hf : progB c l = false := by
            have : (l.all fun x => mayB x && decide (x.addr < sizeOf' c)) = false := by
              rw [List.all_eq_false]; exact ⟨_, List.getElem_mem hlt, by simp [hs]⟩
            simp [progB, this]
          repeat (first | rintro _ _ ⟨rfl, rfl⟩ | refine exq fun _ => ?_ | intro _ | refine go ?_ | refine drq ?_ | refine cal @hM ?_ | refine cal (shape_Size (c := c)) ?_)
          (apply WE_ret rfl rfl (by (repeat (first | exact ResOk.nil | (apply ResOk.tmp; rfl) | (apply resOk_cell; rfl; exact inferInstance; rfl; rfl)))); (first | exact ⟨rfl, rfl⟩ | exact ⟨congrArg Value.bool (by decide), rfl⟩ | exact ⟨_, rfl, rfl⟩ | exact ⟨_, _, rfl, rfl⟩ | exact ⟨by first | (simp [hf]; done) | (simp [hf] <;> omega), rfl⟩); (repeat (first | exact Ent.refl | exact Ent.nil | apply Ent.pick | apply Ent.drop)))
    · have ha : (l.all fun x => mayB x && decide (x.addr < sizeOf' c)) = true := by
        rw [List.all_eq_true]
        intro x hx
        obtain ⟨i, hi, rfl⟩ := List.getElem_of_mem hx
        exact hall i hi (by omega)
      repeat (first | rintro _ _ ⟨rfl, rfl⟩ | refine exq fun _ => ?_ | intro _ | refine go ?_ | refine drq ?_ | refine cal (shape_Check (c := c)) ?_)
      cases e : checkB c
      · have e1 : checkE c = 1 := by simp [checkE, e]
        repeat (first | rintro _ _ ⟨rfl, rfl⟩ | refine exq fun _ => ?_ | intro _ | refine go ?_ | refine drq ?_)
        (apply WE_ret rfl rfl (by (repeat (first | exact ResOk.nil | (apply ResOk.tmp; rfl) | (apply resOk_cell; rfl; exact inferInstance; rfl; rfl)))); (first | exact ⟨rfl, rfl⟩ | exact ⟨congrArg Value.bool (by decide), rfl⟩ | exact ⟨_, rfl, rfl⟩ | exact ⟨_, _, rfl, rfl⟩ | exact ⟨by first | (simp [progB, e]; done) | (simp [progB, e] <;> omega), rfl⟩); (repeat (first | exact Ent.refl | exact Ent.nil | apply Ent.pick | apply Ent.drop)))
      · have e1 : checkE c = 0 := by simp [checkE, e]
        repeat (first | rintro _ _ ⟨rfl, rfl⟩ | refine exq fun _ => ?_ | intro _ | refine go ?_ | refine drq ?_)
        (apply WE_ret rfl rfl (by (repeat (first | exact ResOk.nil | (apply ResOk.tmp; rfl) | (apply resOk_cell; rfl; exact inferInstance; rfl; rfl)))); (first | exact ⟨rfl, rfl⟩ | exact ⟨congrArg Value.bool (by decide), rfl⟩ | exact ⟨_, rfl, rfl⟩ | exact ⟨_, _, rfl, rfl⟩ | exact ⟨by first | (simp [progB, e, ha]; done) | (simp [progB, e, ha] <;> omega), rfl⟩); (repeat (first | exact Ent.refl | exact Ent.nil | apply Ent.pick | apply Ent.drop)))
end Go.Sx
