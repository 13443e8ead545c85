/- What the functions of package split do, and the document's. My own work. -/
import Derived.Test.YtcjagmphobdbbaaShp
import Derived.Test.YtcjagmphobdbbaaBagR
namespace Go.Sx
open Go Go.Proofs
set_option linter.unusedVariables false
set_option maxRecDepth 100000
set_option maxHeartbeats 4000000
attribute [local irreducible] Go.Exit.then Go.Exit.inBlock Go.Code.wp WC WO WE WQ V LoopQ FnQ Sat Star band bor IntKind.wrap WR Code.rounds WT KO

/-! ## What they do, told of numbers -/
def okAddr (c : Cfg) (a : Int) : Bool := checkB c && decide (0 ≤ a ∧ a < c.words * c.lines)
def addrL (c : Cfg) (a : Int) : Int := if okAddr c a then a / c.words else 0
def addrW (c : Cfg) (a : Int) : Int := if okAddr c a then a % c.words else 0
def addrE (c : Cfg) (a : Int) : Int := if okAddr c a then 0 else 1
def okLine (c : Cfg) (l : Int) : Bool := checkB c && decide (0 ≤ l ∧ l < c.lines)
def lineH (c : Cfg) (l : Int) : Int := if okLine c l then l % c.homes else 0
def lineS (c : Cfg) (l : Int) : Int := if okLine c l then l % c.sets else 0
def lineT (c : Cfg) (l : Int) : Int := if okLine c l then l / c.sets else 0
def lineE (c : Cfg) (l : Int) : Int := if okLine c l then 0 else 1
def okJoin (c : Cfg) (l w : Int) : Bool := checkB c && decide (0 ≤ l ∧ l < c.lines ∧ 0 ≤ w ∧ w < c.words)
def joinN (c : Cfg) (l w : Int) : Int := if okJoin c l w then l * c.words + w else 0
def joinE (c : Cfg) (l w : Int) : Int := if okJoin c l w then 0 else 1
def okTag (c : Cfg) (s t : Int) : Bool := checkB c && decide (0 ≤ s ∧ s < c.sets ∧ 0 ≤ t ∧ t * c.sets + s < c.lines)
def tagN (c : Cfg) (s t : Int) : Int := if okTag c s t then t * c.sets + s else 0
def tagE (c : Cfg) (s t : Int) : Int := if okTag c s t then 0 else 1

theorem check_facts {c : Cfg} (h : checkB c = true) : (1 ≤ c.cores ∧ c.cores ≤ 64) ∧ (∃ k : Nat, k ≤ 4 ∧ c.homes = 2 ^ k) ∧ (∃ k : Nat, k ≤ 6 ∧ c.sets = 2 ^ k) ∧ (∃ k : Nat, k ≤ 3 ∧ c.words = 2 ^ k) ∧ (∃ k : Nat, k ≤ 10 ∧ c.lines = 2 ^ k) ∧ (1 ≤ c.ways ∧ c.ways ≤ 8) := by
  simp only [checkB, fitsB, Bool.and_eq_true, decide_eq_true_eq] at h
  have pw : ∀ (n : Int) (m : Nat), powB n = true → n ≤ 2 ^ m → m < 63 → ∃ k : Nat, k ≤ m ∧ n = 2 ^ k := by
    intro n m h1 h2 h3
    obtain ⟨k, hk, rfl⟩ := powB_pos h1
    refine ⟨k, ?_, rfl⟩
    rcases Nat.lt_or_ge m k with h | h
    · have : (2 : Nat) ^ m < 2 ^ k := Nat.pow_lt_pow_right (by omega) h
      have h4 : ((2 ^ m : Nat) : Int) < ((2 ^ k : Nat) : Int) := by exact_mod_cast this
      simp at h4; omega
    · exact h
  simp at h
  refine ⟨by omega, pw _ 4 (by simp_all) (by simp; omega) (by omega), pw _ 6 (by simp_all) (by simp; omega) (by omega), pw _ 3 (by simp_all) (by simp; omega) (by omega), pw _ 10 (by simp_all) (by simp; omega) (by omega), by omega⟩

theorem pow_bd {k m : Nat} (h : k ≤ m) : (1 : Int) ≤ 2 ^ k ∧ (2 : Int) ^ k ≤ 2 ^ m := by
  have h1 : (2 : Nat) ^ k ≤ 2 ^ m := Nat.pow_le_pow_right (by omega) h
  have h2 : 1 ≤ (2 : Nat) ^ k := Nat.one_le_two_pow
  have h3 : ((2 ^ k : Nat) : Int) ≤ ((2 ^ m : Nat) : Int) := by exact_mod_cast h1
  have h4 : ((1 : Nat) : Int) ≤ ((2 ^ k : Nat) : Int) := by exact_mod_cast h2
  simp at h3 h4
  exact ⟨h4, h3⟩

theorem band_mod {n : Int} {k : Nat} (h0 : 0 ≤ n) (h1 : n ≤ 9223372036854775807) (hk : k < 63) : band .i64 n (2 ^ k - 1) = n % 2 ^ k := by
  have hp := pow_lt63 hk
  have hp0 : (0 : Int) < 2 ^ k := Int.pow_pos (by omega)
  rw [band_nat h0 (by omega) (by omega) (by omega)]
  have e : ((2 : Int) ^ k - 1).toNat = 2 ^ k - 1 := by
    have : ((2 ^ k : Nat) : Int) = (2 : Int) ^ k := by simp
    have h2 : 1 ≤ (2 : Nat) ^ k := Nat.one_le_two_pow
    omega
  rw [e, Nat.and_two_pow_sub_one_eq_mod]
  obtain ⟨m, rfl⟩ := Int.eq_ofNat_of_zero_le h0
  simp

theorem fdiv_nn {n : Int} {k : Nat} : n.fdiv (2 ^ k) = n / 2 ^ k := by
  rw [Int.fdiv_eq_ediv_of_nonneg]
  exact Int.le_of_lt (Int.pow_pos (by omega))
theorem tdiv_nn {n m : Int} (h : 0 ≤ n) : n.tdiv m = n / m := Int.tdiv_eq_ediv_of_nonneg h
theorem tmod_nn {n m : Int} (h : 0 ≤ n) : n.tmod m = n % m := Int.tmod_eq_emod_of_nonneg h

theorem split_by {F : List HP} {n : Int} (hn : I64 n) : FnF Try.prog 150 [.int .i64 n] [] F (fun r L' => r = .agg [.int .i64 (IntKind.i64.wrap (n - 1)), .int .i64 (powK n)].toArray ∧ L' = []) := by
  refine FnF.mk' Try.func150 rfl rfl Try.ntmps150 rfl ?_
  repeat (first | rintro _ _ ⟨rfl, rfl⟩ | rintro _ _ ⟨_, rfl, rfl⟩ | rintro _ _ ⟨_, _, rfl, rfl⟩ | intro _ | refine go ?_ | (refine is_draw ?_; refine WC_draw mixed (by kernel_rfl) ?_) | refine cal @shape_Power ?_)
  (apply WE_ret rfl rfl (by (repeat (first | exact ResOk.nil | (apply ResOk.tmp; rfl) | (apply resOk_cell; rfl; exact inferInstance; rfl; rfl)))); (first | exact ⟨rfl, rfl⟩ | exact ⟨congrArg Value.bool (by decide), rfl⟩ | exact ⟨_, rfl, rfl⟩ | exact ⟨_, _, rfl, rfl⟩ | exact ⟨by first | (simp []; done) | (simp [] <;> omega), rfl⟩); (repeat (first | exact Ent.refl | exact Ent.nil | apply Ent.pick | apply Ent.drop)))

theorem split_of {F : List HP} {n : Int} {k : Nat} (hk : k < 63) (h0 : 0 ≤ n) (h1 : n ≤ 9223372036854775807) :
    FnF Try.prog 151 [.agg [.int .i64 (2 ^ k - 1), .int .i64 k].toArray, .int .i64 n] [] F (fun r L' => r = .tuple [.int .i64 (n / 2 ^ k), .int .i64 (n % 2 ^ k)].toArray ∧ L' = []) := by
  refine FnF.mk' Try.func151 rfl rfl Try.ntmps151 rfl ?_
  repeat (first | rintro _ _ ⟨rfl, rfl⟩ | rintro _ _ ⟨_, rfl, rfl⟩ | rintro _ _ ⟨_, _, rfl, rfl⟩ | intro _ | refine go ?_ | (refine is_draw ?_; refine WC_draw mixed (by kernel_rfl) ?_))
  have hmin : min ((k : Int)).toNat IntKind.i64.bits = k := by simp [IntKind.bits]; omega
  rw [hmin, fdiv_nn, band_mod h0 h1 hk]
  (apply WE_ret rfl rfl (by (repeat (first | exact ResOk.nil | (apply ResOk.tmp; rfl) | (apply resOk_cell; rfl; exact inferInstance; rfl; rfl)))); (first | exact ⟨rfl, rfl⟩ | exact ⟨congrArg Value.bool (by decide), rfl⟩ | exact ⟨_, rfl, rfl⟩ | exact ⟨_, _, rfl, rfl⟩ | exact ⟨by first | (simp []; done) | (simp [] <;> omega), rfl⟩); (repeat (first | exact Ent.refl | exact Ent.nil | apply Ent.pick | apply Ent.drop)))

abbrev cutV (k : Nat) : Value := .func (.func 151) [.agg [.int .i64 (2 ^ k - 1), .int .i64 k].toArray].toArray [].toArray

theorem split_parted_no {F : List HP} {c : Cfg} {n m : Int} {f : Value} (hc : c.wf) (h : ¬ (checkB c = true ∧ 0 ≤ n ∧ n < m)) :
    FnF Try.prog 149 [c.val, .int .i64 n, .int .i64 m, f] [] F (fun r L' => r = .tuple [.int .i64 0, .int .i64 0, .int .i64 1].toArray ∧ L' = []) := by
  refine FnF.mk' Try.func149 rfl rfl Try.ntmps149 rfl ?_
  have hE := fun F => shape_Check (F := F) hc
  cases e : checkB c with
  | false =>
    simp only [checkE, e] at hE
    repeat (first | rintro _ _ ⟨rfl, rfl⟩ | rintro _ _ ⟨_, rfl, rfl⟩ | rintro _ _ ⟨_, _, rfl, rfl⟩ | intro _ | refine go ?_ | (refine is_draw ?_; refine WC_draw mixed (by kernel_rfl) ?_) | refine cal @hE ?_)
    (apply WE_ret rfl rfl (by (repeat (first | exact ResOk.nil | (apply ResOk.tmp; rfl) | (apply resOk_cell; rfl; exact inferInstance; rfl; rfl)))); (first | exact ⟨rfl, rfl⟩ | exact ⟨congrArg Value.bool (by decide), rfl⟩ | exact ⟨_, rfl, rfl⟩ | exact ⟨_, _, rfl, rfl⟩ | exact ⟨by first | (simp []; done) | (simp [] <;> omega), rfl⟩); (repeat (first | exact Ent.refl | exact Ent.nil | apply Ent.pick | apply Ent.drop)))
  | true =>
    simp only [checkE, e, if_true] at hE
    rw [e] at h
    repeat' (first | rintro _ _ ⟨rfl, rfl⟩ | rintro _ _ ⟨_, rfl, rfl⟩ | rintro _ _ ⟨_, _, rfl, rfl⟩ | intro _ | refine go ?_ | (refine is_draw ?_; refine WC_draw mixed (by kernel_rfl) ?_) | refine cal @hE ?_ | refine spl ?_ ?_ | fail)
    all_goals first | (exfalso; simp at h; omega) | (apply WE_ret rfl rfl (by (repeat (first | exact ResOk.nil | (apply ResOk.tmp; rfl) | (apply resOk_cell; rfl; exact inferInstance; rfl; rfl)))); (first | exact ⟨rfl, rfl⟩ | exact ⟨congrArg Value.bool (by decide), rfl⟩ | exact ⟨_, rfl, rfl⟩ | exact ⟨_, _, rfl, rfl⟩ | exact ⟨by first | (simp []; done) | (simp [] <;> omega), rfl⟩); (repeat (first | exact Ent.refl | exact Ent.nil | apply Ent.pick | apply Ent.drop)))

theorem split_parted {F : List HP} {c : Cfg} {n m : Int} {k : Nat} (hc : c.wf) (h : checkB c = true) (h0 : 0 ≤ n) (hm : n < m) (hk : k < 63) (h1 : n ≤ 9223372036854775807) :
    FnF Try.prog 149 [c.val, .int .i64 n, .int .i64 m, cutV k] [] F (fun r L' => r = .tuple [.int .i64 (n / 2 ^ k), .int .i64 (n % 2 ^ k), .int .i64 0].toArray ∧ L' = []) := by
  refine FnF.mk' Try.func149 rfl rfl Try.ntmps149 rfl ?_
  have hE := fun F => shape_Check (F := F) hc
  simp only [checkE, h, if_true] at hE
  repeat (first | rintro _ _ ⟨rfl, rfl⟩ | rintro _ _ ⟨_, rfl, rfl⟩ | rintro _ _ ⟨_, _, rfl, rfl⟩ | intro _ | refine go ?_ | (refine is_draw ?_; refine WC_draw mixed (by kernel_rfl) ?_) | refine cal @hE ?_ | refine cal @split_of ?_)
  (apply WE_ret rfl rfl (by (repeat (first | exact ResOk.nil | (apply ResOk.tmp; rfl) | (apply resOk_cell; rfl; exact inferInstance; rfl; rfl)))); (first | exact ⟨rfl, rfl⟩ | exact ⟨congrArg Value.bool (by decide), rfl⟩ | exact ⟨_, rfl, rfl⟩ | exact ⟨_, _, rfl, rfl⟩ | exact ⟨by first | (simp []; done) | (simp [] <;> omega), rfl⟩); (repeat (first | exact Ent.refl | exact Ent.nil | apply Ent.pick | apply Ent.drop)))

theorem split_by2 {F : List HP} {n : Int} {k : Nat} (h : n = 2 ^ k) (hk : k ≤ 30) : FnF Try.prog 150 [.int .i64 n] [] F (fun r L' => r = .agg [.int .i64 (2 ^ k - 1), .int .i64 k].toArray ∧ L' = []) := by
  have hp := pow_bd hk
  simp only [Int.reducePow] at hp
  have hb := split_by (F := F) (n := n) (by unfold I64; omega)
  have e1 : powK n = k := by rw [h]; simp [powK, powOf_pow (show k < 63 by omega)]
  have e2 : IntKind.i64.wrap (n - 1) = 2 ^ k - 1 := by rw [h, wrap_id (by omega) (by omega)]
  rwa [e1, e2] at hb

theorem addr_big {c : Cfg} {a : Int} (e : okAddr c a = true) : checkB c = true ∧ 0 ≤ a ∧ a < c.words * c.lines := by
  simpa only [okAddr, Bool.and_eq_true, decide_eq_true_eq] using e
theorem addr_not {c : Cfg} {a : Int} (e : okAddr c a = false) : ¬ (checkB c = true ∧ 0 ≤ a ∧ a < sizeOf' c) := by
  rintro ⟨h1, h2, h3⟩
  simp only [sizeOf', h1, if_true] at h3
  simp [okAddr, h1] at e
  omega
theorem line_big {c : Cfg} {a : Int} (e : okLine c a = true) : checkB c = true ∧ 0 ≤ a ∧ a < c.lines := by
  simpa only [okLine, Bool.and_eq_true, decide_eq_true_eq] using e
theorem line_not {c : Cfg} {a : Int} (e : okLine c a = false) : ¬ (checkB c = true ∧ 0 ≤ a ∧ a < c.lines) := by
  rintro ⟨h1, h2, h3⟩
  simp [okLine, h1] at e
  omega

theorem split_Addr {F : List HP} {c : Cfg} {a : Int} (hc : c.wf) (ha : I64 a) : FnF Try.prog 134 [c.val, .int .i64 a] [] F (fun r L' => r = .tuple [.int .i64 (addrL c a), .int .i64 (addrW c a), .int .i64 (addrE c a)].toArray ∧ L' = []) := by
  obtain ⟨_, _, _, _, hw, _⟩ := id hc
  unfold I64 at ha
  cases e : okAddr c a with
  | true =>
    obtain ⟨e1, e2, e3⟩ := addr_big e
    obtain ⟨k, hk, ek⟩ := (check_facts e1).2.2.2.1
    have hs : sizeOf' c = c.words * c.lines := by simp [sizeOf', e1]
    have r1 : addrL c a = a / 2 ^ k := by simp [addrL, e, ek]
    have r2 : addrW c a = a % 2 ^ k := by simp [addrW, e, ek]
    have r3 : addrE c a = 0 := by simp [addrE, e]
    rw [r1, r2, r3]
    have hS := fun F => shape_Size (F := F) hc
    simp only [hs] at hS
    refine FnF.mk' Try.func134 rfl rfl Try.ntmps134 rfl ?_
    repeat (first | rintro _ _ ⟨rfl, rfl⟩ | rintro _ _ ⟨_, rfl, rfl⟩ | rintro _ _ ⟨_, _, rfl, rfl⟩ | intro _ | refine go ?_ | (refine is_draw ?_; apply WC_mix (id := 1) false _ (pl := .p 1 <| .p 4 <| .r 0 <| .r 2 <| .r 5 <| .e true [(3, .e true [(6, .p 7 <| .e true [(8, .p 9 <| .p 10 <| .p 11 <| .p 12 <| .p 13 <| .p 14 <| .done)])])]); exact mixed; kernel_rfl; kernel_rfl; exact Ent.refl) | (refine is_draw ?_; refine WC_draw mixed (by kernel_rfl) ?_) | refine cal @hS ?_ | refine cal (split_by2 ek) ?_ | refine cal @split_parted ?_)
    (apply WE_ret rfl rfl (by (repeat (first | exact ResOk.nil | (apply ResOk.tmp; rfl) | (apply resOk_cell; rfl; exact inferInstance; rfl; rfl)))); (first | exact ⟨rfl, rfl⟩ | exact ⟨congrArg Value.bool (by decide), rfl⟩ | exact ⟨_, rfl, rfl⟩ | exact ⟨_, _, rfl, rfl⟩ | exact ⟨by first | (simp []; done) | (simp [] <;> omega), rfl⟩); (repeat (first | exact Ent.refl | exact Ent.nil | apply Ent.pick | apply Ent.drop)))
  | false =>
    have r1 : addrL c a = 0 := by simp [addrL, e]
    have r2 : addrW c a = 0 := by simp [addrW, e]
    have r3 : addrE c a = 1 := by simp [addrE, e]
    rw [r1, r2, r3]
    have hn := addr_not e
    refine FnF.mk' Try.func134 rfl rfl Try.ntmps134 rfl ?_
    repeat (first | rintro _ _ ⟨rfl, rfl⟩ | rintro _ _ ⟨_, rfl, rfl⟩ | rintro _ _ ⟨_, _, rfl, rfl⟩ | intro _ | refine go ?_ | (refine is_draw ?_; apply WC_mix (id := 1) false _ (pl := .p 1 <| .p 4 <| .r 0 <| .r 2 <| .r 5 <| .e true [(3, .e true [(6, .p 7 <| .e true [(8, .p 9 <| .p 10 <| .p 11 <| .p 12 <| .p 13 <| .p 14 <| .done)])])]); exact mixed; kernel_rfl; kernel_rfl; exact Ent.refl) | (refine is_draw ?_; refine WC_draw mixed (by kernel_rfl) ?_) | refine cal @shape_Size ?_ | refine cal @split_by ?_ | refine cal @split_parted_no ?_)
    (apply WE_ret rfl rfl (by (repeat (first | exact ResOk.nil | (apply ResOk.tmp; rfl) | (apply resOk_cell; rfl; exact inferInstance; rfl; rfl)))); (first | exact ⟨rfl, rfl⟩ | exact ⟨congrArg Value.bool (by decide), rfl⟩ | exact ⟨_, rfl, rfl⟩ | exact ⟨_, _, rfl, rfl⟩ | exact ⟨by first | (simp []; done) | (simp [] <;> omega), rfl⟩); (repeat (first | exact Ent.refl | exact Ent.nil | apply Ent.pick | apply Ent.drop)))

theorem split_Line {F : List HP} {c : Cfg} {a : Int} (hc : c.wf) (ha : I64 a) : FnF Try.prog 126 [c.val, .int .i64 a] [] F (fun r L' => r = .tuple [.int .i64 (lineH c a), .int .i64 (lineS c a), .int .i64 (lineT c a), .int .i64 (lineE c a)].toArray ∧ L' = []) := by
  obtain ⟨_, _, hs, _⟩ := id hc
  unfold I64 at ha
  cases e : okLine c a with
  | true =>
    obtain ⟨e1, e2, e3⟩ := line_big e
    obtain ⟨k, hk, ek⟩ := (check_facts e1).2.2.1
    obtain ⟨m, hm, em⟩ := (check_facts e1).2.1
    have r0 : lineH c a = a % 2 ^ m := by simp [lineH, e, em]
    have r1 : lineS c a = a % 2 ^ k := by simp [lineS, e, ek]
    have r2 : lineT c a = a / 2 ^ k := by simp [lineT, e, ek]
    have r3 : lineE c a = 0 := by simp [lineE, e]
    rw [r0, r1, r2, r3]
    refine FnF.mk' Try.func126 rfl rfl Try.ntmps126 rfl ?_
    repeat (first | rintro _ _ ⟨rfl, rfl⟩ | rintro _ _ ⟨_, rfl, rfl⟩ | rintro _ _ ⟨_, _, rfl, rfl⟩ | intro _ | refine go ?_ | (refine is_draw ?_; apply WC_mix (id := 1) false _ (pl := .p 1 <| .p 2 <| .p 4 <| .r 0 <| .r 3 <| .r 5 <| .e true [(6, .p 7 <| .e true [(8, .p 9 <| .p 10 <| .p 11 <| .p 12 <| .p 13 <| .p 14 <| .p 15 <| .done)])]); exact mixed; kernel_rfl; kernel_rfl; exact Ent.refl) | (refine is_draw ?_; refine WC_draw mixed (by kernel_rfl) ?_) | refine cal (split_by2 ek) ?_ | refine cal (split_by2 em) ?_ | refine cal @split_parted ?_ | refine cal @split_of ?_)
    (apply WE_ret rfl rfl (by (repeat (first | exact ResOk.nil | (apply ResOk.tmp; rfl) | (apply resOk_cell; rfl; exact inferInstance; rfl; rfl)))); (first | exact ⟨rfl, rfl⟩ | exact ⟨congrArg Value.bool (by decide), rfl⟩ | exact ⟨_, rfl, rfl⟩ | exact ⟨_, _, rfl, rfl⟩ | exact ⟨by first | (simp []; done) | (simp [] <;> omega), rfl⟩); (repeat (first | exact Ent.refl | exact Ent.nil | apply Ent.pick | apply Ent.drop)))
  | false =>
    have r0 : lineH c a = 0 := by simp [lineH, e]
    have r1 : lineS c a = 0 := by simp [lineS, e]
    have r2 : lineT c a = 0 := by simp [lineT, e]
    have r3 : lineE c a = 1 := by simp [lineE, e]
    rw [r0, r1, r2, r3]
    have hn := line_not e
    refine FnF.mk' Try.func126 rfl rfl Try.ntmps126 rfl ?_
    repeat (first | rintro _ _ ⟨rfl, rfl⟩ | rintro _ _ ⟨_, rfl, rfl⟩ | rintro _ _ ⟨_, _, rfl, rfl⟩ | intro _ | refine go ?_ | (refine is_draw ?_; apply WC_mix (id := 1) false _ (pl := .p 1 <| .p 2 <| .p 4 <| .r 0 <| .r 3 <| .r 5 <| .e true [(6, .p 7 <| .e true [(8, .p 9 <| .p 10 <| .p 11 <| .p 12 <| .p 13 <| .p 14 <| .p 15 <| .done)])]); exact mixed; kernel_rfl; kernel_rfl; exact Ent.refl) | (refine is_draw ?_; refine WC_draw mixed (by kernel_rfl) ?_) | refine cal @split_by ?_ | refine cal @split_parted_no ?_)
    (apply WE_ret rfl rfl (by (repeat (first | exact ResOk.nil | (apply ResOk.tmp; rfl) | (apply resOk_cell; rfl; exact inferInstance; rfl; rfl)))); (first | exact ⟨rfl, rfl⟩ | exact ⟨congrArg Value.bool (by decide), rfl⟩ | exact ⟨_, rfl, rfl⟩ | exact ⟨_, _, rfl, rfl⟩ | exact ⟨by first | (simp []; done) | (simp [] <;> omega), rfl⟩); (repeat (first | exact Ent.refl | exact Ent.nil | apply Ent.pick | apply Ent.drop)))

/-! ## What is put together -/
theorem mul_lt {t s a b : Int} (ht : 0 ≤ t) (hta : t < a) (hs : s < b) (hb : 0 < b) : t * b + s < a * b := by
  have h1 : (t + 1) * b ≤ a * b := Int.mul_le_mul_of_nonneg_right (by omega) (by omega)
  rw [Int.add_mul, Int.one_mul] at h1
  omega
theorem lt_of_mul {t s a b : Int} (h : t * b + s < a * b) (hs : 0 ≤ s) (hb : 0 < b) : t < a := by
  rcases Int.lt_or_le t a with h1 | h1
  · exact h1
  · have := Int.mul_le_mul_of_nonneg_right h1 (Int.le_of_lt hb)
    omega

theorem split_joined_no {F : List HP} {c : Cfg} {hi lo e m : Int} (hc : c.wf) (h : ¬ (checkB c = true ∧ 0 ≤ lo ∧ lo < e ∧ 0 ≤ hi ∧ hi < m)) :
    FnF Try.prog 187 [c.val, .int .i64 hi, .int .i64 lo, .int .i64 e, .int .i64 m] [] F (fun r L' => r = .tuple [.int .i64 0, .int .i64 1].toArray ∧ L' = []) := by
  have hE := fun F => shape_Check (F := F) hc
  refine FnF.mk' Try.func187 rfl rfl Try.ntmps187 rfl ?_
  cases e : checkB c with
  | false =>
    simp only [checkE, e] at hE
    repeat (first | rintro _ _ ⟨rfl, rfl⟩ | rintro _ _ ⟨_, rfl, rfl⟩ | rintro _ _ ⟨_, _, rfl, rfl⟩ | intro _ | refine go ?_ | (refine is_draw ?_; refine WC_draw mixed (by kernel_rfl) ?_) | refine cal @hE ?_)
    (apply WE_ret rfl rfl (by (repeat (first | exact ResOk.nil | (apply ResOk.tmp; rfl) | (apply resOk_cell; rfl; exact inferInstance; rfl; rfl)))); (first | exact ⟨rfl, rfl⟩ | exact ⟨congrArg Value.bool (by decide), rfl⟩ | exact ⟨_, rfl, rfl⟩ | exact ⟨_, _, rfl, rfl⟩ | exact ⟨by first | (simp []; done) | (simp [] <;> omega), rfl⟩); (repeat (first | exact Ent.refl | exact Ent.nil | apply Ent.pick | apply Ent.drop)))
  | true =>
    simp only [checkE, e, if_true] at hE
    rw [e] at h
    repeat' (first | rintro _ _ ⟨rfl, rfl⟩ | rintro _ _ ⟨_, rfl, rfl⟩ | rintro _ _ ⟨_, _, rfl, rfl⟩ | intro _ | refine go ?_ | (refine is_draw ?_; refine WC_draw mixed (by kernel_rfl) ?_) | refine cal @hE ?_ | refine spl ?_ ?_ | fail)
    all_goals first | (exfalso; simp at h; omega) | (apply WE_ret rfl rfl (by (repeat (first | exact ResOk.nil | (apply ResOk.tmp; rfl) | (apply resOk_cell; rfl; exact inferInstance; rfl; rfl)))); (first | exact ⟨rfl, rfl⟩ | exact ⟨congrArg Value.bool (by decide), rfl⟩ | exact ⟨_, rfl, rfl⟩ | exact ⟨_, _, rfl, rfl⟩ | exact ⟨by first | (simp []; done) | (simp [] <;> omega), rfl⟩); (repeat (first | exact Ent.refl | exact Ent.nil | apply Ent.pick | apply Ent.drop)))
theorem split_joined {F : List HP} {c : Cfg} {hi lo e m : Int} (hc : c.wf) (h : checkB c = true) (h0 : 0 ≤ lo) (h1 : lo < e) (h2 : 0 ≤ hi) (h3 : hi < m) (he : e ≤ 64) (hm : m ≤ 8192) :
    FnF Try.prog 187 [c.val, .int .i64 hi, .int .i64 lo, .int .i64 e, .int .i64 m] [] F (fun r L' => r = .tuple [.int .i64 (if hi * e + lo < m then hi * e + lo else 0), .int .i64 (if hi * e + lo < m then 0 else 1)].toArray ∧ L' = []) := by
  have hE := fun F => shape_Check (F := F) hc
  simp only [checkE, h, if_true] at hE
  have hb := mul_bd (a := hi) (b := e) (m := 8192) (n := 64) h2 (by omega) (by omega) he (by omega)
  refine FnF.mk' Try.func187 rfl rfl Try.ntmps187 rfl ?_
  by_cases hlt : hi * e + lo < m
  · repeat (first | rintro _ _ ⟨rfl, rfl⟩ | rintro _ _ ⟨_, rfl, rfl⟩ | rintro _ _ ⟨_, _, rfl, rfl⟩ | intro _ | refine go ?_ | (refine is_draw ?_; refine WC_draw mixed (by kernel_rfl) ?_) | refine cal @hE ?_)
    (apply WE_ret rfl rfl (by (repeat (first | exact ResOk.nil | (apply ResOk.tmp; rfl) | (apply resOk_cell; rfl; exact inferInstance; rfl; rfl)))); (first | exact ⟨rfl, rfl⟩ | exact ⟨congrArg Value.bool (by decide), rfl⟩ | exact ⟨_, rfl, rfl⟩ | exact ⟨_, _, rfl, rfl⟩ | exact ⟨by first | (simp [hlt]; done) | (simp [hlt] <;> omega), rfl⟩); (repeat (first | exact Ent.refl | exact Ent.nil | apply Ent.pick | apply Ent.drop)))
  · repeat (first | rintro _ _ ⟨rfl, rfl⟩ | rintro _ _ ⟨_, rfl, rfl⟩ | rintro _ _ ⟨_, _, rfl, rfl⟩ | intro _ | refine go ?_ | (refine is_draw ?_; refine WC_draw mixed (by kernel_rfl) ?_) | refine cal @hE ?_)
    (apply WE_ret rfl rfl (by (repeat (first | exact ResOk.nil | (apply ResOk.tmp; rfl) | (apply resOk_cell; rfl; exact inferInstance; rfl; rfl)))); (first | exact ⟨rfl, rfl⟩ | exact ⟨congrArg Value.bool (by decide), rfl⟩ | exact ⟨_, rfl, rfl⟩ | exact ⟨_, _, rfl, rfl⟩ | exact ⟨by first | (simp [hlt]; done) | (simp [hlt] <;> omega), rfl⟩); (repeat (first | exact Ent.refl | exact Ent.nil | apply Ent.pick | apply Ent.drop)))

theorem split_Join {F : List HP} {c : Cfg} {l w : Int} (hc : c.wf) (hl : I64 l) (hw : I64 w) : FnF Try.prog 185 [c.val, .int .i64 l, .int .i64 w] [] F (fun r L' => r = .tuple [.int .i64 (joinN c l w), .int .i64 (joinE c l w)].toArray ∧ L' = []) := by
  cases e : checkB c with
  | false =>
    have r1 : joinN c l w = 0 := by simp [joinN, okJoin, e]
    have r2 : joinE c l w = 1 := by simp [joinE, okJoin, e]
    have hn : ∀ a b : Prop, ¬ (checkB c = true ∧ a ∧ b) := fun a b h => by simp [e] at h
    rw [r1, r2]
    refine FnF.mk' Try.func185 rfl rfl Try.ntmps185 rfl ?_
    repeat (first | rintro _ _ ⟨rfl, rfl⟩ | rintro _ _ ⟨_, rfl, rfl⟩ | rintro _ _ ⟨_, _, rfl, rfl⟩ | intro _ | refine go ?_ | (refine is_draw ?_; apply WC_mix (id := 1) false _ (pl := .p 1 <| .p 2 <| .p 3 <| .r 0 <| .r 4 <| .r 5 <| .e true [(6, .e true [(7, .p 8 <| .p 9 <| .p 10 <| .p 11 <| .done)])]); exact mixed; kernel_rfl; kernel_rfl; exact Ent.refl) | (refine is_draw ?_; refine WC_draw mixed (by kernel_rfl) ?_) | refine cal @shape_Size ?_ | refine cal (split_joined_no hc (by simp [e])) ?_)
    (apply WE_ret rfl rfl (by (repeat (first | exact ResOk.nil | (apply ResOk.tmp; rfl) | (apply resOk_cell; rfl; exact inferInstance; rfl; rfl)))); (first | exact ⟨rfl, rfl⟩ | exact ⟨congrArg Value.bool (by decide), rfl⟩ | exact ⟨_, rfl, rfl⟩ | exact ⟨_, _, rfl, rfl⟩ | exact ⟨by first | (simp []; done) | (simp [] <;> omega), rfl⟩); (repeat (first | exact Ent.refl | exact Ent.nil | apply Ent.pick | apply Ent.drop)))
  | true =>
    obtain ⟨_, _, _, ⟨k, hk, ek⟩, ⟨n, hn, en⟩, _⟩ := check_facts e
    have b1 := pow_bd hk
    have b2 := pow_bd hn
    rw [← ek] at b1
    rw [← en] at b2
    simp only [Int.reducePow] at b1 b2
    have hb := mul_bd (a := c.words) (b := c.lines) (m := 8) (n := 1024) (by omega) (by omega) (by omega) (by omega) (by omega)
    have hS := fun F => shape_Size (F := F) hc
    simp only [sizeOf', e, if_true] at hS
    by_cases h : 0 ≤ w ∧ w < c.words ∧ 0 ≤ l ∧ l < c.words * c.lines
    · have key : l * c.words + w < c.words * c.lines ↔ l < c.lines := by
        rw [Int.mul_comm c.words c.lines]
        exact ⟨fun q => lt_of_mul q (by omega) (by omega), fun q => mul_lt (by omega) q (by omega) (by omega)⟩
      have r1 : joinN c l w = if l * c.words + w < c.words * c.lines then l * c.words + w else 0 := by simp only [joinN, okJoin, e, key]; simp; congr 1; simp; omega
      have r2 : joinE c l w = if l * c.words + w < c.words * c.lines then 0 else 1 := by simp only [joinE, okJoin, e, key]; simp; congr 1; simp; omega
      rw [r1, r2]
      refine FnF.mk' Try.func185 rfl rfl Try.ntmps185 rfl ?_
      repeat (first | rintro _ _ ⟨rfl, rfl⟩ | rintro _ _ ⟨_, rfl, rfl⟩ | rintro _ _ ⟨_, _, rfl, rfl⟩ | intro _ | refine go ?_ | (refine is_draw ?_; apply WC_mix (id := 1) false _ (pl := .p 1 <| .p 2 <| .p 3 <| .r 0 <| .r 4 <| .r 5 <| .e true [(6, .e true [(7, .p 8 <| .p 9 <| .p 10 <| .p 11 <| .done)])]); exact mixed; kernel_rfl; kernel_rfl; exact Ent.refl) | (refine is_draw ?_; refine WC_draw mixed (by kernel_rfl) ?_) | refine cal @hS ?_ | refine cal @split_joined ?_)
      (apply WE_ret rfl rfl (by (repeat (first | exact ResOk.nil | (apply ResOk.tmp; rfl) | (apply resOk_cell; rfl; exact inferInstance; rfl; rfl)))); (first | exact ⟨rfl, rfl⟩ | exact ⟨congrArg Value.bool (by decide), rfl⟩ | exact ⟨_, rfl, rfl⟩ | exact ⟨_, _, rfl, rfl⟩ | exact ⟨by first | (simp []; done) | (simp [] <;> omega), rfl⟩); (repeat (first | exact Ent.refl | exact Ent.nil | apply Ent.pick | apply Ent.drop)))
    · have hle : c.lines ≤ c.words * c.lines := by
        have := Int.mul_le_mul_of_nonneg_right (a := 1) (b := c.words) (c := c.lines) (by omega) (by omega)
        omega
      have r0 : okJoin c l w = false := by simp only [okJoin, e]; simp; omega
      have r1 : joinN c l w = 0 := by simp [joinN, r0]
      have r2 : joinE c l w = 1 := by simp [joinE, r0]
      rw [r1, r2]
      have hno : ¬ (checkB c = true ∧ 0 ≤ w ∧ w < c.words ∧ 0 ≤ l ∧ l < c.words * c.lines) := fun q => h q.2
      refine FnF.mk' Try.func185 rfl rfl Try.ntmps185 rfl ?_
      repeat (first | rintro _ _ ⟨rfl, rfl⟩ | rintro _ _ ⟨_, rfl, rfl⟩ | rintro _ _ ⟨_, _, rfl, rfl⟩ | intro _ | refine go ?_ | (refine is_draw ?_; apply WC_mix (id := 1) false _ (pl := .p 1 <| .p 2 <| .p 3 <| .r 0 <| .r 4 <| .r 5 <| .e true [(6, .e true [(7, .p 8 <| .p 9 <| .p 10 <| .p 11 <| .done)])]); exact mixed; kernel_rfl; kernel_rfl; exact Ent.refl) | (refine is_draw ?_; refine WC_draw mixed (by kernel_rfl) ?_) | refine cal @hS ?_ | refine cal @split_joined_no ?_)
      (apply WE_ret rfl rfl (by (repeat (first | exact ResOk.nil | (apply ResOk.tmp; rfl) | (apply resOk_cell; rfl; exact inferInstance; rfl; rfl)))); (first | exact ⟨rfl, rfl⟩ | exact ⟨congrArg Value.bool (by decide), rfl⟩ | exact ⟨_, rfl, rfl⟩ | exact ⟨_, _, rfl, rfl⟩ | exact ⟨by first | (simp []; done) | (simp [] <;> omega), rfl⟩); (repeat (first | exact Ent.refl | exact Ent.nil | apply Ent.pick | apply Ent.drop)))

/-! ## The lines of a home -/
/-- How many lines below n are h, h + H, .. -/
def cntN (n h H : Nat) : Nat := (n + (H - 1) - h) / H
theorem cnt_lt {n h H k : Nat} (hH : h < H) : k < cntN n h H ↔ h + k * H < n := by
  unfold cntN
  rw [Nat.lt_iff_add_one_le, Nat.le_div_iff_mul_le (by omega), Nat.add_mul]
  omega
theorem cnt_zero {h H : Nat} (hH : h < H) : cntN 0 h H = 0 := by
  have : ¬ 0 < cntN 0 h H := fun q => by have := (cnt_lt hH).1 q; omega
  omega
theorem cnt_succ {n h H : Nat} (hH : h < H) : cntN (n + 1) h H = cntN n h H + if n % H = h then 1 else 0 := by
  have a : ∀ k, k < cntN (n + 1) h H ↔ k < cntN n h H ∨ h + k * H = n := fun k => by rw [cnt_lt hH, cnt_lt hH]; omega
  have b : ∀ k, h + k * H = n → n % H = h := fun k q => by rw [← q, Nat.add_mul_mod_self_right, Nat.mod_eq_of_lt hH]
  split
  · rename_i hm
    have hk : h + (n / H) * H = n := by rw [← hm]; have := Nat.mod_add_div n H; rw [Nat.mul_comm] at this; omega
    have h1 := (a (n / H)).2 (.inr hk)
    have h2 : ∀ k, k < cntN n h H → k < n / H := fun k q => by
      have := (cnt_lt hH).1 q
      rcases Nat.lt_or_ge k (n / H) with z | z
      · exact z
      · have := Nat.mul_le_mul_right H z; omega
    have h3 : ¬ n / H < cntN n h H := fun q => Nat.lt_irrefl _ (h2 _ q)
    have h4 : ¬ n / H + 1 < cntN (n + 1) h H := fun q => by
      rcases (a _).1 q with z | z
      · have := h2 _ z; omega
      · rw [Nat.add_mul] at z; omega
    have h5 : cntN n h H = n / H := by
      rcases Nat.lt_or_ge (cntN n h H) (n / H) with z | z
      · exfalso
        have : cntN n h H < cntN (n + 1) h H := by omega
        rcases (a _).1 this with y | y
        · omega
        · have := Nat.mul_le_mul_right H z
          rw [Nat.succ_mul] at this
          omega
      · omega
    omega
  · rename_i hm
    have h1 : ∀ k, k < cntN (n + 1) h H ↔ k < cntN n h H := fun k => by
      rw [a]; exact ⟨fun q => q.elim id (fun z => absurd (b k z) hm), .inl⟩
    have := h1 (cntN n h H)
    have := h1 (cntN (n + 1) h H)
    omega

def rowN (h H k : Nat) : List Int := (List.range k).map fun (i : Nat) => ((h + i * H : Nat) : Int)
theorem rowN_succ (h H k : Nat) : rowN h H (k + 1) = rowN h H k ++ [((h + k * H : Nat) : Int)] := by
  simp [rowN, List.range_succ]
theorem rowN_len (h H k : Nat) : (rowN h H k).length = k := by simp [rowN]
theorem rowN_get (h H k i : Nat) (hi : i < (rowN h H k).length) : (rowN h H k)[i] = ((h + i * H : Nat) : Int) := by
  simp [rowN]
def linesL (c : Cfg) (h : Int) : List Int := if checkB c && decide (0 ≤ h ∧ h < c.homes) then rowN h.toNat c.homes.toNat (cntN c.lines.toNat h.toNat c.homes.toNat) else []

theorem split_Lines {F : List HP} {c : Cfg} {h : Int} (hc : c.wf) (hh : I64 h) :
    FnF Try.prog 168 [c.val, .int .i64 h] [] F (fun r L' => ∃ p q, r = .slice p (linesL c h).length q ∧ L' = [Own 3 1 (.slice p (linesL c h).length q) (linesL c h).length (flat ic (linesL c h))]) := by
  have hE := fun F => shape_Check (F := F) hc
  cases e : checkB c with
  | false =>
    have r1 : linesL c h = [] := by simp [linesL, e]
    rw [r1]
    simp only [checkE, e] at hE
    refine FnF.mk' Try.func168 rfl rfl Try.ntmps168 rfl ?_
    repeat (first | rintro _ _ ⟨rfl, rfl⟩ | rintro _ _ ⟨_, rfl, rfl⟩ | rintro _ _ ⟨_, _, rfl, rfl⟩ | intro _ | refine go ?_ | (refine is_draw ?_; refine WC_draw mixed (by kernel_rfl) ?_) | refine cal @hE ?_)
    (apply WE_ret rfl rfl (by (repeat (first | exact ResOk.nil | (apply ResOk.tmp; rfl) | (apply resOk_cell; rfl; exact inferInstance; rfl; rfl)))))
    · exact ⟨_, _, rfl, rfl⟩
    · exact own_empty (by (repeat (first | (with_reducible exact Ent.refl) | exact Ent.nil | (apply ent_pickE; (focus ((repeat (first | (with_reducible exact pk_here) | (apply pk_there))); done))) | apply Ent.drop)))
  | true =>
    simp only [checkE, e, if_true] at hE
    by_cases hr : 0 ≤ h ∧ h < c.homes
    · obtain ⟨_, ⟨m, hm, em⟩, _, _, ⟨n, hn, en⟩, _⟩ := check_facts e
      have b1 := pow_bd hm
      have b2 := pow_bd hn
      rw [← em] at b1
      rw [← en] at b2
      simp only [Int.reducePow] at b1 b2
      obtain ⟨H, eH⟩ : ∃ H : Nat, c.homes = H := ⟨c.homes.toNat, by omega⟩
      obtain ⟨n, en⟩ : ∃ n : Nat, c.lines = n := ⟨c.lines.toNat, by omega⟩
      obtain ⟨h, rfl⟩ : ∃ n : Nat, h = n := ⟨h.toNat, by omega⟩
      have r1 : linesL c h = rowN h H (cntN n h H) := by simp [linesL, e, eH, en]; omega
      have hH : h < H := by omega
      rw [r1]
      refine FnF.mk' Try.func168 rfl rfl Try.ntmps168 rfl ?_
      repeat (first | rintro _ _ ⟨rfl, rfl⟩ | rintro _ _ ⟨_, rfl, rfl⟩ | rintro _ _ ⟨_, _, rfl, rfl⟩ | intro _ | refine go ?_ | (refine is_draw ?_; refine WC_draw mixed (by kernel_rfl) ?_) | refine cal @hE ?_)
      rename_i bc
      apply WC_loopE (E0 := [(2, _)]) (fun E0 (q : Nat × Option Addr × Nat) => (6, .int .i64 ((h + q.1 * H : Nat) : Int)) :: (5, .slice q.2.1 q.1 q.2.2) :: E0)
        (fun q => Own 3 1 (.slice q.2.1 q.1 q.2.2) q.1 (flat ic (rowN h H q.1)) :: Cells bc 24 c.cells :: F) (fun q => q.1 ≤ cntN n h H) (fun q => cntN n h H - q.1) (0, none, 0)
      · simp only [Nat.zero_mul, Nat.add_zero]; (repeat (first | exact Sub.nil | (refine Sub.cons (by first | rfl | (simp only [Nat.zero_add]; rfl)) ?_)))
      · exact Nat.zero_le _
      · exact own_empty (by (repeat (first | (with_reducible exact Ent.refl) | exact Ent.nil | (apply ent_pickE; (focus ((repeat (first | (with_reducible exact pk_here) | (apply pk_there))); done))) | apply Ent.drop)))
      · rintro ⟨k, p, q⟩ hk
        dsimp only at hk ⊢
        have hlt := cnt_lt (n := n) (k := k) hH
        have hcn : cntN n h H ≤ n + H := by
          unfold cntN
          exact Nat.le_trans (Nat.div_le_self _ _) (by omega)
        by_cases hk2 : k < cntN n h H
        · have h2 := hlt.1 hk2
          repeat (first | rintro _ _ ⟨rfl, rfl⟩ | rintro _ _ ⟨_, rfl, rfl⟩ | rintro _ _ ⟨_, _, rfl, rfl⟩ | intro _ | refine go ?_ | (refine is_draw ?_; refine WC_draw mixed (by kernel_rfl) ?_))
          rename_i b' p' q'
          refine WE_loop (k + 1, p', q') (by dsimp only; omega) (by dsimp only; omega) ?_ ?_
          · dsimp only
            have e3 : ((h + (k + 1) * H : Nat) : Int) = ((h + k * H : Nat) : Int) + c.homes := by rw [eH, Nat.add_mul]; omega
            rw [e3]; (repeat (first | exact Sub.nil | (refine Sub.cons (by first | rfl | (simp only [Nat.zero_add]; rfl)) ?_)))
          · dsimp only; rw [rowN_succ, flat_append, flat_one]; (repeat (first | (with_reducible exact Ent.refl) | exact Ent.nil | (apply ent_pickE; (focus ((repeat (first | (with_reducible exact pk_here) | (apply pk_there))); done))) | apply Ent.drop))
        · have h2 : ¬ h + k * H < n := fun z => hk2 (hlt.2 z)
          have h3 : k = cntN n h H := by omega
          subst h3
          repeat (first | rintro _ _ ⟨rfl, rfl⟩ | rintro _ _ ⟨_, rfl, rfl⟩ | rintro _ _ ⟨_, _, rfl, rfl⟩ | intro _ | refine go ?_ | (refine is_draw ?_; refine WC_draw mixed (by kernel_rfl) ?_))
          rw [show (rowN h H (cntN n h H)).length = cntN n h H from rowN_len _ _ _]
          (apply WE_ret rfl rfl (by (repeat (first | exact ResOk.nil | (apply ResOk.tmp; rfl) | (apply resOk_cell; rfl; exact inferInstance; rfl; rfl)))))
          · exact ⟨_, _, rfl, rfl⟩
          · (repeat (first | (with_reducible exact Ent.refl) | exact Ent.nil | (apply ent_pickE; (focus ((repeat (first | (with_reducible exact pk_here) | (apply pk_there))); done))) | apply Ent.drop))
    · have r1 : linesL c h = [] := by simp [linesL, hr]
      rw [r1]
      refine FnF.mk' Try.func168 rfl rfl Try.ntmps168 rfl ?_
      repeat' (first | rintro _ _ ⟨rfl, rfl⟩ | rintro _ _ ⟨_, rfl, rfl⟩ | rintro _ _ ⟨_, _, rfl, rfl⟩ | intro _ | refine go ?_ | (refine is_draw ?_; refine WC_draw mixed (by kernel_rfl) ?_) | refine cal @hE ?_ | refine spl ?_ ?_ | fail)
      all_goals first | (exfalso; omega) | skip
      all_goals (apply WE_ret rfl rfl (by (repeat (first | exact ResOk.nil | (apply ResOk.tmp; rfl) | (apply resOk_cell; rfl; exact inferInstance; rfl; rfl)))))
      all_goals first | exact ⟨_, _, rfl, rfl⟩ | exact own_empty (by (repeat (first | (with_reducible exact Ent.refl) | exact Ent.nil | (apply ent_pickE; (focus ((repeat (first | (with_reducible exact pk_here) | (apply pk_there))); done))) | apply Ent.drop)))
end Go.Sx
