/- Split, Arr, Mem, MemPl: several of my texts as one. My own work. -/
import Derived.Test.YtlaohgngdaglmaaZad
import Derived.Test.YtlaohgngdaglmaaZab
import Derived.Test.YtlaohgngdaglmaaZaa
import Derived.Test.YtlaohgngdaglmaaMk
/- What the functions of package split do, and the document's. My own work. -/
namespace Go.Sx
open Go Go.Proofs
set_option linter.unusedVariables false
set_option maxRecDepth 100000
set_option maxHeartbeats 4000000
attribute [local irreducible] Go.Exit.then Go.Exit.inBlock Go.Code.wp WC WO WE WQ V LoopQ FnQ Sat Star band bor IntKind.wrap WR Code.rounds WT KO

/-! ## What they do, told of numbers -/
def okAddr (c : Cfg) (a : Int) : Bool := checkB c && decide (0 ≤ a ∧ a < c.words * c.lines)
def addrL (c : Cfg) (a : Int) : Int := if okAddr c a then a / c.words else 0
def addrW (c : Cfg) (a : Int) : Int := if okAddr c a then a % c.words else 0
def addrE (c : Cfg) (a : Int) : Int := if okAddr c a then 0 else 1
def okLine (c : Cfg) (l : Int) : Bool := checkB c && decide (0 ≤ l ∧ l < c.lines)
def lineH (c : Cfg) (l : Int) : Int := if okLine c l then l % c.homes else 0
def lineS (c : Cfg) (l : Int) : Int := if okLine c l then l % c.sets else 0
def lineT (c : Cfg) (l : Int) : Int := if okLine c l then l / c.sets else 0
def lineE (c : Cfg) (l : Int) : Int := if okLine c l then 0 else 1
def okJoin (c : Cfg) (l w : Int) : Bool := checkB c && decide (0 ≤ l ∧ l < c.lines ∧ 0 ≤ w ∧ w < c.words)
def joinN (c : Cfg) (l w : Int) : Int := if okJoin c l w then l * c.words + w else 0
def joinE (c : Cfg) (l w : Int) : Int := if okJoin c l w then 0 else 1
def okTag (c : Cfg) (s t : Int) : Bool := checkB c && decide (0 ≤ s ∧ s < c.sets ∧ 0 ≤ t ∧ t * c.sets + s < c.lines)
def tagN (c : Cfg) (s t : Int) : Int := if okTag c s t then t * c.sets + s else 0
def tagE (c : Cfg) (s t : Int) : Int := if okTag c s t then 0 else 1

theorem check_facts {c : Cfg} (h : checkB c = true) : (1 ≤ c.cores ∧ c.cores ≤ 64) ∧ (∃ k : Nat, k ≤ 4 ∧ c.homes = 2 ^ k) ∧ (∃ k : Nat, k ≤ 6 ∧ c.sets = 2 ^ k) ∧ (∃ k : Nat, k ≤ 3 ∧ c.words = 2 ^ k) ∧ (∃ k : Nat, k ≤ 10 ∧ c.lines = 2 ^ k) ∧ (1 ≤ c.ways ∧ c.ways ≤ 8) := by
  simp only [checkB, fitsB, Bool.and_eq_true, decide_eq_true_eq] at h
  have pw : ∀ (n : Int) (m : Nat), powB n = true → n ≤ 2 ^ m → m < 63 → ∃ k : Nat, k ≤ m ∧ n = 2 ^ k := by
    intro n m h1 h2 h3
    obtain ⟨k, hk, rfl⟩ := powB_pos h1
    refine ⟨k, ?_, rfl⟩
    rcases Nat.lt_or_ge m k with h | h
    · have : (2 : Nat) ^ m < 2 ^ k := Nat.pow_lt_pow_right (by omega) h
      have h4 : ((2 ^ m : Nat) : Int) < ((2 ^ k : Nat) : Int) := by exact_mod_cast this
      simp at h4; omega
    · exact h
  simp at h
  refine ⟨by omega, pw _ 4 (by simp_all) (by simp; omega) (by omega), pw _ 6 (by simp_all) (by simp; omega) (by omega), pw _ 3 (by simp_all) (by simp; omega) (by omega), pw _ 10 (by simp_all) (by simp; omega) (by omega), by omega⟩

theorem pow_bd {k m : Nat} (h : k ≤ m) : (1 : Int) ≤ 2 ^ k ∧ (2 : Int) ^ k ≤ 2 ^ m := by
  have h1 : (2 : Nat) ^ k ≤ 2 ^ m := Nat.pow_le_pow_right (by omega) h
  have h2 : 1 ≤ (2 : Nat) ^ k := Nat.one_le_two_pow
  have h3 : ((2 ^ k : Nat) : Int) ≤ ((2 ^ m : Nat) : Int) := by exact_mod_cast h1
  have h4 : ((1 : Nat) : Int) ≤ ((2 ^ k : Nat) : Int) := by exact_mod_cast h2
  simp at h3 h4
  exact ⟨h4, h3⟩

theorem band_mod {n : Int} {k : Nat} (h0 : 0 ≤ n) (h1 : n ≤ 9223372036854775807) (hk : k < 63) : band .i64 n (2 ^ k - 1) = n % 2 ^ k := by
  have hp := pow_lt63 hk
  have hp0 : (0 : Int) < 2 ^ k := Int.pow_pos (by omega)
  rw [band_nat h0 (by omega) (by omega) (by omega)]
  have e : ((2 : Int) ^ k - 1).toNat = 2 ^ k - 1 := by
    have : ((2 ^ k : Nat) : Int) = (2 : Int) ^ k := by simp
    have h2 : 1 ≤ (2 : Nat) ^ k := Nat.one_le_two_pow
    omega
  rw [e, Nat.and_two_pow_sub_one_eq_mod]
  obtain ⟨m, rfl⟩ := Int.eq_ofNat_of_zero_le h0
  simp

theorem fdiv_nn {n : Int} {k : Nat} : n.fdiv (2 ^ k) = n / 2 ^ k := by
  rw [Int.fdiv_eq_ediv_of_nonneg]
  exact Int.le_of_lt (Int.pow_pos (by omega))
theorem tdiv_nn {n m : Int} (h : 0 ≤ n) : n.tdiv m = n / m := Int.tdiv_eq_ediv_of_nonneg h
theorem tmod_nn {n m : Int} (h : 0 ≤ n) : n.tmod m = n % m := Int.tmod_eq_emod_of_nonneg h

theorem split_by {F : List HP} {n : Int} (hn : I64 n) : FnF Try.prog 89 [.int .i64 n] [] F (fun r L' => r = .agg [.int .i64 (IntKind.i64.wrap (n - 1)), .int .i64 (powK n)].toArray ∧ L' = []) := by
  refine FnF.mk' Try.func89 rfl rfl Try.ntmps89 rfl ?_
  repeat (first | rintro _ _ ⟨rfl, rfl⟩ | refine exq fun _ => ?_ | intro _ | refine go ?_ | refine drq ?_ | refine cal @shape_Power ?_)
  exact fin0

theorem split_of {F : List HP} {n : Int} {k : Nat} (hk : k < 63) (h0 : 0 ≤ n) (h1 : n ≤ 9223372036854775807) :
    FnF Try.prog 90 [.agg [.int .i64 (2 ^ k - 1), .int .i64 k].toArray, .int .i64 n] [] F (fun r L' => r = .tuple [.int .i64 (n / 2 ^ k), .int .i64 (n % 2 ^ k)].toArray ∧ L' = []) := by
  refine FnF.mk' Try.func90 rfl rfl Try.ntmps90 rfl ?_
  repeat (first | rintro _ _ ⟨rfl, rfl⟩ | refine exq fun _ => ?_ | intro _ | refine go ?_ | refine drq ?_)
  have hmin : min ((k : Int)).toNat IntKind.i64.bits = k := by simp [IntKind.bits]; omega
  rw [hmin, fdiv_nn, band_mod h0 h1 hk]
  exact fin0

abbrev cutV (k : Nat) : Value := .func (.func 90) [.agg [.int .i64 (2 ^ k - 1), .int .i64 k].toArray].toArray [].toArray

theorem split_parted_no {F : List HP} {c : Cfg} {n m : Int} {f : Value} (hc : c.wf) (h : ¬ (checkB c = true ∧ 0 ≤ n ∧ n < m)) :
    FnF Try.prog 88 [c.val, .int .i64 n, .int .i64 m, f] [] F (fun r L' => r = .tuple [.int .i64 0, .int .i64 0, .int .i64 1].toArray ∧ L' = []) := by
  refine FnF.mk' Try.func88 rfl rfl Try.ntmps88 rfl ?_
  have hE := fun F => shape_Check (F := F) hc
  cases e : checkB c with
  | false =>
    simp only [checkE, e] at hE
    repeat (first | rintro _ _ ⟨rfl, rfl⟩ | refine exq fun _ => ?_ | intro _ | refine go ?_ | refine drq ?_ | refine cal @hE ?_)
    exact fin0
  | true =>
    simp only [checkE, e, if_true] at hE
    rw [e] at h
    repeat' (first | rintro _ _ ⟨rfl, rfl⟩ | refine exq fun _ => ?_ | intro _ | refine go ?_ | refine drq ?_ | refine cal @hE ?_ | refine spl ?_ ?_ | fail)
    all_goals first | (exfalso; simp at h; omega) | exact fin0

theorem split_parted {F : List HP} {c : Cfg} {n m : Int} {k : Nat} (hc : c.wf) (h : checkB c = true) (h0 : 0 ≤ n) (hm : n < m) (hk : k < 63) (h1 : n ≤ 9223372036854775807) :
    FnF Try.prog 88 [c.val, .int .i64 n, .int .i64 m, cutV k] [] F (fun r L' => r = .tuple [.int .i64 (n / 2 ^ k), .int .i64 (n % 2 ^ k), .int .i64 0].toArray ∧ L' = []) := by
  refine FnF.mk' Try.func88 rfl rfl Try.ntmps88 rfl ?_
  have hE := fun F => shape_Check (F := F) hc
  simp only [checkE, h, if_true] at hE
  repeat (first | rintro _ _ ⟨rfl, rfl⟩ | refine exq fun _ => ?_ | intro _ | refine go ?_ | refine drq ?_ | refine cal @hE ?_ | refine cal @split_of ?_)
  exact fin0

theorem split_by2 {F : List HP} {n : Int} {k : Nat} (h : n = 2 ^ k) (hk : k ≤ 30) : FnF Try.prog 89 [.int .i64 n] [] F (fun r L' => r = .agg [.int .i64 (2 ^ k - 1), .int .i64 k].toArray ∧ L' = []) := by
  have hp := pow_bd hk
  simp only [Int.reducePow] at hp
  have hb := split_by (F := F) (n := n) (by unfold I64; omega)
  have e1 : powK n = k := by rw [h]; simp [powK, powOf_pow (show k < 63 by omega)]
  have e2 : IntKind.i64.wrap (n - 1) = 2 ^ k - 1 := by rw [h, wrap_id (by omega) (by omega)]
  rwa [e1, e2] at hb

theorem addr_big {c : Cfg} {a : Int} (e : okAddr c a = true) : checkB c = true ∧ 0 ≤ a ∧ a < c.words * c.lines := by
  simpa only [okAddr, Bool.and_eq_true, decide_eq_true_eq] using e
theorem addr_not {c : Cfg} {a : Int} (e : okAddr c a = false) : ¬ (checkB c = true ∧ 0 ≤ a ∧ a < sizeOf' c) := by
  rintro ⟨h1, h2, h3⟩
  simp only [sizeOf', h1, if_true] at h3
  simp [okAddr, h1] at e
  omega
theorem line_big {c : Cfg} {a : Int} (e : okLine c a = true) : checkB c = true ∧ 0 ≤ a ∧ a < c.lines := by
  simpa only [okLine, Bool.and_eq_true, decide_eq_true_eq] using e
theorem line_not {c : Cfg} {a : Int} (e : okLine c a = false) : ¬ (checkB c = true ∧ 0 ≤ a ∧ a < c.lines) := by
  rintro ⟨h1, h2, h3⟩
  simp [okLine, h1] at e
  omega

theorem dr_Split_51 {Q P : Prop} (k : Q) (h : Hid Q → P := by
  intro k
  first
  | (refine is_draw ?_; apply WC_mix (id := 1) .false _ (pl := .p 1 <| .p 4 <| .r 0 <| .r 2 <| .r 5 <| .e true [(3, .e true [(6, .p 7 <| .e true [(8, .p 9 <| .p 10 <| .p 11 <| .p 12 <| .p 13 <| .p 14 <| .done)])])]); exact mixed; kernel_rfl; kernel_rfl; exact Ent.refl; exact k.out)) : P := h ⟨k⟩
theorem split_Addr {F : List HP} {c : Cfg} {a : Int} (hc : c.wf) (ha : I64 a) : FnF Try.prog 51 [c.val, .int .i64 a] [] F (fun r L' => r = .tuple [.int .i64 (addrL c a), .int .i64 (addrW c a), .int .i64 (addrE c a)].toArray ∧ L' = []) := by
  obtain ⟨_, _, _, _, hw, _⟩ := id hc
  unfold I64 at ha
  cases e : okAddr c a with
  | true =>
    obtain ⟨e1, e2, e3⟩ := addr_big e
    obtain ⟨k, hk, ek⟩ := (check_facts e1).2.2.2.1
    have hs : sizeOf' c = c.words * c.lines := by simp [sizeOf', e1]
    have r1 : addrL c a = a / 2 ^ k := by simp [addrL, e, ek]
    have r2 : addrW c a = a % 2 ^ k := by simp [addrW, e, ek]
    have r3 : addrE c a = 0 := by simp [addrE, e]
    rw [r1, r2, r3]
    have hS := fun F => shape_Size (F := F) hc
    simp only [hs] at hS
    refine FnF.mk' Try.func51 rfl rfl Try.ntmps51 rfl ?_
    repeat (first | rintro _ _ ⟨rfl, rfl⟩ | refine exq fun _ => ?_ | intro _ | refine go ?_ | refine dr_Split_51 ?_ | refine drq ?_ | refine cal @hS ?_ | refine cal (split_by2 ek) ?_ | refine cal @split_parted ?_)
    exact fin0
  | false =>
    have r1 : addrL c a = 0 := by simp [addrL, e]
    have r2 : addrW c a = 0 := by simp [addrW, e]
    have r3 : addrE c a = 1 := by simp [addrE, e]
    rw [r1, r2, r3]
    have hn := addr_not e
    refine FnF.mk' Try.func51 rfl rfl Try.ntmps51 rfl ?_
    repeat (first | rintro _ _ ⟨rfl, rfl⟩ | refine exq fun _ => ?_ | intro _ | refine go ?_ | refine dr_Split_51 ?_ | refine drq ?_ | refine cal @shape_Size ?_ | refine cal @split_by ?_ | refine cal @split_parted_no ?_)
    exact fin0

theorem dr_Split_52 {Q P : Prop} (k : Q) (h : Hid Q → P := by
  intro k
  first
  | (refine is_draw ?_; apply WC_mix (id := 1) .false _ (pl := .p 1 <| .p 2 <| .p 4 <| .r 0 <| .r 3 <| .r 5 <| .e true [(6, .p 7 <| .e true [(8, .p 9 <| .p 10 <| .p 11 <| .p 12 <| .p 13 <| .p 14 <| .p 15 <| .done)])]); exact mixed; kernel_rfl; kernel_rfl; exact Ent.refl; exact k.out)) : P := h ⟨k⟩
theorem split_Line {F : List HP} {c : Cfg} {a : Int} (hc : c.wf) (ha : I64 a) : FnF Try.prog 52 [c.val, .int .i64 a] [] F (fun r L' => r = .tuple [.int .i64 (lineH c a), .int .i64 (lineS c a), .int .i64 (lineT c a), .int .i64 (lineE c a)].toArray ∧ L' = []) := by
  obtain ⟨_, _, hs, _⟩ := id hc
  unfold I64 at ha
  cases e : okLine c a with
  | true =>
    obtain ⟨e1, e2, e3⟩ := line_big e
    obtain ⟨k, hk, ek⟩ := (check_facts e1).2.2.1
    obtain ⟨m, hm, em⟩ := (check_facts e1).2.1
    have r0 : lineH c a = a % 2 ^ m := by simp [lineH, e, em]
    have r1 : lineS c a = a % 2 ^ k := by simp [lineS, e, ek]
    have r2 : lineT c a = a / 2 ^ k := by simp [lineT, e, ek]
    have r3 : lineE c a = 0 := by simp [lineE, e]
    rw [r0, r1, r2, r3]
    refine FnF.mk' Try.func52 rfl rfl Try.ntmps52 rfl ?_
    repeat (first | rintro _ _ ⟨rfl, rfl⟩ | refine exq fun _ => ?_ | intro _ | refine go ?_ | refine dr_Split_52 ?_ | refine drq ?_ | refine cal (split_by2 ek) ?_ | refine cal (split_by2 em) ?_ | refine cal @split_parted ?_ | refine cal @split_of ?_)
    exact fin0
  | false =>
    have r0 : lineH c a = 0 := by simp [lineH, e]
    have r1 : lineS c a = 0 := by simp [lineS, e]
    have r2 : lineT c a = 0 := by simp [lineT, e]
    have r3 : lineE c a = 1 := by simp [lineE, e]
    rw [r0, r1, r2, r3]
    have hn := line_not e
    refine FnF.mk' Try.func52 rfl rfl Try.ntmps52 rfl ?_
    repeat (first | rintro _ _ ⟨rfl, rfl⟩ | refine exq fun _ => ?_ | intro _ | refine go ?_ | refine dr_Split_52 ?_ | refine drq ?_ | refine cal @split_by ?_ | refine cal @split_parted_no ?_)
    exact fin0

/-! ## What is put together -/
theorem mul_lt {t s a b : Int} (ht : 0 ≤ t) (hta : t < a) (hs : s < b) (hb : 0 < b) : t * b + s < a * b := by
  have h1 : (t + 1) * b ≤ a * b := Int.mul_le_mul_of_nonneg_right (by omega) (by omega)
  rw [Int.add_mul, Int.one_mul] at h1
  omega
theorem lt_of_mul {t s a b : Int} (h : t * b + s < a * b) (hs : 0 ≤ s) (hb : 0 < b) : t < a := by
  rcases Int.lt_or_le t a with h1 | h1
  · exact h1
  · have := Int.mul_le_mul_of_nonneg_right h1 (Int.le_of_lt hb)
    omega

theorem split_joined_no {F : List HP} {c : Cfg} {hi lo e m : Int} (hc : c.wf) (h : ¬ (checkB c = true ∧ 0 ≤ lo ∧ lo < e ∧ 0 ≤ hi ∧ hi < m)) :
    FnF Try.prog 122 [c.val, .int .i64 hi, .int .i64 lo, .int .i64 e, .int .i64 m] [] F (fun r L' => r = .tuple [.int .i64 0, .int .i64 1].toArray ∧ L' = []) := by
  have hE := fun F => shape_Check (F := F) hc
  refine FnF.mk' Try.func122 rfl rfl Try.ntmps122 rfl ?_
  cases e : checkB c with
  | false =>
    simp only [checkE, e] at hE
    repeat (first | rintro _ _ ⟨rfl, rfl⟩ | refine exq fun _ => ?_ | intro _ | refine go ?_ | refine drq ?_ | refine cal @hE ?_)
    exact fin0
  | true =>
    simp only [checkE, e, if_true] at hE
    rw [e] at h
    repeat' (first | rintro _ _ ⟨rfl, rfl⟩ | refine exq fun _ => ?_ | intro _ | refine go ?_ | refine drq ?_ | refine cal @hE ?_ | refine spl ?_ ?_ | fail)
    all_goals first | (exfalso; simp at h; omega) | exact fin0
theorem split_joined {F : List HP} {c : Cfg} {hi lo e m : Int} (hc : c.wf) (h : checkB c = true) (h0 : 0 ≤ lo) (h1 : lo < e) (h2 : 0 ≤ hi) (h3 : hi < m) (he : e ≤ 64) (hm : m ≤ 8192) :
    FnF Try.prog 122 [c.val, .int .i64 hi, .int .i64 lo, .int .i64 e, .int .i64 m] [] F (fun r L' => r = .tuple [.int .i64 (if hi * e + lo < m then hi * e + lo else 0), .int .i64 (if hi * e + lo < m then 0 else 1)].toArray ∧ L' = []) := by
  have hE := fun F => shape_Check (F := F) hc
  simp only [checkE, h, if_true] at hE
  have hb := mul_bd (a := hi) (b := e) (m := 8192) (n := 64) h2 (by omega) (by omega) he (by omega)
  refine FnF.mk' Try.func122 rfl rfl Try.ntmps122 rfl ?_
  by_cases hlt : hi * e + lo < m
  · repeat (first | rintro _ _ ⟨rfl, rfl⟩ | refine exq fun _ => ?_ | intro _ | refine go ?_ | refine drq ?_ | refine cal @hE ?_)
    (apply WE_ret rfl rfl (by (repeat (first | exact ResOk.nil | (apply ResOk.tmp; rfl) | (apply resOk_cell; rfl; exact inferInstance; rfl; rfl)))); (first | exact ⟨rfl, rfl⟩ | exact ⟨congrArg Value.bool (by decide), rfl⟩ | exact ⟨_, rfl, rfl⟩ | exact ⟨_, _, rfl, rfl⟩ | exact ⟨by first | (simp [hlt]; done) | (simp [hlt] <;> omega), rfl⟩); (repeat (first | exact Ent.refl | exact Ent.nil | apply Ent.pick | apply Ent.drop)))
  · repeat (first | rintro _ _ ⟨rfl, rfl⟩ | refine exq fun _ => ?_ | intro _ | refine go ?_ | refine drq ?_ | refine cal @hE ?_)
    (apply WE_ret rfl rfl (by (repeat (first | exact ResOk.nil | (apply ResOk.tmp; rfl) | (apply resOk_cell; rfl; exact inferInstance; rfl; rfl)))); (first | exact ⟨rfl, rfl⟩ | exact ⟨congrArg Value.bool (by decide), rfl⟩ | exact ⟨_, rfl, rfl⟩ | exact ⟨_, _, rfl, rfl⟩ | exact ⟨by first | (simp [hlt]; done) | (simp [hlt] <;> omega), rfl⟩); (repeat (first | exact Ent.refl | exact Ent.nil | apply Ent.pick | apply Ent.drop)))

theorem dr_Split_111 {Q P : Prop} (k : Q) (h : Hid Q → P := by
  intro k
  first
  | (refine is_draw ?_; apply WC_mix (id := 1) .false _ (pl := .p 1 <| .p 2 <| .p 3 <| .r 0 <| .r 4 <| .r 5 <| .e true [(6, .e true [(7, .p 8 <| .p 9 <| .p 10 <| .p 11 <| .done)])]); exact mixed; kernel_rfl; kernel_rfl; exact Ent.refl; exact k.out)) : P := h ⟨k⟩
theorem split_Join {F : List HP} {c : Cfg} {l w : Int} (hc : c.wf) (hl : I64 l) (hw : I64 w) : FnF Try.prog 111 [c.val, .int .i64 l, .int .i64 w] [] F (fun r L' => r = .tuple [.int .i64 (joinN c l w), .int .i64 (joinE c l w)].toArray ∧ L' = []) := by
  cases e : checkB c with
  | false =>
    have r1 : joinN c l w = 0 := by simp [joinN, okJoin, e]
    have r2 : joinE c l w = 1 := by simp [joinE, okJoin, e]
    have hn : ∀ a b : Prop, ¬ (checkB c = true ∧ a ∧ b) := fun a b h => by simp [e] at h
    rw [r1, r2]
    refine FnF.mk' Try.func111 rfl rfl Try.ntmps111 rfl ?_
    repeat (first | rintro _ _ ⟨rfl, rfl⟩ | refine exq fun _ => ?_ | intro _ | refine go ?_ | refine dr_Split_111 ?_ | refine drq ?_ | refine cal @shape_Size ?_ | refine cal (split_joined_no hc (by simp [e])) ?_)
    exact fin0
  | true =>
    obtain ⟨_, _, _, ⟨k, hk, ek⟩, ⟨n, hn, en⟩, _⟩ := check_facts e
    have b1 := pow_bd hk
    have b2 := pow_bd hn
    rw [← ek] at b1
    rw [← en] at b2
    simp only [Int.reducePow] at b1 b2
    have hb := mul_bd (a := c.words) (b := c.lines) (m := 8) (n := 1024) (by omega) (by omega) (by omega) (by omega) (by omega)
    have hS := fun F => shape_Size (F := F) hc
    simp only [sizeOf', e, if_true] at hS
    by_cases h : 0 ≤ w ∧ w < c.words ∧ 0 ≤ l ∧ l < c.words * c.lines
    · have key : l * c.words + w < c.words * c.lines ↔ l < c.lines := by
        rw [Int.mul_comm c.words c.lines]
        exact ⟨fun q => lt_of_mul q (by omega) (by omega), fun q => mul_lt (by omega) q (by omega) (by omega)⟩
      have r1 : joinN c l w = if l * c.words + w < c.words * c.lines then l * c.words + w else 0 := by simp only [joinN, okJoin, e, key]; simp; congr 1; simp; omega
      have r2 : joinE c l w = if l * c.words + w < c.words * c.lines then 0 else 1 := by simp only [joinE, okJoin, e, key]; simp; congr 1; simp; omega
      rw [r1, r2]
      refine FnF.mk' Try.func111 rfl rfl Try.ntmps111 rfl ?_
      repeat (first | rintro _ _ ⟨rfl, rfl⟩ | refine exq fun _ => ?_ | intro _ | refine go ?_ | refine dr_Split_111 ?_ | refine drq ?_ | refine cal @hS ?_ | refine cal @split_joined ?_)
      exact fin0
    · have hle : c.lines ≤ c.words * c.lines := by
        have := Int.mul_le_mul_of_nonneg_right (a := 1) (b := c.words) (c := c.lines) (by omega) (by omega)
        omega
      have r0 : okJoin c l w = false := by simp only [okJoin, e]; simp; omega
      have r1 : joinN c l w = 0 := by simp [joinN, r0]
      have r2 : joinE c l w = 1 := by simp [joinE, r0]
      rw [r1, r2]
      have hno : ¬ (checkB c = true ∧ 0 ≤ w ∧ w < c.words ∧ 0 ≤ l ∧ l < c.words * c.lines) := fun q => h q.2
      refine FnF.mk' Try.func111 rfl rfl Try.ntmps111 rfl ?_
      repeat (first | rintro _ _ ⟨rfl, rfl⟩ | refine exq fun _ => ?_ | intro _ | refine go ?_ | refine dr_Split_111 ?_ | refine drq ?_ | refine cal @hS ?_ | refine cal @split_joined_no ?_)
      exact fin0

/-! ## The lines of a home -/
/-- How many lines below n are h, h + H, .. -/
def cntN (n h H : Nat) : Nat := (n + (H - 1) - h) / H
theorem cnt_lt {n h H k : Nat} (hH : h < H) : k < cntN n h H ↔ h + k * H < n := by
  unfold cntN
  rw [Nat.lt_iff_add_one_le, Nat.le_div_iff_mul_le (by omega), Nat.add_mul]
  omega
theorem cnt_zero {h H : Nat} (hH : h < H) : cntN 0 h H = 0 := by
  have : ¬ 0 < cntN 0 h H := fun q => by have := (cnt_lt hH).1 q; omega
  omega
theorem cnt_succ {n h H : Nat} (hH : h < H) : cntN (n + 1) h H = cntN n h H + if n % H = h then 1 else 0 := by
  have a : ∀ k, k < cntN (n + 1) h H ↔ k < cntN n h H ∨ h + k * H = n := fun k => by rw [cnt_lt hH, cnt_lt hH]; omega
  have b : ∀ k, h + k * H = n → n % H = h := fun k q => by rw [← q, Nat.add_mul_mod_self_right, Nat.mod_eq_of_lt hH]
  split
  · rename_i hm
    have hk : h + (n / H) * H = n := by rw [← hm]; have := Nat.mod_add_div n H; rw [Nat.mul_comm] at this; omega
    have h1 := (a (n / H)).2 (.inr hk)
    have h2 : ∀ k, k < cntN n h H → k < n / H := fun k q => by
      have := (cnt_lt hH).1 q
      rcases Nat.lt_or_ge k (n / H) with z | z
      · exact z
      · have := Nat.mul_le_mul_right H z; omega
    have h3 : ¬ n / H < cntN n h H := fun q => Nat.lt_irrefl _ (h2 _ q)
    have h4 : ¬ n / H + 1 < cntN (n + 1) h H := fun q => by
      rcases (a _).1 q with z | z
      · have := h2 _ z; omega
      · rw [Nat.add_mul] at z; omega
    have h5 : cntN n h H = n / H := by
      rcases Nat.lt_or_ge (cntN n h H) (n / H) with z | z
      · exfalso
        have : cntN n h H < cntN (n + 1) h H := by omega
        rcases (a _).1 this with y | y
        · omega
        · have := Nat.mul_le_mul_right H z
          rw [Nat.succ_mul] at this
          omega
      · omega
    omega
  · rename_i hm
    have h1 : ∀ k, k < cntN (n + 1) h H ↔ k < cntN n h H := fun k => by
      rw [a]; exact ⟨fun q => q.elim id (fun z => absurd (b k z) hm), .inl⟩
    have := h1 (cntN n h H)
    have := h1 (cntN (n + 1) h H)
    omega

def rowN (h H k : Nat) : List Int := (List.range k).map fun (i : Nat) => ((h + i * H : Nat) : Int)
theorem rowN_succ (h H k : Nat) : rowN h H (k + 1) = rowN h H k ++ [((h + k * H : Nat) : Int)] := by
  simp [rowN, List.range_succ]
theorem rowN_len (h H k : Nat) : (rowN h H k).length = k := by simp [rowN]
theorem rowN_get (h H k i : Nat) (hi : i < (rowN h H k).length) : (rowN h H k)[i] = ((h + i * H : Nat) : Int) := by
  simp [rowN]
def linesL (c : Cfg) (h : Int) : List Int := if checkB c && decide (0 ≤ h ∧ h < c.homes) then rowN h.toNat c.homes.toNat (cntN c.lines.toNat h.toNat c.homes.toNat) else []

theorem split_Lines {F : List HP} {c : Cfg} {h : Int} (hc : c.wf) (hh : I64 h) :
    FnF Try.prog 37 [c.val, .int .i64 h] [] F (fun r L' => ∃ p q, r = .slice p (linesL c h).length q ∧ L' = [Own 3 1 (.slice p (linesL c h).length q) (linesL c h).length (flat ic (linesL c h))]) := by
  have hE := fun F => shape_Check (F := F) hc
  cases e : checkB c with
  | false =>
    have r1 : linesL c h = [] := by simp [linesL, e]
    rw [r1]
    simp only [checkE, e] at hE
    refine FnF.mk' Try.func37 rfl rfl Try.ntmps37 rfl ?_
    repeat (first | rintro _ _ ⟨rfl, rfl⟩ | refine exq fun _ => ?_ | intro _ | refine go ?_ | refine drq ?_ | refine cal @hE ?_)
    (apply WE_ret rfl rfl (by (repeat (first | exact ResOk.nil | (apply ResOk.tmp; rfl) | (apply resOk_cell; rfl; exact inferInstance; rfl; rfl)))))
    · exact ⟨_, _, rfl, rfl⟩
    · exact own_empty (by exact entu0)
  | true =>
    simp only [checkE, e, if_true] at hE
    by_cases hr : 0 ≤ h ∧ h < c.homes
    · obtain ⟨_, ⟨m, hm, em⟩, _, _, ⟨n, hn, en⟩, _⟩ := check_facts e
      have b1 := pow_bd hm
      have b2 := pow_bd hn
      rw [← em] at b1
      rw [← en] at b2
      simp only [Int.reducePow] at b1 b2
      obtain ⟨H, eH⟩ : ∃ H : Nat, c.homes = H := ⟨c.homes.toNat, by omega⟩
      obtain ⟨n, en⟩ : ∃ n : Nat, c.lines = n := ⟨c.lines.toNat, by omega⟩
      obtain ⟨h, rfl⟩ : ∃ n : Nat, h = n := ⟨h.toNat, by omega⟩
      have r1 : linesL c h = rowN h H (cntN n h H) := by simp [linesL, e, eH, en]; omega
      have hH : h < H := by omega
      rw [r1]
      refine FnF.mk' Try.func37 rfl rfl Try.ntmps37 rfl ?_
      repeat (first | rintro _ _ ⟨rfl, rfl⟩ | refine exq fun _ => ?_ | intro _ | refine go ?_ | refine drq ?_ | refine cal @hE ?_)
      rename_i bc
      apply WC_loopE (E0 := [(2, _)]) (fun E0 (q : Nat × Option Addr × Nat) => (6, .int .i64 ((h + q.1 * H : Nat) : Int)) :: (5, .slice q.2.1 q.1 q.2.2) :: E0)
        (fun q => Own 3 1 (.slice q.2.1 q.1 q.2.2) q.1 (flat ic (rowN h H q.1)) :: Cells bc 24 c.cells :: F) (fun q => q.1 ≤ cntN n h H) (fun q => cntN n h H - q.1) (0, none, 0)
      · simp only [Nat.zero_mul, Nat.add_zero]; (repeat (first | exact Sub.nil | (refine Sub.cons (by first | rfl | (simp only [Nat.zero_add]; rfl)) ?_)))
      · exact Nat.zero_le _
      · exact own_empty (by exact entu0)
      · rintro ⟨k, p, q⟩ hk
        dsimp only at hk ⊢
        have hlt := cnt_lt (n := n) (k := k) hH
        have hcn : cntN n h H ≤ n + H := by
          unfold cntN
          exact Nat.le_trans (Nat.div_le_self _ _) (by omega)
        by_cases hk2 : k < cntN n h H
        · have h2 := hlt.1 hk2
          repeat (first | rintro _ _ ⟨rfl, rfl⟩ | refine exq fun _ => ?_ | intro _ | refine go ?_ | refine drq ?_)
          rename_i b' p' q'
          refine WE_loop (k + 1, p', q') (by dsimp only; omega) (by dsimp only; omega) ?_ ?_
          · dsimp only
            have e3 : ((h + (k + 1) * H : Nat) : Int) = ((h + k * H : Nat) : Int) + c.homes := by rw [eH, Nat.add_mul]; omega
            rw [e3]; (repeat (first | exact Sub.nil | (refine Sub.cons (by first | rfl | (simp only [Nat.zero_add]; rfl)) ?_)))
          · dsimp only; rw [rowN_succ, flat_append, flat_one]; exact entu0
        · have h2 : ¬ h + k * H < n := fun z => hk2 (hlt.2 z)
          have h3 : k = cntN n h H := by omega
          subst h3
          repeat (first | rintro _ _ ⟨rfl, rfl⟩ | refine exq fun _ => ?_ | intro _ | refine go ?_ | refine drq ?_)
          rw [show (rowN h H (cntN n h H)).length = cntN n h H from rowN_len _ _ _]
          (apply WE_ret rfl rfl (by (repeat (first | exact ResOk.nil | (apply ResOk.tmp; rfl) | (apply resOk_cell; rfl; exact inferInstance; rfl; rfl)))))
          · exact ⟨_, _, rfl, rfl⟩
          · exact entu0
    · have r1 : linesL c h = [] := by simp [linesL, hr]
      rw [r1]
      refine FnF.mk' Try.func37 rfl rfl Try.ntmps37 rfl ?_
      repeat' (first | rintro _ _ ⟨rfl, rfl⟩ | refine exq fun _ => ?_ | intro _ | refine go ?_ | refine drq ?_ | refine cal @hE ?_ | refine spl ?_ ?_ | fail)
      all_goals first | (exfalso; omega) | skip
      all_goals (apply WE_ret rfl rfl (by (repeat (first | exact ResOk.nil | (apply ResOk.tmp; rfl) | (apply resOk_cell; rfl; exact inferInstance; rfl; rfl)))))
      all_goals first | exact ⟨_, _, rfl, rfl⟩ | exact own_empty (by exact entu0)
end Go.Sx

/- What arrays of ways do. The program's. My own work. -/
namespace Go.Sx
open Go Go.Proofs
set_option linter.unusedVariables false
set_option linter.unusedSectionVars false
set_option linter.unusedSimpArgs false

/-! ## Told of lists -/
def thereB (w : Way) : Bool := decide (w.st ≠ 0) || w.lk
def pHas (line : Int) (w : Way) : Bool := thereB w && decide (w.line = line)
def arrF (c : Cfg) (line : Int) : Nat := (lineS c line).toNat * c.ways.toNat
def waysOf (c : Cfg) (l : List Way) (line : Int) : List Way := if okLine c line then (l.drop (arrF c line)).take c.ways.toNat else []
def arrP (c : Cfg) (l : List Way) (line : Int) : Int := indexBy (pHas line) (waysOf c l line)
def arrFree (c : Cfg) (l : List Way) (line : Int) : Int := indexBy (fun w => !thereB w) (waysOf c l line)
def findW (c : Cfg) (l : List Way) (line : Int) : Way := if arrP c l line < 0 then .zero else (waysOf c l line).getD (arrP c l line).toNat .zero
def findI (c : Cfg) (l : List Way) (line : Int) : Int := if arrP c l line < 0 then 0 else arrP c l line
def findB (c : Cfg) (l : List Way) (line : Int) : Bool := !decide (arrP c l line < 0)
def oddW (c : Cfg) (w : Words) : Bool := decide (0 ≤ indexBy (fun n => !decide (n = 0)) (w.list.drop c.words.toNat))
def layE (c : Cfg) (l : List Way) (line way : Int) : Int := if 0 ≤ way ∧ way < (waysOf c l line).length then (if arrP c l line = -1 then (if thereB ((waysOf c l line).getD way.toNat .zero) then 4 else 0) else 6) else 1
def layL (c : Cfg) (l : List Way) (line way : Int) : List Way := if layE c l line way = 0 then l.set (arrF c line + way.toNat) ⟨0, line, .zero, true⟩ else l
def setE (c : Cfg) (l : List Way) (line st : Int) (w : Words) : Int := if arrP c l line = -1 then 5 else if st < 0 ∨ st > 4 ∨ oddW c w = true then 1 else 0
def setL (c : Cfg) (l : List Way) (line st : Int) (w : Words) : List Way := if setE c l line st w = 0 then l.set (arrF c line + (arrP c l line).toNat) { findW c l line with st := st, words := if st = 0 then .zero else w } else l
def lockE (c : Cfg) (l : List Way) (line : Int) : Int := if arrP c l line = -1 then 5 else 0
def lockL (c : Cfg) (l : List Way) (line : Int) (lk : Bool) : List Way := if lockE c l line = 0 then l.set (arrF c line + (arrP c l line).toNat) { findW c l line with lk := lk } else l
def inWay (c : Cfg) (s k : Int) : Bool := decide (0 ≤ s ∧ s < c.sets ∧ 0 ≤ k ∧ k < c.ways)
def atW (c : Cfg) (l : List Way) (s k : Int) : Way := if inWay c s k then l.getD (s.toNat * c.ways.toNat + k.toNat) .zero else .zero

/-- A slice in a block, not to be looked into. -/
def wsl (g o n c : Nat) : Value := .slice (some ⟨g, o, none⟩) n c
theorem pb_wsl {g o n c : Nat} : pb (wsl g o n c) = g := rfl
theorem po_wsl {g o n c : Nat} : po (wsl g o n c) = o := rfl

/-! ## An array in memory -/
def ArrB (T TW : TypeId) (b : Nat) (c : Cfg) (l : List Way) : HP :=
  Ex fun g : Nat => [Cells b T (c.cells ++ [.slice (some ⟨g, 0, none⟩) l.length l.length]), Cells g TW (flat wyc l), Fact (checkB c = true ∧ (l.length : Int) = c.sets * c.ways)]
theorem arr_in {T TW : TypeId} {b g n : Nat} {c : Cfg} {l : List Way} {xs : List Value} {L M : List HP} (h : Ent L (Cells b T (c.cells ++ [.slice (some ⟨g, 0, none⟩) n n]) :: Cells g TW xs :: M)) (hn : n = l.length) (hx : xs = flat wyc l)
    (hc : checkB c = true) (hl : (l.length : Int) = c.sets * c.ways) : Ent L (ArrB T TW b c l :: M) := by
  subst hn hx
  refine Ent.trans h (Ent.trans ?_ (ex_intro (p := fun g : Nat => [Cells b T (c.cells ++ [.slice (some ⟨g, 0, none⟩) l.length l.length]), Cells g TW (flat wyc l), Fact (checkB c = true ∧ (l.length : Int) = c.sets * c.ways)]) g))
  exact Ent.cons (Ent.cons (star_fact_mk ⟨hc, hl⟩))
theorem arr_sat {T TW : TypeId} {b : Nat} {c : Cfg} {l : List Way} {L : List HP} {w : World} (h : Sat (ArrB T TW b c l :: L) w) : ∃ g, (checkB c = true ∧ (l.length : Int) = c.sets * c.ways) ∧ Sat (Cells b T (c.cells ++ [.slice (some ⟨g, 0, none⟩) l.length l.length]) :: Cells g TW (flat wyc l) :: L) w := by
  obtain ⟨g, hx⟩ := star_ex h
  simp only [app] at hx
  exact ⟨g, fact_of (star_drop (star_drop hx)), (Ent.cons (Ent.cons (Ent.drop Ent.refl))) _ hx⟩
section
variable {T TW : TypeId} {b : Nat} {c : Cfg} {l : List Way} {P : Program} {N : Nat} {env : Env} {L : List HP} {Q : Exit → Act → World → Prop}
theorem arr_open {co : Code} (h : ∀ g, (checkB c = true ∧ (l.length : Int) = c.sets * c.ways) → WC P N co env (Cells b T (c.cells ++ [.slice (some ⟨g, 0, none⟩) l.length l.length]) :: Cells g TW (flat wyc l) :: L) Q) : WC P N co env (ArrB T TW b c l :: L) Q := by
  intro a w ha hw
  obtain ⟨g, hf, hx⟩ := arr_sat hw
  exact h g hf a w ha hx
theorem arr_openO {all : Array Oper} {o : List Oper} (h : ∀ g, (checkB c = true ∧ (l.length : Int) = c.sets * c.ways) → WO P N all o env (Cells b T (c.cells ++ [.slice (some ⟨g, 0, none⟩) l.length l.length]) :: Cells g TW (flat wyc l) :: L) Q) : WO P N all o env (ArrB T TW b c l :: L) Q := by
  intro a w ha hw
  obtain ⟨g, hf, hx⟩ := arr_sat hw
  exact h g hf a w ha hx
end

/-! ## Numbers -/
theorem set_room {s W S : Nat} (h : s < S) : s * W + W ≤ S * W := by
  have := Nat.mul_le_mul_right W (show s + 1 ≤ S by omega)
  rw [Nat.succ_mul] at this; exact this
theorem arr_nums {c : Cfg} {n : Nat} (hc : checkB c = true) (hn : (n : Int) = c.sets * c.ways) : n = c.sets.toNat * c.ways.toNat ∧ 1 ≤ c.ways ∧ c.ways ≤ 8 ∧ 1 ≤ c.sets ∧ c.sets ≤ 64 ∧ n ≤ 512 := by
  obtain ⟨_, _, ⟨k, hk, e⟩, _, _, h1, h2⟩ := check_facts hc
  have := pow_bd hk
  have h3 : 1 ≤ c.sets ∧ c.sets ≤ 64 := by rw [e]; exact ⟨this.1, by have := this.2; simpa using this⟩
  have e1 : ((c.sets.toNat * c.ways.toNat : Nat) : Int) = c.sets * c.ways := by
    rw [Int.natCast_mul, Int.toNat_of_nonneg (by omega), Int.toNat_of_nonneg (by omega)]
  have e2 : n = c.sets.toNat * c.ways.toNat := by omega
  have e3 : c.sets.toNat * c.ways.toNat ≤ 64 * 8 := Nat.mul_le_mul (by omega) (by omega)
  exact ⟨e2, h1, h2, h3.1, h3.2, by omega⟩
theorem ok_set' {c : Cfg} {line : Int} (h : okLine c line = true) : 0 ≤ lineS c line ∧ lineS c line < c.sets ∧ lineS c line = line % c.sets ∧ 0 ≤ line ∧ line < c.lines := by
  obtain ⟨hc, h0, h1⟩ := line_big h
  obtain ⟨_, _, ⟨k, hk, e⟩, _⟩ := check_facts hc
  have h2 := (pow_bd hk).1
  have e2 : lineS c line = line % c.sets := if_pos h
  rw [e2]
  rw [e]
  exact ⟨Int.emod_nonneg _ (by omega), Int.emod_lt_of_pos _ (by omega), rfl, h0, h1⟩
theorem ways_len {c : Cfg} {l : List Way} {line : Int} (hc : checkB c = true) (hn : (l.length : Int) = c.sets * c.ways) (h : okLine c line = true) : (waysOf c l line).length = c.ways.toNat ∧ arrF c line + c.ways.toNat ≤ l.length := by
  obtain ⟨e, h1, h2, h3, h4, h5⟩ := arr_nums hc hn
  obtain ⟨s0, s1, _⟩ := ok_set' h
  have hr := set_room (s := (lineS c line).toNat) (W := c.ways.toNat) (S := c.sets.toNat) (by omega)
  have : arrF c line + c.ways.toNat ≤ l.length := by rw [e]; exact hr
  refine ⟨?_, this⟩
  unfold waysOf; rw [if_pos h, List.length_take, List.length_drop]; omega
theorem rd_ways {g T : Nat} {l : List Way} {f k cap : Nat} (hf : f + k ≤ l.length) (L : List HP) : RdL (Cells g T (flat wyc l) :: L) 11 (wsl g (f * 11) k cap) ((l.drop f).take k).length (flat wyc ((l.drop f).take k)) := by
  have hx : ((flat wyc l).drop (f * 11)).take (k * 11) = flat wyc ((l.drop f).take k) := by
    rw [flat_drop (enc := wyc) (n := 11) (fun _ => rfl), flat_take (enc := wyc) (n := 11) (fun _ => rfl)]
  have hl : (flat wyc l).length = l.length * 11 := flat_length (enc := wyc) (n := 11) (fun _ => rfl) l
  have kk := rd_cells (L := Cells g T (flat wyc l) :: L) (o := f * 11) (m := k) (c := cap) (sz := 11) (b := g) inferInstance (by rw [hl, ← Nat.add_mul]; exact Nat.mul_le_mul_right _ hf) (by
    rw [hx, List.all_eq_true]
    intro v hv
    obtain ⟨w, _, hw⟩ := List.mem_flatMap.1 hv
    simp [wyc] at hw
    rcases hw with h | h | h | h | h | h | h | h | h | h | h <;> (rw [h]; rfl))
  rw [hx] at kk
  have e : ((l.drop f).take k).length = k := by rw [List.length_take, List.length_drop]; omega
  rw [e]; exact kk
attribute [irreducible] wsl
set_option maxRecDepth 100000
set_option maxHeartbeats 4000000
attribute [local irreducible] Go.Exit.then Go.Exit.inBlock Go.Code.wp WC WO WE WQ V LoopQ FnQ Sat Star band bor IntKind.wrap WR Code.rounds WT KO
abbrev ArrP := ArrB 230 142
abbrev acs (b g : Nat) (c : Cfg) (l : List Way) : HP := Cells b 230 (c.cells ++ [.slice (some ⟨g, 0, none⟩) l.length l.length])

theorem dr_Arr_85 {Q P : Prop} (k : Q) (h : Hid Q → P := by
  intro k
  first
  | (refine is_draw ?_; apply WC_mix (id := 4) .true _ (pl := .p 1 <| .p 3 <| .r 0 <| .r 2 <| .r 4 <| .p 5 <| .e true [(6, .p 7 <| .e true [(8, .p 9 <| .p 10 <| .done)])]); exact mixed; kernel_rfl; kernel_rfl; exact Ent.refl; exact k.out)) : P := h ⟨k⟩
theorem arr_New_no {F : List HP} {c : Cfg} (hc : c.wf) (h : checkB c = false) : FnF Try.prog 85 [c.val] [] F (fun r L' => r = .tuple [.pointer none, .int .i64 1].toArray ∧ L' = []) := by
  have hC := fun F => shape_Check (F := F) hc
  simp only [checkE, h, Bool.false_eq_true, if_false] at hC
  refine FnF.mk' Try.func85 rfl rfl Try.ntmps85 rfl ?_
  repeat (first | rintro _ _ ⟨rfl, rfl⟩ | refine exq fun _ => ?_ | intro _ | refine go ?_ | refine dr_Arr_85 ?_ | refine drq ?_ | refine cal @hC ?_)
  exact fin0
theorem arr_there {F : List HP} {w : Way} : FnF Try.prog 125 [wyv w] [] F (fun r L' => r = .bool (thereB w) ∧ L' = []) := by
  refine FnF.mk' Try.func125 rfl rfl Try.ntmps125 rfl ?_
  by_cases h : w.st = 0
  · repeat (first | rintro _ _ ⟨rfl, rfl⟩ | refine exq fun _ => ?_ | intro _ | refine go ?_ | refine drq ?_)
    (apply WE_ret rfl rfl (by (repeat (first | exact ResOk.nil | (apply ResOk.tmp; rfl) | (apply resOk_cell; rfl; exact inferInstance; rfl; rfl)))); (first | exact ⟨rfl, rfl⟩ | exact ⟨congrArg Value.bool (by decide), rfl⟩ | exact ⟨_, rfl, rfl⟩ | exact ⟨_, _, rfl, rfl⟩ | exact ⟨by first | (simp [thereB, h]; done) | (simp [thereB, h] <;> omega), rfl⟩); (repeat (first | exact Ent.refl | exact Ent.nil | apply Ent.pick | apply Ent.drop)))
  · repeat (first | rintro _ _ ⟨rfl, rfl⟩ | refine exq fun _ => ?_ | intro _ | refine go ?_ | refine drq ?_)
    (apply WE_ret rfl rfl (by (repeat (first | exact ResOk.nil | (apply ResOk.tmp; rfl) | (apply resOk_cell; rfl; exact inferInstance; rfl; rfl)))); (first | exact ⟨rfl, rfl⟩ | exact ⟨congrArg Value.bool (by decide), rfl⟩ | exact ⟨_, rfl, rfl⟩ | exact ⟨_, _, rfl, rfl⟩ | exact ⟨by first | (simp [thereB, h]; done) | (simp [thereB, h] <;> omega), rfl⟩); (repeat (first | exact Ent.refl | exact Ent.nil | apply Ent.pick | apply Ent.drop)))
theorem arr_place1 {F : List HP} {b : Nat} {line : Int} {T : TypeId} {C : List Value → List HP} {w : Way} (k : CellsAt b F T [.int .i64 line] C) :
    FnF Try.prog 124 [wyv w, .pointer (some ⟨b, 0, none⟩)] [] F (fun r L' => r = .bool (pHas line w) ∧ L' = []) := by
  have hT := fun F => arr_there (F := F) (w := w)
  refine FnF.mk' Try.func124 rfl rfl Try.ntmps124 rfl ?_
  cases h : thereB w with
  | true =>
    rw [h] at hT
    repeat (first | rintro _ _ ⟨rfl, rfl⟩ | refine exq fun _ => ?_ | intro _ | refine go ?_ | refine drq ?_ | refine cal @hT ?_)
    (apply WE_ret rfl rfl (by (repeat (first | exact ResOk.nil | (apply ResOk.tmp; rfl) | (apply resOk_cell; rfl; exact inferInstance; rfl; rfl)))); (first | exact ⟨rfl, rfl⟩ | exact ⟨congrArg Value.bool (by decide), rfl⟩ | exact ⟨_, rfl, rfl⟩ | exact ⟨_, _, rfl, rfl⟩ | exact ⟨by first | (simp [pHas, h]; done) | (simp [pHas, h] <;> omega), rfl⟩); (repeat (first | exact Ent.refl | exact Ent.nil | apply Ent.pick | apply Ent.drop)))
  | false =>
    rw [h] at hT
    repeat (first | rintro _ _ ⟨rfl, rfl⟩ | refine exq fun _ => ?_ | intro _ | refine go ?_ | refine drq ?_ | refine cal @hT ?_)
    (apply WE_ret rfl rfl (by (repeat (first | exact ResOk.nil | (apply ResOk.tmp; rfl) | (apply resOk_cell; rfl; exact inferInstance; rfl; rfl)))); (first | exact ⟨rfl, rfl⟩ | exact ⟨congrArg Value.bool (by decide), rfl⟩ | exact ⟨_, rfl, rfl⟩ | exact ⟨_, _, rfl, rfl⟩ | exact ⟨by first | (simp [pHas, h]; done) | (simp [pHas, h] <;> omega), rfl⟩); (repeat (first | exact Ent.refl | exact Ent.nil | apply Ent.pick | apply Ent.drop)))
theorem arr_ways {F : List HP} {b g : Nat} {c : Cfg} {l : List Way} {s : Int} (hc : checkB c = true) (hn : (l.length : Int) = c.sets * c.ways) (h0 : 0 ≤ s) (h1 : s < c.sets) :
    FnF Try.prog 126 [.pointer (some ⟨b, 0, none⟩), .int .i64 s] [acs b g c l] F (fun r L' => r = wsl g (s.toNat * c.ways.toNat * 11) c.ways.toNat c.ways.toNat ∧ L' = [acs b g c l]) := by
  obtain ⟨e, h2, h3, h4, h5, h6⟩ := arr_nums hc hn
  have hr := set_room (s := s.toNat) (W := c.ways.toNat) (S := c.sets.toNat) (by omega)
  have hz : s * c.ways = ((s.toNat * c.ways.toNat : Nat) : Int) := by rw [Int.natCast_mul, Int.toNat_of_nonneg h0, Int.toNat_of_nonneg (by omega)]
  rw [← e] at hr
  generalize s.toNat * c.ways.toNat = z at *
  refine FnF.mk' Try.func126 rfl rfl Try.ntmps126 rfl ?_
  repeat (first | rintro _ _ ⟨rfl, rfl⟩ | refine exq fun _ => ?_ | intro _ | refine go ?_ | refine drq ?_)
  (apply WE_ret rfl rfl (by (repeat (first | exact ResOk.nil | (apply ResOk.tmp; rfl) | (apply resOk_cell; rfl; exact inferInstance; rfl; rfl)))))
  · refine ⟨?_, rfl⟩
    rw [cut_at (by omega)]
    have e1 : (s * c.ways).toNat = z := by omega
    have e2 : (s * c.ways + c.ways).toNat - (s * c.ways).toNat = c.ways.toNat := by omega
    rw [e2, e1, Nat.zero_add]
    unfold wsl; rfl
  · exact entu0
theorem arr_of {F : List HP} {b g : Nat} {c : Cfg} {l : List Way} {line : Int} (hw : c.wf) (hli : I64 line) (hc : checkB c = true) (hn : (l.length : Int) = c.sets * c.ways) (h : okLine c line = true) :
    FnF Try.prog 114 [.pointer (some ⟨b, 0, none⟩), .int .i64 line] [acs b g c l] F (fun r L' => r = wsl g (arrF c line * 11) c.ways.toNat c.ways.toNat ∧ L' = [acs b g c l]) := by
  have hL := fun F => split_Line (F := F) (c := c) (a := line) hw hli
  obtain ⟨s0, s1, _⟩ := ok_set' h
  have hW := fun F => arr_ways (F := F) (b := b) (g := g) (c := c) (l := l) (s := lineS c line) hc hn s0 s1
  have e0 : lineE c line = 0 := if_pos h
  simp only [e0] at hL
  refine FnF.mk' Try.func114 rfl rfl Try.ntmps114 rfl ?_
  repeat (first | rintro _ _ ⟨rfl, rfl⟩ | refine exq fun _ => ?_ | intro _ | refine go ?_ | refine drq ?_ | refine cal @hL ?_ | refine cal @hW ?_)
  (apply WE_ret rfl rfl (by (repeat (first | exact ResOk.nil | (apply ResOk.tmp; rfl) | (apply resOk_cell; rfl; exact inferInstance; rfl; rfl)))); (first | exact ⟨rfl, rfl⟩ | exact ⟨congrArg Value.bool (by decide), rfl⟩ | exact ⟨_, rfl, rfl⟩ | exact ⟨_, _, rfl, rfl⟩ | exact ⟨by first | (simp [arrF]; done) | (simp [arrF] <;> omega), rfl⟩); (repeat (first | exact Ent.refl | exact Ent.nil | apply Ent.pick | apply Ent.drop)))
theorem arr_of_no {F : List HP} {b g : Nat} {c : Cfg} {l : List Way} {line : Int} (hw : c.wf) (hli : I64 line) (h : okLine c line = false) :
    FnF Try.prog 114 [.pointer (some ⟨b, 0, none⟩), .int .i64 line] [acs b g c l] F (fun r L' => r = .slice none 0 0 ∧ L' = [acs b g c l]) := by
  have hL := fun F => split_Line (F := F) (c := c) (a := line) hw hli
  have e0 : lineE c line = 1 := by unfold lineE; rw [h]; rfl
  simp only [e0] at hL
  refine FnF.mk' Try.func114 rfl rfl Try.ntmps114 rfl ?_
  repeat (first | rintro _ _ ⟨rfl, rfl⟩ | refine exq fun _ => ?_ | intro _ | refine go ?_ | refine drq ?_ | refine cal @hL ?_)
  exact fin0
theorem waysOf_no {c : Cfg} {l : List Way} {line : Int} (h : okLine c line = false) : waysOf c l line = [] := by unfold waysOf; rw [h]; rfl
theorem waysOf_ok {c : Cfg} {l : List Way} {line : Int} (h : okLine c line = true) : waysOf c l line = (l.drop (arrF c line)).take c.ways.toNat := if_pos h
theorem arr_placeO {F : List HP} {b g : Nat} {c : Cfg} {l : List Way} {line : Int} (hw : c.wf) (hli : I64 line) (hc : checkB c = true) (hn : (l.length : Int) = c.sets * c.ways) :
    FnF Try.prog 113 [.pointer (some ⟨b, 0, none⟩), .int .i64 line] [acs b g c l, Cells g 142 (flat wyc l)] F (fun r L' => r = .int .i64 (arrP c l line) ∧ L' = [acs b g c l, Cells g 142 (flat wyc l)]) := by
  cases h : okLine c line with
  | true =>
    obtain ⟨k1, k2⟩ := ways_len hc hn h
    have hO := fun F => arr_of (F := F) (b := b) (g := g) hw hli hc hn h
    have kr := rd_ways (g := g) (T := 142) (cap := c.ways.toNat) k2
    rw [← waysOf_ok h, k1] at kr
    haveI := kr
    have hb : c.ways.toNat ≤ 512 := by have := (arr_nums hc hn).2.2.2.2.2; omega
    have hI := fun F (bl : Nat) (C : List Value → List HP) (k1' : CellsAt bl F 3 [.int .i64 line] C) (k : RdL F 11 (wsl g (arrF c line * 11) c.ways.toNat c.ways.toNat) c.ways.toNat (flat wyc (waysOf c l line))) =>
      sl_IndexFunc_way (F := F) (v := wsl g (arrF c line * 11) c.ways.toNat c.ways.toNat) (l := waysOf c l line) (fk := 124) (first := []) (cap := [.pointer (some ⟨bl, 0, none⟩)]) (p := pHas line) (by rw [k1]; exact k) (by omega) (fun x _ => arr_place1 k1')
    refine FnF.mk' Try.func113 rfl rfl Try.ntmps113 rfl ?_
    repeat (first | rintro _ _ ⟨rfl, rfl⟩ | refine exq fun _ => ?_ | intro _ | refine go ?_ | refine drq ?_ | refine cal @hO ?_ | refine cal @hI ?_)
    (apply WE_ret rfl rfl (by (repeat (first | exact ResOk.nil | (apply ResOk.tmp; rfl) | (apply resOk_cell; rfl; exact inferInstance; rfl; rfl)))); (first | exact ⟨rfl, rfl⟩ | exact ⟨congrArg Value.bool (by decide), rfl⟩ | exact ⟨_, rfl, rfl⟩ | exact ⟨_, _, rfl, rfl⟩ | exact ⟨by first | (simp [arrP]; done) | (simp [arrP] <;> omega), rfl⟩); (repeat (first | exact Ent.refl | exact Ent.nil | apply Ent.pick | apply Ent.drop)))
  | false =>
    have hO := fun F => arr_of_no (F := F) (b := b) (g := g) (l := l) hw hli h
    have hI := fun F (bl : Nat) (C : List Value → List HP) (k1' : CellsAt bl F 3 [.int .i64 line] C) =>
      sl_IndexFunc_way (F := F) (v := .slice none 0 0) (l := []) (fk := 124) (first := []) (cap := [.pointer (some ⟨bl, 0, none⟩)]) (p := pHas line) rd_empty (by simp) (fun x _ => arr_place1 k1')
    refine FnF.mk' Try.func113 rfl rfl Try.ntmps113 rfl ?_
    repeat (first | rintro _ _ ⟨rfl, rfl⟩ | refine exq fun _ => ?_ | intro _ | refine go ?_ | refine drq ?_ | refine cal @hO ?_ | refine cal @hI ?_)
    (apply WE_ret rfl rfl (by (repeat (first | exact ResOk.nil | (apply ResOk.tmp; rfl) | (apply resOk_cell; rfl; exact inferInstance; rfl; rfl)))); (first | exact ⟨rfl, rfl⟩ | exact ⟨congrArg Value.bool (by decide), rfl⟩ | exact ⟨_, rfl, rfl⟩ | exact ⟨_, _, rfl, rfl⟩ | exact ⟨by first | (simp [arrP, waysOf_no h]; done) | (simp [arrP, waysOf_no h] <;> omega), rfl⟩); (repeat (first | exact Ent.refl | exact Ent.nil | apply Ent.pick | apply Ent.drop)))
end Go.Sx

/- What package memory does. My own work. -/
namespace Go.Sx
open Go Go.Proofs
set_option linter.unusedVariables false
set_option linter.unusedSimpArgs false

theorem flat_ic_get {ms : List Int} {i : Nat} (hi : i < ms.length) : (flat ic ms)[i]? = some (.int .i64 ms[i]) := by
  induction ms generalizing i with
  | nil => simp at hi
  | cons a r ih =>
    cases i with
    | zero => simp [flat]
    | succ i => simpa [flat] using ih (i := i) (by simpa using hi)
theorem flat_ic_len (ms : List Int) : (flat ic ms).length = ms.length := by
  have := flat_length (enc := ic) (n := 1) (fun _ => rfl) ms
  rwa [Nat.mul_one] at this
theorem splice_ic {ms : List Int} {i : Nat} (hi : i < ms.length) (v : Int) : splice (flat ic ms) i [.int .i64 v] = flat ic (ms.set i v) := by
  have := splice_flatJ0 (enc := ic) (n := 1) (fun _ => rfl) ms i hi (cs := [.int .i64 v]) (x := v) (by simp) (by simp [splice])
  rwa [Nat.mul_one] at this

/-! ## A memory -/
def MemB (b : Nat) (c : Cfg) (ms : List Int) : HP :=
  Ex fun g : Nat => [Cells b 152 (c.cells ++ [.slice (some ⟨g, 0, none⟩) ms.length ms.length]), Cells g 3 (flat ic ms), Fact (checkB c = true ∧ (ms.length : Int) = c.words * c.lines ∧ ms.length ≤ 8192)]
theorem mem_in {b g n : Nat} {c : Cfg} {ms : List Int} {xs : List Value} {L M : List HP}
    (h : Ent L (Cells b 152 (c.cells ++ [.slice (some ⟨g, 0, none⟩) n n]) :: Cells g 3 xs :: M)) (hn : n = ms.length) (hx : xs = flat ic ms) (hl : checkB c = true ∧ (ms.length : Int) = c.words * c.lines ∧ ms.length ≤ 8192) : Ent L (MemB b c ms :: M) := by
  subst hn hx
  refine Ent.trans h (Ent.trans ?_ (ex_intro (p := fun g : Nat => [Cells b 152 (c.cells ++ [.slice (some ⟨g, 0, none⟩) ms.length ms.length]), Cells g 3 (flat ic ms), Fact (checkB c = true ∧ (ms.length : Int) = c.words * c.lines ∧ ms.length ≤ 8192)]) g))
  exact Ent.cons (Ent.cons (star_fact_mk hl))
theorem mem_sat {b : Nat} {c : Cfg} {ms : List Int} {L : List HP} {w : World} (h : Sat (MemB b c ms :: L) w) : (checkB c = true ∧ (ms.length : Int) = c.words * c.lines ∧ ms.length ≤ 8192) ∧
    ∃ g, Sat (Cells b 152 (c.cells ++ [.slice (some ⟨g, 0, none⟩) ms.length ms.length]) :: Cells g 3 (flat ic ms) :: L) w := by
  obtain ⟨g, hx⟩ := star_ex h
  simp only [app] at hx
  have hf := fact_of (star_drop (star_drop hx))
  exact ⟨hf, g, (Ent.cons (Ent.cons (Ent.drop Ent.refl))) _ hx⟩
theorem mem_open {b : Nat} {c0 : Cfg} {ms : List Int} {P : Program} {N : Nat} {c : Code} {env : Env} {L : List HP} {Q : Exit → Act → World → Prop}
    (h : ∀ g, (checkB c0 = true ∧ (ms.length : Int) = c0.words * c0.lines ∧ ms.length ≤ 8192) → WC P N c env (Cells b 152 (c0.cells ++ [.slice (some ⟨g, 0, none⟩) ms.length ms.length]) :: Cells g 3 (flat ic ms) :: L) Q) : WC P N c env (MemB b c0 ms :: L) Q := by
  intro a w ha hw
  obtain ⟨hf, g, hx⟩ := mem_sat hw
  exact h g hf a w ha hx
theorem mem_openO {b : Nat} {c0 : Cfg} {ms : List Int} {P : Program} {N : Nat} {all : Array Oper} {c : List Oper} {env : Env} {L : List HP} {Q : Exit → Act → World → Prop}
    (h : ∀ g, (checkB c0 = true ∧ (ms.length : Int) = c0.words * c0.lines ∧ ms.length ≤ 8192) → WO P N all c env (Cells b 152 (c0.cells ++ [.slice (some ⟨g, 0, none⟩) ms.length ms.length]) :: Cells g 3 (flat ic ms) :: L) Q) : WO P N all c env (MemB b c0 ms :: L) Q := by
  intro a w ha hw
  obtain ⟨hf, g, hx⟩ := mem_sat hw
  exact h g hf a w ha hx
set_option maxRecDepth 100000
set_option maxHeartbeats 4000000
attribute [local irreducible] Go.Exit.then Go.Exit.inBlock Go.Code.wp WC WO WE WQ V LoopQ FnQ Sat Star band bor IntKind.wrap WR Code.rounds WT KO
def touchL (ms : List Int) (i : Nat) (x : Op3) : List Int := if x.kind = 2 ∨ x.kind = 3 then ms.set i x.value else ms
def touchE (ms : List Int) (i : Nat) (x : Op3) : Int := if x.kind = 2 then 0 else ms.getD i 0
theorem mem_touch {F : List HP} {g T i : Nat} {ms : List Int} {x : Op3} (hi : i < ms.length) : FnF Try.prog 60 [.pointer (some ⟨g, i, none⟩), ov x] [Cells g T (flat ic ms)] F (fun r L' => r = .int .i64 (touchE ms i x) ∧ L' = [Cells g T (flat ic (touchL ms i x))]) := by
  have hg := flat_ic_get hi
  refine FnF.mk' Try.func60 rfl rfl Try.ntmps60 rfl ?_
  repeat (first | rintro _ _ ⟨rfl, rfl⟩ | refine exq fun _ => ?_ | intro _ | refine go ?_ | refine drq ?_)
  have hle : Nat.ble (i + 1) (flat ic ms).length = true := by rw [flat_ic_len]; exact Nat.ble_eq_true_of_le hi
  have hgd : ms.getD i 0 = ms[i] := by simp [hi]
  by_cases h2 : x.kind = 2
  · repeat (first | rintro _ _ ⟨rfl, rfl⟩ | refine exq fun _ => ?_ | intro _ | refine go ?_ | refine drq ?_)
    refine WO_k rfl (K_store (cs := [.int .i64 x.value]) rfl rfl inferInstance rfl rfl rfl hle) (same_intro ?_)
    rw [splice_ic hi]
    repeat (first | rintro _ _ ⟨rfl, rfl⟩ | refine exq fun _ => ?_ | intro _ | refine go ?_ | refine drq ?_)
    (apply WE_ret rfl rfl (by (repeat (first | exact ResOk.nil | (apply ResOk.tmp; rfl) | (apply resOk_cell; rfl; exact inferInstance; rfl; rfl)))))
    · exact ⟨by simp [touchE, h2], rfl⟩
    · simp only [touchL, h2, true_or, if_true]; exact entu0
  · by_cases h3 : x.kind = 3
    · repeat (first | rintro _ _ ⟨rfl, rfl⟩ | refine exq fun _ => ?_ | intro _ | refine go ?_ | refine drq ?_)
      refine WO_k rfl (K_store (cs := [.int .i64 x.value]) rfl rfl inferInstance rfl rfl rfl hle) (same_intro ?_)
      rw [splice_ic hi]
      repeat (first | rintro _ _ ⟨rfl, rfl⟩ | refine exq fun _ => ?_ | intro _ | refine go ?_ | refine drq ?_)
      (apply WE_ret rfl rfl (by (repeat (first | exact ResOk.nil | (apply ResOk.tmp; rfl) | (apply resOk_cell; rfl; exact inferInstance; rfl; rfl)))))
      · exact ⟨by simp [touchE, h2, hi], rfl⟩
      · simp only [touchL, h3, or_true, if_true]; exact entu0
    · repeat (first | rintro _ _ ⟨rfl, rfl⟩ | refine exq fun _ => ?_ | intro _ | refine go ?_ | refine drq ?_)
      (apply WE_ret rfl rfl (by (repeat (first | exact ResOk.nil | (apply ResOk.tmp; rfl) | (apply resOk_cell; rfl; exact inferInstance; rfl; rfl)))))
      · exact ⟨by simp [touchE, h2, hi], rfl⟩
      · simp only [touchL, h2, h3, or_self, if_false]; exact entu0

theorem dr_Mem_27 {Q P : Prop} (k : Q) (h : Hid Q → P := by
  intro k
  first
  | (refine is_draw ?_; apply WC_mix (id := 4) .false _ (pl := .r 0 <| .r 1 <| .e true [(2, .e true [(3, .p 4 <| .e true [(5, .p 6 <| .p 7 <| .done)])])]); exact mixed; kernel_rfl; kernel_rfl; exact Ent.refl; exact k.out)) : P := h ⟨k⟩
theorem mem_New_no {F : List HP} {c : Cfg} (hc : c.wf) (h : checkB c = false) : FnF Try.prog 27 [c.val] [] F (fun r L' => r = .tuple [.pointer none, .int .i64 1].toArray ∧ L' = []) := by
  have hE := fun F => shape_Check (F := F) hc
  simp only [checkE, h, if_false, Bool.false_eq_true] at hE
  refine FnF.mk' Try.func27 rfl rfl Try.ntmps27 rfl ?_
  repeat (first | rintro _ _ ⟨rfl, rfl⟩ | refine exq fun _ => ?_ | intro _ | refine go ?_ | refine dr_Mem_27 ?_ | refine drq ?_ | refine cal @hE ?_)
  exact fin0
theorem flat_ic_one (l : List Int) : (flat ic l).all one = true := by
  induction l with
  | nil => rfl
  | cons a r ih => simp [flat, one]
theorem rep_ic (n : Nat) : List.replicate n (Value.int .i64 0) = flat ic (List.replicate n 0) := by
  induction n with
  | zero => rfl
  | succ n ih => rw [List.replicate_succ, List.replicate_succ, ih]; rfl
theorem mem_New {F : List HP} {c : Cfg} (hc : c.wf) (h : checkB c = true) : FnF Try.prog 27 [c.val] [] F (fun r L' => ∃ b, r = .tuple [.pointer (some ⟨b, 0, none⟩), .int .i64 0].toArray ∧ L' = [MemB b c (List.replicate (c.words * c.lines).toNat 0)]) := by
  have hE := fun F => shape_Check (F := F) hc
  simp only [checkE, h, if_true] at hE
  have hS := fun F => shape_Size (F := F) hc
  simp only [sizeOf', h, if_true] at hS
  have hw := check_words h
  have hm := mul_bd (m := 8) (n := 1024) (a := c.words) (b := c.lines) (by omega) (by omega) (by omega) (by omega) (by omega)
  simp only [Int.reduceMul] at hm
  generalize hz : c.words * c.lines = z at hm hS ⊢
  refine FnF.mk' Try.func27 rfl rfl Try.ntmps27 rfl ?_
  repeat (first | rintro _ _ ⟨rfl, rfl⟩ | refine exq fun _ => ?_ | intro _ | refine go ?_ | refine dr_Mem_27 ?_ | refine drq ?_ | refine cal @hE ?_ | refine cal @hS ?_)
  (apply WE_ret rfl rfl (by (repeat (first | exact ResOk.nil | (apply ResOk.tmp; rfl) | (apply resOk_cell; rfl; exact inferInstance; rfl; rfl)))))
  · exact ⟨_, rfl, rfl⟩
  · rw [rep_ic]
    rename_i bc bs bm
    refine mem_in (g := bs) (n := z.toNat) (ms := List.replicate z.toNat 0) (Ent.cons (Ent.cons (Ent.drop Ent.refl))) (by simp) rfl ?_
    exact ⟨h, by simp [hz]; omega, by simp; omega⟩

/-! ## What a memory does, told of lists -/
def memIn (ms : List Int) (a : Int) : Bool := decide (0 ≤ a ∧ a < ms.length)
def wordAt (ms : List Int) (a : Int) : Int := if memIn ms a then ms.getD a.toNat 0 else 0
def doOk (ms : List Int) (x : Op3) : Bool := mayB x && decide (x.addr < ms.length)
def memDoV (ms : List Int) (x : Op3) : Int := if doOk ms x then (if x.kind = 4 then 0 else touchE ms x.addr.toNat x) else 0
def memDoE (ms : List Int) (x : Op3) : Int := if doOk ms x then 0 else 1
def memDoL (ms : List Int) (x : Op3) : List Int := if doOk ms x then (if x.kind = 4 then ms else touchL ms x.addr.toNat x) else ms
def lineF (c : Cfg) (line : Int) : Nat := (line * c.words).toNat
def lineL (c : Cfg) (ms : List Int) (line : Int) : List Int := (ms.drop (lineF c line)).take c.words.toNat
def lineWo (c : Cfg) (ms : List Int) (line : Int) : Words := if okJoin c line 0 then Words.of (lineL c ms line) else .zero
def tailZ (c : Cfg) (w : Words) : Bool := (w.list.drop c.words.toNat).all fun n => decide (n = 0)
def wrOk (c : Cfg) (line : Int) (w : Words) : Bool := okJoin c line 0 && tailZ c w
def wrE (c : Cfg) (line : Int) (w : Words) : Int := if wrOk c line w then 0 else 1
def wrL (c : Cfg) (ms : List Int) (line : Int) (w : Words) : List Int := if wrOk c line w then ms.take (lineF c line) ++ w.list.take c.words.toNat ++ ms.drop (lineF c line + c.words.toNat) else ms
def apOk (c : Cfg) (x : Op3) : Bool := okAddr c x.addr && mayB x && !decide (x.kind = 4)
def apW (c : Cfg) (w : Words) (x : Op3) : Words := if apOk c x then Words.of (touchL w.list (addrW c x.addr).toNat x) else .zero
def apV (c : Cfg) (w : Words) (x : Op3) : Int := if apOk c x then touchE w.list (addrW c x.addr).toNat x else 0
def apE (c : Cfg) (x : Op3) : Int := if apOk c x then 0 else 1

theorem touchL_len (ms : List Int) (i : Nat) (x : Op3) : (touchL ms i x).length = ms.length := by unfold touchL; split <;> simp
theorem memDoL_len (ms : List Int) (x : Op3) : (memDoL ms x).length = ms.length := by unfold memDoL; split <;> (try split) <;> simp [touchL_len]
theorem may_facts {x : Op3} (h : mayB x = true) : (x.kind = 1 ∨ x.kind = 2 ∨ x.kind = 3 ∨ x.kind = 4) ∧ 0 ≤ x.addr ∧ x.addr ≤ 8191 := by
  unfold mayB at h
  split at h
  · simp at h; omega
  · split at h
    · simp at h; omega
    · split at h
      · simp at h; omega
      · cases h
theorem doOk_facts {ms : List Int} {x : Op3} (h : doOk ms x = true) : mayB x = true ∧ 0 ≤ x.addr ∧ x.addr < ms.length ∧ x.addr ≤ 8191 ∧ (x.kind = 1 ∨ x.kind = 2 ∨ x.kind = 3 ∨ x.kind = 4) := by
  simp only [doOk, Bool.and_eq_true, decide_eq_true_eq] at h
  have := may_facts h.1
  exact ⟨h.1, this.2.1, h.2, this.2.2, this.1⟩
theorem join_facts {c : Cfg} {line : Int} {n : Nat} (h : okJoin c line 0 = true) (hn : (n : Int) = c.words * c.lines) : checkB c = true ∧ 0 ≤ line ∧ line < c.lines ∧ 1 ≤ c.words ∧ c.words ≤ 8 ∧ 0 ≤ line * c.words ∧ line * c.words + c.words ≤ n ∧ joinN c line 0 = line * c.words := by
  have h0 := h
  simp only [okJoin, Bool.and_eq_true, decide_eq_true_eq] at h
  have hw := check_words h.1
  have h1 := Int.mul_nonneg (a := line) (b := c.words) (by omega) (by omega)
  have h2 : (line + 1) * c.words ≤ c.lines * c.words := Int.mul_le_mul_of_nonneg_right (by omega) (by omega)
  rw [Int.add_mul, Int.one_mul, Int.mul_comm c.lines] at h2
  exact ⟨h.1, h.2.1, h.2.2.1, by omega, by omega, h1, by omega, by simp [joinN, h0]⟩

theorem mem_part_no {F : List HP} {b : Nat} {c : Cfg} {v : Value} {line : Int} (hc : c.wf) (hl : I64 line) (h : okJoin c line 0 = false) :
    FnF Try.prog 81 [.pointer (some ⟨b, 0, none⟩), .int .i64 line] [Cells b 152 (c.cells ++ [v])] F (fun r L' => r = .slice none 0 0 ∧ L' = [Cells b 152 (c.cells ++ [v])]) := by
  have hJ := fun F => split_Join (F := F) (c := c) (l := line) (w := 0) hc hl (by unfold I64; omega)
  simp only [joinE, h, if_false, Bool.false_eq_true] at hJ
  refine FnF.mk' Try.func81 rfl rfl Try.ntmps81 rfl ?_
  repeat (first | rintro _ _ ⟨rfl, rfl⟩ | refine exq fun _ => ?_ | intro _ | refine go ?_ | refine drq ?_ | refine cal @hJ ?_)
  exact fin0

theorem mem_part {F : List HP} {b g n : Nat} {c : Cfg} {line : Int} (hc : c.wf) (hl : I64 line) (h : okJoin c line 0 = true) (hn : (n : Int) = c.words * c.lines) (hb : n ≤ 8192) :
    FnF Try.prog 81 [.pointer (some ⟨b, 0, none⟩), .int .i64 line] [Cells b 152 (c.cells ++ [.slice (some ⟨g, 0, none⟩) n n])] F
      (fun r L' => r = .slice (some ⟨g, lineF c line, none⟩) c.words.toNat (n - lineF c line) ∧ L' = [Cells b 152 (c.cells ++ [.slice (some ⟨g, 0, none⟩) n n])]) := by
  have hJ := fun F => split_Join (F := F) (c := c) (l := line) (w := 0) hc hl (by unfold I64; omega)
  obtain ⟨h1, h2, h3, h4, h5, h6, h7, h8⟩ := join_facts h hn
  simp only [joinE, h, if_true, h8] at hJ
  generalize hz : line * c.words = z at *
  have hf : lineF c line = z.toNat := by unfold lineF; rw [hz]
  rw [hf]
  refine FnF.mk' Try.func81 rfl rfl Try.ntmps81 rfl ?_
  repeat (first | rintro _ _ ⟨rfl, rfl⟩ | refine exq fun _ => ?_ | intro _ | refine go ?_ | refine drq ?_ | refine cal @hJ ?_)
  (apply WE_ret rfl rfl (by (repeat (first | exact ResOk.nil | (apply ResOk.tmp; rfl) | (apply resOk_cell; rfl; exact inferInstance; rfl; rfl)))))
  · refine ⟨?_, rfl⟩
    rw [cut_at (by omega)]
    have e1 : (z + c.words).toNat - z.toNat = c.words.toNat := by omega
    simp [e1]
  · exact entu0
end Go.Sx

/- Memories as lists: what was stored last is loaded; what is applied is what is done. My own work; names no program. -/
namespace Go.Sx
open Go Go.Proofs
set_option linter.unusedVariables false
set_option linter.unusedSimpArgs false

theorem word_do {ms : List Int} {x : Op3} (h : doOk ms x = true) : wordAt (memDoL ms x) x.addr = if x.kind = 2 ∨ x.kind = 3 then x.value else wordAt ms x.addr := by
  obtain ⟨h1, h2, h3, h4, h5⟩ := doOk_facts h
  have hn : x.addr.toNat < ms.length := by omega
  rcases h5 with e | e | e | e <;> simp [memDoL, h, e, touchL, wordAt, memIn, h2, h3, hn]
theorem word_ne {ms : List Int} {y : Op3} {a : Int} (hne : y.addr ≠ a) : wordAt (memDoL ms y) a = wordAt ms a := by
  unfold memDoL
  split
  · rename_i h
    obtain ⟨h1, h2, h3, h4, h5⟩ := doOk_facts h
    split
    · rfl
    · unfold touchL
      split
      · unfold wordAt memIn
        simp only [List.length_set]
        split
        · rename_i hi
          have hi := of_decide_eq_true hi
          have : y.addr.toNat ≠ a.toNat := by omega
          simp [List.getD_eq_getElem?_getD, List.getElem?_set, this]
        · rfl
      · rfl
  · rfl
theorem doV_was {ms : List Int} {x : Op3} (h : doOk ms x = true) (hk : x.kind = 1 ∨ x.kind = 3) : memDoV ms x = wordAt ms x.addr := by
  obtain ⟨h1, h2, h3, h4, h5⟩ := doOk_facts h
  rcases hk with e | e <;> simp [memDoV, h, e, touchE, wordAt, memIn, h2, h3]
theorem doOk_load {ms : List Int} {a : Int} (h : 0 ≤ a) (h1 : a < ms.length) (h2 : a ≤ 8191) : doOk ms ⟨1, a, 0⟩ = true := by
  simp [doOk, mayB, h, h1, h2]

theorem list_of_pad {l : List Int} (h : l.length ≤ 8) : (Words.of l).list = l ++ List.replicate (8 - l.length) 0 := by
  match l, h with
  | [], _ => rfl
  | [a], _ => rfl
  | [a, b], _ => rfl
  | [a, b, c], _ => rfl
  | [a, b, c, d], _ => rfl
  | [a, b, c, d, e], _ => rfl
  | [a, b, c, d, e, f], _ => rfl
  | [a, b, c, d, e, f, g], _ => rfl
  | [a, b, c, d, e, f, g, i], _ => rfl
  | a :: b :: c :: d :: e :: f :: g :: i :: j :: r, h => exact absurd h (by simp)
theorem set_mid (A L B : List Int) (i : Nat) (h : i < L.length) (v : Int) : (A ++ (L ++ B)).set (A.length + i) v = A ++ (L.set i v ++ B) := by
  rw [List.set_append_right _ _ (by omega), Nat.add_sub_cancel_left, List.set_append_left _ _ h]
theorem get_mid (A L B : List Int) (i : Nat) (h : i < L.length) : (A ++ (L ++ B)).getD (A.length + i) 0 = L.getD i 0 := by
  simp [List.getD_eq_getElem?_getD, List.getElem?_append_right, List.getElem?_append_left h]
theorem get_left (L B : List Int) (i : Nat) (h : i < L.length) : (L ++ B).getD i 0 = L.getD i 0 := by
  simp [List.getD_eq_getElem?_getD, List.getElem?_append_left h]
theorem touchL_mid (A L B : List Int) (i : Nat) (h : i < L.length) (x : Op3) : touchL (A ++ (L ++ B)) (A.length + i) x = A ++ (touchL L i x ++ B) := by
  unfold touchL; split
  · exact set_mid A L B i h _
  · rfl

theorem apply_same {c : Cfg} {ms : List Int} {x : Op3} (hn : (ms.length : Int) = c.words * c.lines) (h : apOk c x = true) :
    okJoin c (addrL c x.addr) 0 = true ∧ doOk ms x = true ∧ x.kind ≠ 4 ∧ 0 ≤ addrW c x.addr ∧ addrW c x.addr < 8 ∧ (lineWo c ms (addrL c x.addr)).list.getD (addrW c x.addr).toNat 0 = wordAt ms x.addr ∧
    wrOk c (addrL c x.addr) (apW c (lineWo c ms (addrL c x.addr)) x) = true ∧ wrL c ms (addrL c x.addr) (apW c (lineWo c ms (addrL c x.addr)) x) = memDoL ms x ∧ apV c (lineWo c ms (addrL c x.addr)) x = memDoV ms x := by
  have h0 := h
  simp only [apOk, Bool.and_eq_true, Bool.not_eq_true', decide_eq_false_iff_not] at h
  obtain ⟨⟨ha, hm⟩, h4⟩ := h
  have ha0 := ha
  simp only [okAddr, Bool.and_eq_true, decide_eq_true_eq] at ha
  obtain ⟨hck, ha1, ha2⟩ := ha
  have hw := check_words hck
  have eL : addrL c x.addr = x.addr / c.words := by simp [addrL, ha0]
  have eW : addrW c x.addr = x.addr % c.words := by simp [addrW, ha0]
  have hq := Int.ediv_mul_add_emod x.addr c.words
  have hr0 := Int.emod_nonneg x.addr (show c.words ≠ 0 by omega)
  have hr1 := Int.emod_lt_of_pos x.addr (show 0 < c.words by omega)
  rw [eL, eW]
  generalize x.addr / c.words = q at *
  generalize x.addr % c.words = r at *
  have hql : q < c.lines := by
    rcases Int.lt_or_le q c.lines with h | h
    · exact h
    · have := Int.mul_le_mul_of_nonneg_right h (show 0 ≤ c.words by omega)
      rw [Int.mul_comm c.lines] at this; omega
  have hq0 : 0 ≤ q := by
    rcases Int.lt_or_le q 0 with h | h
    · have := Int.mul_le_mul_of_nonneg_right (show q ≤ -1 by omega) (show 0 ≤ c.words by omega)
      omega
    · exact h
  have hJ : okJoin c q 0 = true := by simp [okJoin, hck, hq0, hql]; omega
  have hD : doOk ms x = true := by simp [doOk, hm]; omega
  obtain ⟨j1, j2, j3, j4, j5, j6, j7, j8⟩ := join_facts hJ hn
  have hfe : lineF c q = (q * c.words).toNat := rfl
  generalize hz : q * c.words = z at *
  have hAl : (ms.take (lineF c q)).length = lineF c q := by rw [List.length_take]; omega
  have hLl : (lineL c ms q).length = c.words.toNat := by unfold lineL; simp; omega
  have hms : ms = ms.take (lineF c q) ++ (lineL c ms q ++ ms.drop (lineF c q + c.words.toNat)) := by
    unfold lineL; rw [← List.drop_drop, List.take_append_drop, List.take_append_drop]
  have hat : x.addr.toNat = (ms.take (lineF c q)).length + r.toNat := by omega
  have hri : r.toNat < (lineL c ms q).length := by omega
  have hwl : (lineWo c ms q).list = lineL c ms q ++ List.replicate (8 - (lineL c ms q).length) 0 := by simp only [lineWo, hJ, if_true]; exact list_of_pad (by omega)
  have htl : touchL (lineWo c ms q).list r.toNat x = touchL (lineL c ms q) r.toNat x ++ List.replicate (8 - (lineL c ms q).length) 0 := by
    rw [hwl]
    have := touchL_mid [] (lineL c ms q) (List.replicate (8 - (lineL c ms q).length) 0) r.toNat hri x
    simpa using this
  have hap : (apW c (lineWo c ms q) x).list = touchL (lineL c ms q) r.toNat x ++ List.replicate (8 - (lineL c ms q).length) 0 := by
    simp only [apW, h0, if_true, eW]
    rw [Words.list_of (by rw [touchL_len]; rfl), htl]
  have hget : (lineWo c ms q).list.getD r.toNat 0 = ms.getD x.addr.toNat 0 := by
    rw [hwl, get_left _ _ _ hri, hat]
    conv => rhs; rw [hms]
    have := get_mid (ms.take (lineF c q)) (lineL c ms q) (ms.drop (lineF c q + c.words.toNat)) r.toNat hri
    rw [← this]
    congr 2
    rw [← hms]
  have hwo : wrOk c q (apW c (lineWo c ms q) x) = true := by
    simp only [wrOk, hJ, Bool.true_and, tailZ]
    rw [hap, List.drop_left' (by rw [touchL_len]; exact hLl)]
    simp
  refine ⟨hJ, hD, h4, hr0, by omega, ?_, hwo, ?_, ?_⟩
  · rw [hget]; simp [wordAt, memIn, ha1]; intro h; omega
  · simp only [wrL, hwo, if_true]
    rw [hap, List.take_left' (by rw [touchL_len]; exact hLl)]
    simp only [memDoL, hD, if_true, h4, if_false]
    rw [hat]
    conv => rhs; rw [hms]
    have := touchL_mid (ms.take (lineF c q)) (lineL c ms q) (ms.drop (lineF c q + c.words.toNat)) r.toNat hri x
    rw [List.append_assoc, ← this]
    congr 2
    rw [← hms]
  · simp only [apV, h0, if_true, eW, memDoV, hD, h4, if_false, touchE, hget]
end Go.Sx
