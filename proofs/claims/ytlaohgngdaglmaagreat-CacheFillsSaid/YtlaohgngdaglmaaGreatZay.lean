/- CaFiP, CaFi: several of my texts as one. My own work. -/
import Derived.Test.YtlaohgngdaglmaaGreatZaw
import Derived.Test.YtlaohgngdaglmaaGreatZat
import Derived.IntWalk
/- Caches told of lists: how a miss is filled. My own work. -/
namespace Go.Sx
open Go Go.Proofs
set_option linter.unusedVariables false
set_option linter.unusedSimpArgs false
theorem turn_at {l : List Miss} {line : Int} {x : Miss} (h : misIn l line = true) (hx : x.line = line) :
    misIn (l.set (misP l line).toNat x) line = true ∧ misAt (l.set (misP l line).toNat x) line = x := by
  obtain ⟨i, hi, e0, ea, el⟩ := misIn_t h
  rw [e0, Int.toNat_natCast]
  have hp : misP (l.set i x) line = i := (indexBy_same (q := fun m : Miss => decide (m.line = line)) (l := l) (i := i) (x := x) hi (by simp [hx, el])).trans e0
  refine ⟨by unfold misIn; rw [hp]; simp, ?_⟩
  unfold misAt
  rw [hp, Int.toNat_natCast, List.getD_eq_getElem?_getD, List.getElem?_set_self hi]; rfl
/-- A line that is asked for, behind i messages: so many acks are wanted, the words come behind a. -/
structure Wait (c : Cfg) (line : Int) (A a : Nat) (w : Words) (i : Nat) (k : CaS) : Prop where
  isIn : misIn k.mis line = true
  kind : (misAt k.mis line).kind = 2
  gr : (misAt k.mis line).granted = false
  got : (misAt k.mis line).got = if i ≤ a then (i : Int) else (i : Int) - 1
  needs : (misAt k.mis line).needs = if i ≤ a then -1 else (A : Int)
  own : a < i → (misAt k.mis line).own = 4 ∧ (misAt k.mis line).words = w
  owes : i ≤ A → (misAt k.mis line).owes = false
  way : ∃ y, vw c k.ways line = some y ∧ y.lk = true ∧ (i ≤ A → ¬ (y.st = 2 ∨ y.st = 4)) ∧ (A < i → y = ⟨4, line, w, true⟩)
/-- Of a miss that is turned: filled, or not yet. -/
theorem wait_fill {c : Cfg} {line : Int} {A a i : Nat} {w : Words} {k : CaS} {x : Miss} {mis' : List Miss} (hI : ArrInv c k.ways) (ha : a ≤ A) (hi : i ≤ A) (hai : a ≤ i) (hw : oddW c w = false) (h : Wait c line A a w i k)
    (hin : misIn mis' line = true) (hat : misAt mis' line = x) (hk : x.kind = 2) (hg : x.granted = false) (hgot : x.got = (i : Int)) (hn : x.needs = (A : Int)) (ho : x.own = 4) (hwo : x.words = w) (how : x.owes = false) (hxl : x.line = line) :
    Wait c line A a w (i + 1) (caFill c ⟨k.ways, mis', k.buf⟩ line) := by
  obtain ⟨y, hy, hlk, hst, _⟩ := h.way
  by_cases hl : i = A
  · have hb : oweB mis' line = true := by unfold oweB; rw [hin, hat, how, hn, hgot, hl]; simp
    have hM : oweM mis' line = x := by unfold oweM; rw [if_pos hb, hat]
    have hL : oweL mis' line = mis'.set (misP mis' line).toNat { x with owes := true } := by unfold oweL; rw [if_pos hb, hat]
    obtain ⟨t1, t2⟩ := turn_at (l := mis') (x := { x with owes := true }) hin hxl
    have eF : caFill c ⟨k.ways, mis', k.buf⟩ line = ⟨setL c k.ways line 4 w, oweL mis' line, k.buf⟩ := by
      unfold caFill; dsimp only; rw [if_pos hb, hM, hg, ho, hwo]; rfl
    rw [eF]
    have hset : setE c k.ways line 4 w = 0 := by rw [setE_vw, hy, hw]; rfl
    refine ⟨by dsimp only; rw [hL]; exact t1, ?_, ?_, ?_, ?_, fun _ => ?_, fun q => by omega, ⟨⟨4, line, w, true⟩, ?_, rfl, fun q => by omega, fun _ => rfl⟩⟩
    · dsimp only; rw [hL, t2]; exact hk
    · dsimp only; rw [hL, t2]; exact hg
    · dsimp only; rw [hL, t2, if_neg (by omega)]; dsimp only; omega
    · dsimp only; rw [hL, t2, if_neg (by omega)]; exact hn
    · dsimp only; rw [hL, t2]; exact ⟨ho, hwo⟩
    · dsimp only; rw [vw_set hI, if_pos ⟨rfl, hset⟩, hy]; simp [hlk]
  · have hb : oweB mis' line = false := by unfold oweB; rw [hin, hat, hn, hgot]; simp; omega
    have eF : caFill c ⟨k.ways, mis', k.buf⟩ line = ⟨k.ways, mis', k.buf⟩ := by unfold caFill; rw [hb]; rfl
    rw [eF]
    refine ⟨hin, ?_, ?_, ?_, ?_, fun _ => ?_, fun q => ?_, ⟨y, hy, hlk, fun q => hst (by omega), fun q => by omega⟩⟩
    · dsimp only; rw [hat]; exact hk
    · dsimp only; rw [hat]; exact hg
    · dsimp only; rw [hat, if_neg (by omega)]; omega
    · dsimp only; rw [hat, if_neg (by omega)]; exact hn
    · dsimp only; rw [hat]; exact ⟨ho, hwo⟩
    · dsimp only; rw [hat]; exact how
/-- The words come. -/
theorem wait_data {c : Cfg} {core line : Int} {A a : Nat} {w : Words} {k : CaS} {m : Msg} (hI : ArrInv c k.ways) (ha : a ≤ A) (hw : oddW c w = false) (h : Wait c line A a w a k)
    (hok : caTakeOk c core m = true) (hk : m.kind = 7) (hl : m.line = line) (hac : m.acks = (A : Int)) (hown : m.own = 4) (hwo : m.words = w) :
    caTakeE c core k m = 0 ∧ caTakeB c core k m = false ∧ Wait c line A a w (a + 1) (caTakeK c core k m) := by
  have hf : fitsM (misAt k.mis line) (A : Int) 4 = true := by
    unfold fitsM
    rw [h.needs, h.got, if_pos (Nat.le_refl _), if_pos (Nat.le_refl _), h.kind]
    simp; omega
  have hE : dataE k.mis line (A : Int) 4 = 0 := by unfold dataE; rw [if_pos h.isIn, if_pos hf]
  have hT : caTakeE c core k m = 0 := by unfold caTakeE; rw [if_pos hok, hk]; simp [hl, hac, hown, hE, err7]
  have hK : caTakeK c core k m = caFill c ⟨k.ways, dataL k.mis line (A : Int) 4 w, k.buf⟩ line := by
    unfold caTakeK; rw [if_pos hok, hk]
    simp only [Int.reduceEq, if_false, if_true]
    unfold caDataK; rw [hl, hac, hown, hwo, if_pos hE]
  refine ⟨hT, by unfold caTakeB; simp [hk], ?_⟩
  rw [hK]
  have hml := (misIn_mem h.isIn).2
  have hD : dataL k.mis line (A : Int) 4 w = k.mis.set (misP k.mis line).toNat { misAt k.mis line with needs := A, own := 4, words := w } := by unfold dataL; rw [if_pos hE]
  obtain ⟨t1, t2⟩ := turn_at (l := k.mis) (x := { misAt k.mis line with needs := A, own := 4, words := w }) h.isIn hml
  refine wait_fill (x := { misAt k.mis line with needs := A, own := 4, words := w }) hI ha ha (Nat.le_refl _) hw h (by rw [hD]; exact t1) (by rw [hD]; exact t2) h.kind h.gr ?_ rfl rfl rfl (h.owes ha) hml
  dsimp only; rw [h.got, if_pos (Nat.le_refl _)]
/-- An ack comes. -/
theorem wait_ack {c : Cfg} {core line : Int} {A a i : Nat} {w : Words} {k : CaS} {m : Msg} (hI : ArrInv c k.ways) (ha : a ≤ A) (hi : i ≤ A) (hne : i ≠ a) (hw : oddW c w = false) (h : Wait c line A a w i k)
    (hok : caTakeOk c core m = true) (hk : m.kind = 9) (hl : m.line = line) :
    caTakeE c core k m = 0 ∧ caTakeB c core k m = false ∧ Wait c line A a w (i + 1) (caTakeK c core k m) := by
  have hE : ackE k.mis line = 0 := by
    unfold ackE
    rw [if_pos h.isIn, if_neg]
    rw [h.kind, h.needs, h.got]
    split <;> omega
  have hT : caTakeE c core k m = 0 := by unfold caTakeE; rw [if_pos hok, hk]; simp [hl, hE, err7]
  have hK : caTakeK c core k m = caFill c ⟨k.ways, ackL k.mis line, k.buf⟩ line := by
    unfold caTakeK; rw [if_pos hok, hk]
    simp only [Int.reduceEq, if_false, if_true]
    unfold caAckK; rw [hl, if_pos hE]
  refine ⟨hT, by unfold caTakeB; simp [hk], ?_⟩
  rw [hK]
  have hml := (misIn_mem h.isIn).2
  have hD : ackL k.mis line = k.mis.set (misP k.mis line).toNat { misAt k.mis line with got := (misAt k.mis line).got + 1 } := by unfold ackL; rw [if_pos hE]
  obtain ⟨t1, t2⟩ := turn_at (l := k.mis) (x := { misAt k.mis line with got := (misAt k.mis line).got + 1 }) h.isIn hml
  by_cases hlt : i < a
  · -- the words are still to come
    obtain ⟨y, hy, hlk, hst, _⟩ := h.way
    have hb : oweB (ackL k.mis line) line = false := by
      unfold oweB; rw [hD, t1, t2]
      dsimp only
      rw [h.needs, if_pos (by omega), h.got, if_pos (by omega)]
      simp; omega
    have eF : caFill c ⟨k.ways, ackL k.mis line, k.buf⟩ line = ⟨k.ways, ackL k.mis line, k.buf⟩ := by unfold caFill; rw [hb]; rfl
    rw [eF, hD]
    refine ⟨t1, ?_, ?_, ?_, ?_, fun q => by omega, fun q => ?_, ⟨y, hy, hlk, fun q => hst (by omega), fun q => by omega⟩⟩
    · dsimp only; rw [t2]; exact h.kind
    · dsimp only; rw [t2]; exact h.gr
    · dsimp only; rw [t2]; dsimp only; rw [h.got, if_pos (by omega), if_pos (by omega)]; omega
    · dsimp only; rw [t2]; dsimp only; rw [h.needs, if_pos (by omega), if_pos (by omega)]
    · dsimp only; rw [t2]; exact h.owes hi
  · obtain ⟨o1, o2⟩ := h.own (by omega)
    refine wait_fill (x := { misAt k.mis line with got := (misAt k.mis line).got + 1 }) hI ha hi (by omega) hw h (by rw [hD]; exact t1) (by rw [hD]; exact t2) h.kind h.gr ?_ ?_ o1 o2 (h.owes hi) hml
    · dsimp only; rw [h.got, if_neg (by omega)]; omega
    · dsimp only; rw [h.needs, if_neg (by omega)]
theorem wait_can {c : Cfg} {line : Int} {A a i : Nat} {w : Words} {k : CaS} (hi : i ≤ A) (h : Wait c line A a w i k) : caCan c k line 2 = false := by
  obtain ⟨y, hy, _, hst, _⟩ := h.way
  rw [can_vw, if_neg (by decide), hy]
  exact decide_eq_false (hst hi)
/-- A line was asked for. -/
theorem wait_ask {c : Cfg} {line : Int} {A a : Nat} {w : Words} {k : CaS} (hI : ArrInv c k.ways) (hj : CaJ c k) (h : caAskE c k line 2 = 0) : Wait c line A a w 0 (caAskK c k line 2) := by
  have hJ := j_ask (line := line) (kind := 2) hI hj
  have h0 := h
  unfold caAskE at h0
  split at h0
  · cases h0
  · rename_i hb
    split at h0
    · cases h0
    · rename_i h6
      split at h0
      · cases h0
      · rename_i h4
        split at h0
        · cases h0
        · rename_i h5
          have hm : misIn k.mis line = false := by cases g : misIn k.mis line with | false => rfl | true => exact absurd (.inl g) h6
          have hcan : caCan c k line 2 = false := by cases g : caCan c k line 2 with | false => rfl | true => exact absurd (.inr (.inr g)) h6
          have hop : openL c.mshrs k.mis line 2 = k.mis ++ [⟨line, 2, -1, 0, 0, .zero, false, false⟩] := by
            have : openE c.mshrs k.mis line 2 = 0 := by
              unfold openE
              rw [if_neg (by decide), hm, if_neg Bool.false_ne_true, if_neg h4]
            unfold openL; rw [if_pos this]
          have hp : misP (k.mis ++ [⟨line, 2, -1, 0, 0, .zero, false, false⟩]) line = (k.mis.length : Nat) := by
            refine indexBy_at (by simp) (fun j hj' hlt => ?_) (by simp)
            rw [List.getElem_append_left hlt]
            exact (indexBy_neg (of_decide_eq_false hm)).2 _ (List.getElem_mem hlt)
          have hat : misAt (k.mis ++ [⟨line, 2, -1, 0, 0, .zero, false, false⟩]) line = ⟨line, 2, -1, 0, 0, .zero, false, false⟩ := by
            unfold misAt; rw [hp, Int.toNat_natCast, List.getD_eq_getElem?_getD]; simp
          have hin : misIn (k.mis ++ [⟨line, 2, -1, 0, 0, .zero, false, false⟩]) line = true := by unfold misIn; rw [hp]; simp
          have eM : (caAskK c k line 2).mis = k.mis ++ [⟨line, 2, -1, 0, 0, .zero, false, false⟩] := by unfold caAskK; rw [if_pos h]; exact hop
          have eW : (caAskK c k line 2).ways = if findB c k.ways line then lockL c k.ways line true else layL c k.ways line (arrFree c k.ways line) := by unfold caAskK; rw [if_pos h]
          refine ⟨by rw [eM]; exact hin, by rw [eM, hat], by rw [eM, hat], by rw [eM, hat, if_pos (Nat.zero_le _)]; rfl, by rw [eM, hat, if_pos (Nat.zero_le _)], fun q => by omega, fun _ => by rw [eM, hat], ?_⟩
          rw [eW]
          rw [can_vw, if_neg (by decide)] at hcan
          have hc2 := of_decide_eq_false hcan
          cases hf : vw c k.ways line with
          | none =>
            have hfb : findB c k.ways line = false := by rw [vw_findB, hf]; rfl
            rw [hfb, if_neg Bool.false_ne_true]
            refine ⟨⟨0, line, .zero, true⟩, by rw [vw_lay hI (fun g => h5 ⟨hfb, g⟩) hf, if_pos rfl], rfl, fun _ => show ¬ ((0 : Int) = 2 ∨ (0 : Int) = 4) by decide, fun q => by omega⟩
          | some z =>
            have hfb : findB c k.ways line = true := by rw [vw_findB, hf]; rfl
            rw [hfb, if_pos rfl]
            rw [hf] at hc2
            refine ⟨⟨z.st, line, z.words, true⟩, by rw [vw_lock hI, if_pos rfl, hf]; simp, rfl, fun _ => hc2, fun q => by omega⟩
theorem ack_ok {c : Cfg} {core line src : Int} (hl : okLine c line = true) (h0 : 0 ≤ core ∧ core < c.cores) (h1 : 0 ≤ src ∧ src < c.cores) (hne : src ≠ core) : caTakeOk c core ⟨9, line, src, core, 0, 0, 0, .zero⟩ = true := by
  obtain ⟨hc, l0, l1⟩ := line_big hl
  have hM : MayP c ⟨9, line, src, core, 0, 0, 0, .zero⟩ := by
    refine ⟨hc, ⟨show (1 : Int) ≤ 9 by decide, show (9 : Int) ≤ 11 by decide⟩, ⟨l0, l1⟩, ?_, ?_⟩
    · unfold FormP
      rw [if_neg (show ¬ HomeP 9 by decide), if_neg (show ¬ ((9 : Int) = 4 ∨ (9 : Int) = 6) by decide), if_neg (show ¬ (9 : Int) = 5 by decide), if_neg (show ¬ (9 : Int) = 7 by decide), if_neg (show ¬ (9 : Int) = 8 by decide), if_neg (show ¬ (9 : Int) = 10 by decide)]
      exact ⟨h1, h0, hne, rfl, rfl, Int.le_refl 0, show (0 : Int) < 1 by decide⟩
    · unfold WordsP
      rw [if_neg (show ¬ Wordy 9 by decide)]
  simp [caTakeOk, hM, show ¬ HomeP 9 by decide]
theorem data_ok {c : Cfg} {core line v : Int} (hl : okLine c line = true) (h0 : 0 ≤ core ∧ core < c.cores) (hv : -2147483648 ≤ v ∧ v ≤ 2147483647) : caTakeOk c core ⟨7, line, line.tmod c.homes, core, 0, c.cores - 1, 4, ⟨v, 0, 0, 0, 0, 0, 0, 0⟩⟩ = true := by
  obtain ⟨hc, l0, l1⟩ := line_big hl
  have hw := check_words hc
  have hM : MayP c ⟨7, line, line.tmod c.homes, core, 0, c.cores - 1, 4, ⟨v, 0, 0, 0, 0, 0, 0, 0⟩⟩ := by
    refine ⟨hc, ⟨show (1 : Int) ≤ 7 by decide, show (7 : Int) ≤ 11 by decide⟩, ⟨l0, l1⟩, ?_, ?_⟩
    · unfold FormP
      rw [if_neg (show ¬ HomeP 7 by decide), if_neg (show ¬ ((7 : Int) = 4 ∨ (7 : Int) = 6) by decide), if_neg (show ¬ (7 : Int) = 5 by decide), if_pos (show (7 : Int) = 7 from rfl)]
      exact ⟨.inr (.inr rfl), ⟨show 0 ≤ c.cores - 1 by omega, show c.cores - 1 < c.cores by omega⟩, h0, .inl ⟨rfl, rfl⟩⟩
    · unfold WordsP
      rw [if_pos (show Wordy 7 by decide)]
      intro i hi
      match i, hi with
      | 0, _ => exact ⟨hv.1, hv.2, fun q => by omega⟩
      | 1, _ => exact ⟨show (-2147483648 : Int) ≤ 0 by decide, show (0 : Int) ≤ 2147483647 by decide, fun _ => rfl⟩
      | 2, _ => exact ⟨show (-2147483648 : Int) ≤ 0 by decide, show (0 : Int) ≤ 2147483647 by decide, fun _ => rfl⟩
      | 3, _ => exact ⟨show (-2147483648 : Int) ≤ 0 by decide, show (0 : Int) ≤ 2147483647 by decide, fun _ => rfl⟩
      | 4, _ => exact ⟨show (-2147483648 : Int) ≤ 0 by decide, show (0 : Int) ≤ 2147483647 by decide, fun _ => rfl⟩
      | 5, _ => exact ⟨show (-2147483648 : Int) ≤ 0 by decide, show (0 : Int) ≤ 2147483647 by decide, fun _ => rfl⟩
      | 6, _ => exact ⟨show (-2147483648 : Int) ≤ 0 by decide, show (0 : Int) ≤ 2147483647 by decide, fun _ => rfl⟩
      | 7, _ => exact ⟨show (-2147483648 : Int) ≤ 0 by decide, show (0 : Int) ≤ 2147483647 by decide, fun _ => rfl⟩
  simp [caTakeOk, hM, show ¬ HomeP 7 by decide]
theorem odd_one {c : Cfg} (hc : checkB c = true) (v : Int) : oddW c ⟨v, 0, 0, 0, 0, 0, 0, 0⟩ = false := by
  have hw := check_words hc
  have h := odd_set (c := c) (w := .zero) (j := 0) (v := v) (by omega)
  rw [odd_zero] at h
  exact h
end Go.Sx

/- The law of caches: a miss is filled with the last of its words and acks. My own work. -/
namespace Go.Sx
open Go Go.Proofs
set_option linter.unusedVariables false
set_option linter.unusedSectionVars false
set_option linter.unusedSimpArgs false
/-- Two numbers. -/
structure Two where
  a : Int
  b : Int
abbrev twc (x : Two) : List Value := [.int .i64 x.a, .int .i64 x.b]
def Two.wf (x : Two) : Prop := I64 x.a ∧ I64 x.b
theorem wrap32_rng {n : Int} (h : n = IntKind.i64.wrap (IntKind.i32.wrap n)) : -2147483648 ≤ n ∧ n ≤ 2147483647 := by
  rw [IntKind.wrap_i64, IntKind.wrap_i32] at h; omega
/-- Who sends the next ack, and what stands behind it. -/
def ackSrc (core : Int) (s : Nat) : Int := if (s : Int) < core then s else s + 1
def ackFr (core : Int) (s : Nat) : Int := if (s : Int) ≤ core then s else s + 1
def ackN (a i : Nat) : Nat := if i ≤ a then i else i - 1
theorem ackFr_zero {core : Int} (h : 0 ≤ core) (a : Nat) : ackFr core (ackN a 0) = 0 := by
  unfold ackN ackFr; rw [if_pos (Nat.zero_le _), if_pos (by omega)]; rfl
theorem ackN_data (a : Nat) : ackN a (a + 1) = ackN a a := by unfold ackN; rw [if_neg (by omega), if_pos (Nat.le_refl _)]; omega
theorem ackN_next {a i : Nat} (h : i ≠ a) : ackN a (i + 1) = ackN a i + 1 := by
  unfold ackN
  by_cases g : i < a
  · rw [if_pos (by omega), if_pos (by omega)]
  · rw [if_neg (by omega), if_neg (by omega)]; omega
theorem ackN_le {A a i : Nat} (ha : a ≤ A) (hi : i ≤ A) (h : i ≠ a) : ackN a i + 1 ≤ A := by
  unfold ackN; split <;> omega
set_option maxRecDepth 100000
set_option maxHeartbeats 4000000
attribute [local irreducible] Go.Exit.then Go.Exit.inBlock Go.Code.wp WC WO WE WQ V LoopQ FnQ Sat Star band bor IntKind.wrap WR Code.rounds WT KO
theorem dr_CaFi_6 {Q P : Prop} (k : Q) (h : Hid Q → P := by
  intro k
  first
  | (refine is_draw ?_; apply WC_mix (id := 30) .true _ (pl := .p 0 <| .p 1 <| .p 2 <| .p 5 <| .p 6 <| .p 7 <| .r 3 <| .p 4 <| .r 8 <| .p 9 <| .p 10 <| .e true [(11, .done)]); exact mixed; kernel_rfl; kernel_rfl; exact Ent.refl; exact k.out)) : P := h ⟨k⟩
theorem law14_Fills {W : World} {F : List HP} {c : Cfg} {v : Value} {l : List CStep} {core line ahead : Int} {wd : Two} (hc : c.wf) (hco : I64 core) (hli : I64 line) (hwd : wd.wf) (hah : I64 ahead) (hl : l.length ≤ 9223372036854775807) (k : ROld W 21 v l.length (flat csc l)) (hwf : ∀ x ∈ l, CStep.wf x) :
    FnF Tryz.prog 6 [c.val, .int .i64 core, v, .int .i64 line, .agg (twc wd).toArray, .int .i64 ahead] [Old W] F (fun r L' => r = .bool true ∧ L' = [Old W]) := by
  refine FnF.mk' Tryz.func6 rfl rfl Tryz.ntmps6 rfl ?_
  have hLg := fun F => law14_large (F := F) (c := c)
  by_cases hm : 60 < l.length
  · repeat (first | rintro _ _ ⟨rfl, rfl⟩ | refine exq fun _ => ?_ | intro _ | refine go ?_ | refine dr_CaFi_6 ?_ | refine drq ?_ | refine cal @law14_awake ?_)
    exact fin0
  · cases hL : largeB c with
    | true =>
      rw [hL] at hLg
      repeat (first | rintro _ _ ⟨rfl, rfl⟩ | refine exq fun _ => ?_ | intro _ | refine go ?_ | refine dr_CaFi_6 ?_ | refine drq ?_ | refine cal @law14_awake ?_ | refine cal @hLg ?_)
      exact fin0
    | false =>
      rw [hL] at hLg
      by_cases he : checkB c = true ∧ 0 ≤ core ∧ core < c.cores
      · have hN := fun F => ca_New (F := F) hc he
        repeat (first | rintro _ _ ⟨rfl, rfl⟩ | refine exq fun _ => ?_ | intro _ | refine go ?_ | refine dr_CaFi_6 ?_ | refine drq ?_ | refine cal @law14_awake ?_ | refine cal @hLg ?_ | refine cal @hN ?_)
        rename_i bx bw b
        apply WC_loopE (E0 := [(1, _), (3, _), (5, _), (6, _), (10, _), (13, _), (52, _), (53, _)]) (fun E0 (i : Nat) => (54, .int .i64 i) :: E0) (fun i => CaP b c core (stKs c core ⟨List.replicate (c.sets * c.ways).toNat .zero, [], []⟩ (l.take i)) :: Cells bx 24 c.cells :: Cells bw 87 (twc wd) :: Old W :: F) (fun i => i ≤ l.length) (fun i => l.length - i) 0
        · (repeat (first | exact Sub.nil | (refine Sub.cons (by first | rfl | (simp only [Nat.zero_add]; rfl)) ?_)))
        · exact Nat.zero_le _
        · simp only [List.take_zero, stKs, List.foldl_nil]; exact entu0
        · intro i hi
          have hI := stKs_inv (core := core) (l := l) (caInv_new c 0 (c.sets * c.ways).toNat) i hi
          by_cases hlt : i < l.length
          · have hx := hwf l[i] (List.getElem_mem hlt)
            have hsu := stKs_succ (c := c) (core := core) (k := ⟨List.replicate (c.sets * c.ways).toNat .zero, [], []⟩) hlt
            generalize stKs c core ⟨List.replicate (c.sets * c.ways).toNat .zero, [], []⟩ (l.take i) = ki at *
            have hD := fun F => law14_do (F := F) (b := b) (core := core) hI (by omega) hx
            repeat (first | rintro _ _ ⟨rfl, rfl⟩ | refine exq fun _ => ?_ | intro _ | refine go ?_ | refine dr_CaFi_6 ?_ | refine drq ?_ | refine cal @hD ?_)
            refine WE_loop (i + 1) (by omega) hlt ?_ ?_
            · (repeat (first | exact Sub.nil | (refine Sub.cons (by first | rfl | (simp only [Nat.zero_add]; rfl)) ?_)))
            · rw [hsu]; exact entu0
          · have hj := stKs_j (core := core) (l := l) (caInv_new c 0 (c.sets * c.ways).toNat) (j_new c (c.sets * c.ways).toNat) i hi
            generalize stKs c core ⟨List.replicate (c.sets * c.ways).toNat .zero, [], []⟩ (l.take i) = kn at *
            have hAs := fun F => ca_Ask (F := F) (b := b) (c := c) (core := core) (k := kn) (line := line) (kind := 2) hli
            by_cases hE : caAskE c kn line 2 = 0
            · have hok := ask_ok hE
              have hIa := ask_inv (line := line) (kind := 2) hI
              have hja := j_ask (line := line) (kind := 2) hI.1 hj
              have hcr := (check_facts he.1).1
              have hwds := check_words he.1
              simp only [hE] at hAs
              by_cases h1 : ahead < 0
              · repeat (first | rintro _ _ ⟨rfl, rfl⟩ | refine exq fun _ => ?_ | intro _ | refine go ?_ | refine dr_CaFi_6 ?_ | refine drq ?_ | refine cal @hAs ?_)
                exact fin0
              · by_cases h2 : ahead > c.cores - 1
                · repeat (first | rintro _ _ ⟨rfl, rfl⟩ | refine exq fun _ => ?_ | intro _ | refine go ?_ | refine dr_CaFi_6 ?_ | refine drq ?_ | refine cal @hAs ?_)
                  exact fin0
                · by_cases h3 : wd.a = IntKind.i64.wrap (IntKind.i32.wrap wd.a)
                  · have hrng := wrap32_rng h3
                    obtain ⟨A, hA⟩ : ∃ A : Nat, c.cores - 1 = (A : Int) := ⟨(c.cores - 1).toNat, by omega⟩
                    obtain ⟨a, haa⟩ : ∃ a : Nat, ahead = (a : Int) := ⟨ahead.toNat, by omega⟩
                    have haA : a ≤ A := by omega
                    have hw0 := wait_ask (A := A) (a := a) (w := ⟨wd.a, 0, 0, 0, 0, 0, 0, 0⟩) hI.1 hj hE
                    have hodd := odd_one he.1 wd.a
                    have hjn : okJoin c line 0 = true := by
                      obtain ⟨_, l0, l1⟩ := line_big hok
                      simp [okJoin, he.1, l0, l1]; omega
                    have e0 : joinE c line 0 = 0 := by unfold joinE; rw [hjn]; rfl
                    have hJo := fun F => split_Join (F := F) (w := 0) hc hli (by decide)
                    simp only [e0] at hJo
                    obtain ⟨q1, q2, q3, q4, q5, q6⟩ := join_addr hjn
                    have hh := homes_pos he.1
                    generalize joinN c line 0 = ad at *
                    generalize caAskK c kn line 2 = k0 at *
                    generalize caAskM c core kn line 2 = m0 at *
                    have x3 : Op3.wf ⟨3, ad, 3⟩ := ⟨show I64 _ by dsimp only; decide, by unfold I64; dsimp only; omega, show I64 _ by dsimp only; decide⟩
                    have a3 : apE c ⟨3, ad, 3⟩ = 0 := ap_swap q1 q3 q4 (by omega)
                    have dE3 : ∀ k, caDoE c k ⟨3, ad, 3⟩ = if caCan c k line 2 then 0 else 5 := fun k => by
                      unfold caDoE; rw [if_pos a3]; dsimp only; rw [q2]; rfl
                    repeat (first | rintro _ _ ⟨rfl, rfl⟩ | refine exq fun _ => ?_ | intro _ | refine go ?_ | refine dr_CaFi_6 ?_ | refine drq ?_ | refine cal @hAs ?_ | refine cal @hJo ?_)
                    rename_i bm bo
                    apply WC_loopE (E0 := [(1, _), (3, _), (5, _), (6, _), (10, _), (13, _), (19, _), (22, _)]) (fun E0 (q : Nat × CaS) => (24, .int .i64 q.1) :: (23, .int .i64 (ackFr core (ackN a q.1))) :: E0) (fun q => CaP b c core q.2 :: Cells bo 43 (oc ⟨3, ad, 3⟩) :: Cells bx 24 c.cells :: Cells bw 87 (twc wd) :: Old W :: F) (fun q => q.1 ≤ A + 1 ∧ CaInv c (i + q.1) q.2 ∧ CaJ c q.2 ∧ Wait c line A a ⟨wd.a, 0, 0, 0, 0, 0, 0, 0⟩ q.1 q.2) (fun q => A + 1 - q.1) (0, k0)
                    · dsimp only; rw [ackFr_zero he.2.1]; (repeat (first | exact Sub.nil | (refine Sub.cons (by first | rfl | (simp only [Nat.zero_add]; rfl)) ?_)))
                    · exact ⟨Nat.zero_le _, hIa, hja, hw0⟩
                    · dsimp only; exact entu0
                    · rintro ⟨q, kq⟩ ⟨hq, hIq, hjq, hWq⟩
                      dsimp only at hq hIq hjq hWq ⊢
                      obtain ⟨p1, p2, p3, p4⟩ := ca_pre hIq (by omega)
                      have hDo := fun F => ca_Do (F := F) (b := b) (c := c) (core := core) (k := kq) x3
                      by_cases hqA : q ≤ A
                      · have hle : (q : Int) ≤ c.cores - 1 := by omega
                        have hcan := wait_can hqA hWq
                        have hEq : caDoE c kq ⟨3, ad, 3⟩ = 5 := by rw [dE3, hcan]; rfl
                        have hKq : caDoK c kq ⟨3, ad, 3⟩ = kq := by unfold caDoK; rw [hEq]; rfl
                        rw [hEq, hKq] at hDo
                        by_cases hqa : q = a
                        · subst hqa
                          have hqh : (q : Int) = ahead := haa.symm
                          have hokd := data_ok (c := c) (core := core) (v := wd.a) hok he.2 hrng
                          obtain ⟨t1, t2, t3⟩ := wait_data hIq.1 haA hodd hWq hokd rfl rfl hA rfl rfl
                          have hT := fun F => ca_Take (F := F) (b := b) (c := c) (core := core) (k := kq) (m := ⟨7, line, line.tmod c.homes, core, 0, c.cores - 1, 4, ⟨wd.a, 0, 0, 0, 0, 0, 0, 0⟩⟩) p1
                          rw [t1, t2] at hT
                          have hI2 := take_inv (core := core) (m := ⟨7, line, line.tmod c.homes, core, 0, c.cores - 1, 4, ⟨wd.a, 0, 0, 0, 0, 0, 0, 0⟩⟩) hIq
                          have hj2 := j_take (core := core) (m := ⟨7, line, line.tmod c.homes, core, 0, c.cores - 1, 4, ⟨wd.a, 0, 0, 0, 0, 0, 0, 0⟩⟩) hIq.1 hjq
                          repeat' (first | rintro _ _ ⟨rfl, rfl⟩ | refine exq fun _ => ?_ | intro _ | refine go ?_ | refine dr_CaFi_6 ?_ | refine drq ?_ | refine cal @hDo ?_ | refine cal @hT ?_ | refine spl ?_ ?_ | fail)
                          all_goals refine WE_loop (q + 1, caTakeK c core kq ⟨7, line, line.tmod c.homes, core, 0, c.cores - 1, 4, ⟨wd.a, 0, 0, 0, 0, 0, 0, 0⟩⟩) (by dsimp only; omega) ⟨by dsimp only; omega, hI2, hj2, t3⟩ ?_ ?_
                          all_goals first | (dsimp only; rw [ackN_data]; ((repeat (first | exact Sub.nil | (refine Sub.cons (by first | rfl | (simp only [Nat.zero_add]; rfl)) ?_))); done)) | (dsimp only; (exact entu0; done))
                        · have hqh : ¬ (q : Int) = ahead := by omega
                          have hs := ackN_le haA hqA hqa
                          have hnx := ackN_next hqa
                          have hsrc : 0 ≤ ackSrc core (ackN a q) ∧ ackSrc core (ackN a q) < c.cores := by unfold ackSrc; split <;> omega
                          have hsne : ackSrc core (ackN a q) ≠ core := by unfold ackSrc; split <;> omega
                          have hoka := ack_ok (c := c) (core := core) hok he.2 hsrc hsne
                          obtain ⟨t1, t2, t3⟩ := wait_ack hIq.1 haA hqA hqa hodd hWq hoka rfl rfl
                          have hT := fun F => ca_Take (F := F) (b := b) (c := c) (core := core) (k := kq) (m := ⟨9, line, ackSrc core (ackN a q), core, 0, 0, 0, .zero⟩) p1
                          rw [t1, t2] at hT
                          have hI2 := take_inv (core := core) (m := ⟨9, line, ackSrc core (ackN a q), core, 0, 0, 0, .zero⟩) hIq
                          have hj2 := j_take (core := core) (m := ⟨9, line, ackSrc core (ackN a q), core, 0, 0, 0, .zero⟩) hIq.1 hjq
                          have hstep : ackFr core (ackN a q + 1) = ackSrc core (ackN a q) + 1 := by unfold ackFr ackSrc; split <;> split <;> omega
                          by_cases hfc : ackFr core (ackN a q) = core
                          · have hsf : ackSrc core (ackN a q) = ackFr core (ackN a q) + 1 := by unfold ackFr at hfc ⊢; unfold ackSrc; split at hfc <;> split <;> (try split) <;> omega
                            rw [hsf] at hT hI2 hj2 t3 hsrc hstep
                            generalize ackFr core (ackN a q) = fr at *
                            repeat (first | rintro _ _ ⟨rfl, rfl⟩ | refine exq fun _ => ?_ | intro _ | refine go ?_ | refine dr_CaFi_6 ?_ | refine drq ?_ | refine cal @hDo ?_ | refine cal @hT ?_)
                            refine WE_loop (q + 1, caTakeK c core kq ⟨9, line, fr + 1, core, 0, 0, 0, .zero⟩) (by dsimp only; omega) ⟨by dsimp only; omega, hI2, hj2, t3⟩ ?_ ?_
                            · dsimp only; rw [hnx, hstep]; (repeat (first | exact Sub.nil | (refine Sub.cons (by first | rfl | (simp only [Nat.zero_add]; rfl)) ?_)))
                            · dsimp only; exact entu0
                          · have hsf : ackSrc core (ackN a q) = ackFr core (ackN a q) := by unfold ackFr at hfc ⊢; unfold ackSrc; split at hfc <;> split <;> (try split) <;> omega
                            rw [hsf] at hT hI2 hj2 t3 hsrc hstep
                            generalize ackFr core (ackN a q) = fr at *
                            repeat (first | rintro _ _ ⟨rfl, rfl⟩ | refine exq fun _ => ?_ | intro _ | refine go ?_ | refine dr_CaFi_6 ?_ | refine drq ?_ | refine cal @hDo ?_ | refine cal @hT ?_)
                            refine WE_loop (q + 1, caTakeK c core kq ⟨9, line, fr, core, 0, 0, 0, .zero⟩) (by dsimp only; omega) ⟨by dsimp only; omega, hI2, hj2, t3⟩ ?_ ?_
                            · dsimp only; rw [hnx, hstep]; (repeat (first | exact Sub.nil | (refine Sub.cons (by first | rfl | (simp only [Nat.zero_add]; rfl)) ?_)))
                            · dsimp only; exact entu0
                      · have hqe : q = A + 1 := by omega
                        subst hqe
                        have hle : ¬ (((A + 1 : Nat) : Int) ≤ c.cores - 1) := by omega
                        obtain ⟨y, hy, hlk, _, hyw⟩ := hWq.way
                        have hyw := hyw (by omega)
                        subst hyw
                        have hcan : caCan c kq line 2 = true := by rw [can_vw, if_neg (by decide), hy]; rfl
                        have hEq : caDoE c kq ⟨3, ad, 3⟩ = 0 := by rw [dE3, hcan]; rfl
                        obtain ⟨y2, j, hv, hj8, ej, eE, _, _, _, hkn, hk3⟩ := do_wrote hIq.1 hjq hEq
                        dsimp only at hv ej hkn hk3
                        rw [q2, hy] at hv
                        cases hv
                        rw [q6] at ej
                        have hj0 : j = 0 := by omega
                        subst hj0
                        have hV : caDoV c kq ⟨3, ad, 3⟩ = wd.a := hk3 rfl
                        have hvk : vw c (caDoK c kq ⟨3, ad, 3⟩).ways line = some ⟨4, line, ⟨3, 0, 0, 0, 0, 0, 0, 0⟩, true⟩ := by
                          have := hkn (by decide)
                          rw [q2] at this; exact this
                        have hLook := fun F => ca_Look (F := F) (b := b) (c := c) (core := core) (k := caDoK c kq ⟨3, ad, 3⟩) hli
                        rw [vw_findB, hvk, (vw_some hvk).2.2.2.2] at hLook
                        simp only [Option.isSome_some] at hLook
                        rw [hEq, hV] at hDo
                        generalize caDoK c kq ⟨3, ad, 3⟩ = ke at *
                        repeat (first | rintro _ _ ⟨rfl, rfl⟩ | refine exq fun _ => ?_ | intro _ | refine go ?_ | refine dr_CaFi_6 ?_ | refine drq ?_ | refine cal @hDo ?_ | refine cal @hLook ?_)
                        exact fin0
                  · repeat (first | rintro _ _ ⟨rfl, rfl⟩ | refine exq fun _ => ?_ | intro _ | refine go ?_ | refine dr_CaFi_6 ?_ | refine drq ?_ | refine cal @hAs ?_)
                    exact fin0
            · have hM : caAskM c core kn line 2 = .zero := if_neg hE
              rw [hM] at hAs
              repeat (first | rintro _ _ ⟨rfl, rfl⟩ | refine exq fun _ => ?_ | intro _ | refine go ?_ | refine dr_CaFi_6 ?_ | refine drq ?_ | refine cal @hAs ?_)
              exact fin0
      · have hN := fun F => ca_New_no (F := F) hc he
        repeat (first | rintro _ _ ⟨rfl, rfl⟩ | refine exq fun _ => ?_ | intro _ | refine go ?_ | refine dr_CaFi_6 ?_ | refine drq ?_ | refine cal @law14_awake ?_ | refine cal @hLg ?_ | refine cal @hN ?_)
        exact fin0
end Go.Sx
