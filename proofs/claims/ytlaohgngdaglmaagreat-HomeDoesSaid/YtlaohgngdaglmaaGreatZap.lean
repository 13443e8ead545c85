/- HomLaw0, HomAw: several of my texts as one. My own work. -/
import Derived.Test.YtlaohgngdaglmaaGreatZao
import Derived.Test.YtlaohgngdaglmaaGreatZae
import Derived.Test.YtlaohgngdaglmaaGreatZaa
/- The laws of homes: what they share. My own work. -/
namespace Go.Sx
open Go Go.Proofs
set_option linter.unusedVariables false
set_option linter.unusedSectionVars false
set_option linter.unusedSimpArgs false
/-- A step of a law of homes: what to do, a number, how much room the networks have, a message. -/
structure HStep where
  d : Int
  n : Int
  l0 : Int
  l1 : Int
  l2 : Int
  m : Msg
abbrev HStep.l (x : HStep) : L3 := (x.l0, x.l1, x.l2)
abbrev hsc (x : HStep) : List Value := [.int .i64 x.d, .int .i64 x.n, .int .i64 x.l0, .int .i64 x.l1, .int .i64 x.l2, .int .i64 x.m.kind, .int .i64 x.m.line, .int .i64 x.m.src, .int .i64 x.m.dst, .int .i64 x.m.who, .int .i64 x.m.acks, .int .i64 x.m.own, .int .i64 x.m.words.w0, .int .i64 x.m.words.w1, .int .i64 x.m.words.w2, .int .i64 x.m.words.w3, .int .i64 x.m.words.w4, .int .i64 x.m.words.w5, .int .i64 x.m.words.w6, .int .i64 x.m.words.w7]
abbrev hsv (x : HStep) : Value := .agg (hsc x).toArray
def HStep.wf (x : HStep) : Prop := I64 x.d ∧ I64 x.n ∧ (I64 x.l0 ∧ I64 x.l1 ∧ I64 x.l2) ∧ x.m.wf
abbrev rpc (m : Msg) (b d : Bool) (e : Int) : List Value := [.int .i64 m.kind, .int .i64 m.line, .int .i64 m.src, .int .i64 m.dst, .int .i64 m.who, .int .i64 m.acks, .int .i64 m.own, .int .i64 m.words.w0, .int .i64 m.words.w1, .int .i64 m.words.w2, .int .i64 m.words.w3, .int .i64 m.words.w4, .int .i64 m.words.w5, .int .i64 m.words.w6, .int .i64 m.words.w7, .bool b, .bool d, .int .i64 e]
def hsM (s : HomS) (x : HStep) : Msg := if x.d = 0 then .zero else if x.d = 1 then hmWorkM s x.n x.l else .zero
def hsB (s : HomS) (x : HStep) : Bool := if x.d = 0 then false else if x.d = 1 then hmWorkB s x.n x.l else false
def hsD (s : HomS) (x : HStep) : Bool := if x.d = 0 then false else if x.d = 1 then hmDid s x.n x.l else false
def hsE (c : Cfg) (num : Int) (s : HomS) (x : HStep) : Int := if x.d = 0 then hmAccE c num s x.m else if x.d = 1 then 0 else hmDoneE c num s x.m
def hsS (c : Cfg) (num : Int) (s : HomS) (x : HStep) : HomS := if x.d = 0 then hmAccS c num s x.m else if x.d = 1 then hmWorkS c s x.n x.l else hmDoneS c num s x.m
def hsK (c : Cfg) (num : Int) (l : List HStep) : HomS := l.foldl (hsS c num) (hmNew c num)
theorem hsK_step {c : Cfg} {num : Int} {l : List HStep} {i : Nat} (hi : i < l.length) : hsK c num (l.take (i + 1)) = hsS c num (hsK c num (l.take i)) l[i] := by
  unfold hsK
  rw [List.take_add_one, List.getElem?_eq_getElem hi, Option.toList_some, List.foldl_append]
  rfl
theorem hmI_step {c : Cfg} {num : Int} {s : HomS} (h : HmI c num s) (x : HStep) : HmI c num (hsS c num s x) := by
  unfold hsS
  split
  · exact hmI_acc h _
  · split
    · exact hmI_work h _ _
    · exact hmI_done h _
theorem odd_step {c : Cfg} {num : Int} {s : HomS} (x : HStep) : s.odd ≤ (hsS c num s x).odd ∧ (hsS c num s x).odd ≤ s.odd + 1 := by
  unfold hsS
  split
  · unfold hmAccS; split
    · exact ⟨Int.le_refl _, by show s.odd ≤ _; omega⟩
    · exact ⟨Int.le_refl _, by omega⟩
  · split
    · exact hm_odd _ _
    · unfold hmDoneS; split
      · exact ⟨Int.le_refl _, by show s.odd ≤ _; omega⟩
      · exact ⟨Int.le_refl _, by omega⟩
theorem hsK_inv {c : Cfg} {num : Int} (hn : newOk c num = true) (l : List HStep) (i : Nat) (hi : i ≤ l.length) : HmI c num (hsK c num (l.take i)) ∧ 0 ≤ (hsK c num (l.take i)).odd ∧ (hsK c num (l.take i)).odd ≤ i := by
  induction i with
  | zero => exact ⟨hmI_new hn, Int.le_refl _, Int.le_refl _⟩
  | succ i ih =>
    obtain ⟨h1, h2, h3⟩ := ih (by omega)
    rw [hsK_step (by omega)]
    have := odd_step (c := c) (num := num) (s := hsK c num (l.take i)) l[i]
    exact ⟨hmI_step h1 _, by omega, by omega⟩
def hLarge (c : Cfg) : Bool := decide (64 < c.lines) && decide (c.lines ≤ 1024)
set_option maxRecDepth 100000
set_option maxHeartbeats 4000000
attribute [local irreducible] Go.Exit.then Go.Exit.inBlock Go.Code.wp WC WO WE WQ V LoopQ FnQ Sat Star band bor IntKind.wrap WR Code.rounds WT KO
theorem law16_large {F : List HP} {c : Cfg} : FnF Tryz.prog 28 [c.val] [] F (fun r L' => r = .bool (hLarge c) ∧ L' = []) := by
  refine FnF.mk' Tryz.func28 rfl rfl Tryz.ntmps28 rfl ?_
  by_cases h : 64 < c.lines
  · repeat (first | rintro _ _ ⟨rfl, rfl⟩ | refine exq fun _ => ?_ | intro _ | refine go ?_ | refine drq ?_)
    (apply WE_ret rfl rfl (by (repeat (first | exact ResOk.nil | (apply ResOk.tmp; rfl) | (apply resOk_cell; rfl; exact inferInstance; rfl; rfl)))); (first | exact ⟨rfl, rfl⟩ | exact ⟨congrArg Value.bool (by decide), rfl⟩ | exact ⟨_, rfl, rfl⟩ | exact ⟨_, _, rfl, rfl⟩ | exact ⟨by first | (simp [hLarge, h]; done) | (simp [hLarge, h] <;> omega), rfl⟩); (repeat (first | exact Ent.refl | exact Ent.nil | apply Ent.pick | apply Ent.drop)))
  · repeat (first | rintro _ _ ⟨rfl, rfl⟩ | refine exq fun _ => ?_ | intro _ | refine go ?_ | refine drq ?_)
    (apply WE_ret rfl rfl (by (repeat (first | exact ResOk.nil | (apply ResOk.tmp; rfl) | (apply resOk_cell; rfl; exact inferInstance; rfl; rfl)))); (first | exact ⟨rfl, rfl⟩ | exact ⟨congrArg Value.bool (by decide), rfl⟩ | exact ⟨_, rfl, rfl⟩ | exact ⟨_, _, rfl, rfl⟩ | exact ⟨by first | (simp [hLarge, h]; done) | (simp [hLarge, h] <;> omega), rfl⟩); (repeat (first | exact Ent.refl | exact Ent.nil | apply Ent.pick | apply Ent.drop)))
theorem law16_same {F : List HP} {e t : TEnt} {a b : Option Addr} {k m : Nat} (h1 : RdL F 1 (.slice a e.s.ps.length k) e.s.ps.length (flat ic e.s.ps)) (h2 : RdL F 1 (.slice b t.s.ps.length m) t.s.ps.length (flat ic t.s.ps)) (hn : e.s.ps.length ≤ 1000) :
    FnF Tryz.prog 43 [.agg (tec e a k).toArray, .agg (tec t b m).toArray] [] F (fun r L' => r = .bool (decide (e = t)) ∧ L' = []) := by
  have hS := fun F (h1 : RdL F 1 (.slice a e.s.ps.length k) e.s.ps.length (flat ic e.s.ps)) (h2 : RdL F 1 (.slice b t.s.ps.length m) t.s.ps.length (flat ic t.s.ps)) => ref08_Same (F := F) (s := e.s) (t := t.s) h1 h2 hn
  by_cases ho : e.o = t.o
  · have hd : decide (e = t) = decide (e.s = t.s) := decide_eq_decide.2 ⟨fun h => by rw [h], fun h => TEnt.ext_iff'.1 ⟨ho, h⟩⟩
    rw [hd]
    refine FnF.mk' Tryz.func43 rfl rfl Tryz.ntmps43 rfl ?_
    repeat (first | rintro _ _ ⟨rfl, rfl⟩ | refine exq fun _ => ?_ | intro _ | refine go ?_ | refine drq ?_ | refine cal @hS ?_)
    exact fin0
  · have hd : decide (e = t) = false := decide_eq_false fun h => ho (by rw [h])
    rw [hd]
    refine FnF.mk' Tryz.func43 rfl rfl Tryz.ntmps43 rfl ?_
    repeat (first | rintro _ _ ⟨rfl, rfl⟩ | refine exq fun _ => ?_ | intro _ | refine go ?_ | refine drq ?_)
    exact fin0
theorem law16_do {F : List HP} {b : Nat} {c : Cfg} {num : Int} {s : HomS} {x : HStep} (hc : c.wf) (h : HmI c num s) (ho : 0 ≤ s.odd ∧ s.odd ≤ 1000000000000) : FnF Tryz.prog 31 [.pointer (some ⟨b, 0, none⟩), hsv x] [HomP b c num s] F
    (fun r L' => r = .agg (rpc (hsM s x) (hsB s x) (hsD s x) (hsE c num s x)).toArray ∧ L' = [HomP b c num (hsS c num s x)]) := by
  have hA := fun F => hm_Accept (F := F) (b := b) (num := num) (s := s) (m := x.m) hc
  have hD := fun F => hm_Done (F := F) (b := b) (num := num) (s := s) (m := x.m) hc
  have hW := fun F => hm_Work (F := F) (b := b) (n := x.n) (l := x.l) h ho
  refine FnF.mk' Tryz.func31 rfl rfl Tryz.ntmps31 rfl ?_
  by_cases h0 : x.d = 0
  · simp only [hsM, hsB, hsD, hsE, hsS, if_pos h0]
    repeat (first | rintro _ _ ⟨rfl, rfl⟩ | refine exq fun _ => ?_ | intro _ | refine go ?_ | refine drq ?_ | refine cal @hA ?_)
    exact fin0
  · by_cases h1 : x.d = 1
    · simp only [hsM, hsB, hsD, hsE, hsS, if_neg h0, if_pos h1]
      repeat (first | rintro _ _ ⟨rfl, rfl⟩ | refine exq fun _ => ?_ | intro _ | refine go ?_ | refine drq ?_ | refine cal @hW ?_)
      exact fin0
    · simp only [hsM, hsB, hsD, hsE, hsS, if_neg h0, if_neg h1]
      repeat (first | rintro _ _ ⟨rfl, rfl⟩ | refine exq fun _ => ?_ | intro _ | refine go ?_ | refine drq ?_ | refine cal @hD ?_)
      exact fin0
end Go.Sx

/- The laws of homes: awake. My own work. -/
namespace Go.Sx
open Go Go.Proofs
set_option linter.unusedVariables false
set_option linter.unusedSectionVars false
set_option linter.unusedSimpArgs false
abbrev c16 : Cfg := ⟨2, 2, 1, 1, 2, 4, 0, 1, 2, 1, 1, 1, 1⟩
abbrev m16a : Msg := ⟨1, 3, 1, 1, 0, 0, 0, .zero⟩
abbrev m16b : Msg := ⟨1, 2, 1, 0, 0, 0, 0, .zero⟩
abbrev m16d : Msg := ⟨11, 3, 0, 1, 0, 0, 0, .zero⟩
abbrev m16e : Msg := ⟨11, 3, 1, 1, 0, 0, 0, .zero⟩
abbrev m16p : Msg := ⟨3, 3, 1, 1, 0, 0, 0, ⟨8, 9, 0, 0, 0, 0, 0, 0⟩⟩
abbrev m16x : Msg := ⟨7, 3, 1, 1, 0, 0, 2, .zero⟩
abbrev m16y : Msg := ⟨10, 3, 1, 1, 0, 0, 0, .zero⟩
abbrev e16 (o : Int) : TEnt := ⟨o, ⟨2, 0, [], false⟩⟩
abbrev s16 (o : Int) (ms : List Int) (q : List QE) : HomS := ⟨[(1, e16 (-1)), (3, e16 o)], ms, q, 0⟩
abbrev z16 : List Int := [0, 0, 0, 0, 0, 0, 0, 0]
theorem aw0 : hmNew c16 1 = s16 (-1) z16 [] := rfl
theorem aw1 : hmAccE c16 1 (s16 (-1) z16 []) m16a = 0 ∧ hmAccS c16 1 (s16 (-1) z16 []) m16a = s16 (-1) z16 [⟨m16a, false, []⟩] := ⟨by decide, rfl⟩
abbrev w16 : List Int := [0, 0, 0, 0, 0, 0, 8, 9]
abbrev s16a := s16 (-1) z16 []
abbrev s16b := s16 (-1) z16 [⟨m16a, false, []⟩]
abbrev s16c := s16 1 z16 [⟨m16a, true, [m16x]⟩]
abbrev s16d := s16 1 z16 [⟨m16a, true, []⟩]
abbrev s16e := s16 1 z16 []
abbrev s16f := s16 1 z16 [⟨m16p, false, []⟩]
abbrev s16g := s16 (-1) w16 [⟨m16p, true, [m16y]⟩]
theorem aw2 : hmAccE c16 1 s16b m16b = 1 ∧ hmAccS c16 1 s16b m16b = s16b := ⟨by decide, rfl⟩
theorem aw3 : hmWorkM s16b 0 (0, 0, 0) = .zero ∧ hmWorkB s16b 0 (0, 0, 0) = false ∧ hmDid s16b 0 (0, 0, 0) = true ∧ hmWorkS c16 s16b 0 (0, 0, 0) = s16c := ⟨by decide, by decide, by decide, rfl⟩
theorem aw4 : hmWorkM s16c 0 (1, 1, 0) = .zero ∧ hmWorkB s16c 0 (1, 1, 0) = false ∧ hmDid s16c 0 (1, 1, 0) = false ∧ hmWorkS c16 s16c 0 (1, 1, 0) = s16c := ⟨by decide, by decide, by decide, rfl⟩
theorem aw5 : hmWorkM s16c 0 (0, 0, 1) = m16x ∧ hmWorkB s16c 0 (0, 0, 1) = true ∧ hmDid s16c 0 (0, 0, 1) = true ∧ hmWorkS c16 s16c 0 (0, 0, 1) = s16d := ⟨by decide, by decide, by decide, rfl⟩
theorem aw6 : hmDoneE c16 1 s16d m16d = 7 ∧ hmDoneS c16 1 s16d m16d = s16d := ⟨by decide, rfl⟩
theorem aw7 : hmDoneE c16 1 s16d m16e = 0 ∧ hmDoneS c16 1 s16d m16e = s16e := ⟨by decide, rfl⟩
theorem aw8 : hmAccE c16 1 s16e m16p = 0 ∧ hmAccS c16 1 s16e m16p = s16f := ⟨by decide, rfl⟩
theorem aw9 : hmWorkM s16f 0 (0, 0, 0) = .zero ∧ hmWorkB s16f 0 (0, 0, 0) = false ∧ hmDid s16f 0 (0, 0, 0) = true ∧ hmWorkS c16 s16f 0 (0, 0, 0) = s16g := ⟨by decide, by decide, by decide, rfl⟩
theorem awl : hmLine c16 s16g 3 = ⟨8, 9, 0, 0, 0, 0, 0, 0⟩ ∧ hmOwn s16g 3 = true ∧ hmEnt s16e 3 = e16 1 ∧ hmOwn s16e 3 = true ∧ hmEnt s16e 2 = .no ∧ hmOwn s16e 2 = false := ⟨by decide, by decide, by decide, by decide, by decide, by decide⟩
theorem awIa : HmI c16 1 s16a := by rw [show s16a = hmNew c16 1 from rfl]; exact hmI_new (by decide)
theorem awIb : HmI c16 1 s16b := by rw [show s16b = hmAccS c16 1 s16a m16a from rfl]; exact hmI_acc awIa _
theorem awIc : HmI c16 1 s16c := by rw [← aw3.2.2.2]; exact hmI_work awIb _ _
theorem awId : HmI c16 1 s16d := by rw [← aw5.2.2.2]; exact hmI_work awIc _ _
theorem awIe : HmI c16 1 s16e := by rw [← aw7.2]; exact hmI_done awId _
theorem awIf : HmI c16 1 s16f := by rw [← aw8.2]; exact hmI_acc awIe _
set_option maxRecDepth 100000
set_option maxHeartbeats 4000000
attribute [local irreducible] Go.Exit.then Go.Exit.inBlock Go.Code.wp WC WO WE WQ V LoopQ FnQ Sat Star band bor IntKind.wrap WR Code.rounds WT KO
theorem law16_awake {F : List HP} : FnF Tryz.prog 27 [] [] F (fun r L' => r = .bool true ∧ L' = []) := by
  have hw : c16.wf := cfg_wf' (by decide)
  have hN := fun F => hm_New (F := F) (c := c16) (num := 1) hw (by decide)
  rw [show hmNew c16 1 = s16a from rfl] at hN
  have hN2 := fun F => hm_New_no (F := F) (c := c16) (num := 2) hw (by decide)
  have hA1 := fun F b => hm_Accept (F := F) (b := b) (num := 1) (s := s16a) (m := m16a) hw
  simp only [aw1] at hA1
  have hA2 := fun F b => hm_Accept (F := F) (b := b) (num := 1) (s := s16b) (m := m16b) hw
  simp only [aw2] at hA2
  have hW3 := fun F b => hm_Work (F := F) (b := b) (n := 0) (l := (0, 0, 0)) awIb (by decide)
  simp only [aw3] at hW3
  have hW4 := fun F b => hm_Work (F := F) (b := b) (n := 0) (l := (1, 1, 0)) awIc (by decide)
  simp only [aw4] at hW4
  have hW5 := fun F b => hm_Work (F := F) (b := b) (n := 0) (l := (0, 0, 1)) awIc (by decide)
  simp only [aw5] at hW5
  have hD6 := fun F b => hm_Done (F := F) (b := b) (num := 1) (s := s16d) (m := m16d) hw
  simp only [aw6] at hD6
  have hD7 := fun F b => hm_Done (F := F) (b := b) (num := 1) (s := s16d) (m := m16e) hw
  simp only [aw7] at hD7
  have hE3 := fun F b => hm_Entry (F := F) (b := b) (c := c16) (num := 1) (s := s16e) (line := 3) (fun e he => (awIe.may _ e he).1)
  have hE2 := fun F b => hm_Entry (F := F) (b := b) (c := c16) (num := 1) (s := s16e) (line := 2) (fun e he => (awIe.may _ e he).1)
  simp only [awl] at hE3 hE2
  have hA8 := fun F b => hm_Accept (F := F) (b := b) (num := 1) (s := s16e) (m := m16p) hw
  simp only [aw8] at hA8
  have hW9 := fun F b => hm_Work (F := F) (b := b) (n := 0) (l := (0, 0, 0)) awIf (by decide)
  simp only [aw9] at hW9
  have hL := fun F b => hm_Line (F := F) (b := b) (c := c16) (num := 1) (s := s16g) (line := 3) hw (by unfold I64; omega)
  simp only [awl] at hL
  have hQ := fun F b => hm_Queue (F := F) (b := b) (c := c16) (num := 1) (s := s16g)
  have hO := fun F b => hm_Odd (F := F) (b := b) (c := c16) (num := 1) (s := s16g)
  refine FnF.mk' Tryz.func27 rfl rfl Tryz.ntmps27 rfl ?_
  repeat (first | rintro _ _ ⟨rfl, rfl⟩ | refine exq fun _ => ?_ | intro _ | refine go ?_ | refine drq ?_ | refine cal @hN ?_ | refine cal @hN2 ?_ | refine cal @hA1 ?_ | refine cal @hA2 ?_ | refine cal @hW3 ?_ | refine cal @hW4 ?_ | refine cal @hW5 ?_ | refine cal @hD6 ?_ | refine cal @hD7 ?_ | refine cal @hE3 ?_ | refine cal @hE2 ?_ | refine cal @hA8 ?_ | refine cal @hW9 ?_ | refine cal @hL ?_ | refine cal @hQ ?_ | refine cal @hO ?_)
  exact fin0
end Go.Sx
