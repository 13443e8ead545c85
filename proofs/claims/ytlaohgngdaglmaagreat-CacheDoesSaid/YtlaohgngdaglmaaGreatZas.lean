/- Ca5, CaLaw: several of my texts as one. My own work. -/
import Derived.Test.YtlaohgngdaglmaaGreatZar
import Derived.Test.YtlaohgngdaglmaaGreatZal
import Derived.Test.YtlaohgngdaglmaaGreatZap
import Derived.Test.YtlaohgngdaglmaaGreatZaq
/- What caches do: a message is taken. The program's. My own work. -/
namespace Go.Sx
open Go Go.Proofs
set_option linter.unusedVariables false
set_option linter.unusedSectionVars false
set_option linter.unusedSimpArgs false
set_option maxRecDepth 100000
set_option maxHeartbeats 4000000
attribute [local irreducible] Go.Exit.then Go.Exit.inBlock Go.Code.wp WC WO WE WQ V LoopQ FnQ Sat Star band bor IntKind.wrap WR Code.rounds WT KO
theorem dr_Ca5_24 {Q P : Prop} (k : Q) (h : Hid Q → P := by
  intro k
  first
  | (refine is_draw ?_; apply WC_mix (id := 18) .true _ (pl := .p 0 <| .p 2 <| .p 4 <| .r 1 <| .e true [(3, .e true [(5, .p 6 <| .p 7 <| .done)]), (5, .e false [(3, .p 6 <| .p 7 <| .done)])]); exact mixed; kernel_rfl; kernel_rfl; exact Ent.refl; exact k.out)) : P := h ⟨k⟩
theorem ca_TakeO {F : List HP} {b a f e : Nat} {c : Cfg} {core : Int} {m : Msg} {k : CaS} (hc : checkB c = true) (hg : ∀ m ∈ k.mis, -9223372036854775808 ≤ m.got ∧ m.got ≤ 9223372036854775806) :
    FnF Tryz.prog 24 [.pointer (some ⟨b, 0, none⟩), mv m] (CaO b a f e c core k) F
      (fun r L' => r = .tuple [mv (caTakeM c core k m), .bool (caTakeB c core k m), .int .i64 (caTakeE c core k m)].toArray ∧ L' = CaO b a f e c core (caTakeK c core k m)) := by
  have hMay := fun F => msg_May (F := F) (m := m) (cfg_wf hc)
  by_cases h : caTakeOk c core m = true
  · have h' := h
    simp only [caTakeOk, Bool.and_eq_true, decide_eq_true_eq, Bool.not_eq_true', decide_eq_false_iff_not] at h'
    obtain ⟨⟨h1, h2⟩, h3⟩ := h'
    have hli : I64 m.line := okLine_i64 (may_line h1)
    have hk := h1.2.1
    have hkk : m.kind = 4 ∨ m.kind = 5 ∨ m.kind = 6 ∨ m.kind = 7 ∨ m.kind = 8 ∨ m.kind = 9 ∨ m.kind = 10 := by
      unfold HomeP at h2; omega
    simp only [decide_eq_true h1] at hMay
    have hHome := fun F => msg_Home (F := F) (k := m.kind)
    simp only [decide_eq_false h2] at hHome
    have hS := fun F => ca_fwdSO (F := F) (b := b) (a := a) (f := f) (e := e) (core := core) (m := m) (k := k) hc hli
    have hM := fun F => ca_fwdMO (F := F) (b := b) (a := a) (f := f) (e := e) (core := core) (m := m) (k := k) hc hli
    have hI := fun F => ca_invO (F := F) (b := b) (a := a) (f := f) (e := e) (core := core) (m := m) (k := k) hc hli
    have hD := fun F => ca_dataO (F := F) (b := b) (a := a) (f := f) (e := e) (core := core) (m := m) (k := k) hc hli
    have hG := fun F => ca_grantO (F := F) (b := b) (a := a) (f := f) (e := e) (core := core) (m := m) (k := k) hc hli
    have hA := fun F => ca_ackO (F := F) (b := b) (a := a) (f := f) (e := e) (core := core) (m := m) (k := k) hc hli hg
    have hP := fun F => ca_putAckO (F := F) (b := b) (a := a) (f := f) (e := e) (c := c) (core := core) (m := m) (k := k) hc
    unfold caTakeM caTakeB caTakeE caTakeK
    rcases hkk with g | g | g | g | g | g | g <;> simp only [h, g, if_true, Int.reduceEq, if_false, or_true, or_false, Int.reduceLE, and_true, and_false, decide_false, true_or, false_or]
    · refine FnF.mk' Tryz.func24 rfl rfl Tryz.ntmps24 rfl ?_
      repeat' (first | rintro _ _ ⟨rfl, rfl⟩ | refine exq fun _ => ?_ | intro _ | refine go ?_ | refine dr_Ca5_24 ?_ | refine drq ?_ | refine cal @hMay ?_ | refine cal @hHome ?_ | refine cal @hS ?_ | refine spl ?_ ?_ | fail)
      all_goals exact fin0
    · refine FnF.mk' Tryz.func24 rfl rfl Tryz.ntmps24 rfl ?_
      repeat' (first | rintro _ _ ⟨rfl, rfl⟩ | refine exq fun _ => ?_ | intro _ | refine go ?_ | refine dr_Ca5_24 ?_ | refine drq ?_ | refine cal @hMay ?_ | refine cal @hHome ?_ | refine cal @hM ?_ | refine spl ?_ ?_ | fail)
      all_goals exact fin0
    · refine FnF.mk' Tryz.func24 rfl rfl Tryz.ntmps24 rfl ?_
      repeat' (first | rintro _ _ ⟨rfl, rfl⟩ | refine exq fun _ => ?_ | intro _ | refine go ?_ | refine dr_Ca5_24 ?_ | refine drq ?_ | refine cal @hMay ?_ | refine cal @hHome ?_ | refine cal @hI ?_ | refine spl ?_ ?_ | fail)
      all_goals exact fin0
    · refine FnF.mk' Tryz.func24 rfl rfl Tryz.ntmps24 rfl ?_
      repeat' (first | rintro _ _ ⟨rfl, rfl⟩ | refine exq fun _ => ?_ | intro _ | refine go ?_ | refine dr_Ca5_24 ?_ | refine drq ?_ | refine cal @hMay ?_ | refine cal @hHome ?_ | refine cal @hD ?_ | refine spl ?_ ?_ | fail)
      all_goals exact fin0
    · refine FnF.mk' Tryz.func24 rfl rfl Tryz.ntmps24 rfl ?_
      repeat' (first | rintro _ _ ⟨rfl, rfl⟩ | refine exq fun _ => ?_ | intro _ | refine go ?_ | refine dr_Ca5_24 ?_ | refine drq ?_ | refine cal @hMay ?_ | refine cal @hHome ?_ | refine cal @hG ?_ | refine spl ?_ ?_ | fail)
      all_goals exact fin0
    · refine FnF.mk' Tryz.func24 rfl rfl Tryz.ntmps24 rfl ?_
      repeat' (first | rintro _ _ ⟨rfl, rfl⟩ | refine exq fun _ => ?_ | intro _ | refine go ?_ | refine dr_Ca5_24 ?_ | refine drq ?_ | refine cal @hMay ?_ | refine cal @hHome ?_ | refine cal @hA ?_ | refine spl ?_ ?_ | fail)
      all_goals exact fin0
    · refine FnF.mk' Tryz.func24 rfl rfl Tryz.ntmps24 rfl ?_
      repeat' (first | rintro _ _ ⟨rfl, rfl⟩ | refine exq fun _ => ?_ | intro _ | refine go ?_ | refine dr_Ca5_24 ?_ | refine drq ?_ | refine cal @hMay ?_ | refine cal @hHome ?_ | refine cal @hP ?_ | refine spl ?_ ?_ | fail)
      all_goals exact fin0
  · have e1 : caTakeE c core k m = 1 := if_neg h
    have e2 : caTakeB c core k m = false := by unfold caTakeB; rw [e1]; simp
    have e3 : caTakeM c core k m = .zero := if_neg h
    have e4 : caTakeK c core k m = k := if_neg h
    rw [e1, e2, e3, e4]
    by_cases h1 : MayP c m
    · simp only [decide_eq_true h1] at hMay
      by_cases h2 : HomeP m.kind
      · have hHome := fun F => msg_Home (F := F) (k := m.kind)
        simp only [decide_eq_true h2] at hHome
        refine FnF.mk' Tryz.func24 rfl rfl Tryz.ntmps24 rfl ?_
        repeat' (first | rintro _ _ ⟨rfl, rfl⟩ | refine exq fun _ => ?_ | intro _ | refine go ?_ | refine dr_Ca5_24 ?_ | refine drq ?_ | refine cal @hMay ?_ | refine cal @hHome ?_ | refine spl ?_ ?_ | fail)
        all_goals exact fin0
      · have hHome := fun F => msg_Home (F := F) (k := m.kind)
        simp only [decide_eq_false h2] at hHome
        have h3 : ¬ m.dst = core := fun h3 => h (by simp [caTakeOk, h1, h2, h3])
        refine FnF.mk' Tryz.func24 rfl rfl Tryz.ntmps24 rfl ?_
        repeat' (first | rintro _ _ ⟨rfl, rfl⟩ | refine exq fun _ => ?_ | intro _ | refine go ?_ | refine dr_Ca5_24 ?_ | refine drq ?_ | refine cal @hMay ?_ | refine cal @hHome ?_ | refine spl ?_ ?_ | fail)
        all_goals exact fin0
    · simp only [decide_eq_false h1] at hMay
      refine FnF.mk' Tryz.func24 rfl rfl Tryz.ntmps24 rfl ?_
      repeat' (first | rintro _ _ ⟨rfl, rfl⟩ | refine exq fun _ => ?_ | intro _ | refine go ?_ | refine dr_Ca5_24 ?_ | refine drq ?_ | refine cal @hMay ?_ | refine spl ?_ ?_ | fail)
      all_goals exact fin0
theorem ca_Take {F : List HP} {b : Nat} {c : Cfg} {core : Int} {m : Msg} {k : CaS} (hg : ∀ m ∈ k.mis, -9223372036854775808 ≤ m.got ∧ m.got ≤ 9223372036854775806) :
    FnF Tryz.prog 24 [.pointer (some ⟨b, 0, none⟩), mv m] [CaP b c core k] F
      (fun r L' => r = .tuple [mv (caTakeM c core k m), .bool (caTakeB c core k m), .int .i64 (caTakeE c core k m)].toArray ∧ L' = [CaP b c core (caTakeK c core k m)]) :=
  ca_close (fun a f e hf => ca_TakeO hf.1 hg) (enters_of Tryz.func24 rfl rfl)
end Go.Sx

/- The law of caches: what its functions do. My own work. -/
namespace Go.Sx
open Go Go.Proofs
set_option linter.unusedVariables false
set_option linter.unusedSectionVars false
set_option linter.unusedSimpArgs false
def c14 : Cfg := ⟨2, 1, 1, 1, 2, 4, 0, 1, 1, 1, 1, 1, 1⟩
def ca0 : CaS := ⟨[.zero], [], []⟩
def ca1 : CaS := ⟨[⟨0, 3, .zero, true⟩], [⟨3, 2, -1, 0, 0, .zero, false, false⟩], []⟩
def w56 : Words := ⟨5, 6, 0, 0, 0, 0, 0, 0⟩
def w59 : Words := ⟨5, 9, 0, 0, 0, 0, 0, 0⟩
def ca2 : CaS := ⟨[⟨4, 3, w56, true⟩], [⟨3, 2, 0, 0, 4, w56, false, true⟩], []⟩
def ca3 : CaS := ⟨[⟨4, 3, w59, true⟩], [⟨3, 2, 0, 0, 4, w56, false, true⟩], []⟩
def ca4 : CaS := ⟨[⟨4, 3, w59, false⟩], [], []⟩
def ca5 : CaS := ⟨[⟨0, 3, .zero, false⟩], [], [⟨3, w59, true⟩]⟩
def ca6 : CaS := ⟨[⟨0, 3, .zero, false⟩], [], [⟨3, w59, false⟩]⟩
def largeB (c : Cfg) : Bool := decide (64 < c.lines ∧ c.lines ≤ 1024)
set_option maxRecDepth 100000
set_option maxHeartbeats 4000000
attribute [local irreducible] Go.Exit.then Go.Exit.inBlock Go.Code.wp WC WO WE WQ V LoopQ FnQ Sat Star band bor IntKind.wrap WR Code.rounds WT KO
theorem law14_large {F : List HP} {c : Cfg} : FnF Tryz.prog 10 [c.val] [] F (fun r L' => r = .bool (largeB c) ∧ L' = []) := by
  refine FnF.mk' Tryz.func10 rfl rfl Tryz.ntmps10 rfl ?_
  unfold largeB
  by_cases h : c.lines > 64
  · repeat (first | rintro _ _ ⟨rfl, rfl⟩ | refine exq fun _ => ?_ | intro _ | refine go ?_ | refine drq ?_)
    (apply WE_ret rfl rfl (by (repeat (first | exact ResOk.nil | (apply ResOk.tmp; rfl) | (apply resOk_cell; rfl; exact inferInstance; rfl; rfl)))); (first | exact ⟨rfl, rfl⟩ | exact ⟨congrArg Value.bool (by decide), rfl⟩ | exact ⟨_, rfl, rfl⟩ | exact ⟨_, _, rfl, rfl⟩ | exact ⟨by first | (simp [h]; done) | (simp [h] <;> omega), rfl⟩); (repeat (first | exact Ent.refl | exact Ent.nil | apply Ent.pick | apply Ent.drop)))
  · repeat (first | rintro _ _ ⟨rfl, rfl⟩ | refine exq fun _ => ?_ | intro _ | refine go ?_ | refine drq ?_)
    (apply WE_ret rfl rfl (by (repeat (first | exact ResOk.nil | (apply ResOk.tmp; rfl) | (apply resOk_cell; rfl; exact inferInstance; rfl; rfl)))); (first | exact ⟨rfl, rfl⟩ | exact ⟨congrArg Value.bool (by decide), rfl⟩ | exact ⟨_, rfl, rfl⟩ | exact ⟨_, _, rfl, rfl⟩ | exact ⟨by first | (simp [h]; done) | (simp [h] <;> omega), rfl⟩); (repeat (first | exact Ent.refl | exact Ent.nil | apply Ent.pick | apply Ent.drop)))
theorem law14_awake {F : List HP} : FnF Tryz.prog 9 [] [] F (fun r L' => r = .bool true ∧ L' = []) := by
  have hc : checkB c14 = true := by decide
  have hw := cfg_wf hc
  have i3 : I64 3 := by decide
  have hN := fun F => ca_New (F := F) (core := 1) hw ⟨hc, by decide, by decide⟩
  have hN0 := fun F => ca_New_no (F := F) (core := 2) hw (by decide)
  have e0 : (⟨List.replicate (c14.sets * c14.ways).toNat .zero, [], []⟩ : CaS) = ca0 := by kernel_rfl
  rw [e0] at hN
  have hA := fun F b => ca_Ask (F := F) (b := b) (c := c14) (core := 1) (k := ca0) (line := 3) (kind := 2) i3
  rw [show caAskK c14 ca0 3 2 = ca1 by kernel_rfl, show caAskE c14 ca0 3 2 = 0 by kernel_rfl, show caAskM c14 1 ca0 3 2 = ⟨2, 3, 1, 0, 0, 0, 0, .zero⟩ by kernel_rfl] at hA
  have hB := fun F b => ca_Do (F := F) (b := b) (c := c14) (core := 1) (k := ca1) (x := ⟨1, 7, 0⟩) ⟨by decide, by decide, by decide⟩
  rw [show caDoK c14 ca1 ⟨1, 7, 0⟩ = ca1 by kernel_rfl, show caDoE c14 ca1 ⟨1, 7, 0⟩ = 5 by kernel_rfl] at hB
  have hC := fun F b => ca_Take (F := F) (b := b) (c := c14) (core := 1) (k := ca1) (m := ⟨7, 3, 0, 1, 0, 0, 4, w56⟩) (by decide)
  rw [show caTakeK c14 1 ca1 ⟨7, 3, 0, 1, 0, 0, 4, w56⟩ = ca2 by kernel_rfl, show caTakeE c14 1 ca1 ⟨7, 3, 0, 1, 0, 0, 4, w56⟩ = 0 by kernel_rfl, show caTakeB c14 1 ca1 ⟨7, 3, 0, 1, 0, 0, 4, w56⟩ = false by kernel_rfl] at hC
  have hD := fun F b => ca_Do (F := F) (b := b) (c := c14) (core := 1) (k := ca2) (x := ⟨3, 7, 9⟩) ⟨by decide, by decide, by decide⟩
  rw [show caDoK c14 ca2 ⟨3, 7, 9⟩ = ca3 by kernel_rfl, show caDoE c14 ca2 ⟨3, 7, 9⟩ = 0 by kernel_rfl, show caDoV c14 ca2 ⟨3, 7, 9⟩ = 6 by kernel_rfl] at hD
  have hE := fun F b => ca_Finish (F := F) (b := b) (c := c14) (core := 1) (k := ca3) (by decide)
  rw [show caFinK c14 ca3 = ca4 by kernel_rfl, show caFinB ca3 = true by kernel_rfl, show caFinM c14 1 ca3 = ⟨11, 3, 1, 0, 0, 0, 0, .zero⟩ by kernel_rfl] at hE
  have hG := fun F b => ca_Evict (F := F) (b := b) (c := c14) (core := 1) (k := ca4) (s := 0) (w := 0) (fun i h _ => by
    have : i = 0 := by simp [ca4] at h; exact h
    subst this
    refine ⟨show okLine c14 3 = true by decide, show arrF c14 3 ≤ 0 by decide, show 0 < arrF c14 3 + c14.ways.toNat by decide, fun j hj _ _ => ?_⟩
    simp [ca4] at hj; exact hj)
  rw [show caEvK c14 ca4 0 0 = ca5 by kernel_rfl, show caEvB c14 ca4 0 0 = true by kernel_rfl, show caEvE c14 ca4 0 0 = 0 by kernel_rfl, show caEvM c14 1 ca4 0 0 = ⟨3, 3, 1, 0, 0, 0, 0, w59⟩ by kernel_rfl] at hG
  have hH := fun F b => ca_Take (F := F) (b := b) (c := c14) (core := 1) (k := ca5) (m := ⟨5, 3, 0, 1, 0, 1, 0, .zero⟩) (by decide)
  rw [show caTakeK c14 1 ca5 ⟨5, 3, 0, 1, 0, 1, 0, .zero⟩ = ca6 by kernel_rfl, show caTakeE c14 1 ca5 ⟨5, 3, 0, 1, 0, 1, 0, .zero⟩ = 0 by kernel_rfl, show caTakeB c14 1 ca5 ⟨5, 3, 0, 1, 0, 1, 0, .zero⟩ = true by kernel_rfl, show caTakeM c14 1 ca5 ⟨5, 3, 0, 1, 0, 1, 0, .zero⟩ = ⟨7, 3, 1, 0, 1, 1, 4, w59⟩ by kernel_rfl] at hH
  have hI := fun F b => ca_Take (F := F) (b := b) (c := c14) (core := 1) (k := ca6) (m := ⟨5, 3, 0, 1, 0, 0, 0, .zero⟩) (by decide)
  rw [show caTakeK c14 1 ca6 ⟨5, 3, 0, 1, 0, 0, 0, .zero⟩ = ca6 by kernel_rfl, show caTakeE c14 1 ca6 ⟨5, 3, 0, 1, 0, 0, 0, .zero⟩ = 7 by kernel_rfl] at hI
  have hJ := fun F b => ca_Written (F := F) (b := b) (c := c14) (core := 1) (k := ca6)
  obtain ⟨bl, hbl⟩ : ∃ bl, bl = ca6.buf := ⟨_, rfl⟩
  have hb1 : bl.length = 1 := by rw [hbl]; rfl
  have hb0 : bl[(0 : Int).toNat]? = some ⟨3, w59, false⟩ := by rw [hbl]; rfl
  rw [← hbl] at hJ
  have hK := fun F b => ca_Misses (F := F) (b := b) (c := c14) (core := 1) (k := ca6)
  refine FnF.mk' Tryz.func9 rfl rfl Tryz.ntmps9 rfl ?_
  repeat (first | rintro _ _ ⟨rfl, rfl⟩ | refine exq fun _ => ?_ | intro _ | refine go ?_ | refine drq ?_ | refine cal @hN ?_ | refine cal @hN0 ?_ | refine cal @hA ?_ | refine cal @hB ?_ | refine cal @hC ?_ | refine cal @hD ?_ | refine cal @hE ?_ | refine cal @hG ?_ | refine cal @hH ?_ | refine cal @hI ?_ | refine cal @hJ ?_ | refine cal @hK ?_)
  exact fin0
theorem law14_do {F : List HP} {b n : Nat} {c : Cfg} {core : Int} {k : CaS} {s : CStep} (hI : CaInv c n k) (hn : n ≤ 1000000) (hs : s.wf) :
    FnF Tryz.prog 13 [.pointer (some ⟨b, 0, none⟩), csv s] [CaP b c core k] F (fun r L' => r = rpv (stM c core k s) (stB c core k s) (stN c k s) (stE c core k s) ∧ L' = [CaP b c core (stK c core k s)]) := by
  obtain ⟨p1, p2, p3, p4⟩ := ca_pre hI hn
  obtain ⟨s1, s2, s3, s4, s5⟩ := hs
  unfold stM stB stN stE stK
  by_cases g0 : s.d = 0
  · have hA := fun F => ca_Ask (F := F) (b := b) (c := c) (core := core) (k := k) (line := s.a) (kind := s.b) s2
    simp only [g0, if_true, true_or]
    refine FnF.mk' Tryz.func13 rfl rfl Tryz.ntmps13 rfl ?_
    repeat (first | rintro _ _ ⟨rfl, rfl⟩ | refine exq fun _ => ?_ | intro _ | refine go ?_ | refine drq ?_ | refine cal @hA ?_)
    exact fin0
  · by_cases g1 : s.d = 1
    · have hA := fun F => ca_Evict (F := F) (b := b) (c := c) (core := core) (k := k) (s := s.a) (w := s.b) hI.1
      simp only [g1, Int.reduceEq, if_true, if_false, true_or, or_true]
      refine FnF.mk' Tryz.func13 rfl rfl Tryz.ntmps13 rfl ?_
      repeat (first | rintro _ _ ⟨rfl, rfl⟩ | refine exq fun _ => ?_ | intro _ | refine go ?_ | refine drq ?_ | refine cal @hA ?_)
      exact fin0
    · by_cases g2 : s.d = 2
      · have hA := fun F => ca_Take (F := F) (b := b) (c := c) (core := core) (k := k) (m := s.m) p1
        simp only [g2, Int.reduceEq, if_true, if_false, true_or, or_true]
        refine FnF.mk' Tryz.func13 rfl rfl Tryz.ntmps13 rfl ?_
        repeat (first | rintro _ _ ⟨rfl, rfl⟩ | refine exq fun _ => ?_ | intro _ | refine go ?_ | refine drq ?_ | refine cal @hA ?_)
        exact fin0
      · by_cases g3 : s.d = 3
        · have hA := fun F => ca_Finish (F := F) (b := b) (c := c) (core := core) (k := k) p3
          simp only [g3, Int.reduceEq, if_true, if_false, true_or, or_true]
          refine FnF.mk' Tryz.func13 rfl rfl Tryz.ntmps13 rfl ?_
          repeat (first | rintro _ _ ⟨rfl, rfl⟩ | refine exq fun _ => ?_ | intro _ | refine go ?_ | refine drq ?_ | refine cal @hA ?_)
          exact fin0
        · have hA := fun F => ca_Do (F := F) (b := b) (c := c) (core := core) (k := k) (x := s.x) s5
          simp only [g0, g1, g2, g3, if_false, or_false]
          refine FnF.mk' Tryz.func13 rfl rfl Tryz.ntmps13 rfl ?_
          repeat (first | rintro _ _ ⟨rfl, rfl⟩ | refine exq fun _ => ?_ | intro _ | refine go ?_ | refine drq ?_ | refine cal @hA ?_)
          exact fin0
end Go.Sx
