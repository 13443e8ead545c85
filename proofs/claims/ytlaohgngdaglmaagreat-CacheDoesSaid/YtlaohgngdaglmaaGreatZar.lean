/- Ca4: several of my texts as one. My own work. -/
import Derived.Test.YtlaohgngdaglmaaGreatZak
/- What caches do: what becomes of each message. The program's. My own work. -/
namespace Go.Sx
open Go Go.Proofs
set_option linter.unusedVariables false
set_option linter.unusedSectionVars false
set_option linter.unusedSimpArgs false
abbrev anc (m : Msg) (b : Bool) : List Value := [.int .i64 m.kind, .int .i64 m.line, .int .i64 m.src, .int .i64 m.dst, .int .i64 m.who, .int .i64 m.acks, .int .i64 m.own, .int .i64 m.words.w0, .int .i64 m.words.w1, .int .i64 m.words.w2, .int .i64 m.words.w3, .int .i64 m.words.w4, .int .i64 m.words.w5, .int .i64 m.words.w6, .int .i64 m.words.w7, .bool b]
abbrev anv (m : Msg) (b : Bool) : Value := .agg (anc m b).toArray
theorem may_line {c : Cfg} {m : Msg} (h : MayP c m) : okLine c m.line = true := by
  obtain ⟨h1, _, h2, _⟩ := h
  simp [okLine, h1, h2]
set_option maxRecDepth 100000
set_option maxHeartbeats 4000000
attribute [local irreducible] Go.Exit.then Go.Exit.inBlock Go.Code.wp WC WO WE WQ V LoopQ FnQ Sat Star band bor IntKind.wrap WR Code.rounds WT KO
theorem dr_Ca4_155 {Q P : Prop} (k : Q) (h : Hid Q → P := by
  intro k
  first
  | (refine is_draw ?_; apply WC_mix (id := 4) .true _ (pl := .p 0 <| .p 1 <| .p 2 <| .p 4 <| .p 6 <| .r 3 <| .r 5 <| .r 7 <| .e true [(8, .done)]); exact mixed; kernel_rfl; kernel_rfl; exact Ent.refl; exact k.out)
  | (refine is_draw ?_; apply WC_mix (id := 10) .true [] (pl := .p 0 <| .p 1 <| .p 4 <| .e true [(2, .e true [(3, .e true [(5, .p 6 <| .e false [(7, .p 8 <| .e false [(9, .p 10 <| .e false [(11, .done)])])])]), (5, .p 6 <| .e false [(3, .e false [(7, .p 8 <| .e false [(9, .p 10 <| .e false [(11, .done)])])]), (7, .p 8 <| .e false [(3, .e false [(9, .p 10 <| .e false [(11, .done)])]), (9, .e false [(3, .p 10 <| .e false [(11, .done)])])])])]), (3, .e true [(2, .e true [(5, .p 6 <| .e false [(7, .p 8 <| .e false [(9, .p 10 <| .e false [(11, .done)])])])]), (5, .p 6 <| .e false [(2, .e false [(7, .p 8 <| .e false [(9, .p 10 <| .e false [(11, .done)])])]), (7, .e false [(2, .p 8 <| .e false [(9, .p 10 <| .e false [(11, .done)])])])])]), (5, .p 6 <| .e false [(2, .e false [(3, .e false [(7, .p 8 <| .e false [(9, .p 10 <| .e false [(11, .done)])])]), (7, .p 8 <| .e false [(3, .e false [(9, .p 10 <| .e false [(11, .done)])]), (9, .e false [(3, .p 10 <| .e false [(11, .done)])])])]), (3, .e false [(2, .e false [(7, .p 8 <| .e false [(9, .p 10 <| .e false [(11, .done)])])]), (7, .e false [(2, .p 8 <| .e false [(9, .p 10 <| .e false [(11, .done)])])])]), (7, .e false [(2, .p 8 <| .e false [(3, .e false [(9, .p 10 <| .e false [(11, .done)])]), (9, .e false [(3, .p 10 <| .e false [(11, .done)])])]), (3, .e false [(2, .p 8 <| .e false [(9, .p 10 <| .e false [(11, .done)])])])])])]); exact mixed; kernel_rfl; kernel_rfl; exact Ent.nil; exact k.out)) : P := h ⟨k⟩
theorem ca_tellO {F : List HP} {b a f e : Nat} {c : Cfg} {core own st : Int} {m : Msg} {k : CaS} {fk : FuncId} {give : Bool} (hc : checkB c = true) (hli : I64 m.line)
    (H : ∀ F, FnF Tryz.prog fk [.pointer (some ⟨e, 0, none⟩), .int .i64 m.line] [Wb e c.writebacks k.buf] F (fun r L' => r = .tuple [wv (wbTellW k.buf m.line), .int .i64 (wbTellE k.buf m.line)].toArray ∧ L' = [Wb e c.writebacks (if give then wbGiveL k.buf m.line else k.buf)])) :
    FnF Tryz.prog 155 [.pointer (some ⟨b, 0, none⟩), mv m, .int .i64 own, .int .i64 st, .func (.func fk) [.pointer (some ⟨e, 0, none⟩)].toArray [].toArray] (CaO b a f e c core k) F
      (fun r L' => r = .tuple [anv (caTellM c core k m own) (decide (caTellE c k m.line = 0)), .int .i64 (caTellE c k m.line)].toArray ∧ L' = CaO b a f e c core (caTellK c k m.line st give)) := by
  have hLook := fun F => ca_LookO (F := F) (b := b) (a := a) (f := f) (e := e) (core := core) (k := k) hc hli
  have hSet := fun F => arr_Set (F := F) (b := a) (c := c) (l := k.ways) (line := m.line) (st := st) (w := (findW c k.ways m.line).words) (cfg_wf hc) hli
  have hTo := fun F k' => ca_toO (F := F) (b := b) (a := a) (f := f) (e := e) (c := c) (core := core) (k := k') (kind := 7) (m := m)
  by_cases h2 : 2 ≤ (findW c k.ways m.line).st
  · have e1 : caTellE c k m.line = 0 := if_pos h2
    have e2 : caTellM c core k m own = ⟨7, m.line, core, m.who, 1, m.acks, own, (findW c k.ways m.line).words⟩ := by unfold caTellM caTellW; rw [if_pos e1, if_pos h2]
    have e3 : caTellK c k m.line st give = ⟨setL c k.ways m.line st (findW c k.ways m.line).words, k.mis, k.buf⟩ := if_pos h2
    rw [e1, e2, e3, decide_eq_true rfl]
    have hTo2 := fun F => hTo F ⟨setL c k.ways m.line st (findW c k.ways m.line).words, k.mis, k.buf⟩
    refine FnF.mk' Tryz.func155 rfl rfl Tryz.ntmps155 rfl ?_
    repeat' (first | rintro _ _ ⟨rfl, rfl⟩ | refine exq fun _ => ?_ | intro _ | refine go ?_ | refine dr_Ca4_155 ?_ | refine drq ?_ | refine cal @hLook ?_ | refine cal @ca_owns ?_ | refine cal @hSet ?_ | refine cal @hTo2 ?_ | refine spl ?_ ?_ | fail)
    all_goals exact fin0
  · by_cases h3 : wbTellE k.buf m.line = 0
    · have e1 : caTellE c k m.line = 0 := by unfold caTellE; rw [if_neg h2, if_pos h3]
      have e2 : caTellM c core k m own = ⟨7, m.line, core, m.who, 1, m.acks, own, wbTellW k.buf m.line⟩ := by unfold caTellM caTellW; rw [if_pos e1, if_neg h2]
      have e3 : caTellK c k m.line st give = ⟨k.ways, k.mis, if give then wbGiveL k.buf m.line else k.buf⟩ := by unfold caTellK; rw [if_neg h2]; cases give <;> rfl
      rw [e1, e2, e3, decide_eq_true rfl]
      simp only [h3] at H
      have hTo2 := fun F => hTo F ⟨k.ways, k.mis, if give then wbGiveL k.buf m.line else k.buf⟩
      refine FnF.mk' Tryz.func155 rfl rfl Tryz.ntmps155 rfl ?_
      repeat' (first | rintro _ _ ⟨rfl, rfl⟩ | refine exq fun _ => ?_ | intro _ | refine go ?_ | refine dr_Ca4_155 ?_ | refine drq ?_ | refine cal @hLook ?_ | refine cal @ca_owns ?_ | refine cal @H ?_ | refine cal @hTo2 ?_ | refine spl ?_ ?_ | fail)
      all_goals exact fin0
    · have e1 : caTellE c k m.line = 7 := by unfold caTellE; rw [if_neg h2, if_neg h3]
      have e2 : caTellM c core k m own = .zero := by unfold caTellM; rw [e1]; rfl
      have e4 : wbGiveL k.buf m.line = k.buf := by
        unfold wbGiveL
        unfold wbTellE at h3
        cases g1 : wbIn k.buf m.line with
        | false => rfl
        | true =>
          cases g2 : (wbAt k.buf m.line).live with
          | false => rfl
          | true => rw [g1, if_pos rfl, g2, if_pos rfl] at h3; exact absurd rfl h3
      have e3 : caTellK c k m.line st give = k := by unfold caTellK; rw [if_neg h2, e4]; cases give <;> rfl
      rw [e4] at H
      have e5 : (if give = true then k.buf else k.buf) = k.buf := by split <;> rfl
      rw [e5] at H
      rw [e1, e2, e3, decide_eq_false (by decide)]
      refine FnF.mk' Tryz.func155 rfl rfl Tryz.ntmps155 rfl ?_
      repeat' (first | rintro _ _ ⟨rfl, rfl⟩ | refine exq fun _ => ?_ | intro _ | refine go ?_ | refine dr_Ca4_155 ?_ | refine drq ?_ | refine cal @hLook ?_ | refine cal @ca_owns ?_ | refine cal @H ?_ | refine spl ?_ ?_ | fail)
      all_goals exact fin0
theorem dr_Ca4_76 {Q P : Prop} (k : Q) (h : Hid Q → P := by
  intro k
  first
  | (refine is_draw ?_; apply WC_mix (id := 1) .true _ (pl := .p 0 <| .p 2 <| .p 3 <| .p 4 <| .r 1 <| .r 5 <| .p 6 <| .e true [(7, .p 8 <| .p 9 <| .e false [(10, .p 11 <| .done)])]); exact mixed; kernel_rfl; kernel_rfl; exact Ent.refl; exact k.out)) : P := h ⟨k⟩
theorem ca_fwdSO {F : List HP} {b a f e : Nat} {c : Cfg} {core : Int} {m : Msg} {k : CaS} (hc : checkB c = true) (hli : I64 m.line) :
    FnF Tryz.prog 76 [.pointer (some ⟨b, 0, none⟩), mv m] (CaO b a f e c core k) F
      (fun r L' => r = .tuple [anv (caTellM c core k m 1) (decide (caTellE c k m.line = 0)), .int .i64 (caTellE c k m.line)].toArray ∧ L' = CaO b a f e c core (caTellK c k m.line 3 false)) := by
  have hT := fun F => ca_tellO (F := F) (b := b) (a := a) (f := f) (e := e) (core := core) (own := 1) (st := 3) (m := m) (k := k) (give := false) hc hli (fun F => wb_Share)
  refine FnF.mk' Tryz.func76 rfl rfl Tryz.ntmps76 rfl ?_
  repeat (first | rintro _ _ ⟨rfl, rfl⟩ | refine exq fun _ => ?_ | intro _ | refine go ?_ | refine dr_Ca4_76 ?_ | refine drq ?_ | refine cal @hT ?_)
  exact fin0
theorem dr_Ca4_77 {Q P : Prop} (k : Q) (h : Hid Q → P := by
  intro k
  first
  | (refine is_draw ?_; apply WC_mix (id := 1) .true _ (pl := .p 0 <| .p 2 <| .p 3 <| .p 4 <| .r 1 <| .r 5 <| .p 6 <| .e true [(7, .p 8 <| .p 9 <| .e false [(10, .p 11 <| .done)])]); exact mixed; kernel_rfl; kernel_rfl; exact Ent.refl; exact k.out)) : P := h ⟨k⟩
theorem ca_fwdMO {F : List HP} {b a f e : Nat} {c : Cfg} {core : Int} {m : Msg} {k : CaS} (hc : checkB c = true) (hli : I64 m.line) :
    FnF Tryz.prog 77 [.pointer (some ⟨b, 0, none⟩), mv m] (CaO b a f e c core k) F
      (fun r L' => r = .tuple [anv (caTellM c core k m 4) (decide (caTellE c k m.line = 0)), .int .i64 (caTellE c k m.line)].toArray ∧ L' = CaO b a f e c core (caTellK c k m.line 0 true)) := by
  have hT := fun F => ca_tellO (F := F) (b := b) (a := a) (f := f) (e := e) (core := core) (own := 4) (st := 0) (m := m) (k := k) (give := true) hc hli (fun F => wb_Give)
  refine FnF.mk' Tryz.func77 rfl rfl Tryz.ntmps77 rfl ?_
  repeat (first | rintro _ _ ⟨rfl, rfl⟩ | refine exq fun _ => ?_ | intro _ | refine go ?_ | refine dr_Ca4_77 ?_ | refine drq ?_ | refine cal @hT ?_)
  exact fin0
theorem dr_Ca4_78 {Q P : Prop} (k : Q) (h : Hid Q → P := by
  intro k
  first
  | (refine is_draw ?_; apply WC_mix (id := 5) .true _ (pl := .p 0 <| .p 1 <| .p 2 <| .p 4 <| .p 6 <| .r 3 <| .r 5 <| .e true [(7, .done)]); exact mixed; kernel_rfl; kernel_rfl; exact Ent.refl; exact k.out)) : P := h ⟨k⟩
theorem ca_invO {F : List HP} {b a f e : Nat} {c : Cfg} {core : Int} {m : Msg} {k : CaS} (hc : checkB c = true) (hli : I64 m.line) :
    FnF Tryz.prog 78 [.pointer (some ⟨b, 0, none⟩), mv m] (CaO b a f e c core k) F
      (fun r L' => r = .tuple [anv (caInvM c core k m) (decide (caInvE c k m.line = 0)), .int .i64 (caInvE c k m.line)].toArray ∧ L' = CaO b a f e c core (if caInvE c k m.line = 0 then caInvK c k m.line else k)) := by
  have hLook := fun F => ca_LookO (F := F) (b := b) (a := a) (f := f) (e := e) (core := core) (k := k) hc hli
  have hSet := fun F => arr_Set (F := F) (b := a) (c := c) (l := k.ways) (line := m.line) (st := 0) (w := .zero) (cfg_wf hc) hli
  have hTo := fun F k' => ca_toO (F := F) (b := b) (a := a) (f := f) (e := e) (c := c) (core := core) (k := k') (kind := 9) (m := m)
  by_cases h2 : 2 ≤ (findW c k.ways m.line).st
  · have e1 : caInvE c k m.line = 7 := if_pos h2
    have e2 : caInvM c core k m = .zero := by unfold caInvM; rw [e1]; rfl
    rw [e1, e2, decide_eq_false (by decide), if_neg (by decide)]
    refine FnF.mk' Tryz.func78 rfl rfl Tryz.ntmps78 rfl ?_
    repeat' (first | rintro _ _ ⟨rfl, rfl⟩ | refine exq fun _ => ?_ | intro _ | refine go ?_ | refine dr_Ca4_78 ?_ | refine drq ?_ | refine cal @hLook ?_ | refine cal @ca_owns ?_ | refine spl ?_ ?_ | fail)
    all_goals exact fin0
  · have e1 : caInvE c k m.line = 0 := if_neg h2
    have e2 : caInvM c core k m = ⟨9, m.line, core, m.who, 0, 0, 0, .zero⟩ := if_pos e1
    rw [e1, e2, decide_eq_true rfl, if_pos rfl]
    by_cases h1 : (findW c k.ways m.line).st = 1
    · have e3 : caInvK c k m.line = ⟨setL c k.ways m.line 0 .zero, k.mis, k.buf⟩ := if_pos h1
      rw [e3]
      have hTo2 := fun F => hTo F ⟨setL c k.ways m.line 0 .zero, k.mis, k.buf⟩
      refine FnF.mk' Tryz.func78 rfl rfl Tryz.ntmps78 rfl ?_
      repeat' (first | rintro _ _ ⟨rfl, rfl⟩ | refine exq fun _ => ?_ | intro _ | refine go ?_ | refine dr_Ca4_78 ?_ | refine drq ?_ | refine cal @hLook ?_ | refine cal @ca_owns ?_ | refine cal @hSet ?_ | refine cal @hTo2 ?_ | refine spl ?_ ?_ | fail)
      all_goals exact fin0
    · have e3 : caInvK c k m.line = k := if_neg h1
      rw [e3]
      have hTo2 := fun F => hTo F k
      refine FnF.mk' Tryz.func78 rfl rfl Tryz.ntmps78 rfl ?_
      repeat' (first | rintro _ _ ⟨rfl, rfl⟩ | refine exq fun _ => ?_ | intro _ | refine go ?_ | refine dr_Ca4_78 ?_ | refine drq ?_ | refine cal @hLook ?_ | refine cal @ca_owns ?_ | refine cal @hTo2 ?_ | refine spl ?_ ?_ | fail)
      all_goals exact fin0
theorem dr_Ca4_159 {Q P : Prop} (k : Q) (h : Hid Q → P := by
  intro k
  first
  | (refine is_draw ?_; apply WC_mix (id := 10) .true _ (pl := .p 0 <| .p 1 <| .p 2 <| .p 4 <| .p 5 <| .r 3 <| .r 6 <| .r 7 <| .e true [(8, .done)]); exact mixed; kernel_rfl; kernel_rfl; exact Ent.refl; exact k.out)) : P := h ⟨k⟩
theorem ca_filledO {F : List HP} {b a f e : Nat} {c : Cfg} {core line er : Int} {k : CaS} (hc : checkB c = true) (hli : I64 line) :
    FnF Tryz.prog 159 [.pointer (some ⟨b, 0, none⟩), .int .i64 line, .int .i64 er] (CaO b a f e c core k) F
      (fun r L' => r = .tuple [anv .zero false, .int .i64 (err7 er)].toArray ∧ L' = CaO b a f e c core (if er = 0 then caFill c k line else k)) := by
  have hLook := fun F k' => ca_LookO (F := F) (b := b) (a := a) (f := f) (e := e) (core := core) (k := k') hc hli
  have hOwe := fun F => msh_Owe (F := F) (b := f) (room := c.mshrs) (l := k.mis) (line := line)
  by_cases h0 : er = 0
  · have e1 : err7 er = 0 := if_pos h0
    rw [e1, if_pos h0]
    cases h1 : oweB k.mis line with
    | false =>
      have e2 : caFill c k line = k := by unfold caFill; rw [h1]; rfl
      have e3 : oweL k.mis line = k.mis := by unfold oweL; rw [h1]; rfl
      rw [e2]
      simp only [h1, e3] at hOwe
      refine FnF.mk' Tryz.func159 rfl rfl Tryz.ntmps159 rfl ?_
      repeat' (first | rintro _ _ ⟨rfl, rfl⟩ | refine exq fun _ => ?_ | intro _ | refine go ?_ | refine dr_Ca4_159 ?_ | refine drq ?_ | refine cal @hOwe ?_ | refine spl ?_ ?_ | fail)
      all_goals exact fin0
    | true =>
      simp only [h1] at hOwe
      cases h2 : (oweM k.mis line).granted with
      | false =>
        have e2 : caFill c k line = ⟨setL c k.ways line (oweM k.mis line).own (oweM k.mis line).words, oweL k.mis line, k.buf⟩ := by unfold caFill; rw [h1, if_pos rfl, h2]; rfl
        rw [e2]
        have hSet := fun F => arr_Set (F := F) (b := a) (c := c) (l := k.ways) (line := line) (st := (oweM k.mis line).own) (w := (oweM k.mis line).words) (cfg_wf hc) hli
        refine FnF.mk' Tryz.func159 rfl rfl Tryz.ntmps159 rfl ?_
        repeat' (first | rintro _ _ ⟨rfl, rfl⟩ | refine exq fun _ => ?_ | intro _ | refine go ?_ | refine dr_Ca4_159 ?_ | refine drq ?_ | refine cal @hOwe ?_ | refine cal @hSet ?_ | refine spl ?_ ?_ | fail)
        all_goals exact fin0
      | true =>
        have e2 : caFill c k line = ⟨setL c k.ways line (oweM k.mis line).own (findW c k.ways line).words, oweL k.mis line, k.buf⟩ := by unfold caFill; rw [h1, if_pos rfl, h2]; rfl
        rw [e2]
        have hSet := fun F => arr_Set (F := F) (b := a) (c := c) (l := k.ways) (line := line) (st := (oweM k.mis line).own) (w := (findW c k.ways line).words) (cfg_wf hc) hli
        have hLook2 := fun F => hLook F ⟨k.ways, oweL k.mis line, k.buf⟩
        refine FnF.mk' Tryz.func159 rfl rfl Tryz.ntmps159 rfl ?_
        repeat' (first | rintro _ _ ⟨rfl, rfl⟩ | refine exq fun _ => ?_ | intro _ | refine go ?_ | refine dr_Ca4_159 ?_ | refine drq ?_ | refine cal @hOwe ?_ | refine cal @hLook2 ?_ | refine cal @hSet ?_ | refine spl ?_ ?_ | fail)
        all_goals exact fin0
  · have e1 : err7 er = 7 := if_neg h0
    rw [e1, if_neg h0]
    refine FnF.mk' Tryz.func159 rfl rfl Tryz.ntmps159 rfl ?_
    repeat' (first | rintro _ _ ⟨rfl, rfl⟩ | refine exq fun _ => ?_ | intro _ | refine go ?_ | refine dr_Ca4_159 ?_ | refine drq ?_ | refine spl ?_ ?_ | fail)
    all_goals exact fin0
theorem dr_Ca4_79s {Q P : Prop} (k : Q) (h : Hid Q → P := by
  intro k
  first
  | (refine is_draw ?_; apply WC_mix (id := 1) .true _ (pl := .p 0 <| .p 1 <| .p 3 <| .p 4 <| .p 5 <| .p 7 <| .p 9 <| .p 11 <| .p 13 <| .r 6 <| .r 8 <| .r 10 <| .r 12 <| .r 14 <| .e true [(2, .e true [(15, .e false [(16, .p 17 <| .p 18 <| .e false [(19, .p 20 <| .done)])])]), (15, .e false [(2, .e false [(16, .p 17 <| .p 18 <| .e false [(19, .p 20 <| .done)])])])]); exact mixed; kernel_rfl; kernel_rfl; exact Ent.refl; exact k.out)) : P := h ⟨k⟩
theorem ca_dataO {F : List HP} {b a f e : Nat} {c : Cfg} {core : Int} {m : Msg} {k : CaS} (hc : checkB c = true) (hli : I64 m.line) :
    FnF Tryz.prog 79 [.pointer (some ⟨b, 0, none⟩), mv m] (CaO b a f e c core k) F
      (fun r L' => r = .tuple [anv .zero false, .int .i64 (err7 (dataE k.mis m.line m.acks m.own))].toArray ∧ L' = CaO b a f e c core (caDataK c k m)) := by
  have hD := fun F => msh_Data (F := F) (b := f) (room := c.mshrs) (l := k.mis) (line := m.line) (acks := m.acks) (own := m.own) (w := m.words)
  have hF := fun F => ca_filledO (F := F) (b := b) (a := a) (f := f) (e := e) (core := core) (er := dataE k.mis m.line m.acks m.own) (k := ⟨k.ways, dataL k.mis m.line m.acks m.own m.words, k.buf⟩) hc hli
  have e1 : caDataK c k m = if dataE k.mis m.line m.acks m.own = 0 then caFill c ⟨k.ways, dataL k.mis m.line m.acks m.own m.words, k.buf⟩ m.line else ⟨k.ways, dataL k.mis m.line m.acks m.own m.words, k.buf⟩ := by
    unfold caDataK
    by_cases h : dataE k.mis m.line m.acks m.own = 0
    · rw [if_pos h, if_pos h]
    · have : dataL k.mis m.line m.acks m.own m.words = k.mis := if_neg h
      rw [if_neg h, if_neg h, this]
  rw [e1]
  refine FnF.mk' Tryz.func79 rfl rfl Tryz.ntmps79 rfl ?_
  repeat' (first | rintro _ _ ⟨rfl, rfl⟩ | refine exq fun _ => ?_ | intro _ | refine go ?_ | refine dr_Ca4_79s ?_ | refine drq ?_ | refine cal @hD ?_ | refine cal @hF ?_ | refine spl ?_ ?_ | fail)
  all_goals exact fin0
theorem dr_Ca4_80s {Q P : Prop} (k : Q) (h : Hid Q → P := by
  intro k
  first
  | (refine is_draw ?_; apply WC_mix (id := 4) .true _ (pl := .p 0 <| .p 1 <| .p 3 <| .p 4 <| .p 5 <| .p 7 <| .p 9 <| .r 6 <| .r 8 <| .r 10 <| .e true [(2, .e true [(11, .e false [(12, .p 13 <| .p 14 <| .e false [(15, .p 16 <| .done)])])]), (11, .e false [(2, .e false [(12, .p 13 <| .p 14 <| .e false [(15, .p 16 <| .done)])])])]); exact mixed; kernel_rfl; kernel_rfl; exact Ent.refl; exact k.out)) : P := h ⟨k⟩
theorem ca_grantO {F : List HP} {b a f e : Nat} {c : Cfg} {core : Int} {m : Msg} {k : CaS} (hc : checkB c = true) (hli : I64 m.line) :
    FnF Tryz.prog 80 [.pointer (some ⟨b, 0, none⟩), mv m] (CaO b a f e c core k) F
      (fun r L' => r = .tuple [anv .zero false, .int .i64 (caGrE c k m)].toArray ∧ L' = CaO b a f e c core (caGrK c k m)) := by
  have hLook := fun F => ca_LookO (F := F) (b := b) (a := a) (f := f) (e := e) (core := core) (k := k) hc hli
  have hD := fun F => msh_Grant (F := F) (b := f) (room := c.mshrs) (l := k.mis) (line := m.line) (acks := m.acks)
  have hF := fun F => ca_filledO (F := F) (b := b) (a := a) (f := f) (e := e) (core := core) (er := dataE k.mis m.line m.acks 4) (k := ⟨k.ways, grantL k.mis m.line m.acks, k.buf⟩) hc hli
  by_cases h3 : (findW c k.ways m.line).st = 3
  · have e0 : caGrE c k m = err7 (dataE k.mis m.line m.acks 4) := if_pos h3
    have e1 : caGrK c k m = if dataE k.mis m.line m.acks 4 = 0 then caFill c ⟨k.ways, grantL k.mis m.line m.acks, k.buf⟩ m.line else ⟨k.ways, grantL k.mis m.line m.acks, k.buf⟩ := by
      unfold caGrK
      rw [e0]
      by_cases h : dataE k.mis m.line m.acks 4 = 0
      · rw [if_pos h, h]; rfl
      · have : grantL k.mis m.line m.acks = k.mis := if_neg h
        rw [if_neg h, this, if_neg (by unfold err7; rw [if_neg h]; decide)]
    rw [e0, e1]
    refine FnF.mk' Tryz.func80 rfl rfl Tryz.ntmps80 rfl ?_
    repeat' (first | rintro _ _ ⟨rfl, rfl⟩ | refine exq fun _ => ?_ | intro _ | refine go ?_ | refine dr_Ca4_80s ?_ | refine drq ?_ | refine cal @hLook ?_ | refine cal @hD ?_ | refine cal @hF ?_ | refine spl ?_ ?_ | fail)
    all_goals exact fin0
  · have e0 : caGrE c k m = 7 := if_neg h3
    have e1 : caGrK c k m = k := by unfold caGrK; rw [e0]; rfl
    rw [e0, e1]
    refine FnF.mk' Tryz.func80 rfl rfl Tryz.ntmps80 rfl ?_
    repeat' (first | rintro _ _ ⟨rfl, rfl⟩ | refine exq fun _ => ?_ | intro _ | refine go ?_ | refine dr_Ca4_80s ?_ | refine drq ?_ | refine cal @hLook ?_ | refine spl ?_ ?_ | fail)
    all_goals exact fin0
theorem dr_Ca4_81s {Q P : Prop} (k : Q) (h : Hid Q → P := by
  intro k
  first
  | (refine is_draw ?_; apply WC_mix (id := 1) .true _ (pl := .p 0 <| .p 1 <| .p 3 <| .p 4 <| .p 5 <| .p 7 <| .r 6 <| .r 8 <| .e true [(2, .e true [(9, .e false [(10, .p 11 <| .p 12 <| .e false [(13, .p 14 <| .done)])])]), (9, .e false [(2, .e false [(10, .p 11 <| .p 12 <| .e false [(13, .p 14 <| .done)])])])]); exact mixed; kernel_rfl; kernel_rfl; exact Ent.refl; exact k.out)) : P := h ⟨k⟩
theorem ca_ackO {F : List HP} {b a f e : Nat} {c : Cfg} {core : Int} {m : Msg} {k : CaS} (hc : checkB c = true) (hli : I64 m.line) (hg : ∀ m ∈ k.mis, -9223372036854775808 ≤ m.got ∧ m.got ≤ 9223372036854775806) :
    FnF Tryz.prog 81 [.pointer (some ⟨b, 0, none⟩), mv m] (CaO b a f e c core k) F
      (fun r L' => r = .tuple [anv .zero false, .int .i64 (err7 (ackE k.mis m.line))].toArray ∧ L' = CaO b a f e c core (caAckK c k m)) := by
  have hD := fun F => msh_Ack (F := F) (b := f) (room := c.mshrs) (l := k.mis) (line := m.line) hg
  have hF := fun F => ca_filledO (F := F) (b := b) (a := a) (f := f) (e := e) (core := core) (er := ackE k.mis m.line) (k := ⟨k.ways, ackL k.mis m.line, k.buf⟩) hc hli
  have e1 : caAckK c k m = if ackE k.mis m.line = 0 then caFill c ⟨k.ways, ackL k.mis m.line, k.buf⟩ m.line else ⟨k.ways, ackL k.mis m.line, k.buf⟩ := by
    unfold caAckK
    by_cases h : ackE k.mis m.line = 0
    · rw [if_pos h, if_pos h]
    · have : ackL k.mis m.line = k.mis := if_neg h
      rw [if_neg h, if_neg h, this]
  rw [e1]
  refine FnF.mk' Tryz.func81 rfl rfl Tryz.ntmps81 rfl ?_
  repeat' (first | rintro _ _ ⟨rfl, rfl⟩ | refine exq fun _ => ?_ | intro _ | refine go ?_ | refine dr_Ca4_81s ?_ | refine drq ?_ | refine cal @hD ?_ | refine cal @hF ?_ | refine spl ?_ ?_ | fail)
  all_goals exact fin0
theorem dr_Ca4_75 {Q P : Prop} (k : Q) (h : Hid Q → P := by
  intro k
  first
  | (refine is_draw ?_; apply WC_mix (id := 1) .true _ (pl := .p 0 <| .p 1 <| .p 2 <| .p 4 <| .r 3 <| .r 5 <| .e true [(6, .p 7 <| .done)]); exact mixed; kernel_rfl; kernel_rfl; exact Ent.refl; exact k.out)) : P := h ⟨k⟩
theorem ca_putAckO {F : List HP} {b a f e : Nat} {c : Cfg} {core : Int} {m : Msg} {k : CaS} (hc : checkB c = true) :
    FnF Tryz.prog 75 [.pointer (some ⟨b, 0, none⟩), mv m] (CaO b a f e c core k) F
      (fun r L' => r = .tuple [anv .zero false, .int .i64 (err7 (wbDropE k.buf m.line))].toArray ∧ L' = CaO b a f e c core (caPaK k m.line)) := by
  have hD := fun F => wb_Drop (F := F) (b := e) (room := c.writebacks) (l := k.buf) (line := m.line)
  unfold caPaK
  by_cases h : wbDropE k.buf m.line = 0
  · have e0 : err7 (wbDropE k.buf m.line) = 0 := if_pos h
    rw [e0]
    simp only [h] at hD
    refine FnF.mk' Tryz.func75 rfl rfl Tryz.ntmps75 rfl ?_
    repeat' (first | rintro _ _ ⟨rfl, rfl⟩ | refine exq fun _ => ?_ | intro _ | refine go ?_ | refine dr_Ca4_75 ?_ | refine drq ?_ | refine cal @hD ?_ | refine spl ?_ ?_ | fail)
    all_goals exact fin0
  · have e0 : err7 (wbDropE k.buf m.line) = 7 := if_neg h
    rw [e0]
    refine FnF.mk' Tryz.func75 rfl rfl Tryz.ntmps75 rfl ?_
    repeat' (first | rintro _ _ ⟨rfl, rfl⟩ | refine exq fun _ => ?_ | intro _ | refine go ?_ | refine dr_Ca4_75 ?_ | refine drq ?_ | refine cal @hD ?_ | refine spl ?_ ?_ | fail)
    all_goals exact fin0
end Go.Sx
