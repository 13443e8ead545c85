/- CaR6: several of my texts as one. My own work. -/
import Derived.Test.YtlaohgngdaglmaaGreatZbh
/- The document's caches: a message is taken: words, grants. My own work. -/
namespace Go.Sx
open Go Go.Proofs
set_option linter.unusedVariables false
set_option linter.unusedSectionVars false
set_option linter.unusedSimpArgs false
set_option maxRecDepth 100000
set_option maxHeartbeats 4000000
attribute [local irreducible] Go.Exit.then Go.Exit.inBlock Go.Code.wp WC WO WE WQ V LoopQ FnQ Sat Star band bor IntKind.wrap WR Code.rounds WT KO
theorem dr_CaR6_56 {Q P : Prop} (k : Q) (h : Hid Q → P := by
  intro k
  first
  | (refine is_draw ?_; apply WC_mix (id := 11) .true _ (pl := .p 0 <| .p 1 <| .p 2 <| .p 4 <| .p 6 <| .r 3 <| .r 5 <| .e true [(7, .done)]); exact mixed; kernel_rfl; kernel_rfl; exact Ent.refl; exact k.out)
  | (refine is_draw ?_; apply WC_mix (id := 12) .true _ (pl := .p 0 <| .p 2 <| .p 3 <| .p 4 <| .p 6 <| .r 1 <| .r 5 <| .r 7 <| .p 8 <| .e true [(9, .p 10 <| .p 11 <| .done)]); exact mixed; kernel_rfl; kernel_rfl; exact Ent.refl; exact k.out)
  | (refine is_draw ?_; apply WC_mix (id := 16) .true _ (pl := .p 0 <| .p 1 <| .p 2 <| .p 4 <| .p 6 <| .p 8 <| .p 10 <| .r 3 <| .r 5 <| .r 7 <| .r 9 <| .r 11 <| .e true [(12, .p 13 <| .done)]); exact mixed; kernel_rfl; kernel_rfl; exact Ent.refl; exact k.out)
  | (refine is_draw ?_; apply WC_mix (id := 19) .true _ (pl := .p 0 <| .p 1 <| .p 2 <| .p 4 <| .p 6 <| .r 3 <| .r 5 <| .r 7 <| .e true [(8, .p 9 <| .done)]); exact mixed; kernel_rfl; kernel_rfl; exact Ent.refl; exact k.out)
  | (refine is_draw ?_; apply WC_mix (id := 21) .true _ (pl := .p 0 <| .p 1 <| .p 2 <| .p 4 <| .r 3 <| .r 5 <| .e true [(6, .p 7 <| .done)]); exact mixed; kernel_rfl; kernel_rfl; exact Ent.refl; exact k.out)
  | (refine is_draw ?_; apply WC_mix (id := 23) .true _ (pl := .p 0 <| .p 1 <| .p 2 <| .p 4 <| .r 3 <| .r 5 <| .e true [(6, .p 7 <| .done)]); exact mixed; kernel_rfl; kernel_rfl; exact Ent.refl; exact k.out)
  | (refine is_draw ?_; apply WC_mix (id := 28) .true _ (pl := .p 0 <| .p 1 <| .p 2 <| .p 4 <| .r 3 <| .r 5 <| .e true [(6, .p 7 <| .p 8 <| .p 9 <| .e false [(10, .e false [(11, .p 12 <| .done)])]), (10, .e true [(6, .p 7 <| .p 8 <| .p 9 <| .e false [(11, .p 12 <| .done)])])]); exact mixed; kernel_rfl; kernel_rfl; exact Ent.refl; exact k.out)
  | (refine is_draw ?_; apply WC_mix (id := 30) .true _ (pl := .p 0 <| .p 1 <| .p 2 <| .p 4 <| .r 3 <| .r 5 <| .e true [(6, .p 7 <| .p 8 <| .p 9 <| .p 10 <| .e false [(11, .e false [(12, .p 13 <| .p 14 <| .done)])]), (11, .e true [(6, .p 7 <| .p 8 <| .p 9 <| .p 10 <| .e false [(12, .p 13 <| .p 14 <| .done)])])]); exact mixed; kernel_rfl; kernel_rfl; exact Ent.refl; exact k.out)
  | (refine is_draw ?_; apply WC_mix (id := 34) .true _ (pl := .p 0 <| .p 1 <| .p 2 <| .p 4 <| .p 6 <| .r 3 <| .r 5 <| .r 7 <| .r 8 <| .e true [(9, .done)]); exact mixed; kernel_rfl; kernel_rfl; exact Ent.refl; exact k.out)) : P := h ⟨k⟩
theorem ref14_Take7 {F : List HP} {b a f e : Nat} {c : Cfg} {core : Int} {m : Msg} {k : CaS} (hc : checkB c = true) (hg : ∀ m ∈ k.mis, MisOk m ∧ m.got ≤ 9223372036854775806) (h : caTakeOk c core m = true) (g : m.kind = 7) :
    FnF Tryz.prog 56 [.pointer (some ⟨b, 0, none⟩), mv m] (CaRO b a f e c core k) F
      (fun r L' => r = .tuple [mv (caTakeM c core k m), .bool (caTakeB c core k m), .int .i64 (caTakeE c core k m)].toArray ∧ L' = CaRO b a f e c core (caTakeK c core k m)) := by
  have hMay := fun F => ref05_May (F := F) (m := m) (cfg_wf hc)
  have hHome := fun F => ref05_Home (F := F) (k := m.kind)
  have h' := h
  simp only [caTakeOk, Bool.and_eq_true, decide_eq_true_eq, Bool.not_eq_true', decide_eq_false_iff_not] at h'
  obtain ⟨⟨h1, h2⟩, h3⟩ := h'
  simp only [decide_eq_true h1] at hMay
  simp only [decide_eq_false h2] at hHome
  have hSt := fun F => ref14_StateO (F := F) (b := b) (a := a) (f := f) (e := e) (c := c) (core := core) (k := k) (line := m.line)
  have hFi := fun F => ref09_Find (F := F) (b := a) (c := c) (l := k.ways) (line := m.line)
  unfold caTakeM caTakeB caTakeE caTakeK
  simp only [h, g, if_true, Int.reduceEq, if_false, or_true, or_false, Int.reduceLE, and_true, and_false, decide_false, true_or, false_or]
  have hD := fun F => ref10_Data (F := F) (b := f) (room := c.mshrs) (l := k.mis) (line := m.line) (acks := m.acks) (own := m.own) (w := m.words) (fun x hx => (hg x hx).1)
  have hOwe := fun F => ref10_Owe (F := F) (b := f) (room := c.mshrs) (l := dataL k.mis m.line m.acks m.own m.words) (line := m.line) (data_got (fun x hx => (hg x hx).1.2.2.1))
  by_cases h4 : dataE k.mis m.line m.acks m.own = 0
  · have e1 : err7 (dataE k.mis m.line m.acks m.own) = 0 := if_pos h4
    have e3 : caDataK c k m = caFill c ⟨k.ways, dataL k.mis m.line m.acks m.own m.words, k.buf⟩ m.line := if_pos h4
    rw [e1, e3]
    simp only [h4] at hD
    cases h5 : oweB (dataL k.mis m.line m.acks m.own m.words) m.line with
    | false =>
      have e2 : caFill c ⟨k.ways, dataL k.mis m.line m.acks m.own m.words, k.buf⟩ m.line = ⟨k.ways, oweL (dataL k.mis m.line m.acks m.own m.words) m.line, k.buf⟩ := by unfold caFill oweL; rw [h5]; rfl
      rw [e2]
      simp only [h5] at hOwe
      refine FnF.mk' Tryz.func56 rfl rfl Tryz.ntmps56 rfl ?_
      repeat' (first | rintro _ _ ⟨rfl, rfl⟩ | refine exq fun _ => ?_ | intro _ | refine go ?_ | refine dr_CaR6_56 ?_ | refine drq ?_ | refine cal @hMay ?_ | refine cal @hHome ?_ | refine cal @hSt ?_ | refine cal @hD ?_ | refine cal @hOwe ?_ | refine spl ?_ ?_ | fail)
      all_goals exact fin0
    | true =>
      simp only [h5] at hOwe
      cases h6 : (oweM (dataL k.mis m.line m.acks m.own m.words) m.line).granted with
      | false =>
        have e2 : caFill c ⟨k.ways, dataL k.mis m.line m.acks m.own m.words, k.buf⟩ m.line = ⟨setL c k.ways m.line (oweM (dataL k.mis m.line m.acks m.own m.words) m.line).own (oweM (dataL k.mis m.line m.acks m.own m.words) m.line).words, oweL (dataL k.mis m.line m.acks m.own m.words) m.line, k.buf⟩ := by unfold caFill; rw [h5, if_pos rfl, h6]; rfl
        rw [e2]
        have hSet := fun F => ref09_Set (F := F) (b := a) (c := c) (l := k.ways) (line := m.line) (st := (oweM (dataL k.mis m.line m.acks m.own m.words) m.line).own) (w := (oweM (dataL k.mis m.line m.acks m.own m.words) m.line).words)
        refine FnF.mk' Tryz.func56 rfl rfl Tryz.ntmps56 rfl ?_
        repeat' (first | rintro _ _ ⟨rfl, rfl⟩ | refine exq fun _ => ?_ | intro _ | refine go ?_ | refine dr_CaR6_56 ?_ | refine drq ?_ | refine cal @hMay ?_ | refine cal @hHome ?_ | refine cal @hSt ?_ | refine cal @hD ?_ | refine cal @hOwe ?_ | refine cal @hFi ?_ | refine cal @hSet ?_ | refine spl ?_ ?_ | fail)
        all_goals exact fin0
      | true =>
        have e2 : caFill c ⟨k.ways, dataL k.mis m.line m.acks m.own m.words, k.buf⟩ m.line = ⟨setL c k.ways m.line (oweM (dataL k.mis m.line m.acks m.own m.words) m.line).own (findW c k.ways m.line).words, oweL (dataL k.mis m.line m.acks m.own m.words) m.line, k.buf⟩ := by unfold caFill; rw [h5, if_pos rfl, h6]; rfl
        rw [e2]
        have hSet := fun F => ref09_Set (F := F) (b := a) (c := c) (l := k.ways) (line := m.line) (st := (oweM (dataL k.mis m.line m.acks m.own m.words) m.line).own) (w := (findW c k.ways m.line).words)
        refine FnF.mk' Tryz.func56 rfl rfl Tryz.ntmps56 rfl ?_
        repeat' (first | rintro _ _ ⟨rfl, rfl⟩ | refine exq fun _ => ?_ | intro _ | refine go ?_ | refine dr_CaR6_56 ?_ | refine drq ?_ | refine cal @hMay ?_ | refine cal @hHome ?_ | refine cal @hSt ?_ | refine cal @hD ?_ | refine cal @hOwe ?_ | refine cal @hFi ?_ | refine cal @hSet ?_ | refine spl ?_ ?_ | fail)
        all_goals exact fin0
  · have e1 : err7 (dataE k.mis m.line m.acks m.own) = 7 := if_neg h4
    have e3 : caDataK c k m = k := if_neg h4
    have e4 : dataL k.mis m.line m.acks m.own m.words = k.mis := if_neg h4
    rw [e1, e3]
    rw [e4] at hD
    refine FnF.mk' Tryz.func56 rfl rfl Tryz.ntmps56 rfl ?_
    repeat' (first | rintro _ _ ⟨rfl, rfl⟩ | refine exq fun _ => ?_ | intro _ | refine go ?_ | refine dr_CaR6_56 ?_ | refine drq ?_ | refine cal @hMay ?_ | refine cal @hHome ?_ | refine cal @hSt ?_ | refine cal @hD ?_ | refine spl ?_ ?_ | fail)
    all_goals exact fin0
theorem ref14_Take8 {F : List HP} {b a f e : Nat} {c : Cfg} {core : Int} {m : Msg} {k : CaS} (hc : checkB c = true) (hg : ∀ m ∈ k.mis, MisOk m ∧ m.got ≤ 9223372036854775806) (h : caTakeOk c core m = true) (g : m.kind = 8) :
    FnF Tryz.prog 56 [.pointer (some ⟨b, 0, none⟩), mv m] (CaRO b a f e c core k) F
      (fun r L' => r = .tuple [mv (caTakeM c core k m), .bool (caTakeB c core k m), .int .i64 (caTakeE c core k m)].toArray ∧ L' = CaRO b a f e c core (caTakeK c core k m)) := by
  have hMay := fun F => ref05_May (F := F) (m := m) (cfg_wf hc)
  have hHome := fun F => ref05_Home (F := F) (k := m.kind)
  have h' := h
  simp only [caTakeOk, Bool.and_eq_true, decide_eq_true_eq, Bool.not_eq_true', decide_eq_false_iff_not] at h'
  obtain ⟨⟨h1, h2⟩, h3⟩ := h'
  simp only [decide_eq_true h1] at hMay
  simp only [decide_eq_false h2] at hHome
  have hSt := fun F => ref14_StateO (F := F) (b := b) (a := a) (f := f) (e := e) (c := c) (core := core) (k := k) (line := m.line)
  have hFi := fun F => ref09_Find (F := F) (b := a) (c := c) (l := k.ways) (line := m.line)
  unfold caTakeM caTakeB caTakeE caTakeK
  simp only [h, g, if_true, Int.reduceEq, if_false, or_true, or_false, Int.reduceLE, and_true, and_false, decide_false, true_or, false_or]
  by_cases h3' : (findW c k.ways m.line).st = 3
  · have hD := fun F => ref10_Grant (F := F) (b := f) (room := c.mshrs) (l := k.mis) (line := m.line) (acks := m.acks) (fun x hx => (hg x hx).1)
    have hOwe := fun F => ref10_Owe (F := F) (b := f) (room := c.mshrs) (l := grantL k.mis m.line m.acks) (line := m.line) (grant_got (fun x hx => (hg x hx).1.2.2.1))
    by_cases h4 : dataE k.mis m.line m.acks 4 = 0
    · have e1 : caGrE c k m = 0 := by unfold caGrE; rw [if_pos h3']; exact if_pos h4
      have e3 : caGrK c k m = caFill c ⟨k.ways, grantL k.mis m.line m.acks, k.buf⟩ m.line := if_pos e1
      rw [e1, e3]
      simp only [h4] at hD
      cases h5 : oweB (grantL k.mis m.line m.acks) m.line with
      | false =>
        have e2 : caFill c ⟨k.ways, grantL k.mis m.line m.acks, k.buf⟩ m.line = ⟨k.ways, oweL (grantL k.mis m.line m.acks) m.line, k.buf⟩ := by unfold caFill oweL; rw [h5]; rfl
        rw [e2]
        simp only [h5] at hOwe
        refine FnF.mk' Tryz.func56 rfl rfl Tryz.ntmps56 rfl ?_
        repeat' (first | rintro _ _ ⟨rfl, rfl⟩ | refine exq fun _ => ?_ | intro _ | refine go ?_ | refine dr_CaR6_56 ?_ | refine drq ?_ | refine cal @hMay ?_ | refine cal @hHome ?_ | refine cal @hSt ?_ | refine cal @hD ?_ | refine cal @hOwe ?_ | refine spl ?_ ?_ | fail)
        all_goals exact fin0
      | true =>
        simp only [h5] at hOwe
        cases h6 : (oweM (grantL k.mis m.line m.acks) m.line).granted with
        | false =>
          have e2 : caFill c ⟨k.ways, grantL k.mis m.line m.acks, k.buf⟩ m.line = ⟨setL c k.ways m.line (oweM (grantL k.mis m.line m.acks) m.line).own (oweM (grantL k.mis m.line m.acks) m.line).words, oweL (grantL k.mis m.line m.acks) m.line, k.buf⟩ := by unfold caFill; rw [h5, if_pos rfl, h6]; rfl
          rw [e2]
          have hSet := fun F => ref09_Set (F := F) (b := a) (c := c) (l := k.ways) (line := m.line) (st := (oweM (grantL k.mis m.line m.acks) m.line).own) (w := (oweM (grantL k.mis m.line m.acks) m.line).words)
          refine FnF.mk' Tryz.func56 rfl rfl Tryz.ntmps56 rfl ?_
          repeat' (first | rintro _ _ ⟨rfl, rfl⟩ | refine exq fun _ => ?_ | intro _ | refine go ?_ | refine dr_CaR6_56 ?_ | refine drq ?_ | refine cal @hMay ?_ | refine cal @hHome ?_ | refine cal @hSt ?_ | refine cal @hD ?_ | refine cal @hOwe ?_ | refine cal @hFi ?_ | refine cal @hSet ?_ | refine spl ?_ ?_ | fail)
          all_goals exact fin0
        | true =>
          have e2 : caFill c ⟨k.ways, grantL k.mis m.line m.acks, k.buf⟩ m.line = ⟨setL c k.ways m.line (oweM (grantL k.mis m.line m.acks) m.line).own (findW c k.ways m.line).words, oweL (grantL k.mis m.line m.acks) m.line, k.buf⟩ := by unfold caFill; rw [h5, if_pos rfl, h6]; rfl
          rw [e2]
          have hSet := fun F => ref09_Set (F := F) (b := a) (c := c) (l := k.ways) (line := m.line) (st := (oweM (grantL k.mis m.line m.acks) m.line).own) (w := (findW c k.ways m.line).words)
          refine FnF.mk' Tryz.func56 rfl rfl Tryz.ntmps56 rfl ?_
          repeat' (first | rintro _ _ ⟨rfl, rfl⟩ | refine exq fun _ => ?_ | intro _ | refine go ?_ | refine dr_CaR6_56 ?_ | refine drq ?_ | refine cal @hMay ?_ | refine cal @hHome ?_ | refine cal @hSt ?_ | refine cal @hD ?_ | refine cal @hOwe ?_ | refine cal @hFi ?_ | refine cal @hSet ?_ | refine spl ?_ ?_ | fail)
          all_goals exact fin0
    · have e1 : caGrE c k m = 7 := by unfold caGrE; rw [if_pos h3']; exact if_neg h4
      have e3 : caGrK c k m = k := by unfold caGrK; rw [e1]; rfl
      have e4 : grantL k.mis m.line m.acks = k.mis := if_neg h4
      rw [e1, e3]
      rw [e4] at hD
      refine FnF.mk' Tryz.func56 rfl rfl Tryz.ntmps56 rfl ?_
      repeat' (first | rintro _ _ ⟨rfl, rfl⟩ | refine exq fun _ => ?_ | intro _ | refine go ?_ | refine dr_CaR6_56 ?_ | refine drq ?_ | refine cal @hMay ?_ | refine cal @hHome ?_ | refine cal @hSt ?_ | refine cal @hD ?_ | refine spl ?_ ?_ | fail)
      all_goals exact fin0
  · have e1 : caGrE c k m = 7 := if_neg h3'
    have e3 : caGrK c k m = k := by unfold caGrK; rw [e1]; rfl
    rw [e1, e3]
    refine FnF.mk' Tryz.func56 rfl rfl Tryz.ntmps56 rfl ?_
    repeat' (first | rintro _ _ ⟨rfl, rfl⟩ | refine exq fun _ => ?_ | intro _ | refine go ?_ | refine dr_CaR6_56 ?_ | refine drq ?_ | refine cal @hMay ?_ | refine cal @hHome ?_ | refine cal @hSt ?_ | refine spl ?_ ?_ | fail)
    all_goals exact fin0
end Go.Sx
