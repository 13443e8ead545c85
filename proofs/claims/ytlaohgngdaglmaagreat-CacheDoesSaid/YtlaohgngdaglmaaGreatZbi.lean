/- CaR5: several of my texts as one. My own work. -/
import Derived.Test.YtlaohgngdaglmaaGreatZbh
/- The document's caches: a message is taken. My own work. -/
namespace Go.Sx
open Go Go.Proofs
set_option linter.unusedVariables false
set_option linter.unusedSectionVars false
set_option linter.unusedSimpArgs false
set_option maxRecDepth 100000
set_option maxHeartbeats 4000000
attribute [local irreducible] Go.Exit.then Go.Exit.inBlock Go.Code.wp WC WO WE WQ V LoopQ FnQ Sat Star band bor IntKind.wrap WR Code.rounds WT KO
theorem dr_CaR5_56 {Q P : Prop} (k : Q) (h : Hid Q → P := by
  intro k
  first
  | (refine is_draw ?_; apply WC_mix (id := 11) .true _ (pl := .p 0 <| .p 1 <| .p 2 <| .p 4 <| .p 6 <| .r 3 <| .r 5 <| .e true [(7, .done)]); exact mixed; kernel_rfl; kernel_rfl; exact Ent.refl; exact k.out)
  | (refine is_draw ?_; apply WC_mix (id := 12) .true _ (pl := .p 0 <| .p 2 <| .p 3 <| .p 4 <| .p 6 <| .r 1 <| .r 5 <| .r 7 <| .p 8 <| .e true [(9, .p 10 <| .p 11 <| .done)]); exact mixed; kernel_rfl; kernel_rfl; exact Ent.refl; exact k.out)
  | (refine is_draw ?_; apply WC_mix (id := 16) .true _ (pl := .p 0 <| .p 1 <| .p 2 <| .p 4 <| .p 6 <| .p 8 <| .p 10 <| .r 3 <| .r 5 <| .r 7 <| .r 9 <| .r 11 <| .e true [(12, .p 13 <| .done)]); exact mixed; kernel_rfl; kernel_rfl; exact Ent.refl; exact k.out)
  | (refine is_draw ?_; apply WC_mix (id := 19) .true _ (pl := .p 0 <| .p 1 <| .p 2 <| .p 4 <| .p 6 <| .r 3 <| .r 5 <| .r 7 <| .e true [(8, .p 9 <| .done)]); exact mixed; kernel_rfl; kernel_rfl; exact Ent.refl; exact k.out)
  | (refine is_draw ?_; apply WC_mix (id := 21) .true _ (pl := .p 0 <| .p 1 <| .p 2 <| .p 4 <| .r 3 <| .r 5 <| .e true [(6, .p 7 <| .done)]); exact mixed; kernel_rfl; kernel_rfl; exact Ent.refl; exact k.out)
  | (refine is_draw ?_; apply WC_mix (id := 23) .true _ (pl := .p 0 <| .p 1 <| .p 2 <| .p 4 <| .r 3 <| .r 5 <| .e true [(6, .p 7 <| .done)]); exact mixed; kernel_rfl; kernel_rfl; exact Ent.refl; exact k.out)
  | (refine is_draw ?_; apply WC_mix (id := 28) .true _ (pl := .p 0 <| .p 1 <| .p 2 <| .p 4 <| .r 3 <| .r 5 <| .e true [(6, .p 7 <| .p 8 <| .p 9 <| .e false [(10, .e false [(11, .p 12 <| .done)])]), (10, .e true [(6, .p 7 <| .p 8 <| .p 9 <| .e false [(11, .p 12 <| .done)])])]); exact mixed; kernel_rfl; kernel_rfl; exact Ent.refl; exact k.out)
  | (refine is_draw ?_; apply WC_mix (id := 30) .true _ (pl := .p 0 <| .p 1 <| .p 2 <| .p 4 <| .r 3 <| .r 5 <| .e true [(6, .p 7 <| .p 8 <| .p 9 <| .p 10 <| .e false [(11, .e false [(12, .p 13 <| .p 14 <| .done)])]), (11, .e true [(6, .p 7 <| .p 8 <| .p 9 <| .p 10 <| .e false [(12, .p 13 <| .p 14 <| .done)])])]); exact mixed; kernel_rfl; kernel_rfl; exact Ent.refl; exact k.out)
  | (refine is_draw ?_; apply WC_mix (id := 34) .true _ (pl := .p 0 <| .p 1 <| .p 2 <| .p 4 <| .p 6 <| .r 3 <| .r 5 <| .r 7 <| .r 8 <| .e true [(9, .done)]); exact mixed; kernel_rfl; kernel_rfl; exact Ent.refl; exact k.out)) : P := h ⟨k⟩
theorem ref14_Take_no {F : List HP} {b a f e : Nat} {c : Cfg} {core : Int} {m : Msg} {k : CaS} (hc : checkB c = true) (hg : ∀ m ∈ k.mis, MisOk m ∧ m.got ≤ 9223372036854775806) (h : ¬ caTakeOk c core m = true) :
    FnF Tryz.prog 56 [.pointer (some ⟨b, 0, none⟩), mv m] (CaRO b a f e c core k) F
      (fun r L' => r = .tuple [mv (caTakeM c core k m), .bool (caTakeB c core k m), .int .i64 (caTakeE c core k m)].toArray ∧ L' = CaRO b a f e c core (caTakeK c core k m)) := by
  have hMay := fun F => ref05_May (F := F) (m := m) (cfg_wf hc)
  have hHome := fun F => ref05_Home (F := F) (k := m.kind)
  have e1 : caTakeE c core k m = 1 := if_neg h
  have e2 : caTakeB c core k m = false := by unfold caTakeB; rw [e1]; simp
  have e3 : caTakeM c core k m = .zero := if_neg h
  have e4 : caTakeK c core k m = k := if_neg h
  rw [e1, e2, e3, e4]
  by_cases h1 : MayP c m
  · simp only [decide_eq_true h1] at hMay
    by_cases h2 : HomeP m.kind
    · simp only [decide_eq_true h2] at hHome
      refine FnF.mk' Tryz.func56 rfl rfl Tryz.ntmps56 rfl ?_
      repeat' (first | rintro _ _ ⟨rfl, rfl⟩ | refine exq fun _ => ?_ | intro _ | refine go ?_ | refine dr_CaR5_56 ?_ | refine drq ?_ | refine cal @hMay ?_ | refine cal @hHome ?_ | refine spl ?_ ?_ | fail)
      all_goals exact fin0
    · simp only [decide_eq_false h2] at hHome
      have h3 : ¬ m.dst = core := fun h3 => h (by simp [caTakeOk, h1, h2, h3])
      refine FnF.mk' Tryz.func56 rfl rfl Tryz.ntmps56 rfl ?_
      repeat' (first | rintro _ _ ⟨rfl, rfl⟩ | refine exq fun _ => ?_ | intro _ | refine go ?_ | refine dr_CaR5_56 ?_ | refine drq ?_ | refine cal @hMay ?_ | refine cal @hHome ?_ | refine spl ?_ ?_ | fail)
      all_goals exact fin0
  · simp only [decide_eq_false h1] at hMay
    refine FnF.mk' Tryz.func56 rfl rfl Tryz.ntmps56 rfl ?_
    repeat' (first | rintro _ _ ⟨rfl, rfl⟩ | refine exq fun _ => ?_ | intro _ | refine go ?_ | refine dr_CaR5_56 ?_ | refine drq ?_ | refine cal @hMay ?_ | refine spl ?_ ?_ | fail)
    all_goals exact fin0
theorem ref14_Take4 {F : List HP} {b a f e : Nat} {c : Cfg} {core : Int} {m : Msg} {k : CaS} (hc : checkB c = true) (hg : ∀ m ∈ k.mis, MisOk m ∧ m.got ≤ 9223372036854775806) (h : caTakeOk c core m = true) (g : m.kind = 4) :
    FnF Tryz.prog 56 [.pointer (some ⟨b, 0, none⟩), mv m] (CaRO b a f e c core k) F
      (fun r L' => r = .tuple [mv (caTakeM c core k m), .bool (caTakeB c core k m), .int .i64 (caTakeE c core k m)].toArray ∧ L' = CaRO b a f e c core (caTakeK c core k m)) := by
  have hMay := fun F => ref05_May (F := F) (m := m) (cfg_wf hc)
  have hHome := fun F => ref05_Home (F := F) (k := m.kind)
  have h' := h
  simp only [caTakeOk, Bool.and_eq_true, decide_eq_true_eq, Bool.not_eq_true', decide_eq_false_iff_not] at h'
  obtain ⟨⟨h1, h2⟩, h3⟩ := h'
  simp only [decide_eq_true h1] at hMay
  simp only [decide_eq_false h2] at hHome
  have hSt := fun F => ref14_StateO (F := F) (b := b) (a := a) (f := f) (e := e) (c := c) (core := core) (k := k) (line := m.line)
  have hFi := fun F => ref09_Find (F := F) (b := a) (c := c) (l := k.ways) (line := m.line)
  unfold caTakeM caTakeB caTakeE caTakeK
  simp only [h, g, if_true, Int.reduceEq, if_false, or_true, or_false, Int.reduceLE, and_true, and_false, decide_false, true_or, false_or]
  have hF := fun F => ref14_fwdO (F := F) (b := b) (a := a) (f := f) (e := e) (c := c) (core := core) (m := m) (k := k) (.inl g)
  simp only [g, Int.reduceEq, if_false, if_true, decide_false, decide_true] at hF
  refine FnF.mk' Tryz.func56 rfl rfl Tryz.ntmps56 rfl ?_
  repeat' (first | rintro _ _ ⟨rfl, rfl⟩ | refine exq fun _ => ?_ | intro _ | refine go ?_ | refine dr_CaR5_56 ?_ | refine drq ?_ | refine cal @hMay ?_ | refine cal @hHome ?_ | refine cal @hF ?_ | refine spl ?_ ?_ | fail)
  all_goals exact fin0
theorem ref14_Take5 {F : List HP} {b a f e : Nat} {c : Cfg} {core : Int} {m : Msg} {k : CaS} (hc : checkB c = true) (hg : ∀ m ∈ k.mis, MisOk m ∧ m.got ≤ 9223372036854775806) (h : caTakeOk c core m = true) (g : m.kind = 5) :
    FnF Tryz.prog 56 [.pointer (some ⟨b, 0, none⟩), mv m] (CaRO b a f e c core k) F
      (fun r L' => r = .tuple [mv (caTakeM c core k m), .bool (caTakeB c core k m), .int .i64 (caTakeE c core k m)].toArray ∧ L' = CaRO b a f e c core (caTakeK c core k m)) := by
  have hMay := fun F => ref05_May (F := F) (m := m) (cfg_wf hc)
  have hHome := fun F => ref05_Home (F := F) (k := m.kind)
  have h' := h
  simp only [caTakeOk, Bool.and_eq_true, decide_eq_true_eq, Bool.not_eq_true', decide_eq_false_iff_not] at h'
  obtain ⟨⟨h1, h2⟩, h3⟩ := h'
  simp only [decide_eq_true h1] at hMay
  simp only [decide_eq_false h2] at hHome
  have hSt := fun F => ref14_StateO (F := F) (b := b) (a := a) (f := f) (e := e) (c := c) (core := core) (k := k) (line := m.line)
  have hFi := fun F => ref09_Find (F := F) (b := a) (c := c) (l := k.ways) (line := m.line)
  unfold caTakeM caTakeB caTakeE caTakeK
  simp only [h, g, if_true, Int.reduceEq, if_false, or_true, or_false, Int.reduceLE, and_true, and_false, decide_false, true_or, false_or]
  have hF := fun F => ref14_fwdO (F := F) (b := b) (a := a) (f := f) (e := e) (c := c) (core := core) (m := m) (k := k) (.inr g)
  simp only [g, Int.reduceEq, if_false, if_true, decide_false, decide_true] at hF
  refine FnF.mk' Tryz.func56 rfl rfl Tryz.ntmps56 rfl ?_
  repeat' (first | rintro _ _ ⟨rfl, rfl⟩ | refine exq fun _ => ?_ | intro _ | refine go ?_ | refine dr_CaR5_56 ?_ | refine drq ?_ | refine cal @hMay ?_ | refine cal @hHome ?_ | refine cal @hF ?_ | refine spl ?_ ?_ | fail)
  all_goals exact fin0
theorem ref14_Take6 {F : List HP} {b a f e : Nat} {c : Cfg} {core : Int} {m : Msg} {k : CaS} (hc : checkB c = true) (hg : ∀ m ∈ k.mis, MisOk m ∧ m.got ≤ 9223372036854775806) (h : caTakeOk c core m = true) (g : m.kind = 6) :
    FnF Tryz.prog 56 [.pointer (some ⟨b, 0, none⟩), mv m] (CaRO b a f e c core k) F
      (fun r L' => r = .tuple [mv (caTakeM c core k m), .bool (caTakeB c core k m), .int .i64 (caTakeE c core k m)].toArray ∧ L' = CaRO b a f e c core (caTakeK c core k m)) := by
  have hMay := fun F => ref05_May (F := F) (m := m) (cfg_wf hc)
  have hHome := fun F => ref05_Home (F := F) (k := m.kind)
  have h' := h
  simp only [caTakeOk, Bool.and_eq_true, decide_eq_true_eq, Bool.not_eq_true', decide_eq_false_iff_not] at h'
  obtain ⟨⟨h1, h2⟩, h3⟩ := h'
  simp only [decide_eq_true h1] at hMay
  simp only [decide_eq_false h2] at hHome
  have hSt := fun F => ref14_StateO (F := F) (b := b) (a := a) (f := f) (e := e) (c := c) (core := core) (k := k) (line := m.line)
  have hFi := fun F => ref09_Find (F := F) (b := a) (c := c) (l := k.ways) (line := m.line)
  unfold caTakeM caTakeB caTakeE caTakeK
  simp only [h, g, if_true, Int.reduceEq, if_false, or_true, or_false, Int.reduceLE, and_true, and_false, decide_false, true_or, false_or]
  have hSet := fun F => ref09_Set (F := F) (b := a) (c := c) (l := k.ways) (line := m.line) (st := 0) (w := .zero)
  by_cases h4 : 2 ≤ (findW c k.ways m.line).st
  · have e1 : caInvE c k m.line = 7 := if_pos h4
    have e2 : caInvM c core k m = .zero := by unfold caInvM; rw [e1]; rfl
    rw [e1, e2, decide_eq_false (by decide), if_neg (by decide)]
    refine FnF.mk' Tryz.func56 rfl rfl Tryz.ntmps56 rfl ?_
    repeat' (first | rintro _ _ ⟨rfl, rfl⟩ | refine exq fun _ => ?_ | intro _ | refine go ?_ | refine dr_CaR5_56 ?_ | refine drq ?_ | refine cal @hMay ?_ | refine cal @hHome ?_ | refine cal @hSt ?_ | refine spl ?_ ?_ | fail)
    all_goals exact fin0
  · have e1 : caInvE c k m.line = 0 := if_neg h4
    have e2 : caInvM c core k m = ⟨9, m.line, core, m.who, 0, 0, 0, .zero⟩ := if_pos e1
    rw [e1, e2, decide_eq_true rfl, if_pos rfl]
    by_cases h5 : (findW c k.ways m.line).st = 1
    · have e3 : caInvK c k m.line = ⟨setL c k.ways m.line 0 .zero, k.mis, k.buf⟩ := if_pos h5
      rw [e3]
      refine FnF.mk' Tryz.func56 rfl rfl Tryz.ntmps56 rfl ?_
      repeat' (first | rintro _ _ ⟨rfl, rfl⟩ | refine exq fun _ => ?_ | intro _ | refine go ?_ | refine dr_CaR5_56 ?_ | refine drq ?_ | refine cal @hMay ?_ | refine cal @hHome ?_ | refine cal @hSt ?_ | refine cal @hSet ?_ | refine spl ?_ ?_ | fail)
      all_goals exact fin0
    · have e3 : caInvK c k m.line = k := if_neg h5
      rw [e3]
      refine FnF.mk' Tryz.func56 rfl rfl Tryz.ntmps56 rfl ?_
      repeat' (first | rintro _ _ ⟨rfl, rfl⟩ | refine exq fun _ => ?_ | intro _ | refine go ?_ | refine dr_CaR5_56 ?_ | refine drq ?_ | refine cal @hMay ?_ | refine cal @hHome ?_ | refine cal @hSt ?_ | refine spl ?_ ?_ | fail)
      all_goals exact fin0
theorem ref14_Take10 {F : List HP} {b a f e : Nat} {c : Cfg} {core : Int} {m : Msg} {k : CaS} (hc : checkB c = true) (hg : ∀ m ∈ k.mis, MisOk m ∧ m.got ≤ 9223372036854775806) (h : caTakeOk c core m = true) (g : m.kind = 10) :
    FnF Tryz.prog 56 [.pointer (some ⟨b, 0, none⟩), mv m] (CaRO b a f e c core k) F
      (fun r L' => r = .tuple [mv (caTakeM c core k m), .bool (caTakeB c core k m), .int .i64 (caTakeE c core k m)].toArray ∧ L' = CaRO b a f e c core (caTakeK c core k m)) := by
  have hMay := fun F => ref05_May (F := F) (m := m) (cfg_wf hc)
  have hHome := fun F => ref05_Home (F := F) (k := m.kind)
  have h' := h
  simp only [caTakeOk, Bool.and_eq_true, decide_eq_true_eq, Bool.not_eq_true', decide_eq_false_iff_not] at h'
  obtain ⟨⟨h1, h2⟩, h3⟩ := h'
  simp only [decide_eq_true h1] at hMay
  simp only [decide_eq_false h2] at hHome
  have hSt := fun F => ref14_StateO (F := F) (b := b) (a := a) (f := f) (e := e) (c := c) (core := core) (k := k) (line := m.line)
  have hFi := fun F => ref09_Find (F := F) (b := a) (c := c) (l := k.ways) (line := m.line)
  unfold caTakeM caTakeB caTakeE caTakeK
  simp only [h, g, if_true, Int.reduceEq, if_false, or_true, or_false, Int.reduceLE, and_true, and_false, decide_false, true_or, false_or]
  have hD := fun F => ref11_Drop (F := F) (b := e) (room := c.writebacks) (l := k.buf) (line := m.line)
  unfold caPaK
  by_cases h4 : wbDropE k.buf m.line = 0
  · have e1 : err7 (wbDropE k.buf m.line) = 0 := if_pos h4
    rw [e1]
    simp only [h4] at hD
    refine FnF.mk' Tryz.func56 rfl rfl Tryz.ntmps56 rfl ?_
    repeat' (first | rintro _ _ ⟨rfl, rfl⟩ | refine exq fun _ => ?_ | intro _ | refine go ?_ | refine dr_CaR5_56 ?_ | refine drq ?_ | refine cal @hMay ?_ | refine cal @hHome ?_ | refine cal @hSt ?_ | refine cal @hD ?_ | refine spl ?_ ?_ | fail)
    all_goals exact fin0
  · have e1 : err7 (wbDropE k.buf m.line) = 7 := if_neg h4
    rw [e1]
    refine FnF.mk' Tryz.func56 rfl rfl Tryz.ntmps56 rfl ?_
    repeat' (first | rintro _ _ ⟨rfl, rfl⟩ | refine exq fun _ => ?_ | intro _ | refine go ?_ | refine dr_CaR5_56 ?_ | refine drq ?_ | refine cal @hMay ?_ | refine cal @hHome ?_ | refine cal @hSt ?_ | refine cal @hD ?_ | refine spl ?_ ?_ | fail)
    all_goals exact fin0
end Go.Sx
