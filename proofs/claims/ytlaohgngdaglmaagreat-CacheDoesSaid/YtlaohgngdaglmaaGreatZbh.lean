/- CaR4: several of my texts as one. My own work. -/
import Derived.Test.YtlaohgngdaglmaaGreatZbg
import Derived.Test.YtlaohgngdaglmaaGreatZar
import Derived.Test.YtlaohgngdaglmaaGreatZaq
/- The document's caches: an operation is done; what is told to others. My own work. -/
namespace Go.Sx
open Go Go.Proofs
set_option linter.unusedVariables false
set_option linter.unusedSectionVars false
set_option linter.unusedSimpArgs false
theorem ap_ok {c : Cfg} {x : Op3} (h : apE c x = 0) : mayB x = true ∧ okAddr c x.addr = true ∧ x.kind ≠ 4 := by
  unfold apE at h
  split at h
  · rename_i h1
    simp only [apOk, Bool.and_eq_true, Bool.not_eq_true', decide_eq_false_iff_not] at h1
    exact ⟨h1.1.2, h1.1.1, h1.2⟩
  · cases h
theorem addr_div {c : Cfg} {a : Int} (h : okAddr c a = true) : a.tdiv c.words = addrL c a ∧ 0 ≤ a := by
  have h' := h
  simp only [okAddr, Bool.and_eq_true, decide_eq_true_eq] at h'
  have e : addrL c a = a / c.words := if_pos h
  exact ⟨by rw [e, Int.tdiv_eq_ediv_of_nonneg h'.2.1], h'.2.1⟩
theorem addr_line {c : Cfg} {a : Int} (h : okAddr c a = true) : okLine c (addrL c a) = true := by
  have h' := h
  simp only [okAddr, Bool.and_eq_true, decide_eq_true_eq] at h'
  obtain ⟨hc, h0, h1⟩ := h'
  have hw := check_words hc
  have e : addrL c a = a / c.words := if_pos h
  have h2 : 0 ≤ a / c.words := Int.ediv_nonneg h0 (by omega)
  have h3 : a / c.words < c.lines := Int.ediv_lt_of_lt_mul (by omega) (by rw [Int.mul_comm]; exact h1)
  simp [okLine, hc, e, h2, h3]
set_option maxRecDepth 100000
set_option maxHeartbeats 4000000
attribute [local irreducible] Go.Exit.then Go.Exit.inBlock Go.Code.wp WC WO WE WQ V LoopQ FnQ Sat Star band bor IntKind.wrap WR Code.rounds WT KO
theorem dr_CaR4_58 {Q P : Prop} (k : Q) (h : Hid Q → P := by
  intro k
  first
  | (refine is_draw ?_; apply WC_mix (id := 1) .true _ (pl := .p 0 <| .p 1 <| .p 2 <| .p 4 <| .r 3 <| .r 5 <| .e true [(6, .p 7 <| .p 8 <| .p 9 <| .p 10 <| .e false [(11, .e false [(12, .p 13 <| .p 14 <| .done)])]), (11, .e true [(6, .p 7 <| .p 8 <| .p 9 <| .p 10 <| .e false [(12, .p 13 <| .p 14 <| .done)])])]); exact mixed; kernel_rfl; kernel_rfl; exact Ent.refl; exact k.out)
  | (refine is_draw ?_; apply WC_mix (id := 8) .true _ (pl := .p 0 <| .p 1 <| .p 2 <| .p 4 <| .r 3 <| .r 5 <| .r 6 <| .e true [(7, .p 8 <| .p 9 <| .p 10 <| .p 11 <| .e false [(12, .e false [(13, .p 14 <| .p 15 <| .done)])]), (12, .e true [(7, .p 8 <| .p 9 <| .p 10 <| .p 11 <| .e false [(13, .p 14 <| .p 15 <| .done)])])]); exact mixed; kernel_rfl; kernel_rfl; exact Ent.refl; exact k.out)
  | (refine is_draw ?_; apply WC_mix (id := 10) .true _ (pl := .p 0 <| .p 1 <| .p 2 <| .p 4 <| .r 3 <| .r 5 <| .e true [(6, .done)]); exact mixed; kernel_rfl; kernel_rfl; exact Ent.refl; exact k.out)) : P := h ⟨k⟩
theorem ref14_DoO {F : List HP} {b a f e : Nat} {c : Cfg} {core : Int} {x : Op3} {k : CaS} (hc : checkB c = true) (hx : x.wf) :
    FnF Tryz.prog 58 [.pointer (some ⟨b, 0, none⟩), ov x] (CaRO b a f e c core k) F (fun r L' => r = .tuple [.int .i64 (caDoV c k x), .int .i64 (caDoE c k x)].toArray ∧ L' = CaRO b a f e c core (caDoK c k x)) := by
  have hAp := fun F w => ref12_Apply (F := F) (c := c) (w := w) (x := x) (cfg_wf hc) hx
  by_cases h0 : apE c x = 0
  · simp only [h0] at hAp
    obtain ⟨hm, hok, hk4⟩ := ap_ok h0
    obtain ⟨hdiv0, ha0⟩ := addr_div hok
    have hdiv : IntKind.i64.wrap (x.addr.tdiv c.words) = addrL c x.addr := by rw [hdiv0]; exact wrap_id (addr_i64 (c := c) (a := x.addr)).1 (addr_i64 (c := c) (a := x.addr)).2
    have hw := check_words hc
    have hkf := may_facts hm
    have hE0 : caDoE c k x = if caCan c k (addrL c x.addr) (kindOf x) then 0 else 5 := if_pos h0
    have hFi := fun F => ref09_Find (F := F) (b := a) (c := c) (l := k.ways) (line := addrL c x.addr)
    have hSet := fun F => ref09_Set (F := F) (b := a) (c := c) (l := k.ways) (line := addrL c x.addr) (st := 4) (w := apW c (findW c k.ways (addrL c x.addr)).words x)
    have hCan := fun F => ref14_CanO (F := F) (b := b) (a := a) (f := f) (e := e) (c := c) (core := core) (k := k) (kind := kindOf x) (line := addrL c x.addr) (by unfold kindOf; split <;> omega)
    have hAp0 := fun F => hAp F .zero
    have hAp1 := fun F => hAp F (findW c k.ways (addrL c x.addr)).words
    cases h1 : caCan c k (addrL c x.addr) (kindOf x) with
    | false =>
      simp only [h1] at hCan
      have e1 : caDoE c k x = 5 := by rw [hE0, h1]; rfl
      have e2 : caDoV c k x = 0 := by unfold caDoV; rw [e1]; rfl
      have e3 : caDoK c k x = k := by unfold caDoK; rw [e1]; rfl
      rw [e1, e2, e3]
      by_cases h2 : x.kind = 1
      · have e4 : kindOf x = 1 := if_pos h2
        rw [e4] at hCan
        refine FnF.mk' Tryz.func58 rfl rfl Tryz.ntmps58 rfl ?_
        repeat' (first | rintro _ _ ⟨rfl, rfl⟩ | refine exq fun _ => ?_ | intro _ | refine go ?_ | refine dr_CaR4_58 ?_ | refine drq ?_ | refine cal @hAp0 ?_ | refine spl ?_ ?_ | fail)
        all_goals rw [hdiv]
        all_goals repeat' (first | rintro _ _ ⟨rfl, rfl⟩ | refine exq fun _ => ?_ | intro _ | refine go ?_ | refine dr_CaR4_58 ?_ | refine drq ?_ | refine cal @hFi ?_ | refine cal @hCan ?_ | refine spl ?_ ?_ | fail)
        all_goals exact fin0
      · have e4 : kindOf x = 2 := if_neg h2
        rw [e4] at hCan
        refine FnF.mk' Tryz.func58 rfl rfl Tryz.ntmps58 rfl ?_
        repeat' (first | rintro _ _ ⟨rfl, rfl⟩ | refine exq fun _ => ?_ | intro _ | refine go ?_ | refine dr_CaR4_58 ?_ | refine drq ?_ | refine cal @hAp0 ?_ | refine spl ?_ ?_ | fail)
        all_goals rw [hdiv]
        all_goals repeat' (first | rintro _ _ ⟨rfl, rfl⟩ | refine exq fun _ => ?_ | intro _ | refine go ?_ | refine dr_CaR4_58 ?_ | refine drq ?_ | refine cal @hFi ?_ | refine cal @hCan ?_ | refine spl ?_ ?_ | fail)
        all_goals exact fin0
    | true =>
      simp only [h1] at hCan
      have e1 : caDoE c k x = 0 := by rw [hE0, h1]; rfl
      have e2 : caDoV c k x = apV c (findW c k.ways (addrL c x.addr)).words x := if_pos e1
      by_cases h2 : x.kind = 1
      · have e4 : kindOf x = 1 := if_pos h2
        have e3 : caDoK c k x = k := if_neg (fun h => h.2 h2)
        rw [e1, e2, e3]
        rw [e4] at hCan
        refine FnF.mk' Tryz.func58 rfl rfl Tryz.ntmps58 rfl ?_
        repeat' (first | rintro _ _ ⟨rfl, rfl⟩ | refine exq fun _ => ?_ | intro _ | refine go ?_ | refine dr_CaR4_58 ?_ | refine drq ?_ | refine cal @hAp0 ?_ | refine spl ?_ ?_ | fail)
        all_goals rw [hdiv]
        all_goals repeat' (first | rintro _ _ ⟨rfl, rfl⟩ | refine exq fun _ => ?_ | intro _ | refine go ?_ | refine dr_CaR4_58 ?_ | refine drq ?_ | refine cal @hFi ?_ | refine cal @hCan ?_ | refine cal @hAp1 ?_ | refine spl ?_ ?_ | fail)
        all_goals exact fin0
      · have e4 : kindOf x = 2 := if_neg h2
        have e3 : caDoK c k x = ⟨setL c k.ways (addrL c x.addr) 4 (apW c (findW c k.ways (addrL c x.addr)).words x), k.mis, k.buf⟩ := if_pos ⟨e1, h2⟩
        rw [e1, e2, e3]
        rw [e4] at hCan
        refine FnF.mk' Tryz.func58 rfl rfl Tryz.ntmps58 rfl ?_
        repeat' (first | rintro _ _ ⟨rfl, rfl⟩ | refine exq fun _ => ?_ | intro _ | refine go ?_ | refine dr_CaR4_58 ?_ | refine drq ?_ | refine cal @hAp0 ?_ | refine spl ?_ ?_ | fail)
        all_goals rw [hdiv]
        all_goals repeat' (first | rintro _ _ ⟨rfl, rfl⟩ | refine exq fun _ => ?_ | intro _ | refine go ?_ | refine dr_CaR4_58 ?_ | refine drq ?_ | refine cal @hFi ?_ | refine cal @hCan ?_ | refine cal @hAp1 ?_ | refine cal @hSet ?_ | refine spl ?_ ?_ | fail)
        all_goals exact fin0
  · have e1 : caDoE c k x = apE c x := if_neg h0
    have e2 : caDoV c k x = 0 := by unfold caDoV; rw [e1, if_neg h0]
    have e3 : caDoK c k x = k := by unfold caDoK; rw [e1, if_neg (fun h => h0 h.1)]
    rw [e1, e2, e3]
    have hAp0 := fun F => hAp F .zero
    refine FnF.mk' Tryz.func58 rfl rfl Tryz.ntmps58 rfl ?_
    repeat' (first | rintro _ _ ⟨rfl, rfl⟩ | refine exq fun _ => ?_ | intro _ | refine go ?_ | refine dr_CaR4_58 ?_ | refine drq ?_ | refine cal @hAp0 ?_ | refine spl ?_ ?_ | fail)
    all_goals exact fin0
theorem dr_CaR4_132 {Q P : Prop} (k : Q) (h : Hid Q → P := by
  intro k
  first
  | (refine is_draw ?_; apply WC_mix (id := 1) .true _ (pl := .p 0 <| .p 2 <| .p 3 <| .p 4 <| .p 6 <| .p 8 <| .r 1 <| .r 5 <| .r 7 <| .r 9 <| .p 10 <| .e true [(11, .e true [(12, .done)])]); exact mixed; kernel_rfl; kernel_rfl; exact Ent.refl; exact k.out)
  | (refine is_draw ?_; apply WC_mix (id := 6) .true _ (pl := .p 0 <| .p 1 <| .p 2 <| .p 4 <| .r 3 <| .r 5 <| .e true [(6, .p 7 <| .p 8 <| .p 9 <| .p 10 <| .e false [(11, .e false [(12, .p 13 <| .p 14 <| .done)])]), (11, .e true [(6, .p 7 <| .p 8 <| .p 9 <| .p 10 <| .e false [(12, .p 13 <| .p 14 <| .done)])])]); exact mixed; kernel_rfl; kernel_rfl; exact Ent.refl; exact k.out)
  | (refine is_draw ?_; apply WC_mix (id := 9) .true _ (pl := .p 0 <| .p 1 <| .p 2 <| .p 4 <| .p 6 <| .p 7 <| .r 3 <| .r 5 <| .r 8 <| .e true [(9, .done)]); exact mixed; kernel_rfl; kernel_rfl; exact Ent.refl; exact k.out)
  | (refine is_draw ?_; apply WC_mix (id := 11) .true _ (pl := .p 0 <| .p 1 <| .p 2 <| .p 4 <| .r 3 <| .r 5 <| .e true [(6, .p 7 <| .p 8 <| .p 9 <| .e false [(10, .e false [(11, .p 12 <| .done)])]), (10, .e true [(6, .p 7 <| .p 8 <| .p 9 <| .e false [(11, .p 12 <| .done)])])]); exact mixed; kernel_rfl; kernel_rfl; exact Ent.refl; exact k.out)
  | (refine is_draw ?_; apply WC_mix (id := 15) .true _ (pl := .p 0 <| .p 1 <| .p 2 <| .p 4 <| .r 3 <| .r 5 <| .e true [(6, .done)]); exact mixed; kernel_rfl; kernel_rfl; exact Ent.refl; exact k.out)) : P := h ⟨k⟩
theorem ref14_fwdO {F : List HP} {b a f e : Nat} {c : Cfg} {core : Int} {m : Msg} {k : CaS} (hk : m.kind = 4 ∨ m.kind = 5) :
    FnF Tryz.prog 132 [.pointer (some ⟨b, 0, none⟩), mv m] (CaRO b a f e c core k) F
      (fun r L' => r = .tuple [mv (caTellM c core k m (if m.kind = 5 then 4 else 1)), .bool (decide (caTellE c k m.line = 0)), .int .i64 (caTellE c k m.line)].toArray ∧ L' = CaRO b a f e c core (caTellK c k m.line (if m.kind = 5 then 0 else 3) (decide (m.kind = 5)))) := by
  have hFi := fun F => ref09_Find (F := F) (b := a) (c := c) (l := k.ways) (line := m.line)
  have hSh := fun F => ref11_Share (F := F) (b := e) (room := c.writebacks) (l := k.buf) (line := m.line)
  have hGi := fun F => ref11_Give (F := F) (b := e) (room := c.writebacks) (l := k.buf) (line := m.line)
  rcases hk with g | g <;> simp only [g, Int.reduceEq, if_false, if_true, decide_false, decide_true]
  · have hSet := fun F => ref09_Set (F := F) (b := a) (c := c) (l := k.ways) (line := m.line) (st := 3) (w := (findW c k.ways m.line).words)
    by_cases h2 : 2 ≤ (findW c k.ways m.line).st
    · have e1 : caTellE c k m.line = 0 := if_pos h2
      have e2 : caTellM c core k m 1 = ⟨7, m.line, core, m.who, 1, m.acks, 1, (findW c k.ways m.line).words⟩ := by unfold caTellM caTellW; rw [if_pos e1, if_pos h2]
      have e3 : caTellK c k m.line 3 false = ⟨setL c k.ways m.line 3 (findW c k.ways m.line).words, k.mis, k.buf⟩ := if_pos h2
      rw [e1, e2, e3]
      refine FnF.mk' Tryz.func132 rfl rfl Tryz.ntmps132 rfl ?_
      repeat' (first | rintro _ _ ⟨rfl, rfl⟩ | refine exq fun _ => ?_ | intro _ | refine go ?_ | refine dr_CaR4_132 ?_ | refine drq ?_ | refine cal @hFi ?_ | refine cal @hSet ?_ | refine spl ?_ ?_ | fail)
      all_goals exact fin0
    · by_cases h3 : wbTellE k.buf m.line = 0
      · have e1 : caTellE c k m.line = 0 := by unfold caTellE; rw [if_neg h2, if_pos h3]
        have e2 : caTellM c core k m 1 = ⟨7, m.line, core, m.who, 1, m.acks, 1, wbTellW k.buf m.line⟩ := by unfold caTellM caTellW; rw [if_pos e1, if_neg h2]
        have e3 : caTellK c k m.line 3 false = k := by unfold caTellK; rw [if_neg h2]; rfl
        rw [e1, e2, e3]
        simp only [h3] at hSh
        refine FnF.mk' Tryz.func132 rfl rfl Tryz.ntmps132 rfl ?_
        repeat' (first | rintro _ _ ⟨rfl, rfl⟩ | refine exq fun _ => ?_ | intro _ | refine go ?_ | refine dr_CaR4_132 ?_ | refine drq ?_ | refine cal @hFi ?_ | refine cal @hSh ?_ | refine spl ?_ ?_ | fail)
        all_goals exact fin0
      · have e1 : caTellE c k m.line = 7 := by unfold caTellE; rw [if_neg h2, if_neg h3]
        have e2 : caTellM c core k m 1 = .zero := by unfold caTellM; rw [e1]; rfl
        have e3 : caTellK c k m.line 3 false = k := by unfold caTellK; rw [if_neg h2]; rfl
        rw [e1, e2, e3]
        refine FnF.mk' Tryz.func132 rfl rfl Tryz.ntmps132 rfl ?_
        repeat' (first | rintro _ _ ⟨rfl, rfl⟩ | refine exq fun _ => ?_ | intro _ | refine go ?_ | refine dr_CaR4_132 ?_ | refine drq ?_ | refine cal @hFi ?_ | refine cal @hSh ?_ | refine spl ?_ ?_ | fail)
        all_goals exact fin0
  · have hSet := fun F => ref09_Set (F := F) (b := a) (c := c) (l := k.ways) (line := m.line) (st := 0) (w := (findW c k.ways m.line).words)
    by_cases h2 : 2 ≤ (findW c k.ways m.line).st
    · have e1 : caTellE c k m.line = 0 := if_pos h2
      have e2 : caTellM c core k m 4 = ⟨7, m.line, core, m.who, 1, m.acks, 4, (findW c k.ways m.line).words⟩ := by unfold caTellM caTellW; rw [if_pos e1, if_pos h2]
      have e3 : caTellK c k m.line 0 true = ⟨setL c k.ways m.line 0 (findW c k.ways m.line).words, k.mis, k.buf⟩ := if_pos h2
      rw [e1, e2, e3]
      refine FnF.mk' Tryz.func132 rfl rfl Tryz.ntmps132 rfl ?_
      repeat' (first | rintro _ _ ⟨rfl, rfl⟩ | refine exq fun _ => ?_ | intro _ | refine go ?_ | refine dr_CaR4_132 ?_ | refine drq ?_ | refine cal @hFi ?_ | refine cal @hSet ?_ | refine spl ?_ ?_ | fail)
      all_goals exact fin0
    · by_cases h3 : wbTellE k.buf m.line = 0
      · have e1 : caTellE c k m.line = 0 := by unfold caTellE; rw [if_neg h2, if_pos h3]
        have e2 : caTellM c core k m 4 = ⟨7, m.line, core, m.who, 1, m.acks, 4, wbTellW k.buf m.line⟩ := by unfold caTellM caTellW; rw [if_pos e1, if_neg h2]
        have e3 : caTellK c k m.line 0 true = ⟨k.ways, k.mis, wbGiveL k.buf m.line⟩ := by unfold caTellK; rw [if_neg h2]; rfl
        rw [e1, e2, e3]
        simp only [h3] at hSh
        refine FnF.mk' Tryz.func132 rfl rfl Tryz.ntmps132 rfl ?_
        repeat' (first | rintro _ _ ⟨rfl, rfl⟩ | refine exq fun _ => ?_ | intro _ | refine go ?_ | refine dr_CaR4_132 ?_ | refine drq ?_ | refine cal @hFi ?_ | refine cal @hSh ?_ | refine cal @hGi ?_ | refine spl ?_ ?_ | fail)
        all_goals exact fin0
      · have e1 : caTellE c k m.line = 7 := by unfold caTellE; rw [if_neg h2, if_neg h3]
        have e2 : caTellM c core k m 4 = .zero := by unfold caTellM; rw [e1]; rfl
        have e4 : wbGiveL k.buf m.line = k.buf := by
          unfold wbGiveL
          unfold wbTellE at h3
          cases g1 : wbIn k.buf m.line with
          | false => rfl
          | true =>
            cases g2 : (wbAt k.buf m.line).live with
            | false => rfl
            | true => rw [g1, if_pos rfl, g2, if_pos rfl] at h3; exact absurd rfl h3
        have e3 : caTellK c k m.line 0 true = k := by unfold caTellK; rw [if_neg h2, e4]; rfl
        rw [e1, e2, e3]
        refine FnF.mk' Tryz.func132 rfl rfl Tryz.ntmps132 rfl ?_
        repeat' (first | rintro _ _ ⟨rfl, rfl⟩ | refine exq fun _ => ?_ | intro _ | refine go ?_ | refine dr_CaR4_132 ?_ | refine drq ?_ | refine cal @hFi ?_ | refine cal @hSh ?_ | refine spl ?_ ?_ | fail)
        all_goals exact fin0
end Go.Sx
