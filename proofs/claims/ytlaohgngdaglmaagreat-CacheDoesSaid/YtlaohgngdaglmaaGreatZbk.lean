/- CaR2: several of my texts as one. My own work. -/
import Derived.Test.YtlaohgngdaglmaaGreatZbg
/- The document's caches: asked. My own work. -/
namespace Go.Sx
open Go Go.Proofs
set_option linter.unusedVariables false
set_option linter.unusedSectionVars false
set_option linter.unusedSimpArgs false
set_option maxRecDepth 100000
set_option maxHeartbeats 4000000
attribute [local irreducible] Go.Exit.then Go.Exit.inBlock Go.Code.wp WC WO WE WQ V LoopQ FnQ Sat Star band bor IntKind.wrap WR Code.rounds WT KO
theorem dr_CaR2_54 {Q P : Prop} (k : Q) (h : Hid Q → P := by
  intro k
  first
  | (refine is_draw ?_; apply WC_mix (id := 17) .true _ (pl := .p 0 <| .p 1 <| .p 2 <| .p 3 <| .p 4 <| .p 6 <| .p 7 <| .p 8 <| .p 9 <| .p 10 <| .r 5 <| .r 11 <| .p 12 <| .p 13 <| .e true [(14, .p 15 <| .done)]); exact mixed; kernel_rfl; kernel_rfl; exact Ent.refl; exact k.out)) : P := h ⟨k⟩
theorem ref14_AskO {F : List HP} {b a f e : Nat} {c : Cfg} {core line kind : Int} {k : CaS} (hc : checkB c = true) (hI : ArrInv c k.ways) :
    FnF Tryz.prog 54 [.pointer (some ⟨b, 0, none⟩), .int .i64 line, .int .i64 kind] (CaRO b a f e c core k) F (fun r L' => r = .tuple [mv (caAskM c core k line kind), .int .i64 (caAskE c k line kind)].toArray ∧ L' = CaRO b a f e c core (caAskK c k line kind)) := by
  by_cases hbad : okLine c line = false ∨ (kind ≠ 1 ∧ kind ≠ 2)
  · have e1 : caAskE c k line kind = 1 := if_pos hbad
    have e2 : caAskM c core k line kind = .zero := by unfold caAskM; rw [e1]; rfl
    have e3 : caAskK c k line kind = k := by unfold caAskK; rw [e1]; rfl
    rw [e1, e2, e3]
    refine FnF.mk' Tryz.func54 rfl rfl Tryz.ntmps54 rfl ?_
    by_cases h0 : line < 0
    · repeat (first | rintro _ _ ⟨rfl, rfl⟩ | refine exq fun _ => ?_ | intro _ | refine go ?_ | refine dr_CaR2_54 ?_ | refine drq ?_)
      exact fin0
    · by_cases h1 : line ≥ c.lines
      · repeat (first | rintro _ _ ⟨rfl, rfl⟩ | refine exq fun _ => ?_ | intro _ | refine go ?_ | refine dr_CaR2_54 ?_ | refine drq ?_)
        exact fin0
      · obtain ⟨hk1, hk2⟩ : kind ≠ 1 ∧ kind ≠ 2 := by
          rcases hbad with h | h
          · rw [(okLine_iff hc).2 ⟨by omega, by omega⟩] at h; cases h
          · exact h
        repeat (first | rintro _ _ ⟨rfl, rfl⟩ | refine exq fun _ => ?_ | intro _ | refine go ?_ | refine dr_CaR2_54 ?_ | refine drq ?_)
        exact fin0
  · have hok : okLine c line = true := by
      cases h : okLine c line with
      | true => rfl
      | false => exact absurd (.inl h) hbad
    have hkk : kind = 1 ∨ ¬ kind = 1 ∧ kind = 2 := by
      have : ¬ (kind ≠ 1 ∧ kind ≠ 2) := fun h => hbad (.inr h)
      omega
    obtain ⟨hl0, hl1⟩ := (okLine_iff hc).1 hok
    have hE0 : caAskE c k line kind = if misIn k.mis line = true ∨ wbIn k.buf line = true ∨ caCan c k line kind = true then 6 else if (k.mis.length : Int) = c.mshrs then 4 else if findB c k.ways line = false ∧ arrFree c k.ways line < 0 then 5 else 0 := if_neg hbad
    have hCan := fun F => ref14_CanO (F := F) (b := b) (a := a) (f := f) (e := e) (c := c) (core := core) (k := k) (kind := kind) (line := line) (by omega)
    have hG := fun F => ref10_Get (F := F) (b := f) (room := c.mshrs) (l := k.mis) (line := line)
    have hWG := fun F => ref11_Place (F := F) (b := e) (room := c.writebacks) (l := k.buf) (line := line)
    have hFi := fun F => ref09_Find (F := F) (b := a) (c := c) (l := k.ways) (line := line)
    have hFr := fun F => ref09_Free (F := F) (b := a) (c := c) (l := k.ways) (line := line)
    have hLk := fun F => ref09_Lock (F := F) (b := a) (c := c) (l := k.ways) (line := line) (lk := true)
    have hLay := fun F => ref09_Lay (F := F) (b := a) (c := c) (l := k.ways) (line := line) (way := arrFree c k.ways line)
    have hLk2 := fun F => ref09_Lock (F := F) (b := a) (c := c) (l := layL c k.ways line (arrFree c k.ways line)) (line := line) (lk := true)
    have hOp := fun F => ref10_Open (F := F) (b := f) (room := c.mshrs) (l := k.mis) (line := line) (kind := kind)
    have hh := homes_pos hc
    have ht := ok_tmod hok
    by_cases h6 : misIn k.mis line = true ∨ wbIn k.buf line = true ∨ caCan c k line kind = true
    · have e1 : caAskE c k line kind = 6 := by rw [hE0, if_pos h6]
      have e2 : caAskM c core k line kind = .zero := by unfold caAskM; rw [e1]; rfl
      have e3 : caAskK c k line kind = k := by unfold caAskK; rw [e1]; rfl
      rw [e1, e2, e3]
      cases h1 : misIn k.mis line with
      | true =>
        simp only [h1] at hG
        rcases hkk with g1 | ⟨g1, g2⟩
        · refine FnF.mk' Tryz.func54 rfl rfl Tryz.ntmps54 rfl ?_
          repeat (first | rintro _ _ ⟨rfl, rfl⟩ | refine exq fun _ => ?_ | intro _ | refine go ?_ | refine dr_CaR2_54 ?_ | refine drq ?_ | refine cal @hG ?_)
          exact fin0
        · refine FnF.mk' Tryz.func54 rfl rfl Tryz.ntmps54 rfl ?_
          repeat (first | rintro _ _ ⟨rfl, rfl⟩ | refine exq fun _ => ?_ | intro _ | refine go ?_ | refine dr_CaR2_54 ?_ | refine drq ?_ | refine cal @hG ?_)
          exact fin0
      | false =>
        simp only [h1] at hG
        cases h2 : wbIn k.buf line with
        | true =>
          have h2' : 0 ≤ wbPlace k.buf line := of_decide_eq_true h2
          rcases hkk with g1 | ⟨g1, g2⟩
          · refine FnF.mk' Tryz.func54 rfl rfl Tryz.ntmps54 rfl ?_
            repeat (first | rintro _ _ ⟨rfl, rfl⟩ | refine exq fun _ => ?_ | intro _ | refine go ?_ | refine dr_CaR2_54 ?_ | refine drq ?_ | refine cal @hG ?_ | refine cal @hWG ?_)
            exact fin0
          · refine FnF.mk' Tryz.func54 rfl rfl Tryz.ntmps54 rfl ?_
            repeat (first | rintro _ _ ⟨rfl, rfl⟩ | refine exq fun _ => ?_ | intro _ | refine go ?_ | refine dr_CaR2_54 ?_ | refine drq ?_ | refine cal @hG ?_ | refine cal @hWG ?_)
            exact fin0
        | false =>
          have h2' : ¬ 0 ≤ wbPlace k.buf line := of_decide_eq_false h2
          have h3 : caCan c k line kind = true := by
            rcases h6 with h | h | h
            · rw [h1] at h; cases h
            · rw [h2] at h; cases h
            · exact h
          simp only [h3] at hCan
          rcases hkk with g1 | ⟨g1, g2⟩
          · refine FnF.mk' Tryz.func54 rfl rfl Tryz.ntmps54 rfl ?_
            repeat (first | rintro _ _ ⟨rfl, rfl⟩ | refine exq fun _ => ?_ | intro _ | refine go ?_ | refine dr_CaR2_54 ?_ | refine drq ?_ | refine cal @hG ?_ | refine cal @hWG ?_ | refine cal @hCan ?_)
            exact fin0
          · refine FnF.mk' Tryz.func54 rfl rfl Tryz.ntmps54 rfl ?_
            repeat (first | rintro _ _ ⟨rfl, rfl⟩ | refine exq fun _ => ?_ | intro _ | refine go ?_ | refine dr_CaR2_54 ?_ | refine drq ?_ | refine cal @hG ?_ | refine cal @hWG ?_ | refine cal @hCan ?_)
            exact fin0
    · have h1 : misIn k.mis line = false := by
        cases h : misIn k.mis line with
        | false => rfl
        | true => exact absurd (.inl h) h6
      have h2 : wbIn k.buf line = false := by
        cases h : wbIn k.buf line with
        | false => rfl
        | true => exact absurd (.inr (.inl h)) h6
      have h2' : ¬ 0 ≤ wbPlace k.buf line := of_decide_eq_false h2
      have h3 : caCan c k line kind = false := by
        cases h : caCan c k line kind with
        | false => rfl
        | true => exact absurd (.inr (.inr h)) h6
      rw [if_neg h6] at hE0
      simp only [h1] at hG
      simp only [h3] at hCan
      have main : ∀ (hl : (k.mis.length : Int) ≤ c.mshrs), (k.mis.length : Int) = c.mshrs ∨ (k.mis.length : Int) < c.mshrs := fun hl => by omega
      by_cases h4 : (k.mis.length : Int) = c.mshrs
      · have e1 : caAskE c k line kind = 4 := by rw [hE0, if_pos h4]
        have e2 : caAskM c core k line kind = .zero := by unfold caAskM; rw [e1]; rfl
        have e3 : caAskK c k line kind = k := by unfold caAskK; rw [e1]; rfl
        rw [e1, e2, e3]
        rcases hkk with g1 | ⟨g1, g2⟩
        all_goals
          refine FnF.mk' Tryz.func54 rfl rfl Tryz.ntmps54 rfl ?_
          repeat (first | rintro _ _ ⟨rfl, rfl⟩ | refine exq fun _ => ?_ | intro _ | refine go ?_ | refine cal @hG ?_ | refine cal @hWG ?_ | refine cal @hCan ?_)
          (first | refine WO_front (MshR f c.mshrs k.mis) ?_ | refine WC_front (MshR f c.mshrs k.mis) ?_ | refine WE_front (MshR f c.mshrs k.mis) ?_)
          refine RL_open fun p q hl => ?_
          repeat (first | rintro _ _ ⟨rfl, rfl⟩ | refine exq fun _ => ?_ | intro _ | refine go ?_ | refine dr_CaR2_54 ?_ | refine drq ?_)
          ((first | apply WO_ent (L' := (MshR f c.mshrs k.mis) :: _) | apply WC_ent' (L' := (MshR f c.mshrs k.mis) :: _) | apply WE_ent' (L' := (MshR f c.mshrs k.mis) :: _) | apply WT_ent' (L' := (MshR f c.mshrs k.mis) :: _)); (focus (apply RL_in; (focus (exact entu0)); all_goals (first | rfl | (with_reducible assumption) | (simp; done) | (simp; omega) | omega | (constructor <;> (simp) <;> omega)))))
          exact fin0
      · rw [if_neg h4] at hE0
        cases h5 : findB c k.ways line with
        | true =>
          have e1 : caAskE c k line kind = 0 := by rw [hE0, h5]; rfl
          have e2 : caAskM c core k line kind = homeMsg c core kind line .zero := if_pos e1
          have e3 : caAskK c k line kind = ⟨lockL c k.ways line true, openL c.mshrs k.mis line kind, k.buf⟩ := by unfold caAskK; rw [if_pos e1, h5]; rfl
          rw [e1, e2, e3]
          simp only [h5] at hFi
          rcases hkk with g1 | ⟨g1, g2⟩
          all_goals
            refine FnF.mk' Tryz.func54 rfl rfl Tryz.ntmps54 rfl ?_
            repeat (first | rintro _ _ ⟨rfl, rfl⟩ | refine exq fun _ => ?_ | intro _ | refine go ?_ | refine cal @hG ?_ | refine cal @hWG ?_ | refine cal @hCan ?_)
            (first | refine WO_front (MshR f c.mshrs k.mis) ?_ | refine WC_front (MshR f c.mshrs k.mis) ?_ | refine WE_front (MshR f c.mshrs k.mis) ?_)
            refine RL_open fun p q hl => ?_
            have h4' : ¬ (k.mis.length : Int) ≥ c.mshrs := by omega
            repeat (first | rintro _ _ ⟨rfl, rfl⟩ | refine exq fun _ => ?_ | intro _ | refine go ?_ | refine dr_CaR2_54 ?_ | refine drq ?_ | refine cal @hFi ?_ | refine cal @hLk ?_)
            ((first | apply WO_ent (L' := (MshR f c.mshrs k.mis) :: _) | apply WC_ent' (L' := (MshR f c.mshrs k.mis) :: _) | apply WE_ent' (L' := (MshR f c.mshrs k.mis) :: _) | apply WT_ent' (L' := (MshR f c.mshrs k.mis) :: _)); (focus (apply RL_in; (focus (exact entu0)); all_goals (first | rfl | (with_reducible assumption) | (simp; done) | (simp; omega) | omega | (constructor <;> (simp) <;> omega)))))
            repeat (first | rintro _ _ ⟨rfl, rfl⟩ | refine exq fun _ => ?_ | intro _ | refine go ?_ | refine dr_CaR2_54 ?_ | refine drq ?_ | refine cal @hOp ?_)
            rw [ht]
            exact fin0
        | false =>
          simp only [h5] at hFi
          by_cases h7 : arrFree c k.ways line < 0
          · have e1 : caAskE c k line kind = 5 := by rw [hE0, if_pos ⟨h5, h7⟩]
            have e2 : caAskM c core k line kind = .zero := by unfold caAskM; rw [e1]; rfl
            have e3 : caAskK c k line kind = k := by unfold caAskK; rw [e1]; rfl
            rw [e1, e2, e3]
            rcases hkk with g1 | ⟨g1, g2⟩
            all_goals
              refine FnF.mk' Tryz.func54 rfl rfl Tryz.ntmps54 rfl ?_
              repeat (first | rintro _ _ ⟨rfl, rfl⟩ | refine exq fun _ => ?_ | intro _ | refine go ?_ | refine cal @hG ?_ | refine cal @hWG ?_ | refine cal @hCan ?_)
              (first | refine WO_front (MshR f c.mshrs k.mis) ?_ | refine WC_front (MshR f c.mshrs k.mis) ?_ | refine WE_front (MshR f c.mshrs k.mis) ?_)
              refine RL_open fun p q hl => ?_
              have h4' : ¬ (k.mis.length : Int) ≥ c.mshrs := by omega
              repeat (first | rintro _ _ ⟨rfl, rfl⟩ | refine exq fun _ => ?_ | intro _ | refine go ?_ | refine dr_CaR2_54 ?_ | refine drq ?_ | refine cal @hFi ?_ | refine cal @hFr ?_)
              ((first | apply WO_ent (L' := (MshR f c.mshrs k.mis) :: _) | apply WC_ent' (L' := (MshR f c.mshrs k.mis) :: _) | apply WE_ent' (L' := (MshR f c.mshrs k.mis) :: _) | apply WT_ent' (L' := (MshR f c.mshrs k.mis) :: _)); (focus (apply RL_in; (focus (exact entu0)); all_goals (first | rfl | (with_reducible assumption) | (simp; done) | (simp; omega) | omega | (constructor <;> (simp) <;> omega)))))
              exact fin0
          · have e1 : caAskE c k line kind = 0 := by rw [hE0, if_neg (fun h => h7 h.2)]
            have e2 : caAskM c core k line kind = homeMsg c core kind line .zero := if_pos e1
            have e3 : caAskK c k line kind = ⟨layL c k.ways line (arrFree c k.ways line), openL c.mshrs k.mis line kind, k.buf⟩ := by unfold caAskK; rw [if_pos e1, h5]; rfl
            rw [e1, e2, e3]
            rw [lay_lock hI h7 h5] at hLk2
            rcases hkk with g1 | ⟨g1, g2⟩
            all_goals
              refine FnF.mk' Tryz.func54 rfl rfl Tryz.ntmps54 rfl ?_
              repeat (first | rintro _ _ ⟨rfl, rfl⟩ | refine exq fun _ => ?_ | intro _ | refine go ?_ | refine cal @hG ?_ | refine cal @hWG ?_ | refine cal @hCan ?_)
              (first | refine WO_front (MshR f c.mshrs k.mis) ?_ | refine WC_front (MshR f c.mshrs k.mis) ?_ | refine WE_front (MshR f c.mshrs k.mis) ?_)
              refine RL_open fun p q hl => ?_
              have h4' : ¬ (k.mis.length : Int) ≥ c.mshrs := by omega
              repeat (first | rintro _ _ ⟨rfl, rfl⟩ | refine exq fun _ => ?_ | intro _ | refine go ?_ | refine dr_CaR2_54 ?_ | refine drq ?_ | refine cal @hFi ?_ | refine cal @hFr ?_ | refine cal @hLay ?_ | refine cal @hLk2 ?_)
              ((first | apply WO_ent (L' := (MshR f c.mshrs k.mis) :: _) | apply WC_ent' (L' := (MshR f c.mshrs k.mis) :: _) | apply WE_ent' (L' := (MshR f c.mshrs k.mis) :: _) | apply WT_ent' (L' := (MshR f c.mshrs k.mis) :: _)); (focus (apply RL_in; (focus (exact entu0)); all_goals (first | rfl | (with_reducible assumption) | (simp; done) | (simp; omega) | omega | (constructor <;> (simp) <;> omega)))))
              repeat (first | rintro _ _ ⟨rfl, rfl⟩ | refine exq fun _ => ?_ | intro _ | refine go ?_ | refine dr_CaR2_54 ?_ | refine drq ?_ | refine cal @hOp ?_)
              rw [ht]
              exact fin0
end Go.Sx
