/- CaLocP, Ca2, Ca3, Ca4, Ca5: several of my texts as one. My own work. -/
import Derived.Test.YtlaohgngdaglmaaGreatZCacheLocksai
import Derived.Test.YtlaohgngdaglmaaGreatZCacheLocksaf
/- Caches told of lists: as many ways are locked as there are misses. My own work. -/
namespace Go.Sx
open Go Go.Proofs
set_option linter.unusedVariables false
set_option linter.unusedSimpArgs false
theorem nodup_len : ∀ {A B : List Int}, A.Nodup → (∀ x ∈ A, x ∈ B) → A.length ≤ B.length
  | [], _, _, _ => Nat.zero_le _
  | a :: r, B, hn, hs => by
    obtain ⟨h1, h2⟩ := List.nodup_cons.1 hn
    have ha := hs a (by simp)
    have := nodup_len (A := r) (B := B.erase a) h2 (fun x hx => (List.mem_erase_of_ne (show x ≠ a from fun g => h1 (g ▸ hx))).2 (hs x (by simp [hx])))
    rw [List.length_erase_of_mem ha] at this
    have hp : 0 < B.length := List.length_pos_of_mem ha
    simp only [List.length_cons]; omega
theorem lock_count {c : Cfg} {ways : List Way} {M B : List Int} (hI : ArrInv c ways) (h : CaI2 c ways M B) : (ways.filter (·.lk)).length = M.length := by
  have hA : ((ways.filter (·.lk)).map (·.line)).Nodup := by
    unfold List.Nodup
    rw [List.pairwise_map, List.pairwise_filter, List.pairwise_iff_getElem]
    intro i j hi hj hij hk1 hk2 e
    have := (hI i hi (by simp [thereB, hk1])).2.2.2 j hj (by simp [thereB, hk2]) e.symm
    omega
  have h1 := nodup_len (B := M) hA (fun x hx => by
    obtain ⟨w, hw, e⟩ := List.mem_map.1 hx
    obtain ⟨hw1, hw2⟩ := List.mem_filter.1 hw
    subst e
    exact h.lm _ w (vw_mem hI hw1 (by simp [thereB, hw2])) hw2)
  have h2 := nodup_len (A := M) (B := (ways.filter (·.lk)).map (·.line)) h.nd (fun x hx => by
    obtain ⟨w, hw, hk⟩ := h.ml x hx
    obtain ⟨e, _, hm, _⟩ := vw_some hw
    exact List.mem_map.2 ⟨w, List.mem_filter.2 ⟨hm, hk⟩, e⟩)
  rw [List.length_map] at h1 h2
  omega
theorem filter_next {l : List Way} {i : Nat} (hi : i < l.length) : ((l.take (i + 1)).filter (·.lk)).length = ((l.take i).filter (·.lk)).length + (if l[i].lk then 1 else 0) := by
  rw [List.take_succ_eq_append_getElem hi, List.filter_append, List.length_append]
  cases h : l[i].lk <;> simp [h]
theorem filter_le (l : List Way) (i : Nat) : ((l.take i).filter (·.lk)).length ≤ l.length := by
  have h1 := List.length_filter_le (fun w : Way => w.lk) (l.take i)
  have h2 : (l.take i).length ≤ l.length := List.length_take_le' ..
  omega
end Go.Sx

/- What caches do: asked, evicted, finished, done. The program's. My own work. -/
namespace Go.Sx
open Go Go.Proofs
set_option linter.unusedVariables false
set_option linter.unusedSectionVars false
set_option linter.unusedSimpArgs false
set_option maxRecDepth 100000
set_option maxHeartbeats 4000000
attribute [local irreducible] Go.Exit.then Go.Exit.inBlock Go.Code.wp WC WO WE WQ V LoopQ FnQ Sat Star band bor IntKind.wrap WR Code.rounds WT KO
theorem dr_Ca2_25 {Q P : Prop} (k : Q) (h : Hid Q → P := by
  intro k
  first
  | (refine is_draw ?_; apply WC_mix (id := 11) .false _ (pl := .p 0 <| .p 1 <| .p 2 <| .p 6 <| .p 7 <| .p 8 <| .p 9 <| .r 3 <| .r 10 <| .e true [(4, .p 5 <| .p 11 <| .p 12 <| .done)]); exact mixed; kernel_rfl; kernel_rfl; exact Ent.refl; exact k.out)) : P := h ⟨k⟩
theorem ca_AskO {F : List HP} {b a f e : Nat} {c : Cfg} {core line kind : Int} {k : CaS} (hc : checkB c = true) (hli : I64 line) :
    FnF Tryz.prog 25 [.pointer (some ⟨b, 0, none⟩), .int .i64 line, .int .i64 kind] (CaO b a f e c core k) F (fun r L' => r = .tuple [mv (caAskM c core k line kind), .int .i64 (caAskE c k line kind)].toArray ∧ L' = CaO b a f e c core (caAskK c k line kind)) := by
  have hL := fun F => split_Line (F := F) (c := c) (a := line) (cfg_wf hc) hli
  by_cases hbad : okLine c line = false ∨ (kind ≠ 1 ∧ kind ≠ 2)
  · have e1 : caAskE c k line kind = 1 := if_pos hbad
    have e2 : caAskM c core k line kind = .zero := by unfold caAskM; rw [e1]; rfl
    have e3 : caAskK c k line kind = k := by unfold caAskK; rw [e1]; rfl
    rw [e1, e2, e3]
    refine FnF.mk' Tryz.func25 rfl rfl Tryz.ntmps25 rfl ?_
    cases hok : okLine c line with
    | false =>
      have e0 : lineE c line = 1 := by unfold lineE; rw [hok]; rfl
      simp only [e0] at hL
      repeat (first | rintro _ _ ⟨rfl, rfl⟩ | refine exq fun _ => ?_ | intro _ | refine go ?_ | refine dr_Ca2_25 ?_ | refine drq ?_ | refine cal @hL ?_)
      exact fin0
    | true =>
      have e0 : lineE c line = 0 := by unfold lineE; rw [hok]; rfl
      simp only [e0] at hL
      obtain ⟨hk1, hk2⟩ : kind ≠ 1 ∧ kind ≠ 2 := by
        rcases hbad with h | h
        · rw [hok] at h; cases h
        · exact h
      repeat (first | rintro _ _ ⟨rfl, rfl⟩ | refine exq fun _ => ?_ | intro _ | refine go ?_ | refine dr_Ca2_25 ?_ | refine drq ?_ | refine cal @hL ?_)
      exact fin0
  · have hok : okLine c line = true := by
      cases h : okLine c line with
      | true => rfl
      | false => exact absurd (.inl h) hbad
    have hkk : kind = 1 ∨ ¬ kind = 1 ∧ kind = 2 := by
      have : ¬ (kind ≠ 1 ∧ kind ≠ 2) := fun h => hbad (.inr h)
      omega
    have e0 : lineE c line = 0 := by unfold lineE; rw [hok]; rfl
    simp only [e0] at hL
    have hE0 : caAskE c k line kind = if misIn k.mis line = true ∨ wbIn k.buf line = true ∨ caCan c k line kind = true then 6 else if (k.mis.length : Int) = c.mshrs then 4 else if findB c k.ways line = false ∧ arrFree c k.ways line < 0 then 5 else 0 := if_neg hbad
    have hCan := fun F => ca_canO (F := F) (b := b) (a := a) (f := f) (e := e) (core := core) (k := k) (kind := kind) hc hli
    have hLook := fun F => ca_LookO (F := F) (b := b) (a := a) (f := f) (e := e) (core := core) (k := k) hc hli
    have hHome := fun F k => ca_homeO (F := F) (b := b) (a := a) (f := f) (e := e) (core := core) (k := k) (kind := kind) hc hli
    have hG := fun F => msh_Get (F := F) (b := f) (room := c.mshrs) (l := k.mis) (line := line)
    have hWG := fun F => wb_Get (F := F) (b := e) (room := c.writebacks) (l := k.buf) (line := line)
    have hFr := fun F => arr_Free (F := F) (b := a) (c := c) (l := k.ways) (line := line) (cfg_wf hc) hli
    have hLk := fun F => arr_Lock (F := F) (b := a) (c := c) (l := k.ways) (line := line) (lk := true) (cfg_wf hc) hli
    have hLay := fun F => arr_Lay (F := F) (b := a) (c := c) (l := k.ways) (line := line) (way := arrFree c k.ways line) (cfg_wf hc) hli
    have hOp := fun F => msh_Open (F := F) (b := f) (room := c.mshrs) (l := k.mis) (line := line) (kind := kind)
    by_cases h6 : misIn k.mis line = true ∨ wbIn k.buf line = true ∨ caCan c k line kind = true
    · have e1 : caAskE c k line kind = 6 := by rw [hE0, if_pos h6]
      have e2 : caAskM c core k line kind = .zero := by unfold caAskM; rw [e1]; rfl
      have e3 : caAskK c k line kind = k := by unfold caAskK; rw [e1]; rfl
      rw [e1, e2, e3]
      cases h1 : misIn k.mis line with
      | true =>
        simp only [h1] at hG
        rcases hkk with g1 | ⟨g1, g2⟩
        · refine FnF.mk' Tryz.func25 rfl rfl Tryz.ntmps25 rfl ?_
          repeat (first | rintro _ _ ⟨rfl, rfl⟩ | refine exq fun _ => ?_ | intro _ | refine go ?_ | refine dr_Ca2_25 ?_ | refine drq ?_ | refine cal @hL ?_ | refine cal @hG ?_ | refine cal @hWG ?_ | refine cal @hLook ?_ | refine cal @hFr ?_)
          exact fin0
        · refine FnF.mk' Tryz.func25 rfl rfl Tryz.ntmps25 rfl ?_
          repeat (first | rintro _ _ ⟨rfl, rfl⟩ | refine exq fun _ => ?_ | intro _ | refine go ?_ | refine dr_Ca2_25 ?_ | refine drq ?_ | refine cal @hL ?_ | refine cal @hG ?_ | refine cal @hWG ?_ | refine cal @hLook ?_ | refine cal @hFr ?_)
          exact fin0
      | false =>
        simp only [h1] at hG
        cases h2 : wbIn k.buf line with
        | true =>
          simp only [h2] at hWG
          rcases hkk with g1 | ⟨g1, g2⟩
          · refine FnF.mk' Tryz.func25 rfl rfl Tryz.ntmps25 rfl ?_
            repeat (first | rintro _ _ ⟨rfl, rfl⟩ | refine exq fun _ => ?_ | intro _ | refine go ?_ | refine dr_Ca2_25 ?_ | refine drq ?_ | refine cal @hL ?_ | refine cal @hG ?_ | refine cal @hWG ?_ | refine cal @hLook ?_ | refine cal @hFr ?_)
            exact fin0
          · refine FnF.mk' Tryz.func25 rfl rfl Tryz.ntmps25 rfl ?_
            repeat (first | rintro _ _ ⟨rfl, rfl⟩ | refine exq fun _ => ?_ | intro _ | refine go ?_ | refine dr_Ca2_25 ?_ | refine drq ?_ | refine cal @hL ?_ | refine cal @hG ?_ | refine cal @hWG ?_ | refine cal @hLook ?_ | refine cal @hFr ?_)
            exact fin0
        | false =>
          simp only [h2] at hWG
          have h3 : caCan c k line kind = true := by
            rcases h6 with h | h | h
            · rw [h1] at h; cases h
            · rw [h2] at h; cases h
            · exact h
          simp only [h3] at hCan
          rcases hkk with g1 | ⟨g1, g2⟩
          · refine FnF.mk' Tryz.func25 rfl rfl Tryz.ntmps25 rfl ?_
            repeat (first | rintro _ _ ⟨rfl, rfl⟩ | refine exq fun _ => ?_ | intro _ | refine go ?_ | refine dr_Ca2_25 ?_ | refine drq ?_ | refine cal @hL ?_ | refine cal @hG ?_ | refine cal @hWG ?_ | refine cal @hLook ?_ | refine cal @hFr ?_ | refine cal @hCan ?_)
            exact fin0
          · refine FnF.mk' Tryz.func25 rfl rfl Tryz.ntmps25 rfl ?_
            repeat (first | rintro _ _ ⟨rfl, rfl⟩ | refine exq fun _ => ?_ | intro _ | refine go ?_ | refine dr_Ca2_25 ?_ | refine drq ?_ | refine cal @hL ?_ | refine cal @hG ?_ | refine cal @hWG ?_ | refine cal @hLook ?_ | refine cal @hFr ?_ | refine cal @hCan ?_)
            exact fin0
    · have h1 : misIn k.mis line = false := by
        cases h : misIn k.mis line with
        | false => rfl
        | true => exact absurd (.inl h) h6
      have h2 : wbIn k.buf line = false := by
        cases h : wbIn k.buf line with
        | false => rfl
        | true => exact absurd (.inr (.inl h)) h6
      have h3 : caCan c k line kind = false := by
        cases h : caCan c k line kind with
        | false => rfl
        | true => exact absurd (.inr (.inr h)) h6
      rw [if_neg h6] at hE0
      simp only [h1] at hG
      simp only [h2] at hWG
      simp only [h3] at hCan
      by_cases h4 : (k.mis.length : Int) = c.mshrs
      · have e1 : caAskE c k line kind = 4 := by rw [hE0, if_pos h4]
        have e2 : caAskM c core k line kind = .zero := by unfold caAskM; rw [e1]; rfl
        have e3 : caAskK c k line kind = k := by unfold caAskK; rw [e1]; rfl
        rw [e1, e2, e3]
        rcases hkk with g1 | ⟨g1, g2⟩
        · refine FnF.mk' Tryz.func25 rfl rfl Tryz.ntmps25 rfl ?_
          repeat (first | rintro _ _ ⟨rfl, rfl⟩ | refine exq fun _ => ?_ | intro _ | refine go ?_ | refine dr_Ca2_25 ?_ | refine drq ?_ | refine cal @hL ?_ | refine cal @hG ?_ | refine cal @hWG ?_ | refine cal @hLook ?_ | refine cal @hFr ?_ | refine cal @hCan ?_ | refine cal @msh_List ?_)
          exact fin0
        · refine FnF.mk' Tryz.func25 rfl rfl Tryz.ntmps25 rfl ?_
          repeat (first | rintro _ _ ⟨rfl, rfl⟩ | refine exq fun _ => ?_ | intro _ | refine go ?_ | refine dr_Ca2_25 ?_ | refine drq ?_ | refine cal @hL ?_ | refine cal @hG ?_ | refine cal @hWG ?_ | refine cal @hLook ?_ | refine cal @hFr ?_ | refine cal @hCan ?_ | refine cal @msh_List ?_)
          exact fin0
      · rw [if_neg h4] at hE0
        cases h5 : findB c k.ways line with
        | true =>
          have e1 : caAskE c k line kind = 0 := by rw [hE0, h5]; rfl
          have e2 : caAskM c core k line kind = homeMsg c core kind line .zero := if_pos e1
          have e3 : caAskK c k line kind = ⟨lockL c k.ways line true, openL c.mshrs k.mis line kind, k.buf⟩ := by unfold caAskK; rw [if_pos e1, h5]; rfl
          rw [e1, e2, e3]
          simp only [h5] at hLook
          have hHome2 := fun F => hHome F ⟨lockL c k.ways line true, openL c.mshrs k.mis line kind, k.buf⟩
          rcases hkk with g1 | ⟨g1, g2⟩
          · refine FnF.mk' Tryz.func25 rfl rfl Tryz.ntmps25 rfl ?_
            repeat (first | rintro _ _ ⟨rfl, rfl⟩ | refine exq fun _ => ?_ | intro _ | refine go ?_ | refine dr_Ca2_25 ?_ | refine drq ?_ | refine cal @hL ?_ | refine cal @hG ?_ | refine cal @hWG ?_ | refine cal @hLook ?_ | refine cal @hFr ?_ | refine cal @hCan ?_ | refine cal @msh_List ?_ | refine cal @hLk ?_ | refine cal @hOp ?_ | refine cal @hHome2 ?_)
            exact fin0
          · refine FnF.mk' Tryz.func25 rfl rfl Tryz.ntmps25 rfl ?_
            repeat (first | rintro _ _ ⟨rfl, rfl⟩ | refine exq fun _ => ?_ | intro _ | refine go ?_ | refine dr_Ca2_25 ?_ | refine drq ?_ | refine cal @hL ?_ | refine cal @hG ?_ | refine cal @hWG ?_ | refine cal @hLook ?_ | refine cal @hFr ?_ | refine cal @hCan ?_ | refine cal @msh_List ?_ | refine cal @hLk ?_ | refine cal @hOp ?_ | refine cal @hHome2 ?_)
            exact fin0
        | false =>
          simp only [h5] at hLook
          by_cases h7 : arrFree c k.ways line < 0
          · have e1 : caAskE c k line kind = 5 := by rw [hE0, if_pos ⟨h5, h7⟩]
            have e2 : caAskM c core k line kind = .zero := by unfold caAskM; rw [e1]; rfl
            have e3 : caAskK c k line kind = k := by unfold caAskK; rw [e1]; rfl
            rw [e1, e2, e3]
            rcases hkk with g1 | ⟨g1, g2⟩
            · refine FnF.mk' Tryz.func25 rfl rfl Tryz.ntmps25 rfl ?_
              repeat (first | rintro _ _ ⟨rfl, rfl⟩ | refine exq fun _ => ?_ | intro _ | refine go ?_ | refine dr_Ca2_25 ?_ | refine drq ?_ | refine cal @hL ?_ | refine cal @hG ?_ | refine cal @hWG ?_ | refine cal @hLook ?_ | refine cal @hFr ?_ | refine cal @hCan ?_ | refine cal @msh_List ?_)
              exact fin0
            · refine FnF.mk' Tryz.func25 rfl rfl Tryz.ntmps25 rfl ?_
              repeat (first | rintro _ _ ⟨rfl, rfl⟩ | refine exq fun _ => ?_ | intro _ | refine go ?_ | refine dr_Ca2_25 ?_ | refine drq ?_ | refine cal @hL ?_ | refine cal @hG ?_ | refine cal @hWG ?_ | refine cal @hLook ?_ | refine cal @hFr ?_ | refine cal @hCan ?_ | refine cal @msh_List ?_)
              exact fin0
          · have e1 : caAskE c k line kind = 0 := by rw [hE0, if_neg (fun h => h7 h.2)]
            have e2 : caAskM c core k line kind = homeMsg c core kind line .zero := if_pos e1
            have e3 : caAskK c k line kind = ⟨layL c k.ways line (arrFree c k.ways line), openL c.mshrs k.mis line kind, k.buf⟩ := by unfold caAskK; rw [if_pos e1, h5]; rfl
            rw [e1, e2, e3]
            have hHome2 := fun F => hHome F ⟨layL c k.ways line (arrFree c k.ways line), openL c.mshrs k.mis line kind, k.buf⟩
            rcases hkk with g1 | ⟨g1, g2⟩
            · refine FnF.mk' Tryz.func25 rfl rfl Tryz.ntmps25 rfl ?_
              repeat (first | rintro _ _ ⟨rfl, rfl⟩ | refine exq fun _ => ?_ | intro _ | refine go ?_ | refine dr_Ca2_25 ?_ | refine drq ?_ | refine cal @hL ?_ | refine cal @hG ?_ | refine cal @hWG ?_ | refine cal @hLook ?_ | refine cal @hFr ?_ | refine cal @hCan ?_ | refine cal @msh_List ?_ | refine cal @hLay ?_ | refine cal @hOp ?_ | refine cal @hHome2 ?_)
              exact fin0
            · refine FnF.mk' Tryz.func25 rfl rfl Tryz.ntmps25 rfl ?_
              repeat (first | rintro _ _ ⟨rfl, rfl⟩ | refine exq fun _ => ?_ | intro _ | refine go ?_ | refine dr_Ca2_25 ?_ | refine drq ?_ | refine cal @hL ?_ | refine cal @hG ?_ | refine cal @hWG ?_ | refine cal @hLook ?_ | refine cal @hFr ?_ | refine cal @hCan ?_ | refine cal @msh_List ?_ | refine cal @hLay ?_ | refine cal @hOp ?_ | refine cal @hHome2 ?_)
              exact fin0
theorem ca_Ask {F : List HP} {b : Nat} {c : Cfg} {core line kind : Int} {k : CaS} (hli : I64 line) :
    FnF Tryz.prog 25 [.pointer (some ⟨b, 0, none⟩), .int .i64 line, .int .i64 kind] [CaP b c core k] F (fun r L' => r = .tuple [mv (caAskM c core k line kind), .int .i64 (caAskE c k line kind)].toArray ∧ L' = [CaP b c core (caAskK c k line kind)]) :=
  ca_close (fun a f e hf => ca_AskO hf.1 hli) (enters_of Tryz.func25 rfl rfl)
end Go.Sx

/- What caches do: evicted, finished, done. The program's. My own work. -/
namespace Go.Sx
open Go Go.Proofs
set_option linter.unusedVariables false
set_option linter.unusedSectionVars false
set_option linter.unusedSimpArgs false
theorem atW_ok {c : Cfg} {l : List Way} {s k : Int} (hI : ArrInv c l) (h : (atW c l s k).st ≠ 0) : okLine c (atW c l s k).line = true := by
  unfold atW at h ⊢
  by_cases h1 : inWay c s k = true
  · rw [if_pos h1] at h ⊢
    by_cases h2 : s.toNat * c.ways.toNat + k.toNat < l.length
    · rw [← getD_at h2] at h ⊢
      exact (hI _ h2 (by simp [thereB, h])).1
    · rw [List.getD_eq_getElem?_getD, List.getElem?_eq_none (by omega)] at h
      exact absurd rfl h
  · rw [if_neg h1] at h
    exact absurd rfl h
set_option maxRecDepth 100000
set_option maxHeartbeats 4000000
attribute [local irreducible] Go.Exit.then Go.Exit.inBlock Go.Code.wp WC WO WE WQ V LoopQ FnQ Sat Star band bor IntKind.wrap WR Code.rounds WT KO
theorem dr_Ca3_23g {Q P : Prop} (k : Q) (h : Hid Q → P := by
  intro k
  first
  | (refine is_draw ?_; apply WC_mix (id := 6) .true _ (pl := .p 0 <| .r 1 <| .e true [(2, .p 3 <| .p 4 <| .p 5 <| .p 6 <| .p 8 <| .p 10 <| .e false [(7, .e false [(9, .e false [(11, .e false [(12, .p 13 <| .p 14 <| .p 15 <| .done)])]), (11, .e false [(9, .e false [(12, .p 13 <| .p 14 <| .p 15 <| .done)])])]), (9, .e false [(7, .e false [(11, .e false [(12, .p 13 <| .p 14 <| .p 15 <| .done)])]), (11, .e false [(7, .e false [(12, .p 13 <| .p 14 <| .p 15 <| .done)])])]), (11, .e false [(7, .e false [(9, .e false [(12, .p 13 <| .p 14 <| .p 15 <| .done)])]), (9, .e false [(7, .e false [(12, .p 13 <| .p 14 <| .p 15 <| .done)])])])])]); exact mixed; kernel_rfl; kernel_rfl; exact Ent.refl; exact k.out)
  | (refine is_draw ?_; apply WC_mix (id := 8) .true _ (pl := .p 0 <| .p 1 <| .p 2 <| .p 4 <| .p 6 <| .r 3 <| .r 5 <| .e true [(7, .done)]); exact mixed; kernel_rfl; kernel_rfl; exact Ent.refl; exact k.out)) : P := h ⟨k⟩
theorem ca_EvictO {F : List HP} {b a f e : Nat} {c : Cfg} {core s w : Int} {k : CaS} (hc : checkB c = true) (hI : ArrInv c k.ways) :
    FnF Tryz.prog 23 [.pointer (some ⟨b, 0, none⟩), .int .i64 s, .int .i64 w] (CaO b a f e c core k) F
      (fun r L' => r = .tuple [mv (caEvM c core k s w), .bool (caEvB c k s w), .int .i64 (caEvE c k s w)].toArray ∧ L' = CaO b a f e c core (caEvK c k s w)) := by
  have hAt := fun F => arr_At (F := F) (b := a) (c := c) (l := k.ways) (s := s) (k := w)
  have hno : ∀ x : Int, x ≠ 0 → caEvE c k s w = x → caEvB c k s w = false ∧ caEvM c core k s w = .zero ∧ caEvK c k s w = k := fun x hx h => by
    have h1 : caEvB c k s w = false := by unfold caEvB; rw [h]; simp [hx]
    refine ⟨h1, ?_, ?_⟩
    · unfold caEvM; rw [h1]; rfl
    · unfold caEvK; rw [if_neg (by omega)]
  by_cases h0 : inWay c s w = false ∨ (atW c k.ways s w).st = 0
  · have e1 : caEvE c k s w = 5 := if_pos h0
    obtain ⟨e2, e3, e4⟩ := hno _ (by omega) e1
    rw [e1, e2, e3, e4]
    cases h1 : inWay c s w with
    | false =>
      simp only [h1] at hAt
      refine FnF.mk' Tryz.func23 rfl rfl Tryz.ntmps23 rfl ?_
      repeat (first | rintro _ _ ⟨rfl, rfl⟩ | refine exq fun _ => ?_ | intro _ | refine go ?_ | refine dr_Ca3_23g ?_ | refine drq ?_ | refine cal @hAt ?_)
      exact fin0
    | true =>
      simp only [h1] at hAt
      have h2 : (atW c k.ways s w).st = 0 := by
        rcases h0 with h | h
        · rw [h1] at h; cases h
        · exact h
      refine FnF.mk' Tryz.func23 rfl rfl Tryz.ntmps23 rfl ?_
      repeat (first | rintro _ _ ⟨rfl, rfl⟩ | refine exq fun _ => ?_ | intro _ | refine go ?_ | refine dr_Ca3_23g ?_ | refine drq ?_ | refine cal @hAt ?_)
      exact fin0
  · have h1 : inWay c s w = true := by
      cases h : inWay c s w with
      | true => rfl
      | false => exact absurd (.inl h) h0
    have h2 : (atW c k.ways s w).st ≠ 0 := fun h => h0 (.inr h)
    simp only [h1] at hAt
    have hok := atW_ok hI h2
    have hli := okLine_i64 hok
    have hE0 : caEvE c k s w = if (atW c k.ways s w).lk = true then 6 else if 2 ≤ (atW c k.ways s w).st ∧ wbPutE c.writebacks k.buf (atW c k.ways s w).line ≠ 0 then 4 else 0 := if_neg h0
    have hPut := fun F => wb_Put (F := F) (b := e) (room := c.writebacks) (l := k.buf) (line := (atW c k.ways s w).line) (w := (atW c k.ways s w).words)
    have hSet := fun F => arr_Set (F := F) (b := a) (c := c) (l := k.ways) (line := (atW c k.ways s w).line) (st := 0) (w := .zero) (cfg_wf hc) hli
    have hHome := fun F k' => ca_homeO (F := F) (b := b) (a := a) (f := f) (e := e) (core := core) (k := k') (kind := 3) hc hli
    cases h3 : (atW c k.ways s w).lk with
    | true =>
      have e1 : caEvE c k s w = 6 := by rw [hE0, if_pos h3]
      obtain ⟨e2, e3, e4⟩ := hno _ (by omega) e1
      rw [e1, e2, e3, e4]
      refine FnF.mk' Tryz.func23 rfl rfl Tryz.ntmps23 rfl ?_
      repeat (first | rintro _ _ ⟨rfl, rfl⟩ | refine exq fun _ => ?_ | intro _ | refine go ?_ | refine dr_Ca3_23g ?_ | refine drq ?_ | refine cal @hAt ?_)
      exact fin0
    | false =>
      rw [h3, if_neg Bool.false_ne_true] at hE0
      by_cases h4 : 2 ≤ (atW c k.ways s w).st
      · by_cases h5 : wbPutE c.writebacks k.buf (atW c k.ways s w).line = 0
        · have e1 : caEvE c k s w = 0 := by rw [hE0, if_neg (fun h => h.2 h5)]
          have e2 : caEvB c k s w = true := decide_eq_true ⟨e1, h4⟩
          have e3 : caEvM c core k s w = homeMsg c core 3 (atW c k.ways s w).line (atW c k.ways s w).words := if_pos e2
          have e4 : caEvK c k s w = ⟨setL c k.ways (atW c k.ways s w).line 0 .zero, k.mis, wbPutL c.writebacks k.buf (atW c k.ways s w).line (atW c k.ways s w).words⟩ := by unfold caEvK; rw [if_pos e1, if_pos h4]
          rw [e1, e2, e3, e4]
          simp only [h5] at hPut
          have hHome2 := fun F => hHome F ⟨setL c k.ways (atW c k.ways s w).line 0 .zero, k.mis, wbPutL c.writebacks k.buf (atW c k.ways s w).line (atW c k.ways s w).words⟩
          refine FnF.mk' Tryz.func23 rfl rfl Tryz.ntmps23 rfl ?_
          repeat' (first | rintro _ _ ⟨rfl, rfl⟩ | refine exq fun _ => ?_ | intro _ | refine go ?_ | refine dr_Ca3_23g ?_ | refine drq ?_ | refine cal @hAt ?_ | refine cal @ca_owns ?_ | refine cal @hPut ?_ | refine cal @hSet ?_ | refine cal @hHome2 ?_ | refine spl ?_ ?_ | fail)
          all_goals exact fin0
        · have e1 : caEvE c k s w = 4 := by rw [hE0, if_pos ⟨h4, h5⟩]
          obtain ⟨e2, e3, e4⟩ := hno _ (by omega) e1
          rw [e1, e2, e3, e4]
          have hL : wbPutL c.writebacks k.buf (atW c k.ways s w).line (atW c k.ways s w).words = k.buf := by
            unfold wbPutE at h5; unfold wbPutL
            split
            · rfl
            · split
              · rfl
              · rename_i g1 g2; rw [if_neg g1, if_neg g2] at h5; exact absurd rfl h5
          rw [hL] at hPut
          refine FnF.mk' Tryz.func23 rfl rfl Tryz.ntmps23 rfl ?_
          repeat' (first | rintro _ _ ⟨rfl, rfl⟩ | refine exq fun _ => ?_ | intro _ | refine go ?_ | refine dr_Ca3_23g ?_ | refine drq ?_ | refine cal @hAt ?_ | refine cal @ca_owns ?_ | refine cal @hPut ?_ | refine spl ?_ ?_ | fail)
          all_goals exact fin0
      · have e1 : caEvE c k s w = 0 := by rw [hE0, if_neg (fun h => h4 h.1)]
        have e2 : caEvB c k s w = false := decide_eq_false (fun h => h4 h.2)
        have e3 : caEvM c core k s w = .zero := by unfold caEvM; rw [e2]; rfl
        have e4 : caEvK c k s w = ⟨setL c k.ways (atW c k.ways s w).line 0 .zero, k.mis, k.buf⟩ := by unfold caEvK; rw [if_pos e1, if_neg h4]
        rw [e1, e2, e3, e4]
        refine FnF.mk' Tryz.func23 rfl rfl Tryz.ntmps23 rfl ?_
        repeat' (first | rintro _ _ ⟨rfl, rfl⟩ | refine exq fun _ => ?_ | intro _ | refine go ?_ | refine dr_Ca3_23g ?_ | refine drq ?_ | refine cal @hAt ?_ | refine cal @ca_owns ?_ | refine cal @hSet ?_ | refine spl ?_ ?_ | fail)
        all_goals exact fin0
theorem ca_Evict {F : List HP} {b : Nat} {c : Cfg} {core s w : Int} {k : CaS} (hI : ArrInv c k.ways) :
    FnF Tryz.prog 23 [.pointer (some ⟨b, 0, none⟩), .int .i64 s, .int .i64 w] [CaP b c core k] F
      (fun r L' => r = .tuple [mv (caEvM c core k s w), .bool (caEvB c k s w), .int .i64 (caEvE c k s w)].toArray ∧ L' = [CaP b c core (caEvK c k s w)]) :=
  ca_close (fun a f e hf => ca_EvictO hf.1 hI) (enters_of Tryz.func23 rfl rfl)
theorem ca_FinishO {F : List HP} {b a f e : Nat} {c : Cfg} {core : Int} {k : CaS} (hc : checkB c = true) (hm : ∀ m ∈ k.mis, okLine c m.line = true) :
    FnF Tryz.prog 44 [.pointer (some ⟨b, 0, none⟩)] (CaO b a f e c core k) F (fun r L' => r = .tuple [mv (caFinM c core k), .bool (caFinB k)].toArray ∧ L' = CaO b a f e c core (caFinK c k)) := by
  have hOw := fun F => msh_Owing (F := F) (b := f) (room := c.mshrs) (l := k.mis)
  by_cases h : 0 ≤ owingP k.mis
  · obtain ⟨i, hi, e0, _⟩ := indexBy_nat h
    have e0' : owingP k.mis = i := e0
    have el : caFinL k = k.mis[i].line := by unfold caFinL; rw [if_pos h, e0', Int.toNat_natCast, ← getD_at hi]
    have hli : I64 (caFinL k) := by rw [el]; exact okLine_i64 (hm _ (List.getElem_mem hi))
    have e1 : caFinB k = true := decide_eq_true h
    have e2 : caFinM c core k = homeMsg c core 11 (caFinL k) .zero := if_pos e1
    have e3 : caFinK c k = ⟨lockL c k.ways (caFinL k) false, closeL k.mis (caFinL k), k.buf⟩ := if_pos e1
    rw [e1, e2, e3]
    change ∀ F, FnF _ _ _ _ F (fun r L' => r = .tuple [.int .i64 (caFinL k), .bool (decide (0 ≤ owingP k.mis))].toArray ∧ L' = _) at hOw
    rw [decide_eq_true h] at hOw
    have hCl := fun F => msh_Close (F := F) (b := f) (room := c.mshrs) (l := k.mis) (line := caFinL k)
    have hLk := fun F => arr_Lock (F := F) (b := a) (c := c) (l := k.ways) (line := caFinL k) (lk := false) (cfg_wf hc) hli
    have hHome := fun F => ca_homeO (F := F) (b := b) (a := a) (f := f) (e := e) (core := core) (k := ⟨lockL c k.ways (caFinL k) false, closeL k.mis (caFinL k), k.buf⟩) (kind := 11) hc hli
    refine FnF.mk' Tryz.func44 rfl rfl Tryz.ntmps44 rfl ?_
    repeat (first | rintro _ _ ⟨rfl, rfl⟩ | refine exq fun _ => ?_ | intro _ | refine go ?_ | refine drq ?_ | refine cal @hOw ?_ | refine cal @hCl ?_ | refine cal @hLk ?_ | refine cal @hHome ?_)
    exact fin0
  · have e1 : caFinB k = false := decide_eq_false h
    have e2 : caFinM c core k = .zero := by unfold caFinM; rw [e1]; rfl
    have e3 : caFinK c k = k := by unfold caFinK; rw [e1]; rfl
    rw [e1, e2, e3]
    simp only [decide_eq_false h] at hOw
    refine FnF.mk' Tryz.func44 rfl rfl Tryz.ntmps44 rfl ?_
    repeat (first | rintro _ _ ⟨rfl, rfl⟩ | refine exq fun _ => ?_ | intro _ | refine go ?_ | refine drq ?_ | refine cal @hOw ?_)
    exact fin0
theorem ca_Finish {F : List HP} {b : Nat} {c : Cfg} {core : Int} {k : CaS} (hm : ∀ m ∈ k.mis, okLine c m.line = true) :
    FnF Tryz.prog 44 [.pointer (some ⟨b, 0, none⟩)] [CaP b c core k] F (fun r L' => r = .tuple [mv (caFinM c core k), .bool (caFinB k)].toArray ∧ L' = [CaP b c core (caFinK c k)]) :=
  ca_close (fun a f e hf => ca_FinishO hf.1 hm) (enters_of Tryz.func44 rfl rfl)
theorem addr_i64 {c : Cfg} {a : Int} : I64 (addrL c a) := by
  unfold addrL
  split
  · rename_i h
    simp only [okAddr, Bool.and_eq_true, decide_eq_true_eq] at h
    obtain ⟨hc, h0, h1⟩ := h
    have hw := check_words hc
    have hm := mul_bd (m := 8) (n := 1024) (a := c.words) (b := c.lines) (by omega) (by omega) (by omega) (by omega) (by omega)
    have h2 : 0 ≤ a / c.words := Int.ediv_nonneg h0 (by omega)
    have h3 : a / c.words ≤ a := Int.ediv_le_self _ h0
    unfold I64; omega
  · decide
theorem dr_Ca3_21 {Q P : Prop} (k : Q) (h : Hid Q → P := by
  intro k
  first
  | (refine is_draw ?_; apply WC_mix (id := 1) .true _ (pl := .p 0 <| .p 1 <| .p 2 <| .p 4 <| .r 3 <| .r 5 <| .e true [(6, .p 7 <| .p 8 <| .p 9 <| .p 10 <| .p 11 <| .p 12 <| .p 13 <| .done)]); exact mixed; kernel_rfl; kernel_rfl; exact Ent.refl; exact k.out)
  | (refine is_draw ?_; apply WC_mix (id := 3) .true _ (pl := .p 0 <| .p 1 <| .p 2 <| .p 4 <| .r 3 <| .r 5 <| .r 6 <| .e true [(7, .p 8 <| .p 9 <| .p 10 <| .p 11 <| .e false [(12, .e false [(13, .p 14 <| .p 15 <| .done)])]), (12, .e true [(7, .p 8 <| .p 9 <| .p 10 <| .p 11 <| .e false [(13, .p 14 <| .p 15 <| .done)])])]); exact mixed; kernel_rfl; kernel_rfl; exact Ent.refl; exact k.out)
  | (refine is_draw ?_; apply WC_mix (id := 12) .true _ (pl := .p 0 <| .p 1 <| .p 2 <| .p 4 <| .r 3 <| .r 5 <| .e true [(6, .done)]); exact mixed; kernel_rfl; kernel_rfl; exact Ent.refl; exact k.out)) : P := h ⟨k⟩
theorem ca_DoO {F : List HP} {b a f e : Nat} {c : Cfg} {core : Int} {x : Op3} {k : CaS} (hc : checkB c = true) (hx : x.wf) :
    FnF Tryz.prog 21 [.pointer (some ⟨b, 0, none⟩), ov x] (CaO b a f e c core k) F (fun r L' => r = .tuple [.int .i64 (caDoV c k x), .int .i64 (caDoE c k x)].toArray ∧ L' = CaO b a f e c core (caDoK c k x)) := by
  have hAd := fun F => split_Addr (F := F) (c := c) (a := x.addr) (cfg_wf hc) hx.2.1
  have hLook := fun F => ca_LookO (F := F) (b := b) (a := a) (f := f) (e := e) (core := core) (k := k) hc (addr_i64 (c := c) (a := x.addr))
  have hAp := fun F => mem_Apply (F := F) (c := c) (w := (findW c k.ways (addrL c x.addr)).words) (x := x) (cfg_wf hc) hx
  have hCan := fun F => ca_canO (F := F) (b := b) (a := a) (f := f) (e := e) (core := core) (k := k) (kind := kindOf x) hc (addr_i64 (c := c) (a := x.addr))
  have hSet := fun F => arr_Set (F := F) (b := a) (c := c) (l := k.ways) (line := addrL c x.addr) (st := 4) (w := apW c (findW c k.ways (addrL c x.addr)).words x) (cfg_wf hc) addr_i64
  by_cases h0 : apE c x = 0
  · have hE0 : caDoE c k x = if caCan c k (addrL c x.addr) (kindOf x) then 0 else 5 := if_pos h0
    simp only [h0] at hAp
    cases h1 : caCan c k (addrL c x.addr) (kindOf x) with
    | false =>
      simp only [h1] at hCan
      have e1 : caDoE c k x = 5 := by rw [hE0, h1]; rfl
      have e2 : caDoV c k x = 0 := by unfold caDoV; rw [e1]; rfl
      have e3 : caDoK c k x = k := by unfold caDoK; rw [e1]; rfl
      rw [e1, e2, e3]
      by_cases h2 : x.kind = 1
      · have e4 : kindOf x = 1 := if_pos h2
        rw [e4] at hCan
        refine FnF.mk' Tryz.func21 rfl rfl Tryz.ntmps21 rfl ?_
        repeat' (first | rintro _ _ ⟨rfl, rfl⟩ | refine exq fun _ => ?_ | intro _ | refine go ?_ | refine dr_Ca3_21 ?_ | refine drq ?_ | refine cal @hAd ?_ | refine cal @hLook ?_ | refine cal @hAp ?_ | refine cal @hCan ?_ | refine spl ?_ ?_ | fail)
        all_goals exact fin0
      · have e4 : kindOf x = 2 := if_neg h2
        rw [e4] at hCan
        refine FnF.mk' Tryz.func21 rfl rfl Tryz.ntmps21 rfl ?_
        repeat' (first | rintro _ _ ⟨rfl, rfl⟩ | refine exq fun _ => ?_ | intro _ | refine go ?_ | refine dr_Ca3_21 ?_ | refine drq ?_ | refine cal @hAd ?_ | refine cal @hLook ?_ | refine cal @hAp ?_ | refine cal @hCan ?_ | refine spl ?_ ?_ | fail)
        all_goals exact fin0
    | true =>
      simp only [h1] at hCan
      have e1 : caDoE c k x = 0 := by rw [hE0, h1]; rfl
      have e2 : caDoV c k x = apV c (findW c k.ways (addrL c x.addr)).words x := if_pos e1
      by_cases h2 : x.kind = 1
      · have e4 : kindOf x = 1 := if_pos h2
        have e3 : caDoK c k x = k := if_neg (fun h => h.2 h2)
        rw [e1, e2, e3]
        rw [e4] at hCan
        refine FnF.mk' Tryz.func21 rfl rfl Tryz.ntmps21 rfl ?_
        repeat' (first | rintro _ _ ⟨rfl, rfl⟩ | refine exq fun _ => ?_ | intro _ | refine go ?_ | refine dr_Ca3_21 ?_ | refine drq ?_ | refine cal @hAd ?_ | refine cal @hLook ?_ | refine cal @hAp ?_ | refine cal @hCan ?_ | refine spl ?_ ?_ | fail)
        all_goals exact fin0
      · have e4 : kindOf x = 2 := if_neg h2
        have e3 : caDoK c k x = ⟨setL c k.ways (addrL c x.addr) 4 (apW c (findW c k.ways (addrL c x.addr)).words x), k.mis, k.buf⟩ := if_pos ⟨e1, h2⟩
        rw [e1, e2, e3]
        rw [e4] at hCan
        refine FnF.mk' Tryz.func21 rfl rfl Tryz.ntmps21 rfl ?_
        repeat' (first | rintro _ _ ⟨rfl, rfl⟩ | refine exq fun _ => ?_ | intro _ | refine go ?_ | refine dr_Ca3_21 ?_ | refine drq ?_ | refine cal @hAd ?_ | refine cal @hLook ?_ | refine cal @hAp ?_ | refine cal @hCan ?_ | refine cal @hSet ?_ | refine spl ?_ ?_ | fail)
        all_goals exact fin0
  · have e1 : caDoE c k x = apE c x := if_neg h0
    have e2 : caDoV c k x = 0 := by unfold caDoV; rw [e1, if_neg h0]
    have e3 : caDoK c k x = k := by unfold caDoK; rw [e1, if_neg (fun h => h0 h.1)]
    rw [e1, e2, e3]
    refine FnF.mk' Tryz.func21 rfl rfl Tryz.ntmps21 rfl ?_
    repeat' (first | rintro _ _ ⟨rfl, rfl⟩ | refine exq fun _ => ?_ | intro _ | refine go ?_ | refine dr_Ca3_21 ?_ | refine drq ?_ | refine cal @hAd ?_ | refine cal @hLook ?_ | refine cal @hAp ?_ | refine spl ?_ ?_ | fail)
    all_goals exact fin0
theorem ca_Do {F : List HP} {b : Nat} {c : Cfg} {core : Int} {x : Op3} {k : CaS} (hx : x.wf) :
    FnF Tryz.prog 21 [.pointer (some ⟨b, 0, none⟩), ov x] [CaP b c core k] F (fun r L' => r = .tuple [.int .i64 (caDoV c k x), .int .i64 (caDoE c k x)].toArray ∧ L' = [CaP b c core (caDoK c k x)]) :=
  ca_close (fun a f e hf => ca_DoO hf.1 hx) (enters_of Tryz.func21 rfl rfl)
end Go.Sx

/- What caches do: what becomes of each message. The program's. My own work. -/
namespace Go.Sx
open Go Go.Proofs
set_option linter.unusedVariables false
set_option linter.unusedSectionVars false
set_option linter.unusedSimpArgs false
abbrev anc (m : Msg) (b : Bool) : List Value := [.int .i64 m.kind, .int .i64 m.line, .int .i64 m.src, .int .i64 m.dst, .int .i64 m.who, .int .i64 m.acks, .int .i64 m.own, .int .i64 m.words.w0, .int .i64 m.words.w1, .int .i64 m.words.w2, .int .i64 m.words.w3, .int .i64 m.words.w4, .int .i64 m.words.w5, .int .i64 m.words.w6, .int .i64 m.words.w7, .bool b]
abbrev anv (m : Msg) (b : Bool) : Value := .agg (anc m b).toArray
theorem may_line {c : Cfg} {m : Msg} (h : MayP c m) : okLine c m.line = true := by
  obtain ⟨h1, _, h2, _⟩ := h
  simp [okLine, h1, h2]
set_option maxRecDepth 100000
set_option maxHeartbeats 4000000
attribute [local irreducible] Go.Exit.then Go.Exit.inBlock Go.Code.wp WC WO WE WQ V LoopQ FnQ Sat Star band bor IntKind.wrap WR Code.rounds WT KO
theorem dr_Ca4_155 {Q P : Prop} (k : Q) (h : Hid Q → P := by
  intro k
  first
  | (refine is_draw ?_; apply WC_mix (id := 4) .true _ (pl := .p 0 <| .p 1 <| .p 2 <| .p 4 <| .p 6 <| .r 3 <| .r 5 <| .r 7 <| .e true [(8, .done)]); exact mixed; kernel_rfl; kernel_rfl; exact Ent.refl; exact k.out)
  | (refine is_draw ?_; apply WC_mix (id := 10) .true [] (pl := .p 0 <| .p 1 <| .p 4 <| .e true [(2, .e true [(3, .e true [(5, .p 6 <| .e false [(7, .p 8 <| .e false [(9, .p 10 <| .e false [(11, .done)])])])]), (5, .p 6 <| .e false [(3, .e false [(7, .p 8 <| .e false [(9, .p 10 <| .e false [(11, .done)])])]), (7, .p 8 <| .e false [(3, .e false [(9, .p 10 <| .e false [(11, .done)])]), (9, .e false [(3, .p 10 <| .e false [(11, .done)])])])])]), (3, .e true [(2, .e true [(5, .p 6 <| .e false [(7, .p 8 <| .e false [(9, .p 10 <| .e false [(11, .done)])])])]), (5, .p 6 <| .e false [(2, .e false [(7, .p 8 <| .e false [(9, .p 10 <| .e false [(11, .done)])])]), (7, .e false [(2, .p 8 <| .e false [(9, .p 10 <| .e false [(11, .done)])])])])]), (5, .p 6 <| .e false [(2, .e false [(3, .e false [(7, .p 8 <| .e false [(9, .p 10 <| .e false [(11, .done)])])]), (7, .p 8 <| .e false [(3, .e false [(9, .p 10 <| .e false [(11, .done)])]), (9, .e false [(3, .p 10 <| .e false [(11, .done)])])])]), (3, .e false [(2, .e false [(7, .p 8 <| .e false [(9, .p 10 <| .e false [(11, .done)])])]), (7, .e false [(2, .p 8 <| .e false [(9, .p 10 <| .e false [(11, .done)])])])]), (7, .e false [(2, .p 8 <| .e false [(3, .e false [(9, .p 10 <| .e false [(11, .done)])]), (9, .e false [(3, .p 10 <| .e false [(11, .done)])])]), (3, .e false [(2, .p 8 <| .e false [(9, .p 10 <| .e false [(11, .done)])])])])])]); exact mixed; kernel_rfl; kernel_rfl; exact Ent.nil; exact k.out)) : P := h ⟨k⟩
theorem ca_tellO {F : List HP} {b a f e : Nat} {c : Cfg} {core own st : Int} {m : Msg} {k : CaS} {fk : FuncId} {give : Bool} (hc : checkB c = true) (hli : I64 m.line)
    (H : ∀ F, FnF Tryz.prog fk [.pointer (some ⟨e, 0, none⟩), .int .i64 m.line] [Wb e c.writebacks k.buf] F (fun r L' => r = .tuple [wv (wbTellW k.buf m.line), .int .i64 (wbTellE k.buf m.line)].toArray ∧ L' = [Wb e c.writebacks (if give then wbGiveL k.buf m.line else k.buf)])) :
    FnF Tryz.prog 155 [.pointer (some ⟨b, 0, none⟩), mv m, .int .i64 own, .int .i64 st, .func (.func fk) [.pointer (some ⟨e, 0, none⟩)].toArray [].toArray] (CaO b a f e c core k) F
      (fun r L' => r = .tuple [anv (caTellM c core k m own) (decide (caTellE c k m.line = 0)), .int .i64 (caTellE c k m.line)].toArray ∧ L' = CaO b a f e c core (caTellK c k m.line st give)) := by
  have hLook := fun F => ca_LookO (F := F) (b := b) (a := a) (f := f) (e := e) (core := core) (k := k) hc hli
  have hSet := fun F => arr_Set (F := F) (b := a) (c := c) (l := k.ways) (line := m.line) (st := st) (w := (findW c k.ways m.line).words) (cfg_wf hc) hli
  have hTo := fun F k' => ca_toO (F := F) (b := b) (a := a) (f := f) (e := e) (c := c) (core := core) (k := k') (kind := 7) (m := m)
  by_cases h2 : 2 ≤ (findW c k.ways m.line).st
  · have e1 : caTellE c k m.line = 0 := if_pos h2
    have e2 : caTellM c core k m own = ⟨7, m.line, core, m.who, 1, m.acks, own, (findW c k.ways m.line).words⟩ := by unfold caTellM caTellW; rw [if_pos e1, if_pos h2]
    have e3 : caTellK c k m.line st give = ⟨setL c k.ways m.line st (findW c k.ways m.line).words, k.mis, k.buf⟩ := if_pos h2
    rw [e1, e2, e3, decide_eq_true rfl]
    have hTo2 := fun F => hTo F ⟨setL c k.ways m.line st (findW c k.ways m.line).words, k.mis, k.buf⟩
    refine FnF.mk' Tryz.func155 rfl rfl Tryz.ntmps155 rfl ?_
    repeat' (first | rintro _ _ ⟨rfl, rfl⟩ | refine exq fun _ => ?_ | intro _ | refine go ?_ | refine dr_Ca4_155 ?_ | refine drq ?_ | refine cal @hLook ?_ | refine cal @ca_owns ?_ | refine cal @hSet ?_ | refine cal @hTo2 ?_ | refine spl ?_ ?_ | fail)
    all_goals exact fin0
  · by_cases h3 : wbTellE k.buf m.line = 0
    · have e1 : caTellE c k m.line = 0 := by unfold caTellE; rw [if_neg h2, if_pos h3]
      have e2 : caTellM c core k m own = ⟨7, m.line, core, m.who, 1, m.acks, own, wbTellW k.buf m.line⟩ := by unfold caTellM caTellW; rw [if_pos e1, if_neg h2]
      have e3 : caTellK c k m.line st give = ⟨k.ways, k.mis, if give then wbGiveL k.buf m.line else k.buf⟩ := by unfold caTellK; rw [if_neg h2]; cases give <;> rfl
      rw [e1, e2, e3, decide_eq_true rfl]
      simp only [h3] at H
      have hTo2 := fun F => hTo F ⟨k.ways, k.mis, if give then wbGiveL k.buf m.line else k.buf⟩
      refine FnF.mk' Tryz.func155 rfl rfl Tryz.ntmps155 rfl ?_
      repeat' (first | rintro _ _ ⟨rfl, rfl⟩ | refine exq fun _ => ?_ | intro _ | refine go ?_ | refine dr_Ca4_155 ?_ | refine drq ?_ | refine cal @hLook ?_ | refine cal @ca_owns ?_ | refine cal @H ?_ | refine cal @hTo2 ?_ | refine spl ?_ ?_ | fail)
      all_goals exact fin0
    · have e1 : caTellE c k m.line = 7 := by unfold caTellE; rw [if_neg h2, if_neg h3]
      have e2 : caTellM c core k m own = .zero := by unfold caTellM; rw [e1]; rfl
      have e4 : wbGiveL k.buf m.line = k.buf := by
        unfold wbGiveL
        unfold wbTellE at h3
        cases g1 : wbIn k.buf m.line with
        | false => rfl
        | true =>
          cases g2 : (wbAt k.buf m.line).live with
          | false => rfl
          | true => rw [g1, if_pos rfl, g2, if_pos rfl] at h3; exact absurd rfl h3
      have e3 : caTellK c k m.line st give = k := by unfold caTellK; rw [if_neg h2, e4]; cases give <;> rfl
      rw [e4] at H
      have e5 : (if give = true then k.buf else k.buf) = k.buf := by split <;> rfl
      rw [e5] at H
      rw [e1, e2, e3, decide_eq_false (by decide)]
      refine FnF.mk' Tryz.func155 rfl rfl Tryz.ntmps155 rfl ?_
      repeat' (first | rintro _ _ ⟨rfl, rfl⟩ | refine exq fun _ => ?_ | intro _ | refine go ?_ | refine dr_Ca4_155 ?_ | refine drq ?_ | refine cal @hLook ?_ | refine cal @ca_owns ?_ | refine cal @H ?_ | refine spl ?_ ?_ | fail)
      all_goals exact fin0
theorem dr_Ca4_76 {Q P : Prop} (k : Q) (h : Hid Q → P := by
  intro k
  first
  | (refine is_draw ?_; apply WC_mix (id := 1) .true _ (pl := .p 0 <| .p 2 <| .p 3 <| .p 4 <| .r 1 <| .r 5 <| .p 6 <| .e true [(7, .p 8 <| .p 9 <| .e false [(10, .p 11 <| .done)])]); exact mixed; kernel_rfl; kernel_rfl; exact Ent.refl; exact k.out)) : P := h ⟨k⟩
theorem ca_fwdSO {F : List HP} {b a f e : Nat} {c : Cfg} {core : Int} {m : Msg} {k : CaS} (hc : checkB c = true) (hli : I64 m.line) :
    FnF Tryz.prog 76 [.pointer (some ⟨b, 0, none⟩), mv m] (CaO b a f e c core k) F
      (fun r L' => r = .tuple [anv (caTellM c core k m 1) (decide (caTellE c k m.line = 0)), .int .i64 (caTellE c k m.line)].toArray ∧ L' = CaO b a f e c core (caTellK c k m.line 3 false)) := by
  have hT := fun F => ca_tellO (F := F) (b := b) (a := a) (f := f) (e := e) (core := core) (own := 1) (st := 3) (m := m) (k := k) (give := false) hc hli (fun F => wb_Share)
  refine FnF.mk' Tryz.func76 rfl rfl Tryz.ntmps76 rfl ?_
  repeat (first | rintro _ _ ⟨rfl, rfl⟩ | refine exq fun _ => ?_ | intro _ | refine go ?_ | refine dr_Ca4_76 ?_ | refine drq ?_ | refine cal @hT ?_)
  exact fin0
theorem dr_Ca4_77 {Q P : Prop} (k : Q) (h : Hid Q → P := by
  intro k
  first
  | (refine is_draw ?_; apply WC_mix (id := 1) .true _ (pl := .p 0 <| .p 2 <| .p 3 <| .p 4 <| .r 1 <| .r 5 <| .p 6 <| .e true [(7, .p 8 <| .p 9 <| .e false [(10, .p 11 <| .done)])]); exact mixed; kernel_rfl; kernel_rfl; exact Ent.refl; exact k.out)) : P := h ⟨k⟩
theorem ca_fwdMO {F : List HP} {b a f e : Nat} {c : Cfg} {core : Int} {m : Msg} {k : CaS} (hc : checkB c = true) (hli : I64 m.line) :
    FnF Tryz.prog 77 [.pointer (some ⟨b, 0, none⟩), mv m] (CaO b a f e c core k) F
      (fun r L' => r = .tuple [anv (caTellM c core k m 4) (decide (caTellE c k m.line = 0)), .int .i64 (caTellE c k m.line)].toArray ∧ L' = CaO b a f e c core (caTellK c k m.line 0 true)) := by
  have hT := fun F => ca_tellO (F := F) (b := b) (a := a) (f := f) (e := e) (core := core) (own := 4) (st := 0) (m := m) (k := k) (give := true) hc hli (fun F => wb_Give)
  refine FnF.mk' Tryz.func77 rfl rfl Tryz.ntmps77 rfl ?_
  repeat (first | rintro _ _ ⟨rfl, rfl⟩ | refine exq fun _ => ?_ | intro _ | refine go ?_ | refine dr_Ca4_77 ?_ | refine drq ?_ | refine cal @hT ?_)
  exact fin0
theorem dr_Ca4_78 {Q P : Prop} (k : Q) (h : Hid Q → P := by
  intro k
  first
  | (refine is_draw ?_; apply WC_mix (id := 5) .true _ (pl := .p 0 <| .p 1 <| .p 2 <| .p 4 <| .p 6 <| .r 3 <| .r 5 <| .e true [(7, .done)]); exact mixed; kernel_rfl; kernel_rfl; exact Ent.refl; exact k.out)) : P := h ⟨k⟩
theorem ca_invO {F : List HP} {b a f e : Nat} {c : Cfg} {core : Int} {m : Msg} {k : CaS} (hc : checkB c = true) (hli : I64 m.line) :
    FnF Tryz.prog 78 [.pointer (some ⟨b, 0, none⟩), mv m] (CaO b a f e c core k) F
      (fun r L' => r = .tuple [anv (caInvM c core k m) (decide (caInvE c k m.line = 0)), .int .i64 (caInvE c k m.line)].toArray ∧ L' = CaO b a f e c core (if caInvE c k m.line = 0 then caInvK c k m.line else k)) := by
  have hLook := fun F => ca_LookO (F := F) (b := b) (a := a) (f := f) (e := e) (core := core) (k := k) hc hli
  have hSet := fun F => arr_Set (F := F) (b := a) (c := c) (l := k.ways) (line := m.line) (st := 0) (w := .zero) (cfg_wf hc) hli
  have hTo := fun F k' => ca_toO (F := F) (b := b) (a := a) (f := f) (e := e) (c := c) (core := core) (k := k') (kind := 9) (m := m)
  by_cases h2 : 2 ≤ (findW c k.ways m.line).st
  · have e1 : caInvE c k m.line = 7 := if_pos h2
    have e2 : caInvM c core k m = .zero := by unfold caInvM; rw [e1]; rfl
    rw [e1, e2, decide_eq_false (by decide), if_neg (by decide)]
    refine FnF.mk' Tryz.func78 rfl rfl Tryz.ntmps78 rfl ?_
    repeat' (first | rintro _ _ ⟨rfl, rfl⟩ | refine exq fun _ => ?_ | intro _ | refine go ?_ | refine dr_Ca4_78 ?_ | refine drq ?_ | refine cal @hLook ?_ | refine cal @ca_owns ?_ | refine spl ?_ ?_ | fail)
    all_goals exact fin0
  · have e1 : caInvE c k m.line = 0 := if_neg h2
    have e2 : caInvM c core k m = ⟨9, m.line, core, m.who, 0, 0, 0, .zero⟩ := if_pos e1
    rw [e1, e2, decide_eq_true rfl, if_pos rfl]
    by_cases h1 : (findW c k.ways m.line).st = 1
    · have e3 : caInvK c k m.line = ⟨setL c k.ways m.line 0 .zero, k.mis, k.buf⟩ := if_pos h1
      rw [e3]
      have hTo2 := fun F => hTo F ⟨setL c k.ways m.line 0 .zero, k.mis, k.buf⟩
      refine FnF.mk' Tryz.func78 rfl rfl Tryz.ntmps78 rfl ?_
      repeat' (first | rintro _ _ ⟨rfl, rfl⟩ | refine exq fun _ => ?_ | intro _ | refine go ?_ | refine dr_Ca4_78 ?_ | refine drq ?_ | refine cal @hLook ?_ | refine cal @ca_owns ?_ | refine cal @hSet ?_ | refine cal @hTo2 ?_ | refine spl ?_ ?_ | fail)
      all_goals exact fin0
    · have e3 : caInvK c k m.line = k := if_neg h1
      rw [e3]
      have hTo2 := fun F => hTo F k
      refine FnF.mk' Tryz.func78 rfl rfl Tryz.ntmps78 rfl ?_
      repeat' (first | rintro _ _ ⟨rfl, rfl⟩ | refine exq fun _ => ?_ | intro _ | refine go ?_ | refine dr_Ca4_78 ?_ | refine drq ?_ | refine cal @hLook ?_ | refine cal @ca_owns ?_ | refine cal @hTo2 ?_ | refine spl ?_ ?_ | fail)
      all_goals exact fin0
theorem dr_Ca4_159 {Q P : Prop} (k : Q) (h : Hid Q → P := by
  intro k
  first
  | (refine is_draw ?_; apply WC_mix (id := 10) .true _ (pl := .p 0 <| .p 1 <| .p 2 <| .p 4 <| .p 5 <| .r 3 <| .r 6 <| .r 7 <| .e true [(8, .done)]); exact mixed; kernel_rfl; kernel_rfl; exact Ent.refl; exact k.out)) : P := h ⟨k⟩
theorem ca_filledO {F : List HP} {b a f e : Nat} {c : Cfg} {core line er : Int} {k : CaS} (hc : checkB c = true) (hli : I64 line) :
    FnF Tryz.prog 159 [.pointer (some ⟨b, 0, none⟩), .int .i64 line, .int .i64 er] (CaO b a f e c core k) F
      (fun r L' => r = .tuple [anv .zero false, .int .i64 (err7 er)].toArray ∧ L' = CaO b a f e c core (if er = 0 then caFill c k line else k)) := by
  have hLook := fun F k' => ca_LookO (F := F) (b := b) (a := a) (f := f) (e := e) (core := core) (k := k') hc hli
  have hOwe := fun F => msh_Owe (F := F) (b := f) (room := c.mshrs) (l := k.mis) (line := line)
  by_cases h0 : er = 0
  · have e1 : err7 er = 0 := if_pos h0
    rw [e1, if_pos h0]
    cases h1 : oweB k.mis line with
    | false =>
      have e2 : caFill c k line = k := by unfold caFill; rw [h1]; rfl
      have e3 : oweL k.mis line = k.mis := by unfold oweL; rw [h1]; rfl
      rw [e2]
      simp only [h1, e3] at hOwe
      refine FnF.mk' Tryz.func159 rfl rfl Tryz.ntmps159 rfl ?_
      repeat' (first | rintro _ _ ⟨rfl, rfl⟩ | refine exq fun _ => ?_ | intro _ | refine go ?_ | refine dr_Ca4_159 ?_ | refine drq ?_ | refine cal @hOwe ?_ | refine spl ?_ ?_ | fail)
      all_goals exact fin0
    | true =>
      simp only [h1] at hOwe
      cases h2 : (oweM k.mis line).granted with
      | false =>
        have e2 : caFill c k line = ⟨setL c k.ways line (oweM k.mis line).own (oweM k.mis line).words, oweL k.mis line, k.buf⟩ := by unfold caFill; rw [h1, if_pos rfl, h2]; rfl
        rw [e2]
        have hSet := fun F => arr_Set (F := F) (b := a) (c := c) (l := k.ways) (line := line) (st := (oweM k.mis line).own) (w := (oweM k.mis line).words) (cfg_wf hc) hli
        refine FnF.mk' Tryz.func159 rfl rfl Tryz.ntmps159 rfl ?_
        repeat' (first | rintro _ _ ⟨rfl, rfl⟩ | refine exq fun _ => ?_ | intro _ | refine go ?_ | refine dr_Ca4_159 ?_ | refine drq ?_ | refine cal @hOwe ?_ | refine cal @hSet ?_ | refine spl ?_ ?_ | fail)
        all_goals exact fin0
      | true =>
        have e2 : caFill c k line = ⟨setL c k.ways line (oweM k.mis line).own (findW c k.ways line).words, oweL k.mis line, k.buf⟩ := by unfold caFill; rw [h1, if_pos rfl, h2]; rfl
        rw [e2]
        have hSet := fun F => arr_Set (F := F) (b := a) (c := c) (l := k.ways) (line := line) (st := (oweM k.mis line).own) (w := (findW c k.ways line).words) (cfg_wf hc) hli
        have hLook2 := fun F => hLook F ⟨k.ways, oweL k.mis line, k.buf⟩
        refine FnF.mk' Tryz.func159 rfl rfl Tryz.ntmps159 rfl ?_
        repeat' (first | rintro _ _ ⟨rfl, rfl⟩ | refine exq fun _ => ?_ | intro _ | refine go ?_ | refine dr_Ca4_159 ?_ | refine drq ?_ | refine cal @hOwe ?_ | refine cal @hLook2 ?_ | refine cal @hSet ?_ | refine spl ?_ ?_ | fail)
        all_goals exact fin0
  · have e1 : err7 er = 7 := if_neg h0
    rw [e1, if_neg h0]
    refine FnF.mk' Tryz.func159 rfl rfl Tryz.ntmps159 rfl ?_
    repeat' (first | rintro _ _ ⟨rfl, rfl⟩ | refine exq fun _ => ?_ | intro _ | refine go ?_ | refine dr_Ca4_159 ?_ | refine drq ?_ | refine spl ?_ ?_ | fail)
    all_goals exact fin0
theorem dr_Ca4_79s {Q P : Prop} (k : Q) (h : Hid Q → P := by
  intro k
  first
  | (refine is_draw ?_; apply WC_mix (id := 1) .true _ (pl := .p 0 <| .p 1 <| .p 3 <| .p 4 <| .p 5 <| .p 7 <| .p 9 <| .p 11 <| .p 13 <| .r 6 <| .r 8 <| .r 10 <| .r 12 <| .r 14 <| .e true [(2, .e true [(15, .e false [(16, .p 17 <| .p 18 <| .e false [(19, .p 20 <| .done)])])]), (15, .e false [(2, .e false [(16, .p 17 <| .p 18 <| .e false [(19, .p 20 <| .done)])])])]); exact mixed; kernel_rfl; kernel_rfl; exact Ent.refl; exact k.out)) : P := h ⟨k⟩
theorem ca_dataO {F : List HP} {b a f e : Nat} {c : Cfg} {core : Int} {m : Msg} {k : CaS} (hc : checkB c = true) (hli : I64 m.line) :
    FnF Tryz.prog 79 [.pointer (some ⟨b, 0, none⟩), mv m] (CaO b a f e c core k) F
      (fun r L' => r = .tuple [anv .zero false, .int .i64 (err7 (dataE k.mis m.line m.acks m.own))].toArray ∧ L' = CaO b a f e c core (caDataK c k m)) := by
  have hD := fun F => msh_Data (F := F) (b := f) (room := c.mshrs) (l := k.mis) (line := m.line) (acks := m.acks) (own := m.own) (w := m.words)
  have hF := fun F => ca_filledO (F := F) (b := b) (a := a) (f := f) (e := e) (core := core) (er := dataE k.mis m.line m.acks m.own) (k := ⟨k.ways, dataL k.mis m.line m.acks m.own m.words, k.buf⟩) hc hli
  have e1 : caDataK c k m = if dataE k.mis m.line m.acks m.own = 0 then caFill c ⟨k.ways, dataL k.mis m.line m.acks m.own m.words, k.buf⟩ m.line else ⟨k.ways, dataL k.mis m.line m.acks m.own m.words, k.buf⟩ := by
    unfold caDataK
    by_cases h : dataE k.mis m.line m.acks m.own = 0
    · rw [if_pos h, if_pos h]
    · have : dataL k.mis m.line m.acks m.own m.words = k.mis := if_neg h
      rw [if_neg h, if_neg h, this]
  rw [e1]
  refine FnF.mk' Tryz.func79 rfl rfl Tryz.ntmps79 rfl ?_
  repeat' (first | rintro _ _ ⟨rfl, rfl⟩ | refine exq fun _ => ?_ | intro _ | refine go ?_ | refine dr_Ca4_79s ?_ | refine drq ?_ | refine cal @hD ?_ | refine cal @hF ?_ | refine spl ?_ ?_ | fail)
  all_goals exact fin0
theorem dr_Ca4_80s {Q P : Prop} (k : Q) (h : Hid Q → P := by
  intro k
  first
  | (refine is_draw ?_; apply WC_mix (id := 4) .true _ (pl := .p 0 <| .p 1 <| .p 3 <| .p 4 <| .p 5 <| .p 7 <| .p 9 <| .r 6 <| .r 8 <| .r 10 <| .e true [(2, .e true [(11, .e false [(12, .p 13 <| .p 14 <| .e false [(15, .p 16 <| .done)])])]), (11, .e false [(2, .e false [(12, .p 13 <| .p 14 <| .e false [(15, .p 16 <| .done)])])])]); exact mixed; kernel_rfl; kernel_rfl; exact Ent.refl; exact k.out)) : P := h ⟨k⟩
theorem ca_grantO {F : List HP} {b a f e : Nat} {c : Cfg} {core : Int} {m : Msg} {k : CaS} (hc : checkB c = true) (hli : I64 m.line) :
    FnF Tryz.prog 80 [.pointer (some ⟨b, 0, none⟩), mv m] (CaO b a f e c core k) F
      (fun r L' => r = .tuple [anv .zero false, .int .i64 (caGrE c k m)].toArray ∧ L' = CaO b a f e c core (caGrK c k m)) := by
  have hLook := fun F => ca_LookO (F := F) (b := b) (a := a) (f := f) (e := e) (core := core) (k := k) hc hli
  have hD := fun F => msh_Grant (F := F) (b := f) (room := c.mshrs) (l := k.mis) (line := m.line) (acks := m.acks)
  have hF := fun F => ca_filledO (F := F) (b := b) (a := a) (f := f) (e := e) (core := core) (er := dataE k.mis m.line m.acks 4) (k := ⟨k.ways, grantL k.mis m.line m.acks, k.buf⟩) hc hli
  by_cases h3 : (findW c k.ways m.line).st = 3
  · have e0 : caGrE c k m = err7 (dataE k.mis m.line m.acks 4) := if_pos h3
    have e1 : caGrK c k m = if dataE k.mis m.line m.acks 4 = 0 then caFill c ⟨k.ways, grantL k.mis m.line m.acks, k.buf⟩ m.line else ⟨k.ways, grantL k.mis m.line m.acks, k.buf⟩ := by
      unfold caGrK
      rw [e0]
      by_cases h : dataE k.mis m.line m.acks 4 = 0
      · rw [if_pos h, h]; rfl
      · have : grantL k.mis m.line m.acks = k.mis := if_neg h
        rw [if_neg h, this, if_neg (by unfold err7; rw [if_neg h]; decide)]
    rw [e0, e1]
    refine FnF.mk' Tryz.func80 rfl rfl Tryz.ntmps80 rfl ?_
    repeat' (first | rintro _ _ ⟨rfl, rfl⟩ | refine exq fun _ => ?_ | intro _ | refine go ?_ | refine dr_Ca4_80s ?_ | refine drq ?_ | refine cal @hLook ?_ | refine cal @hD ?_ | refine cal @hF ?_ | refine spl ?_ ?_ | fail)
    all_goals exact fin0
  · have e0 : caGrE c k m = 7 := if_neg h3
    have e1 : caGrK c k m = k := by unfold caGrK; rw [e0]; rfl
    rw [e0, e1]
    refine FnF.mk' Tryz.func80 rfl rfl Tryz.ntmps80 rfl ?_
    repeat' (first | rintro _ _ ⟨rfl, rfl⟩ | refine exq fun _ => ?_ | intro _ | refine go ?_ | refine dr_Ca4_80s ?_ | refine drq ?_ | refine cal @hLook ?_ | refine spl ?_ ?_ | fail)
    all_goals exact fin0
theorem dr_Ca4_81s {Q P : Prop} (k : Q) (h : Hid Q → P := by
  intro k
  first
  | (refine is_draw ?_; apply WC_mix (id := 1) .true _ (pl := .p 0 <| .p 1 <| .p 3 <| .p 4 <| .p 5 <| .p 7 <| .r 6 <| .r 8 <| .e true [(2, .e true [(9, .e false [(10, .p 11 <| .p 12 <| .e false [(13, .p 14 <| .done)])])]), (9, .e false [(2, .e false [(10, .p 11 <| .p 12 <| .e false [(13, .p 14 <| .done)])])])]); exact mixed; kernel_rfl; kernel_rfl; exact Ent.refl; exact k.out)) : P := h ⟨k⟩
theorem ca_ackO {F : List HP} {b a f e : Nat} {c : Cfg} {core : Int} {m : Msg} {k : CaS} (hc : checkB c = true) (hli : I64 m.line) (hg : ∀ m ∈ k.mis, -9223372036854775808 ≤ m.got ∧ m.got ≤ 9223372036854775806) :
    FnF Tryz.prog 81 [.pointer (some ⟨b, 0, none⟩), mv m] (CaO b a f e c core k) F
      (fun r L' => r = .tuple [anv .zero false, .int .i64 (err7 (ackE k.mis m.line))].toArray ∧ L' = CaO b a f e c core (caAckK c k m)) := by
  have hD := fun F => msh_Ack (F := F) (b := f) (room := c.mshrs) (l := k.mis) (line := m.line) hg
  have hF := fun F => ca_filledO (F := F) (b := b) (a := a) (f := f) (e := e) (core := core) (er := ackE k.mis m.line) (k := ⟨k.ways, ackL k.mis m.line, k.buf⟩) hc hli
  have e1 : caAckK c k m = if ackE k.mis m.line = 0 then caFill c ⟨k.ways, ackL k.mis m.line, k.buf⟩ m.line else ⟨k.ways, ackL k.mis m.line, k.buf⟩ := by
    unfold caAckK
    by_cases h : ackE k.mis m.line = 0
    · rw [if_pos h, if_pos h]
    · have : ackL k.mis m.line = k.mis := if_neg h
      rw [if_neg h, if_neg h, this]
  rw [e1]
  refine FnF.mk' Tryz.func81 rfl rfl Tryz.ntmps81 rfl ?_
  repeat' (first | rintro _ _ ⟨rfl, rfl⟩ | refine exq fun _ => ?_ | intro _ | refine go ?_ | refine dr_Ca4_81s ?_ | refine drq ?_ | refine cal @hD ?_ | refine cal @hF ?_ | refine spl ?_ ?_ | fail)
  all_goals exact fin0
theorem dr_Ca4_75 {Q P : Prop} (k : Q) (h : Hid Q → P := by
  intro k
  first
  | (refine is_draw ?_; apply WC_mix (id := 1) .true _ (pl := .p 0 <| .p 1 <| .p 2 <| .p 4 <| .r 3 <| .r 5 <| .e true [(6, .p 7 <| .done)]); exact mixed; kernel_rfl; kernel_rfl; exact Ent.refl; exact k.out)) : P := h ⟨k⟩
theorem ca_putAckO {F : List HP} {b a f e : Nat} {c : Cfg} {core : Int} {m : Msg} {k : CaS} (hc : checkB c = true) :
    FnF Tryz.prog 75 [.pointer (some ⟨b, 0, none⟩), mv m] (CaO b a f e c core k) F
      (fun r L' => r = .tuple [anv .zero false, .int .i64 (err7 (wbDropE k.buf m.line))].toArray ∧ L' = CaO b a f e c core (caPaK k m.line)) := by
  have hD := fun F => wb_Drop (F := F) (b := e) (room := c.writebacks) (l := k.buf) (line := m.line)
  unfold caPaK
  by_cases h : wbDropE k.buf m.line = 0
  · have e0 : err7 (wbDropE k.buf m.line) = 0 := if_pos h
    rw [e0]
    simp only [h] at hD
    refine FnF.mk' Tryz.func75 rfl rfl Tryz.ntmps75 rfl ?_
    repeat' (first | rintro _ _ ⟨rfl, rfl⟩ | refine exq fun _ => ?_ | intro _ | refine go ?_ | refine dr_Ca4_75 ?_ | refine drq ?_ | refine cal @hD ?_ | refine spl ?_ ?_ | fail)
    all_goals exact fin0
  · have e0 : err7 (wbDropE k.buf m.line) = 7 := if_neg h
    rw [e0]
    refine FnF.mk' Tryz.func75 rfl rfl Tryz.ntmps75 rfl ?_
    repeat' (first | rintro _ _ ⟨rfl, rfl⟩ | refine exq fun _ => ?_ | intro _ | refine go ?_ | refine dr_Ca4_75 ?_ | refine drq ?_ | refine cal @hD ?_ | refine spl ?_ ?_ | fail)
    all_goals exact fin0
end Go.Sx

/- What caches do: a message is taken. The program's. My own work. -/
namespace Go.Sx
open Go Go.Proofs
set_option linter.unusedVariables false
set_option linter.unusedSectionVars false
set_option linter.unusedSimpArgs false
set_option maxRecDepth 100000
set_option maxHeartbeats 4000000
attribute [local irreducible] Go.Exit.then Go.Exit.inBlock Go.Code.wp WC WO WE WQ V LoopQ FnQ Sat Star band bor IntKind.wrap WR Code.rounds WT KO
theorem dr_Ca5_24 {Q P : Prop} (k : Q) (h : Hid Q → P := by
  intro k
  first
  | (refine is_draw ?_; apply WC_mix (id := 18) .true _ (pl := .p 0 <| .p 2 <| .p 4 <| .r 1 <| .e true [(3, .e true [(5, .p 6 <| .p 7 <| .done)]), (5, .e false [(3, .p 6 <| .p 7 <| .done)])]); exact mixed; kernel_rfl; kernel_rfl; exact Ent.refl; exact k.out)) : P := h ⟨k⟩
theorem ca_TakeO {F : List HP} {b a f e : Nat} {c : Cfg} {core : Int} {m : Msg} {k : CaS} (hc : checkB c = true) (hg : ∀ m ∈ k.mis, -9223372036854775808 ≤ m.got ∧ m.got ≤ 9223372036854775806) :
    FnF Tryz.prog 24 [.pointer (some ⟨b, 0, none⟩), mv m] (CaO b a f e c core k) F
      (fun r L' => r = .tuple [mv (caTakeM c core k m), .bool (caTakeB c core k m), .int .i64 (caTakeE c core k m)].toArray ∧ L' = CaO b a f e c core (caTakeK c core k m)) := by
  have hMay := fun F => msg_May (F := F) (m := m) (cfg_wf hc)
  by_cases h : caTakeOk c core m = true
  · have h' := h
    simp only [caTakeOk, Bool.and_eq_true, decide_eq_true_eq, Bool.not_eq_true', decide_eq_false_iff_not] at h'
    obtain ⟨⟨h1, h2⟩, h3⟩ := h'
    have hli : I64 m.line := okLine_i64 (may_line h1)
    have hk := h1.2.1
    have hkk : m.kind = 4 ∨ m.kind = 5 ∨ m.kind = 6 ∨ m.kind = 7 ∨ m.kind = 8 ∨ m.kind = 9 ∨ m.kind = 10 := by
      unfold HomeP at h2; omega
    simp only [decide_eq_true h1] at hMay
    have hHome := fun F => msg_Home (F := F) (k := m.kind)
    simp only [decide_eq_false h2] at hHome
    have hS := fun F => ca_fwdSO (F := F) (b := b) (a := a) (f := f) (e := e) (core := core) (m := m) (k := k) hc hli
    have hM := fun F => ca_fwdMO (F := F) (b := b) (a := a) (f := f) (e := e) (core := core) (m := m) (k := k) hc hli
    have hI := fun F => ca_invO (F := F) (b := b) (a := a) (f := f) (e := e) (core := core) (m := m) (k := k) hc hli
    have hD := fun F => ca_dataO (F := F) (b := b) (a := a) (f := f) (e := e) (core := core) (m := m) (k := k) hc hli
    have hG := fun F => ca_grantO (F := F) (b := b) (a := a) (f := f) (e := e) (core := core) (m := m) (k := k) hc hli
    have hA := fun F => ca_ackO (F := F) (b := b) (a := a) (f := f) (e := e) (core := core) (m := m) (k := k) hc hli hg
    have hP := fun F => ca_putAckO (F := F) (b := b) (a := a) (f := f) (e := e) (c := c) (core := core) (m := m) (k := k) hc
    unfold caTakeM caTakeB caTakeE caTakeK
    rcases hkk with g | g | g | g | g | g | g <;> simp only [h, g, if_true, Int.reduceEq, if_false, or_true, or_false, Int.reduceLE, and_true, and_false, decide_false, true_or, false_or]
    · refine FnF.mk' Tryz.func24 rfl rfl Tryz.ntmps24 rfl ?_
      repeat' (first | rintro _ _ ⟨rfl, rfl⟩ | refine exq fun _ => ?_ | intro _ | refine go ?_ | refine dr_Ca5_24 ?_ | refine drq ?_ | refine cal @hMay ?_ | refine cal @hHome ?_ | refine cal @hS ?_ | refine spl ?_ ?_ | fail)
      all_goals exact fin0
    · refine FnF.mk' Tryz.func24 rfl rfl Tryz.ntmps24 rfl ?_
      repeat' (first | rintro _ _ ⟨rfl, rfl⟩ | refine exq fun _ => ?_ | intro _ | refine go ?_ | refine dr_Ca5_24 ?_ | refine drq ?_ | refine cal @hMay ?_ | refine cal @hHome ?_ | refine cal @hM ?_ | refine spl ?_ ?_ | fail)
      all_goals exact fin0
    · refine FnF.mk' Tryz.func24 rfl rfl Tryz.ntmps24 rfl ?_
      repeat' (first | rintro _ _ ⟨rfl, rfl⟩ | refine exq fun _ => ?_ | intro _ | refine go ?_ | refine dr_Ca5_24 ?_ | refine drq ?_ | refine cal @hMay ?_ | refine cal @hHome ?_ | refine cal @hI ?_ | refine spl ?_ ?_ | fail)
      all_goals exact fin0
    · refine FnF.mk' Tryz.func24 rfl rfl Tryz.ntmps24 rfl ?_
      repeat' (first | rintro _ _ ⟨rfl, rfl⟩ | refine exq fun _ => ?_ | intro _ | refine go ?_ | refine dr_Ca5_24 ?_ | refine drq ?_ | refine cal @hMay ?_ | refine cal @hHome ?_ | refine cal @hD ?_ | refine spl ?_ ?_ | fail)
      all_goals exact fin0
    · refine FnF.mk' Tryz.func24 rfl rfl Tryz.ntmps24 rfl ?_
      repeat' (first | rintro _ _ ⟨rfl, rfl⟩ | refine exq fun _ => ?_ | intro _ | refine go ?_ | refine dr_Ca5_24 ?_ | refine drq ?_ | refine cal @hMay ?_ | refine cal @hHome ?_ | refine cal @hG ?_ | refine spl ?_ ?_ | fail)
      all_goals exact fin0
    · refine FnF.mk' Tryz.func24 rfl rfl Tryz.ntmps24 rfl ?_
      repeat' (first | rintro _ _ ⟨rfl, rfl⟩ | refine exq fun _ => ?_ | intro _ | refine go ?_ | refine dr_Ca5_24 ?_ | refine drq ?_ | refine cal @hMay ?_ | refine cal @hHome ?_ | refine cal @hA ?_ | refine spl ?_ ?_ | fail)
      all_goals exact fin0
    · refine FnF.mk' Tryz.func24 rfl rfl Tryz.ntmps24 rfl ?_
      repeat' (first | rintro _ _ ⟨rfl, rfl⟩ | refine exq fun _ => ?_ | intro _ | refine go ?_ | refine dr_Ca5_24 ?_ | refine drq ?_ | refine cal @hMay ?_ | refine cal @hHome ?_ | refine cal @hP ?_ | refine spl ?_ ?_ | fail)
      all_goals exact fin0
  · have e1 : caTakeE c core k m = 1 := if_neg h
    have e2 : caTakeB c core k m = false := by unfold caTakeB; rw [e1]; simp
    have e3 : caTakeM c core k m = .zero := if_neg h
    have e4 : caTakeK c core k m = k := if_neg h
    rw [e1, e2, e3, e4]
    by_cases h1 : MayP c m
    · simp only [decide_eq_true h1] at hMay
      by_cases h2 : HomeP m.kind
      · have hHome := fun F => msg_Home (F := F) (k := m.kind)
        simp only [decide_eq_true h2] at hHome
        refine FnF.mk' Tryz.func24 rfl rfl Tryz.ntmps24 rfl ?_
        repeat' (first | rintro _ _ ⟨rfl, rfl⟩ | refine exq fun _ => ?_ | intro _ | refine go ?_ | refine dr_Ca5_24 ?_ | refine drq ?_ | refine cal @hMay ?_ | refine cal @hHome ?_ | refine spl ?_ ?_ | fail)
        all_goals exact fin0
      · have hHome := fun F => msg_Home (F := F) (k := m.kind)
        simp only [decide_eq_false h2] at hHome
        have h3 : ¬ m.dst = core := fun h3 => h (by simp [caTakeOk, h1, h2, h3])
        refine FnF.mk' Tryz.func24 rfl rfl Tryz.ntmps24 rfl ?_
        repeat' (first | rintro _ _ ⟨rfl, rfl⟩ | refine exq fun _ => ?_ | intro _ | refine go ?_ | refine dr_Ca5_24 ?_ | refine drq ?_ | refine cal @hMay ?_ | refine cal @hHome ?_ | refine spl ?_ ?_ | fail)
        all_goals exact fin0
    · simp only [decide_eq_false h1] at hMay
      refine FnF.mk' Tryz.func24 rfl rfl Tryz.ntmps24 rfl ?_
      repeat' (first | rintro _ _ ⟨rfl, rfl⟩ | refine exq fun _ => ?_ | intro _ | refine go ?_ | refine dr_Ca5_24 ?_ | refine drq ?_ | refine cal @hMay ?_ | refine spl ?_ ?_ | fail)
      all_goals exact fin0
theorem ca_Take {F : List HP} {b : Nat} {c : Cfg} {core : Int} {m : Msg} {k : CaS} (hg : ∀ m ∈ k.mis, -9223372036854775808 ≤ m.got ∧ m.got ≤ 9223372036854775806) :
    FnF Tryz.prog 24 [.pointer (some ⟨b, 0, none⟩), mv m] [CaP b c core k] F
      (fun r L' => r = .tuple [mv (caTakeM c core k m), .bool (caTakeB c core k m), .int .i64 (caTakeE c core k m)].toArray ∧ L' = [CaP b c core (caTakeK c core k m)]) :=
  ca_close (fun a f e hf => ca_TakeO hf.1 hg) (enters_of Tryz.func24 rfl rfl)
end Go.Sx
