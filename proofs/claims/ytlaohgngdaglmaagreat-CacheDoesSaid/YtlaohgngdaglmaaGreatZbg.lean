/- CaR, CaR3: several of my texts as one. My own work. -/
import Derived.Test.YtlaohgngdaglmaaGreatZal
import Derived.Test.YtlaohgngdaglmaaGreatZbb
import Derived.Test.YtlaohgngdaglmaaGreatZbf
import Derived.Test.YtlaohgngdaglmaaGreatZaq
/- The document's caches. My own work. -/
namespace Go.Sx
open Go Go.Proofs
set_option linter.unusedVariables false
set_option linter.unusedSectionVars false
set_option linter.unusedSimpArgs false
set_option maxRecDepth 100000
set_option maxHeartbeats 4000000
attribute [local irreducible] Go.Exit.then Go.Exit.inBlock Go.Code.wp WC WO WE WQ V LoopQ FnQ Sat Star band bor IntKind.wrap WR Code.rounds WT KO
abbrev CaRO (b a f e : Nat) (c : Cfg) (core : Int) (k : CaS) : List HP := [Cells b 60 (c.cells ++ [.int .i64 core, .pointer (some ⟨a, 0, none⟩), .pointer (some ⟨f, 0, none⟩), .pointer (some ⟨e, 0, none⟩)]), ArrRP a c k.ways, MshR f c.mshrs k.mis, RWb e c.writebacks k.buf]
abbrev CaR (b : Nat) (c : Cfg) (core : Int) (k : CaS) : HP := CaG 60 (fun a => ArrRP a c k.ways) (fun f => MshR f c.mshrs k.mis) (fun e => RWb e c.writebacks k.buf) b c core
theorem ref14_New {F : List HP} {c : Cfg} {core : Int} (hw : c.wf) (h : checkB c = true ∧ 0 ≤ core ∧ core < c.cores) :
    FnF Tryz.prog 12 [c.val, .int .i64 core] [] F (fun r L' => ∃ b, r = .tuple [.pointer (some ⟨b, 0, none⟩), .int .i64 0].toArray ∧ L' = [CaR b c core ⟨List.replicate (c.sets * c.ways).toNat .zero, [], []⟩]) := by
  obtain ⟨hc, h0, h1⟩ := h
  have hr := cfg_rooms hc
  have hC := fun F => ref01_Check (F := F) hw
  simp only [checkE, hc, if_true] at hC
  have hA := fun F => ref09_New (F := F) hw hc
  have hM := fun F => ref10_New (F := F) (room := c.mshrs) hr.1
  have hB := fun F => ref11_New (F := F) (room := c.writebacks) hr.2.2.1
  refine FnF.mk' Tryz.func12 rfl rfl Tryz.ntmps12 rfl ?_
  repeat (first | rintro _ _ ⟨rfl, rfl⟩ | refine exq fun _ => ?_ | intro _ | refine go ?_ | refine drq ?_ | refine cal @hC ?_ | refine cal @hA ?_ | refine cal @hM ?_ | refine cal @hB ?_)
  rename_i b0 a f e b1
  (apply WE_ret rfl rfl (by (repeat (first | exact ResOk.nil | (apply ResOk.tmp; rfl) | (apply resOk_cell; rfl; exact inferInstance; rfl; rfl)))))
  · exact ⟨_, rfl, rfl⟩
  · refine ca_in (a := a) (f := f) (e := e) ?_ ⟨hc, h0, h1⟩
    change Ent (Cells _ _ (c.cells ++ [.int .i64 core, .pointer (some ⟨a, 0, none⟩), .pointer (some ⟨f, 0, none⟩), .pointer (some ⟨e, 0, none⟩)]) :: _) _
    exact entu0
theorem ref14_New_no {F : List HP} {c : Cfg} {core : Int} (hw : c.wf) (h : ¬ (checkB c = true ∧ 0 ≤ core ∧ core < c.cores)) :
    FnF Tryz.prog 12 [c.val, .int .i64 core] [] F (fun r L' => r = .tuple [.pointer none, .int .i64 1].toArray ∧ L' = []) := by
  have hC := fun F => ref01_Check (F := F) hw
  cases hc : checkB c with
  | false =>
    simp only [checkE, hc, Bool.false_eq_true, if_false] at hC
    refine FnF.mk' Tryz.func12 rfl rfl Tryz.ntmps12 rfl ?_
    repeat (first | rintro _ _ ⟨rfl, rfl⟩ | refine exq fun _ => ?_ | intro _ | refine go ?_ | refine drq ?_ | refine cal @hC ?_)
    exact fin0
  | true =>
    simp only [checkE, hc, if_true] at hC
    refine FnF.mk' Tryz.func12 rfl rfl Tryz.ntmps12 rfl ?_
    by_cases h0 : core < 0
    · repeat (first | rintro _ _ ⟨rfl, rfl⟩ | refine exq fun _ => ?_ | intro _ | refine go ?_ | refine drq ?_ | refine cal @hC ?_)
      exact fin0
    · have h1 : core ≥ c.cores := Int.not_lt.1 fun h2 => h ⟨hc, by omega, h2⟩
      repeat (first | rintro _ _ ⟨rfl, rfl⟩ | refine exq fun _ => ?_ | intro _ | refine go ?_ | refine drq ?_ | refine cal @hC ?_)
      exact fin0
theorem ref14_StateO {F : List HP} {b a f e : Nat} {c : Cfg} {core line : Int} {k : CaS} :
    FnF Tryz.prog 133 [.pointer (some ⟨b, 0, none⟩), .int .i64 line] (CaRO b a f e c core k) F (fun r L' => r = .int .i64 (findW c k.ways line).st ∧ L' = CaRO b a f e c core k) := by
  have hA := fun F => ref09_Find (F := F) (b := a) (c := c) (l := k.ways) (line := line)
  refine FnF.mk' Tryz.func133 rfl rfl Tryz.ntmps133 rfl ?_
  repeat (first | rintro _ _ ⟨rfl, rfl⟩ | refine exq fun _ => ?_ | intro _ | refine go ?_ | refine drq ?_ | refine cal @hA ?_)
  exact fin0
theorem ref14_CanO {F : List HP} {b a f e : Nat} {c : Cfg} {core line kind : Int} {k : CaS} (hk : kind = 1 ∨ kind = 2) :
    FnF Tryz.prog 124 [.pointer (some ⟨b, 0, none⟩), .int .i64 line, .int .i64 kind] (CaRO b a f e c core k) F (fun r L' => r = .bool (caCan c k line kind) ∧ L' = CaRO b a f e c core k) := by
  have hA := fun F => ref14_StateO (F := F) (b := b) (a := a) (f := f) (e := e) (c := c) (core := core) (k := k) (line := line)
  rw [can_ref hk]
  refine FnF.mk' Tryz.func124 rfl rfl Tryz.ntmps124 rfl ?_
  rcases hk with h | h
  · by_cases h2 : (findW c k.ways line).st = 0
    · repeat (first | rintro _ _ ⟨rfl, rfl⟩ | refine exq fun _ => ?_ | intro _ | refine go ?_ | refine drq ?_ | refine cal @hA ?_)
      (apply WE_ret rfl rfl (by (repeat (first | exact ResOk.nil | (apply ResOk.tmp; rfl) | (apply resOk_cell; rfl; exact inferInstance; rfl; rfl)))))
      · exact ⟨by simp [h, h2], rfl⟩
      · exact entu0
    · repeat (first | rintro _ _ ⟨rfl, rfl⟩ | refine exq fun _ => ?_ | intro _ | refine go ?_ | refine drq ?_ | refine cal @hA ?_)
      (apply WE_ret rfl rfl (by (repeat (first | exact ResOk.nil | (apply ResOk.tmp; rfl) | (apply resOk_cell; rfl; exact inferInstance; rfl; rfl)))))
      · exact ⟨by simp [h, h2], rfl⟩
      · exact entu0
  · by_cases h2 : (findW c k.ways line).st = 2
    · repeat (first | rintro _ _ ⟨rfl, rfl⟩ | refine exq fun _ => ?_ | intro _ | refine go ?_ | refine drq ?_ | refine cal @hA ?_)
      (apply WE_ret rfl rfl (by (repeat (first | exact ResOk.nil | (apply ResOk.tmp; rfl) | (apply resOk_cell; rfl; exact inferInstance; rfl; rfl)))))
      · exact ⟨by simp [h, h2], rfl⟩
      · exact entu0
    · repeat (first | rintro _ _ ⟨rfl, rfl⟩ | refine exq fun _ => ?_ | intro _ | refine go ?_ | refine drq ?_ | refine cal @hA ?_)
      (apply WE_ret rfl rfl (by (repeat (first | exact ResOk.nil | (apply ResOk.tmp; rfl) | (apply resOk_cell; rfl; exact inferInstance; rfl; rfl)))))
      · exact ⟨by simp [h, h2], rfl⟩
      · exact entu0
theorem dr_CaR_57 {Q P : Prop} (k : Q) (h : Hid Q → P := by
  intro k
  first
  | (refine is_draw ?_; apply WC_mix (id := 6) .true _ (pl := .p 0 <| .p 1 <| .p 2 <| .p 3 <| .p 5 <| .p 6 <| .p 7 <| .p 8 <| .p 9 <| .r 4 <| .r 10 <| .p 11 <| .p 12 <| .e true [(13, .p 14 <| .done)]); exact mixed; kernel_rfl; kernel_rfl; exact Ent.refl; exact k.out)) : P := h ⟨k⟩
theorem ref14_FinishO {F : List HP} {b a f e : Nat} {c : Cfg} {core : Int} {k : CaS} (hc : checkB c = true) (hm : ∀ m ∈ k.mis, okLine c m.line = true) :
    FnF Tryz.prog 57 [.pointer (some ⟨b, 0, none⟩)] (CaRO b a f e c core k) F (fun r L' => r = .tuple [mv (caFinM c core k), .bool (caFinB k)].toArray ∧ L' = CaRO b a f e c core (caFinK c k)) := by
  have hOw := fun F => ref10_Owing (F := F) (b := f) (room := c.mshrs) (l := k.mis)
  by_cases h : 0 ≤ owingP k.mis
  · obtain ⟨i, hi, e0, _⟩ := indexBy_nat h
    have e0' : owingP k.mis = i := e0
    have el : caFinL k = k.mis[i].line := by unfold caFinL; rw [if_pos h, e0', Int.toNat_natCast, ← getD_at hi]
    have hok : okLine c (caFinL k) = true := by rw [el]; exact hm _ (List.getElem_mem hi)
    have e1 : caFinB k = true := decide_eq_true h
    have e2 : caFinM c core k = homeMsg c core 11 (caFinL k) .zero := if_pos e1
    have e3 : caFinK c k = ⟨lockL c k.ways (caFinL k) false, closeL k.mis (caFinL k), k.buf⟩ := if_pos e1
    rw [e1, e2, e3]
    change ∀ F, FnF _ _ _ _ F (fun r L' => r = .tuple [.int .i64 (caFinL k), .bool (decide (0 ≤ owingP k.mis))].toArray ∧ L' = _) at hOw
    rw [decide_eq_true h] at hOw
    have hCl := fun F => ref10_Close (F := F) (b := f) (room := c.mshrs) (l := k.mis) (line := caFinL k)
    have hLk := fun F => ref09_Lock (F := F) (b := a) (c := c) (l := k.ways) (line := caFinL k) (lk := false)
    have hh := homes_pos hc
    have ht := ok_tmod hok
    refine FnF.mk' Tryz.func57 rfl rfl Tryz.ntmps57 rfl ?_
    repeat (first | rintro _ _ ⟨rfl, rfl⟩ | refine exq fun _ => ?_ | intro _ | refine go ?_ | refine dr_CaR_57 ?_ | refine drq ?_ | refine cal @hOw ?_ | refine cal @hCl ?_ | refine cal @hLk ?_)
    rw [ht]
    exact fin0
  · have e1 : caFinB k = false := decide_eq_false h
    have e2 : caFinM c core k = .zero := by unfold caFinM; rw [e1]; rfl
    have e3 : caFinK c k = k := by unfold caFinK; rw [e1]; rfl
    rw [e1, e2, e3]
    simp only [decide_eq_false h] at hOw
    refine FnF.mk' Tryz.func57 rfl rfl Tryz.ntmps57 rfl ?_
    repeat (first | rintro _ _ ⟨rfl, rfl⟩ | refine exq fun _ => ?_ | intro _ | refine go ?_ | refine dr_CaR_57 ?_ | refine drq ?_ | refine cal @hOw ?_)
    exact fin0
end Go.Sx

/- The document's caches: evicted. My own work. -/
namespace Go.Sx
open Go Go.Proofs
set_option linter.unusedVariables false
set_option linter.unusedSectionVars false
set_option linter.unusedSimpArgs false
set_option maxRecDepth 100000
set_option maxHeartbeats 4000000
attribute [local irreducible] Go.Exit.then Go.Exit.inBlock Go.Code.wp WC WO WE WQ V LoopQ FnQ Sat Star band bor IntKind.wrap WR Code.rounds WT KO
theorem dr_CaR3_55 {Q P : Prop} (k : Q) (h : Hid Q → P := by
  intro k
  first
  | (refine is_draw ?_; apply WC_mix (id := 4) .true _ (pl := .p 0 <| .p 1 <| .p 2 <| .p 7 <| .p 8 <| .p 9 <| .p 10 <| .p 11 <| .p 14 <| .r 3 <| .p 4 <| .p 5 <| .r 6 <| .r 12 <| .p 13 <| .p 15 <| .p 16 <| .r 17 <| .e true [(18, .e true [(19, .done)])]); exact mixed; kernel_rfl; kernel_rfl; exact Ent.refl; exact k.out)
  | (refine is_draw ?_; apply WC_mix (id := 10) .true _ (pl := .p 0 <| .p 1 <| .p 2 <| .p 4 <| .p 6 <| .r 3 <| .r 5 <| .e true [(7, .done)]); exact mixed; kernel_rfl; kernel_rfl; exact Ent.refl; exact k.out)
  | (refine is_draw ?_; apply WC_mix (id := 14) .true _ (pl := .p 0 <| .p 1 <| .p 2 <| .p 4 <| .p 6 <| .r 3 <| .r 5 <| .r 7 <| .e true [(8, .done)]); exact mixed; kernel_rfl; kernel_rfl; exact Ent.refl; exact k.out)
  | (refine is_draw ?_; apply WC_mix (id := 15) .true _ (pl := .p 0 <| .p 1 <| .p 2 <| .p 4 <| .p 6 <| .r 3 <| .r 5 <| .e true [(7, .done)]); exact mixed; kernel_rfl; kernel_rfl; exact Ent.refl; exact k.out)
  | (refine is_draw ?_; apply WC_mix (id := 16) .true _ (pl := .p 0 <| .p 2 <| .p 3 <| .p 4 <| .p 6 <| .p 8 <| .p 9 <| .p 10 <| .p 11 <| .p 14 <| .r 1 <| .r 5 <| .r 7 <| .r 12 <| .p 13 <| .r 15 <| .p 16 <| .e true [(17, .p 18 <| .p 19 <| .done)]); exact mixed; kernel_rfl; kernel_rfl; exact Ent.refl; exact k.out)) : P := h ⟨k⟩
theorem dr_CaR3_55g {Q P : Prop} (k : Q) (h : Hid Q → P := by
  intro k
  first
  | (refine is_draw ?_; apply WC_mix (id := 12) .true _ (pl := .p 0 <| .p 1 <| .p 2 <| .p 8 <| .p 9 <| .p 10 <| .p 11 <| .r 3 <| .p 4 <| .p 5 <| .r 6 <| .p 7 <| .r 12 <| .p 13 <| .p 14 <| .p 15 <| .p 16 <| .p 17 <| .p 19 <| .r 18 <| .r 20 <| .e true [(21, .p 22 <| .p 23 <| .done)]); exact mixed; kernel_rfl; kernel_rfl; exact Ent.refl; exact k.out)
  | (refine is_draw ?_; apply WC_mix (id := 4) .true _ (pl := .p 0 <| .p 1 <| .p 2 <| .p 7 <| .p 8 <| .p 9 <| .p 10 <| .p 11 <| .p 14 <| .r 3 <| .p 4 <| .p 5 <| .r 6 <| .r 12 <| .p 13 <| .p 15 <| .p 16 <| .r 17 <| .e true [(18, .e true [(19, .done)])]); exact mixed; kernel_rfl; kernel_rfl; exact Ent.refl; exact k.out)
  | (refine is_draw ?_; apply WC_mix (id := 10) .true _ (pl := .p 0 <| .p 1 <| .p 2 <| .p 4 <| .p 6 <| .r 3 <| .r 5 <| .e true [(7, .done)]); exact mixed; kernel_rfl; kernel_rfl; exact Ent.refl; exact k.out)
  | (refine is_draw ?_; apply WC_mix (id := 14) .true _ (pl := .p 0 <| .p 1 <| .p 2 <| .p 4 <| .p 6 <| .r 3 <| .r 5 <| .r 7 <| .e true [(8, .done)]); exact mixed; kernel_rfl; kernel_rfl; exact Ent.refl; exact k.out)
  | (refine is_draw ?_; apply WC_mix (id := 15) .true _ (pl := .p 0 <| .p 1 <| .p 2 <| .p 4 <| .p 6 <| .r 3 <| .r 5 <| .e true [(7, .done)]); exact mixed; kernel_rfl; kernel_rfl; exact Ent.refl; exact k.out)
  | (refine is_draw ?_; apply WC_mix (id := 16) .true _ (pl := .p 0 <| .p 2 <| .p 3 <| .p 4 <| .p 6 <| .p 8 <| .p 9 <| .p 10 <| .p 11 <| .p 14 <| .r 1 <| .r 5 <| .r 7 <| .r 12 <| .p 13 <| .r 15 <| .p 16 <| .e true [(17, .p 18 <| .p 19 <| .done)]); exact mixed; kernel_rfl; kernel_rfl; exact Ent.refl; exact k.out)) : P := h ⟨k⟩
theorem ref14_EvictO {F : List HP} {b a f e : Nat} {c : Cfg} {core s w : Int} {k : CaS} (hc : checkB c = true) (hI : ArrInv c k.ways) (hst : ∀ x ∈ k.ways, 0 ≤ x.st) :
    FnF Tryz.prog 55 [.pointer (some ⟨b, 0, none⟩), .int .i64 s, .int .i64 w] (CaRO b a f e c core k) F
      (fun r L' => r = .tuple [mv (caEvM c core k s w), .bool (caEvB c k s w), .int .i64 (caEvE c k s w)].toArray ∧ L' = CaRO b a f e c core (caEvK c k s w)) := by
  have hno : ∀ x : Int, x ≠ 0 → caEvE c k s w = x → caEvB c k s w = false ∧ caEvM c core k s w = .zero ∧ caEvK c k s w = k := fun x hx h => by
    have h1 : caEvB c k s w = false := by unfold caEvB; rw [h]; simp [hx]
    refine ⟨h1, ?_, ?_⟩
    · unfold caEvM; rw [h1]; rfl
    · unfold caEvK; rw [if_neg (by omega)]
  cases h1 : inWay c s w with
  | false =>
    have e1 : caEvE c k s w = 5 := if_pos (.inl h1)
    obtain ⟨e2, e3, e4⟩ := hno _ (by omega) e1
    rw [e1, e2, e3, e4]
    simp only [inWay, decide_eq_false_iff_not] at h1
    refine FnF.mk' Tryz.func55 rfl rfl Tryz.ntmps55 rfl ?_
    by_cases g1 : s < 0
    · repeat (first | rintro _ _ ⟨rfl, rfl⟩ | refine exq fun _ => ?_ | intro _ | refine go ?_ | refine dr_CaR3_55 ?_ | refine drq ?_)
      exact fin0
    · by_cases g2 : s ≥ c.sets
      · repeat (first | rintro _ _ ⟨rfl, rfl⟩ | refine exq fun _ => ?_ | intro _ | refine go ?_ | refine dr_CaR3_55 ?_ | refine drq ?_)
        exact fin0
      · by_cases g3 : w < 0
        · repeat (first | rintro _ _ ⟨rfl, rfl⟩ | refine exq fun _ => ?_ | intro _ | refine go ?_ | refine dr_CaR3_55 ?_ | refine drq ?_)
          exact fin0
        · have g4 : w ≥ c.ways := by omega
          repeat (first | rintro _ _ ⟨rfl, rfl⟩ | refine exq fun _ => ?_ | intro _ | refine go ?_ | refine dr_CaR3_55 ?_ | refine drq ?_)
          exact fin0
  | true =>
    have h1' := h1
    simp only [inWay, decide_eq_true_eq] at h1'
    obtain ⟨q0, q1, q2, q3⟩ := h1'
    have n1 : ¬ s < 0 := by omega
    have n2 : ¬ s ≥ c.sets := by omega
    have n3 : ¬ w < 0 := by omega
    have n4 : ¬ w ≥ c.ways := by omega
    refine FnF.mk' Tryz.func55 rfl rfl Tryz.ntmps55 rfl ?_
    repeat (first | rintro _ _ ⟨rfl, rfl⟩ | refine exq fun _ => ?_ | intro _ | refine go ?_)
    (first | refine WO_front (ArrRP a c k.ways) ?_ | refine WC_front (ArrRP a c k.ways) ?_ | refine WE_front (ArrRP a c k.ways) ?_)
    refine arrr_open fun g hf => ?_
    obtain ⟨_, hn, _⟩ := hf
    obtain ⟨en, h4, h5, h6, h7, h8⟩ := arr_nums hc hn
    have hr := set_room (s := s.toNat) (W := c.ways.toNat) (S := c.sets.toNat) (by omega)
    have hz : s * c.ways = ((s.toNat * c.ways.toNat : Nat) : Int) := by rw [Int.natCast_mul, Int.toNat_of_nonneg q0, Int.toNat_of_nonneg (by omega)]
    have hix : (s * c.ways + w).toNat = s.toNat * c.ways.toNat + w.toNat := by omega
    have hlt : s.toNat * c.ways.toNat + w.toNat < k.ways.length := by omega
    have eW : atW c k.ways s w = k.ways[s.toNat * c.ways.toNat + w.toNat] := by unfold atW; rw [if_pos h1]; exact (getD_at hlt).symm
    haveI kr := rd_arr (g := g) (T := 69) (l := k.ways)
    (first | (refine WO_some (wsl g (0 * 11) k.ways.length k.ways.length) inferInstance (by omega) ?_; intro _) | (refine WC_some (wsl g (0 * 11) k.ways.length k.ways.length) inferInstance (by omega) ?_; intro _))
    repeat (first | rintro _ _ ⟨rfl, rfl⟩ | refine exq fun _ => ?_ | intro _ | refine go ?_ | refine dr_CaR3_55g ?_ | refine drq ?_)
    simp only [hix, ← eW]
    ((first | apply WO_ent (L' := (ArrRP a c k.ways) :: _) | apply WC_ent' (L' := (ArrRP a c k.ways) :: _) | apply WE_ent' (L' := (ArrRP a c k.ways) :: _) | apply WT_ent' (L' := (ArrRP a c k.ways) :: _)); (focus (apply arrr_in; (focus (exact entu0)); all_goals (first | rfl | (with_reducible assumption) | (simp; done) | (simp; omega) | omega | (constructor <;> (simp) <;> omega)))))
    have hs0 : 0 ≤ (atW c k.ways s w).st := by rw [eW]; exact hst _ (List.getElem_mem hlt)
    clear kr
    clear eW
    by_cases h2 : (atW c k.ways s w).st = 0
    · have e1 : caEvE c k s w = 5 := if_pos (.inr h2)
      obtain ⟨e2, e3, e4⟩ := hno _ (by omega) e1
      rw [e1, e2, e3, e4]
      repeat (first | rintro _ _ ⟨rfl, rfl⟩ | refine exq fun _ => ?_ | intro _ | refine go ?_ | refine dr_CaR3_55g ?_ | refine drq ?_)
      exact fin0
    · have hok := atW_ok hI h2
      have hE0 : caEvE c k s w = if (atW c k.ways s w).lk = true then 6 else if 2 ≤ (atW c k.ways s w).st ∧ wbPutE c.writebacks k.buf (atW c k.ways s w).line ≠ 0 then 4 else 0 := if_neg (fun h => h.elim (fun h => by rw [h1] at h; cases h) h2)
      have hSet := fun F => ref09_Set (F := F) (b := a) (c := c) (l := k.ways) (line := (atW c k.ways s w).line) (st := 0) (w := .zero)
      have hPut := fun F => ref11_Put (F := F) (b := e) (room := c.writebacks) (l := k.buf) (line := (atW c k.ways s w).line) (w := (atW c k.ways s w).words)
      have hh := homes_pos hc
      have ht := ok_tmod hok
      generalize ex : atW c k.ways s w = x at *
      cases h3 : x.lk with
      | true =>
        have e1 : caEvE c k s w = 6 := by rw [hE0, if_pos h3]
        obtain ⟨e2, e3, e4⟩ := hno _ (by omega) e1
        rw [e1, e2, e3, e4]
        repeat (first | rintro _ _ ⟨rfl, rfl⟩ | refine exq fun _ => ?_ | intro _ | refine go ?_ | refine dr_CaR3_55g ?_ | refine drq ?_)
        exact fin0
      | false =>
        rw [h3, if_neg Bool.false_ne_true] at hE0
        by_cases h9 : x.st = 1
        · have h8' : ¬ 2 ≤ x.st := by omega
          have e1 : caEvE c k s w = 0 := by rw [hE0, if_neg (fun h => h8' h.1)]
          have e2 : caEvB c k s w = false := decide_eq_false (fun h => h8' (ex ▸ h.2))
          have e3 : caEvM c core k s w = .zero := by unfold caEvM; rw [e2]; rfl
          have e4 : caEvK c k s w = ⟨setL c k.ways x.line 0 .zero, k.mis, k.buf⟩ := by unfold caEvK; rw [if_pos e1, ex, if_neg h8']
          rw [e1, e2, e3, e4]
          repeat' (first | rintro _ _ ⟨rfl, rfl⟩ | refine exq fun _ => ?_ | intro _ | refine go ?_ | refine dr_CaR3_55g ?_ | refine drq ?_ | refine cal @hSet ?_ | refine spl ?_ ?_ | fail)
          all_goals exact fin0
        · have h8' : 2 ≤ x.st := by omega
          repeat (first | rintro _ _ ⟨rfl, rfl⟩ | refine exq fun _ => ?_ | intro _ | refine go ?_)
          (first | refine WO_front (RWb e c.writebacks k.buf) ?_ | refine WC_front (RWb e c.writebacks k.buf) ?_ | refine WE_front (RWb e c.writebacks k.buf) ?_)
          refine RL_open fun p q hl => ?_
          have hPl := fun F => ref11_PlaceO (F := F) (b := e) (room := c.writebacks) (l := k.buf) (line := x.line) (p := p) (c := q) hl
          by_cases h10 : (k.buf.length : Int) ≥ c.writebacks
          · have e0 : wbPutE c.writebacks k.buf x.line ≠ 0 := by
              unfold wbPutE
              split
              · decide
              · rw [if_pos (by omega)]; decide
            have e1 : caEvE c k s w = 4 := by rw [hE0, if_pos ⟨h8', e0⟩]
            obtain ⟨e2, e3, e4⟩ := hno _ (by omega) e1
            rw [e1, e2, e3, e4]
            repeat' (first | rintro _ _ ⟨rfl, rfl⟩ | refine exq fun _ => ?_ | intro _ | refine go ?_ | refine dr_CaR3_55g ?_ | refine drq ?_ | refine cal @hPl ?_ | refine spl ?_ ?_ | fail)
            all_goals ((first | apply WO_ent (L' := (RWb e c.writebacks k.buf) :: _) | apply WC_ent' (L' := (RWb e c.writebacks k.buf) :: _) | apply WE_ent' (L' := (RWb e c.writebacks k.buf) :: _) | apply WT_ent' (L' := (RWb e c.writebacks k.buf) :: _)); (focus (apply RL_in; (focus (exact entu0)); all_goals (first | rfl | (with_reducible assumption) | (simp; done) | (simp; omega) | omega | (constructor <;> (simp) <;> omega)))))
            all_goals exact fin0
          · cases h11 : wbIn k.buf x.line with
            | true =>
              have h12 : 0 ≤ wbPlace k.buf x.line := of_decide_eq_true h11
              have e0 : wbPutE c.writebacks k.buf x.line ≠ 0 := by unfold wbPutE; rw [h11, if_pos rfl]; decide
              have e1 : caEvE c k s w = 4 := by rw [hE0, if_pos ⟨h8', e0⟩]
              obtain ⟨e2, e3, e4⟩ := hno _ (by omega) e1
              rw [e1, e2, e3, e4]
              repeat' (first | rintro _ _ ⟨rfl, rfl⟩ | refine exq fun _ => ?_ | intro _ | refine go ?_ | refine dr_CaR3_55g ?_ | refine drq ?_ | refine cal @hPl ?_ | refine spl ?_ ?_ | fail)
              all_goals ((first | apply WO_ent (L' := (RWb e c.writebacks k.buf) :: _) | apply WC_ent' (L' := (RWb e c.writebacks k.buf) :: _) | apply WE_ent' (L' := (RWb e c.writebacks k.buf) :: _) | apply WT_ent' (L' := (RWb e c.writebacks k.buf) :: _)); (focus (apply RL_in; (focus (exact entu0)); all_goals (first | rfl | (with_reducible assumption) | (simp; done) | (simp; omega) | omega | (constructor <;> (simp) <;> omega)))))
              all_goals exact fin0
            | false =>
              have h12 : ¬ 0 ≤ wbPlace k.buf x.line := of_decide_eq_false h11
              have e0 : wbPutE c.writebacks k.buf x.line = 0 := by unfold wbPutE; rw [h11, if_neg Bool.false_ne_true, if_neg (by omega)]
              have e1 : caEvE c k s w = 0 := by rw [hE0, if_neg (fun h => h.2 e0)]
              have e2 : caEvB c k s w = true := decide_eq_true ⟨e1, ex ▸ h8'⟩
              have e3 : caEvM c core k s w = homeMsg c core 3 x.line x.words := by unfold caEvM; rw [if_pos e2, ex]
              have e4 : caEvK c k s w = ⟨setL c k.ways x.line 0 .zero, k.mis, wbPutL c.writebacks k.buf x.line x.words⟩ := by unfold caEvK; rw [if_pos e1, ex, if_pos h8']
              rw [e1, e2, e3, e4]
              repeat' (first | rintro _ _ ⟨rfl, rfl⟩ | refine exq fun _ => ?_ | intro _ | refine go ?_ | refine dr_CaR3_55g ?_ | refine drq ?_ | refine cal @hPl ?_ | refine spl ?_ ?_ | fail)
              all_goals ((first | apply WO_ent (L' := (RWb e c.writebacks k.buf) :: _) | apply WC_ent' (L' := (RWb e c.writebacks k.buf) :: _) | apply WE_ent' (L' := (RWb e c.writebacks k.buf) :: _) | apply WT_ent' (L' := (RWb e c.writebacks k.buf) :: _)); (focus (apply RL_in; (focus (exact entu0)); all_goals (first | rfl | (with_reducible assumption) | (simp; done) | (simp; omega) | omega | (constructor <;> (simp) <;> omega)))))
              all_goals repeat' (first | rintro _ _ ⟨rfl, rfl⟩ | refine exq fun _ => ?_ | intro _ | refine go ?_ | refine dr_CaR3_55g ?_ | refine drq ?_ | refine cal @hPut ?_ | refine cal @hSet ?_ | refine spl ?_ ?_ | fail)
              all_goals rw [ht]
              all_goals exact fin0
end Go.Sx
