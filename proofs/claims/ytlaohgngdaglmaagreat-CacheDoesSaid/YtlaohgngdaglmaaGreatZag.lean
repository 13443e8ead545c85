/- Arr2, ArrPl, Mem2, ArrHPl, MshR2: several of my texts as one. My own work. -/
import Derived.Test.YtlaohgngdaglmaaGreatZaf
import Derived.Test.YtlaohgngdaglmaaGreatZae
/- What arrays of ways do, second part. The program's. My own work. -/
namespace Go.Sx
open Go Go.Proofs
set_option linter.unusedVariables false
set_option linter.unusedSectionVars false
set_option linter.unusedSimpArgs false
section
variable {P : Program} {N : Nat} {t ty : TypeId} {x y : Operand} {env : Env} {L : List HP}
theorem K_way {n bs f i j T g bb o : Nat} {z u : Value} {l : List Way} {w : Way} {cs : List Value} {C : List Value → List HP} {pos : String} {aft : Array Edge} [hZ : TZ P t n z bs]
    (hx : ev env x = some (.pointer (some ⟨bb, o, none⟩))) (hy : ev env y = some u) (hb : bb = g) (ho : o = (f + i) * 11 + j) (k : CellsAt g L T (flat wyc l) C) (hc : CO u cs) (hn : cs.length = n) (h1 : cs.all one = true)
    (hi : f + i < l.length) (hj : j + n ≤ 11) (e : splice (wyc l[f + i]) j cs = wyc w) :
    KO P N ⟨none, .store t x y, ty, pos, aft, none⟩ env L (Same env (C (flat wyc (l.set (f + i) w)))) := by
  subst hb ho
  have hl : (flat wyc l).length = l.length * 11 := flat_length (enc := wyc) (n := 11) (fun _ => rfl) l
  have hle : (f + i) * 11 + 11 ≤ l.length * 11 := by have := Nat.mul_le_mul_right 11 (show f + i + 1 ≤ l.length by omega); omega
  have h := K_store (P := P) (N := N) (ty := ty) (pos := pos) (aft := aft) (t := t) hx hy k hc.pf hn h1 (by rw [hl, Nat.ble_eq]; omega)
  have es := splice_flatJ (enc := wyc) (n := 11) (fun _ => rfl) l (f + i) hi (j := j) (cs := cs) (x := w) (by omega) e
  rw [es] at h
  exact h
end
theorem arr_rd {g T : Nat} {c : Cfg} {l : List Way} {line : Int} (hc : checkB c = true) (hn : (l.length : Int) = c.sets * c.ways) (h : okLine c line = true) (L : List HP) :
    RdL (Cells g T (flat wyc l) :: L) 11 (wsl g (arrF c line * 11) c.ways.toNat c.ways.toNat) (waysOf c l line).length (flat wyc (waysOf c l line)) := by
  obtain ⟨k1, k2⟩ := ways_len hc hn h
  have kr := rd_ways (g := g) (T := T) (cap := c.ways.toNat) k2
  rw [← waysOf_ok h] at kr
  exact kr L
theorem ways_get {c : Cfg} {l : List Way} {line : Int} {i : Nat} (h : okLine c line = true) (hi : i < (waysOf c l line).length) : ∃ h2 : arrF c line + i < l.length, (waysOf c l line)[i] = l[arrF c line + i] := by
  have hi' := hi
  simp only [waysOf_ok h, List.length_take, List.length_drop] at hi'
  refine ⟨by omega, ?_⟩
  simp only [waysOf_ok h, List.getElem_take, List.getElem_drop]
theorem arrP_ok {c : Cfg} {l : List Way} {line : Int} (h : 0 ≤ arrP c l line) : okLine c line = true := by
  cases e : okLine c line with
  | true => rfl
  | false =>
    exfalso
    unfold arrP at h
    rw [waysOf_no e] at h
    simp [indexBy] at h
theorem arrP_nat {c : Cfg} {l : List Way} {line : Int} (h : 0 ≤ arrP c l line) : ∃ i : Nat, ∃ hi : i < (waysOf c l line).length, arrP c l line = i ∧ pHas line (waysOf c l line)[i] = true ∧ ∀ j (hj : j < (waysOf c l line).length), j < i → pHas line (waysOf c l line)[j] = false := indexBy_nat h
theorem arrP_lt (c : Cfg) (l : List Way) (line : Int) : -1 ≤ arrP c l line ∧ arrP c l line < (waysOf c l line).length := indexBy_lt _ _
theorem zero_flat (n : Nat) : (List.replicate n (wyc .zero)).flatten = flat wyc (List.replicate n .zero) := by
  induction n with
  | zero => rfl
  | succ n ih => simp only [List.replicate_succ, List.flatten_cons, flat, List.flatMap_cons]; rw [ih]
theorem flat_ic_len' (l : List Int) : (flat ic l).length = l.length := by
  have := flat_length (enc := ic) (n := 1) (fun _ => rfl) l
  omega
set_option maxRecDepth 100000
set_option maxHeartbeats 4000000
attribute [local irreducible] Go.Exit.then Go.Exit.inBlock Go.Code.wp WC WO WE WQ V LoopQ FnQ Sat Star band bor IntKind.wrap WR Code.rounds WT KO
theorem dr_Arr2_47 {Q P : Prop} (k : Q) (h : Hid Q → P := by
  intro k
  first
  | (refine is_draw ?_; apply WC_mix (id := 4) .true _ (pl := .p 1 <| .p 3 <| .r 0 <| .r 2 <| .r 4 <| .p 5 <| .e true [(6, .p 7 <| .e true [(8, .p 9 <| .p 10 <| .done)])]); exact mixed; kernel_rfl; kernel_rfl; exact Ent.refl; exact k.out)) : P := h ⟨k⟩
theorem arr_New {F : List HP} {c : Cfg} (hw : c.wf) (hc : checkB c = true) : FnF Tryz.prog 47 [c.val] [] F (fun r L' => ∃ b, r = .tuple [.pointer (some ⟨b, 0, none⟩), .int .i64 0].toArray ∧ L' = [ArrP b c (List.replicate (c.sets * c.ways).toNat .zero)]) := by
  have hC := fun F => shape_Check (F := F) hw
  simp only [checkE, hc, if_true] at hC
  obtain ⟨_, _, ⟨k, hk, e⟩, _, _, h1, h2⟩ := check_facts hc
  have hb := pow_bd hk
  have h3 : 1 ≤ c.sets ∧ c.sets ≤ 64 := by rw [e]; exact ⟨hb.1, by have := hb.2; simpa using this⟩
  have hz : c.sets * c.ways = ((c.sets.toNat * c.ways.toNat : Nat) : Int) := by rw [Int.natCast_mul, Int.toNat_of_nonneg (by omega), Int.toNat_of_nonneg (by omega)]
  have hm : c.sets.toNat * c.ways.toNat ≤ 64 * 8 := Nat.mul_le_mul (by omega) (by omega)
  refine FnF.mk' Tryz.func47 rfl rfl Tryz.ntmps47 rfl ?_
  have h0 : 0 ≤ c.sets * c.ways ∧ c.sets * c.ways ≤ 512 := by omega
  repeat (first | rintro _ _ ⟨rfl, rfl⟩ | refine exq fun _ => ?_ | intro _ | refine go ?_ | refine dr_Arr2_47 ?_ | refine drq ?_ | refine cal @hC ?_)
  apply WT_k; rfl; exact GIn.none; (apply K_makeSliceN; rfl; omega; omega; omega; rfl; omega; rfl); refine fresh_intro ?_; intro g; (refine ⟨by first | exact After.free | exact After.turns rfl | (refine After.still ?_; (repeat (first | exact Ent.refl | exact Ent.nil | apply Ent.pick | apply Ent.drop)); done), ?_⟩)
  repeat (first | rintro _ _ ⟨rfl, rfl⟩ | refine exq fun _ => ?_ | intro _ | refine go ?_ | refine dr_Arr2_47 ?_ | refine drq ?_)
  (apply WE_ret rfl rfl (by (repeat (first | exact ResOk.nil | (apply ResOk.tmp; rfl) | (apply resOk_cell; rfl; exact inferInstance; rfl; rfl)))))
  · exact ⟨_, rfl, rfl⟩
  · refine Ent.trans ?_ (arr_in (g := g) (l := List.replicate (c.sets * c.ways).toNat .zero) (n := (c.sets * c.ways).toNat) (xs := (List.replicate (c.sets * c.ways).toNat (wyc .zero)).flatten) Ent.refl (by simp) (zero_flat _) hc (by simp; omega))
    change Ent (Cells _ _ (c.cells ++ [.slice (some ⟨g, 0, none⟩) (c.sets * c.ways).toNat (c.sets * c.ways).toNat]) :: _) _
    exact entu0
theorem arr_place {F : List HP} {b : Nat} {c : Cfg} {l : List Way} {line : Int} (hw : c.wf) (hli : I64 line) :
    FnF Tryz.prog 142 [.pointer (some ⟨b, 0, none⟩), .int .i64 line] [ArrP b c l] F (fun r L' => r = .int .i64 (arrP c l line) ∧ L' = [ArrP b c l]) := by
  refine ⟨enters_of Tryz.func142 rfl rfl, fun w hs => ?_⟩
  obtain ⟨g, ⟨hc, hn⟩, hx⟩ := arr_sat hs
  refine ((arr_placeO (F := F) (b := b) (g := g) hw hli hc hn).runs w hx).mono ?_
  rintro e w' ⟨v, L', he, ⟨hv, hL⟩, hs'⟩
  subst hL
  exact ⟨v, _, he, ⟨hv, rfl⟩, (arr_in Ent.refl rfl rfl hc hn).sat hs'⟩
theorem arr_Find {F : List HP} {b : Nat} {c : Cfg} {l : List Way} {line : Int} (hw : c.wf) (hli : I64 line) :
    FnF Tryz.prog 59 [.pointer (some ⟨b, 0, none⟩), .int .i64 line] [ArrP b c l] F (fun r L' => r = .tuple [wyv (findW c l line), .int .i64 (findI c l line), .bool (findB c l line)].toArray ∧ L' = [ArrP b c l]) := by
  refine FnF.mk' Tryz.func59 rfl rfl Tryz.ntmps59 rfl ?_
  refine arr_open fun g hf => ?_
  obtain ⟨hc, hn⟩ := hf
  have hP := fun F => arr_placeO (F := F) (b := b) (g := g) hw hli hc hn
  by_cases h : arrP c l line < 0
  · have e1 : findW c l line = .zero := if_pos h
    have e2 : findI c l line = 0 := if_pos h
    have e3 : findB c l line = false := by simp [findB, h]
    rw [e1, e2, e3]
    repeat (first | rintro _ _ ⟨rfl, rfl⟩ | refine exq fun _ => ?_ | intro _ | refine go ?_ | refine drq ?_ | refine cal @hP ?_)
    (apply WE_ret rfl rfl (by (repeat (first | exact ResOk.nil | (apply ResOk.tmp; rfl) | (apply resOk_cell; rfl; exact inferInstance; rfl; rfl)))))
    · exact ⟨rfl, rfl⟩
    · (apply arr_in; (focus (exact entu0)); all_goals (first | rfl | (with_reducible assumption) | (simp; done) | (simp; omega) | omega | (constructor <;> (simp) <;> omega)))
  · have hok := arrP_ok (by omega : 0 ≤ arrP c l line)
    obtain ⟨i, hi, ei, _, _⟩ := arrP_nat (by omega : 0 ≤ arrP c l line)
    have e1 : findW c l line = (waysOf c l line)[i] := by unfold findW; rw [if_neg h, ei, Int.toNat_natCast]; exact (getD_at hi).symm
    have e2 : findI c l line = i := by unfold findI; rw [if_neg h, ei]
    have e3 : findB c l line = true := by simp [findB, h]
    rw [e1, e2, e3]
    rw [ei] at hP
    have hO := fun F => arr_of (F := F) (b := b) (g := g) hw hli hc hn hok
    haveI kr := arr_rd (g := g) (T := 66) hc hn hok
    repeat (first | rintro _ _ ⟨rfl, rfl⟩ | refine exq fun _ => ?_ | intro _ | refine go ?_ | refine drq ?_ | refine cal @hP ?_ | refine cal @hO ?_)
    (apply WE_ret rfl rfl (by (repeat (first | exact ResOk.nil | (apply ResOk.tmp; rfl) | (apply resOk_cell; rfl; exact inferInstance; rfl; rfl)))))
    · exact ⟨rfl, rfl⟩
    · (apply arr_in; (focus (exact entu0)); all_goals (first | rfl | (with_reducible assumption) | (simp; done) | (simp; omega) | omega | (constructor <;> (simp) <;> omega)))
theorem arr_Free {F : List HP} {b : Nat} {c : Cfg} {l : List Way} {line : Int} (hw : c.wf) (hli : I64 line) :
    FnF Tryz.prog 85 [.pointer (some ⟨b, 0, none⟩), .int .i64 line] [ArrP b c l] F (fun r L' => r = .int .i64 (arrFree c l line) ∧ L' = [ArrP b c l]) := by
  refine FnF.mk' Tryz.func85 rfl rfl Tryz.ntmps85 rfl ?_
  refine arr_open fun g hf => ?_
  obtain ⟨hc, hn⟩ := hf
  cases h : okLine c line with
  | true =>
    obtain ⟨k1, k2⟩ := ways_len hc hn h
    have hO := fun F => arr_of (F := F) (b := b) (g := g) hw hli hc hn h
    haveI kr := arr_rd (g := g) (T := 66) hc hn h
    have hb : c.ways.toNat ≤ 512 := by have := (arr_nums hc hn).2.2.2.2.2; omega
    have hI := fun F (k : RdL F 11 (wsl g (arrF c line * 11) c.ways.toNat c.ways.toNat) (waysOf c l line).length (flat wyc (waysOf c l line))) =>
      sl_IndexFunc_way (F := F) (v := wsl g (arrF c line * 11) c.ways.toNat c.ways.toNat) (l := waysOf c l line) (fk := 165) (first := []) (cap := []) (p := fun w => !thereB w) k (by omega) (fun x _ => arr_free1)
    repeat (first | rintro _ _ ⟨rfl, rfl⟩ | refine exq fun _ => ?_ | intro _ | refine go ?_ | refine drq ?_ | refine cal @hO ?_ | refine cal @hI ?_)
    (apply WE_ret rfl rfl (by (repeat (first | exact ResOk.nil | (apply ResOk.tmp; rfl) | (apply resOk_cell; rfl; exact inferInstance; rfl; rfl)))))
    · exact ⟨rfl, rfl⟩
    · (apply arr_in; (focus (exact entu0)); all_goals (first | rfl | (with_reducible assumption) | (simp; done) | (simp; omega) | omega | (constructor <;> (simp) <;> omega)))
  | false =>
    have hO := fun F => arr_of_no (F := F) (b := b) (g := g) (l := l) hw hli h
    have hI := fun F => sl_IndexFunc_way (F := F) (v := .slice none 0 0) (l := []) (fk := 165) (first := []) (cap := []) (p := fun w => !thereB w) rd_empty (by simp) (fun x _ => arr_free1)
    have e1 : arrFree c l line = -1 := by unfold arrFree; rw [waysOf_no h]; rfl
    rw [e1]
    repeat (first | rintro _ _ ⟨rfl, rfl⟩ | refine exq fun _ => ?_ | intro _ | refine go ?_ | refine drq ?_ | refine cal @hO ?_ | refine cal @hI ?_)
    (apply WE_ret rfl rfl (by (repeat (first | exact ResOk.nil | (apply ResOk.tmp; rfl) | (apply resOk_cell; rfl; exact inferInstance; rfl; rfl)))))
    · exact ⟨rfl, rfl⟩
    · (apply arr_in; (focus (exact entu0)); all_goals (first | rfl | (with_reducible assumption) | (simp; done) | (simp; omega) | omega | (constructor <;> (simp) <;> omega)))
theorem arr_At {F : List HP} {b : Nat} {c : Cfg} {l : List Way} {s k : Int} :
    FnF Tryz.prog 69 [.pointer (some ⟨b, 0, none⟩), .int .i64 s, .int .i64 k] [ArrP b c l] F (fun r L' => r = .tuple [wyv (atW c l s k), .bool (inWay c s k)].toArray ∧ L' = [ArrP b c l]) := by
  refine FnF.mk' Tryz.func69 rfl rfl Tryz.ntmps69 rfl ?_
  refine arr_open fun g hf => ?_
  obtain ⟨hc, hn⟩ := hf
  cases h : inWay c s k with
  | true =>
    have h' := h
    simp only [inWay, decide_eq_true_eq] at h'
    obtain ⟨h0, h1, h2, h3⟩ := h'
    obtain ⟨k, rfl⟩ : ∃ j : Nat, k = j := ⟨k.toNat, by omega⟩
    obtain ⟨en, h4, h5, h6, h7, h8⟩ := arr_nums hc hn
    have hr := set_room (s := s.toNat) (W := c.ways.toNat) (S := c.sets.toNat) (by omega)
    have hW := fun F => arr_ways (F := F) (b := b) (g := g) (c := c) (l := l) (s := s) hc hn h0 h1
    have kr := rd_ways (g := g) (T := 66) (l := l) (f := s.toNat * c.ways.toNat) (k := c.ways.toNat) (cap := c.ways.toNat) (by omega)
    have hkl : k < ((l.drop (s.toNat * c.ways.toNat)).take c.ways.toNat).length := by rw [List.length_take, List.length_drop]; omega
    have e1 : atW c l s k = ((l.drop (s.toNat * c.ways.toNat)).take c.ways.toNat)[k] := by
      unfold atW; rw [if_pos h, Int.toNat_natCast, List.getElem_take, List.getElem_drop]
      exact (getD_at (by rw [List.length_take, List.length_drop] at hkl; omega)).symm
    rw [e1]
    generalize (l.drop (s.toNat * c.ways.toNat)).take c.ways.toNat = m at *
    haveI := kr
    repeat (first | rintro _ _ ⟨rfl, rfl⟩ | refine exq fun _ => ?_ | intro _ | refine go ?_ | refine drq ?_ | refine cal @hW ?_)
    (apply WE_ret rfl rfl (by (repeat (first | exact ResOk.nil | (apply ResOk.tmp; rfl) | (apply resOk_cell; rfl; exact inferInstance; rfl; rfl)))))
    · exact ⟨rfl, rfl⟩
    · (apply arr_in; (focus (exact entu0)); all_goals (first | rfl | (with_reducible assumption) | (simp; done) | (simp; omega) | omega | (constructor <;> (simp) <;> omega)))
  | false =>
    have e1 : atW c l s k = .zero := by unfold atW; rw [if_neg (by simp [h])]
    rw [e1]
    simp only [inWay, decide_eq_false_iff_not] at h
    repeat' (first | rintro _ _ ⟨rfl, rfl⟩ | refine exq fun _ => ?_ | intro _ | refine go ?_ | refine drq ?_ | refine spl ?_ ?_ | fail)
    all_goals first | (exfalso; omega) | skip
    all_goals (apply WE_ret rfl rfl (by (repeat (first | exact ResOk.nil | (apply ResOk.tmp; rfl) | (apply resOk_cell; rfl; exact inferInstance; rfl; rfl)))))
    all_goals first | exact ⟨rfl, rfl⟩ | (apply arr_in; (focus (exact entu0)); all_goals (first | rfl | (with_reducible assumption) | (simp; done) | (simp; omega) | omega | (constructor <;> (simp) <;> omega)))
theorem arr_Lay {F : List HP} {b : Nat} {c : Cfg} {l : List Way} {line way : Int} (hw : c.wf) (hli : I64 line) :
    FnF Tryz.prog 88 [.pointer (some ⟨b, 0, none⟩), .int .i64 line, .int .i64 way] [ArrP b c l] F (fun r L' => r = .int .i64 (layE c l line way) ∧ L' = [ArrP b c (layL c l line way)]) := by
  refine FnF.mk' Tryz.func88 rfl rfl Tryz.ntmps88 rfl ?_
  refine arr_open fun g hf => ?_
  obtain ⟨hc, hn⟩ := hf
  have hP := fun F => arr_placeO (F := F) (b := b) (g := g) hw hli hc hn
  cases h : okLine c line with
  | false =>
    have hO := fun F => arr_of_no (F := F) (b := b) (g := g) (l := l) hw hli h
    have e1 : layE c l line way = 1 := by unfold layE; rw [waysOf_no h, if_neg (by simp only [List.length_nil]; omega)]
    have e2 : layL c l line way = l := by unfold layL; rw [e1]; rfl
    rw [e1, e2]
    by_cases h0 : way < 0
    · repeat (first | rintro _ _ ⟨rfl, rfl⟩ | refine exq fun _ => ?_ | intro _ | refine go ?_ | refine drq ?_ | refine cal @hO ?_)
      (apply WE_ret rfl rfl (by (repeat (first | exact ResOk.nil | (apply ResOk.tmp; rfl) | (apply resOk_cell; rfl; exact inferInstance; rfl; rfl)))))
      · exact ⟨rfl, rfl⟩
      · (apply arr_in; (focus (exact entu0)); all_goals (first | rfl | (with_reducible assumption) | (simp; done) | (simp; omega) | omega | (constructor <;> (simp) <;> omega)))
    · repeat (first | rintro _ _ ⟨rfl, rfl⟩ | refine exq fun _ => ?_ | intro _ | refine go ?_ | refine drq ?_ | refine cal @hO ?_)
      (apply WE_ret rfl rfl (by (repeat (first | exact ResOk.nil | (apply ResOk.tmp; rfl) | (apply resOk_cell; rfl; exact inferInstance; rfl; rfl)))))
      · exact ⟨rfl, rfl⟩
      · (apply arr_in; (focus (exact entu0)); all_goals (first | rfl | (with_reducible assumption) | (simp; done) | (simp; omega) | omega | (constructor <;> (simp) <;> omega)))
  | true =>
    have hO := fun F => arr_of (F := F) (b := b) (g := g) hw hli hc hn h
    haveI kr := arr_rd (g := g) (T := 66) hc hn h
    obtain ⟨k1, k2⟩ := ways_len hc hn h
    obtain ⟨_, _, _, _, _, h8⟩ := arr_nums hc hn
    by_cases h0 : 0 ≤ way ∧ way < (waysOf c l line).length
    · obtain ⟨i, rfl⟩ : ∃ j : Nat, way = j := ⟨way.toNat, by omega⟩
      have hi : i < (waysOf c l line).length := by omega
      obtain ⟨hi2, _⟩ := ways_get h hi
      have hg : (waysOf c l line).getD i .zero = (waysOf c l line)[i] := (getD_at hi).symm
      by_cases hp : arrP c l line = -1
      · rw [hp] at hP
        have hT := fun F => arr_there (F := F) (w := (waysOf c l line)[i])
        cases ht : thereB (waysOf c l line)[i] with
        | true =>
          rw [ht] at hT
          have e1 : layE c l line i = 4 := by unfold layE; rw [if_pos h0, if_pos hp, Int.toNat_natCast, hg, ht]; rfl
          have e2 : layL c l line i = l := by unfold layL; rw [e1]; rfl
          rw [e1, e2]
          repeat (first | rintro _ _ ⟨rfl, rfl⟩ | refine exq fun _ => ?_ | intro _ | refine go ?_ | refine drq ?_ | refine cal @hO ?_ | refine cal @hP ?_ | refine cal @hT ?_)
          (apply WE_ret rfl rfl (by (repeat (first | exact ResOk.nil | (apply ResOk.tmp; rfl) | (apply resOk_cell; rfl; exact inferInstance; rfl; rfl)))))
          · exact ⟨rfl, rfl⟩
          · (apply arr_in; (focus (exact entu0)); all_goals (first | rfl | (with_reducible assumption) | (simp; done) | (simp; omega) | omega | (constructor <;> (simp) <;> omega)))
        | false =>
          rw [ht] at hT
          have e1 : layE c l line i = 0 := by unfold layE; rw [if_pos h0, if_pos hp, Int.toNat_natCast, hg, ht]; rfl
          have e2 : layL c l line i = l.set (arrF c line + i) ⟨0, line, .zero, true⟩ := by unfold layL; rw [e1, Int.toNat_natCast]; rfl
          rw [e1, e2]
          repeat (first | rintro _ _ ⟨rfl, rfl⟩ | refine exq fun _ => ?_ | intro _ | refine go ?_ | refine drq ?_ | refine cal @hO ?_ | refine cal @hP ?_ | refine cal @hT ?_)
          apply WO_k; rfl; (refine K_way (f := arrF c line) (i := i) (j := 0) (w := ⟨0, line, .zero, true⟩) (by rfl) (by rfl) (by exact pb_wsl) (by rw [po_wsl, Nat.add_mul] <;> rfl) (by exact inferInstance) (by exact inferInstance) (by rfl) (by rfl) hi2 (by decide) (by rfl)); refine same_intro ?_
          repeat (first | rintro _ _ ⟨rfl, rfl⟩ | refine exq fun _ => ?_ | intro _ | refine go ?_ | refine drq ?_)
          (apply WE_ret rfl rfl (by (repeat (first | exact ResOk.nil | (apply ResOk.tmp; rfl) | (apply resOk_cell; rfl; exact inferInstance; rfl; rfl)))))
          · exact ⟨rfl, rfl⟩
          · (apply arr_in; (focus (exact entu0)); all_goals (first | rfl | (with_reducible assumption) | (simp; done) | (simp; omega) | omega | (constructor <;> (simp) <;> omega)))
      · have e1 : layE c l line i = 6 := by unfold layE; rw [if_pos h0, if_neg hp]
        have e2 : layL c l line i = l := by unfold layL; rw [e1]; rfl
        rw [e1, e2]
        repeat (first | rintro _ _ ⟨rfl, rfl⟩ | refine exq fun _ => ?_ | intro _ | refine go ?_ | refine drq ?_ | refine cal @hO ?_ | refine cal @hP ?_)
        (apply WE_ret rfl rfl (by (repeat (first | exact ResOk.nil | (apply ResOk.tmp; rfl) | (apply resOk_cell; rfl; exact inferInstance; rfl; rfl)))))
        · exact ⟨rfl, rfl⟩
        · (apply arr_in; (focus (exact entu0)); all_goals (first | rfl | (with_reducible assumption) | (simp; done) | (simp; omega) | omega | (constructor <;> (simp) <;> omega)))
    · have e1 : layE c l line way = 1 := if_neg h0
      have e2 : layL c l line way = l := by unfold layL; rw [e1]; rfl
      rw [e1, e2]
      by_cases h0' : way < 0
      · repeat (first | rintro _ _ ⟨rfl, rfl⟩ | refine exq fun _ => ?_ | intro _ | refine go ?_ | refine drq ?_ | refine cal @hO ?_)
        (apply WE_ret rfl rfl (by (repeat (first | exact ResOk.nil | (apply ResOk.tmp; rfl) | (apply resOk_cell; rfl; exact inferInstance; rfl; rfl)))))
        · exact ⟨rfl, rfl⟩
        · (apply arr_in; (focus (exact entu0)); all_goals (first | rfl | (with_reducible assumption) | (simp; done) | (simp; omega) | omega | (constructor <;> (simp) <;> omega)))
      · repeat (first | rintro _ _ ⟨rfl, rfl⟩ | refine exq fun _ => ?_ | intro _ | refine go ?_ | refine drq ?_ | refine cal @hO ?_)
        (apply WE_ret rfl rfl (by (repeat (first | exact ResOk.nil | (apply ResOk.tmp; rfl) | (apply resOk_cell; rfl; exact inferInstance; rfl; rfl)))))
        · exact ⟨rfl, rfl⟩
        · (apply arr_in; (focus (exact entu0)); all_goals (first | rfl | (with_reducible assumption) | (simp; done) | (simp; omega) | omega | (constructor <;> (simp) <;> omega)))
theorem arr_Lock {F : List HP} {b : Nat} {c : Cfg} {l : List Way} {line : Int} {lk : Bool} (hw : c.wf) (hli : I64 line) :
    FnF Tryz.prog 87 [.pointer (some ⟨b, 0, none⟩), .int .i64 line, .bool lk] [ArrP b c l] F (fun r L' => r = .int .i64 (lockE c l line) ∧ L' = [ArrP b c (lockL c l line lk)]) := by
  refine FnF.mk' Tryz.func87 rfl rfl Tryz.ntmps87 rfl ?_
  refine arr_open fun g hf => ?_
  obtain ⟨hc, hn⟩ := hf
  have hP := fun F => arr_placeO (F := F) (b := b) (g := g) hw hli hc hn
  by_cases hp : arrP c l line = -1
  · rw [hp] at hP
    have e1 : lockE c l line = 5 := if_pos hp
    have e2 : lockL c l line lk = l := by unfold lockL; rw [e1]; rfl
    rw [e1, e2]
    repeat (first | rintro _ _ ⟨rfl, rfl⟩ | refine exq fun _ => ?_ | intro _ | refine go ?_ | refine drq ?_ | refine cal @hP ?_)
    (apply WE_ret rfl rfl (by (repeat (first | exact ResOk.nil | (apply ResOk.tmp; rfl) | (apply resOk_cell; rfl; exact inferInstance; rfl; rfl)))))
    · exact ⟨rfl, rfl⟩
    · (apply arr_in; (focus (exact entu0)); all_goals (first | rfl | (with_reducible assumption) | (simp; done) | (simp; omega) | omega | (constructor <;> (simp) <;> omega)))
  · have h0 : 0 ≤ arrP c l line := by have := (arrP_lt c l line).1; omega
    have hok := arrP_ok h0
    obtain ⟨i, hi, ei, _, _⟩ := arrP_nat h0
    obtain ⟨hi2, eg⟩ := ways_get hok hi
    have e1 : lockE c l line = 0 := if_neg hp
    have ew : findW c l line = l[arrF c line + i] := by unfold findW; rw [if_neg (by omega), ei, Int.toNat_natCast, ← eg]; exact (getD_at hi).symm
    have e2 : lockL c l line lk = l.set (arrF c line + i) { l[arrF c line + i] with lk := lk } := by unfold lockL; rw [e1, ei, Int.toNat_natCast, ew]; rfl
    rw [e1, e2]
    rw [ei] at hP
    have hO := fun F => arr_of (F := F) (b := b) (g := g) hw hli hc hn hok
    haveI kr := arr_rd (g := g) (T := 66) hc hn hok
    repeat (first | rintro _ _ ⟨rfl, rfl⟩ | refine exq fun _ => ?_ | intro _ | refine go ?_ | refine drq ?_ | refine cal @hP ?_ | refine cal @hO ?_)
    apply WO_k; rfl; (refine K_way (f := arrF c line) (i := i) (j := 10) (w := { l[arrF c line + i] with lk := lk }) (by rfl) (by rfl) (by exact pb_wsl) (by rw [po_wsl, Nat.add_mul] <;> rfl) (by exact inferInstance) (by exact inferInstance) (by rfl) (by rfl) hi2 (by decide) (by rfl)); refine same_intro ?_
    repeat (first | rintro _ _ ⟨rfl, rfl⟩ | refine exq fun _ => ?_ | intro _ | refine go ?_ | refine drq ?_)
    (apply WE_ret rfl rfl (by (repeat (first | exact ResOk.nil | (apply ResOk.tmp; rfl) | (apply resOk_cell; rfl; exact inferInstance; rfl; rfl)))))
    · exact ⟨rfl, rfl⟩
    · (apply arr_in; (focus (exact entu0)); all_goals (first | rfl | (with_reducible assumption) | (simp; done) | (simp; omega) | omega | (constructor <;> (simp) <;> omega)))
theorem arr_odd1 {F : List HP} {n : Int} : FnF Tryz.prog 199 [.int .i64 n] [] F (fun r L' => r = .bool (!decide (n = 0)) ∧ L' = []) := by
  refine FnF.mk' Tryz.func199 rfl rfl Tryz.ntmps199 rfl ?_
  by_cases h : n = 0
  · repeat (first | rintro _ _ ⟨rfl, rfl⟩ | refine exq fun _ => ?_ | intro _ | refine go ?_ | refine drq ?_)
    (apply WE_ret rfl rfl (by (repeat (first | exact ResOk.nil | (apply ResOk.tmp; rfl) | (apply resOk_cell; rfl; exact inferInstance; rfl; rfl)))); (first | exact ⟨rfl, rfl⟩ | exact ⟨congrArg Value.bool (by decide), rfl⟩ | exact ⟨_, rfl, rfl⟩ | exact ⟨_, _, rfl, rfl⟩ | exact ⟨by first | (simp [h]; done) | (simp [h] <;> omega), rfl⟩); (repeat (first | exact Ent.refl | exact Ent.nil | apply Ent.pick | apply Ent.drop)))
  · repeat (first | rintro _ _ ⟨rfl, rfl⟩ | refine exq fun _ => ?_ | intro _ | refine go ?_ | refine drq ?_)
    (apply WE_ret rfl rfl (by (repeat (first | exact ResOk.nil | (apply ResOk.tmp; rfl) | (apply resOk_cell; rfl; exact inferInstance; rfl; rfl)))); (first | exact ⟨rfl, rfl⟩ | exact ⟨congrArg Value.bool (by decide), rfl⟩ | exact ⟨_, rfl, rfl⟩ | exact ⟨_, _, rfl, rfl⟩ | exact ⟨by first | (simp [h]; done) | (simp [h] <;> omega), rfl⟩); (repeat (first | exact Ent.refl | exact Ent.nil | apply Ent.pick | apply Ent.drop)))
theorem rd_tail {b T : Nat} {w : Words} {k : Nat} {F : List HP} {C : List Value → List HP} (hk : k ≤ 8) (h : CellsAt b F T (wc w) C) : RdL F 1 (cut (.slice (some ⟨b, 0, none⟩) 8 8) k 8 8 1) (w.list.drop k).length (flat ic (w.list.drop k)) := by
  have k0 : RdL F 1 (.slice (some ⟨b, 0, none⟩) 8 8) 8 (wc w) := rd_cells (o := 0) (m := 8) (c := 8) (sz := 1) (b := b) h (by simp) (by rfl)
  have k1 := RdL.cut (l := k) (h := 8) (m := 8) k0 hk (Nat.le_refl _) (Nat.le_refl _)
  have e1 : (w.list.drop k).length = 8 - k := by rw [List.length_drop]; rfl
  have e2 : ((wc w).drop (k * 1)).take ((8 - k) * 1) = flat ic (w.list.drop k) := by
    have h0 : wc w = flat ic w.list := rfl
    rw [h0, Nat.mul_one, Nat.mul_one]
    have := flat_drop (enc := ic) (n := 1) (fun _ => rfl) w.list k
    rw [Nat.mul_one] at this
    rw [this, List.take_of_length_le (by rw [flat_ic_len', e1]; exact Nat.le_refl _)]
  rw [e2] at k1
  rw [e1]; exact k1
theorem arr_odd {F : List HP} {b g : Nat} {c : Cfg} {l : List Way} {w : Words} (hc : checkB c = true) :
    FnF Tryz.prog 147 [.pointer (some ⟨b, 0, none⟩), wv w] [acs b g c l] F (fun r L' => r = .bool (oddW c w) ∧ L' = [acs b g c l]) := by
  obtain ⟨_, _, _, ⟨k, hk, e⟩, _⟩ := check_facts hc
  have hb := pow_bd hk
  have hwd : 1 ≤ c.words ∧ c.words ≤ 8 := by rw [e]; exact ⟨hb.1, by have := hb.2; simpa using this⟩
  have hI := fun F bw C (k : CellsAt bw F 36 (wc w) C) => sl_ContainsFunc_int (F := F) (v := cut (.slice (some ⟨bw, 0, none⟩) 8 8) c.words.toNat 8 8 1) (l := w.list.drop c.words.toNat) (fk := 199) (first := []) (cap := []) (p := fun n => !decide (n = 0)) (rd_tail (by omega) k) (by rw [List.length_drop]; have := Words.list_len w; omega) (fun x _ => arr_odd1)
  refine FnF.mk' Tryz.func147 rfl rfl Tryz.ntmps147 rfl ?_
  repeat (first | rintro _ _ ⟨rfl, rfl⟩ | refine exq fun _ => ?_ | intro _ | refine go ?_ | refine drq ?_ | refine cal @hI ?_)
  (apply WE_ret rfl rfl (by (repeat (first | exact ResOk.nil | (apply ResOk.tmp; rfl) | (apply resOk_cell; rfl; exact inferInstance; rfl; rfl)))); (first | exact ⟨rfl, rfl⟩ | exact ⟨congrArg Value.bool (by decide), rfl⟩ | exact ⟨_, rfl, rfl⟩ | exact ⟨_, _, rfl, rfl⟩ | exact ⟨by first | (simp [oddW]; done) | (simp [oddW] <;> omega), rfl⟩); (repeat (first | exact Ent.refl | exact Ent.nil | apply Ent.pick | apply Ent.drop)))
theorem dr_Arr2_68 {Q P : Prop} (k : Q) (h : Hid Q → P := by
  intro k
  first
  | (refine is_draw ?_; apply WC_mix (id := 9) .true [] (pl := .p 0 <| .p 1 <| .p 2 <| .p 4 <| .p 5 <| .e true [(3, .e true [(6, .p 7 <| .p 8 <| .e false [(9, .done)])]), (6, .e false [(3, .p 7 <| .p 8 <| .e false [(9, .done)])])]); exact mixed; kernel_rfl; kernel_rfl; exact Ent.nil; exact k.out)) : P := h ⟨k⟩
theorem arr_Set {F : List HP} {b : Nat} {c : Cfg} {l : List Way} {line st : Int} {w : Words} (hw : c.wf) (hli : I64 line) :
    FnF Tryz.prog 68 [.pointer (some ⟨b, 0, none⟩), .int .i64 line, .int .i64 st, wv w] [ArrP b c l] F (fun r L' => r = .int .i64 (setE c l line st w) ∧ L' = [ArrP b c (setL c l line st w)]) := by
  refine FnF.mk' Tryz.func68 rfl rfl Tryz.ntmps68 rfl ?_
  refine arr_open fun g hf => ?_
  obtain ⟨hc, hn⟩ := hf
  have hP := fun F => arr_placeO (F := F) (b := b) (g := g) hw hli hc hn
  have hOd := fun F => arr_odd (F := F) (b := b) (g := g) (l := l) (w := w) hc
  by_cases hp : arrP c l line = -1
  · rw [hp] at hP
    have e1 : setE c l line st w = 5 := if_pos hp
    have e2 : setL c l line st w = l := by unfold setL; rw [e1]; rfl
    rw [e1, e2]
    repeat (first | rintro _ _ ⟨rfl, rfl⟩ | refine exq fun _ => ?_ | intro _ | refine go ?_ | refine dr_Arr2_68 ?_ | refine drq ?_ | refine cal @hP ?_)
    (apply WE_ret rfl rfl (by (repeat (first | exact ResOk.nil | (apply ResOk.tmp; rfl) | (apply resOk_cell; rfl; exact inferInstance; rfl; rfl)))))
    · exact ⟨rfl, rfl⟩
    · (apply arr_in; (focus (exact entu0)); all_goals (first | rfl | (with_reducible assumption) | (simp; done) | (simp; omega) | omega | (constructor <;> (simp) <;> omega)))
  · have h0 : 0 ≤ arrP c l line := by have := (arrP_lt c l line).1; omega
    have hok := arrP_ok h0
    obtain ⟨i, hi, ei, _, _⟩ := arrP_nat h0
    obtain ⟨hi2, eg⟩ := ways_get hok hi
    have ew : findW c l line = l[arrF c line + i] := by unfold findW; rw [if_neg (by omega), ei, Int.toNat_natCast, ← eg]; exact (getD_at hi).symm
    rw [ei] at hP
    have hO := fun F => arr_of (F := F) (b := b) (g := g) hw hli hc hn hok
    haveI kr := arr_rd (g := g) (T := 66) hc hn hok
    by_cases hs : st < 0 ∨ st > 4
    · have e1 : setE c l line st w = 1 := by unfold setE; rw [if_neg hp, if_pos (by omega)]
      have e2 : setL c l line st w = l := by unfold setL; rw [e1]; rfl
      rw [e1, e2]
      by_cases hs0 : st < 0
      · repeat (first | rintro _ _ ⟨rfl, rfl⟩ | refine exq fun _ => ?_ | intro _ | refine go ?_ | refine dr_Arr2_68 ?_ | refine drq ?_ | refine cal @hP ?_)
        (apply WE_ret rfl rfl (by (repeat (first | exact ResOk.nil | (apply ResOk.tmp; rfl) | (apply resOk_cell; rfl; exact inferInstance; rfl; rfl)))))
        · exact ⟨rfl, rfl⟩
        · (apply arr_in; (focus (exact entu0)); all_goals (first | rfl | (with_reducible assumption) | (simp; done) | (simp; omega) | omega | (constructor <;> (simp) <;> omega)))
      · repeat (first | rintro _ _ ⟨rfl, rfl⟩ | refine exq fun _ => ?_ | intro _ | refine go ?_ | refine dr_Arr2_68 ?_ | refine drq ?_ | refine cal @hP ?_)
        (apply WE_ret rfl rfl (by (repeat (first | exact ResOk.nil | (apply ResOk.tmp; rfl) | (apply resOk_cell; rfl; exact inferInstance; rfl; rfl)))))
        · exact ⟨rfl, rfl⟩
        · (apply arr_in; (focus (exact entu0)); all_goals (first | rfl | (with_reducible assumption) | (simp; done) | (simp; omega) | omega | (constructor <;> (simp) <;> omega)))
    · cases ho : oddW c w with
      | true =>
        rw [ho] at hOd
        have e1 : setE c l line st w = 1 := by unfold setE; rw [if_neg hp, if_pos (.inr (.inr ho))]
        have e2 : setL c l line st w = l := by unfold setL; rw [e1]; rfl
        rw [e1, e2]
        repeat (first | rintro _ _ ⟨rfl, rfl⟩ | refine exq fun _ => ?_ | intro _ | refine go ?_ | refine dr_Arr2_68 ?_ | refine drq ?_ | refine cal @hP ?_ | refine cal @hOd ?_)
        (apply WE_ret rfl rfl (by (repeat (first | exact ResOk.nil | (apply ResOk.tmp; rfl) | (apply resOk_cell; rfl; exact inferInstance; rfl; rfl)))))
        · exact ⟨rfl, rfl⟩
        · (apply arr_in; (focus (exact entu0)); all_goals (first | rfl | (with_reducible assumption) | (simp; done) | (simp; omega) | omega | (constructor <;> (simp) <;> omega)))
      | false =>
        rw [ho] at hOd
        have e1 : setE c l line st w = 0 := by unfold setE; rw [if_neg hp, if_neg (by rw [ho]; simp; omega)]
        by_cases hz : st = 0
        · have e2 : setL c l line st w = l.set (arrF c line + i) { l[arrF c line + i] with st := st, words := .zero } := by unfold setL; rw [e1, ei, Int.toNat_natCast, ew, if_pos hz]; rfl
          rw [e1, e2]
          repeat' (first | rintro _ _ ⟨rfl, rfl⟩ | refine exq fun _ => ?_ | intro _ | refine go ?_ | refine dr_Arr2_68 ?_ | refine drq ?_ | refine cal @hP ?_ | refine cal @hOd ?_ | refine cal @hO ?_ | refine spl ?_ ?_ | fail)
          · apply WT_k; rfl; exact GIn.none; (refine K_way (l := l) (f := arrF c line) (i := i) (j := 0) (w := { l[arrF c line + i] with st := st }) (by rfl) (by rfl) (by exact pb_wsl) (by rw [po_wsl, Nat.add_mul] <;> rfl) (by exact inferInstance) (by exact inferInstance) (by rfl) (by rfl) hi2 (by decide) (by rfl)); refine same_intro ?_; (refine ⟨by first | exact After.free | exact After.turns rfl | (refine After.still ?_; (repeat (first | exact Ent.refl | exact Ent.nil | apply Ent.pick | apply Ent.drop)); done), ?_⟩)
            repeat (first | rintro _ _ ⟨rfl, rfl⟩ | refine exq fun _ => ?_ | intro _ | refine go ?_ | refine dr_Arr2_68 ?_ | refine drq ?_)
            apply WT_k; rfl; exact GIn.none; (refine K_way (l := l.set (arrF c line + i) { l[arrF c line + i] with st := st }) (f := arrF c line) (i := i) (j := 2) (w := { l[arrF c line + i] with st := st, words := .zero }) (by rfl) (by rfl) (by exact pb_wsl) (by rw [po_wsl, Nat.add_mul] <;> rfl) (by exact inferInstance) (by exact inferInstance) (by rfl) (by rfl) (by rw [List.length_set]; exact hi2) (by decide) (by rw [List.getElem_set_self]; rfl)); refine same_intro ?_; (refine ⟨by first | exact After.free | exact After.turns rfl | (refine After.still ?_; (repeat (first | exact Ent.refl | exact Ent.nil | apply Ent.pick | apply Ent.drop)); done), ?_⟩)
            repeat (first | rintro _ _ ⟨rfl, rfl⟩ | refine exq fun _ => ?_ | intro _ | refine go ?_ | refine dr_Arr2_68 ?_ | refine drq ?_)
            rw [List.set_set]
            (apply WE_ret rfl rfl (by (repeat (first | exact ResOk.nil | (apply ResOk.tmp; rfl) | (apply resOk_cell; rfl; exact inferInstance; rfl; rfl)))))
            · exact ⟨rfl, rfl⟩
            · (apply arr_in; (focus (exact entu0)); all_goals (first | rfl | (with_reducible assumption) | (simp; done) | (simp; omega) | omega | (constructor <;> (simp) <;> omega)))
          · apply WT_k; rfl; exact GIn.none; (refine K_way (l := l) (f := arrF c line) (i := i) (j := 0) (w := { l[arrF c line + i] with st := st }) (by rfl) (by rfl) (by exact pb_wsl) (by rw [po_wsl, Nat.add_mul] <;> rfl) (by exact inferInstance) (by exact inferInstance) (by rfl) (by rfl) hi2 (by decide) (by rfl)); refine same_intro ?_; (refine ⟨by first | exact After.free | exact After.turns rfl | (refine After.still ?_; (repeat (first | exact Ent.refl | exact Ent.nil | apply Ent.pick | apply Ent.drop)); done), ?_⟩)
            repeat (first | rintro _ _ ⟨rfl, rfl⟩ | refine exq fun _ => ?_ | intro _ | refine go ?_ | refine dr_Arr2_68 ?_ | refine drq ?_)
            apply WT_k; rfl; exact GIn.none; (refine K_way (l := l.set (arrF c line + i) { l[arrF c line + i] with st := st }) (f := arrF c line) (i := i) (j := 2) (w := { l[arrF c line + i] with st := st, words := .zero }) (by rfl) (by rfl) (by exact pb_wsl) (by rw [po_wsl, Nat.add_mul] <;> rfl) (by exact inferInstance) (by exact inferInstance) (by rfl) (by rfl) (by rw [List.length_set]; exact hi2) (by decide) (by rw [List.getElem_set_self]; rfl)); refine same_intro ?_; (refine ⟨by first | exact After.free | exact After.turns rfl | (refine After.still ?_; (repeat (first | exact Ent.refl | exact Ent.nil | apply Ent.pick | apply Ent.drop)); done), ?_⟩)
            repeat (first | rintro _ _ ⟨rfl, rfl⟩ | refine exq fun _ => ?_ | intro _ | refine go ?_ | refine dr_Arr2_68 ?_ | refine drq ?_)
            rw [List.set_set]
            (apply WE_ret rfl rfl (by (repeat (first | exact ResOk.nil | (apply ResOk.tmp; rfl) | (apply resOk_cell; rfl; exact inferInstance; rfl; rfl)))))
            · exact ⟨rfl, rfl⟩
            · (apply arr_in; (focus (exact entu0)); all_goals (first | rfl | (with_reducible assumption) | (simp; done) | (simp; omega) | omega | (constructor <;> (simp) <;> omega)))
        · have e2 : setL c l line st w = l.set (arrF c line + i) { l[arrF c line + i] with st := st, words := w } := by unfold setL; rw [e1, ei, Int.toNat_natCast, ew, if_neg hz]; rfl
          rw [e1, e2]
          repeat' (first | rintro _ _ ⟨rfl, rfl⟩ | refine exq fun _ => ?_ | intro _ | refine go ?_ | refine dr_Arr2_68 ?_ | refine drq ?_ | refine cal @hP ?_ | refine cal @hOd ?_ | refine cal @hO ?_ | refine spl ?_ ?_ | fail)
          · apply WT_k; rfl; exact GIn.none; (refine K_way (l := l) (f := arrF c line) (i := i) (j := 0) (w := { l[arrF c line + i] with st := st }) (by rfl) (by rfl) (by exact pb_wsl) (by rw [po_wsl, Nat.add_mul] <;> rfl) (by exact inferInstance) (by exact inferInstance) (by rfl) (by rfl) hi2 (by decide) (by rfl)); refine same_intro ?_; (refine ⟨by first | exact After.free | exact After.turns rfl | (refine After.still ?_; (repeat (first | exact Ent.refl | exact Ent.nil | apply Ent.pick | apply Ent.drop)); done), ?_⟩)
            repeat (first | rintro _ _ ⟨rfl, rfl⟩ | refine exq fun _ => ?_ | intro _ | refine go ?_ | refine dr_Arr2_68 ?_ | refine drq ?_)
            apply WT_k; rfl; exact GIn.none; (refine K_way (l := l.set (arrF c line + i) { l[arrF c line + i] with st := st }) (f := arrF c line) (i := i) (j := 2) (w := { l[arrF c line + i] with st := st, words := w }) (by rfl) (by rfl) (by exact pb_wsl) (by rw [po_wsl, Nat.add_mul] <;> rfl) (by exact inferInstance) (by exact inferInstance) (by rfl) (by rfl) (by rw [List.length_set]; exact hi2) (by decide) (by rw [List.getElem_set_self]; rfl)); refine same_intro ?_; (refine ⟨by first | exact After.free | exact After.turns rfl | (refine After.still ?_; (repeat (first | exact Ent.refl | exact Ent.nil | apply Ent.pick | apply Ent.drop)); done), ?_⟩)
            repeat (first | rintro _ _ ⟨rfl, rfl⟩ | refine exq fun _ => ?_ | intro _ | refine go ?_ | refine dr_Arr2_68 ?_ | refine drq ?_)
            rw [List.set_set]
            (apply WE_ret rfl rfl (by (repeat (first | exact ResOk.nil | (apply ResOk.tmp; rfl) | (apply resOk_cell; rfl; exact inferInstance; rfl; rfl)))))
            · exact ⟨rfl, rfl⟩
            · (apply arr_in; (focus (exact entu0)); all_goals (first | rfl | (with_reducible assumption) | (simp; done) | (simp; omega) | omega | (constructor <;> (simp) <;> omega)))
          · apply WT_k; rfl; exact GIn.none; (refine K_way (l := l) (f := arrF c line) (i := i) (j := 0) (w := { l[arrF c line + i] with st := st }) (by rfl) (by rfl) (by exact pb_wsl) (by rw [po_wsl, Nat.add_mul] <;> rfl) (by exact inferInstance) (by exact inferInstance) (by rfl) (by rfl) hi2 (by decide) (by rfl)); refine same_intro ?_; (refine ⟨by first | exact After.free | exact After.turns rfl | (refine After.still ?_; (repeat (first | exact Ent.refl | exact Ent.nil | apply Ent.pick | apply Ent.drop)); done), ?_⟩)
            repeat (first | rintro _ _ ⟨rfl, rfl⟩ | refine exq fun _ => ?_ | intro _ | refine go ?_ | refine dr_Arr2_68 ?_ | refine drq ?_)
            apply WT_k; rfl; exact GIn.none; (refine K_way (l := l.set (arrF c line + i) { l[arrF c line + i] with st := st }) (f := arrF c line) (i := i) (j := 2) (w := { l[arrF c line + i] with st := st, words := w }) (by rfl) (by rfl) (by exact pb_wsl) (by rw [po_wsl, Nat.add_mul] <;> rfl) (by exact inferInstance) (by exact inferInstance) (by rfl) (by rfl) (by rw [List.length_set]; exact hi2) (by decide) (by rw [List.getElem_set_self]; rfl)); refine same_intro ?_; (refine ⟨by first | exact After.free | exact After.turns rfl | (refine After.still ?_; (repeat (first | exact Ent.refl | exact Ent.nil | apply Ent.pick | apply Ent.drop)); done), ?_⟩)
            repeat (first | rintro _ _ ⟨rfl, rfl⟩ | refine exq fun _ => ?_ | intro _ | refine go ?_ | refine dr_Arr2_68 ?_ | refine drq ?_)
            rw [List.set_set]
            (apply WE_ret rfl rfl (by (repeat (first | exact ResOk.nil | (apply ResOk.tmp; rfl) | (apply resOk_cell; rfl; exact inferInstance; rfl; rfl)))))
            · exact ⟨rfl, rfl⟩
            · (apply arr_in; (focus (exact entu0)); all_goals (first | rfl | (with_reducible assumption) | (simp; done) | (simp; omega) | omega | (constructor <;> (simp) <;> omega)))
end Go.Sx

/- Arrays of ways: what holds of them. My own work. -/
namespace Go.Sx
open Go Go.Proofs
set_option linter.unusedVariables false
set_option linter.unusedSimpArgs false
/-- Each line is there once, in its set. -/
def ArrInv (c : Cfg) (l : List Way) : Prop :=
  ∀ i (h : i < l.length), thereB l[i] = true → okLine c l[i].line = true ∧ arrF c l[i].line ≤ i ∧ i < arrF c l[i].line + c.ways.toNat ∧ ∀ j (hj : j < l.length), thereB l[j] = true → l[j].line = l[i].line → j = i
/-- Where a line is, of all ways. -/
def arrG (c : Cfg) (l : List Way) (line : Int) : Int := if arrP c l line < 0 then -1 else arrF c line + arrP c l line
theorem pHas_iff {line : Int} {w : Way} : pHas line w = true ↔ thereB w = true ∧ w.line = line := by simp [pHas]
theorem arrP_at {c : Cfg} {l : List Way} {line : Int} {i : Nat} (hi : arrP c l line = i) : ∃ h : arrF c line + i < l.length, okLine c line = true ∧ pHas line l[arrF c line + i] = true ∧ i < c.ways.toNat := by
  obtain ⟨k, hk, e, h1, _⟩ := arrP_nat (by omega : 0 ≤ arrP c l line)
  have hki : k = i := by omega
  subst hki
  have hok := arrP_ok (by omega : 0 ≤ arrP c l line)
  obtain ⟨h2, e2⟩ := ways_get hok hk
  refine ⟨h2, hok, e2 ▸ h1, ?_⟩
  rw [waysOf_ok hok, List.length_take] at hk
  omega
theorem arrP_no {c : Cfg} {l : List Way} {line : Int} (h : arrP c l line < 0) : ∀ i, i < c.ways.toNat → okLine c line = true → ∀ h : arrF c line + i < l.length, pHas line l[arrF c line + i] = false := by
  intro i hi hok hl
  have h2 := (indexBy_neg (by unfold arrP at h; omega : ¬ 0 ≤ indexBy (pHas line) (waysOf c l line))).2
  have hk : i < (waysOf c l line).length := by rw [waysOf_ok hok, List.length_take, List.length_drop]; omega
  have := h2 _ (List.getElem_mem hk)
  obtain ⟨_, e2⟩ := ways_get hok hk
  rw [e2] at this; exact this
/-- Of all ways, the first one that has a line. -/
theorem arrG_eq {c : Cfg} {l : List Way} (hI : ArrInv c l) (line : Int) : indexBy (pHas line) l = arrG c l line := by
  unfold arrG
  by_cases h : arrP c l line < 0
  · rw [if_pos h]
    refine indexBy_none fun j hj _ => ?_
    cases e : pHas line l[j] with
    | false => rfl
    | true =>
      exfalso
      obtain ⟨h1, h2⟩ := pHas_iff.1 e
      obtain ⟨a1, a2, a3, _⟩ := hI j hj h1
      rw [h2] at a1 a2 a3
      have := arrP_no h (j - arrF c line) (by omega) a1 (by omega)
      simp only [show arrF c line + (j - arrF c line) = j by omega] at this
      rw [this] at e; cases e
  · rw [if_neg h]
    obtain ⟨i, hi, e, _, _⟩ := arrP_nat (by omega : 0 ≤ arrP c l line)
    obtain ⟨h2, hok, h3, h4⟩ := arrP_at e
    rw [e]
    have := indexBy_at (p := pHas line) (l := l) (i := arrF c line + i) h2 (fun j hj hlt => by
      cases ej : pHas line l[j] with
      | false => rfl
      | true =>
        exfalso
        obtain ⟨g1, g2⟩ := pHas_iff.1 h3
        obtain ⟨b1, b2⟩ := pHas_iff.1 ej
        have := (hI _ h2 g1).2.2.2 j hj b1 (by rw [b2, g2])
        omega) h3
    rw [this]
    exact Int.natCast_add _ _
theorem arr_inv_no (c : Cfg) (n : Nat) : ArrInv c (List.replicate n .zero) := by
  intro i h ht
  rw [List.getElem_replicate] at ht
  cases ht
/-- A way is turned: what is there then is of its own line. -/
theorem arr_inv_set {c : Cfg} {l : List Way} {k : Nat} {w : Way} (hI : ArrInv c l) (hk : k < l.length) (h : thereB w = true → okLine c w.line = true ∧ arrF c w.line ≤ k ∧ k < arrF c w.line + c.ways.toNat ∧ ∀ j (hj : j < l.length), thereB l[j] = true → l[j].line = w.line → j = k) : ArrInv c (l.set k w) := by
  intro i hi ht
  rw [List.length_set] at hi
  by_cases e : k = i
  · subst e
    rw [List.getElem_set_self] at ht ⊢
    obtain ⟨h1, h2, h3, h4⟩ := h ht
    refine ⟨h1, h2, h3, fun j hj htj hlj => ?_⟩
    rw [List.length_set] at hj
    by_cases e2 : k = j
    · exact e2.symm
    · rw [List.getElem_set_ne e2] at htj hlj
      exact h4 j hj htj hlj
  · rw [List.getElem_set_ne e] at ht ⊢
    obtain ⟨h1, h2, h3, h4⟩ := hI i hi ht
    refine ⟨h1, h2, h3, fun j hj htj hlj => ?_⟩
    rw [List.length_set] at hj
    by_cases e2 : k = j
    · subst e2
      rw [List.getElem_set_self] at htj hlj
      exact ((h htj).2.2.2 i hi ht hlj.symm).symm
    · rw [List.getElem_set_ne e2] at htj hlj
      exact h4 j hj htj hlj
theorem findW_at {c : Cfg} {l : List Way} {line : Int} {i : Nat} (hi : arrP c l line = i) (h2 : arrF c line + i < l.length) : findW c l line = l[arrF c line + i] := by
  obtain ⟨k, hk, e, _, _⟩ := arrP_nat (by omega : 0 ≤ arrP c l line)
  have hki : k = i := by omega
  subst hki
  have hok := arrP_ok (by omega : 0 ≤ arrP c l line)
  obtain ⟨_, e2⟩ := ways_get hok hk
  unfold findW; rw [if_neg (by omega), hi, Int.toNat_natCast, ← e2]; exact (getD_at hk).symm
theorem layL_inv {c : Cfg} {l : List Way} {line way : Int} (hI : ArrInv c l) : ArrInv c (layL c l line way) := by
  unfold layL
  split
  · rename_i h
    unfold layE at h
    split at h
    · rename_i h0
      split at h
      · rename_i hp
        have hok : okLine c line = true := by
          cases e : okLine c line with
          | true => rfl
          | false => rw [waysOf_no e] at h0; simp at h0; omega
        obtain ⟨k, hk⟩ : ∃ k : Nat, way = k := ⟨way.toNat, by omega⟩
        subst hk
        obtain ⟨h2, _⟩ := ways_get hok (show k < (waysOf c l line).length by omega)
        have hkw : k < c.ways.toNat := by have := h0.2; rw [waysOf_ok hok, List.length_take] at this; omega
        rw [Int.toNat_natCast]
        refine arr_inv_set hI h2 fun _ => ⟨hok, by dsimp only; omega, by dsimp only; omega, fun j hj ht hl => ?_⟩
        exfalso
        dsimp only at hl
        obtain ⟨a1, a2, a3, _⟩ := hI j hj ht
        rw [hl] at a1 a2 a3
        have := arrP_no (by omega : arrP c l line < 0) (j - arrF c line) (by omega) a1 (by omega)
        simp only [show arrF c line + (j - arrF c line) = j by omega] at this
        rw [pHas_iff.2 ⟨ht, hl⟩] at this; cases this
      · cases h
    · cases h
  · exact hI
theorem turn_inv {c : Cfg} {l : List Way} {line : Int} {w : Way} (hI : ArrInv c l) (hp : ¬ arrP c l line = -1) (hl : w.line = (findW c l line).line) : ArrInv c (l.set (arrF c line + (arrP c l line).toNat) w) := by
  have h0 : 0 ≤ arrP c l line := by have := (arrP_lt c l line).1; omega
  obtain ⟨i, hi⟩ : ∃ i : Nat, arrP c l line = i := ⟨(arrP c l line).toNat, by omega⟩
  obtain ⟨h2, hok, h3, h4⟩ := arrP_at hi
  have hf := findW_at hi h2
  rw [hi, Int.toNat_natCast]
  obtain ⟨g1, g2⟩ := pHas_iff.1 h3
  have hinv := hI _ h2 g1
  refine arr_inv_set hI h2 fun _ => ?_
  have e : w.line = l[arrF c line + i].line := by rw [hl, hf]
  rw [e]
  exact hinv
theorem setL_inv {c : Cfg} {l : List Way} {line st : Int} {w : Words} (hI : ArrInv c l) : ArrInv c (setL c l line st w) := by
  unfold setL
  split
  · rename_i h
    refine turn_inv hI (fun hp => ?_) rfl
    unfold setE at h; rw [if_pos hp] at h; cases h
  · exact hI
theorem lockL_inv {c : Cfg} {l : List Way} {line : Int} {lk : Bool} (hI : ArrInv c l) : ArrInv c (lockL c l line lk) := by
  unfold lockL
  split
  · rename_i h
    refine turn_inv hI (fun hp => ?_) rfl
    unfold lockE at h; rw [if_pos hp] at h; cases h
  · exact hI
theorem layL_len {c : Cfg} {l : List Way} {line way : Int} : (layL c l line way).length = l.length := by unfold layL; split <;> simp
theorem setL_len {c : Cfg} {l : List Way} {line st : Int} {w : Words} : (setL c l line st w).length = l.length := by unfold setL; split <;> simp
theorem lockL_len {c : Cfg} {l : List Way} {line : Int} {lk : Bool} : (lockL c l line lk).length = l.length := by unfold lockL; split <;> simp
end Go.Sx

/- What package memory does: its exported functions. My own work. -/
namespace Go.Sx
open Go Go.Proofs
set_option linter.unusedVariables false
set_option linter.unusedSimpArgs false
set_option maxRecDepth 100000
set_option maxHeartbeats 4000000
attribute [local irreducible] Go.Exit.then Go.Exit.inBlock Go.Code.wp WC WO WE WQ V LoopQ FnQ Sat Star band bor IntKind.wrap WR Code.rounds WT KO

theorem getD_ic {ms : List Int} {i : Nat} (hi : i < ms.length) : (flat ic ms)[0 + i * 1]? = some (.int .i64 (ms.getD i 0)) := by
  rw [Nat.zero_add, Nat.mul_one, flat_ic_get hi]; simp [hi]

theorem line_rd {c : Cfg} {ms : List Int} {line : Int} (hn : (ms.length : Int) = c.words * c.lines) (h : okJoin c line 0 = true) : lineF c line + c.words.toNat ≤ ms.length ∧ (lineL c ms line).length = c.words.toNat ∧ c.words.toNat ≤ 8 ∧ 1 ≤ c.words.toNat := by
  obtain ⟨h1, h2, h3, h4, h5, h6, h7, h8⟩ := join_facts h hn
  have : lineF c line = (line * c.words).toNat := rfl
  refine ⟨by omega, ?_, by omega, by omega⟩
  simp [lineL]; omega
theorem rd_line {g T : Nat} {c : Cfg} {ms : List Int} {line : Int} {L : List HP} (hn : (ms.length : Int) = c.words * c.lines) (h : okJoin c line 0 = true) {cap : Nat} :
    RdL (Cells g T (flat ic ms) :: L) 1 (.slice (some ⟨g, lineF c line, none⟩) c.words.toNat cap) c.words.toNat (flat ic (lineL c ms line)) := by
  have := line_rd hn h
  have hx : ((flat ic ms).drop (lineF c line)).take (c.words.toNat * 1) = flat ic (lineL c ms line) := by
    have h1 := flat_drop (enc := ic) (n := 1) (fun _ => rfl) ms (lineF c line)
    have h2 := flat_take (enc := ic) (n := 1) (fun _ => rfl) (ms.drop (lineF c line)) c.words.toNat
    rw [Nat.mul_one] at h1 h2 ⊢
    rw [h1, h2]; rfl
  have k := rd_cells (L := Cells g T (flat ic ms) :: L) (o := lineF c line) (m := c.words.toNat) (c := cap) (sz := 1) (b := g) inferInstance (by rw [flat_ic_len]; omega) (by rw [hx]; exact flat_ic_one _)
  rwa [hx] at k

theorem mem_Line {F : List HP} {b : Nat} {c : Cfg} {ms : List Int} {line : Int} (hc : c.wf) (hl : I64 line) : FnF Tryz.prog 115 [.pointer (some ⟨b, 0, none⟩), .int .i64 line] [MemB b c ms] F (fun r L' => r = .tuple [wv (lineWo c ms line), .int .i64 (joinE c line 0)].toArray ∧ L' = [MemB b c ms]) := by
  cases e : okJoin c line 0 with
  | false =>
    have hP := fun F b v => mem_part_no (F := F) (b := b) (v := v) hc hl e
    refine FnF.mk' Tryz.func115 rfl rfl Tryz.ntmps115 rfl ?_
    refine mem_open fun g hf => ?_
    repeat (first | rintro _ _ ⟨rfl, rfl⟩ | refine exq fun _ => ?_ | intro _ | refine go ?_ | refine drq ?_ | refine cal @hP ?_)
    (apply WE_ret rfl rfl (by (repeat (first | exact ResOk.nil | (apply ResOk.tmp; rfl) | (apply resOk_cell; rfl; exact inferInstance; rfl; rfl)))))
    · exact ⟨by simp [lineWo, joinE, e, Words.zero], rfl⟩
    · ((repeat (first | (with_reducible exact Ent.refl) | exact Ent.nil | (apply ent_pickE; (focus ((repeat (first | (with_reducible exact pk_here) | (apply pk_there))); done))) | (apply mem_in) | apply Ent.drop)); all_goals (first | rfl | (with_reducible assumption) | (simp; done) | (simp; omega) | omega | (constructor <;> (simp) <;> omega)))
  | true =>
    refine FnF.mk' Tryz.func115 rfl rfl Tryz.ntmps115 rfl ?_
    refine mem_open fun g hf => ?_
    have hr := line_rd hf.2.1 e
    have hP := fun F => mem_part (F := F) (b := b) (g := g) hc hl e hf.2.1 hf.2.2
    haveI kr := fun L => rd_line (g := g) (T := 3) (L := L) (cap := ms.length - lineF c line) hf.2.1 e
    have hsp : splice [.int .i64 0, .int .i64 0, .int .i64 0, .int .i64 0, .int .i64 0, .int .i64 0, .int .i64 0, .int .i64 0] 0 ((flat ic (lineL c ms line)).take (min c.words.toNat 8 * 1)) = wc (Words.of (lineL c ms line)) := by
      rw [List.take_of_length_le (by rw [flat_ic_len]; omega)]
      exact splice_words (by omega)
    repeat (first | rintro _ _ ⟨rfl, rfl⟩ | refine exq fun _ => ?_ | intro _ | refine go ?_ | refine drq ?_ | refine cal @hP ?_)
    rw [hsp]
    repeat (first | rintro _ _ ⟨rfl, rfl⟩ | refine exq fun _ => ?_ | intro _ | refine go ?_ | refine drq ?_)
    (apply WE_ret rfl rfl (by (repeat (first | exact ResOk.nil | (apply ResOk.tmp; rfl) | (apply resOk_cell; rfl; exact inferInstance; rfl; rfl)))))
    · exact ⟨by simp [lineWo, joinE, e], rfl⟩
    · ((repeat (first | (with_reducible exact Ent.refl) | exact Ent.nil | (apply ent_pickE; (focus ((repeat (first | (with_reducible exact pk_here) | (apply pk_there))); done))) | (apply mem_in) | apply Ent.drop)); all_goals (first | rfl | (with_reducible assumption) | (simp; done) | (simp; omega) | omega | (constructor <;> (simp) <;> omega)))
theorem touch_w {F : List HP} {g T i : Nat} {w : Words} {x : Op3} (hi : i < 8) : FnF Tryz.prog 146 [.pointer (some ⟨g, i, none⟩), ov x] [Cells g T (wc w)] F (fun r L' => r = .int .i64 (touchE w.list i x) ∧ L' = [Cells g T (wc (Words.of (touchL w.list i x)))]) := by
  have h := mem_touch (F := F) (g := g) (T := T) (i := i) (ms := w.list) (x := x) hi
  rw [flat_of (l := touchL w.list i x) (by rw [touchL_len]; rfl)] at h
  exact h

theorem flat_ic_map (l : List Int) : flat ic l = l.map (Value.int .i64) := by
  induction l with
  | nil => rfl
  | cons a r ih => rw [List.map_cons, ← ih]; rfl
theorem copy_wr {ms : List Int} {w : Words} {f k : Nat} (h : f + k ≤ ms.length) (hk : k ≤ 8) : splice (flat ic ms) f ((wc w).take (min 8 k * 1)) = flat ic (ms.take f ++ w.list.take k ++ ms.drop (f + k)) := by
  have e : wc w = flat ic w.list := rfl
  have hl : w.list.length = 8 := rfl
  rw [show min 8 k * 1 = k by omega, e, flat_ic_map, flat_ic_map, flat_ic_map, splice]
  simp [List.map_take, List.map_drop, hl, Nat.min_eq_left hk]
instance (priority := high) rd_cutw {bw T l : Nat} {w : Words} {L : List HP} : RdL (Cells bw T (wc w) :: L) 1 (Sx.cut (.slice (some ⟨bw, 0, none⟩) 8 8) l 8 8 1) (8 - l) (flat ic (w.list.drop l)) := by
  by_cases hl : l ≤ 8
  · have k0 : RdL (Cells bw T (wc w) :: L) 1 (.slice (some ⟨bw, 0, none⟩) 8 8) 8 (wc w) := rd_lit inferInstance rfl rfl
    have k := RdL.cut k0 hl (Nat.le_refl _) (Nat.le_refl _)
    have e : ((wc w).drop (l * 1)).take ((8 - l) * 1) = flat ic (w.list.drop l) := by
      rw [show wc w = flat ic w.list from rfl, flat_drop (enc := ic) (n := 1) (fun _ => rfl), List.take_of_length_le]
      rw [flat_ic_len, List.length_drop]
      have : w.list.length = 8 := rfl
      omega
    rwa [e] at k
  · have e : w.list.drop l = [] := List.drop_eq_nil_of_le (by have : w.list.length = 8 := rfl; omega)
    have e2 : 8 - l = 0 := by omega
    rw [e, e2]
    exact ⟨fun _ _ => by simp, fun _ _ => rfl, fun _ _ => .inl ⟨_, _, by simp [Sx.cut, e2]; exact ⟨rfl, rfl⟩, rfl⟩⟩
theorem wr_len {ms : List Int} {w : Words} {f k : Nat} (h : f + k ≤ ms.length) (hk : k ≤ 8) : (ms.take f ++ w.list.take k ++ ms.drop (f + k)).length = ms.length := by
  have hl : w.list.length = 8 := rfl
  simp [hl, Nat.min_eq_left hk]; omega
theorem mem_Write {F : List HP} {b : Nat} {c : Cfg} {ms : List Int} {line : Int} {w : Words} (hc : c.wf) (hl : I64 line) : FnF Tryz.prog 215 [.pointer (some ⟨b, 0, none⟩), .int .i64 line, wv w] [MemB b c ms] F (fun r L' => r = .int .i64 (wrE c line w) ∧ L' = [MemB b c (wrL c ms line w)]) := by
  cases e : okJoin c line 0 with
  | false =>
    have hP := fun F b v => mem_part_no (F := F) (b := b) (v := v) hc hl e
    have hw : wrOk c line w = false := by simp [wrOk, e]
    refine FnF.mk' Tryz.func215 rfl rfl Tryz.ntmps215 rfl ?_
    refine mem_open fun g hf => ?_
    repeat (first | rintro _ _ ⟨rfl, rfl⟩ | refine exq fun _ => ?_ | intro _ | refine go ?_ | refine drq ?_ | refine cal @hP ?_)
    (apply WE_ret rfl rfl (by (repeat (first | exact ResOk.nil | (apply ResOk.tmp; rfl) | (apply resOk_cell; rfl; exact inferInstance; rfl; rfl)))))
    · exact ⟨by simp [wrE, hw], rfl⟩
    · simp only [wrL, hw, Bool.false_eq_true, if_false]; ((repeat (first | (with_reducible exact Ent.refl) | exact Ent.nil | (apply ent_pickE; (focus ((repeat (first | (with_reducible exact pk_here) | (apply pk_there))); done))) | (apply mem_in) | apply Ent.drop)); all_goals (first | rfl | (with_reducible assumption) | (simp; done) | (simp; omega) | omega | (constructor <;> (simp) <;> omega)))
  | true =>
    refine FnF.mk' Tryz.func215 rfl rfl Tryz.ntmps215 rfl ?_
    refine mem_open fun g hf => ?_
    have hr := line_rd hf.2.1 e
    have hj := join_facts e hf.2.1
    have hP := fun F => mem_part (F := F) (b := b) (g := g) hc hl e hf.2.1 hf.2.2
    have hfl := flat_ic_len ms
    have hwl : (w.list.drop c.words.toNat).length = 8 - c.words.toNat := by rw [List.length_drop]; rfl
    repeat (first | rintro _ _ ⟨rfl, rfl⟩ | refine exq fun _ => ?_ | intro _ | refine go ?_ | refine drq ?_ | refine cal @hP ?_)
    rename_i bw
    apply WC_loopE (E0 := [(5, _), (7, _), (20, _), (21, _)]) (fun E0 (i : Nat) => (22, .int .i64 i) :: E0) (fun _ => Cells bw 36 (wc w) :: Cells b 270 (c.cells ++ [.slice (some ⟨g, 0, none⟩) ms.length ms.length]) :: Cells g 3 (flat ic ms) :: F) (fun i => i ≤ 8 - c.words.toNat ∧ ∀ j (h : j < (w.list.drop c.words.toNat).length), j < i → (w.list.drop c.words.toNat)[j] = 0) (fun i => 8 - i) 0
    · (repeat (first | exact Sub.nil | (refine Sub.cons (by first | rfl | (simp only [Nat.zero_add]; rfl)) ?_)))
    · exact ⟨Nat.zero_le _, fun j h hj => by omega⟩
    · exact entu0
    · rintro i ⟨hi, h1⟩
      by_cases hlt : i < 8 - c.words.toNat
      · have hlt' : i < (w.list.drop c.words.toNat).length := by omega
        by_cases h0 : (w.list.drop c.words.toNat)[i] = 0
        · repeat (first | rintro _ _ ⟨rfl, rfl⟩ | refine exq fun _ => ?_ | intro _ | refine go ?_ | refine drq ?_)
          refine WE_loop (i + 1) (by omega) ⟨by omega, fun j h hj => ?_⟩ ?_ ?_
          · by_cases e : j = i
            · subst e; exact h0
            · exact h1 j h (by omega)
          · (repeat (first | exact Sub.nil | (refine Sub.cons (by first | rfl | (simp only [Nat.zero_add]; rfl)) ?_)))
          · exact entu0
        · have hw : wrOk c line w = false := by
            have : tailZ c w = false := by
              unfold tailZ
              rw [List.all_eq_false]; exact ⟨_, List.getElem_mem hlt', by simpa using h0⟩
            simp [wrOk, this]
          repeat (first | rintro _ _ ⟨rfl, rfl⟩ | refine exq fun _ => ?_ | intro _ | refine go ?_ | refine drq ?_)
          (apply WE_ret rfl rfl (by (repeat (first | exact ResOk.nil | (apply ResOk.tmp; rfl) | (apply resOk_cell; rfl; exact inferInstance; rfl; rfl)))))
          · exact ⟨by simp [wrE, hw], rfl⟩
          · simp only [wrL, hw, Bool.false_eq_true, if_false]; ((repeat (first | (with_reducible exact Ent.refl) | exact Ent.nil | (apply ent_pickE; (focus ((repeat (first | (with_reducible exact pk_here) | (apply pk_there))); done))) | (apply mem_in) | apply Ent.drop)); all_goals (first | rfl | (with_reducible assumption) | (simp; done) | (simp; omega) | omega | (constructor <;> (simp) <;> omega)))
      · have hw : wrOk c line w = true := by
          have : tailZ c w = true := by
            unfold tailZ
            rw [List.all_eq_true]
            intro x hx
            obtain ⟨j, hj, rfl⟩ := List.getElem_of_mem hx
            simpa using h1 j hj (by omega)
          simp [wrOk, this, e]
        repeat (first | rintro _ _ ⟨rfl, rfl⟩ | refine exq fun _ => ?_ | intro _ | refine go ?_ | refine drq ?_)
        (apply WE_ret rfl rfl (by (repeat (first | exact ResOk.nil | (apply ResOk.tmp; rfl) | (apply resOk_cell; rfl; exact inferInstance; rfl; rfl)))))
        · exact ⟨by simp [wrE, hw], rfl⟩
        · rw [copy_wr hr.1 hr.2.2.1]
          simp only [wrL, hw, if_true]
          apply mem_in
          · exact entu0
          · rw [wr_len hr.1 hr.2.2.1]
          · rfl
          · rw [wr_len hr.1 hr.2.2.1]; exact hf
theorem dr_Mem2_66 {Q P : Prop} (k : Q) (h : Hid Q → P := by
  intro k
  first
  | (refine is_draw ?_; apply WC_mix (id := 4) .true _ (pl := .p 0 <| .p 1 <| .r 2 <| .e true [(3, .p 4 <| .done)]); exact mixed; kernel_rfl; kernel_rfl; exact Ent.refl; exact k.out)) : P := h ⟨k⟩
theorem mem_Apply {F : List HP} {c : Cfg} {w : Words} {x : Op3} (hc : c.wf) (hx : x.wf) : FnF Tryz.prog 66 [c.val, wv w, ov x] [] F (fun r L' => r = .tuple [wv (apW c w x), .int .i64 (apV c w x), .int .i64 (apE c x)].toArray ∧ L' = []) := by
  have hA := fun F => split_Addr (F := F) (c := c) (a := x.addr) hc hx.2.1
  have hM := fun F => program_May (F := F) (x := x)
  cases e1 : okAddr c x.addr with
  | false =>
    have ha : apOk c x = false := by simp [apOk, e1]
    simp only [addrE, e1, Bool.false_eq_true, if_false] at hA
    refine FnF.mk' Tryz.func66 rfl rfl Tryz.ntmps66 rfl ?_
    repeat (first | rintro _ _ ⟨rfl, rfl⟩ | refine exq fun _ => ?_ | intro _ | refine go ?_ | refine dr_Mem2_66 ?_ | refine drq ?_ | refine cal @hA ?_)
    (apply WE_ret rfl rfl (by (repeat (first | exact ResOk.nil | (apply ResOk.tmp; rfl) | (apply resOk_cell; rfl; exact inferInstance; rfl; rfl)))))
    · exact ⟨by simp [apW, apV, apE, ha, Words.zero], rfl⟩
    · exact entu0
  | true =>
    simp only [addrE, e1, if_true] at hA
    cases e2 : mayB x with
    | false =>
      have ha : apOk c x = false := by simp [apOk, e2]
      simp only [e2] at hM
      refine FnF.mk' Tryz.func66 rfl rfl Tryz.ntmps66 rfl ?_
      repeat (first | rintro _ _ ⟨rfl, rfl⟩ | refine exq fun _ => ?_ | intro _ | refine go ?_ | refine dr_Mem2_66 ?_ | refine drq ?_ | refine cal @hA ?_ | refine cal @hM ?_)
      (apply WE_ret rfl rfl (by (repeat (first | exact ResOk.nil | (apply ResOk.tmp; rfl) | (apply resOk_cell; rfl; exact inferInstance; rfl; rfl)))))
      · exact ⟨by simp [apW, apV, apE, ha, Words.zero], rfl⟩
      · exact entu0
    | true =>
      simp only [e2] at hM
      by_cases e3 : x.kind = 4
      · have ha : apOk c x = false := by simp [apOk, e3]
        refine FnF.mk' Tryz.func66 rfl rfl Tryz.ntmps66 rfl ?_
        repeat (first | rintro _ _ ⟨rfl, rfl⟩ | refine exq fun _ => ?_ | intro _ | refine go ?_ | refine dr_Mem2_66 ?_ | refine drq ?_ | refine cal @hA ?_ | refine cal @hM ?_)
        (apply WE_ret rfl rfl (by (repeat (first | exact ResOk.nil | (apply ResOk.tmp; rfl) | (apply resOk_cell; rfl; exact inferInstance; rfl; rfl)))))
        · exact ⟨by simp [apW, apV, apE, ha, Words.zero], rfl⟩
        · exact entu0
      · have ha : apOk c x = true := by simp [apOk, e1, e2, e3]
        obtain ⟨_, _, _, q1, q2, _⟩ := apply_same (c := c) (x := x) (ms := List.replicate (c.words * c.lines).toNat 0) (by
          have := (addr_big e1).2
          simp; omega) ha
        refine FnF.mk' Tryz.func66 rfl rfl Tryz.ntmps66 rfl ?_
        repeat (first | rintro _ _ ⟨rfl, rfl⟩ | refine exq fun _ => ?_ | intro _ | refine go ?_ | refine dr_Mem2_66 ?_ | refine drq ?_ | refine cal @hA ?_ | refine cal @hM ?_ | refine cal @touch_w ?_)
        (apply WE_ret rfl rfl (by (repeat (first | exact ResOk.nil | (apply ResOk.tmp; rfl) | (apply resOk_cell; rfl; exact inferInstance; rfl; rfl)))))
        · exact ⟨by simp [apW, apV, apE, ha], rfl⟩
        · exact entu0
end Go.Sx

/- What is set of a line is told of it. Plain facts. My own work. -/
namespace Go.Sx
open Go Go.Proofs
set_option linter.unusedVariables false
set_option linter.unusedSimpArgs false
theorem find_at {c : Cfg} {l : List Way} {line : Int} (hI : ArrInv c l) {k : Nat} (hk : k < l.length) (h : pHas line l[k] = true) : arrF c line ≤ k ∧ arrP c l line = ((k - arrF c line : Nat) : Int) := by
  obtain ⟨h1, h2⟩ := pHas_iff.1 h
  obtain ⟨a1, a2, a3, a4⟩ := hI k hk h1
  rw [h2] at a1 a2 a3
  refine ⟨a2, ?_⟩
  by_cases hneg : arrP c l line < 0
  · exfalso
    have := arrP_no hneg (k - arrF c line) (by omega) a1 (by omega)
    simp only [show arrF c line + (k - arrF c line) = k by omega] at this
    rw [this] at h; cases h
  · obtain ⟨i, hi⟩ : ∃ i : Nat, arrP c l line = i := ⟨(arrP c l line).toNat, by omega⟩
    obtain ⟨b1, _, b2, _⟩ := arrP_at hi
    obtain ⟨b3, b4⟩ := pHas_iff.1 b2
    have := a4 _ b1 b3 (by rw [b4, h2])
    omega
theorem find_no {c : Cfg} {l : List Way} {line : Int} (h : ∀ k (hk : k < l.length), pHas line l[k] = false) : arrP c l line = -1 := by
  by_cases hneg : arrP c l line < 0
  · have := (arrP_lt c l line).1; omega
  · obtain ⟨i, hi⟩ : ∃ i : Nat, arrP c l line = i := ⟨(arrP c l line).toNat, by omega⟩
    obtain ⟨b1, _, b2, _⟩ := arrP_at hi
    rw [h _ b1] at b2; cases b2
theorem not_has {c : Cfg} {l : List Way} {line : Int} (hI : ArrInv c l) (h : arrP c l line < 0) {j : Nat} (hj : j < l.length) : pHas line l[j] = false := by
  cases e : pHas line l[j] with
  | false => rfl
  | true => have := (find_at hI hj e).2; omega
theorem find_other {c : Cfg} {l : List Way} {line : Int} {k : Nat} {w : Way} (hI : ArrInv c l) (hI2 : ArrInv c (l.set k w)) (hk : k < l.length) (h1 : pHas line l[k] = false) (h2 : pHas line w = false) :
    arrP c (l.set k w) line = arrP c l line ∧ findW c (l.set k w) line = findW c l line := by
  by_cases hneg : arrP c l line < 0
  · have e1 : arrP c l line = -1 := by have := (arrP_lt c l line).1; omega
    have e2 : arrP c (l.set k w) line = -1 := find_no fun j hj => by
      rw [List.length_set] at hj
      by_cases e : k = j
      · subst e; rw [List.getElem_set_self]; exact h2
      · rw [List.getElem_set_ne e]; exact not_has hI hneg hj
    refine ⟨by rw [e1, e2], ?_⟩
    unfold findW
    rw [if_pos (by omega), if_pos (by omega)]
  · obtain ⟨i, hi⟩ : ∃ i : Nat, arrP c l line = i := ⟨(arrP c l line).toNat, by omega⟩
    obtain ⟨b1, _, b2, _⟩ := arrP_at hi
    have hne : k ≠ arrF c line + i := fun e => by subst e; rw [b2] at h1; cases h1
    have b3 : arrF c line + i < (l.set k w).length := by rw [List.length_set]; exact b1
    have b4 : (l.set k w)[arrF c line + i] = l[arrF c line + i] := List.getElem_set_ne hne _
    have e2 : arrP c (l.set k w) line = i := by
      rw [(find_at hI2 b3 (by rw [b4]; exact b2)).2]; omega
    exact ⟨by rw [hi, e2], by rw [findW_at e2 b3, b4, findW_at hi b1]⟩
theorem has_line {line line' : Int} {w : Way} (h : pHas line' w = true) (hne : line' ≠ line) : pHas line w = false := by
  cases e : pHas line w with
  | false => rfl
  | true => exact absurd ((pHas_iff.1 h).2.symm.trans (pHas_iff.1 e).2) hne
theorem lay_other {c : Cfg} {l : List Way} {line line' way : Int} (hI : ArrInv c l) (hx : line' ≠ line) : arrP c (layL c l line' way) line = arrP c l line ∧ findW c (layL c l line' way) line = findW c l line := by
  have hI2 := layL_inv (line := line') (way := way) hI
  unfold layL at hI2 ⊢
  by_cases h : layE c l line' way = 0
  · rw [if_pos h] at hI2 ⊢
    unfold layE at h
    split at h
    · rename_i h0
      split at h
      · split at h
        · cases h
        · rename_i hp ht
          have hok : okLine c line' = true := by
            cases e : okLine c line' with
            | true => rfl
            | false => rw [waysOf_no e] at h0; simp at h0; omega
          obtain ⟨k, hk⟩ : ∃ k : Nat, way = k := ⟨way.toNat, by omega⟩
          subst hk
          have hkl : k < (waysOf c l line').length := by omega
          obtain ⟨h2, eg⟩ := ways_get hok hkl
          rw [Int.toNat_natCast, ← getD_at hkl, eg] at ht
          rw [Int.toNat_natCast] at hI2 ⊢
          refine find_other hI hI2 h2 ?_ ?_
          · simp [pHas, ht]
          · simp [pHas, hx]
      · cases h
    · cases h
  · rw [if_neg h]; exact ⟨rfl, rfl⟩
theorem turn_other {c : Cfg} {l : List Way} {line line' : Int} {w : Way} (hI : ArrInv c l) (hp : ¬ arrP c l line' = -1) (hl : w.line = (findW c l line').line) (hx : line' ≠ line) :
    arrP c (l.set (arrF c line' + (arrP c l line').toNat) w) line = arrP c l line ∧ findW c (l.set (arrF c line' + (arrP c l line').toNat) w) line = findW c l line := by
  have hI2 := turn_inv hI hp hl
  have h0 : 0 ≤ arrP c l line' := by have := (arrP_lt c l line').1; omega
  obtain ⟨i, hi⟩ : ∃ i : Nat, arrP c l line' = i := ⟨(arrP c l line').toNat, by omega⟩
  obtain ⟨b1, _, b2, _⟩ := arrP_at hi
  rw [findW_at hi b1] at hl
  rw [hi, Int.toNat_natCast] at hI2 ⊢
  refine find_other hI hI2 b1 (has_line b2 hx) ?_
  have := (pHas_iff.1 b2).2
  simp [pHas, hl, this, hx]
theorem set_other {c : Cfg} {l : List Way} {line line' st : Int} {w : Words} (hI : ArrInv c l) (hx : line' ≠ line) : arrP c (setL c l line' st w) line = arrP c l line ∧ findW c (setL c l line' st w) line = findW c l line := by
  unfold setL
  split
  · rename_i h
    exact turn_other hI (fun hp => by unfold setE at h; rw [if_pos hp] at h; cases h) rfl hx
  · exact ⟨rfl, rfl⟩
theorem lock_other {c : Cfg} {l : List Way} {line line' : Int} {lk : Bool} (hI : ArrInv c l) (hx : line' ≠ line) : arrP c (lockL c l line' lk) line = arrP c l line ∧ findW c (lockL c l line' lk) line = findW c l line := by
  unfold lockL
  split
  · rename_i h
    exact turn_other hI (fun hp => by unfold lockE at h; rw [if_pos hp] at h; cases h) rfl hx
  · exact ⟨rfl, rfl⟩
/-- The line's own way is turned. -/
theorem turn_self {c : Cfg} {l : List Way} {line : Int} {i : Nat} {w : Way} (hI : ArrInv c l) (hi : arrP c l line = i) (hl : w.line = line) :
    (thereB w = true → arrP c (l.set (arrF c line + i) w) line = i ∧ findW c (l.set (arrF c line + i) w) line = w) ∧ (thereB w = false → arrP c (l.set (arrF c line + i) w) line = -1) := by
  obtain ⟨b1, _, b2, _⟩ := arrP_at hi
  have hfl := (pHas_iff.1 b2).2
  have hI2 := turn_inv (w := w) hI (by omega : ¬ arrP c l line = -1) (by rw [findW_at hi b1, hfl, hl])
  rw [hi, Int.toNat_natCast] at hI2
  have b3 : arrF c line + i < (l.set (arrF c line + i) w).length := by rw [List.length_set]; exact b1
  constructor
  · intro ht
    have e2 : arrP c (l.set (arrF c line + i) w) line = i := by
      rw [(find_at hI2 b3 (by rw [List.getElem_set_self]; exact pHas_iff.2 ⟨ht, hl⟩)).2]; omega
    exact ⟨e2, by rw [findW_at e2 b3, List.getElem_set_self]⟩
  · intro ht
    refine find_no fun j hj => ?_
    rw [List.length_set] at hj
    by_cases e : arrF c line + i = j
    · subst e; rw [List.getElem_set_self]; simp [pHas, ht]
    · rw [List.getElem_set_ne e]
      cases ej : pHas line l[j] with
      | false => rfl
      | true => have := find_at hI hj ej; omega
theorem find_line {c : Cfg} {l : List Way} {line : Int} {i : Nat} (hi : arrP c l line = i) : (findW c l line).line = line := by
  obtain ⟨b1, _, b2, _⟩ := arrP_at hi
  rw [findW_at hi b1]
  exact (pHas_iff.1 b2).2
theorem find_is {c : Cfg} {l : List Way} {line : Int} {i : Nat} (hi : arrP c l line = i) : findB c l line = true ∧ findI c l line = i := by
  unfold findB findI
  rw [hi]
  exact ⟨by simp, if_neg (by omega)⟩
theorem find_isnt {c : Cfg} {l : List Way} {line : Int} (hi : arrP c l line = -1) : findB c l line = false ∧ findI c l line = 0 ∧ findW c l line = .zero := by
  unfold findB findI findW
  rw [hi]
  exact ⟨rfl, rfl, rfl⟩
/-- What is set is told. -/
theorem set_self {c : Cfg} {l : List Way} {line st : Int} {w : Words} (hI : ArrInv c l) (he : setE c l line st w = 0) :
    findB c l line = true ∧ (((findW c l line).lk = true ∨ st ≠ 0) → findB c (setL c l line st w) line = true ∧ findI c (setL c l line st w) line = findI c l line ∧ findW c (setL c l line st w) line = ⟨st, line, if st = 0 then .zero else w, (findW c l line).lk⟩) ∧
    (((findW c l line).lk = false ∧ st = 0) → findB c (setL c l line st w) line = false ∧ findI c (setL c l line st w) line = 0 ∧ findW c (setL c l line st w) line = .zero) := by
  have hp : ¬ arrP c l line = -1 := fun hp => by unfold setE at he; rw [if_pos hp] at he; cases he
  have h0 : 0 ≤ arrP c l line := by have := (arrP_lt c l line).1; omega
  obtain ⟨i, hi⟩ : ∃ i : Nat, arrP c l line = i := ⟨(arrP c l line).toNat, by omega⟩
  have hl := find_line hi
  have e1 : setL c l line st w = l.set (arrF c line + i) { findW c l line with st := st, words := if st = 0 then .zero else w } := by
    unfold setL; rw [if_pos he, hi, Int.toNat_natCast]
  rw [e1]
  obtain ⟨t1, t2⟩ := turn_self (w := { findW c l line with st := st, words := if st = 0 then .zero else w }) hI hi hl
  refine ⟨(find_is hi).1, fun h => ?_, fun h => ?_⟩
  · obtain ⟨u1, u2⟩ := t1 (by rcases h with h | h <;> simp [thereB, h])
    refine ⟨(find_is u1).1, by rw [(find_is u1).2, (find_is hi).2], ?_⟩
    rw [u2]
    show (⟨st, (findW c l line).line, _, _⟩ : Way) = _
    rw [hl]
  · exact find_isnt (t2 (by simp [thereB, h.1, h.2]))
/-- What is let go is there as long as it is valid. -/
theorem free_self {c : Cfg} {l : List Way} {line : Int} (hI : ArrInv c l) : findB c (lockL c l line false) line = (findB c l line && decide ((findW c l line).st ≠ 0)) := by
  by_cases hp : arrP c l line = -1
  · have e1 : lockL c l line false = l := by unfold lockL lockE; rw [if_pos hp]; rfl
    rw [e1, (find_isnt hp).1]; rfl
  · have h0 : 0 ≤ arrP c l line := by have := (arrP_lt c l line).1; omega
    obtain ⟨i, hi⟩ : ∃ i : Nat, arrP c l line = i := ⟨(arrP c l line).toNat, by omega⟩
    have hl := find_line hi
    have he : lockE c l line = 0 := if_neg hp
    have e1 : lockL c l line false = l.set (arrF c line + i) { findW c l line with lk := false } := by
      unfold lockL; rw [if_pos he, hi, Int.toNat_natCast]
    obtain ⟨t1, t2⟩ := turn_self (w := { findW c l line with lk := false }) hI hi hl
    rw [e1, (find_is hi).1, Bool.true_and]
    by_cases hs : (findW c l line).st = 0
    · rw [(find_isnt (t2 (by simp [thereB, hs]))).1]; simp [hs]
    · rw [(find_is (t1 (by simp [thereB, hs])).1).1]; simp [hs]
end Go.Sx

/- The document's files of misses, second part. My own work. -/
namespace Go.Sx
open Go Go.Proofs
set_option linter.unusedVariables false
set_option linter.unusedSectionVars false
set_option linter.unusedSimpArgs false
set_option maxRecDepth 100000
set_option maxHeartbeats 4000000
attribute [local irreducible] Go.Exit.then Go.Exit.inBlock Go.Code.wp WC WO WE WQ V LoopQ FnQ Sat Star band bor IntKind.wrap WR Code.rounds WT KO
theorem ref10_Get {F : List HP} {b : Nat} {room : Int} {l : List Miss} {line : Int} :
    FnF Tryz.prog 122 [.pointer (some ⟨b, 0, none⟩), .int .i64 line] [MshR b room l] F (fun r L' => r = .tuple [msv (misGet l line), .bool (misIn l line)].toArray ∧ L' = [MshR b room l]) := by
  refine FnF.mk' Tryz.func122 rfl rfl Tryz.ntmps122 rfl ?_
  refine RL_open fun p c hl => ?_
  have hP := fun F => ref10_placeO (F := F) (b := b) (room := room) (l := l) (line := line) (p := p) (c := c) (by omega)
  cases h : misIn l line with
  | true =>
    obtain ⟨i, hi, e1, e2, _⟩ := misIn_t h
    have e3 : misGet l line = l[i] := by unfold misGet; rw [if_pos h, e2]
    rw [e3]
    rw [e1] at hP
    (first | (refine WO_some (Value.slice p l.length c) inferInstance (by omega) ?_; intro _) | (refine WC_some (Value.slice p l.length c) inferInstance (by omega) ?_; intro _))
    repeat' (first | rintro _ _ ⟨rfl, rfl⟩ | refine exq fun _ => ?_ | intro _ | refine go ?_ | refine drq ?_ | refine cal @hP ?_ | refine spl ?_ ?_ | fail)
    all_goals (apply WE_ret rfl rfl (by (repeat (first | exact ResOk.nil | (apply ResOk.tmp; rfl) | (apply resOk_cell; rfl; exact inferInstance; rfl; rfl)))))
    all_goals first | exact ⟨rfl, rfl⟩ | (apply RL_in; (focus (exact entu0)); all_goals (first | rfl | (with_reducible assumption) | (simp; done) | (simp; omega) | omega | (constructor <;> (simp) <;> omega)))
  | false =>
    have e3 : misGet l line = .zero := by unfold misGet; rw [h]; rfl
    rw [e3]
    rw [misIn_f h] at hP
    repeat' (first | rintro _ _ ⟨rfl, rfl⟩ | refine exq fun _ => ?_ | intro _ | refine go ?_ | refine drq ?_ | refine cal @hP ?_ | refine spl ?_ ?_ | fail)
    all_goals (apply WE_ret rfl rfl (by (repeat (first | exact ResOk.nil | (apply ResOk.tmp; rfl) | (apply resOk_cell; rfl; exact inferInstance; rfl; rfl)))))
    all_goals first | exact ⟨rfl, rfl⟩ | (apply RL_in; (focus (exact entu0)); all_goals (first | rfl | (with_reducible assumption) | (simp; done) | (simp; omega) | omega | (constructor <;> (simp) <;> omega)))
theorem ref10_Open {F : List HP} {b : Nat} {room : Int} {l : List Miss} {line kind : Int} :
    FnF Tryz.prog 128 [.pointer (some ⟨b, 0, none⟩), .int .i64 line, .int .i64 kind] [MshR b room l] F (fun r L' => r = .int .i64 (openE room l line kind) ∧ L' = [MshR b room (openL room l line kind)]) := by
  refine FnF.mk' Tryz.func128 rfl rfl Tryz.ntmps128 rfl ?_
  by_cases hk : kind ≠ 1 ∧ kind ≠ 2
  · have e1 : openE room l line kind = 1 := if_pos hk
    have e2 : openL room l line kind = l := by unfold openL; rw [e1]; rfl
    obtain ⟨hk1, hk2⟩ := hk
    rw [e1, e2]
    repeat (first | rintro _ _ ⟨rfl, rfl⟩ | refine exq fun _ => ?_ | intro _ | refine go ?_ | refine drq ?_)
    exact fin0
  · refine RL_open fun p c hl => ?_
    have hP := fun F => ref10_placeO (F := F) (b := b) (room := room) (l := l) (line := line) (p := p) (c := c) (by omega)
    have hkk : kind = 1 ∨ ¬ kind = 1 ∧ kind = 2 := by omega
    cases h : misIn l line with
    | true =>
      obtain ⟨i, hi, e0, _, _⟩ := misIn_t h
      have e1 : openE room l line kind = 6 := by unfold openE; rw [if_neg hk, if_pos h]
      have e2 : openL room l line kind = l := by unfold openL; rw [e1]; rfl
      rw [e1, e2]
      rw [e0] at hP
      rcases hkk with h1 | ⟨h1, h2⟩
      · repeat (first | rintro _ _ ⟨rfl, rfl⟩ | refine exq fun _ => ?_ | intro _ | refine go ?_ | refine drq ?_ | refine cal @hP ?_)
        (apply WE_ret rfl rfl (by (repeat (first | exact ResOk.nil | (apply ResOk.tmp; rfl) | (apply resOk_cell; rfl; exact inferInstance; rfl; rfl)))))
        · exact ⟨rfl, rfl⟩
        · (apply RL_in; (focus (exact entu0)); all_goals (first | rfl | (with_reducible assumption) | (simp; done) | (simp; omega) | omega | (constructor <;> (simp) <;> omega)))
      · repeat (first | rintro _ _ ⟨rfl, rfl⟩ | refine exq fun _ => ?_ | intro _ | refine go ?_ | refine drq ?_ | refine cal @hP ?_)
        (apply WE_ret rfl rfl (by (repeat (first | exact ResOk.nil | (apply ResOk.tmp; rfl) | (apply resOk_cell; rfl; exact inferInstance; rfl; rfl)))))
        · exact ⟨rfl, rfl⟩
        · (apply RL_in; (focus (exact entu0)); all_goals (first | rfl | (with_reducible assumption) | (simp; done) | (simp; omega) | omega | (constructor <;> (simp) <;> omega)))
    | false =>
      rw [misIn_f h] at hP
      by_cases hf : (l.length : Int) = room
      · have e1 : openE room l line kind = 4 := by unfold openE; rw [if_neg hk, h, if_neg Bool.false_ne_true, if_pos hf]
        have e2 : openL room l line kind = l := by unfold openL; rw [e1]; rfl
        rw [e1, e2]
        rcases hkk with h1 | ⟨h1, h2⟩
        · repeat' (first | rintro _ _ ⟨rfl, rfl⟩ | refine exq fun _ => ?_ | intro _ | refine go ?_ | refine drq ?_ | refine cal @hP ?_ | refine spl ?_ ?_ | fail)
          all_goals (apply WE_ret rfl rfl (by (repeat (first | exact ResOk.nil | (apply ResOk.tmp; rfl) | (apply resOk_cell; rfl; exact inferInstance; rfl; rfl)))))
          all_goals first | exact ⟨rfl, rfl⟩ | (apply RL_in; (focus (exact entu0)); all_goals (first | rfl | (with_reducible assumption) | (simp; done) | (simp; omega) | omega | (constructor <;> (simp) <;> omega)))
        · repeat' (first | rintro _ _ ⟨rfl, rfl⟩ | refine exq fun _ => ?_ | intro _ | refine go ?_ | refine drq ?_ | refine cal @hP ?_ | refine spl ?_ ?_ | fail)
          all_goals (apply WE_ret rfl rfl (by (repeat (first | exact ResOk.nil | (apply ResOk.tmp; rfl) | (apply resOk_cell; rfl; exact inferInstance; rfl; rfl)))))
          all_goals first | exact ⟨rfl, rfl⟩ | (apply RL_in; (focus (exact entu0)); all_goals (first | rfl | (with_reducible assumption) | (simp; done) | (simp; omega) | omega | (constructor <;> (simp) <;> omega)))
      · have e1 : openE room l line kind = 0 := by unfold openE; rw [if_neg hk, h, if_neg Bool.false_ne_true, if_neg hf]
        have e2 : openL room l line kind = l ++ [⟨line, kind, -1, 0, 0, .zero, false, false⟩] := by unfold openL; rw [e1]; rfl
        rw [e1, e2]
        rcases hkk with h1 | ⟨h1, h2⟩
        · repeat' (first | rintro _ _ ⟨rfl, rfl⟩ | refine exq fun _ => ?_ | intro _ | refine go ?_ | refine drq ?_ | refine cal @hP ?_ | refine spl ?_ ?_ | fail)
          all_goals (apply WE_ret rfl rfl (by (repeat (first | exact ResOk.nil | (apply ResOk.tmp; rfl) | (apply resOk_cell; rfl; exact inferInstance; rfl; rfl)))))
          all_goals first | exact ⟨rfl, rfl⟩ | (apply RL_in; (focus (exact entu0)); all_goals (first | rfl | (with_reducible assumption) | (simp [flat_append, flat_one]; done) | (simp [flat_append, flat_one]; omega) | omega | (constructor <;> (simp [flat_append, flat_one]) <;> omega)))
        · repeat' (first | rintro _ _ ⟨rfl, rfl⟩ | refine exq fun _ => ?_ | intro _ | refine go ?_ | refine drq ?_ | refine cal @hP ?_ | refine spl ?_ ?_ | fail)
          all_goals (apply WE_ret rfl rfl (by (repeat (first | exact ResOk.nil | (apply ResOk.tmp; rfl) | (apply resOk_cell; rfl; exact inferInstance; rfl; rfl)))))
          all_goals first | exact ⟨rfl, rfl⟩ | (apply RL_in; (focus (exact entu0)); all_goals (first | rfl | (with_reducible assumption) | (simp [flat_append, flat_one]; done) | (simp [flat_append, flat_one]; omega) | omega | (constructor <;> (simp [flat_append, flat_one]) <;> omega)))
end Go.Sx
