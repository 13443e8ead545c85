/- What arrays of ways do, second part. The program's. My own work. -/
import Derived.Test.YtcjagmphobdbbaaArr
namespace Go.Sx
open Go Go.Proofs
set_option linter.unusedVariables false
set_option linter.unusedSectionVars false
set_option linter.unusedSimpArgs false
section
variable {P : Program} {N : Nat} {t ty : TypeId} {x y : Operand} {env : Env} {L : List HP}
theorem K_way {n bs f i j T g bb o : Nat} {z u : Value} {l : List Way} {w : Way} {cs : List Value} {C : List Value → List HP} {pos : String} {aft : Array Edge} [hZ : TZ P t n z bs]
    (hx : ev env x = some (.pointer (some ⟨bb, o, none⟩))) (hy : ev env y = some u) (hb : bb = g) (ho : o = (f + i) * 11 + j) (k : CellsAt g L T (flat wyc l) C) (hc : CO u cs) (hn : cs.length = n) (h1 : cs.all one = true)
    (hi : f + i < l.length) (hj : j + n ≤ 11) (e : splice (wyc l[f + i]) j cs = wyc w) :
    KO P N ⟨none, .store t x y, ty, pos, aft, none⟩ env L (Same env (C (flat wyc (l.set (f + i) w)))) := by
  subst hb ho
  have hl : (flat wyc l).length = l.length * 11 := flat_length (enc := wyc) (n := 11) (fun _ => rfl) l
  have hle : (f + i) * 11 + 11 ≤ l.length * 11 := by have := Nat.mul_le_mul_right 11 (show f + i + 1 ≤ l.length by omega); omega
  have h := K_store (P := P) (N := N) (ty := ty) (pos := pos) (aft := aft) (t := t) hx hy k hc.pf hn h1 (by rw [hl, Nat.ble_eq]; omega)
  have es := splice_flatJ (enc := wyc) (n := 11) (fun _ => rfl) l (f + i) hi (j := j) (cs := cs) (x := w) (by omega) e
  rw [es] at h
  exact h
end
theorem arr_rd {g T : Nat} {c : Cfg} {l : List Way} {line : Int} (hc : checkB c = true) (hn : (l.length : Int) = c.sets * c.ways) (h : okLine c line = true) (L : List HP) :
    RdL (Cells g T (flat wyc l) :: L) 11 (wsl g (arrF c line * 11) c.ways.toNat c.ways.toNat) (waysOf c l line).length (flat wyc (waysOf c l line)) := by
  obtain ⟨k1, k2⟩ := ways_len hc hn h
  have kr := rd_ways (g := g) (T := T) (cap := c.ways.toNat) k2
  rw [← waysOf_ok h] at kr
  exact kr L
theorem ways_get {c : Cfg} {l : List Way} {line : Int} {i : Nat} (h : okLine c line = true) (hi : i < (waysOf c l line).length) : ∃ h2 : arrF c line + i < l.length, (waysOf c l line)[i] = l[arrF c line + i] := by
  have hi' := hi
  simp only [waysOf_ok h, List.length_take, List.length_drop] at hi'
  refine ⟨by omega, ?_⟩
  simp only [waysOf_ok h, List.getElem_take, List.getElem_drop]
theorem arrP_ok {c : Cfg} {l : List Way} {line : Int} (h : 0 ≤ arrP c l line) : okLine c line = true := by
  cases e : okLine c line with
  | true => rfl
  | false =>
    exfalso
    unfold arrP at h
    rw [waysOf_no e] at h
    simp [indexBy] at h
theorem arrP_nat {c : Cfg} {l : List Way} {line : Int} (h : 0 ≤ arrP c l line) : ∃ i : Nat, ∃ hi : i < (waysOf c l line).length, arrP c l line = i ∧ pHas line (waysOf c l line)[i] = true ∧ ∀ j (hj : j < (waysOf c l line).length), j < i → pHas line (waysOf c l line)[j] = false := indexBy_nat h
theorem arrP_lt (c : Cfg) (l : List Way) (line : Int) : -1 ≤ arrP c l line ∧ arrP c l line < (waysOf c l line).length := indexBy_lt _ _
theorem zero_flat (n : Nat) : (List.replicate n (wyc .zero)).flatten = flat wyc (List.replicate n .zero) := by
  induction n with
  | zero => rfl
  | succ n ih => simp only [List.replicate_succ, List.flatten_cons, flat, List.flatMap_cons]; rw [ih]
theorem flat_ic_len' (l : List Int) : (flat ic l).length = l.length := by
  have := flat_length (enc := ic) (n := 1) (fun _ => rfl) l
  omega
set_option maxRecDepth 100000
set_option maxHeartbeats 4000000
attribute [local irreducible] Go.Exit.then Go.Exit.inBlock Go.Code.wp WC WO WE WQ V LoopQ FnQ Sat Star band bor IntKind.wrap WR Code.rounds WT KO
theorem arr_New {F : List HP} {c : Cfg} (hw : c.wf) (hc : checkB c = true) : FnF Try.prog 43 [c.val] [] F (fun r L' => ∃ b, r = .tuple [.pointer (some ⟨b, 0, none⟩), .int .i64 0].toArray ∧ L' = [ArrP b c (List.replicate (c.sets * c.ways).toNat .zero)]) := by
  have hC := fun F => shape_Check (F := F) hw
  simp only [checkE, hc, if_true] at hC
  obtain ⟨_, _, ⟨k, hk, e⟩, _, _, h1, h2⟩ := check_facts hc
  have hb := pow_bd hk
  have h3 : 1 ≤ c.sets ∧ c.sets ≤ 64 := by rw [e]; exact ⟨hb.1, by have := hb.2; simpa using this⟩
  have hz : c.sets * c.ways = ((c.sets.toNat * c.ways.toNat : Nat) : Int) := by rw [Int.natCast_mul, Int.toNat_of_nonneg (by omega), Int.toNat_of_nonneg (by omega)]
  have hm : c.sets.toNat * c.ways.toNat ≤ 64 * 8 := Nat.mul_le_mul (by omega) (by omega)
  refine FnF.mk' Try.func43 rfl rfl Try.ntmps43 rfl ?_
  have h0 : 0 ≤ c.sets * c.ways ∧ c.sets * c.ways ≤ 512 := by omega
  repeat (first | rintro _ _ ⟨rfl, rfl⟩ | rintro _ _ ⟨_, rfl, rfl⟩ | rintro _ _ ⟨_, _, rfl, rfl⟩ | intro _ | refine go ?_ | (refine is_draw ?_; apply WC_mix (id := 4) true _ (pl := .p 1 <| .p 3 <| .r 0 <| .r 2 <| .r 4 <| .p 5 <| .e true [(6, .p 7 <| .e true [(8, .p 9 <| .p 10 <| .done)])]); exact mixed; kernel_rfl; kernel_rfl; exact Ent.refl) | (refine is_draw ?_; refine WC_draw mixed (by kernel_rfl) ?_) | refine cal @hC ?_)
  apply WT_k; rfl; exact GIn.none; (apply K_makeSliceN; rfl; omega; omega; omega; rfl; omega; rfl); refine fresh_intro ?_; intro g; (refine ⟨by first | exact After.free | exact After.turns rfl | (refine After.still ?_; (repeat (first | exact Ent.refl | exact Ent.nil | apply Ent.pick | apply Ent.drop)); done), ?_⟩)
  repeat (first | rintro _ _ ⟨rfl, rfl⟩ | rintro _ _ ⟨_, rfl, rfl⟩ | rintro _ _ ⟨_, _, rfl, rfl⟩ | intro _ | refine go ?_ | (refine is_draw ?_; apply WC_mix (id := 4) true _ (pl := .p 1 <| .p 3 <| .r 0 <| .r 2 <| .r 4 <| .p 5 <| .e true [(6, .p 7 <| .e true [(8, .p 9 <| .p 10 <| .done)])]); exact mixed; kernel_rfl; kernel_rfl; exact Ent.refl) | (refine is_draw ?_; refine WC_draw mixed (by kernel_rfl) ?_))
  (apply WE_ret rfl rfl (by (repeat (first | exact ResOk.nil | (apply ResOk.tmp; rfl) | (apply resOk_cell; rfl; exact inferInstance; rfl; rfl)))))
  · exact ⟨_, rfl, rfl⟩
  · refine Ent.trans ?_ (arr_in (g := g) (l := List.replicate (c.sets * c.ways).toNat .zero) (n := (c.sets * c.ways).toNat) (xs := (List.replicate (c.sets * c.ways).toNat (wyc .zero)).flatten) Ent.refl (by simp) (zero_flat _) hc (by simp; omega))
    change Ent (Cells _ _ (c.cells ++ [.slice (some ⟨g, 0, none⟩) (c.sets * c.ways).toNat (c.sets * c.ways).toNat]) :: _) _
    (repeat (first | (with_reducible exact Ent.refl) | exact Ent.nil | (apply ent_pickE; (focus ((repeat (first | (with_reducible exact pk_here) | (apply pk_there))); done))) | apply Ent.drop))
theorem arr_place {F : List HP} {b : Nat} {c : Cfg} {l : List Way} {line : Int} (hw : c.wf) (hli : I64 line) :
    FnF Try.prog 94 [.pointer (some ⟨b, 0, none⟩), .int .i64 line] [ArrP b c l] F (fun r L' => r = .int .i64 (arrP c l line) ∧ L' = [ArrP b c l]) := by
  refine ⟨enters_of Try.func94 rfl rfl, fun w hs => ?_⟩
  obtain ⟨g, ⟨hc, hn⟩, hx⟩ := arr_sat hs
  refine ((arr_placeO (F := F) (b := b) (g := g) hw hli hc hn).runs w hx).mono ?_
  rintro e w' ⟨v, L', he, ⟨hv, hL⟩, hs'⟩
  subst hL
  exact ⟨v, _, he, ⟨hv, rfl⟩, (arr_in Ent.refl rfl rfl hc hn).sat hs'⟩
theorem arr_Find {F : List HP} {b : Nat} {c : Cfg} {l : List Way} {line : Int} (hw : c.wf) (hli : I64 line) :
    FnF Try.prog 49 [.pointer (some ⟨b, 0, none⟩), .int .i64 line] [ArrP b c l] F (fun r L' => r = .tuple [wyv (findW c l line), .int .i64 (findI c l line), .bool (findB c l line)].toArray ∧ L' = [ArrP b c l]) := by
  refine FnF.mk' Try.func49 rfl rfl Try.ntmps49 rfl ?_
  refine arr_open fun g hf => ?_
  obtain ⟨hc, hn⟩ := hf
  have hP := fun F => arr_placeO (F := F) (b := b) (g := g) hw hli hc hn
  by_cases h : arrP c l line < 0
  · have e1 : findW c l line = .zero := if_pos h
    have e2 : findI c l line = 0 := if_pos h
    have e3 : findB c l line = false := by simp [findB, h]
    rw [e1, e2, e3]
    repeat (first | rintro _ _ ⟨rfl, rfl⟩ | rintro _ _ ⟨_, rfl, rfl⟩ | rintro _ _ ⟨_, _, rfl, rfl⟩ | intro _ | refine go ?_ | (refine is_draw ?_; refine WC_draw mixed (by kernel_rfl) ?_) | refine cal @hP ?_)
    (apply WE_ret rfl rfl (by (repeat (first | exact ResOk.nil | (apply ResOk.tmp; rfl) | (apply resOk_cell; rfl; exact inferInstance; rfl; rfl)))))
    · exact ⟨rfl, rfl⟩
    · (apply arr_in; (focus ((repeat (first | (with_reducible exact Ent.refl) | exact Ent.nil | (apply ent_pickE; (focus ((repeat (first | (with_reducible exact pk_here) | (apply pk_there))); done))) | apply Ent.drop)); done)); all_goals (first | rfl | (with_reducible assumption) | (simp; done) | (simp; omega) | omega | (constructor <;> (simp) <;> omega)))
  · have hok := arrP_ok (by omega : 0 ≤ arrP c l line)
    obtain ⟨i, hi, ei, _, _⟩ := arrP_nat (by omega : 0 ≤ arrP c l line)
    have e1 : findW c l line = (waysOf c l line)[i] := by unfold findW; rw [if_neg h, ei, Int.toNat_natCast]; exact (getD_at hi).symm
    have e2 : findI c l line = i := by unfold findI; rw [if_neg h, ei]
    have e3 : findB c l line = true := by simp [findB, h]
    rw [e1, e2, e3]
    rw [ei] at hP
    have hO := fun F => arr_of (F := F) (b := b) (g := g) hw hli hc hn hok
    haveI kr := arr_rd (g := g) (T := 97) hc hn hok
    repeat (first | rintro _ _ ⟨rfl, rfl⟩ | rintro _ _ ⟨_, rfl, rfl⟩ | rintro _ _ ⟨_, _, rfl, rfl⟩ | intro _ | refine go ?_ | (refine is_draw ?_; refine WC_draw mixed (by kernel_rfl) ?_) | refine cal @hP ?_ | refine cal @hO ?_)
    (apply WE_ret rfl rfl (by (repeat (first | exact ResOk.nil | (apply ResOk.tmp; rfl) | (apply resOk_cell; rfl; exact inferInstance; rfl; rfl)))))
    · exact ⟨rfl, rfl⟩
    · (apply arr_in; (focus ((repeat (first | (with_reducible exact Ent.refl) | exact Ent.nil | (apply ent_pickE; (focus ((repeat (first | (with_reducible exact pk_here) | (apply pk_there))); done))) | apply Ent.drop)); done)); all_goals (first | rfl | (with_reducible assumption) | (simp; done) | (simp; omega) | omega | (constructor <;> (simp) <;> omega)))
theorem arr_Free {F : List HP} {b : Nat} {c : Cfg} {l : List Way} {line : Int} (hw : c.wf) (hli : I64 line) :
    FnF Try.prog 51 [.pointer (some ⟨b, 0, none⟩), .int .i64 line] [ArrP b c l] F (fun r L' => r = .int .i64 (arrFree c l line) ∧ L' = [ArrP b c l]) := by
  refine FnF.mk' Try.func51 rfl rfl Try.ntmps51 rfl ?_
  refine arr_open fun g hf => ?_
  obtain ⟨hc, hn⟩ := hf
  cases h : okLine c line with
  | true =>
    obtain ⟨k1, k2⟩ := ways_len hc hn h
    have hO := fun F => arr_of (F := F) (b := b) (g := g) hw hli hc hn h
    haveI kr := arr_rd (g := g) (T := 97) hc hn h
    have hb : c.ways.toNat ≤ 512 := by have := (arr_nums hc hn).2.2.2.2.2; omega
    have hI := fun F (k : RdL F 11 (wsl g (arrF c line * 11) c.ways.toNat c.ways.toNat) (waysOf c l line).length (flat wyc (waysOf c l line))) =>
      sl_IndexFunc_way (F := F) (v := wsl g (arrF c line * 11) c.ways.toNat c.ways.toNat) (l := waysOf c l line) (fk := 97) (first := []) (cap := []) (p := fun w => !thereB w) k (by omega) (fun x _ => arr_free1)
    repeat (first | rintro _ _ ⟨rfl, rfl⟩ | rintro _ _ ⟨_, rfl, rfl⟩ | rintro _ _ ⟨_, _, rfl, rfl⟩ | intro _ | refine go ?_ | (refine is_draw ?_; refine WC_draw mixed (by kernel_rfl) ?_) | refine cal @hO ?_ | refine cal @hI ?_)
    (apply WE_ret rfl rfl (by (repeat (first | exact ResOk.nil | (apply ResOk.tmp; rfl) | (apply resOk_cell; rfl; exact inferInstance; rfl; rfl)))))
    · exact ⟨rfl, rfl⟩
    · (apply arr_in; (focus ((repeat (first | (with_reducible exact Ent.refl) | exact Ent.nil | (apply ent_pickE; (focus ((repeat (first | (with_reducible exact pk_here) | (apply pk_there))); done))) | apply Ent.drop)); done)); all_goals (first | rfl | (with_reducible assumption) | (simp; done) | (simp; omega) | omega | (constructor <;> (simp) <;> omega)))
  | false =>
    have hO := fun F => arr_of_no (F := F) (b := b) (g := g) (l := l) hw hli h
    have hI := fun F => sl_IndexFunc_way (F := F) (v := .slice none 0 0) (l := []) (fk := 97) (first := []) (cap := []) (p := fun w => !thereB w) rd_empty (by simp) (fun x _ => arr_free1)
    have e1 : arrFree c l line = -1 := by unfold arrFree; rw [waysOf_no h]; rfl
    rw [e1]
    repeat (first | rintro _ _ ⟨rfl, rfl⟩ | rintro _ _ ⟨_, rfl, rfl⟩ | rintro _ _ ⟨_, _, rfl, rfl⟩ | intro _ | refine go ?_ | (refine is_draw ?_; refine WC_draw mixed (by kernel_rfl) ?_) | refine cal @hO ?_ | refine cal @hI ?_)
    (apply WE_ret rfl rfl (by (repeat (first | exact ResOk.nil | (apply ResOk.tmp; rfl) | (apply resOk_cell; rfl; exact inferInstance; rfl; rfl)))))
    · exact ⟨rfl, rfl⟩
    · (apply arr_in; (focus ((repeat (first | (with_reducible exact Ent.refl) | exact Ent.nil | (apply ent_pickE; (focus ((repeat (first | (with_reducible exact pk_here) | (apply pk_there))); done))) | apply Ent.drop)); done)); all_goals (first | rfl | (with_reducible assumption) | (simp; done) | (simp; omega) | omega | (constructor <;> (simp) <;> omega)))
theorem arr_At {F : List HP} {b : Nat} {c : Cfg} {l : List Way} {s k : Int} :
    FnF Try.prog 56 [.pointer (some ⟨b, 0, none⟩), .int .i64 s, .int .i64 k] [ArrP b c l] F (fun r L' => r = .tuple [wyv (atW c l s k), .bool (inWay c s k)].toArray ∧ L' = [ArrP b c l]) := by
  refine FnF.mk' Try.func56 rfl rfl Try.ntmps56 rfl ?_
  refine arr_open fun g hf => ?_
  obtain ⟨hc, hn⟩ := hf
  cases h : inWay c s k with
  | true =>
    have h' := h
    simp only [inWay, decide_eq_true_eq] at h'
    obtain ⟨h0, h1, h2, h3⟩ := h'
    obtain ⟨k, rfl⟩ : ∃ j : Nat, k = j := ⟨k.toNat, by omega⟩
    obtain ⟨en, h4, h5, h6, h7, h8⟩ := arr_nums hc hn
    have hr := set_room (s := s.toNat) (W := c.ways.toNat) (S := c.sets.toNat) (by omega)
    have hW := fun F => arr_ways (F := F) (b := b) (g := g) (c := c) (l := l) (s := s) hc hn h0 h1
    have kr := rd_ways (g := g) (T := 97) (l := l) (f := s.toNat * c.ways.toNat) (k := c.ways.toNat) (cap := c.ways.toNat) (by omega)
    have hkl : k < ((l.drop (s.toNat * c.ways.toNat)).take c.ways.toNat).length := by rw [List.length_take, List.length_drop]; omega
    have e1 : atW c l s k = ((l.drop (s.toNat * c.ways.toNat)).take c.ways.toNat)[k] := by
      unfold atW; rw [if_pos h, Int.toNat_natCast, List.getElem_take, List.getElem_drop]
      exact (getD_at (by rw [List.length_take, List.length_drop] at hkl; omega)).symm
    rw [e1]
    generalize (l.drop (s.toNat * c.ways.toNat)).take c.ways.toNat = m at *
    haveI := kr
    repeat (first | rintro _ _ ⟨rfl, rfl⟩ | rintro _ _ ⟨_, rfl, rfl⟩ | rintro _ _ ⟨_, _, rfl, rfl⟩ | intro _ | refine go ?_ | (refine is_draw ?_; refine WC_draw mixed (by kernel_rfl) ?_) | refine cal @hW ?_)
    (apply WE_ret rfl rfl (by (repeat (first | exact ResOk.nil | (apply ResOk.tmp; rfl) | (apply resOk_cell; rfl; exact inferInstance; rfl; rfl)))))
    · exact ⟨rfl, rfl⟩
    · (apply arr_in; (focus ((repeat (first | (with_reducible exact Ent.refl) | exact Ent.nil | (apply ent_pickE; (focus ((repeat (first | (with_reducible exact pk_here) | (apply pk_there))); done))) | apply Ent.drop)); done)); all_goals (first | rfl | (with_reducible assumption) | (simp; done) | (simp; omega) | omega | (constructor <;> (simp) <;> omega)))
  | false =>
    have e1 : atW c l s k = .zero := by unfold atW; rw [if_neg (by simp [h])]
    rw [e1]
    simp only [inWay, decide_eq_false_iff_not] at h
    repeat' (first | rintro _ _ ⟨rfl, rfl⟩ | rintro _ _ ⟨_, rfl, rfl⟩ | rintro _ _ ⟨_, _, rfl, rfl⟩ | intro _ | refine go ?_ | (refine is_draw ?_; refine WC_draw mixed (by kernel_rfl) ?_) | refine spl ?_ ?_ | fail)
    all_goals first | (exfalso; omega) | skip
    all_goals (apply WE_ret rfl rfl (by (repeat (first | exact ResOk.nil | (apply ResOk.tmp; rfl) | (apply resOk_cell; rfl; exact inferInstance; rfl; rfl)))))
    all_goals first | exact ⟨rfl, rfl⟩ | (apply arr_in; (focus ((repeat (first | (with_reducible exact Ent.refl) | exact Ent.nil | (apply ent_pickE; (focus ((repeat (first | (with_reducible exact pk_here) | (apply pk_there))); done))) | apply Ent.drop)); done)); all_goals (first | rfl | (with_reducible assumption) | (simp; done) | (simp; omega) | omega | (constructor <;> (simp) <;> omega)))
theorem arr_Lay {F : List HP} {b : Nat} {c : Cfg} {l : List Way} {line way : Int} (hw : c.wf) (hli : I64 line) :
    FnF Try.prog 92 [.pointer (some ⟨b, 0, none⟩), .int .i64 line, .int .i64 way] [ArrP b c l] F (fun r L' => r = .int .i64 (layE c l line way) ∧ L' = [ArrP b c (layL c l line way)]) := by
  refine FnF.mk' Try.func92 rfl rfl Try.ntmps92 rfl ?_
  refine arr_open fun g hf => ?_
  obtain ⟨hc, hn⟩ := hf
  have hP := fun F => arr_placeO (F := F) (b := b) (g := g) hw hli hc hn
  cases h : okLine c line with
  | false =>
    have hO := fun F => arr_of_no (F := F) (b := b) (g := g) (l := l) hw hli h
    have e1 : layE c l line way = 1 := by unfold layE; rw [waysOf_no h, if_neg (by simp only [List.length_nil]; omega)]
    have e2 : layL c l line way = l := by unfold layL; rw [e1]; rfl
    rw [e1, e2]
    by_cases h0 : way < 0
    · repeat (first | rintro _ _ ⟨rfl, rfl⟩ | rintro _ _ ⟨_, rfl, rfl⟩ | rintro _ _ ⟨_, _, rfl, rfl⟩ | intro _ | refine go ?_ | (refine is_draw ?_; refine WC_draw mixed (by kernel_rfl) ?_) | refine cal @hO ?_)
      (apply WE_ret rfl rfl (by (repeat (first | exact ResOk.nil | (apply ResOk.tmp; rfl) | (apply resOk_cell; rfl; exact inferInstance; rfl; rfl)))))
      · exact ⟨rfl, rfl⟩
      · (apply arr_in; (focus ((repeat (first | (with_reducible exact Ent.refl) | exact Ent.nil | (apply ent_pickE; (focus ((repeat (first | (with_reducible exact pk_here) | (apply pk_there))); done))) | apply Ent.drop)); done)); all_goals (first | rfl | (with_reducible assumption) | (simp; done) | (simp; omega) | omega | (constructor <;> (simp) <;> omega)))
    · repeat (first | rintro _ _ ⟨rfl, rfl⟩ | rintro _ _ ⟨_, rfl, rfl⟩ | rintro _ _ ⟨_, _, rfl, rfl⟩ | intro _ | refine go ?_ | (refine is_draw ?_; refine WC_draw mixed (by kernel_rfl) ?_) | refine cal @hO ?_)
      (apply WE_ret rfl rfl (by (repeat (first | exact ResOk.nil | (apply ResOk.tmp; rfl) | (apply resOk_cell; rfl; exact inferInstance; rfl; rfl)))))
      · exact ⟨rfl, rfl⟩
      · (apply arr_in; (focus ((repeat (first | (with_reducible exact Ent.refl) | exact Ent.nil | (apply ent_pickE; (focus ((repeat (first | (with_reducible exact pk_here) | (apply pk_there))); done))) | apply Ent.drop)); done)); all_goals (first | rfl | (with_reducible assumption) | (simp; done) | (simp; omega) | omega | (constructor <;> (simp) <;> omega)))
  | true =>
    have hO := fun F => arr_of (F := F) (b := b) (g := g) hw hli hc hn h
    haveI kr := arr_rd (g := g) (T := 97) hc hn h
    obtain ⟨k1, k2⟩ := ways_len hc hn h
    obtain ⟨_, _, _, _, _, h8⟩ := arr_nums hc hn
    by_cases h0 : 0 ≤ way ∧ way < (waysOf c l line).length
    · obtain ⟨i, rfl⟩ : ∃ j : Nat, way = j := ⟨way.toNat, by omega⟩
      have hi : i < (waysOf c l line).length := by omega
      obtain ⟨hi2, _⟩ := ways_get h hi
      have hg : (waysOf c l line).getD i .zero = (waysOf c l line)[i] := (getD_at hi).symm
      by_cases hp : arrP c l line = -1
      · rw [hp] at hP
        have hT := fun F => arr_there (F := F) (w := (waysOf c l line)[i])
        cases ht : thereB (waysOf c l line)[i] with
        | true =>
          rw [ht] at hT
          have e1 : layE c l line i = 4 := by unfold layE; rw [if_pos h0, if_pos hp, Int.toNat_natCast, hg, ht]; rfl
          have e2 : layL c l line i = l := by unfold layL; rw [e1]; rfl
          rw [e1, e2]
          repeat (first | rintro _ _ ⟨rfl, rfl⟩ | rintro _ _ ⟨_, rfl, rfl⟩ | rintro _ _ ⟨_, _, rfl, rfl⟩ | intro _ | refine go ?_ | (refine is_draw ?_; refine WC_draw mixed (by kernel_rfl) ?_) | refine cal @hO ?_ | refine cal @hP ?_ | refine cal @hT ?_)
          (apply WE_ret rfl rfl (by (repeat (first | exact ResOk.nil | (apply ResOk.tmp; rfl) | (apply resOk_cell; rfl; exact inferInstance; rfl; rfl)))))
          · exact ⟨rfl, rfl⟩
          · (apply arr_in; (focus ((repeat (first | (with_reducible exact Ent.refl) | exact Ent.nil | (apply ent_pickE; (focus ((repeat (first | (with_reducible exact pk_here) | (apply pk_there))); done))) | apply Ent.drop)); done)); all_goals (first | rfl | (with_reducible assumption) | (simp; done) | (simp; omega) | omega | (constructor <;> (simp) <;> omega)))
        | false =>
          rw [ht] at hT
          have e1 : layE c l line i = 0 := by unfold layE; rw [if_pos h0, if_pos hp, Int.toNat_natCast, hg, ht]; rfl
          have e2 : layL c l line i = l.set (arrF c line + i) ⟨0, line, .zero, true⟩ := by unfold layL; rw [e1, Int.toNat_natCast]; rfl
          rw [e1, e2]
          repeat (first | rintro _ _ ⟨rfl, rfl⟩ | rintro _ _ ⟨_, rfl, rfl⟩ | rintro _ _ ⟨_, _, rfl, rfl⟩ | intro _ | refine go ?_ | (refine is_draw ?_; refine WC_draw mixed (by kernel_rfl) ?_) | refine cal @hO ?_ | refine cal @hP ?_ | refine cal @hT ?_)
          apply WO_k; rfl; (refine K_way (f := arrF c line) (i := i) (j := 0) (w := ⟨0, line, .zero, true⟩) (by rfl) (by rfl) (by exact pb_wsl) (by rw [po_wsl, Nat.add_mul] <;> rfl) (by exact inferInstance) (by exact inferInstance) (by rfl) (by rfl) hi2 (by decide) (by rfl)); refine same_intro ?_
          repeat (first | rintro _ _ ⟨rfl, rfl⟩ | rintro _ _ ⟨_, rfl, rfl⟩ | rintro _ _ ⟨_, _, rfl, rfl⟩ | intro _ | refine go ?_ | (refine is_draw ?_; refine WC_draw mixed (by kernel_rfl) ?_))
          (apply WE_ret rfl rfl (by (repeat (first | exact ResOk.nil | (apply ResOk.tmp; rfl) | (apply resOk_cell; rfl; exact inferInstance; rfl; rfl)))))
          · exact ⟨rfl, rfl⟩
          · (apply arr_in; (focus ((repeat (first | (with_reducible exact Ent.refl) | exact Ent.nil | (apply ent_pickE; (focus ((repeat (first | (with_reducible exact pk_here) | (apply pk_there))); done))) | apply Ent.drop)); done)); all_goals (first | rfl | (with_reducible assumption) | (simp; done) | (simp; omega) | omega | (constructor <;> (simp) <;> omega)))
      · have e1 : layE c l line i = 6 := by unfold layE; rw [if_pos h0, if_neg hp]
        have e2 : layL c l line i = l := by unfold layL; rw [e1]; rfl
        rw [e1, e2]
        repeat (first | rintro _ _ ⟨rfl, rfl⟩ | rintro _ _ ⟨_, rfl, rfl⟩ | rintro _ _ ⟨_, _, rfl, rfl⟩ | intro _ | refine go ?_ | (refine is_draw ?_; refine WC_draw mixed (by kernel_rfl) ?_) | refine cal @hO ?_ | refine cal @hP ?_)
        (apply WE_ret rfl rfl (by (repeat (first | exact ResOk.nil | (apply ResOk.tmp; rfl) | (apply resOk_cell; rfl; exact inferInstance; rfl; rfl)))))
        · exact ⟨rfl, rfl⟩
        · (apply arr_in; (focus ((repeat (first | (with_reducible exact Ent.refl) | exact Ent.nil | (apply ent_pickE; (focus ((repeat (first | (with_reducible exact pk_here) | (apply pk_there))); done))) | apply Ent.drop)); done)); all_goals (first | rfl | (with_reducible assumption) | (simp; done) | (simp; omega) | omega | (constructor <;> (simp) <;> omega)))
    · have e1 : layE c l line way = 1 := if_neg h0
      have e2 : layL c l line way = l := by unfold layL; rw [e1]; rfl
      rw [e1, e2]
      by_cases h0' : way < 0
      · repeat (first | rintro _ _ ⟨rfl, rfl⟩ | rintro _ _ ⟨_, rfl, rfl⟩ | rintro _ _ ⟨_, _, rfl, rfl⟩ | intro _ | refine go ?_ | (refine is_draw ?_; refine WC_draw mixed (by kernel_rfl) ?_) | refine cal @hO ?_)
        (apply WE_ret rfl rfl (by (repeat (first | exact ResOk.nil | (apply ResOk.tmp; rfl) | (apply resOk_cell; rfl; exact inferInstance; rfl; rfl)))))
        · exact ⟨rfl, rfl⟩
        · (apply arr_in; (focus ((repeat (first | (with_reducible exact Ent.refl) | exact Ent.nil | (apply ent_pickE; (focus ((repeat (first | (with_reducible exact pk_here) | (apply pk_there))); done))) | apply Ent.drop)); done)); all_goals (first | rfl | (with_reducible assumption) | (simp; done) | (simp; omega) | omega | (constructor <;> (simp) <;> omega)))
      · repeat (first | rintro _ _ ⟨rfl, rfl⟩ | rintro _ _ ⟨_, rfl, rfl⟩ | rintro _ _ ⟨_, _, rfl, rfl⟩ | intro _ | refine go ?_ | (refine is_draw ?_; refine WC_draw mixed (by kernel_rfl) ?_) | refine cal @hO ?_)
        (apply WE_ret rfl rfl (by (repeat (first | exact ResOk.nil | (apply ResOk.tmp; rfl) | (apply resOk_cell; rfl; exact inferInstance; rfl; rfl)))))
        · exact ⟨rfl, rfl⟩
        · (apply arr_in; (focus ((repeat (first | (with_reducible exact Ent.refl) | exact Ent.nil | (apply ent_pickE; (focus ((repeat (first | (with_reducible exact pk_here) | (apply pk_there))); done))) | apply Ent.drop)); done)); all_goals (first | rfl | (with_reducible assumption) | (simp; done) | (simp; omega) | omega | (constructor <;> (simp) <;> omega)))
theorem arr_Lock {F : List HP} {b : Nat} {c : Cfg} {l : List Way} {line : Int} {lk : Bool} (hw : c.wf) (hli : I64 line) :
    FnF Try.prog 58 [.pointer (some ⟨b, 0, none⟩), .int .i64 line, .bool lk] [ArrP b c l] F (fun r L' => r = .int .i64 (lockE c l line) ∧ L' = [ArrP b c (lockL c l line lk)]) := by
  refine FnF.mk' Try.func58 rfl rfl Try.ntmps58 rfl ?_
  refine arr_open fun g hf => ?_
  obtain ⟨hc, hn⟩ := hf
  have hP := fun F => arr_placeO (F := F) (b := b) (g := g) hw hli hc hn
  by_cases hp : arrP c l line = -1
  · rw [hp] at hP
    have e1 : lockE c l line = 5 := if_pos hp
    have e2 : lockL c l line lk = l := by unfold lockL; rw [e1]; rfl
    rw [e1, e2]
    repeat (first | rintro _ _ ⟨rfl, rfl⟩ | rintro _ _ ⟨_, rfl, rfl⟩ | rintro _ _ ⟨_, _, rfl, rfl⟩ | intro _ | refine go ?_ | (refine is_draw ?_; refine WC_draw mixed (by kernel_rfl) ?_) | refine cal @hP ?_)
    (apply WE_ret rfl rfl (by (repeat (first | exact ResOk.nil | (apply ResOk.tmp; rfl) | (apply resOk_cell; rfl; exact inferInstance; rfl; rfl)))))
    · exact ⟨rfl, rfl⟩
    · (apply arr_in; (focus ((repeat (first | (with_reducible exact Ent.refl) | exact Ent.nil | (apply ent_pickE; (focus ((repeat (first | (with_reducible exact pk_here) | (apply pk_there))); done))) | apply Ent.drop)); done)); all_goals (first | rfl | (with_reducible assumption) | (simp; done) | (simp; omega) | omega | (constructor <;> (simp) <;> omega)))
  · have h0 : 0 ≤ arrP c l line := by have := (arrP_lt c l line).1; omega
    have hok := arrP_ok h0
    obtain ⟨i, hi, ei, _, _⟩ := arrP_nat h0
    obtain ⟨hi2, eg⟩ := ways_get hok hi
    have e1 : lockE c l line = 0 := if_neg hp
    have ew : findW c l line = l[arrF c line + i] := by unfold findW; rw [if_neg (by omega), ei, Int.toNat_natCast, ← eg]; exact (getD_at hi).symm
    have e2 : lockL c l line lk = l.set (arrF c line + i) { l[arrF c line + i] with lk := lk } := by unfold lockL; rw [e1, ei, Int.toNat_natCast, ew]; rfl
    rw [e1, e2]
    rw [ei] at hP
    have hO := fun F => arr_of (F := F) (b := b) (g := g) hw hli hc hn hok
    haveI kr := arr_rd (g := g) (T := 97) hc hn hok
    repeat (first | rintro _ _ ⟨rfl, rfl⟩ | rintro _ _ ⟨_, rfl, rfl⟩ | rintro _ _ ⟨_, _, rfl, rfl⟩ | intro _ | refine go ?_ | (refine is_draw ?_; refine WC_draw mixed (by kernel_rfl) ?_) | refine cal @hP ?_ | refine cal @hO ?_)
    apply WO_k; rfl; (refine K_way (f := arrF c line) (i := i) (j := 10) (w := { l[arrF c line + i] with lk := lk }) (by rfl) (by rfl) (by exact pb_wsl) (by rw [po_wsl, Nat.add_mul] <;> rfl) (by exact inferInstance) (by exact inferInstance) (by rfl) (by rfl) hi2 (by decide) (by rfl)); refine same_intro ?_
    repeat (first | rintro _ _ ⟨rfl, rfl⟩ | rintro _ _ ⟨_, rfl, rfl⟩ | rintro _ _ ⟨_, _, rfl, rfl⟩ | intro _ | refine go ?_ | (refine is_draw ?_; refine WC_draw mixed (by kernel_rfl) ?_))
    (apply WE_ret rfl rfl (by (repeat (first | exact ResOk.nil | (apply ResOk.tmp; rfl) | (apply resOk_cell; rfl; exact inferInstance; rfl; rfl)))))
    · exact ⟨rfl, rfl⟩
    · (apply arr_in; (focus ((repeat (first | (with_reducible exact Ent.refl) | exact Ent.nil | (apply ent_pickE; (focus ((repeat (first | (with_reducible exact pk_here) | (apply pk_there))); done))) | apply Ent.drop)); done)); all_goals (first | rfl | (with_reducible assumption) | (simp; done) | (simp; omega) | omega | (constructor <;> (simp) <;> omega)))
theorem arr_odd1 {F : List HP} {n : Int} : FnF Try.prog 130 [.int .i64 n] [] F (fun r L' => r = .bool (!decide (n = 0)) ∧ L' = []) := by
  refine FnF.mk' Try.func130 rfl rfl Try.ntmps130 rfl ?_
  by_cases h : n = 0
  · repeat (first | rintro _ _ ⟨rfl, rfl⟩ | rintro _ _ ⟨_, rfl, rfl⟩ | rintro _ _ ⟨_, _, rfl, rfl⟩ | intro _ | refine go ?_ | (refine is_draw ?_; refine WC_draw mixed (by kernel_rfl) ?_))
    (apply WE_ret rfl rfl (by (repeat (first | exact ResOk.nil | (apply ResOk.tmp; rfl) | (apply resOk_cell; rfl; exact inferInstance; rfl; rfl)))); (first | exact ⟨rfl, rfl⟩ | exact ⟨congrArg Value.bool (by decide), rfl⟩ | exact ⟨_, rfl, rfl⟩ | exact ⟨_, _, rfl, rfl⟩ | exact ⟨by first | (simp [h]; done) | (simp [h] <;> omega), rfl⟩); (repeat (first | exact Ent.refl | exact Ent.nil | apply Ent.pick | apply Ent.drop)))
  · repeat (first | rintro _ _ ⟨rfl, rfl⟩ | rintro _ _ ⟨_, rfl, rfl⟩ | rintro _ _ ⟨_, _, rfl, rfl⟩ | intro _ | refine go ?_ | (refine is_draw ?_; refine WC_draw mixed (by kernel_rfl) ?_))
    (apply WE_ret rfl rfl (by (repeat (first | exact ResOk.nil | (apply ResOk.tmp; rfl) | (apply resOk_cell; rfl; exact inferInstance; rfl; rfl)))); (first | exact ⟨rfl, rfl⟩ | exact ⟨congrArg Value.bool (by decide), rfl⟩ | exact ⟨_, rfl, rfl⟩ | exact ⟨_, _, rfl, rfl⟩ | exact ⟨by first | (simp [h]; done) | (simp [h] <;> omega), rfl⟩); (repeat (first | exact Ent.refl | exact Ent.nil | apply Ent.pick | apply Ent.drop)))
theorem rd_tail {b T : Nat} {w : Words} {k : Nat} {F : List HP} {C : List Value → List HP} (hk : k ≤ 8) (h : CellsAt b F T (wc w) C) : RdL F 1 (cut (.slice (some ⟨b, 0, none⟩) 8 8) k 8 8 1) (w.list.drop k).length (flat ic (w.list.drop k)) := by
  have k0 : RdL F 1 (.slice (some ⟨b, 0, none⟩) 8 8) 8 (wc w) := rd_cells (o := 0) (m := 8) (c := 8) (sz := 1) (b := b) h (by simp) (by rfl)
  have k1 := RdL.cut (l := k) (h := 8) (m := 8) k0 hk (Nat.le_refl _) (Nat.le_refl _)
  have e1 : (w.list.drop k).length = 8 - k := by rw [List.length_drop]; rfl
  have e2 : ((wc w).drop (k * 1)).take ((8 - k) * 1) = flat ic (w.list.drop k) := by
    have h0 : wc w = flat ic w.list := rfl
    rw [h0, Nat.mul_one, Nat.mul_one]
    have := flat_drop (enc := ic) (n := 1) (fun _ => rfl) w.list k
    rw [Nat.mul_one] at this
    rw [this, List.take_of_length_le (by rw [flat_ic_len', e1]; exact Nat.le_refl _)]
  rw [e2] at k1
  rw [e1]; exact k1
theorem arr_odd {F : List HP} {b g : Nat} {c : Cfg} {l : List Way} {w : Words} (hc : checkB c = true) :
    FnF Try.prog 101 [.pointer (some ⟨b, 0, none⟩), wv w] [acs b g c l] F (fun r L' => r = .bool (oddW c w) ∧ L' = [acs b g c l]) := by
  obtain ⟨_, _, _, ⟨k, hk, e⟩, _⟩ := check_facts hc
  have hb := pow_bd hk
  have hwd : 1 ≤ c.words ∧ c.words ≤ 8 := by rw [e]; exact ⟨hb.1, by have := hb.2; simpa using this⟩
  have hI := fun F bw C (k : CellsAt bw F 35 (wc w) C) => sl_ContainsFunc_int (F := F) (v := cut (.slice (some ⟨bw, 0, none⟩) 8 8) c.words.toNat 8 8 1) (l := w.list.drop c.words.toNat) (fk := 130) (first := []) (cap := []) (p := fun n => !decide (n = 0)) (rd_tail (by omega) k) (by rw [List.length_drop]; have := Words.list_len w; omega) (fun x _ => arr_odd1)
  refine FnF.mk' Try.func101 rfl rfl Try.ntmps101 rfl ?_
  repeat (first | rintro _ _ ⟨rfl, rfl⟩ | rintro _ _ ⟨_, rfl, rfl⟩ | rintro _ _ ⟨_, _, rfl, rfl⟩ | intro _ | refine go ?_ | (refine is_draw ?_; refine WC_draw mixed (by kernel_rfl) ?_) | refine cal @hI ?_)
  (apply WE_ret rfl rfl (by (repeat (first | exact ResOk.nil | (apply ResOk.tmp; rfl) | (apply resOk_cell; rfl; exact inferInstance; rfl; rfl)))); (first | exact ⟨rfl, rfl⟩ | exact ⟨congrArg Value.bool (by decide), rfl⟩ | exact ⟨_, rfl, rfl⟩ | exact ⟨_, _, rfl, rfl⟩ | exact ⟨by first | (simp [oddW]; done) | (simp [oddW] <;> omega), rfl⟩); (repeat (first | exact Ent.refl | exact Ent.nil | apply Ent.pick | apply Ent.drop)))
theorem arr_Set {F : List HP} {b : Nat} {c : Cfg} {l : List Way} {line st : Int} {w : Words} (hw : c.wf) (hli : I64 line) :
    FnF Try.prog 57 [.pointer (some ⟨b, 0, none⟩), .int .i64 line, .int .i64 st, wv w] [ArrP b c l] F (fun r L' => r = .int .i64 (setE c l line st w) ∧ L' = [ArrP b c (setL c l line st w)]) := by
  refine FnF.mk' Try.func57 rfl rfl Try.ntmps57 rfl ?_
  refine arr_open fun g hf => ?_
  obtain ⟨hc, hn⟩ := hf
  have hP := fun F => arr_placeO (F := F) (b := b) (g := g) hw hli hc hn
  have hOd := fun F => arr_odd (F := F) (b := b) (g := g) (l := l) (w := w) hc
  by_cases hp : arrP c l line = -1
  · rw [hp] at hP
    have e1 : setE c l line st w = 5 := if_pos hp
    have e2 : setL c l line st w = l := by unfold setL; rw [e1]; rfl
    rw [e1, e2]
    repeat (first | rintro _ _ ⟨rfl, rfl⟩ | rintro _ _ ⟨_, rfl, rfl⟩ | rintro _ _ ⟨_, _, rfl, rfl⟩ | intro _ | refine go ?_ | (refine is_draw ?_; apply WC_mix (id := 9) true [] (pl := .p 0 <| .p 1 <| .p 2 <| .p 4 <| .p 5 <| .e true [(3, .e true [(6, .p 7 <| .p 8 <| .e false [(9, .done)])]), (6, .e false [(3, .p 7 <| .p 8 <| .e false [(9, .done)])])]); exact mixed; kernel_rfl; kernel_rfl; exact Ent.nil) | (refine is_draw ?_; refine WC_draw mixed (by kernel_rfl) ?_) | refine cal @hP ?_)
    (apply WE_ret rfl rfl (by (repeat (first | exact ResOk.nil | (apply ResOk.tmp; rfl) | (apply resOk_cell; rfl; exact inferInstance; rfl; rfl)))))
    · exact ⟨rfl, rfl⟩
    · (apply arr_in; (focus ((repeat (first | (with_reducible exact Ent.refl) | exact Ent.nil | (apply ent_pickE; (focus ((repeat (first | (with_reducible exact pk_here) | (apply pk_there))); done))) | apply Ent.drop)); done)); all_goals (first | rfl | (with_reducible assumption) | (simp; done) | (simp; omega) | omega | (constructor <;> (simp) <;> omega)))
  · have h0 : 0 ≤ arrP c l line := by have := (arrP_lt c l line).1; omega
    have hok := arrP_ok h0
    obtain ⟨i, hi, ei, _, _⟩ := arrP_nat h0
    obtain ⟨hi2, eg⟩ := ways_get hok hi
    have ew : findW c l line = l[arrF c line + i] := by unfold findW; rw [if_neg (by omega), ei, Int.toNat_natCast, ← eg]; exact (getD_at hi).symm
    rw [ei] at hP
    have hO := fun F => arr_of (F := F) (b := b) (g := g) hw hli hc hn hok
    haveI kr := arr_rd (g := g) (T := 97) hc hn hok
    by_cases hs : st < 0 ∨ st > 4
    · have e1 : setE c l line st w = 1 := by unfold setE; rw [if_neg hp, if_pos (by omega)]
      have e2 : setL c l line st w = l := by unfold setL; rw [e1]; rfl
      rw [e1, e2]
      by_cases hs0 : st < 0
      · repeat (first | rintro _ _ ⟨rfl, rfl⟩ | rintro _ _ ⟨_, rfl, rfl⟩ | rintro _ _ ⟨_, _, rfl, rfl⟩ | intro _ | refine go ?_ | (refine is_draw ?_; apply WC_mix (id := 9) true [] (pl := .p 0 <| .p 1 <| .p 2 <| .p 4 <| .p 5 <| .e true [(3, .e true [(6, .p 7 <| .p 8 <| .e false [(9, .done)])]), (6, .e false [(3, .p 7 <| .p 8 <| .e false [(9, .done)])])]); exact mixed; kernel_rfl; kernel_rfl; exact Ent.nil) | (refine is_draw ?_; refine WC_draw mixed (by kernel_rfl) ?_) | refine cal @hP ?_)
        (apply WE_ret rfl rfl (by (repeat (first | exact ResOk.nil | (apply ResOk.tmp; rfl) | (apply resOk_cell; rfl; exact inferInstance; rfl; rfl)))))
        · exact ⟨rfl, rfl⟩
        · (apply arr_in; (focus ((repeat (first | (with_reducible exact Ent.refl) | exact Ent.nil | (apply ent_pickE; (focus ((repeat (first | (with_reducible exact pk_here) | (apply pk_there))); done))) | apply Ent.drop)); done)); all_goals (first | rfl | (with_reducible assumption) | (simp; done) | (simp; omega) | omega | (constructor <;> (simp) <;> omega)))
      · repeat (first | rintro _ _ ⟨rfl, rfl⟩ | rintro _ _ ⟨_, rfl, rfl⟩ | rintro _ _ ⟨_, _, rfl, rfl⟩ | intro _ | refine go ?_ | (refine is_draw ?_; apply WC_mix (id := 9) true [] (pl := .p 0 <| .p 1 <| .p 2 <| .p 4 <| .p 5 <| .e true [(3, .e true [(6, .p 7 <| .p 8 <| .e false [(9, .done)])]), (6, .e false [(3, .p 7 <| .p 8 <| .e false [(9, .done)])])]); exact mixed; kernel_rfl; kernel_rfl; exact Ent.nil) | (refine is_draw ?_; refine WC_draw mixed (by kernel_rfl) ?_) | refine cal @hP ?_)
        (apply WE_ret rfl rfl (by (repeat (first | exact ResOk.nil | (apply ResOk.tmp; rfl) | (apply resOk_cell; rfl; exact inferInstance; rfl; rfl)))))
        · exact ⟨rfl, rfl⟩
        · (apply arr_in; (focus ((repeat (first | (with_reducible exact Ent.refl) | exact Ent.nil | (apply ent_pickE; (focus ((repeat (first | (with_reducible exact pk_here) | (apply pk_there))); done))) | apply Ent.drop)); done)); all_goals (first | rfl | (with_reducible assumption) | (simp; done) | (simp; omega) | omega | (constructor <;> (simp) <;> omega)))
    · cases ho : oddW c w with
      | true =>
        rw [ho] at hOd
        have e1 : setE c l line st w = 1 := by unfold setE; rw [if_neg hp, if_pos (.inr (.inr ho))]
        have e2 : setL c l line st w = l := by unfold setL; rw [e1]; rfl
        rw [e1, e2]
        repeat (first | rintro _ _ ⟨rfl, rfl⟩ | rintro _ _ ⟨_, rfl, rfl⟩ | rintro _ _ ⟨_, _, rfl, rfl⟩ | intro _ | refine go ?_ | (refine is_draw ?_; apply WC_mix (id := 9) true [] (pl := .p 0 <| .p 1 <| .p 2 <| .p 4 <| .p 5 <| .e true [(3, .e true [(6, .p 7 <| .p 8 <| .e false [(9, .done)])]), (6, .e false [(3, .p 7 <| .p 8 <| .e false [(9, .done)])])]); exact mixed; kernel_rfl; kernel_rfl; exact Ent.nil) | (refine is_draw ?_; refine WC_draw mixed (by kernel_rfl) ?_) | refine cal @hP ?_ | refine cal @hOd ?_)
        (apply WE_ret rfl rfl (by (repeat (first | exact ResOk.nil | (apply ResOk.tmp; rfl) | (apply resOk_cell; rfl; exact inferInstance; rfl; rfl)))))
        · exact ⟨rfl, rfl⟩
        · (apply arr_in; (focus ((repeat (first | (with_reducible exact Ent.refl) | exact Ent.nil | (apply ent_pickE; (focus ((repeat (first | (with_reducible exact pk_here) | (apply pk_there))); done))) | apply Ent.drop)); done)); all_goals (first | rfl | (with_reducible assumption) | (simp; done) | (simp; omega) | omega | (constructor <;> (simp) <;> omega)))
      | false =>
        rw [ho] at hOd
        have e1 : setE c l line st w = 0 := by unfold setE; rw [if_neg hp, if_neg (by rw [ho]; simp; omega)]
        by_cases hz : st = 0
        · have e2 : setL c l line st w = l.set (arrF c line + i) { l[arrF c line + i] with st := st, words := .zero } := by unfold setL; rw [e1, ei, Int.toNat_natCast, ew, if_pos hz]; rfl
          rw [e1, e2]
          repeat' (first | rintro _ _ ⟨rfl, rfl⟩ | rintro _ _ ⟨_, rfl, rfl⟩ | rintro _ _ ⟨_, _, rfl, rfl⟩ | intro _ | refine go ?_ | (refine is_draw ?_; apply WC_mix (id := 9) true [] (pl := .p 0 <| .p 1 <| .p 2 <| .p 4 <| .p 5 <| .e true [(3, .e true [(6, .p 7 <| .p 8 <| .e false [(9, .done)])]), (6, .e false [(3, .p 7 <| .p 8 <| .e false [(9, .done)])])]); exact mixed; kernel_rfl; kernel_rfl; exact Ent.nil) | (refine is_draw ?_; refine WC_draw mixed (by kernel_rfl) ?_) | refine cal @hP ?_ | refine cal @hOd ?_ | refine cal @hO ?_ | refine spl ?_ ?_ | fail)
          · apply WT_k; rfl; exact GIn.none; (refine K_way (l := l) (f := arrF c line) (i := i) (j := 0) (w := { l[arrF c line + i] with st := st }) (by rfl) (by rfl) (by exact pb_wsl) (by rw [po_wsl, Nat.add_mul] <;> rfl) (by exact inferInstance) (by exact inferInstance) (by rfl) (by rfl) hi2 (by decide) (by rfl)); refine same_intro ?_; (refine ⟨by first | exact After.free | exact After.turns rfl | (refine After.still ?_; (repeat (first | exact Ent.refl | exact Ent.nil | apply Ent.pick | apply Ent.drop)); done), ?_⟩)
            repeat (first | rintro _ _ ⟨rfl, rfl⟩ | rintro _ _ ⟨_, rfl, rfl⟩ | rintro _ _ ⟨_, _, rfl, rfl⟩ | intro _ | refine go ?_ | (refine is_draw ?_; apply WC_mix (id := 9) true [] (pl := .p 0 <| .p 1 <| .p 2 <| .p 4 <| .p 5 <| .e true [(3, .e true [(6, .p 7 <| .p 8 <| .e false [(9, .done)])]), (6, .e false [(3, .p 7 <| .p 8 <| .e false [(9, .done)])])]); exact mixed; kernel_rfl; kernel_rfl; exact Ent.nil) | (refine is_draw ?_; refine WC_draw mixed (by kernel_rfl) ?_))
            apply WT_k; rfl; exact GIn.none; (refine K_way (l := l.set (arrF c line + i) { l[arrF c line + i] with st := st }) (f := arrF c line) (i := i) (j := 2) (w := { l[arrF c line + i] with st := st, words := .zero }) (by rfl) (by rfl) (by exact pb_wsl) (by rw [po_wsl, Nat.add_mul] <;> rfl) (by exact inferInstance) (by exact inferInstance) (by rfl) (by rfl) (by rw [List.length_set]; exact hi2) (by decide) (by rw [List.getElem_set_self]; rfl)); refine same_intro ?_; (refine ⟨by first | exact After.free | exact After.turns rfl | (refine After.still ?_; (repeat (first | exact Ent.refl | exact Ent.nil | apply Ent.pick | apply Ent.drop)); done), ?_⟩)
            repeat (first | rintro _ _ ⟨rfl, rfl⟩ | rintro _ _ ⟨_, rfl, rfl⟩ | rintro _ _ ⟨_, _, rfl, rfl⟩ | intro _ | refine go ?_ | (refine is_draw ?_; apply WC_mix (id := 9) true [] (pl := .p 0 <| .p 1 <| .p 2 <| .p 4 <| .p 5 <| .e true [(3, .e true [(6, .p 7 <| .p 8 <| .e false [(9, .done)])]), (6, .e false [(3, .p 7 <| .p 8 <| .e false [(9, .done)])])]); exact mixed; kernel_rfl; kernel_rfl; exact Ent.nil) | (refine is_draw ?_; refine WC_draw mixed (by kernel_rfl) ?_))
            rw [List.set_set]
            (apply WE_ret rfl rfl (by (repeat (first | exact ResOk.nil | (apply ResOk.tmp; rfl) | (apply resOk_cell; rfl; exact inferInstance; rfl; rfl)))))
            · exact ⟨rfl, rfl⟩
            · (apply arr_in; (focus ((repeat (first | (with_reducible exact Ent.refl) | exact Ent.nil | (apply ent_pickE; (focus ((repeat (first | (with_reducible exact pk_here) | (apply pk_there))); done))) | apply Ent.drop)); done)); all_goals (first | rfl | (with_reducible assumption) | (simp; done) | (simp; omega) | omega | (constructor <;> (simp) <;> omega)))
          · apply WT_k; rfl; exact GIn.none; (refine K_way (l := l) (f := arrF c line) (i := i) (j := 0) (w := { l[arrF c line + i] with st := st }) (by rfl) (by rfl) (by exact pb_wsl) (by rw [po_wsl, Nat.add_mul] <;> rfl) (by exact inferInstance) (by exact inferInstance) (by rfl) (by rfl) hi2 (by decide) (by rfl)); refine same_intro ?_; (refine ⟨by first | exact After.free | exact After.turns rfl | (refine After.still ?_; (repeat (first | exact Ent.refl | exact Ent.nil | apply Ent.pick | apply Ent.drop)); done), ?_⟩)
            repeat (first | rintro _ _ ⟨rfl, rfl⟩ | rintro _ _ ⟨_, rfl, rfl⟩ | rintro _ _ ⟨_, _, rfl, rfl⟩ | intro _ | refine go ?_ | (refine is_draw ?_; apply WC_mix (id := 9) true [] (pl := .p 0 <| .p 1 <| .p 2 <| .p 4 <| .p 5 <| .e true [(3, .e true [(6, .p 7 <| .p 8 <| .e false [(9, .done)])]), (6, .e false [(3, .p 7 <| .p 8 <| .e false [(9, .done)])])]); exact mixed; kernel_rfl; kernel_rfl; exact Ent.nil) | (refine is_draw ?_; refine WC_draw mixed (by kernel_rfl) ?_))
            apply WT_k; rfl; exact GIn.none; (refine K_way (l := l.set (arrF c line + i) { l[arrF c line + i] with st := st }) (f := arrF c line) (i := i) (j := 2) (w := { l[arrF c line + i] with st := st, words := .zero }) (by rfl) (by rfl) (by exact pb_wsl) (by rw [po_wsl, Nat.add_mul] <;> rfl) (by exact inferInstance) (by exact inferInstance) (by rfl) (by rfl) (by rw [List.length_set]; exact hi2) (by decide) (by rw [List.getElem_set_self]; rfl)); refine same_intro ?_; (refine ⟨by first | exact After.free | exact After.turns rfl | (refine After.still ?_; (repeat (first | exact Ent.refl | exact Ent.nil | apply Ent.pick | apply Ent.drop)); done), ?_⟩)
            repeat (first | rintro _ _ ⟨rfl, rfl⟩ | rintro _ _ ⟨_, rfl, rfl⟩ | rintro _ _ ⟨_, _, rfl, rfl⟩ | intro _ | refine go ?_ | (refine is_draw ?_; apply WC_mix (id := 9) true [] (pl := .p 0 <| .p 1 <| .p 2 <| .p 4 <| .p 5 <| .e true [(3, .e true [(6, .p 7 <| .p 8 <| .e false [(9, .done)])]), (6, .e false [(3, .p 7 <| .p 8 <| .e false [(9, .done)])])]); exact mixed; kernel_rfl; kernel_rfl; exact Ent.nil) | (refine is_draw ?_; refine WC_draw mixed (by kernel_rfl) ?_))
            rw [List.set_set]
            (apply WE_ret rfl rfl (by (repeat (first | exact ResOk.nil | (apply ResOk.tmp; rfl) | (apply resOk_cell; rfl; exact inferInstance; rfl; rfl)))))
            · exact ⟨rfl, rfl⟩
            · (apply arr_in; (focus ((repeat (first | (with_reducible exact Ent.refl) | exact Ent.nil | (apply ent_pickE; (focus ((repeat (first | (with_reducible exact pk_here) | (apply pk_there))); done))) | apply Ent.drop)); done)); all_goals (first | rfl | (with_reducible assumption) | (simp; done) | (simp; omega) | omega | (constructor <;> (simp) <;> omega)))
        · have e2 : setL c l line st w = l.set (arrF c line + i) { l[arrF c line + i] with st := st, words := w } := by unfold setL; rw [e1, ei, Int.toNat_natCast, ew, if_neg hz]; rfl
          rw [e1, e2]
          repeat' (first | rintro _ _ ⟨rfl, rfl⟩ | rintro _ _ ⟨_, rfl, rfl⟩ | rintro _ _ ⟨_, _, rfl, rfl⟩ | intro _ | refine go ?_ | (refine is_draw ?_; apply WC_mix (id := 9) true [] (pl := .p 0 <| .p 1 <| .p 2 <| .p 4 <| .p 5 <| .e true [(3, .e true [(6, .p 7 <| .p 8 <| .e false [(9, .done)])]), (6, .e false [(3, .p 7 <| .p 8 <| .e false [(9, .done)])])]); exact mixed; kernel_rfl; kernel_rfl; exact Ent.nil) | (refine is_draw ?_; refine WC_draw mixed (by kernel_rfl) ?_) | refine cal @hP ?_ | refine cal @hOd ?_ | refine cal @hO ?_ | refine spl ?_ ?_ | fail)
          · apply WT_k; rfl; exact GIn.none; (refine K_way (l := l) (f := arrF c line) (i := i) (j := 0) (w := { l[arrF c line + i] with st := st }) (by rfl) (by rfl) (by exact pb_wsl) (by rw [po_wsl, Nat.add_mul] <;> rfl) (by exact inferInstance) (by exact inferInstance) (by rfl) (by rfl) hi2 (by decide) (by rfl)); refine same_intro ?_; (refine ⟨by first | exact After.free | exact After.turns rfl | (refine After.still ?_; (repeat (first | exact Ent.refl | exact Ent.nil | apply Ent.pick | apply Ent.drop)); done), ?_⟩)
            repeat (first | rintro _ _ ⟨rfl, rfl⟩ | rintro _ _ ⟨_, rfl, rfl⟩ | rintro _ _ ⟨_, _, rfl, rfl⟩ | intro _ | refine go ?_ | (refine is_draw ?_; apply WC_mix (id := 9) true [] (pl := .p 0 <| .p 1 <| .p 2 <| .p 4 <| .p 5 <| .e true [(3, .e true [(6, .p 7 <| .p 8 <| .e false [(9, .done)])]), (6, .e false [(3, .p 7 <| .p 8 <| .e false [(9, .done)])])]); exact mixed; kernel_rfl; kernel_rfl; exact Ent.nil) | (refine is_draw ?_; refine WC_draw mixed (by kernel_rfl) ?_))
            apply WT_k; rfl; exact GIn.none; (refine K_way (l := l.set (arrF c line + i) { l[arrF c line + i] with st := st }) (f := arrF c line) (i := i) (j := 2) (w := { l[arrF c line + i] with st := st, words := w }) (by rfl) (by rfl) (by exact pb_wsl) (by rw [po_wsl, Nat.add_mul] <;> rfl) (by exact inferInstance) (by exact inferInstance) (by rfl) (by rfl) (by rw [List.length_set]; exact hi2) (by decide) (by rw [List.getElem_set_self]; rfl)); refine same_intro ?_; (refine ⟨by first | exact After.free | exact After.turns rfl | (refine After.still ?_; (repeat (first | exact Ent.refl | exact Ent.nil | apply Ent.pick | apply Ent.drop)); done), ?_⟩)
            repeat (first | rintro _ _ ⟨rfl, rfl⟩ | rintro _ _ ⟨_, rfl, rfl⟩ | rintro _ _ ⟨_, _, rfl, rfl⟩ | intro _ | refine go ?_ | (refine is_draw ?_; apply WC_mix (id := 9) true [] (pl := .p 0 <| .p 1 <| .p 2 <| .p 4 <| .p 5 <| .e true [(3, .e true [(6, .p 7 <| .p 8 <| .e false [(9, .done)])]), (6, .e false [(3, .p 7 <| .p 8 <| .e false [(9, .done)])])]); exact mixed; kernel_rfl; kernel_rfl; exact Ent.nil) | (refine is_draw ?_; refine WC_draw mixed (by kernel_rfl) ?_))
            rw [List.set_set]
            (apply WE_ret rfl rfl (by (repeat (first | exact ResOk.nil | (apply ResOk.tmp; rfl) | (apply resOk_cell; rfl; exact inferInstance; rfl; rfl)))))
            · exact ⟨rfl, rfl⟩
            · (apply arr_in; (focus ((repeat (first | (with_reducible exact Ent.refl) | exact Ent.nil | (apply ent_pickE; (focus ((repeat (first | (with_reducible exact pk_here) | (apply pk_there))); done))) | apply Ent.drop)); done)); all_goals (first | rfl | (with_reducible assumption) | (simp; done) | (simp; omega) | omega | (constructor <;> (simp) <;> omega)))
          · apply WT_k; rfl; exact GIn.none; (refine K_way (l := l) (f := arrF c line) (i := i) (j := 0) (w := { l[arrF c line + i] with st := st }) (by rfl) (by rfl) (by exact pb_wsl) (by rw [po_wsl, Nat.add_mul] <;> rfl) (by exact inferInstance) (by exact inferInstance) (by rfl) (by rfl) hi2 (by decide) (by rfl)); refine same_intro ?_; (refine ⟨by first | exact After.free | exact After.turns rfl | (refine After.still ?_; (repeat (first | exact Ent.refl | exact Ent.nil | apply Ent.pick | apply Ent.drop)); done), ?_⟩)
            repeat (first | rintro _ _ ⟨rfl, rfl⟩ | rintro _ _ ⟨_, rfl, rfl⟩ | rintro _ _ ⟨_, _, rfl, rfl⟩ | intro _ | refine go ?_ | (refine is_draw ?_; apply WC_mix (id := 9) true [] (pl := .p 0 <| .p 1 <| .p 2 <| .p 4 <| .p 5 <| .e true [(3, .e true [(6, .p 7 <| .p 8 <| .e false [(9, .done)])]), (6, .e false [(3, .p 7 <| .p 8 <| .e false [(9, .done)])])]); exact mixed; kernel_rfl; kernel_rfl; exact Ent.nil) | (refine is_draw ?_; refine WC_draw mixed (by kernel_rfl) ?_))
            apply WT_k; rfl; exact GIn.none; (refine K_way (l := l.set (arrF c line + i) { l[arrF c line + i] with st := st }) (f := arrF c line) (i := i) (j := 2) (w := { l[arrF c line + i] with st := st, words := w }) (by rfl) (by rfl) (by exact pb_wsl) (by rw [po_wsl, Nat.add_mul] <;> rfl) (by exact inferInstance) (by exact inferInstance) (by rfl) (by rfl) (by rw [List.length_set]; exact hi2) (by decide) (by rw [List.getElem_set_self]; rfl)); refine same_intro ?_; (refine ⟨by first | exact After.free | exact After.turns rfl | (refine After.still ?_; (repeat (first | exact Ent.refl | exact Ent.nil | apply Ent.pick | apply Ent.drop)); done), ?_⟩)
            repeat (first | rintro _ _ ⟨rfl, rfl⟩ | rintro _ _ ⟨_, rfl, rfl⟩ | rintro _ _ ⟨_, _, rfl, rfl⟩ | intro _ | refine go ?_ | (refine is_draw ?_; apply WC_mix (id := 9) true [] (pl := .p 0 <| .p 1 <| .p 2 <| .p 4 <| .p 5 <| .e true [(3, .e true [(6, .p 7 <| .p 8 <| .e false [(9, .done)])]), (6, .e false [(3, .p 7 <| .p 8 <| .e false [(9, .done)])])]); exact mixed; kernel_rfl; kernel_rfl; exact Ent.nil) | (refine is_draw ?_; refine WC_draw mixed (by kernel_rfl) ?_))
            rw [List.set_set]
            (apply WE_ret rfl rfl (by (repeat (first | exact ResOk.nil | (apply ResOk.tmp; rfl) | (apply resOk_cell; rfl; exact inferInstance; rfl; rfl)))))
            · exact ⟨rfl, rfl⟩
            · (apply arr_in; (focus ((repeat (first | (with_reducible exact Ent.refl) | exact Ent.nil | (apply ent_pickE; (focus ((repeat (first | (with_reducible exact pk_here) | (apply pk_there))); done))) | apply Ent.drop)); done)); all_goals (first | rfl | (with_reducible assumption) | (simp; done) | (simp; omega) | omega | (constructor <;> (simp) <;> omega)))
end Go.Sx
