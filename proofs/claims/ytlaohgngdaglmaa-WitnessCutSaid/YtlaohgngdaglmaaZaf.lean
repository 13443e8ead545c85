/- Arr2, ArrPl, Mem2, Core, Goto: several of my texts as one. My own work. -/
import Derived.Test.YtlaohgngdaglmaaZae
import Derived.Test.YtlaohgngdaglmaaZad
import Derived.ScopeJumps
import Derived.Test.YtlaohgngdaglmaaData
/- What arrays of ways do, second part. The program's. My own work. -/
namespace Go.Sx
open Go Go.Proofs
set_option linter.unusedVariables false
set_option linter.unusedSectionVars false
set_option linter.unusedSimpArgs false
section
variable {P : Program} {N : Nat} {t ty : TypeId} {x y : Operand} {env : Env} {L : List HP}
theorem K_way {n bs f i j T g bb o : Nat} {z u : Value} {l : List Way} {w : Way} {cs : List Value} {C : List Value → List HP} {pos : String} {aft : Array Edge} [hZ : TZ P t n z bs]
    (hx : ev env x = some (.pointer (some ⟨bb, o, none⟩))) (hy : ev env y = some u) (hb : bb = g) (ho : o = (f + i) * 11 + j) (k : CellsAt g L T (flat wyc l) C) (hc : CO u cs) (hn : cs.length = n) (h1 : cs.all one = true)
    (hi : f + i < l.length) (hj : j + n ≤ 11) (e : splice (wyc l[f + i]) j cs = wyc w) :
    KO P N ⟨none, .store t x y, ty, pos, aft, none⟩ env L (Same env (C (flat wyc (l.set (f + i) w)))) := by
  subst hb ho
  have hl : (flat wyc l).length = l.length * 11 := flat_length (enc := wyc) (n := 11) (fun _ => rfl) l
  have hle : (f + i) * 11 + 11 ≤ l.length * 11 := by have := Nat.mul_le_mul_right 11 (show f + i + 1 ≤ l.length by omega); omega
  have h := K_store (P := P) (N := N) (ty := ty) (pos := pos) (aft := aft) (t := t) hx hy k hc.pf hn h1 (by rw [hl, Nat.ble_eq]; omega)
  have es := splice_flatJ (enc := wyc) (n := 11) (fun _ => rfl) l (f + i) hi (j := j) (cs := cs) (x := w) (by omega) e
  rw [es] at h
  exact h
end
theorem arr_rd {g T : Nat} {c : Cfg} {l : List Way} {line : Int} (hc : checkB c = true) (hn : (l.length : Int) = c.sets * c.ways) (h : okLine c line = true) (L : List HP) :
    RdL (Cells g T (flat wyc l) :: L) 11 (wsl g (arrF c line * 11) c.ways.toNat c.ways.toNat) (waysOf c l line).length (flat wyc (waysOf c l line)) := by
  obtain ⟨k1, k2⟩ := ways_len hc hn h
  have kr := rd_ways (g := g) (T := T) (cap := c.ways.toNat) k2
  rw [← waysOf_ok h] at kr
  exact kr L
theorem ways_get {c : Cfg} {l : List Way} {line : Int} {i : Nat} (h : okLine c line = true) (hi : i < (waysOf c l line).length) : ∃ h2 : arrF c line + i < l.length, (waysOf c l line)[i] = l[arrF c line + i] := by
  have hi' := hi
  simp only [waysOf_ok h, List.length_take, List.length_drop] at hi'
  refine ⟨by omega, ?_⟩
  simp only [waysOf_ok h, List.getElem_take, List.getElem_drop]
theorem arrP_ok {c : Cfg} {l : List Way} {line : Int} (h : 0 ≤ arrP c l line) : okLine c line = true := by
  cases e : okLine c line with
  | true => rfl
  | false =>
    exfalso
    unfold arrP at h
    rw [waysOf_no e] at h
    simp [indexBy] at h
theorem arrP_nat {c : Cfg} {l : List Way} {line : Int} (h : 0 ≤ arrP c l line) : ∃ i : Nat, ∃ hi : i < (waysOf c l line).length, arrP c l line = i ∧ pHas line (waysOf c l line)[i] = true ∧ ∀ j (hj : j < (waysOf c l line).length), j < i → pHas line (waysOf c l line)[j] = false := indexBy_nat h
theorem arrP_lt (c : Cfg) (l : List Way) (line : Int) : -1 ≤ arrP c l line ∧ arrP c l line < (waysOf c l line).length := indexBy_lt _ _
theorem zero_flat (n : Nat) : (List.replicate n (wyc .zero)).flatten = flat wyc (List.replicate n .zero) := by
  induction n with
  | zero => rfl
  | succ n ih => simp only [List.replicate_succ, List.flatten_cons, flat, List.flatMap_cons]; rw [ih]
theorem flat_ic_len' (l : List Int) : (flat ic l).length = l.length := by
  have := flat_length (enc := ic) (n := 1) (fun _ => rfl) l
  omega
set_option maxRecDepth 100000
set_option maxHeartbeats 4000000
attribute [local irreducible] Go.Exit.then Go.Exit.inBlock Go.Code.wp WC WO WE WQ V LoopQ FnQ Sat Star band bor IntKind.wrap WR Code.rounds WT KO
theorem dr_Arr2_85 {Q P : Prop} (k : Q) (h : Hid Q → P := by
  intro k
  first
  | (refine is_draw ?_; apply WC_mix (id := 4) .true _ (pl := .p 1 <| .p 3 <| .r 0 <| .r 2 <| .r 4 <| .p 5 <| .e true [(6, .p 7 <| .e true [(8, .p 9 <| .p 10 <| .done)])]); exact mixed; kernel_rfl; kernel_rfl; exact Ent.refl; exact k.out)) : P := h ⟨k⟩
theorem arr_New {F : List HP} {c : Cfg} (hw : c.wf) (hc : checkB c = true) : FnF Try.prog 85 [c.val] [] F (fun r L' => ∃ b, r = .tuple [.pointer (some ⟨b, 0, none⟩), .int .i64 0].toArray ∧ L' = [ArrP b c (List.replicate (c.sets * c.ways).toNat .zero)]) := by
  have hC := fun F => shape_Check (F := F) hw
  simp only [checkE, hc, if_true] at hC
  obtain ⟨_, _, ⟨k, hk, e⟩, _, _, h1, h2⟩ := check_facts hc
  have hb := pow_bd hk
  have h3 : 1 ≤ c.sets ∧ c.sets ≤ 64 := by rw [e]; exact ⟨hb.1, by have := hb.2; simpa using this⟩
  have hz : c.sets * c.ways = ((c.sets.toNat * c.ways.toNat : Nat) : Int) := by rw [Int.natCast_mul, Int.toNat_of_nonneg (by omega), Int.toNat_of_nonneg (by omega)]
  have hm : c.sets.toNat * c.ways.toNat ≤ 64 * 8 := Nat.mul_le_mul (by omega) (by omega)
  refine FnF.mk' Try.func85 rfl rfl Try.ntmps85 rfl ?_
  have h0 : 0 ≤ c.sets * c.ways ∧ c.sets * c.ways ≤ 512 := by omega
  repeat (first | rintro _ _ ⟨rfl, rfl⟩ | refine exq fun _ => ?_ | intro _ | refine go ?_ | refine dr_Arr2_85 ?_ | refine drq ?_ | refine cal @hC ?_)
  apply WT_k; rfl; exact GIn.none; (apply K_makeSliceN; rfl; omega; omega; omega; rfl; omega; rfl); refine fresh_intro ?_; intro g; (refine ⟨by first | exact After.free | exact After.turns rfl | (refine After.still ?_; (repeat (first | exact Ent.refl | exact Ent.nil | apply Ent.pick | apply Ent.drop)); done), ?_⟩)
  repeat (first | rintro _ _ ⟨rfl, rfl⟩ | refine exq fun _ => ?_ | intro _ | refine go ?_ | refine dr_Arr2_85 ?_ | refine drq ?_)
  (apply WE_ret rfl rfl (by (repeat (first | exact ResOk.nil | (apply ResOk.tmp; rfl) | (apply resOk_cell; rfl; exact inferInstance; rfl; rfl)))))
  · exact ⟨_, rfl, rfl⟩
  · refine Ent.trans ?_ (arr_in (g := g) (l := List.replicate (c.sets * c.ways).toNat .zero) (n := (c.sets * c.ways).toNat) (xs := (List.replicate (c.sets * c.ways).toNat (wyc .zero)).flatten) Ent.refl (by simp) (zero_flat _) hc (by simp; omega))
    change Ent (Cells _ _ (c.cells ++ [.slice (some ⟨g, 0, none⟩) (c.sets * c.ways).toNat (c.sets * c.ways).toNat]) :: _) _
    exact entu0
theorem arr_place {F : List HP} {b : Nat} {c : Cfg} {l : List Way} {line : Int} (hw : c.wf) (hli : I64 line) :
    FnF Try.prog 113 [.pointer (some ⟨b, 0, none⟩), .int .i64 line] [ArrP b c l] F (fun r L' => r = .int .i64 (arrP c l line) ∧ L' = [ArrP b c l]) := by
  refine ⟨enters_of Try.func113 rfl rfl, fun w hs => ?_⟩
  obtain ⟨g, ⟨hc, hn⟩, hx⟩ := arr_sat hs
  refine ((arr_placeO (F := F) (b := b) (g := g) hw hli hc hn).runs w hx).mono ?_
  rintro e w' ⟨v, L', he, ⟨hv, hL⟩, hs'⟩
  subst hL
  exact ⟨v, _, he, ⟨hv, rfl⟩, (arr_in Ent.refl rfl rfl hc hn).sat hs'⟩
theorem arr_Find {F : List HP} {b : Nat} {c : Cfg} {l : List Way} {line : Int} (hw : c.wf) (hli : I64 line) :
    FnF Try.prog 92 [.pointer (some ⟨b, 0, none⟩), .int .i64 line] [ArrP b c l] F (fun r L' => r = .tuple [wyv (findW c l line), .int .i64 (findI c l line), .bool (findB c l line)].toArray ∧ L' = [ArrP b c l]) := by
  refine FnF.mk' Try.func92 rfl rfl Try.ntmps92 rfl ?_
  refine arr_open fun g hf => ?_
  obtain ⟨hc, hn⟩ := hf
  have hP := fun F => arr_placeO (F := F) (b := b) (g := g) hw hli hc hn
  by_cases h : arrP c l line < 0
  · have e1 : findW c l line = .zero := if_pos h
    have e2 : findI c l line = 0 := if_pos h
    have e3 : findB c l line = false := by simp [findB, h]
    rw [e1, e2, e3]
    repeat (first | rintro _ _ ⟨rfl, rfl⟩ | refine exq fun _ => ?_ | intro _ | refine go ?_ | refine drq ?_ | refine cal @hP ?_)
    (apply WE_ret rfl rfl (by (repeat (first | exact ResOk.nil | (apply ResOk.tmp; rfl) | (apply resOk_cell; rfl; exact inferInstance; rfl; rfl)))))
    · exact ⟨rfl, rfl⟩
    · (apply arr_in; (focus (exact entu0)); all_goals (first | rfl | (with_reducible assumption) | (simp; done) | (simp; omega) | omega | (constructor <;> (simp) <;> omega)))
  · have hok := arrP_ok (by omega : 0 ≤ arrP c l line)
    obtain ⟨i, hi, ei, _, _⟩ := arrP_nat (by omega : 0 ≤ arrP c l line)
    have e1 : findW c l line = (waysOf c l line)[i] := by unfold findW; rw [if_neg h, ei, Int.toNat_natCast]; exact (getD_at hi).symm
    have e2 : findI c l line = i := by unfold findI; rw [if_neg h, ei]
    have e3 : findB c l line = true := by simp [findB, h]
    rw [e1, e2, e3]
    rw [ei] at hP
    have hO := fun F => arr_of (F := F) (b := b) (g := g) hw hli hc hn hok
    haveI kr := arr_rd (g := g) (T := 142) hc hn hok
    repeat (first | rintro _ _ ⟨rfl, rfl⟩ | refine exq fun _ => ?_ | intro _ | refine go ?_ | refine drq ?_ | refine cal @hP ?_ | refine cal @hO ?_)
    (apply WE_ret rfl rfl (by (repeat (first | exact ResOk.nil | (apply ResOk.tmp; rfl) | (apply resOk_cell; rfl; exact inferInstance; rfl; rfl)))))
    · exact ⟨rfl, rfl⟩
    · (apply arr_in; (focus (exact entu0)); all_goals (first | rfl | (with_reducible assumption) | (simp; done) | (simp; omega) | omega | (constructor <;> (simp) <;> omega)))
theorem rd_tail {b T : Nat} {w : Words} {k : Nat} {F : List HP} {C : List Value → List HP} (hk : k ≤ 8) (h : CellsAt b F T (wc w) C) : RdL F 1 (cut (.slice (some ⟨b, 0, none⟩) 8 8) k 8 8 1) (w.list.drop k).length (flat ic (w.list.drop k)) := by
  have k0 : RdL F 1 (.slice (some ⟨b, 0, none⟩) 8 8) 8 (wc w) := rd_cells (o := 0) (m := 8) (c := 8) (sz := 1) (b := b) h (by simp) (by rfl)
  have k1 := RdL.cut (l := k) (h := 8) (m := 8) k0 hk (Nat.le_refl _) (Nat.le_refl _)
  have e1 : (w.list.drop k).length = 8 - k := by rw [List.length_drop]; rfl
  have e2 : ((wc w).drop (k * 1)).take ((8 - k) * 1) = flat ic (w.list.drop k) := by
    have h0 : wc w = flat ic w.list := rfl
    rw [h0, Nat.mul_one, Nat.mul_one]
    have := flat_drop (enc := ic) (n := 1) (fun _ => rfl) w.list k
    rw [Nat.mul_one] at this
    rw [this, List.take_of_length_le (by rw [flat_ic_len', e1]; exact Nat.le_refl _)]
  rw [e2] at k1
  rw [e1]; exact k1
end Go.Sx

/- Arrays of ways: what holds of them. My own work. -/
namespace Go.Sx
open Go Go.Proofs
set_option linter.unusedVariables false
set_option linter.unusedSimpArgs false
/-- Each line is there once, in its set. -/
def ArrInv (c : Cfg) (l : List Way) : Prop :=
  ∀ i (h : i < l.length), thereB l[i] = true → okLine c l[i].line = true ∧ arrF c l[i].line ≤ i ∧ i < arrF c l[i].line + c.ways.toNat ∧ ∀ j (hj : j < l.length), thereB l[j] = true → l[j].line = l[i].line → j = i
/-- Where a line is, of all ways. -/
def arrG (c : Cfg) (l : List Way) (line : Int) : Int := if arrP c l line < 0 then -1 else arrF c line + arrP c l line
theorem pHas_iff {line : Int} {w : Way} : pHas line w = true ↔ thereB w = true ∧ w.line = line := by simp [pHas]
theorem arrP_at {c : Cfg} {l : List Way} {line : Int} {i : Nat} (hi : arrP c l line = i) : ∃ h : arrF c line + i < l.length, okLine c line = true ∧ pHas line l[arrF c line + i] = true ∧ i < c.ways.toNat := by
  obtain ⟨k, hk, e, h1, _⟩ := arrP_nat (by omega : 0 ≤ arrP c l line)
  have hki : k = i := by omega
  subst hki
  have hok := arrP_ok (by omega : 0 ≤ arrP c l line)
  obtain ⟨h2, e2⟩ := ways_get hok hk
  refine ⟨h2, hok, e2 ▸ h1, ?_⟩
  rw [waysOf_ok hok, List.length_take] at hk
  omega
theorem arrP_no {c : Cfg} {l : List Way} {line : Int} (h : arrP c l line < 0) : ∀ i, i < c.ways.toNat → okLine c line = true → ∀ h : arrF c line + i < l.length, pHas line l[arrF c line + i] = false := by
  intro i hi hok hl
  have h2 := (indexBy_neg (by unfold arrP at h; omega : ¬ 0 ≤ indexBy (pHas line) (waysOf c l line))).2
  have hk : i < (waysOf c l line).length := by rw [waysOf_ok hok, List.length_take, List.length_drop]; omega
  have := h2 _ (List.getElem_mem hk)
  obtain ⟨_, e2⟩ := ways_get hok hk
  rw [e2] at this; exact this
/-- Of all ways, the first one that has a line. -/
theorem arrG_eq {c : Cfg} {l : List Way} (hI : ArrInv c l) (line : Int) : indexBy (pHas line) l = arrG c l line := by
  unfold arrG
  by_cases h : arrP c l line < 0
  · rw [if_pos h]
    refine indexBy_none fun j hj _ => ?_
    cases e : pHas line l[j] with
    | false => rfl
    | true =>
      exfalso
      obtain ⟨h1, h2⟩ := pHas_iff.1 e
      obtain ⟨a1, a2, a3, _⟩ := hI j hj h1
      rw [h2] at a1 a2 a3
      have := arrP_no h (j - arrF c line) (by omega) a1 (by omega)
      simp only [show arrF c line + (j - arrF c line) = j by omega] at this
      rw [this] at e; cases e
  · rw [if_neg h]
    obtain ⟨i, hi, e, _, _⟩ := arrP_nat (by omega : 0 ≤ arrP c l line)
    obtain ⟨h2, hok, h3, h4⟩ := arrP_at e
    rw [e]
    have := indexBy_at (p := pHas line) (l := l) (i := arrF c line + i) h2 (fun j hj hlt => by
      cases ej : pHas line l[j] with
      | false => rfl
      | true =>
        exfalso
        obtain ⟨g1, g2⟩ := pHas_iff.1 h3
        obtain ⟨b1, b2⟩ := pHas_iff.1 ej
        have := (hI _ h2 g1).2.2.2 j hj b1 (by rw [b2, g2])
        omega) h3
    rw [this]
    exact Int.natCast_add _ _
theorem arr_inv_no (c : Cfg) (n : Nat) : ArrInv c (List.replicate n .zero) := by
  intro i h ht
  rw [List.getElem_replicate] at ht
  cases ht
/-- A way is turned: what is there then is of its own line. -/
theorem arr_inv_set {c : Cfg} {l : List Way} {k : Nat} {w : Way} (hI : ArrInv c l) (hk : k < l.length) (h : thereB w = true → okLine c w.line = true ∧ arrF c w.line ≤ k ∧ k < arrF c w.line + c.ways.toNat ∧ ∀ j (hj : j < l.length), thereB l[j] = true → l[j].line = w.line → j = k) : ArrInv c (l.set k w) := by
  intro i hi ht
  rw [List.length_set] at hi
  by_cases e : k = i
  · subst e
    rw [List.getElem_set_self] at ht ⊢
    obtain ⟨h1, h2, h3, h4⟩ := h ht
    refine ⟨h1, h2, h3, fun j hj htj hlj => ?_⟩
    rw [List.length_set] at hj
    by_cases e2 : k = j
    · exact e2.symm
    · rw [List.getElem_set_ne e2] at htj hlj
      exact h4 j hj htj hlj
  · rw [List.getElem_set_ne e] at ht ⊢
    obtain ⟨h1, h2, h3, h4⟩ := hI i hi ht
    refine ⟨h1, h2, h3, fun j hj htj hlj => ?_⟩
    rw [List.length_set] at hj
    by_cases e2 : k = j
    · subst e2
      rw [List.getElem_set_self] at htj hlj
      exact ((h htj).2.2.2 i hi ht hlj.symm).symm
    · rw [List.getElem_set_ne e2] at htj hlj
      exact h4 j hj htj hlj
theorem findW_at {c : Cfg} {l : List Way} {line : Int} {i : Nat} (hi : arrP c l line = i) (h2 : arrF c line + i < l.length) : findW c l line = l[arrF c line + i] := by
  obtain ⟨k, hk, e, _, _⟩ := arrP_nat (by omega : 0 ≤ arrP c l line)
  have hki : k = i := by omega
  subst hki
  have hok := arrP_ok (by omega : 0 ≤ arrP c l line)
  obtain ⟨_, e2⟩ := ways_get hok hk
  unfold findW; rw [if_neg (by omega), hi, Int.toNat_natCast, ← e2]; exact (getD_at hk).symm
theorem layL_inv {c : Cfg} {l : List Way} {line way : Int} (hI : ArrInv c l) : ArrInv c (layL c l line way) := by
  unfold layL
  split
  · rename_i h
    unfold layE at h
    split at h
    · rename_i h0
      split at h
      · rename_i hp
        have hok : okLine c line = true := by
          cases e : okLine c line with
          | true => rfl
          | false => rw [waysOf_no e] at h0; simp at h0; omega
        obtain ⟨k, hk⟩ : ∃ k : Nat, way = k := ⟨way.toNat, by omega⟩
        subst hk
        obtain ⟨h2, _⟩ := ways_get hok (show k < (waysOf c l line).length by omega)
        have hkw : k < c.ways.toNat := by have := h0.2; rw [waysOf_ok hok, List.length_take] at this; omega
        rw [Int.toNat_natCast]
        refine arr_inv_set hI h2 fun _ => ⟨hok, by dsimp only; omega, by dsimp only; omega, fun j hj ht hl => ?_⟩
        exfalso
        dsimp only at hl
        obtain ⟨a1, a2, a3, _⟩ := hI j hj ht
        rw [hl] at a1 a2 a3
        have := arrP_no (by omega : arrP c l line < 0) (j - arrF c line) (by omega) a1 (by omega)
        simp only [show arrF c line + (j - arrF c line) = j by omega] at this
        rw [pHas_iff.2 ⟨ht, hl⟩] at this; cases this
      · cases h
    · cases h
  · exact hI
theorem turn_inv {c : Cfg} {l : List Way} {line : Int} {w : Way} (hI : ArrInv c l) (hp : ¬ arrP c l line = -1) (hl : w.line = (findW c l line).line) : ArrInv c (l.set (arrF c line + (arrP c l line).toNat) w) := by
  have h0 : 0 ≤ arrP c l line := by have := (arrP_lt c l line).1; omega
  obtain ⟨i, hi⟩ : ∃ i : Nat, arrP c l line = i := ⟨(arrP c l line).toNat, by omega⟩
  obtain ⟨h2, hok, h3, h4⟩ := arrP_at hi
  have hf := findW_at hi h2
  rw [hi, Int.toNat_natCast]
  obtain ⟨g1, g2⟩ := pHas_iff.1 h3
  have hinv := hI _ h2 g1
  refine arr_inv_set hI h2 fun _ => ?_
  have e : w.line = l[arrF c line + i].line := by rw [hl, hf]
  rw [e]
  exact hinv
theorem setL_inv {c : Cfg} {l : List Way} {line st : Int} {w : Words} (hI : ArrInv c l) : ArrInv c (setL c l line st w) := by
  unfold setL
  split
  · rename_i h
    refine turn_inv hI (fun hp => ?_) rfl
    unfold setE at h; rw [if_pos hp] at h; cases h
  · exact hI
theorem lockL_inv {c : Cfg} {l : List Way} {line : Int} {lk : Bool} (hI : ArrInv c l) : ArrInv c (lockL c l line lk) := by
  unfold lockL
  split
  · rename_i h
    refine turn_inv hI (fun hp => ?_) rfl
    unfold lockE at h; rw [if_pos hp] at h; cases h
  · exact hI
theorem layL_len {c : Cfg} {l : List Way} {line way : Int} : (layL c l line way).length = l.length := by unfold layL; split <;> simp
theorem setL_len {c : Cfg} {l : List Way} {line st : Int} {w : Words} : (setL c l line st w).length = l.length := by unfold setL; split <;> simp
theorem lockL_len {c : Cfg} {l : List Way} {line : Int} {lk : Bool} : (lockL c l line lk).length = l.length := by unfold lockL; split <;> simp
end Go.Sx

/- What package memory does: its exported functions. My own work. -/
namespace Go.Sx
open Go Go.Proofs
set_option linter.unusedVariables false
set_option linter.unusedSimpArgs false
set_option maxRecDepth 100000
set_option maxHeartbeats 4000000
attribute [local irreducible] Go.Exit.then Go.Exit.inBlock Go.Code.wp WC WO WE WQ V LoopQ FnQ Sat Star band bor IntKind.wrap WR Code.rounds WT KO

theorem getD_ic {ms : List Int} {i : Nat} (hi : i < ms.length) : (flat ic ms)[0 + i * 1]? = some (.int .i64 (ms.getD i 0)) := by
  rw [Nat.zero_add, Nat.mul_one, flat_ic_get hi]; simp [hi]

theorem mem_Word {F : List HP} {b : Nat} {c : Cfg} {ms : List Int} {a : Int} : FnF Try.prog 32 [.pointer (some ⟨b, 0, none⟩), .int .i64 a] [MemB b c ms] F (fun r L' => r = .int .i64 (wordAt ms a) ∧ L' = [MemB b c ms]) := by
  refine FnF.mk' Try.func32 rfl rfl Try.ntmps32 rfl ?_
  refine mem_open fun g hf => ?_
  by_cases h0 : 0 ≤ a
  · by_cases h1 : a < ms.length
    · have hg := getD_ic (ms := ms) (i := a.toNat) (by omega)
      repeat (first | rintro _ _ ⟨rfl, rfl⟩ | refine exq fun _ => ?_ | intro _ | refine go ?_ | refine drq ?_)
      (apply WE_ret rfl rfl (by (repeat (first | exact ResOk.nil | (apply ResOk.tmp; rfl) | (apply resOk_cell; rfl; exact inferInstance; rfl; rfl)))))
      · exact ⟨by simp [wordAt, memIn, h0, h1], rfl⟩
      · ((repeat (first | (with_reducible exact Ent.refl) | exact Ent.nil | (apply ent_pickE; (focus ((repeat (first | (with_reducible exact pk_here) | (apply pk_there))); done))) | (apply mem_in) | apply Ent.drop)); all_goals (first | rfl | (with_reducible assumption) | (simp; done) | (simp; omega) | omega | (constructor <;> (simp) <;> omega)))
    · repeat (first | rintro _ _ ⟨rfl, rfl⟩ | refine exq fun _ => ?_ | intro _ | refine go ?_ | refine drq ?_)
      (apply WE_ret rfl rfl (by (repeat (first | exact ResOk.nil | (apply ResOk.tmp; rfl) | (apply resOk_cell; rfl; exact inferInstance; rfl; rfl)))))
      · exact ⟨by simp [wordAt, memIn, h1], rfl⟩
      · ((repeat (first | (with_reducible exact Ent.refl) | exact Ent.nil | (apply ent_pickE; (focus ((repeat (first | (with_reducible exact pk_here) | (apply pk_there))); done))) | (apply mem_in) | apply Ent.drop)); all_goals (first | rfl | (with_reducible assumption) | (simp; done) | (simp; omega) | omega | (constructor <;> (simp) <;> omega)))
  · repeat (first | rintro _ _ ⟨rfl, rfl⟩ | refine exq fun _ => ?_ | intro _ | refine go ?_ | refine drq ?_)
    (apply WE_ret rfl rfl (by (repeat (first | exact ResOk.nil | (apply ResOk.tmp; rfl) | (apply resOk_cell; rfl; exact inferInstance; rfl; rfl)))))
    · exact ⟨by simp [wordAt, memIn, h0], rfl⟩
    · ((repeat (first | (with_reducible exact Ent.refl) | exact Ent.nil | (apply ent_pickE; (focus ((repeat (first | (with_reducible exact pk_here) | (apply pk_there))); done))) | (apply mem_in) | apply Ent.drop)); all_goals (first | rfl | (with_reducible assumption) | (simp; done) | (simp; omega) | omega | (constructor <;> (simp) <;> omega)))

theorem dr_Mem2_28 {Q P : Prop} (k : Q) (h : Hid Q → P := by
  intro k
  first
  | (refine is_draw ?_; apply WC_mix (id := 5) .true _ (pl := .p 0 <| .p 1 <| .p 2 <| .p 4 <| .r 3 <| .r 5 <| .p 6 <| .r 7 <| .e true [(8, .p 9 <| .p 10 <| .done)]); exact mixed; kernel_rfl; kernel_rfl; exact Ent.refl; exact k.out)) : P := h ⟨k⟩
theorem mem_Do {F : List HP} {b : Nat} {c : Cfg} {ms : List Int} {x : Op3} : FnF Try.prog 28 [.pointer (some ⟨b, 0, none⟩), ov x] [MemB b c ms] F (fun r L' => r = .tuple [.int .i64 (memDoV ms x), .int .i64 (memDoE ms x)].toArray ∧ L' = [MemB b c (memDoL ms x)]) := by
  have hM := fun F => program_May (F := F) (x := x)
  cases e : mayB x with
  | false =>
    simp only [e] at hM
    have hd : doOk ms x = false := by simp [doOk, e]
    refine FnF.mk' Try.func28 rfl rfl Try.ntmps28 rfl ?_
    refine mem_open fun g hf => ?_
    repeat (first | rintro _ _ ⟨rfl, rfl⟩ | refine exq fun _ => ?_ | intro _ | refine go ?_ | refine dr_Mem2_28 ?_ | refine drq ?_ | refine cal @hM ?_)
    (apply WE_ret rfl rfl (by (repeat (first | exact ResOk.nil | (apply ResOk.tmp; rfl) | (apply resOk_cell; rfl; exact inferInstance; rfl; rfl)))))
    · exact ⟨by simp [memDoV, memDoE, hd], rfl⟩
    · simp only [memDoL, hd, Bool.false_eq_true, if_false]; ((repeat (first | (with_reducible exact Ent.refl) | exact Ent.nil | (apply ent_pickE; (focus ((repeat (first | (with_reducible exact pk_here) | (apply pk_there))); done))) | (apply mem_in) | apply Ent.drop)); all_goals (first | rfl | (with_reducible assumption) | (simp; done) | (simp; omega) | omega | (constructor <;> (simp) <;> omega)))
  | true =>
    simp only [e] at hM
    by_cases h1 : x.addr < ms.length
    · have hd : doOk ms x = true := by simp [doOk, e, h1]
      have hm := may_facts e
      by_cases h4 : x.kind = 4
      · refine FnF.mk' Try.func28 rfl rfl Try.ntmps28 rfl ?_
        refine mem_open fun g hf => ?_
        repeat (first | rintro _ _ ⟨rfl, rfl⟩ | refine exq fun _ => ?_ | intro _ | refine go ?_ | refine dr_Mem2_28 ?_ | refine drq ?_ | refine cal @hM ?_)
        (apply WE_ret rfl rfl (by (repeat (first | exact ResOk.nil | (apply ResOk.tmp; rfl) | (apply resOk_cell; rfl; exact inferInstance; rfl; rfl)))))
        · exact ⟨by simp [memDoV, memDoE, hd, h4], rfl⟩
        · simp only [memDoL, hd, h4, if_true]; ((repeat (first | (with_reducible exact Ent.refl) | exact Ent.nil | (apply ent_pickE; (focus ((repeat (first | (with_reducible exact pk_here) | (apply pk_there))); done))) | (apply mem_in) | apply Ent.drop)); all_goals (first | rfl | (with_reducible assumption) | (simp; done) | (simp; omega) | omega | (constructor <;> (simp) <;> omega)))
      · refine FnF.mk' Try.func28 rfl rfl Try.ntmps28 rfl ?_
        refine mem_open fun g hf => ?_
        repeat (first | rintro _ _ ⟨rfl, rfl⟩ | refine exq fun _ => ?_ | intro _ | refine go ?_ | refine dr_Mem2_28 ?_ | refine drq ?_ | refine cal @hM ?_ | refine cal @mem_touch ?_)
        (apply WE_ret rfl rfl (by (repeat (first | exact ResOk.nil | (apply ResOk.tmp; rfl) | (apply resOk_cell; rfl; exact inferInstance; rfl; rfl)))))
        · exact ⟨by simp [memDoV, memDoE, hd, h4], rfl⟩
        · simp only [memDoL, hd, h4, if_true, if_false, Nat.zero_add, Nat.mul_one]
          ((repeat (first | (with_reducible exact Ent.refl) | exact Ent.nil | (apply ent_pickE; (focus ((repeat (first | (with_reducible exact pk_here) | (apply pk_there))); done))) | (apply mem_in) | apply Ent.drop)); all_goals (first | rfl | (with_reducible assumption) | (simp [touchL_len]; done) | (simp [touchL_len]; omega) | omega | (constructor <;> (simp [touchL_len]) <;> omega)))
    · have hd : doOk ms x = false := by simp [doOk, h1]
      refine FnF.mk' Try.func28 rfl rfl Try.ntmps28 rfl ?_
      refine mem_open fun g hf => ?_
      repeat (first | rintro _ _ ⟨rfl, rfl⟩ | refine exq fun _ => ?_ | intro _ | refine go ?_ | refine dr_Mem2_28 ?_ | refine drq ?_ | refine cal @hM ?_)
      (apply WE_ret rfl rfl (by (repeat (first | exact ResOk.nil | (apply ResOk.tmp; rfl) | (apply resOk_cell; rfl; exact inferInstance; rfl; rfl)))))
      · exact ⟨by simp [memDoV, memDoE, hd], rfl⟩
      · simp only [memDoL, hd, Bool.false_eq_true, if_false]; ((repeat (first | (with_reducible exact Ent.refl) | exact Ent.nil | (apply ent_pickE; (focus ((repeat (first | (with_reducible exact pk_here) | (apply pk_there))); done))) | (apply mem_in) | apply Ent.drop)); all_goals (first | rfl | (with_reducible assumption) | (simp; done) | (simp; omega) | omega | (constructor <;> (simp) <;> omega)))

theorem line_rd {c : Cfg} {ms : List Int} {line : Int} (hn : (ms.length : Int) = c.words * c.lines) (h : okJoin c line 0 = true) : lineF c line + c.words.toNat ≤ ms.length ∧ (lineL c ms line).length = c.words.toNat ∧ c.words.toNat ≤ 8 ∧ 1 ≤ c.words.toNat := by
  obtain ⟨h1, h2, h3, h4, h5, h6, h7, h8⟩ := join_facts h hn
  have : lineF c line = (line * c.words).toNat := rfl
  refine ⟨by omega, ?_, by omega, by omega⟩
  simp [lineL]; omega
theorem rd_line {g T : Nat} {c : Cfg} {ms : List Int} {line : Int} {L : List HP} (hn : (ms.length : Int) = c.words * c.lines) (h : okJoin c line 0 = true) {cap : Nat} :
    RdL (Cells g T (flat ic ms) :: L) 1 (.slice (some ⟨g, lineF c line, none⟩) c.words.toNat cap) c.words.toNat (flat ic (lineL c ms line)) := by
  have := line_rd hn h
  have hx : ((flat ic ms).drop (lineF c line)).take (c.words.toNat * 1) = flat ic (lineL c ms line) := by
    have h1 := flat_drop (enc := ic) (n := 1) (fun _ => rfl) ms (lineF c line)
    have h2 := flat_take (enc := ic) (n := 1) (fun _ => rfl) (ms.drop (lineF c line)) c.words.toNat
    rw [Nat.mul_one] at h1 h2 ⊢
    rw [h1, h2]; rfl
  have k := rd_cells (L := Cells g T (flat ic ms) :: L) (o := lineF c line) (m := c.words.toNat) (c := cap) (sz := 1) (b := g) inferInstance (by rw [flat_ic_len]; omega) (by rw [hx]; exact flat_ic_one _)
  rwa [hx] at k

theorem mem_Line {F : List HP} {b : Nat} {c : Cfg} {ms : List Int} {line : Int} (hc : c.wf) (hl : I64 line) : FnF Try.prog 46 [.pointer (some ⟨b, 0, none⟩), .int .i64 line] [MemB b c ms] F (fun r L' => r = .tuple [wv (lineWo c ms line), .int .i64 (joinE c line 0)].toArray ∧ L' = [MemB b c ms]) := by
  cases e : okJoin c line 0 with
  | false =>
    have hP := fun F b v => mem_part_no (F := F) (b := b) (v := v) hc hl e
    refine FnF.mk' Try.func46 rfl rfl Try.ntmps46 rfl ?_
    refine mem_open fun g hf => ?_
    repeat (first | rintro _ _ ⟨rfl, rfl⟩ | refine exq fun _ => ?_ | intro _ | refine go ?_ | refine drq ?_ | refine cal @hP ?_)
    (apply WE_ret rfl rfl (by (repeat (first | exact ResOk.nil | (apply ResOk.tmp; rfl) | (apply resOk_cell; rfl; exact inferInstance; rfl; rfl)))))
    · exact ⟨by simp [lineWo, joinE, e, Words.zero], rfl⟩
    · ((repeat (first | (with_reducible exact Ent.refl) | exact Ent.nil | (apply ent_pickE; (focus ((repeat (first | (with_reducible exact pk_here) | (apply pk_there))); done))) | (apply mem_in) | apply Ent.drop)); all_goals (first | rfl | (with_reducible assumption) | (simp; done) | (simp; omega) | omega | (constructor <;> (simp) <;> omega)))
  | true =>
    refine FnF.mk' Try.func46 rfl rfl Try.ntmps46 rfl ?_
    refine mem_open fun g hf => ?_
    have hr := line_rd hf.2.1 e
    have hP := fun F => mem_part (F := F) (b := b) (g := g) hc hl e hf.2.1 hf.2.2
    haveI kr := fun L => rd_line (g := g) (T := 3) (L := L) (cap := ms.length - lineF c line) hf.2.1 e
    have hsp : splice [.int .i64 0, .int .i64 0, .int .i64 0, .int .i64 0, .int .i64 0, .int .i64 0, .int .i64 0, .int .i64 0] 0 ((flat ic (lineL c ms line)).take (min c.words.toNat 8 * 1)) = wc (Words.of (lineL c ms line)) := by
      rw [List.take_of_length_le (by rw [flat_ic_len]; omega)]
      exact splice_words (by omega)
    repeat (first | rintro _ _ ⟨rfl, rfl⟩ | refine exq fun _ => ?_ | intro _ | refine go ?_ | refine drq ?_ | refine cal @hP ?_)
    rw [hsp]
    repeat (first | rintro _ _ ⟨rfl, rfl⟩ | refine exq fun _ => ?_ | intro _ | refine go ?_ | refine drq ?_)
    (apply WE_ret rfl rfl (by (repeat (first | exact ResOk.nil | (apply ResOk.tmp; rfl) | (apply resOk_cell; rfl; exact inferInstance; rfl; rfl)))))
    · exact ⟨by simp [lineWo, joinE, e], rfl⟩
    · ((repeat (first | (with_reducible exact Ent.refl) | exact Ent.nil | (apply ent_pickE; (focus ((repeat (first | (with_reducible exact pk_here) | (apply pk_there))); done))) | (apply mem_in) | apply Ent.drop)); all_goals (first | rfl | (with_reducible assumption) | (simp; done) | (simp; omega) | omega | (constructor <;> (simp) <;> omega)))
theorem touch_w {F : List HP} {g T i : Nat} {w : Words} {x : Op3} (hi : i < 8) : FnF Try.prog 60 [.pointer (some ⟨g, i, none⟩), ov x] [Cells g T (wc w)] F (fun r L' => r = .int .i64 (touchE w.list i x) ∧ L' = [Cells g T (wc (Words.of (touchL w.list i x)))]) := by
  have h := mem_touch (F := F) (g := g) (T := T) (i := i) (ms := w.list) (x := x) hi
  rw [flat_of (l := touchL w.list i x) (by rw [touchL_len]; rfl)] at h
  exact h

theorem flat_ic_map (l : List Int) : flat ic l = l.map (Value.int .i64) := by
  induction l with
  | nil => rfl
  | cons a r ih => rw [List.map_cons, ← ih]; rfl
theorem copy_wr {ms : List Int} {w : Words} {f k : Nat} (h : f + k ≤ ms.length) (hk : k ≤ 8) : splice (flat ic ms) f ((wc w).take (min 8 k * 1)) = flat ic (ms.take f ++ w.list.take k ++ ms.drop (f + k)) := by
  have e : wc w = flat ic w.list := rfl
  have hl : w.list.length = 8 := rfl
  rw [show min 8 k * 1 = k by omega, e, flat_ic_map, flat_ic_map, flat_ic_map, splice]
  simp [List.map_take, List.map_drop, hl, Nat.min_eq_left hk]
instance (priority := high) rd_cutw {bw T l : Nat} {w : Words} {L : List HP} : RdL (Cells bw T (wc w) :: L) 1 (Sx.cut (.slice (some ⟨bw, 0, none⟩) 8 8) l 8 8 1) (8 - l) (flat ic (w.list.drop l)) := by
  by_cases hl : l ≤ 8
  · have k0 : RdL (Cells bw T (wc w) :: L) 1 (.slice (some ⟨bw, 0, none⟩) 8 8) 8 (wc w) := rd_lit inferInstance rfl rfl
    have k := RdL.cut k0 hl (Nat.le_refl _) (Nat.le_refl _)
    have e : ((wc w).drop (l * 1)).take ((8 - l) * 1) = flat ic (w.list.drop l) := by
      rw [show wc w = flat ic w.list from rfl, flat_drop (enc := ic) (n := 1) (fun _ => rfl), List.take_of_length_le]
      rw [flat_ic_len, List.length_drop]
      have : w.list.length = 8 := rfl
      omega
    rwa [e] at k
  · have e : w.list.drop l = [] := List.drop_eq_nil_of_le (by have : w.list.length = 8 := rfl; omega)
    have e2 : 8 - l = 0 := by omega
    rw [e, e2]
    exact ⟨fun _ _ => by simp, fun _ _ => rfl, fun _ _ => .inl ⟨_, _, by simp [Sx.cut, e2]; exact ⟨rfl, rfl⟩, rfl⟩⟩
theorem wr_len {ms : List Int} {w : Words} {f k : Nat} (h : f + k ≤ ms.length) (hk : k ≤ 8) : (ms.take f ++ w.list.take k ++ ms.drop (f + k)).length = ms.length := by
  have hl : w.list.length = 8 := rfl
  simp [hl, Nat.min_eq_left hk]; omega
theorem mem_Write {F : List HP} {b : Nat} {c : Cfg} {ms : List Int} {line : Int} {w : Words} (hc : c.wf) (hl : I64 line) : FnF Try.prog 103 [.pointer (some ⟨b, 0, none⟩), .int .i64 line, wv w] [MemB b c ms] F (fun r L' => r = .int .i64 (wrE c line w) ∧ L' = [MemB b c (wrL c ms line w)]) := by
  cases e : okJoin c line 0 with
  | false =>
    have hP := fun F b v => mem_part_no (F := F) (b := b) (v := v) hc hl e
    have hw : wrOk c line w = false := by simp [wrOk, e]
    refine FnF.mk' Try.func103 rfl rfl Try.ntmps103 rfl ?_
    refine mem_open fun g hf => ?_
    repeat (first | rintro _ _ ⟨rfl, rfl⟩ | refine exq fun _ => ?_ | intro _ | refine go ?_ | refine drq ?_ | refine cal @hP ?_)
    (apply WE_ret rfl rfl (by (repeat (first | exact ResOk.nil | (apply ResOk.tmp; rfl) | (apply resOk_cell; rfl; exact inferInstance; rfl; rfl)))))
    · exact ⟨by simp [wrE, hw], rfl⟩
    · simp only [wrL, hw, Bool.false_eq_true, if_false]; ((repeat (first | (with_reducible exact Ent.refl) | exact Ent.nil | (apply ent_pickE; (focus ((repeat (first | (with_reducible exact pk_here) | (apply pk_there))); done))) | (apply mem_in) | apply Ent.drop)); all_goals (first | rfl | (with_reducible assumption) | (simp; done) | (simp; omega) | omega | (constructor <;> (simp) <;> omega)))
  | true =>
    refine FnF.mk' Try.func103 rfl rfl Try.ntmps103 rfl ?_
    refine mem_open fun g hf => ?_
    have hr := line_rd hf.2.1 e
    have hj := join_facts e hf.2.1
    have hP := fun F => mem_part (F := F) (b := b) (g := g) hc hl e hf.2.1 hf.2.2
    have hfl := flat_ic_len ms
    have hwl : (w.list.drop c.words.toNat).length = 8 - c.words.toNat := by rw [List.length_drop]; rfl
    repeat (first | rintro _ _ ⟨rfl, rfl⟩ | refine exq fun _ => ?_ | intro _ | refine go ?_ | refine drq ?_ | refine cal @hP ?_)
    rename_i bw
    apply WC_loopE (E0 := [(5, _), (7, _), (20, _), (21, _)]) (fun E0 (i : Nat) => (22, .int .i64 i) :: E0) (fun _ => Cells bw 56 (wc w) :: Cells b 152 (c.cells ++ [.slice (some ⟨g, 0, none⟩) ms.length ms.length]) :: Cells g 3 (flat ic ms) :: F) (fun i => i ≤ 8 - c.words.toNat ∧ ∀ j (h : j < (w.list.drop c.words.toNat).length), j < i → (w.list.drop c.words.toNat)[j] = 0) (fun i => 8 - i) 0
    · (repeat (first | exact Sub.nil | (refine Sub.cons (by first | rfl | (simp only [Nat.zero_add]; rfl)) ?_)))
    · exact ⟨Nat.zero_le _, fun j h hj => by omega⟩
    · exact entu0
    · rintro i ⟨hi, h1⟩
      by_cases hlt : i < 8 - c.words.toNat
      · have hlt' : i < (w.list.drop c.words.toNat).length := by omega
        by_cases h0 : (w.list.drop c.words.toNat)[i] = 0
        · repeat (first | rintro _ _ ⟨rfl, rfl⟩ | refine exq fun _ => ?_ | intro _ | refine go ?_ | refine drq ?_)
          refine WE_loop (i + 1) (by omega) ⟨by omega, fun j h hj => ?_⟩ ?_ ?_
          · by_cases e : j = i
            · subst e; exact h0
            · exact h1 j h (by omega)
          · (repeat (first | exact Sub.nil | (refine Sub.cons (by first | rfl | (simp only [Nat.zero_add]; rfl)) ?_)))
          · exact entu0
        · have hw : wrOk c line w = false := by
            have : tailZ c w = false := by
              unfold tailZ
              rw [List.all_eq_false]; exact ⟨_, List.getElem_mem hlt', by simpa using h0⟩
            simp [wrOk, this]
          repeat (first | rintro _ _ ⟨rfl, rfl⟩ | refine exq fun _ => ?_ | intro _ | refine go ?_ | refine drq ?_)
          (apply WE_ret rfl rfl (by (repeat (first | exact ResOk.nil | (apply ResOk.tmp; rfl) | (apply resOk_cell; rfl; exact inferInstance; rfl; rfl)))))
          · exact ⟨by simp [wrE, hw], rfl⟩
          · simp only [wrL, hw, Bool.false_eq_true, if_false]; ((repeat (first | (with_reducible exact Ent.refl) | exact Ent.nil | (apply ent_pickE; (focus ((repeat (first | (with_reducible exact pk_here) | (apply pk_there))); done))) | (apply mem_in) | apply Ent.drop)); all_goals (first | rfl | (with_reducible assumption) | (simp; done) | (simp; omega) | omega | (constructor <;> (simp) <;> omega)))
      · have hw : wrOk c line w = true := by
          have : tailZ c w = true := by
            unfold tailZ
            rw [List.all_eq_true]
            intro x hx
            obtain ⟨j, hj, rfl⟩ := List.getElem_of_mem hx
            simpa using h1 j hj (by omega)
          simp [wrOk, this, e]
        repeat (first | rintro _ _ ⟨rfl, rfl⟩ | refine exq fun _ => ?_ | intro _ | refine go ?_ | refine drq ?_)
        (apply WE_ret rfl rfl (by (repeat (first | exact ResOk.nil | (apply ResOk.tmp; rfl) | (apply resOk_cell; rfl; exact inferInstance; rfl; rfl)))))
        · exact ⟨by simp [wrE, hw], rfl⟩
        · rw [copy_wr hr.1 hr.2.2.1]
          simp only [wrL, hw, if_true]
          apply mem_in
          · exact entu0
          · rw [wr_len hr.1 hr.2.2.1]
          · rfl
          · rw [wr_len hr.1 hr.2.2.1]; exact hf
end Go.Sx

/- What the cores of package core do. My own work. -/
namespace Go.Sx
open Go Go.Proofs
set_option linter.unusedVariables false
set_option linter.unusedSimpArgs false
instance : MapT Try.prog 187 blv false := ⟨_, _, _, _, _, Try.underlying187, Try.underlying3, TZ.pf⟩

abbrev Op3.zero : Op3 := ⟨0, 0, 0⟩
def CoreB (b : Nat) (l : List Op3) (rs : List Int) (tr : List (Int × Bool)) : HP :=
  Ex fun q : (Option Addr × Nat) × (Option Addr × Nat) × Nat => [Cells b 189 [.slice q.1.1 l.length q.1.2, .slice q.2.1.1 rs.length q.2.1.2, .map (some q.2.2)], Own 39 3 (.slice q.1.1 l.length q.1.2) l.length (flat oc l), Own 3 1 (.slice q.2.1.1 rs.length q.2.1.2) rs.length (flat ic rs), MapAt q.2.2 blv tr, Fact (rs.length ≤ l.length ∧ l.length ≤ 64)]
theorem core_in {b n1 n2 bm : Nat} {l : List Op3} {rs : List Int} {tr : List (Int × Bool)} {p1 p2 : Option Addr} {c1 c2 : Nat} {xs ys : List Value} {L M : List HP}
    (h : Ent L (Cells b 189 [.slice p1 n1 c1, .slice p2 n2 c2, .map (some bm)] :: Own 39 3 (.slice p1 n1 c1) n1 xs :: Own 3 1 (.slice p2 n2 c2) n2 ys :: MapAt bm blv tr :: M)) (hn1 : n1 = l.length) (hn2 : n2 = rs.length) (hx : xs = flat oc l) (hy : ys = flat ic rs) (hl : rs.length ≤ l.length ∧ l.length ≤ 64) : Ent L (CoreB b l rs tr :: M) := by
  subst hn1 hn2 hx hy
  refine Ent.trans h (Ent.trans ?_ (ex_intro (p := fun q : (Option Addr × Nat) × (Option Addr × Nat) × Nat => [Cells b 189 [.slice q.1.1 l.length q.1.2, .slice q.2.1.1 rs.length q.2.1.2, .map (some q.2.2)], Own 39 3 (.slice q.1.1 l.length q.1.2) l.length (flat oc l), Own 3 1 (.slice q.2.1.1 rs.length q.2.1.2) rs.length (flat ic rs), MapAt q.2.2 blv tr, Fact (rs.length ≤ l.length ∧ l.length ≤ 64)]) ((p1, c1), (p2, c2), bm)))
  exact Ent.cons (Ent.cons (Ent.cons (Ent.cons (star_fact_mk hl))))
theorem core_sat {b : Nat} {l : List Op3} {rs : List Int} {tr : List (Int × Bool)} {L : List HP} {w : World} (h : Sat (CoreB b l rs tr :: L) w) : (rs.length ≤ l.length ∧ l.length ≤ 64) ∧
    ∃ p1 c1 p2 c2 bm, Sat (Cells b 189 [.slice p1 l.length c1, .slice p2 rs.length c2, .map (some bm)] :: Own 39 3 (.slice p1 l.length c1) l.length (flat oc l) :: Own 3 1 (.slice p2 rs.length c2) rs.length (flat ic rs) :: MapAt bm blv tr :: L) w := by
  obtain ⟨⟨⟨p1, c1⟩, ⟨p2, c2⟩, bm⟩, hx⟩ := star_ex h
  simp only [app] at hx
  have hf := fact_of (star_drop (star_drop (star_drop (star_drop hx))))
  exact ⟨hf, p1, c1, p2, c2, bm, (Ent.cons (Ent.cons (Ent.cons (Ent.cons (Ent.drop Ent.refl))))) _ hx⟩
theorem core_open {b : Nat} {l : List Op3} {rs : List Int} {tr : List (Int × Bool)} {P : Program} {N : Nat} {c : Code} {env : Env} {L : List HP} {Q : Exit → Act → World → Prop}
    (h : ∀ p1 c1 p2 c2 bm, (rs.length ≤ l.length ∧ l.length ≤ 64) → WC P N c env (Cells b 189 [.slice p1 l.length c1, .slice p2 rs.length c2, .map (some bm)] :: Own 39 3 (.slice p1 l.length c1) l.length (flat oc l) :: Own 3 1 (.slice p2 rs.length c2) rs.length (flat ic rs) :: MapAt bm blv tr :: L) Q) : WC P N c env (CoreB b l rs tr :: L) Q := by
  intro a w ha hw
  obtain ⟨hf, p1, c1, p2, c2, bm, hx⟩ := core_sat hw
  exact h p1 c1 p2 c2 bm hf a w ha hx
theorem core_openO {b : Nat} {l : List Op3} {rs : List Int} {tr : List (Int × Bool)} {P : Program} {N : Nat} {all : Array Oper} {c : List Oper} {env : Env} {L : List HP} {Q : Exit → Act → World → Prop}
    (h : ∀ p1 c1 p2 c2 bm, (rs.length ≤ l.length ∧ l.length ≤ 64) → WO P N all c env (Cells b 189 [.slice p1 l.length c1, .slice p2 rs.length c2, .map (some bm)] :: Own 39 3 (.slice p1 l.length c1) l.length (flat oc l) :: Own 3 1 (.slice p2 rs.length c2) rs.length (flat ic rs) :: MapAt bm blv tr :: L) Q) : WO P N all c env (CoreB b l rs tr :: L) Q := by
  intro a w ha hw
  obtain ⟨hf, p1, c1, p2, c2, bm, hx⟩ := core_sat hw
  exact h p1 c1 p2 c2 bm hf a w ha hx

set_option maxRecDepth 100000
set_option maxHeartbeats 4000000
attribute [local irreducible] Go.Exit.then Go.Exit.inBlock Go.Code.wp WC WO WE WQ V LoopQ FnQ Sat Star band bor IntKind.wrap WR Code.rounds WT KO
theorem prog_len {c : Cfg} {l : List Op3} (h : progB c l = true) : l.length ≤ 64 := by simp [progB] at h; omega

theorem core_New {F : List HP} {c : Cfg} (hc : c.wf) {l : List Op3} {v : Value} (k : RdL F 3 v l.length (flat oc l)) (hn : l.length ≤ 1099511627776) (h : progB c l = true) :
    FnF Try.prog 49 [c.val, v] [] F (fun r L' => ∃ b, r = .tuple [.pointer (some ⟨b, 0, none⟩), .int .i64 0].toArray ∧ L' = [CoreB b l [] []]) := by
  have hP := fun F k => program_Fits (F := F) (c := c) hc (l := l) (v := v) k hn
  simp only [h] at hP
  have hl := prog_len h
  refine FnF.mk' Try.func49 rfl rfl Try.ntmps49 rfl ?_
  repeat (first | rintro _ _ ⟨rfl, rfl⟩ | refine exq fun _ => ?_ | intro _ | refine go ?_ | refine drq ?_ | refine cal @hP ?_ | refine cal @sl_Clone_op ?_)
  (apply WE_ret rfl rfl (by (repeat (first | exact ResOk.nil | (apply ResOk.tmp; rfl) | (apply resOk_cell; rfl; exact inferInstance; rfl; rfl)))))
  · exact ⟨_, rfl, rfl⟩
  · apply core_in (rs := []) (p2 := none) (c2 := 0) (n2 := 0) (ys := [])
    · refine Ent.trans (own_empty (e := 3) (sz := 1) (p := none) Ent.refl) ?_
      (focus (exact entu0; done))
    · rfl
    · rfl
    · rfl
    · rfl
    · exact ⟨Nat.zero_le _, hl⟩
theorem core_New_no {F : List HP} {c : Cfg} (hc : c.wf) {l : List Op3} {v : Value} (k : RdL F 3 v l.length (flat oc l)) (hn : l.length ≤ 1099511627776) (h : progB c l = false) :
    FnF Try.prog 49 [c.val, v] [] F (fun r L' => r = .tuple [.pointer none, .int .i64 1].toArray ∧ L' = []) := by
  have hP := fun F k => program_Fits (F := F) (c := c) hc (l := l) (v := v) k hn
  simp only [h] at hP
  refine FnF.mk' Try.func49 rfl rfl Try.ntmps49 rfl ?_
  repeat (first | rintro _ _ ⟨rfl, rfl⟩ | refine exq fun _ => ?_ | intro _ | refine go ?_ | refine drq ?_ | refine cal @hP ?_)
  exact fin0

def headB (l : List Op3) (rs : List Int) : Bool := !decide (rs.length = l.length)
def headO (l : List Op3) (rs : List Int) : Op3 := l.getD rs.length .zero
def aheadIn (l : List Op3) (rs : List Int) (d : Int) : Bool := decide (1 ≤ d ∧ d ≤ 4 ∧ (rs.length : Int) + d < l.length) && !decide ((l.getD ((rs.length : Int) + d).toNat .zero).kind = 4)
def aheadB (l : List Op3) (rs : List Int) (tr : List (Int × Bool)) (d : Int) : Bool := aheadIn l rs d && !(mget tr ((rs.length : Int) + d)).getD false
def aheadO (l : List Op3) (rs : List Int) (tr : List (Int × Bool)) (d : Int) : Op3 := if aheadB l rs tr d then l.getD ((rs.length : Int) + d).toNat .zero else .zero
end Go.Sx

/- Jumps to a label that stands behind. My own work; names no program. -/
namespace Go.Sx
open Go
set_option linter.unusedVariables false
section
variable {P : Program} {N : Nat} {env : Env} {L : List HP} {Q : Exit → Act → World → Prop}
def JumpQ {ι : Type} (N : Nat) (E : ι → Env) (H : ι → List HP) (I : ι → Prop) : Act → World → Prop := fun a w => ∃ j, I j ∧ EnvOk N (E j) a ∧ Sat (H j) w
theorem WC_scope {ι : Type} {l : Nat} {c rest : Code} (E : ι → Env) (H : ι → List HP) (I : ι → Prop) (hf : findLabel c l = some rest) (first : WC P N c env L (Exit.jump l (JumpQ N E H I) Q))
    (pass : ∀ j, I j → WC P N rest (E j) (H j) (Exit.jump l (fun _ _ => False) Q)) : WC P N (.scope c) env L Q := fun a w ha hw =>
  wp_scope_jumps l (JumpQ N E H I) (fun _ _ => 0) hf (first a w ha hw) fun a w ⟨j, h1, h2, h3⟩ => wp_mono (pass j h1 a w h2 h3) fun e a' w' hq => by
    cases e with
    | goto l' => exact absurd hq.2 id
    | normal => exact hq
    | exit id => exact hq
    | ret => exact hq
    | panic ch => exact hq
    | outgrown => exact hq
theorem WC_label {l : Nat} (h : WE N .normal env L Q) : WC P N (.label l) env L Q := fun a w ha hw => wp_label (h a w ha hw)
theorem WC_goto {l : Nat} (h : WE N (.goto l) env L Q) : WC P N (.goto l) env L Q := fun a w ha hw => wp_goto (h a w ha hw)
theorem WE_jump {ι : Type} {l : Nat} {E : ι → Env} {H : ι → List HP} {I : ι → Prop} (j : ι) (hI : I j) (hs : Sub (E j) env) (he : Ent L (H j)) : WE N (.goto l) env L (Exit.jump l (JumpQ N E H I) Q) :=
  fun a w ha hw => ⟨rfl, j, hI, ha.sub hs, he.sat hw⟩
theorem WE_jump_n {l : Nat} {J : Act → World → Prop} (h : WE N .normal env L Q) : WE N .normal env L (Exit.jump l J Q) := h
theorem WE_jump_ret {l : Nat} {J : Act → World → Prop} (h : WE N .ret env L Q) : WE N .ret env L (Exit.jump l J Q) := h
theorem WE_then_goto {l : Nat} {K : Act → World → Prop} (h : WE N (.goto l) env L Q) : WE N (.goto l) env L (Exit.then K Q) := h
theorem WE_block_goto {id l : Nat} (h : WE N (.goto l) env L Q) : WE N (.goto l) env L (Exit.inBlock id Q) := h
theorem WE_loop_goto {ι : Type} {l : Nat} {E : ι → Env} {H : ι → List HP} {I : ι → Prop} {μ : ι → Nat} {i : ι} (h : WE N (.goto l) env L Q) : WE N (.goto l) env L (LoopQ N E H I μ i Q) := h
end
end Go.Sx
