/- ArrR, ArrR2, ArrR3, Ref3: several of my texts as one. My own work. -/
import Derived.Test.YtlaohgngdaglmaaGreatZag
import Derived.Test.YtlaohgngdaglmaaGreatZae
/- The document's arrays of ways. My own work. -/
namespace Go.Sx
open Go Go.Proofs
set_option linter.unusedVariables false
set_option linter.unusedSectionVars false
set_option linter.unusedSimpArgs false
def ArrRB (T TW : TypeId) (b : Nat) (c : Cfg) (l : List Way) : HP :=
  Ex fun g : Nat => [Cells b T (c.cells ++ [wsl g (0 * 11) l.length l.length]), Cells g TW (flat wyc l), Fact (checkB c = true ∧ (l.length : Int) = c.sets * c.ways ∧ ArrInv c l)]
theorem arrr_in {T TW : TypeId} {b g n : Nat} {c : Cfg} {l : List Way} {xs : List Value} {L M : List HP} (h : Ent L (Cells b T (c.cells ++ [wsl g (0 * 11) n n]) :: Cells g TW xs :: M)) (hn : n = l.length) (hx : xs = flat wyc l)
    (hc : checkB c = true) (hl : (l.length : Int) = c.sets * c.ways) (hI : ArrInv c l) : Ent L (ArrRB T TW b c l :: M) := by
  subst hn hx
  refine Ent.trans h (Ent.trans ?_ (ex_intro (p := fun g : Nat => [Cells b T (c.cells ++ [wsl g (0 * 11) l.length l.length]), Cells g TW (flat wyc l), Fact (checkB c = true ∧ (l.length : Int) = c.sets * c.ways ∧ ArrInv c l)]) g))
  exact Ent.cons (Ent.cons (star_fact_mk ⟨hc, hl, hI⟩))
theorem arrr_sat {T TW : TypeId} {b : Nat} {c : Cfg} {l : List Way} {L : List HP} {w : World} (h : Sat (ArrRB T TW b c l :: L) w) : ∃ g, (checkB c = true ∧ (l.length : Int) = c.sets * c.ways ∧ ArrInv c l) ∧ Sat (Cells b T (c.cells ++ [wsl g (0 * 11) l.length l.length]) :: Cells g TW (flat wyc l) :: L) w := by
  obtain ⟨g, hx⟩ := star_ex h
  simp only [app] at hx
  exact ⟨g, fact_of (star_drop (star_drop hx)), (Ent.cons (Ent.cons (Ent.drop Ent.refl))) _ hx⟩
section
variable {T TW : TypeId} {b : Nat} {c : Cfg} {l : List Way} {P : Program} {N : Nat} {env : Env} {L : List HP} {Q : Exit → Act → World → Prop}
theorem arrr_open {co : Code} (h : ∀ g, (checkB c = true ∧ (l.length : Int) = c.sets * c.ways ∧ ArrInv c l) → WC P N co env (Cells b T (c.cells ++ [wsl g (0 * 11) l.length l.length]) :: Cells g TW (flat wyc l) :: L) Q) : WC P N co env (ArrRB T TW b c l :: L) Q := by
  intro a w ha hw
  obtain ⟨g, hf, hx⟩ := arrr_sat hw
  exact h g hf a w ha hx
theorem arrr_openO {all : Array Oper} {o : List Oper} (h : ∀ g, (checkB c = true ∧ (l.length : Int) = c.sets * c.ways ∧ ArrInv c l) → WO P N all o env (Cells b T (c.cells ++ [wsl g (0 * 11) l.length l.length]) :: Cells g TW (flat wyc l) :: L) Q) : WO P N all o env (ArrRB T TW b c l :: L) Q := by
  intro a w ha hw
  obtain ⟨g, hf, hx⟩ := arrr_sat hw
  exact h g hf a w ha hx
end
theorem rd_arr {g T : Nat} {l : List Way} (L : List HP) : RdL (Cells g T (flat wyc l) :: L) 11 (wsl g (0 * 11) l.length l.length) l.length (flat wyc l) := by
  have := rd_ways (g := g) (T := T) (l := l) (f := 0) (k := l.length) (cap := l.length) (by omega) L
  simpa using this
/-- The index of a way of a line's set. -/
theorem idx_mod {c : Cfg} {line : Int} {i : Nat} (hi : i < c.ways.toNat) : ((arrF c line + i : Nat) : Int).tmod c.ways = i := by
  have hw : c.ways = (c.ways.toNat : Int) := by omega
  have e : (arrF c line + i) % c.ways.toNat = i := by
    unfold arrF
    rw [Nat.mul_comm, Nat.mul_add_mod, Nat.mod_eq_of_lt hi]
  rw [tmod_nn (by omega), hw]
  exact_mod_cast e
theorem okLine_iff {c : Cfg} {line : Int} (hc : checkB c = true) : okLine c line = true ↔ 0 ≤ line ∧ line < c.lines := by simp [okLine, hc]
theorem arrG_lt {c : Cfg} {l : List Way} {line : Int} : -1 ≤ arrG c l line ∧ arrG c l line < l.length := by
  unfold arrG
  split
  · omega
  · rename_i h
    obtain ⟨i, hi⟩ : ∃ i : Nat, arrP c l line = i := ⟨(arrP c l line).toNat, by omega⟩
    obtain ⟨h2, _⟩ := arrP_at hi
    omega
set_option maxRecDepth 100000
set_option maxHeartbeats 4000000
attribute [local irreducible] Go.Exit.then Go.Exit.inBlock Go.Code.wp WC WO WE WQ V LoopQ FnQ Sat Star band bor IntKind.wrap WR Code.rounds WT KO
abbrev ArrRP := ArrRB 55 69
theorem dr_ArrR_51 {Q P : Prop} (k : Q) (h : Hid Q → P := by
  intro k
  first
  | (refine is_draw ?_; apply WC_mix (id := 3) .true _ (pl := .p 1 <| .p 3 <| .r 0 <| .r 2 <| .r 4 <| .p 5 <| .e true [(6, .p 7 <| .e true [(8, .p 9 <| .p 10 <| .done)])]); exact mixed; kernel_rfl; kernel_rfl; exact Ent.refl; exact k.out)) : P := h ⟨k⟩
theorem ref09_New_no {F : List HP} {c : Cfg} (hc : c.wf) (h : checkB c = false) : FnF Tryz.prog 51 [c.val] [] F (fun r L' => r = .tuple [.pointer none, .int .i64 1].toArray ∧ L' = []) := by
  have hC := fun F => ref01_Check (F := F) hc
  simp only [checkE, h, Bool.false_eq_true, if_false] at hC
  refine FnF.mk' Tryz.func51 rfl rfl Tryz.ntmps51 rfl ?_
  repeat (first | rintro _ _ ⟨rfl, rfl⟩ | refine exq fun _ => ?_ | intro _ | refine go ?_ | refine dr_ArrR_51 ?_ | refine drq ?_ | refine cal @hC ?_)
  exact fin0
theorem ref09_New {F : List HP} {c : Cfg} (hw : c.wf) (hc : checkB c = true) : FnF Tryz.prog 51 [c.val] [] F (fun r L' => ∃ b, r = .tuple [.pointer (some ⟨b, 0, none⟩), .int .i64 0].toArray ∧ L' = [ArrRP b c (List.replicate (c.sets * c.ways).toNat .zero)]) := by
  have hC := fun F => ref01_Check (F := F) hw
  simp only [checkE, hc, if_true] at hC
  obtain ⟨_, _, ⟨k, hk, e⟩, _, _, h1, h2⟩ := check_facts hc
  have hb := pow_bd hk
  have h3 : 1 ≤ c.sets ∧ c.sets ≤ 64 := by rw [e]; exact ⟨hb.1, by have := hb.2; simpa using this⟩
  have hz : c.sets * c.ways = ((c.sets.toNat * c.ways.toNat : Nat) : Int) := by rw [Int.natCast_mul, Int.toNat_of_nonneg (by omega), Int.toNat_of_nonneg (by omega)]
  have hm : c.sets.toNat * c.ways.toNat ≤ 64 * 8 := Nat.mul_le_mul (by omega) (by omega)
  refine FnF.mk' Tryz.func51 rfl rfl Tryz.ntmps51 rfl ?_
  have h0 : 0 ≤ c.sets * c.ways ∧ c.sets * c.ways ≤ 512 := by omega
  repeat (first | rintro _ _ ⟨rfl, rfl⟩ | refine exq fun _ => ?_ | intro _ | refine go ?_ | refine dr_ArrR_51 ?_ | refine drq ?_ | refine cal @hC ?_)
  apply WT_k; rfl; exact GIn.none; (apply K_makeSliceN; rfl; omega; omega; omega; rfl; omega; rfl); refine fresh_intro ?_; intro g; (refine ⟨by first | exact After.free | exact After.turns rfl | (refine After.still ?_; (repeat (first | exact Ent.refl | exact Ent.nil | apply Ent.pick | apply Ent.drop)); done), ?_⟩)
  repeat (first | rintro _ _ ⟨rfl, rfl⟩ | refine exq fun _ => ?_ | intro _ | refine go ?_ | refine dr_ArrR_51 ?_ | refine drq ?_)
  (apply WE_ret rfl rfl (by (repeat (first | exact ResOk.nil | (apply ResOk.tmp; rfl) | (apply resOk_cell; rfl; exact inferInstance; rfl; rfl)))))
  · exact ⟨_, rfl, rfl⟩
  · refine Ent.trans ?_ (arrr_in (g := g) (l := List.replicate (c.sets * c.ways).toNat .zero) (n := (c.sets * c.ways).toNat) (xs := (List.replicate (c.sets * c.ways).toNat (wyc .zero)).flatten) Ent.refl (by simp) (zero_flat _) hc (by simp; omega) (arr_inv_no _ _))
    have ew : wsl g (0 * 11) (c.sets * c.ways).toNat (c.sets * c.ways).toNat = .slice (some ⟨g, 0, none⟩) (c.sets * c.ways).toNat (c.sets * c.ways).toNat := by unfold wsl; rfl
    rw [ew]
    change Ent (Cells _ _ (c.cells ++ [.slice (some ⟨g, 0, none⟩) (c.sets * c.ways).toNat (c.sets * c.ways).toNat]) :: _) _
    exact entu0
theorem ref09_placeO {F : List HP} {b g : Nat} {c : Cfg} {l : List Way} {line : Int} (hl : l.length ≤ 512) (hI : ArrInv c l) :
    FnF Tryz.prog 60 [.pointer (some ⟨b, 0, none⟩), .int .i64 line] [Cells b 55 (c.cells ++ [wsl g (0 * 11) l.length l.length]), Cells g 69 (flat wyc l)] F
      (fun r L' => r = .int .i64 (arrG c l line) ∧ L' = [Cells b 55 (c.cells ++ [wsl g (0 * 11) l.length l.length]), Cells g 69 (flat wyc l)]) := by
  haveI kr := rd_arr (g := g) (T := 69) (l := l)
  rw [← arrG_eq hI line]
  refine FnF.mk' Tryz.func60 rfl rfl Tryz.ntmps60 rfl ?_
  repeat (first | rintro _ _ ⟨rfl, rfl⟩ | refine exq fun _ => ?_ | intro _ | refine go ?_ | refine drq ?_)
  apply WC_loopE (E0 := [(0, _), (1, _)]) (fun E0 (i : Nat) => (5, .int .i64 i) :: E0) (fun _ => Cells b 55 (c.cells ++ [wsl g (0 * 11) l.length l.length]) :: Cells g 69 (flat wyc l) :: F) (fun i => i ≤ l.length ∧ ∀ j (h : j < l.length), j < i → pHas line l[j] = false) (fun i => l.length - i) 0
  · (repeat (first | exact Sub.nil | (refine Sub.cons (by first | rfl | (simp only [Nat.zero_add]; rfl)) ?_)))
  · exact ⟨by omega, fun j _ hj => by omega⟩
  · exact entu0
  · rintro i ⟨hi, h1⟩
    by_cases hlt : i < l.length
    · have next : pHas line l[i] = false → ∀ j (h : j < l.length), j < i + 1 → pHas line l[j] = false := fun h0 j hj hji => by
        by_cases e : j = i
        · subst e; exact h0
        · exact h1 j hj (by omega)
      by_cases g1 : l[i].line = line
      · by_cases g2 : l[i].st = 0
        · cases g3 : l[i].lk with
          | true =>
            have he : pHas line l[i] = true := by simp [pHas, thereB, g1, g3]
            repeat (first | rintro _ _ ⟨rfl, rfl⟩ | refine exq fun _ => ?_ | intro _ | refine go ?_ | refine drq ?_)
            (apply WE_ret rfl rfl (by (repeat (first | exact ResOk.nil | (apply ResOk.tmp; rfl) | (apply resOk_cell; rfl; exact inferInstance; rfl; rfl)))))
            · exact ⟨by rw [indexBy_at hlt h1 he]; rfl, rfl⟩
            · exact entu0
          | false =>
            have he : pHas line l[i] = false := by simp [pHas, thereB, g2, g3]
            repeat (first | rintro _ _ ⟨rfl, rfl⟩ | refine exq fun _ => ?_ | intro _ | refine go ?_ | refine drq ?_)
            refine WE_loop (i + 1) (by omega) ⟨by omega, next he⟩ ?_ ?_
            · (repeat (first | exact Sub.nil | (refine Sub.cons (by first | rfl | (simp only [Nat.zero_add]; rfl)) ?_)))
            · exact entu0
        · have he : pHas line l[i] = true := by simp [pHas, thereB, g1, g2]
          repeat (first | rintro _ _ ⟨rfl, rfl⟩ | refine exq fun _ => ?_ | intro _ | refine go ?_ | refine drq ?_)
          (apply WE_ret rfl rfl (by (repeat (first | exact ResOk.nil | (apply ResOk.tmp; rfl) | (apply resOk_cell; rfl; exact inferInstance; rfl; rfl)))))
          · exact ⟨by rw [indexBy_at hlt h1 he]; rfl, rfl⟩
          · exact entu0
      · have he : pHas line l[i] = false := by simp [pHas, g1]
        repeat (first | rintro _ _ ⟨rfl, rfl⟩ | refine exq fun _ => ?_ | intro _ | refine go ?_ | refine drq ?_)
        refine WE_loop (i + 1) (by omega) ⟨by omega, next he⟩ ?_ ?_
        · (repeat (first | exact Sub.nil | (refine Sub.cons (by first | rfl | (simp only [Nat.zero_add]; rfl)) ?_)))
        · exact entu0
    · have hil : i = l.length := by omega
      subst hil
      repeat (first | rintro _ _ ⟨rfl, rfl⟩ | refine exq fun _ => ?_ | intro _ | refine go ?_ | refine drq ?_)
      (apply WE_ret rfl rfl (by (repeat (first | exact ResOk.nil | (apply ResOk.tmp; rfl) | (apply resOk_cell; rfl; exact inferInstance; rfl; rfl)))))
      · exact ⟨by rw [indexBy_none h1]; rfl, rfl⟩
      · exact entu0
theorem dr_ArrR_18 {Q P : Prop} (k : Q) (h : Hid Q → P := by
  intro k
  first
  | (refine is_draw ?_; apply WC_mix (id := 4) .true _ (pl := .p 0 <| .p 1 <| .p 2 <| .p 4 <| .p 7 <| .p 8 <| .p 9 <| .p 10 <| .p 11 <| .r 3 <| .p 5 <| .r 6 <| .e true [(12, .p 13 <| .e true [(14, .p 15 <| .p 16 <| .done)]), (14, .e false [(12, .p 13 <| .p 15 <| .p 16 <| .done)])]); exact mixed; kernel_rfl; kernel_rfl; exact Ent.refl; exact k.out)) : P := h ⟨k⟩
theorem ref09_Find {F : List HP} {b : Nat} {c : Cfg} {l : List Way} {line : Int} :
    FnF Tryz.prog 18 [.pointer (some ⟨b, 0, none⟩), .int .i64 line] [ArrRP b c l] F (fun r L' => r = .tuple [wyv (findW c l line), .int .i64 (findI c l line), .bool (findB c l line)].toArray ∧ L' = [ArrRP b c l]) := by
  refine FnF.mk' Tryz.func18 rfl rfl Tryz.ntmps18 rfl ?_
  refine arrr_open fun g hf => ?_
  obtain ⟨hc, hn, hI⟩ := hf
  obtain ⟨_, h4, h5, _, _, h8⟩ := arr_nums hc hn
  have hP := fun F => ref09_placeO (F := F) (b := b) (g := g) (line := line) h8 hI
  haveI kr := rd_arr (g := g) (T := 69) (l := l)
  by_cases h : arrP c l line < 0
  · have e1 : findW c l line = .zero := if_pos h
    have e2 : findI c l line = 0 := if_pos h
    have e3 : findB c l line = false := by simp [findB, h]
    have e4 : arrG c l line = -1 := if_pos h
    rw [e1, e2, e3]
    rw [e4] at hP
    repeat (first | rintro _ _ ⟨rfl, rfl⟩ | refine exq fun _ => ?_ | intro _ | refine go ?_ | refine dr_ArrR_18 ?_ | refine drq ?_ | refine cal @hP ?_)
    (apply WE_ret rfl rfl (by (repeat (first | exact ResOk.nil | (apply ResOk.tmp; rfl) | (apply resOk_cell; rfl; exact inferInstance; rfl; rfl)))))
    · exact ⟨rfl, rfl⟩
    · (apply arrr_in; (focus (exact entu0)); all_goals (first | rfl | (with_reducible assumption) | (simp; done) | (simp; omega) | omega | (constructor <;> (simp) <;> omega)))
  · obtain ⟨i, hi⟩ : ∃ i : Nat, arrP c l line = i := ⟨(arrP c l line).toNat, by omega⟩
    obtain ⟨h2, hok, h3, h4'⟩ := arrP_at hi
    have e1 := findW_at hi h2
    have e2 : findI c l line = i := by unfold findI; rw [if_neg h, hi]
    have e3 : findB c l line = true := by simp [findB, h]
    have e4 : arrG c l line = ((arrF c line + i : Nat) : Int) := by unfold arrG; rw [if_neg h, hi]; omega
    have e5 := idx_mod (line := line) h4'
    rw [e1, e2, e3]
    rw [e4] at hP
    generalize hk : arrF c line + i = k at *
    (first | (refine WO_some (wsl g (0 * 11) l.length l.length) inferInstance (by omega) ?_; intro _) | (refine WC_some (wsl g (0 * 11) l.length l.length) inferInstance (by omega) ?_; intro _))
    repeat' (first | rintro _ _ ⟨rfl, rfl⟩ | refine exq fun _ => ?_ | intro _ | refine go ?_ | refine dr_ArrR_18 ?_ | refine drq ?_ | refine cal @hP ?_ | refine spl ?_ ?_ | fail)
    all_goals (apply WE_ret rfl rfl (by (repeat (first | exact ResOk.nil | (apply ResOk.tmp; rfl) | (apply resOk_cell; rfl; exact inferInstance; rfl; rfl)))))
    all_goals first | exact ⟨by rw [e5]; rfl, rfl⟩ | (apply arrr_in; (focus (exact entu0)); all_goals (first | rfl | (with_reducible assumption) | (simp; done) | (simp; omega) | omega | (constructor <;> (simp) <;> omega)))
end Go.Sx

/- The document's arrays of ways, second part. My own work. -/
namespace Go.Sx
open Go Go.Proofs
set_option linter.unusedVariables false
set_option linter.unusedSectionVars false
set_option linter.unusedSimpArgs false
set_option maxRecDepth 100000
set_option maxHeartbeats 4000000
attribute [local irreducible] Go.Exit.then Go.Exit.inBlock Go.Code.wp WC WO WE WQ V LoopQ FnQ Sat Star band bor IntKind.wrap WR Code.rounds WT KO
theorem arrF_tmod {c : Cfg} {line : Int} (h : okLine c line = true) : line.tmod c.sets * c.ways = (arrF c line : Int) ∨ c.ways < 0 := by
  by_cases hw : c.ways < 0
  · exact .inr hw
  · obtain ⟨s0, s1, s2, s3, s4⟩ := ok_set' h
    left
    unfold arrF
    rw [tmod_nn s3, Int.natCast_mul, Int.toNat_of_nonneg s0, Int.toNat_of_nonneg (by omega), s2]
theorem dr_ArrR2_125 {Q P : Prop} (k : Q) (h : Hid Q → P := by
  intro k
  first
  | (refine is_draw ?_; apply WC_mix (id := 6) .true _ (pl := .p 0 <| .p 1 <| .p 2 <| .p 4 <| .p 5 <| .p 6 <| .p 7 <| .p 8 <| .p 11 <| .p 12 <| .p 13 <| .p 14 <| .p 17 <| .r 3 <| .r 9 <| .p 10 <| .r 15 <| .p 16 <| .p 18 <| .p 19 <| .r 20 <| .e true [(21, .e true [(22, .done)])]); exact mixed; kernel_rfl; kernel_rfl; exact Ent.refl; exact k.out)) : P := h ⟨k⟩
theorem ref09_Free {F : List HP} {b : Nat} {c : Cfg} {l : List Way} {line : Int} :
    FnF Tryz.prog 125 [.pointer (some ⟨b, 0, none⟩), .int .i64 line] [ArrRP b c l] F (fun r L' => r = .int .i64 (arrFree c l line) ∧ L' = [ArrRP b c l]) := by
  refine FnF.mk' Tryz.func125 rfl rfl Tryz.ntmps125 rfl ?_
  refine arrr_open fun g hf => ?_
  obtain ⟨hc, hn, hI⟩ := hf
  obtain ⟨_, h4, h5, h6, h7, h8⟩ := arr_nums hc hn
  haveI kr := rd_arr (g := g) (T := 69) (l := l)
  cases h : okLine c line with
  | false =>
    have e1 : arrFree c l line = -1 := by unfold arrFree; rw [waysOf_no h]; rfl
    rw [e1]
    have hn' : line < 0 ∨ line ≥ c.lines := by
      by_cases hx : 0 ≤ line ∧ line < c.lines
      · rw [(okLine_iff hc).2 hx] at h; cases h
      · omega
    by_cases h0 : line < 0
    · repeat (first | rintro _ _ ⟨rfl, rfl⟩ | refine exq fun _ => ?_ | intro _ | refine go ?_ | refine dr_ArrR2_125 ?_ | refine drq ?_)
      (apply WE_ret rfl rfl (by (repeat (first | exact ResOk.nil | (apply ResOk.tmp; rfl) | (apply resOk_cell; rfl; exact inferInstance; rfl; rfl)))))
      · exact ⟨rfl, rfl⟩
      · (apply arrr_in; (focus (exact entu0)); all_goals (first | rfl | (with_reducible assumption) | (simp; done) | (simp; omega) | omega | (constructor <;> (simp) <;> omega)))
    · repeat (first | rintro _ _ ⟨rfl, rfl⟩ | refine exq fun _ => ?_ | intro _ | refine go ?_ | refine dr_ArrR2_125 ?_ | refine drq ?_)
      (apply WE_ret rfl rfl (by (repeat (first | exact ResOk.nil | (apply ResOk.tmp; rfl) | (apply resOk_cell; rfl; exact inferInstance; rfl; rfl)))))
      · exact ⟨rfl, rfl⟩
      · (apply arrr_in; (focus (exact entu0)); all_goals (first | rfl | (with_reducible assumption) | (simp; done) | (simp; omega) | omega | (constructor <;> (simp) <;> omega)))
  | true =>
    obtain ⟨g0, g1⟩ := (okLine_iff hc).1 h
    obtain ⟨k1, k2⟩ := ways_len hc hn h
    have et := (arrF_tmod h).resolve_right (by omega)
    have hg := fun i (hi : i < (waysOf c l line).length) => ways_get h hi
    unfold arrFree
    repeat (first | rintro _ _ ⟨rfl, rfl⟩ | refine exq fun _ => ?_ | intro _ | refine go ?_ | refine dr_ArrR2_125 ?_ | refine drq ?_)
    apply WC_loopE (E0 := [(0, _), (1, _)]) (fun E0 (i : Nat) => (5, .int .i64 i) :: E0) (fun _ => Cells b 55 (c.cells ++ [wsl g (0 * 11) l.length l.length]) :: Cells g 69 (flat wyc l) :: F) (fun i => i ≤ c.ways.toNat ∧ ∀ j (h : j < (waysOf c l line).length), j < i → (!thereB (waysOf c l line)[j]) = false) (fun i => c.ways.toNat - i) 0
    · (repeat (first | exact Sub.nil | (refine Sub.cons (by first | rfl | (simp only [Nat.zero_add]; rfl)) ?_)))
    · exact ⟨by omega, fun j _ hj => by omega⟩
    · exact entu0
    · rintro i ⟨hi, h1⟩
      by_cases hlt : i < c.ways.toNat
      · have hlw : i < (waysOf c l line).length := by omega
        obtain ⟨hb, eg⟩ := hg i hlw
        have next : (!thereB l[arrF c line + i]) = false → ∀ j (h : j < (waysOf c l line).length), j < i + 1 → (!thereB (waysOf c l line)[j]) = false := fun h0 j hj hji => by
          by_cases e : j = i
          · subst e; rw [eg]; exact h0
          · exact h1 j hj (by omega)
        have ek : (line.tmod c.sets * c.ways + (i : Int)).toNat = arrF c line + i := by omega
        (first | (refine WO_some (wsl g (0 * 11) l.length l.length) inferInstance (by omega) ?_; intro _) | (refine WC_some (wsl g (0 * 11) l.length l.length) inferInstance (by omega) ?_; intro _))
        repeat (first | rintro _ _ ⟨rfl, rfl⟩ | refine exq fun _ => ?_ | intro _ | refine go ?_ | refine dr_ArrR2_125 ?_ | refine drq ?_)
        simp only [ek]
        generalize ew : l[arrF c line + i] = w at *
        by_cases g2 : w.st = 0
        · cases g3 : w.lk with
          | false =>
            have he : (!thereB (waysOf c l line)[i]) = true := by simp [eg, thereB, g2, g3]
            repeat (first | rintro _ _ ⟨rfl, rfl⟩ | refine exq fun _ => ?_ | intro _ | refine go ?_ | refine dr_ArrR2_125 ?_ | refine drq ?_)
            (apply WE_ret rfl rfl (by (repeat (first | exact ResOk.nil | (apply ResOk.tmp; rfl) | (apply resOk_cell; rfl; exact inferInstance; rfl; rfl)))))
            · exact ⟨by rw [indexBy_at hlw h1 he]; rfl, rfl⟩
            · (apply arrr_in; (focus (exact entu0)); all_goals (first | rfl | (with_reducible assumption) | (simp; done) | (simp; omega) | omega | (constructor <;> (simp) <;> omega)))
          | true =>
            have he : (!thereB w) = false := by simp [thereB, g2, g3]
            repeat (first | rintro _ _ ⟨rfl, rfl⟩ | refine exq fun _ => ?_ | intro _ | refine go ?_ | refine dr_ArrR2_125 ?_ | refine drq ?_)
            refine WE_loop (i + 1) (by omega) ⟨by omega, next he⟩ ?_ ?_
            · (repeat (first | exact Sub.nil | (refine Sub.cons (by first | rfl | (simp only [Nat.zero_add]; rfl)) ?_)))
            · exact entu0
        · have he : (!thereB w) = false := by simp [thereB, g2]
          repeat (first | rintro _ _ ⟨rfl, rfl⟩ | refine exq fun _ => ?_ | intro _ | refine go ?_ | refine dr_ArrR2_125 ?_ | refine drq ?_)
          refine WE_loop (i + 1) (by omega) ⟨by omega, next he⟩ ?_ ?_
          · (repeat (first | exact Sub.nil | (refine Sub.cons (by first | rfl | (simp only [Nat.zero_add]; rfl)) ?_)))
          · exact entu0
      · have hil : i = c.ways.toNat := by omega
        subst hil
        repeat (first | rintro _ _ ⟨rfl, rfl⟩ | refine exq fun _ => ?_ | intro _ | refine go ?_ | refine dr_ArrR2_125 ?_ | refine drq ?_)
        (apply WE_ret rfl rfl (by (repeat (first | exact ResOk.nil | (apply ResOk.tmp; rfl) | (apply resOk_cell; rfl; exact inferInstance; rfl; rfl)))))
        · exact ⟨by rw [indexBy_none (fun j hj _ => h1 j hj (by omega))]; rfl, rfl⟩
        · (apply arrr_in; (focus (exact entu0)); all_goals (first | rfl | (with_reducible assumption) | (simp; done) | (simp; omega) | omega | (constructor <;> (simp) <;> omega)))
theorem ref09_Lock {F : List HP} {b : Nat} {c : Cfg} {l : List Way} {line : Int} {lk : Bool} :
    FnF Tryz.prog 127 [.pointer (some ⟨b, 0, none⟩), .int .i64 line, .bool lk] [ArrRP b c l] F (fun r L' => r = .int .i64 (lockE c l line) ∧ L' = [ArrRP b c (lockL c l line lk)]) := by
  refine FnF.mk' Tryz.func127 rfl rfl Tryz.ntmps127 rfl ?_
  refine arrr_open fun g hf => ?_
  obtain ⟨hc, hn, hI⟩ := hf
  obtain ⟨_, h4, h5, _, _, h8⟩ := arr_nums hc hn
  have hI2 : ArrInv c (lockL c l line lk) := lockL_inv hI
  have hn2 : ((lockL c l line lk).length : Int) = c.sets * c.ways := by rw [lockL_len]; exact hn
  have hP := fun F => ref09_placeO (F := F) (b := b) (g := g) (line := line) h8 hI
  haveI kr := rd_arr (g := g) (T := 69) (l := l)
  by_cases hp : arrP c l line = -1
  · have e4 : arrG c l line = -1 := if_pos (by omega)
    rw [e4] at hP
    have e1 : lockE c l line = 5 := if_pos hp
    have e2 : lockL c l line lk = l := by unfold lockL; rw [e1]; rfl
    rw [e1, e2]
    repeat (first | rintro _ _ ⟨rfl, rfl⟩ | refine exq fun _ => ?_ | intro _ | refine go ?_ | refine drq ?_ | refine cal @hP ?_)
    (apply WE_ret rfl rfl (by (repeat (first | exact ResOk.nil | (apply ResOk.tmp; rfl) | (apply resOk_cell; rfl; exact inferInstance; rfl; rfl)))))
    · exact ⟨rfl, rfl⟩
    · (apply arrr_in; (focus (exact entu0)); all_goals (first | rfl | (with_reducible assumption) | (simp; done) | (simp; omega) | omega | (constructor <;> (simp) <;> omega)))
  · have h0 : 0 ≤ arrP c l line := by have := (arrP_lt c l line).1; omega
    obtain ⟨i, hi⟩ : ∃ i : Nat, arrP c l line = i := ⟨(arrP c l line).toNat, by omega⟩
    obtain ⟨h2, hok, h3, h4'⟩ := arrP_at hi
    have ew := findW_at hi h2
    have e4 : arrG c l line = ((arrF c line + i : Nat) : Int) := by unfold arrG; rw [if_neg (by omega), hi]; omega
    have e1 : lockE c l line = 0 := if_neg hp
    have e2 : lockL c l line lk = l.set (arrF c line + i) { l[arrF c line + i] with lk := lk } := by unfold lockL; rw [e1, hi, Int.toNat_natCast, ew]; rfl
    rw [e4] at hP
    rw [e1]
    rw [e2] at hI2 hn2 ⊢
    generalize arrF c line + i = k at *
    (first | (refine WO_some (wsl g (0 * 11) l.length l.length) inferInstance (by omega) ?_; intro _) | (refine WC_some (wsl g (0 * 11) l.length l.length) inferInstance (by omega) ?_; intro _))
    repeat (first | rintro _ _ ⟨rfl, rfl⟩ | refine exq fun _ => ?_ | intro _ | refine go ?_ | refine drq ?_ | refine cal @hP ?_)
    apply WO_k; rfl; (refine K_way (l := l) (f := 0) (i := k) (j := 10) (w := { l[k] with lk := lk }) (by rfl) (by rfl) (by exact pb_wsl) (by rw [po_wsl]; omega) (by exact inferInstance) (by exact inferInstance) (by rfl) (by rfl) (by omega) (by decide) (by simp only [Nat.zero_add]; rfl)); refine same_intro ?_
    simp only [Nat.zero_add]
    repeat (first | rintro _ _ ⟨rfl, rfl⟩ | refine exq fun _ => ?_ | intro _ | refine go ?_ | refine drq ?_)
    (apply WE_ret rfl rfl (by (repeat (first | exact ResOk.nil | (apply ResOk.tmp; rfl) | (apply resOk_cell; rfl; exact inferInstance; rfl; rfl)))))
    · exact ⟨rfl, rfl⟩
    · (apply arrr_in; (focus (exact entu0)); all_goals (first | rfl | (with_reducible assumption) | (simp; done) | (simp; omega) | omega | (constructor <;> (simp) <;> omega)))
theorem ref09_Lay {F : List HP} {b : Nat} {c : Cfg} {l : List Way} {line way : Int} :
    FnF Tryz.prog 126 [.pointer (some ⟨b, 0, none⟩), .int .i64 line, .int .i64 way] [ArrRP b c l] F (fun r L' => r = .int .i64 (layE c l line way) ∧ L' = [ArrRP b c (layL c l line way)]) := by
  refine FnF.mk' Tryz.func126 rfl rfl Tryz.ntmps126 rfl ?_
  refine arrr_open fun g hf => ?_
  obtain ⟨hc, hn, hI⟩ := hf
  obtain ⟨_, h4, h5, h6, h7, h8⟩ := arr_nums hc hn
  have hI2 : ArrInv c (layL c l line way) := layL_inv hI
  have hn2 : ((layL c l line way).length : Int) = c.sets * c.ways := by rw [layL_len]; exact hn
  have hP := fun F => ref09_placeO (F := F) (b := b) (g := g) (line := line) h8 hI
  haveI kr := rd_arr (g := g) (T := 69) (l := l)
  by_cases h0 : (0 ≤ line ∧ line < c.lines) ∧ 0 ≤ way ∧ way < c.ways
  · obtain ⟨⟨g0, g1⟩, g2, g3⟩ := h0
    have h := (okLine_iff hc).2 ⟨g0, g1⟩
    obtain ⟨k1, k2⟩ := ways_len hc hn h
    have et := (arrF_tmod h).resolve_right (by omega)
    obtain ⟨i, rfl⟩ : ∃ i : Nat, way = i := ⟨way.toNat, by omega⟩
    have hi : i < (waysOf c l line).length := by omega
    have h0 : 0 ≤ (i : Int) ∧ (i : Int) < (waysOf c l line).length := by omega
    obtain ⟨hi2, eg⟩ := ways_get h hi
    have hg : (waysOf c l line).getD i .zero = (waysOf c l line)[i] := (getD_at hi).symm
    by_cases hp : arrP c l line = -1
    · have e4 : arrG c l line = -1 := if_pos (by omega)
      rw [e4] at hP
      have ek : (line.tmod c.sets * c.ways + (i : Int)).toNat = arrF c line + i := by omega
      have ex : layE c l line i = if thereB l[arrF c line + i] then 4 else 0 := by unfold layE; rw [if_pos h0, if_pos hp, Int.toNat_natCast, hg, eg]
      have ey : layL c l line i = if thereB l[arrF c line + i] then l else l.set (arrF c line + i) ⟨0, line, .zero, true⟩ := by unfold layL; rw [ex, Int.toNat_natCast]; split <;> rfl
      rw [ey] at hI2 hn2 ⊢
      rw [ex]
      generalize hk : arrF c line + i = k at *
      (first | (refine WO_some (wsl g (0 * 11) l.length l.length) inferInstance (by omega) ?_; intro _) | (refine WC_some (wsl g (0 * 11) l.length l.length) inferInstance (by omega) ?_; intro _))
      repeat (first | rintro _ _ ⟨rfl, rfl⟩ | refine exq fun _ => ?_ | intro _ | refine go ?_ | refine drq ?_ | refine cal @hP ?_)
      simp only [ek]
      by_cases g4 : l[k].st = 0
      · cases g5 : l[k].lk with
        | true =>
          have he : thereB l[k] = true := by simp [thereB, g4, g5]
          rw [he] at hI2 hn2 ⊢
          repeat (first | rintro _ _ ⟨rfl, rfl⟩ | refine exq fun _ => ?_ | intro _ | refine go ?_ | refine drq ?_)
          simp only [ek]
          repeat (first | rintro _ _ ⟨rfl, rfl⟩ | refine exq fun _ => ?_ | intro _ | refine go ?_ | refine drq ?_)
          (apply WE_ret rfl rfl (by (repeat (first | exact ResOk.nil | (apply ResOk.tmp; rfl) | (apply resOk_cell; rfl; exact inferInstance; rfl; rfl)))))
          · exact ⟨rfl, rfl⟩
          · (apply arrr_in; (focus (exact entu0)); all_goals (first | rfl | (with_reducible assumption) | (simp; done) | (simp; omega) | omega | (constructor <;> (simp) <;> omega)))
        | false =>
          have he : thereB l[k] = false := by simp [thereB, g4, g5]
          rw [he] at hI2 hn2 ⊢
          repeat (first | rintro _ _ ⟨rfl, rfl⟩ | refine exq fun _ => ?_ | intro _ | refine go ?_ | refine drq ?_)
          simp only [ek]
          repeat (first | rintro _ _ ⟨rfl, rfl⟩ | refine exq fun _ => ?_ | intro _ | refine go ?_ | refine drq ?_)
          simp only [ek]
          apply WO_k; rfl; (refine K_way (l := l) (f := 0) (i := k) (j := 0) (w := ⟨0, line, .zero, true⟩) (by rfl) (by rfl) (by exact pb_wsl) (by rw [po_wsl]; omega) (by exact inferInstance) (by exact inferInstance) (by rfl) (by rfl) (by omega) (by decide) (by simp only [Nat.zero_add]; rfl)); refine same_intro ?_
          simp only [Nat.zero_add]
          repeat (first | rintro _ _ ⟨rfl, rfl⟩ | refine exq fun _ => ?_ | intro _ | refine go ?_ | refine drq ?_)
          (apply WE_ret rfl rfl (by (repeat (first | exact ResOk.nil | (apply ResOk.tmp; rfl) | (apply resOk_cell; rfl; exact inferInstance; rfl; rfl)))))
          · exact ⟨rfl, rfl⟩
          · (apply arrr_in; (focus (exact entu0)); all_goals (first | rfl | (with_reducible assumption) | (simp; done) | (simp; omega) | omega | (constructor <;> (simp) <;> omega)))
      · have he : thereB l[k] = true := by simp [thereB, g4]
        rw [he] at hI2 hn2 ⊢
        repeat (first | rintro _ _ ⟨rfl, rfl⟩ | refine exq fun _ => ?_ | intro _ | refine go ?_ | refine drq ?_)
        (apply WE_ret rfl rfl (by (repeat (first | exact ResOk.nil | (apply ResOk.tmp; rfl) | (apply resOk_cell; rfl; exact inferInstance; rfl; rfl)))))
        · exact ⟨rfl, rfl⟩
        · (apply arrr_in; (focus (exact entu0)); all_goals (first | rfl | (with_reducible assumption) | (simp; done) | (simp; omega) | omega | (constructor <;> (simp) <;> omega)))
    · have e1 : layE c l line i = 6 := by unfold layE; rw [if_pos h0, if_neg hp]
      have e2 : layL c l line i = l := by unfold layL; rw [e1]; rfl
      have e4 : 0 ≤ arrG c l line := by have := (arrP_lt c l line).1; unfold arrG; rw [if_neg (by omega)]; omega
      rw [e1, e2]
      generalize arrG c l line = gg at *
      repeat (first | rintro _ _ ⟨rfl, rfl⟩ | refine exq fun _ => ?_ | intro _ | refine go ?_ | refine drq ?_ | refine cal @hP ?_)
      (apply WE_ret rfl rfl (by (repeat (first | exact ResOk.nil | (apply ResOk.tmp; rfl) | (apply resOk_cell; rfl; exact inferInstance; rfl; rfl)))))
      · exact ⟨rfl, rfl⟩
      · (apply arrr_in; (focus (exact entu0)); all_goals (first | rfl | (with_reducible assumption) | (simp; done) | (simp; omega) | omega | (constructor <;> (simp) <;> omega)))
  · have hw0 : ¬ (0 ≤ way ∧ way < (waysOf c l line).length) := by
      intro hh
      cases h : okLine c line with
      | true =>
        obtain ⟨k1, k2⟩ := ways_len hc hn h
        exact h0 ⟨(okLine_iff hc).1 h, by omega⟩
      | false => rw [waysOf_no h] at hh; simp only [List.length_nil] at hh; omega
    have e1 : layE c l line way = 1 := if_neg hw0
    have e2 : layL c l line way = l := by unfold layL; rw [e1]; rfl
    rw [e1, e2]
    repeat' (first | rintro _ _ ⟨rfl, rfl⟩ | refine exq fun _ => ?_ | intro _ | refine go ?_ | refine drq ?_ | refine cal @hP ?_ | refine spl ?_ ?_ | fail)
    all_goals first | (exfalso; omega) | skip
    all_goals (apply WE_ret rfl rfl (by (repeat (first | exact ResOk.nil | (apply ResOk.tmp; rfl) | (apply resOk_cell; rfl; exact inferInstance; rfl; rfl)))))
    all_goals first | exact ⟨rfl, rfl⟩ | (apply arrr_in; (focus (exact entu0)); all_goals (first | rfl | (with_reducible assumption) | (simp; done) | (simp; omega) | omega | (constructor <;> (simp) <;> omega)))
end Go.Sx

/- The document's arrays of ways, third part: Set. My own work. -/
namespace Go.Sx
open Go Go.Proofs
set_option linter.unusedVariables false
set_option linter.unusedSectionVars false
set_option linter.unusedSimpArgs false
theorem wcell (w : Words) (i : Nat) (h : i < 8) : (wc w)[0 + ((i : Nat) : Int).toNat * 1]? = some (.int .i64 (w.list.getD i 0)) := by
  have hcase : i = 0 ∨ i = 1 ∨ i = 2 ∨ i = 3 ∨ i = 4 ∨ i = 5 ∨ i = 6 ∨ i = 7 := by omega
  rcases hcase with rfl | rfl | rfl | rfl | rfl | rfl | rfl | rfl <;> rfl
theorem odd_yes {c : Cfg} {w : Words} {k : Nat} (h1 : c.words.toNat ≤ k) (h2 : k < 8) (h3 : w.list.getD k 0 ≠ 0) : oddW c w = true := by
  unfold oddW
  rw [decide_eq_true_eq]
  by_cases hn : 0 ≤ indexBy (fun n => !decide (n = 0)) (w.list.drop c.words.toNat)
  · exact hn
  · exfalso
    have h4 := (indexBy_neg hn).2
    have hl := Words.list_len w
    have h5 : k - c.words.toNat < (w.list.drop c.words.toNat).length := by rw [List.length_drop]; omega
    have h6 := h4 _ (List.getElem_mem h5)
    rw [List.getElem_drop] at h6
    simp only [show c.words.toNat + (k - c.words.toNat) = k by omega] at h6
    rw [List.getD_eq_getElem?_getD, List.getElem?_eq_getElem (by omega), Option.getD_some] at h3
    simp at h6
    exact h3 h6
theorem odd_no {c : Cfg} {w : Words} (h : ∀ k, c.words.toNat ≤ k → k < 8 → w.list.getD k 0 = 0) : oddW c w = false := by
  unfold oddW
  rw [decide_eq_false_iff_not]
  have hl := Words.list_len w
  rw [indexBy_none]
  · omega
  · intro j hj _
    rw [List.length_drop] at hj
    have := h (c.words.toNat + j) (by omega) (by omega)
    rw [List.getD_eq_getElem?_getD, List.getElem?_eq_getElem (by omega), Option.getD_some] at this
    rw [List.getElem_drop, this]
    rfl
set_option maxRecDepth 100000
set_option maxHeartbeats 4000000
attribute [local irreducible] Go.Exit.then Go.Exit.inBlock Go.Code.wp WC WO WE WQ V LoopQ FnQ Sat Star band bor IntKind.wrap WR Code.rounds WT KO
theorem dr_ArrR3_129s {Q P : Prop} (k : Q) (h : Hid Q → P := by
  intro k
  first
  | (refine is_draw ?_; apply WC_mix (id := 12) .true _ (pl := .p 0 <| .p 1 <| .p 2 <| .p 4 <| .r 3 <| .r 5 <| .p 6 <| .p 7 <| .e true [(8, .done)]); exact mixed; kernel_rfl; kernel_rfl; exact Ent.refl; exact k.out)) : P := h ⟨k⟩
theorem ref09_Set {F : List HP} {b : Nat} {c : Cfg} {l : List Way} {line st : Int} {w : Words} :
    FnF Tryz.prog 129 [.pointer (some ⟨b, 0, none⟩), .int .i64 line, .int .i64 st, wv w] [ArrRP b c l] F (fun r L' => r = .int .i64 (setE c l line st w) ∧ L' = [ArrRP b c (setL c l line st w)]) := by
  refine FnF.mk' Tryz.func129 rfl rfl Tryz.ntmps129 rfl ?_
  refine arrr_open fun g hf => ?_
  obtain ⟨hc, hn, hI⟩ := hf
  obtain ⟨_, h4, h5, h6, h7, h8⟩ := arr_nums hc hn
  obtain ⟨_, _, _, ⟨kw, hkw, ewd⟩, _⟩ := check_facts hc
  have hbw := pow_bd hkw
  have hwd : 1 ≤ c.words ∧ c.words ≤ 8 := by rw [ewd]; exact ⟨hbw.1, by have := hbw.2; simpa using this⟩
  have hI2 : ArrInv c (setL c l line st w) := setL_inv hI
  have hn2 : ((setL c l line st w).length : Int) = c.sets * c.ways := by rw [setL_len]; exact hn
  have hP := fun F => ref09_placeO (F := F) (b := b) (g := g) (line := line) h8 hI
  haveI kr := rd_arr (g := g) (T := 69) (l := l)
  by_cases hp : arrP c l line = -1
  · have e4 : arrG c l line = -1 := if_pos (by omega)
    rw [e4] at hP
    have e1 : setE c l line st w = 5 := if_pos hp
    have e2 : setL c l line st w = l := by unfold setL; rw [e1]; rfl
    rw [e1, e2]
    repeat (first | rintro _ _ ⟨rfl, rfl⟩ | refine exq fun _ => ?_ | intro _ | refine go ?_ | refine dr_ArrR3_129s ?_ | refine drq ?_ | refine cal @hP ?_)
    (apply WE_ret rfl rfl (by (repeat (first | exact ResOk.nil | (apply ResOk.tmp; rfl) | (apply resOk_cell; rfl; exact inferInstance; rfl; rfl)))))
    · exact ⟨rfl, rfl⟩
    · (apply arrr_in; (focus (exact entu0)); all_goals (first | rfl | (with_reducible assumption) | (simp; done) | (simp; omega) | omega | (constructor <;> (simp) <;> omega)))
  · have h0 : 0 ≤ arrP c l line := by have := (arrP_lt c l line).1; omega
    obtain ⟨i, hi⟩ : ∃ i : Nat, arrP c l line = i := ⟨(arrP c l line).toNat, by omega⟩
    obtain ⟨h2, hok, h3, h4'⟩ := arrP_at hi
    have ew := findW_at hi h2
    have e4 : arrG c l line = ((arrF c line + i : Nat) : Int) := by unfold arrG; rw [if_neg (by omega), hi]; omega
    rw [e4] at hP
    by_cases hs : st < 0 ∨ st > 4
    · have e1 : setE c l line st w = 1 := by unfold setE; rw [if_neg hp, if_pos (by omega)]
      have e2 : setL c l line st w = l := by unfold setL; rw [e1]; rfl
      rw [e1, e2]
      by_cases hs0 : st < 0
      · repeat (first | rintro _ _ ⟨rfl, rfl⟩ | refine exq fun _ => ?_ | intro _ | refine go ?_ | refine dr_ArrR3_129s ?_ | refine drq ?_ | refine cal @hP ?_)
        (apply WE_ret rfl rfl (by (repeat (first | exact ResOk.nil | (apply ResOk.tmp; rfl) | (apply resOk_cell; rfl; exact inferInstance; rfl; rfl)))))
        · exact ⟨rfl, rfl⟩
        · (apply arrr_in; (focus (exact entu0)); all_goals (first | rfl | (with_reducible assumption) | (simp; done) | (simp; omega) | omega | (constructor <;> (simp) <;> omega)))
      · repeat (first | rintro _ _ ⟨rfl, rfl⟩ | refine exq fun _ => ?_ | intro _ | refine go ?_ | refine dr_ArrR3_129s ?_ | refine drq ?_ | refine cal @hP ?_)
        (apply WE_ret rfl rfl (by (repeat (first | exact ResOk.nil | (apply ResOk.tmp; rfl) | (apply resOk_cell; rfl; exact inferInstance; rfl; rfl)))))
        · exact ⟨rfl, rfl⟩
        · (apply arrr_in; (focus (exact entu0)); all_goals (first | rfl | (with_reducible assumption) | (simp; done) | (simp; omega) | omega | (constructor <;> (simp) <;> omega)))
    · have ex : oddW c w = false → setE c l line st w = 0 := fun ho => by unfold setE; rw [if_neg hp, if_neg (by rw [ho]; simp; omega)]
      have ey : oddW c w = false → setL c l line st w = l.set (arrF c line + i) { l[arrF c line + i] with st := st, words := if st = 0 then .zero else w } := fun ho => by unfold setL; rw [ex ho, hi, Int.toNat_natCast, ew]; rfl
      have ez : oddW c w = true → setE c l line st w = 1 ∧ setL c l line st w = l := fun ho => by
        have e1 : setE c l line st w = 1 := by unfold setE; rw [if_neg hp, if_pos (.inr (.inr ho))]
        exact ⟨e1, by unfold setL; rw [e1]; rfl⟩
      generalize arrF c line + i = k at *
      repeat (first | rintro _ _ ⟨rfl, rfl⟩ | refine exq fun _ => ?_ | intro _ | refine go ?_ | refine dr_ArrR3_129s ?_ | refine drq ?_ | refine cal @hP ?_)
      rename_i bw
      apply WC_loopE (E0 := [(0, _), (2, _), (7, _), (9, _)]) (fun E0 (i : Nat) => (10, .int .i64 i) :: E0) (fun _ => Cells bw 36 (wc w) :: Cells b 55 (c.cells ++ [wsl g (0 * 11) l.length l.length]) :: Cells g 69 (flat wyc l) :: F) (fun i => (c.words.toNat ≤ i ∧ i ≤ 8) ∧ ∀ j, c.words.toNat ≤ j → j < i → w.list.getD j 0 = 0) (fun i => 8 - i) c.words.toNat
      · rw [Int.toNat_of_nonneg (by omega : 0 ≤ c.words)]; (repeat (first | exact Sub.nil | (refine Sub.cons (by first | rfl | (simp only [Nat.zero_add]; rfl)) ?_)))
      · exact ⟨by omega, fun j _ hj => by omega⟩
      · exact entu0
      · rintro n ⟨⟨hi, hi8⟩, h1⟩
        by_cases hlt : n < 8
        · have hg := wcell w n hlt
          by_cases g0 : w.list.getD n 0 = 0
          · repeat (first | rintro _ _ ⟨rfl, rfl⟩ | refine exq fun _ => ?_ | intro _ | refine go ?_ | refine dr_ArrR3_129s ?_ | refine drq ?_)
            refine WE_loop (n + 1) (by omega) ⟨by omega, fun j hj hji => ?_⟩ ?_ ?_
            · by_cases e : j = n
              · subst e; exact g0
              · exact h1 j hj (by omega)
            · (repeat (first | exact Sub.nil | (refine Sub.cons (by first | rfl | (simp only [Nat.zero_add]; rfl)) ?_)))
            · exact entu0
          · obtain ⟨e1, e2⟩ := ez (odd_yes hi hlt g0)
            rw [e1, e2]
            repeat (first | rintro _ _ ⟨rfl, rfl⟩ | refine exq fun _ => ?_ | intro _ | refine go ?_ | refine dr_ArrR3_129s ?_ | refine drq ?_)
            (apply WE_ret rfl rfl (by (repeat (first | exact ResOk.nil | (apply ResOk.tmp; rfl) | (apply resOk_cell; rfl; exact inferInstance; rfl; rfl)))))
            · exact ⟨rfl, rfl⟩
            · (apply arrr_in; (focus (exact entu0)); all_goals (first | rfl | (with_reducible assumption) | (simp; done) | (simp; omega) | omega | (constructor <;> (simp) <;> omega)))
        · have hi8 : n = 8 := by omega
          subst hi8
          have ho := odd_no h1
          rw [ex ho]
          rw [ey ho] at hI2 hn2 ⊢
          (first | (refine WO_some (wsl g (0 * 11) l.length l.length) inferInstance (by omega) ?_; intro _) | (refine WC_some (wsl g (0 * 11) l.length l.length) inferInstance (by omega) ?_; intro _))
          repeat (first | rintro _ _ ⟨rfl, rfl⟩ | refine exq fun _ => ?_ | intro _ | refine go ?_ | refine dr_ArrR3_129s ?_ | refine drq ?_)
          apply WO_k; rfl; (refine K_way (l := l) (f := 0) (i := k) (j := 0) (w := { l[k] with st := st }) (by rfl) (by rfl) (by exact pb_wsl) (by rw [po_wsl]; omega) (by exact inferInstance) (by exact inferInstance) (by rfl) (by rfl) (by omega) (by decide) (by simp only [Nat.zero_add]; rfl)); refine same_intro ?_
          simp only [Nat.zero_add]
          have kr2 := rd_arr (g := g) (T := 69) (l := l.set k { l[k] with st := st })
          rw [List.length_set] at kr2
          haveI := kr2
          repeat (first | rintro _ _ ⟨rfl, rfl⟩ | refine exq fun _ => ?_ | intro _ | refine go ?_ | refine dr_ArrR3_129s ?_ | refine drq ?_)
          apply WT_k; rfl; exact GIn.none; (refine K_way (l := l.set k { l[k] with st := st }) (f := 0) (i := k) (j := 2) (w := { l[k] with st := st, words := w }) (by rfl) (by rfl) (by exact pb_wsl) (by rw [po_wsl]; omega) (by exact inferInstance) (by exact inferInstance) (by rfl) (by rfl) (by rw [List.length_set]; omega) (by decide) (by simp only [Nat.zero_add, List.getElem_set_self]; rfl)); refine same_intro ?_; (refine ⟨by first | exact After.free | exact After.turns rfl | (refine After.still ?_; (repeat (first | exact Ent.refl | exact Ent.nil | apply Ent.pick | apply Ent.drop)); done), ?_⟩)
          simp only [Nat.zero_add, List.set_set]
          have kr3 := rd_arr (g := g) (T := 69) (l := l.set k { l[k] with st := st, words := w })
          rw [List.length_set] at kr3
          haveI := kr3
          by_cases hz : st = 0
          · rw [if_pos hz] at hI2 hn2
            rw [if_pos hz]
            repeat (first | rintro _ _ ⟨rfl, rfl⟩ | refine exq fun _ => ?_ | intro _ | refine go ?_ | refine dr_ArrR3_129s ?_ | refine drq ?_)
            apply WO_k; rfl; (refine K_way (l := l.set k { l[k] with st := st, words := w }) (f := 0) (i := k) (j := 2) (w := { l[k] with st := st, words := .zero }) (by rfl) (by rfl) (by exact pb_wsl) (by rw [po_wsl]; omega) (by exact inferInstance) (by exact inferInstance) (by rfl) (by rfl) (by rw [List.length_set]; omega) (by decide) (by simp only [Nat.zero_add, List.getElem_set_self]; rfl)); refine same_intro ?_
            simp only [Nat.zero_add, List.set_set]
            repeat (first | rintro _ _ ⟨rfl, rfl⟩ | refine exq fun _ => ?_ | intro _ | refine go ?_ | refine dr_ArrR3_129s ?_ | refine drq ?_)
            (apply WE_ret rfl rfl (by (repeat (first | exact ResOk.nil | (apply ResOk.tmp; rfl) | (apply resOk_cell; rfl; exact inferInstance; rfl; rfl)))))
            · exact ⟨rfl, rfl⟩
            · (apply arrr_in; (focus (exact entu0)); all_goals (first | rfl | (with_reducible assumption) | (simp; done) | (simp; omega) | omega | (constructor <;> (simp) <;> omega)))
          · rw [if_neg hz] at hI2 hn2
            rw [if_neg hz]
            repeat (first | rintro _ _ ⟨rfl, rfl⟩ | refine exq fun _ => ?_ | intro _ | refine go ?_ | refine dr_ArrR3_129s ?_ | refine drq ?_)
            (apply WE_ret rfl rfl (by (repeat (first | exact ResOk.nil | (apply ResOk.tmp; rfl) | (apply resOk_cell; rfl; exact inferInstance; rfl; rfl)))))
            · exact ⟨rfl, rfl⟩
            · (apply arrr_in; (focus (exact entu0)); all_goals (first | rfl | (with_reducible assumption) | (simp; done) | (simp; omega) | omega | (constructor <;> (simp) <;> omega)))
end Go.Sx

/- The document's operations: which may be. My own work. -/
namespace Go.Sx
open Go Go.Proofs
set_option linter.unusedVariables false
set_option linter.unusedSimpArgs false

theorem mayB_iff (x : Op3) : mayB x = decide ((x.kind = 4 ∧ x.addr = 0 ∧ x.value = 0) ∨ (x.kind = 1 ∧ 0 ≤ x.addr ∧ x.addr ≤ 8191 ∧ x.value = 0) ∨ ((x.kind = 2 ∨ x.kind = 3) ∧ 0 ≤ x.addr ∧ x.addr ≤ 8191 ∧ -2147483648 ≤ x.value ∧ x.value ≤ 2147483647)) := by
  rw [Bool.eq_iff_iff, decide_eq_true_iff]
  unfold mayB
  split
  · simp only [Bool.and_eq_true, decide_eq_true_eq]; omega
  · split
    · simp only [Bool.and_eq_true, decide_eq_true_eq]; omega
    · split
      · simp only [Bool.and_eq_true, decide_eq_true_eq]; omega
      · simp only [Bool.false_eq_true, false_iff]; omega

set_option maxRecDepth 100000
set_option maxHeartbeats 4000000
attribute [local irreducible] Go.Exit.then Go.Exit.inBlock Go.Code.wp WC WO WE WQ V LoopQ FnQ Sat Star band bor IntKind.wrap WR Code.rounds WT KO
theorem ref03_May {F : List HP} {x : Op3} : FnF Tryz.prog 196 [ov x] [] F (fun r L' => r = .bool (mayB x) ∧ L' = []) := by
  rw [mayB_iff]
  refine FnF.mk' Tryz.func196 rfl rfl Tryz.ntmps196 rfl ?_
  repeat' (first | rintro _ _ ⟨rfl, rfl⟩ | refine exq fun _ => ?_ | intro _ | refine go ?_ | refine drq ?_ | refine spl ?_ ?_ | fail)
  all_goals (apply WE_ret rfl rfl (by (repeat (first | exact ResOk.nil | (apply ResOk.tmp; rfl)))))
  all_goals first
    | (refine ⟨?_, rfl⟩; first | (exact congrArg Value.bool (Eq.symm (decide_eq_false (by omega)))) | (exact congrArg Value.bool (Eq.symm (decide_eq_true (by omega)))) | (exact congrArg Value.bool (decide_eq_decide.2 (by omega))))
    | exact entu0

end Go.Sx
