/- The document's arrays of ways. My own work. -/
import Derived.Test.YtcjagmphobdbbaaArrPl
namespace Go.Sx
open Go Go.Proofs
set_option linter.unusedVariables false
set_option linter.unusedSectionVars false
set_option linter.unusedSimpArgs false
def ArrRB (T TW : TypeId) (b : Nat) (c : Cfg) (l : List Way) : HP :=
  Ex fun g : Nat => [Cells b T (c.cells ++ [wsl g (0 * 11) l.length l.length]), Cells g TW (flat wyc l), Fact (checkB c = true ∧ (l.length : Int) = c.sets * c.ways ∧ ArrInv c l)]
theorem arrr_in {T TW : TypeId} {b g n : Nat} {c : Cfg} {l : List Way} {xs : List Value} {L M : List HP} (h : Ent L (Cells b T (c.cells ++ [wsl g (0 * 11) n n]) :: Cells g TW xs :: M)) (hn : n = l.length) (hx : xs = flat wyc l)
    (hc : checkB c = true) (hl : (l.length : Int) = c.sets * c.ways) (hI : ArrInv c l) : Ent L (ArrRB T TW b c l :: M) := by
  subst hn hx
  refine Ent.trans h (Ent.trans ?_ (ex_intro (p := fun g : Nat => [Cells b T (c.cells ++ [wsl g (0 * 11) l.length l.length]), Cells g TW (flat wyc l), Fact (checkB c = true ∧ (l.length : Int) = c.sets * c.ways ∧ ArrInv c l)]) g))
  exact Ent.cons (Ent.cons (star_fact_mk ⟨hc, hl, hI⟩))
theorem arrr_sat {T TW : TypeId} {b : Nat} {c : Cfg} {l : List Way} {L : List HP} {w : World} (h : Sat (ArrRB T TW b c l :: L) w) : ∃ g, (checkB c = true ∧ (l.length : Int) = c.sets * c.ways ∧ ArrInv c l) ∧ Sat (Cells b T (c.cells ++ [wsl g (0 * 11) l.length l.length]) :: Cells g TW (flat wyc l) :: L) w := by
  obtain ⟨g, hx⟩ := star_ex h
  simp only [app] at hx
  exact ⟨g, fact_of (star_drop (star_drop hx)), (Ent.cons (Ent.cons (Ent.drop Ent.refl))) _ hx⟩
section
variable {T TW : TypeId} {b : Nat} {c : Cfg} {l : List Way} {P : Program} {N : Nat} {env : Env} {L : List HP} {Q : Exit → Act → World → Prop}
theorem arrr_open {co : Code} (h : ∀ g, (checkB c = true ∧ (l.length : Int) = c.sets * c.ways ∧ ArrInv c l) → WC P N co env (Cells b T (c.cells ++ [wsl g (0 * 11) l.length l.length]) :: Cells g TW (flat wyc l) :: L) Q) : WC P N co env (ArrRB T TW b c l :: L) Q := by
  intro a w ha hw
  obtain ⟨g, hf, hx⟩ := arrr_sat hw
  exact h g hf a w ha hx
theorem arrr_openO {all : Array Oper} {o : List Oper} (h : ∀ g, (checkB c = true ∧ (l.length : Int) = c.sets * c.ways ∧ ArrInv c l) → WO P N all o env (Cells b T (c.cells ++ [wsl g (0 * 11) l.length l.length]) :: Cells g TW (flat wyc l) :: L) Q) : WO P N all o env (ArrRB T TW b c l :: L) Q := by
  intro a w ha hw
  obtain ⟨g, hf, hx⟩ := arrr_sat hw
  exact h g hf a w ha hx
end
theorem rd_arr {g T : Nat} {l : List Way} (L : List HP) : RdL (Cells g T (flat wyc l) :: L) 11 (wsl g (0 * 11) l.length l.length) l.length (flat wyc l) := by
  have := rd_ways (g := g) (T := T) (l := l) (f := 0) (k := l.length) (cap := l.length) (by omega) L
  simpa using this
/-- The index of a way of a line's set. -/
theorem idx_mod {c : Cfg} {line : Int} {i : Nat} (hi : i < c.ways.toNat) : ((arrF c line + i : Nat) : Int).tmod c.ways = i := by
  have hw : c.ways = (c.ways.toNat : Int) := by omega
  have e : (arrF c line + i) % c.ways.toNat = i := by
    unfold arrF
    rw [Nat.mul_comm, Nat.mul_add_mod, Nat.mod_eq_of_lt hi]
  rw [tmod_nn (by omega), hw]
  exact_mod_cast e
theorem okLine_iff {c : Cfg} {line : Int} (hc : checkB c = true) : okLine c line = true ↔ 0 ≤ line ∧ line < c.lines := by simp [okLine, hc]
theorem arrG_lt {c : Cfg} {l : List Way} {line : Int} : -1 ≤ arrG c l line ∧ arrG c l line < l.length := by
  unfold arrG
  split
  · omega
  · rename_i h
    obtain ⟨i, hi⟩ : ∃ i : Nat, arrP c l line = i := ⟨(arrP c l line).toNat, by omega⟩
    obtain ⟨h2, _⟩ := arrP_at hi
    omega
set_option maxRecDepth 100000
set_option maxHeartbeats 4000000
attribute [local irreducible] Go.Exit.then Go.Exit.inBlock Go.Code.wp WC WO WE WQ V LoopQ FnQ Sat Star band bor IntKind.wrap WR Code.rounds WT KO
abbrev ArrRP := ArrRB 109 100
theorem ref09_New_no {F : List HP} {c : Cfg} (hc : c.wf) (h : checkB c = false) : FnF Try.prog 44 [c.val] [] F (fun r L' => r = .tuple [.pointer none, .int .i64 1].toArray ∧ L' = []) := by
  have hC := fun F => ref01_Check (F := F) hc
  simp only [checkE, h, Bool.false_eq_true, if_false] at hC
  refine FnF.mk' Try.func44 rfl rfl Try.ntmps44 rfl ?_
  repeat (first | rintro _ _ ⟨rfl, rfl⟩ | rintro _ _ ⟨_, rfl, rfl⟩ | rintro _ _ ⟨_, _, rfl, rfl⟩ | rintro _ _ ⟨_, _, _, _, rfl, rfl⟩ | intro _ | refine go ?_ | (refine is_draw ?_; apply WC_mix (id := 3) true _ (pl := .p 1 <| .p 3 <| .r 0 <| .r 2 <| .r 4 <| .p 5 <| .e true [(6, .p 7 <| .e true [(8, .p 9 <| .p 10 <| .done)])]); exact mixed; kernel_rfl; kernel_rfl; exact Ent.refl) | (refine is_draw ?_; refine WC_draw mixed (by kernel_rfl) ?_) | refine cal @hC ?_)
  (apply WE_ret rfl rfl (by (repeat (first | exact ResOk.nil | (apply ResOk.tmp; rfl) | (apply resOk_cell; rfl; exact inferInstance; rfl; rfl)))); (first | exact ⟨rfl, rfl⟩ | exact ⟨congrArg Value.bool (by decide), rfl⟩ | exact ⟨_, rfl, rfl⟩ | exact ⟨_, _, rfl, rfl⟩ | exact ⟨by first | (simp []; done) | (simp [] <;> omega), rfl⟩); (repeat (first | exact Ent.refl | exact Ent.nil | apply Ent.pick | apply Ent.drop)))
theorem ref09_New {F : List HP} {c : Cfg} (hw : c.wf) (hc : checkB c = true) : FnF Try.prog 44 [c.val] [] F (fun r L' => ∃ b, r = .tuple [.pointer (some ⟨b, 0, none⟩), .int .i64 0].toArray ∧ L' = [ArrRP b c (List.replicate (c.sets * c.ways).toNat .zero)]) := by
  have hC := fun F => ref01_Check (F := F) hw
  simp only [checkE, hc, if_true] at hC
  obtain ⟨_, _, ⟨k, hk, e⟩, _, _, h1, h2⟩ := check_facts hc
  have hb := pow_bd hk
  have h3 : 1 ≤ c.sets ∧ c.sets ≤ 64 := by rw [e]; exact ⟨hb.1, by have := hb.2; simpa using this⟩
  have hz : c.sets * c.ways = ((c.sets.toNat * c.ways.toNat : Nat) : Int) := by rw [Int.natCast_mul, Int.toNat_of_nonneg (by omega), Int.toNat_of_nonneg (by omega)]
  have hm : c.sets.toNat * c.ways.toNat ≤ 64 * 8 := Nat.mul_le_mul (by omega) (by omega)
  refine FnF.mk' Try.func44 rfl rfl Try.ntmps44 rfl ?_
  have h0 : 0 ≤ c.sets * c.ways ∧ c.sets * c.ways ≤ 512 := by omega
  repeat (first | rintro _ _ ⟨rfl, rfl⟩ | rintro _ _ ⟨_, rfl, rfl⟩ | rintro _ _ ⟨_, _, rfl, rfl⟩ | rintro _ _ ⟨_, _, _, _, rfl, rfl⟩ | intro _ | refine go ?_ | (refine is_draw ?_; apply WC_mix (id := 3) true _ (pl := .p 1 <| .p 3 <| .r 0 <| .r 2 <| .r 4 <| .p 5 <| .e true [(6, .p 7 <| .e true [(8, .p 9 <| .p 10 <| .done)])]); exact mixed; kernel_rfl; kernel_rfl; exact Ent.refl) | (refine is_draw ?_; refine WC_draw mixed (by kernel_rfl) ?_) | refine cal @hC ?_)
  apply WT_k; rfl; exact GIn.none; (apply K_makeSliceN; rfl; omega; omega; omega; rfl; omega; rfl); refine fresh_intro ?_; intro g; (refine ⟨by first | exact After.free | exact After.turns rfl | (refine After.still ?_; (repeat (first | exact Ent.refl | exact Ent.nil | apply Ent.pick | apply Ent.drop)); done), ?_⟩)
  repeat (first | rintro _ _ ⟨rfl, rfl⟩ | rintro _ _ ⟨_, rfl, rfl⟩ | rintro _ _ ⟨_, _, rfl, rfl⟩ | rintro _ _ ⟨_, _, _, _, rfl, rfl⟩ | intro _ | refine go ?_ | (refine is_draw ?_; apply WC_mix (id := 3) true _ (pl := .p 1 <| .p 3 <| .r 0 <| .r 2 <| .r 4 <| .p 5 <| .e true [(6, .p 7 <| .e true [(8, .p 9 <| .p 10 <| .done)])]); exact mixed; kernel_rfl; kernel_rfl; exact Ent.refl) | (refine is_draw ?_; refine WC_draw mixed (by kernel_rfl) ?_))
  (apply WE_ret rfl rfl (by (repeat (first | exact ResOk.nil | (apply ResOk.tmp; rfl) | (apply resOk_cell; rfl; exact inferInstance; rfl; rfl)))))
  · exact ⟨_, rfl, rfl⟩
  · refine Ent.trans ?_ (arrr_in (g := g) (l := List.replicate (c.sets * c.ways).toNat .zero) (n := (c.sets * c.ways).toNat) (xs := (List.replicate (c.sets * c.ways).toNat (wyc .zero)).flatten) Ent.refl (by simp) (zero_flat _) hc (by simp; omega) (arr_inv_no _ _))
    have ew : wsl g (0 * 11) (c.sets * c.ways).toNat (c.sets * c.ways).toNat = .slice (some ⟨g, 0, none⟩) (c.sets * c.ways).toNat (c.sets * c.ways).toNat := by unfold wsl; rfl
    rw [ew]
    change Ent (Cells _ _ (c.cells ++ [.slice (some ⟨g, 0, none⟩) (c.sets * c.ways).toNat (c.sets * c.ways).toNat]) :: _) _
    (repeat (first | (with_reducible exact Ent.refl) | exact Ent.nil | (apply ent_pickE; (focus ((repeat (first | (with_reducible exact pk_here) | (apply pk_there))); done))) | apply Ent.drop))
theorem ref09_placeO {F : List HP} {b g : Nat} {c : Cfg} {l : List Way} {line : Int} (hl : l.length ≤ 512) (hI : ArrInv c l) :
    FnF Try.prog 93 [.pointer (some ⟨b, 0, none⟩), .int .i64 line] [Cells b 109 (c.cells ++ [wsl g (0 * 11) l.length l.length]), Cells g 100 (flat wyc l)] F
      (fun r L' => r = .int .i64 (arrG c l line) ∧ L' = [Cells b 109 (c.cells ++ [wsl g (0 * 11) l.length l.length]), Cells g 100 (flat wyc l)]) := by
  haveI kr := rd_arr (g := g) (T := 100) (l := l)
  rw [← arrG_eq hI line]
  refine FnF.mk' Try.func93 rfl rfl Try.ntmps93 rfl ?_
  repeat (first | rintro _ _ ⟨rfl, rfl⟩ | rintro _ _ ⟨_, rfl, rfl⟩ | rintro _ _ ⟨_, _, rfl, rfl⟩ | rintro _ _ ⟨_, _, _, _, rfl, rfl⟩ | intro _ | refine go ?_ | (refine is_draw ?_; refine WC_draw mixed (by kernel_rfl) ?_))
  apply WC_loopE (E0 := [(0, _), (1, _)]) (fun E0 (i : Nat) => (5, .int .i64 i) :: E0) (fun _ => Cells b 109 (c.cells ++ [wsl g (0 * 11) l.length l.length]) :: Cells g 100 (flat wyc l) :: F) (fun i => i ≤ l.length ∧ ∀ j (h : j < l.length), j < i → pHas line l[j] = false) (fun i => l.length - i) 0
  · (repeat (first | exact Sub.nil | (refine Sub.cons (by first | rfl | (simp only [Nat.zero_add]; rfl)) ?_)))
  · exact ⟨by omega, fun j _ hj => by omega⟩
  · (repeat (first | (with_reducible exact Ent.refl) | exact Ent.nil | (apply ent_pickE; (focus ((repeat (first | (with_reducible exact pk_here) | (apply pk_there))); done))) | apply Ent.drop))
  · rintro i ⟨hi, h1⟩
    by_cases hlt : i < l.length
    · have next : pHas line l[i] = false → ∀ j (h : j < l.length), j < i + 1 → pHas line l[j] = false := fun h0 j hj hji => by
        by_cases e : j = i
        · subst e; exact h0
        · exact h1 j hj (by omega)
      by_cases g1 : l[i].line = line
      · by_cases g2 : l[i].st = 0
        · cases g3 : l[i].lk with
          | true =>
            have he : pHas line l[i] = true := by simp [pHas, thereB, g1, g3]
            repeat (first | rintro _ _ ⟨rfl, rfl⟩ | rintro _ _ ⟨_, rfl, rfl⟩ | rintro _ _ ⟨_, _, rfl, rfl⟩ | rintro _ _ ⟨_, _, _, _, rfl, rfl⟩ | intro _ | refine go ?_ | (refine is_draw ?_; refine WC_draw mixed (by kernel_rfl) ?_))
            (apply WE_ret rfl rfl (by (repeat (first | exact ResOk.nil | (apply ResOk.tmp; rfl) | (apply resOk_cell; rfl; exact inferInstance; rfl; rfl)))))
            · exact ⟨by rw [indexBy_at hlt h1 he]; rfl, rfl⟩
            · (repeat (first | (with_reducible exact Ent.refl) | exact Ent.nil | (apply ent_pickE; (focus ((repeat (first | (with_reducible exact pk_here) | (apply pk_there))); done))) | apply Ent.drop))
          | false =>
            have he : pHas line l[i] = false := by simp [pHas, thereB, g2, g3]
            repeat (first | rintro _ _ ⟨rfl, rfl⟩ | rintro _ _ ⟨_, rfl, rfl⟩ | rintro _ _ ⟨_, _, rfl, rfl⟩ | rintro _ _ ⟨_, _, _, _, rfl, rfl⟩ | intro _ | refine go ?_ | (refine is_draw ?_; refine WC_draw mixed (by kernel_rfl) ?_))
            refine WE_loop (i + 1) (by omega) ⟨by omega, next he⟩ ?_ ?_
            · (repeat (first | exact Sub.nil | (refine Sub.cons (by first | rfl | (simp only [Nat.zero_add]; rfl)) ?_)))
            · (repeat (first | (with_reducible exact Ent.refl) | exact Ent.nil | (apply ent_pickE; (focus ((repeat (first | (with_reducible exact pk_here) | (apply pk_there))); done))) | apply Ent.drop))
        · have he : pHas line l[i] = true := by simp [pHas, thereB, g1, g2]
          repeat (first | rintro _ _ ⟨rfl, rfl⟩ | rintro _ _ ⟨_, rfl, rfl⟩ | rintro _ _ ⟨_, _, rfl, rfl⟩ | rintro _ _ ⟨_, _, _, _, rfl, rfl⟩ | intro _ | refine go ?_ | (refine is_draw ?_; refine WC_draw mixed (by kernel_rfl) ?_))
          (apply WE_ret rfl rfl (by (repeat (first | exact ResOk.nil | (apply ResOk.tmp; rfl) | (apply resOk_cell; rfl; exact inferInstance; rfl; rfl)))))
          · exact ⟨by rw [indexBy_at hlt h1 he]; rfl, rfl⟩
          · (repeat (first | (with_reducible exact Ent.refl) | exact Ent.nil | (apply ent_pickE; (focus ((repeat (first | (with_reducible exact pk_here) | (apply pk_there))); done))) | apply Ent.drop))
      · have he : pHas line l[i] = false := by simp [pHas, g1]
        repeat (first | rintro _ _ ⟨rfl, rfl⟩ | rintro _ _ ⟨_, rfl, rfl⟩ | rintro _ _ ⟨_, _, rfl, rfl⟩ | rintro _ _ ⟨_, _, _, _, rfl, rfl⟩ | intro _ | refine go ?_ | (refine is_draw ?_; refine WC_draw mixed (by kernel_rfl) ?_))
        refine WE_loop (i + 1) (by omega) ⟨by omega, next he⟩ ?_ ?_
        · (repeat (first | exact Sub.nil | (refine Sub.cons (by first | rfl | (simp only [Nat.zero_add]; rfl)) ?_)))
        · (repeat (first | (with_reducible exact Ent.refl) | exact Ent.nil | (apply ent_pickE; (focus ((repeat (first | (with_reducible exact pk_here) | (apply pk_there))); done))) | apply Ent.drop))
    · have hil : i = l.length := by omega
      subst hil
      repeat (first | rintro _ _ ⟨rfl, rfl⟩ | rintro _ _ ⟨_, rfl, rfl⟩ | rintro _ _ ⟨_, _, rfl, rfl⟩ | rintro _ _ ⟨_, _, _, _, rfl, rfl⟩ | intro _ | refine go ?_ | (refine is_draw ?_; refine WC_draw mixed (by kernel_rfl) ?_))
      (apply WE_ret rfl rfl (by (repeat (first | exact ResOk.nil | (apply ResOk.tmp; rfl) | (apply resOk_cell; rfl; exact inferInstance; rfl; rfl)))))
      · exact ⟨by rw [indexBy_none h1]; rfl, rfl⟩
      · (repeat (first | (with_reducible exact Ent.refl) | exact Ent.nil | (apply ent_pickE; (focus ((repeat (first | (with_reducible exact pk_here) | (apply pk_there))); done))) | apply Ent.drop))
theorem ref09_Find {F : List HP} {b : Nat} {c : Cfg} {l : List Way} {line : Int} :
    FnF Try.prog 50 [.pointer (some ⟨b, 0, none⟩), .int .i64 line] [ArrRP b c l] F (fun r L' => r = .tuple [wyv (findW c l line), .int .i64 (findI c l line), .bool (findB c l line)].toArray ∧ L' = [ArrRP b c l]) := by
  refine FnF.mk' Try.func50 rfl rfl Try.ntmps50 rfl ?_
  refine arrr_open fun g hf => ?_
  obtain ⟨hc, hn, hI⟩ := hf
  obtain ⟨_, h4, h5, _, _, h8⟩ := arr_nums hc hn
  have hP := fun F => ref09_placeO (F := F) (b := b) (g := g) (line := line) h8 hI
  haveI kr := rd_arr (g := g) (T := 100) (l := l)
  by_cases h : arrP c l line < 0
  · have e1 : findW c l line = .zero := if_pos h
    have e2 : findI c l line = 0 := if_pos h
    have e3 : findB c l line = false := by simp [findB, h]
    have e4 : arrG c l line = -1 := if_pos h
    rw [e1, e2, e3]
    rw [e4] at hP
    repeat (first | rintro _ _ ⟨rfl, rfl⟩ | rintro _ _ ⟨_, rfl, rfl⟩ | rintro _ _ ⟨_, _, rfl, rfl⟩ | rintro _ _ ⟨_, _, _, _, rfl, rfl⟩ | intro _ | refine go ?_ | (refine is_draw ?_; apply WC_mix (id := 4) true _ (pl := .p 0 <| .p 1 <| .p 2 <| .p 4 <| .p 7 <| .p 8 <| .p 9 <| .p 10 <| .p 11 <| .r 3 <| .p 5 <| .r 6 <| .e true [(12, .p 13 <| .e true [(14, .p 15 <| .p 16 <| .done)]), (14, .e false [(12, .p 13 <| .p 15 <| .p 16 <| .done)])]); exact mixed; kernel_rfl; kernel_rfl; exact Ent.refl) | (refine is_draw ?_; refine WC_draw mixed (by kernel_rfl) ?_) | refine cal @hP ?_)
    (apply WE_ret rfl rfl (by (repeat (first | exact ResOk.nil | (apply ResOk.tmp; rfl) | (apply resOk_cell; rfl; exact inferInstance; rfl; rfl)))))
    · exact ⟨rfl, rfl⟩
    · (apply arrr_in; (focus ((repeat (first | (with_reducible exact Ent.refl) | exact Ent.nil | (apply ent_pickE; (focus ((repeat (first | (with_reducible exact pk_here) | (apply pk_there))); done))) | apply Ent.drop)); done)); all_goals (first | rfl | (with_reducible assumption) | (simp; done) | (simp; omega) | omega | (constructor <;> (simp) <;> omega)))
  · obtain ⟨i, hi⟩ : ∃ i : Nat, arrP c l line = i := ⟨(arrP c l line).toNat, by omega⟩
    obtain ⟨h2, hok, h3, h4'⟩ := arrP_at hi
    have e1 := findW_at hi h2
    have e2 : findI c l line = i := by unfold findI; rw [if_neg h, hi]
    have e3 : findB c l line = true := by simp [findB, h]
    have e4 : arrG c l line = ((arrF c line + i : Nat) : Int) := by unfold arrG; rw [if_neg h, hi]; omega
    have e5 := idx_mod (line := line) h4'
    rw [e1, e2, e3]
    rw [e4] at hP
    generalize hk : arrF c line + i = k at *
    (first | (refine WO_some (wsl g (0 * 11) l.length l.length) inferInstance (by omega) ?_; intro _) | (refine WC_some (wsl g (0 * 11) l.length l.length) inferInstance (by omega) ?_; intro _))
    repeat' (first | rintro _ _ ⟨rfl, rfl⟩ | rintro _ _ ⟨_, rfl, rfl⟩ | rintro _ _ ⟨_, _, rfl, rfl⟩ | rintro _ _ ⟨_, _, _, _, rfl, rfl⟩ | intro _ | refine go ?_ | (refine is_draw ?_; apply WC_mix (id := 4) true _ (pl := .p 0 <| .p 1 <| .p 2 <| .p 4 <| .p 7 <| .p 8 <| .p 9 <| .p 10 <| .p 11 <| .r 3 <| .p 5 <| .r 6 <| .e true [(12, .p 13 <| .e true [(14, .p 15 <| .p 16 <| .done)]), (14, .e false [(12, .p 13 <| .p 15 <| .p 16 <| .done)])]); exact mixed; kernel_rfl; kernel_rfl; exact Ent.refl) | (refine is_draw ?_; refine WC_draw mixed (by kernel_rfl) ?_) | refine cal @hP ?_ | refine spl ?_ ?_ | fail)
    all_goals (apply WE_ret rfl rfl (by (repeat (first | exact ResOk.nil | (apply ResOk.tmp; rfl) | (apply resOk_cell; rfl; exact inferInstance; rfl; rfl)))))
    all_goals first | exact ⟨by rw [e5]; rfl, rfl⟩ | (apply arrr_in; (focus ((repeat (first | (with_reducible exact Ent.refl) | exact Ent.nil | (apply ent_pickE; (focus ((repeat (first | (with_reducible exact pk_here) | (apply pk_there))); done))) | apply Ent.drop)); done)); all_goals (first | rfl | (with_reducible assumption) | (simp; done) | (simp; omega) | omega | (constructor <;> (simp) <;> omega)))
end Go.Sx
