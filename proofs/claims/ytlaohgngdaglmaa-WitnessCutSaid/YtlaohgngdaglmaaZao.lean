/- Hom3: several of my texts as one. My own work. -/
import Derived.Test.YtlaohgngdaglmaaZan
/- What homes do: a request's start, and what can be done for one. The program's functions. My own work. -/
namespace Go.Sx
open Go Go.Proofs
set_option linter.unusedVariables false
set_option linter.unusedSectionVars false
set_option linter.unusedSimpArgs false
set_option maxRecDepth 100000
set_option maxHeartbeats 4000000
attribute [local irreducible] Go.Exit.then Go.Exit.inBlock Go.Code.wp WC WO WE WQ V LoopQ FnQ Sat Star band bor IntKind.wrap WR Code.rounds WT KO
theorem dr_Hom3_68m {Q P : Prop} (k : Q) (h : Hid Q → P := by
  intro k
  first
  | (refine is_draw ?_; apply WC_mix (id := 1) (.only [11]) _ (pl := .p 0 <| .p 1 <| .p 2 <| .p 4 <| .r 3 <| .r 5 <| .e true [(6, .p 7 <| .p 8 <| .p 9 <| .e true [(10, .e true [(11, .n [] <| .p 12 <| .done)])]), (10, .e true [(6, .p 7 <| .p 8 <| .p 9 <| .e true [(11, .n [] <| .p 12 <| .done)])])]); exact mixed; kernel_rfl; kernel_rfl; exact Ent.refl; exact k.out)
  | (refine is_draw ?_; apply WC_mix (id := 2) (.only [14]) _ (pl := .p 0 <| .p 1 <| .p 2 <| .p 4 <| .r 3 <| .r 5 <| .r 6 <| .r 7 <| .r 8 <| .e true [(9, .p 10 <| .p 11 <| .p 12 <| .e true [(13, .e true [(14, .n [] <| .p 15 <| .done)])]), (13, .e true [(9, .p 10 <| .p 11 <| .p 12 <| .e true [(14, .n [] <| .p 15 <| .done)])])]); exact mixed; kernel_rfl; kernel_rfl; exact Ent.refl; exact k.out)
  | (refine is_draw ?_; apply WC_mix (id := 5) (.only [7]) _ (pl := .p 0 <| .p 1 <| .p 2 <| .p 4 <| .r 3 <| .r 5 <| .e true [(6, .e true [(7, .n [] <| .done)])]); exact mixed; kernel_rfl; kernel_rfl; exact Ent.refl; exact k.out)
  | (refine is_draw ?_; apply WC_mix (id := 7) (.only [8]) _ (pl := .p 0 <| .p 1 <| .p 2 <| .p 4 <| .p 6 <| .r 3 <| .r 5 <| .r 7 <| .e true [(8, .n [] <| .done)]); exact mixed; kernel_rfl; kernel_rfl; exact Ent.refl; exact k.out)
  | (refine is_draw ?_; apply WC_mix (id := 8) (.only [7]) _ (pl := .p 0 <| .p 1 <| .p 2 <| .p 4 <| .p 5 <| .r 3 <| .r 6 <| .e true [(7, .n [] <| .done)]); exact mixed; kernel_rfl; kernel_rfl; exact Ent.refl; exact k.out)
  | (refine is_draw ?_; apply WC_mix (id := 11) (.only [8]) _ (pl := .p 0 <| .p 1 <| .p 2 <| .p 4 <| .p 6 <| .r 3 <| .r 5 <| .r 7 <| .e true [(8, .n [] <| .done)]); exact mixed; kernel_rfl; kernel_rfl; exact Ent.refl; exact k.out)
  | (refine is_draw ?_; apply WC_mix (id := 9) .true _ (pl := .p 0 <| .p 1 <| .p 2 <| .p 4 <| .p 6 <| .r 3 <| .r 5 <| .r 7 <| .e true [(8, .done)]); exact mixed; kernel_rfl; kernel_rfl; exact Ent.refl; exact k.out)) : P := h ⟨k⟩
theorem hm_start {F : List HP} {b : Nat} {c : Cfg} {num : Int} {s : HomS} {n : Int} (h : HmI c num s) (hr : qready s.q n = true) (ho : 0 ≤ s.odd ∧ s.odd ≤ 1000000000000) :
    FnF Try.prog 68 [.pointer (some ⟨b, 0, none⟩), .int .i64 n, mv (hmX s n)] [HomP b c num s] F (fun r L' => r = .tuple [].toArray ∧ L' = [HomP b c num (hmStartS c s n)]) := by
  have hc := cfg_wf' h.ok
  obtain ⟨i, hi, en, ea, es0, _⟩ := qready_t hr
  have hmine : mineB c num (hmX s n) 0 = true := by
    unfold hmX; rw [ea]; exact h.req _ (List.getElem_mem hi)
  obtain ⟨f1, f2, f3, f4, f5⟩ := mine_facts h.ok hmine
  obtain ⟨g1, g2, g3, _⟩ := hmEnt_own h f3
  have hs : shMay (hmEnt s (hmX s n).line).s = true := by simp only [mayT, Bool.and_eq_true] at g2; exact g2.1.1
  have hb9 : (hmEnt s (hmX s n).line).s.ps.length ≤ 1000 := by have := may_facts' hs; omega
  have hlb := (cfg_bnd h.ok).2.2.2
  have hl : I64 (hmX s n).line := by have := f3.2.1; have := f3.1; unfold I64; omega
  have hcs := nextE_cases h hmine
  have hodd := fun hk => odd_out (m := hmX s n) hr rfl hk
  obtain ⟨es, ms, q, odd⟩ := s
  generalize hX : hmX ⟨es, ms, q, odd⟩ n = m at *
  generalize hEn : hmEnt ⟨es, ms, q, odd⟩ m.line = en at *
  have hL := fun F b => mem_Line (F := F) (b := b) (c := c) (ms := ms) hc hl
  have hW := fun F b => mem_Write (F := F) (b := b) (c := c) (ms := ms) (w := m.words) hc hl
  refine FnF.mk' Try.func68 rfl rfl Try.ntmps68 rfl ?_
  refine hm_open fun bm be bq ps he => ?_
  dsimp only at he g1 ho hr hodd ⊢
  subst he
  obtain ⟨⟨en', a, k⟩, hp, rfl⟩ : ∃ x : HRd, mget ps m.line = some x ∧ x.1 = en := by
    rw [hes_get] at g1
    cases e : mget ps m.line with
    | none => rw [e] at g1; cases g1
    | some x => rw [e] at g1; exact ⟨x, rfl, by cases g1; rfl⟩
  dsimp only at *
  haveI kr := fun L => rd_hrs_some hp L
  have hN := fun F (hk : RdL F 1 (.slice a en'.s.ps.length k) en'.s.ps.length (flat ic en'.s.ps)) => tab_Next (F := F) (e := en') (a := a) (k := k) (m := m) (w := lineWo c ms m.line) hk hb9
  rcases hcs with ⟨c1, c2, c3⟩ | c1
  · have e1 : hmStartS c ⟨hes ps, ms, q, odd⟩ n = ⟨hes ps, ms, q.eraseIdx n.toNat, odd + 1⟩ := by
      unfold hmStartS; rw [hX, hEn, if_neg (by omega)]; rfl
    rw [e1, ← hodd (by omega)]
    simp only [c1] at hN
    have hS := fun F u (k : RdL F 15 u 1 (mc m)) => qu_Start (F := F) (b := bq) (room := c.buffer) (l := q) (n := n) (u := u) (s := [m]) k (by simp)
    repeat' (first | rintro _ _ ⟨rfl, rfl⟩ | refine exq fun _ => ?_ | intro _ | refine go ?_ | refine dr_Hom3_68m ?_ | refine drq ?_ | refine cal @hL ?_ | refine spl ?_ ?_ | fail)
    all_goals (simp only [hp, Option.getD_some])
    all_goals (repeat' (first | rintro _ _ ⟨rfl, rfl⟩ | refine exq fun _ => ?_ | intro _ | refine go ?_ | refine dr_Hom3_68m ?_ | refine drq ?_ | refine cal @hN ?_ | refine cal @hS ?_ | refine cal @qu_Sent ?_ | refine cal @qu_Finish ?_ | refine spl ?_ ?_ | fail))
    all_goals (apply WE_ret rfl rfl (by (repeat (first | exact ResOk.nil | (apply ResOk.tmp; rfl) | (apply resOk_cell; rfl; exact inferInstance; rfl; rfl)))))
    all_goals first
    | exact ⟨rfl, rfl⟩
    | ((repeat (first | (with_reducible exact Ent.refl) | exact Ent.nil | (apply ent_pickE; (focus ((repeat (first | (with_reducible exact pk_here) | (apply pk_there))); done))) | (apply hm_in) | apply Ent.drop)); all_goals (first | rfl | (with_reducible assumption) | (simp; done) | (simp; omega) | omega | (constructor <;> (simp) <;> omega)))
  · have e1 : hmStartS c ⟨hes ps, ms, q, odd⟩ n = ⟨mset (hes ps) m.line (nextT en' m), if nextW en' m then wrL c ms m.line m.words else ms, qstartL q n (nextS en' m (lineWo c ms m.line)), odd⟩ := by
      unfold hmStartS hmTurnS; rw [hX, hEn, if_pos c1]
    have hsl := (sent_facts (w := lineWo c ms m.line) c1).2.1
    rw [e1]
    simp only [c1] at hN
    have hS := fun F u (k : RdL F 15 u (nextS en' m (lineWo c ms m.line)).length (flat mc (nextS en' m (lineWo c ms m.line)))) => qu_Start (F := F) (b := bq) (room := c.buffer) (l := q) (n := n) (u := u) k hsl
    cases hw : nextW en' m with
    | true =>
      simp only [hw] at hN
      rw [if_pos rfl]
      repeat' (first | rintro _ _ ⟨rfl, rfl⟩ | refine exq fun _ => ?_ | intro _ | refine go ?_ | refine dr_Hom3_68m ?_ | refine drq ?_ | refine cal @hL ?_ | refine spl ?_ ?_ | fail)
      all_goals (simp only [hp, Option.getD_some])
      all_goals (repeat' (first | rintro _ _ ⟨rfl, rfl⟩ | refine exq fun _ => ?_ | intro _ | refine go ?_ | refine dr_Hom3_68m ?_ | refine drq ?_ | refine cal @hN ?_ | refine cal @hS ?_ | refine spl ?_ ?_ | fail))
      all_goals (apply WT_k; rfl; (first | exact GIn.none | (apply gin_t; rfl; rfl; (first | (with_reducible rfl) | exact congrArg Value.bool (by with_reducible assumption) | exact congrArg Value.bool (dec_t (by first | (with_reducible assumption) | (with_reducible rfl) | (with_reducible exact nn_eq) | (with_reducible exact nn_ne) | omega | decide | exact rfl)))) | (apply gin_f; rfl; rfl; (first | (with_reducible rfl) | exact congrArg Value.bool (by with_reducible assumption) | exact congrArg Value.bool (dec_f (by first | (with_reducible assumption) | (with_reducible rfl) | (with_reducible exact nn_eq) | (with_reducible exact nn_ne) | omega | decide | exact rfl))))); exact K_mapUpdateT (xv := (nextT en' m, _, _)) rfl rfl rfl inferInstance rfl; refine same_intro ?_)
      all_goals (repeat' (first | rintro _ _ ⟨rfl, rfl⟩ | refine exq fun _ => ?_ | intro _ | refine go ?_ | refine dr_Hom3_68m ?_ | refine drq ?_ | refine cal @hW ?_ | refine spl ?_ ?_ | fail))
      all_goals (apply WE_ret rfl rfl (by (repeat (first | exact ResOk.nil | (apply ResOk.tmp; rfl) | (apply resOk_cell; rfl; exact inferInstance; rfl; rfl)))))
      all_goals first
      | exact ⟨rfl, rfl⟩
      | (((repeat (first | (with_reducible exact Ent.refl) | exact Ent.nil | (apply ent_pickE; (focus ((repeat (first | (with_reducible exact pk_here) | (apply pk_there))); done))) | (apply hm_in) | (apply hrs_put) | apply Ent.drop)); all_goals (first | rfl | (with_reducible assumption) | (simp [hes_mset]; done) | (simp [hes_mset]; omega) | omega | (constructor <;> (simp [hes_mset]) <;> omega))))
    | false =>
      simp only [hw] at hN
      rw [if_neg (by simp)]
      repeat' (first | rintro _ _ ⟨rfl, rfl⟩ | refine exq fun _ => ?_ | intro _ | refine go ?_ | refine dr_Hom3_68m ?_ | refine drq ?_ | refine cal @hL ?_ | refine spl ?_ ?_ | fail)
      all_goals (simp only [hp, Option.getD_some])
      all_goals (repeat' (first | rintro _ _ ⟨rfl, rfl⟩ | refine exq fun _ => ?_ | intro _ | refine go ?_ | refine dr_Hom3_68m ?_ | refine drq ?_ | refine cal @hN ?_ | refine cal @hS ?_ | refine spl ?_ ?_ | fail))
      all_goals (apply WT_k; rfl; (first | exact GIn.none | (apply gin_t; rfl; rfl; (first | (with_reducible rfl) | exact congrArg Value.bool (by with_reducible assumption) | exact congrArg Value.bool (dec_t (by first | (with_reducible assumption) | (with_reducible rfl) | (with_reducible exact nn_eq) | (with_reducible exact nn_ne) | omega | decide | exact rfl)))) | (apply gin_f; rfl; rfl; (first | (with_reducible rfl) | exact congrArg Value.bool (by with_reducible assumption) | exact congrArg Value.bool (dec_f (by first | (with_reducible assumption) | (with_reducible rfl) | (with_reducible exact nn_eq) | (with_reducible exact nn_ne) | omega | decide | exact rfl))))); exact K_mapUpdateT (xv := (nextT en' m, _, _)) rfl rfl rfl inferInstance rfl; refine same_intro ?_)
      all_goals (repeat' (first | rintro _ _ ⟨rfl, rfl⟩ | refine exq fun _ => ?_ | intro _ | refine go ?_ | refine dr_Hom3_68m ?_ | refine drq ?_ | refine cal @hW ?_ | refine spl ?_ ?_ | fail))
      all_goals (apply WE_ret rfl rfl (by (repeat (first | exact ResOk.nil | (apply ResOk.tmp; rfl) | (apply resOk_cell; rfl; exact inferInstance; rfl; rfl)))))
      all_goals first
      | exact ⟨rfl, rfl⟩
      | (((repeat (first | (with_reducible exact Ent.refl) | exact Ent.nil | (apply ent_pickE; (focus ((repeat (first | (with_reducible exact pk_here) | (apply pk_there))); done))) | (apply hm_in) | (apply hrs_put) | apply Ent.drop)); all_goals (first | rfl | (with_reducible assumption) | (simp [hes_mset]; done) | (simp [hes_mset]; omega) | omega | (constructor <;> (simp [hes_mset]) <;> omega))))
end Go.Sx
