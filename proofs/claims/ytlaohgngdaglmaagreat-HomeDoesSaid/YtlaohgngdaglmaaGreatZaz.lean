/- HomR5, HomLaw, HomRead: several of my texts as one. My own work. -/
import Derived.Test.YtlaohgngdaglmaaGreatZay
import Derived.Test.YtlaohgngdaglmaaGreatZap
import Derived.Test.YtlaohgngdaglmaaGreatZas
import Derived.Test.YtlaohgngdaglmaaGreatZaa
/- What the document's homes do: Work, of a request that goes through. My own work. -/
namespace Go.Sx
open Go Go.Proofs
set_option linter.unusedVariables false
set_option linter.unusedSectionVars false
set_option linter.unusedSimpArgs false
theorem splice_hcx3 {xs : List HRd} {i : Nat} (hi : i < xs.length) {e : TEnt} {a : Option Addr} {k : Nat} : splice (flat hcx xs) (i * 5) (tec e a k) = flat hcx (xs.set i (e, a, k)) := splice_hcx hi (e, a, k)
set_option maxRecDepth 100000
set_option maxHeartbeats 4000000
attribute [local irreducible] Go.Exit.then Go.Exit.inBlock Go.Code.wp WC WO WE WQ V LoopQ FnQ Sat Star band bor IntKind.wrap WR Code.rounds WT KO
theorem dr_HomR5_33m {Q P : Prop} (k : Q) (h : Hid Q → P := by
  intro k
  first
  | (refine is_draw ?_; apply WC_mix (id := 6) (.only [11]) _ (pl := .p 0 <| .p 1 <| .p 2 <| .p 4 <| .r 3 <| .r 5 <| .e true [(6, .p 7 <| .p 8 <| .p 9 <| .e true [(10, .e true [(11, .n [] <| .p 12 <| .done)])]), (10, .e true [(6, .p 7 <| .p 8 <| .p 9 <| .e true [(11, .n [] <| .p 12 <| .done)])])]); exact mixed; kernel_rfl; kernel_rfl; exact Ent.refl; exact k.out)
  | (refine is_draw ?_; apply WC_mix (id := 7) (.only [10,15]) _ (pl := .p 0 <| .p 1 <| .p 2 <| .p 4 <| .r 3 <| .r 5 <| .p 6 <| .r 7 <| .r 8 <| .r 9 <| .e true [(10, .n [15] <| .p 11 <| .p 12 <| .p 13 <| .e true [(14, .e true [(15, .n [] <| .p 16 <| .done)])]), (14, .e true [(10, .n [15] <| .p 11 <| .p 12 <| .p 13 <| .e true [(15, .n [] <| .p 16 <| .done)])])]); exact mixed; kernel_rfl; kernel_rfl; exact Ent.refl; exact k.out)
  | (refine is_draw ?_; apply WC_mix (id := 18) (.only [7]) _ (pl := .p 0 <| .p 1 <| .p 2 <| .p 4 <| .p 5 <| .r 3 <| .r 6 <| .e true [(7, .n [] <| .done)]); exact mixed; kernel_rfl; kernel_rfl; exact Ent.refl; exact k.out)
  | (refine is_draw ?_; apply WC_mix (id := 21) (.only [8]) _ (pl := .p 0 <| .p 1 <| .p 2 <| .p 4 <| .p 6 <| .r 3 <| .r 5 <| .r 7 <| .e true [(8, .n [] <| .done)]); exact mixed; kernel_rfl; kernel_rfl; exact Ent.refl; exact k.out)
  | (refine is_draw ?_; apply WC_mix (id := 19) .true _ (pl := .p 0 <| .p 1 <| .p 2 <| .p 4 <| .p 6 <| .r 3 <| .r 5 <| .r 7 <| .p 8 <| .e true [(9, .done)]); exact mixed; kernel_rfl; kernel_rfl; exact Ent.refl; exact k.out)) : P := h ⟨k⟩
theorem hr_Work_turn {F : List HP} {b : Nat} {c : Cfg} {num : Int} {s : HomS} {n : Int} {l : L3} (h : HmI c num s) (hr : qready s.q n = true) (ho : 0 ≤ s.odd ∧ s.odd ≤ 1000000000000) (hE : nextE (hmEnt s (hmX s n).line) (hmX s n) = 0) :
    FnF Tryz.prog 33 [.pointer (some ⟨b, 0, none⟩), .int .i64 n, .agg (l3c l).toArray] [HomR b c num s] F
      (fun r L' => r = .tuple [mv .zero, .bool false, .bool true].toArray ∧ L' = [HomR b c num (hmTurnS c s n)]) := by
  have hc := cfg_wf' h.ok
  have hin := qready_in hr
  obtain ⟨i, hi, rfl, ea⟩ := qin_t hin
  have hmine : mineB c num (hmX s i) 0 = true := by unfold hmX; rw [ea]; exact h.req _ (List.getElem_mem hi)
  obtain ⟨f1, f2, f3, f4, f5⟩ := mine_facts h.ok hmine
  obtain ⟨g1, g2, g3, _⟩ := hmEnt_own h f3
  have hs : shMay (hmEnt s (hmX s i).line).s = true := by simp only [mayT, Bool.and_eq_true] at g2; exact g2.1.1
  have hok : okT (hmEnt s (hmX s i).line) (hmX s i) = true := by
    simp only [okT, g2, Bool.true_and, Bool.and_eq_true, decide_eq_true_eq]
    omega
  have hlb := (cfg_bnd h.ok).2.2.2
  obtain ⟨j, hj⟩ : ∃ j : Nat, (hmX s i).line = j := ⟨(hmX s i).line.toNat, by have := f3.1; omega⟩
  have hl : I64 (hmX s i).line := by have := f3.2.1; have := f3.1; unfold I64; omega
  have hH := fun F bq => ref15_Has (F := F) (b := bq) (room := c.buffer) (l := s.q) (n := i)
  have hR := fun F bq => ref15_Ready (F := F) (b := bq) (room := c.buffer) (l := s.q) (n := i)
  simp only [hr] at hR
  simp only [hin] at hH
  have hXe : hmX s i = s.q[i].m := by unfold hmX; rw [ea]
  have hL := fun F be => ref12_Line (F := F) (b := be) (c := c) (ms := s.ms) hc hl
  generalize hM : hmX s i = m at *
  obtain ⟨kd, ln, sr, ds, wh, ac, ow, w⟩ := m
  dsimp only at hj
  subst hj
  obtain ⟨es, ms, q, odd⟩ := s
  unfold hmTurnS
  simp only [hM]
  dsimp only at *
  refine FnF.mk' Tryz.func33 rfl rfl Tryz.ntmps33 rfl ?_
  refine hr_open fun p k be bq xs he => ?_
  have hjx : j < xs.length := by have := he.1; have := f3.2.1; omega
  have hxe : xs[j].1 = hmEnt ⟨es, ms, q, odd⟩ j := by
    have := he.2 j hjx f3
    rw [this] at g1
    exact Option.some.inj g1
  haveI kr := fun L => rd_hrx (L := L) (xs := xs) hjx
  have h0 : nextE xs[j].1 ⟨kd, j, sr, ds, wh, ac, ow, w⟩ = 0 := by rw [hxe]; exact hE
  have hN := fun F => hr_Next (F := F) (xs := xs) hjx (m := ⟨kd, j, sr, ds, wh, ac, ow, w⟩) (w := lineWo c ms j) h0
  have hsl := (sent_facts (w := lineWo c ms j) h0).2.1
  have hWr := fun F be => ref12_Write (F := F) (b := be) (c := c) (ms := ms) (line := j) (w := w) hc hl
  have hS := fun F u (k : RdL F 15 u (nextS xs[j].1 ⟨kd, j, sr, ds, wh, ac, ow, w⟩ (lineWo c ms j)).length (flat mc (nextS xs[j].1 ⟨kd, j, sr, ds, wh, ac, ow, w⟩ (lineWo c ms j)))) => ref15_Start (F := F) (b := bq) (room := c.buffer) (l := q) (n := (i : Int)) (u := u) k hsl
  have hf := fun y => rfact_set he hjx y
  dsimp only at hf
  rw [← hxe]
  dsimp only at *
  repeat (first | rintro _ _ ⟨rfl, rfl⟩ | refine exq fun _ => ?_ | intro _ | refine go ?_ | refine dr_HomR5_33m ?_ | refine drq ?_ | refine cal @hH ?_)
  (first | (refine WO_some (.slice p xs.length k) inferInstance (by omega) ?_; intro _) | (refine WC_some (.slice p xs.length k) inferInstance (by omega) ?_; intro _))
  (first | refine WO_front (QuR bq c.buffer q) ?_ | refine WC_front (QuR bq c.buffer q) ?_ | refine WE_front (QuR bq c.buffer q) ?_)
  refine qu_openO fun p2 c2 qs hf => ?_
  obtain ⟨hq, q1, q2, q3, hcp⟩ := hf
  have hi' : i < qs.length := by rw [← hq] at hi; simpa using hi
  have hm : qs[i].1.m = ⟨kd, j, sr, ds, wh, ac, ow, w⟩ := by
    rw [hXe]; subst hq; simp
  have hcut : List.take 15 (List.drop 0 (qc qs[i])) = mc ⟨kd, j, sr, ds, wh, ac, ow, w⟩ := by
    show mc qs[i].1.m = _
    rw [hm]
  repeat (first | rintro _ _ ⟨rfl, rfl⟩ | refine exq fun _ => ?_ | intro _ | refine go ?_ | refine dr_HomR5_33m ?_ | refine drq ?_)
  simp only [hcut]
  ((first | apply WO_ent (L' := (QuR bq c.buffer q) :: _) | apply WC_ent' (L' := (QuR bq c.buffer q) :: _) | apply WE_ent' (L' := (QuR bq c.buffer q) :: _) | apply WT_ent' (L' := (QuR bq c.buffer q) :: _)); (focus (apply qu_in; (focus (exact entu0)); all_goals (first | rfl | (with_reducible assumption) | (simp; done) | (simp; omega) | omega | (constructor <;> (simp) <;> omega)))))
  cases hw : nextW xs[j].1 ⟨kd, j, sr, ds, wh, ac, ow, w⟩ with
  | true =>
    simp only [hw] at hN
    rw [if_pos rfl]
    repeat' (first | rintro _ _ ⟨rfl, rfl⟩ | refine exq fun _ => ?_ | intro _ | refine go ?_ | refine dr_HomR5_33m ?_ | refine drq ?_ | refine cal @hR ?_ | refine cal @hL ?_ | refine cal @hN ?_ | refine cal @hS ?_ | refine cal @hWr ?_ | refine spl ?_ ?_ | fail)
    all_goals (apply WE_ret rfl rfl (by (repeat (first | exact ResOk.nil | (apply ResOk.tmp; rfl) | (apply resOk_cell; rfl; exact inferInstance; rfl; rfl)))))
    all_goals first
    | exact ⟨rfl, rfl⟩
    | (apply hr_in
       · exact entu0
       · simp
       · exact splice_hcx3 hjx
       · exact rfact_set he hjx _)
  | false =>
    simp only [hw] at hN
    rw [if_neg (by simp)]
    repeat' (first | rintro _ _ ⟨rfl, rfl⟩ | refine exq fun _ => ?_ | intro _ | refine go ?_ | refine dr_HomR5_33m ?_ | refine drq ?_ | refine cal @hR ?_ | refine cal @hL ?_ | refine cal @hN ?_ | refine cal @hS ?_ | refine cal @hWr ?_ | refine spl ?_ ?_ | fail)
    all_goals (apply WE_ret rfl rfl (by (repeat (first | exact ResOk.nil | (apply ResOk.tmp; rfl) | (apply resOk_cell; rfl; exact inferInstance; rfl; rfl)))))
    all_goals first
    | exact ⟨rfl, rfl⟩
    | (apply hr_in
       · exact entu0
       · simp
       · exact splice_hcx3 hjx
       · exact rfact_set he hjx _)
end Go.Sx

/- The laws of homes: entries of the document's. My own work. -/
namespace Go.Sx
open Go Go.Proofs
set_option linter.unusedVariables false
set_option linter.unusedSectionVars false
set_option linter.unusedSimpArgs false
set_option maxRecDepth 100000
set_option maxHeartbeats 4000000
attribute [local irreducible] Go.Exit.then Go.Exit.inBlock Go.Code.wp WC WO WE WQ V LoopQ FnQ Sat Star band bor IntKind.wrap WR Code.rounds WT KO
theorem law16_entries {F : List HP} {v : Value} {l : List QE} (hn : l.length ≤ 1000) : FnF Tryz.prog 37 [v] [QuL 225 v l] F (fun r L' => ∃ p c, r = .slice p l.length c ∧ L' = [QuL 216 (.slice p l.length c) l]) := by
  refine FnF.mk' Tryz.func37 rfl rfl Tryz.ntmps37 rfl ?_
  refine ql_open fun qs hf => ?_
  subst hf
  rw [List.length_map] at hn
  repeat (first | rintro _ _ ⟨rfl, rfl⟩ | refine exq fun _ => ?_ | intro _ | refine go ?_ | refine drq ?_)
  apply WC_loopE (E0 := [(6, _), (7, _)]) (fun E0 (q : Nat × Option Addr × Nat) => (8, .int .i64 q.1) :: (3, .slice q.2.1 q.1 q.2.2) :: E0)
    (fun q => Own 216 17 (.slice q.2.1 q.1 q.2.2) q.1 (flat qc (qs.take q.1)) :: Own 225 17 v qs.length (flat qc qs) :: All (qs.map qrd) :: F) (fun q => q.1 ≤ qs.length) (fun q => qs.length - q.1) (0, none, 0)
  · (repeat (first | exact Sub.nil | (refine Sub.cons (by first | rfl | (simp only [Nat.zero_add]; rfl)) ?_)))
  · exact Nat.zero_le _
  · refine Ent.trans ?_ (own_empty Ent.refl)
    exact entu0
  · rintro ⟨i, p', c'⟩ hi
    dsimp only at hi ⊢
    by_cases hlt : i < qs.length
    · repeat (first | rintro _ _ ⟨rfl, rfl⟩ | refine exq fun _ => ?_ | intro _ | refine go ?_ | refine drq ?_)
      rename_i b1 b2 p2 c2
      refine WE_loop (i + 1, p2, c2) (by dsimp only; omega) (by dsimp only; omega) ?_ ?_
      · (repeat (first | exact Sub.nil | (refine Sub.cons (by first | rfl | (simp only [Nat.zero_add]; rfl)) ?_)))
      · dsimp only
        rw [List.take_add_one, List.getElem?_eq_getElem hlt, Option.toList_some, flat_append, flat_one]
        exact entu0
    · have hil : i = qs.length := by omega
      subst hil
      rw [List.take_length]
      repeat (first | rintro _ _ ⟨rfl, rfl⟩ | refine exq fun _ => ?_ | intro _ | refine go ?_ | refine drq ?_)
      (apply WE_ret rfl rfl (by (repeat (first | exact ResOk.nil | (apply ResOk.tmp; rfl) | (apply resOk_cell; rfl; exact inferInstance; rfl; rfl)))))
      · exact ⟨p', c', by rw [List.length_map]; rfl, rfl⟩
      · rw [List.length_map]
        ((repeat (first | (with_reducible exact Ent.refl) | exact Ent.nil | (apply ent_pickE; (focus ((repeat (first | (with_reducible exact pk_here) | (apply pk_there))); done))) | (apply ql_in) | apply Ent.drop)); all_goals (first | rfl | (with_reducible assumption) | (simp; done) | (simp; omega) | omega | (constructor <;> (simp) <;> omega)))
end Go.Sx

/- Steps of the laws of homes, read. My own work. -/
namespace Go.Sx
open Go Go.Proofs Go.ChangeShapes Go.WideShapes
set_option linter.unusedVariables false
section
variable {H : Type} (enc : TypeId × Value → H) (P : Program) (W : World)
theorem rd_HStep {cs : List Value} (h : LeafsOk enc P W (List.replicate 20 (.int .i64)) cs) : ∃ x : HStep, x.wf ∧ cs = hsc x ∧ (hsc x).all one = true := by
  obtain ⟨l, h1, h2, rfl⟩ := leafs_ints enc P W _ _ h
  match l, h1 with
  | [d, n, l0, l1, l2, b0, b1, b2, b3, b4, b5, b6, a0, a1, a2, a3, a4, a5, a6, a7], _ =>
    exact ⟨⟨d, n, l0, l1, l2, ⟨b0, b1, b2, b3, b4, b5, b6, ⟨a0, a1, a2, a3, a4, a5, a6, a7⟩⟩⟩, ⟨h2 _ (by simp), h2 _ (by simp), ⟨h2 _ (by simp), h2 _ (by simp), h2 _ (by simp)⟩, ⟨h2 _ (by simp), h2 _ (by simp), h2 _ (by simp), h2 _ (by simp), h2 _ (by simp), h2 _ (by simp), h2 _ (by simp), fun y hy => h2 y (by
      simp only [Words.list, List.mem_cons, List.not_mem_nil, or_false] at hy
      rcases hy with g | g | g | g | g | g | g | g <;> (subst g; simp))⟩⟩, rfl, rfl⟩
end
end Go.Sx
