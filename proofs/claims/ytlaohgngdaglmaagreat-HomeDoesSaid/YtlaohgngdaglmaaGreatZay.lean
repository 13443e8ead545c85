/- HomR3, HomR4: several of my texts as one. My own work. -/
import Derived.Test.YtlaohgngdaglmaaGreatZax
/- What the document's homes do: Work. My own work. -/
namespace Go.Sx
open Go Go.Proofs
set_option linter.unusedVariables false
set_option linter.unusedSectionVars false
set_option linter.unusedSimpArgs false
theorem rfact_set {c : Cfg} {num : Int} {es : List (Int × TEnt)} {xs : List HRd} (h : RFact c num es xs) {i : Nat} (hi : i < xs.length) (y : HRd) : RFact c num (mset es (i : Int) y.1) (xs.set i y) := by
  refine ⟨by rw [List.length_set]; exact h.1, fun k hk ho => ?_⟩
  have hk' : k < xs.length := by simpa using hk
  rw [mget_mset]
  by_cases e : k = i
  · subst e; rw [if_pos rfl]; simp
  · rw [if_neg (by omega), List.getElem_set_ne (by omega)]
    exact h.2 k hk' ho
theorem splice_hcx {xs : List HRd} {i : Nat} (hi : i < xs.length) (y : HRd) : splice (flat hcx xs) (i * 5) (hcx y) = flat hcx (xs.set i y) :=
  splice_flatJ0 (enc := hcx) (n := 5) (fun _ => rfl) xs i hi (cs := hcx y) (x := y) (by simp) (by simp [splice])
theorem hr_quf {b : Nat} {c : Cfg} {num : Int} {s : HomS} {L : List HP} {w : World} (h : Sat (HomR b c num s :: L) w) : (s.q.length : Int) ≤ c.buffer ∧ c.buffer ≤ 16 ∧ ∀ x ∈ s.q, x.sends.length ≤ 1000 := by
  obtain ⟨p, k, be, bq, xs, he, hx⟩ := hr_sat h
  obtain ⟨p, c0, qs, ⟨h0, h1, h2, h3, _⟩, _⟩ := qu_sat (sat_tail (sat_tail (sat_tail (sat_tail hx))))
  rw [← h0]
  refine ⟨by simpa using h1, h2, fun x hx => ?_⟩
  obtain ⟨y, hy, rfl⟩ := List.mem_map.1 hx
  exact (h3 y hy).2
theorem WC_hrf {b : Nat} {c : Cfg} {num : Int} {s : HomS} {P : Program} {N : Nat} {co : Code} {env : Env} {L : List HP} {Q : Exit → Act → World → Prop}
    (h : (s.q.length : Int) ≤ c.buffer ∧ c.buffer ≤ 16 ∧ (∀ x ∈ s.q, x.sends.length ≤ 1000) → WC P N co env (HomR b c num s :: L) Q) : WC P N co env (HomR b c num s :: L) Q := fun a w ha hw => h (hr_quf hw) a w ha hw
set_option maxRecDepth 100000
set_option maxHeartbeats 4000000
attribute [local irreducible] Go.Exit.then Go.Exit.inBlock Go.Code.wp WC WO WE WQ V LoopQ FnQ Sat Star band bor IntKind.wrap WR Code.rounds WT KO
theorem dr_HomR3_33m {Q P : Prop} (k : Q) (h : Hid Q → P := by
  intro k
  first
  | (refine is_draw ?_; apply WC_mix (id := 6) (.only [11]) _ (pl := .p 0 <| .p 1 <| .p 2 <| .p 4 <| .r 3 <| .r 5 <| .e true [(6, .p 7 <| .p 8 <| .p 9 <| .e true [(10, .e true [(11, .n [] <| .p 12 <| .done)])]), (10, .e true [(6, .p 7 <| .p 8 <| .p 9 <| .e true [(11, .n [] <| .p 12 <| .done)])])]); exact mixed; kernel_rfl; kernel_rfl; exact Ent.refl; exact k.out)
  | (refine is_draw ?_; apply WC_mix (id := 7) (.only [10,15]) _ (pl := .p 0 <| .p 1 <| .p 2 <| .p 4 <| .r 3 <| .r 5 <| .p 6 <| .r 7 <| .r 8 <| .r 9 <| .e true [(10, .n [15] <| .p 11 <| .p 12 <| .p 13 <| .e true [(14, .e true [(15, .n [] <| .p 16 <| .done)])]), (14, .e true [(10, .n [15] <| .p 11 <| .p 12 <| .p 13 <| .e true [(15, .n [] <| .p 16 <| .done)])])]); exact mixed; kernel_rfl; kernel_rfl; exact Ent.refl; exact k.out)
  | (refine is_draw ?_; apply WC_mix (id := 18) (.only [7]) _ (pl := .p 0 <| .p 1 <| .p 2 <| .p 4 <| .p 5 <| .r 3 <| .r 6 <| .e true [(7, .n [] <| .done)]); exact mixed; kernel_rfl; kernel_rfl; exact Ent.refl; exact k.out)
  | (refine is_draw ?_; apply WC_mix (id := 21) (.only [8]) _ (pl := .p 0 <| .p 1 <| .p 2 <| .p 4 <| .p 6 <| .r 3 <| .r 5 <| .r 7 <| .e true [(8, .n [] <| .done)]); exact mixed; kernel_rfl; kernel_rfl; exact Ent.refl; exact k.out)
  | (refine is_draw ?_; apply WC_mix (id := 19) .true _ (pl := .p 0 <| .p 1 <| .p 2 <| .p 4 <| .p 6 <| .r 3 <| .r 5 <| .r 7 <| .p 8 <| .e true [(9, .done)]); exact mixed; kernel_rfl; kernel_rfl; exact Ent.refl; exact k.out)) : P := h ⟨k⟩
theorem hr_Work_no {F : List HP} {b : Nat} {c : Cfg} {num : Int} {s : HomS} {n : Int} {l : L3} (h : HmI c num s) (hr : qready s.q n = false) :
    FnF Tryz.prog 33 [.pointer (some ⟨b, 0, none⟩), .int .i64 n, .agg (l3c l).toArray] [HomR b c num s] F
      (fun r L' => r = .tuple [mv (hmWorkM s n l), .bool (hmWorkB s n l), .bool (hmDid s n l)].toArray ∧ L' = [HomR b c num (hmWorkS c s n l)]) := by
  refine FnF.mk' Tryz.func33 rfl rfl Tryz.ntmps33 rfl ?_
  have hH := fun F bq => ref15_Has (F := F) (b := bq) (room := c.buffer) (l := s.q) (n := n)
  have hR := fun F bq => ref15_Ready (F := F) (b := bq) (room := c.buffer) (l := s.q) (n := n)
  have hX := fun F bq => ref15_Next (F := F) (b := bq) (room := c.buffer) (l := s.q) (n := n)
  simp only [hr] at hR
  cases hin : qin s.q n with
  | false =>
    simp only [hin] at hH
    have hb : qnextB s.q n = false := by simp [qnextB, hin]
    have hg : hmGoes s n l = false := by simp [hmGoes, hb]
    have e1 : hmWorkM s n l = .zero := by simp [hmWorkM, hr, hg]
    have e2 : hmWorkB s n l = false := by simp [hmWorkB, hr, hg]
    have e3 : hmDid s n l = false := by simp [hmDid, hr, hg]
    have e4 : hmWorkS c s n l = s := by simp [hmWorkS, hr, hg]
    rw [e1, e2, e3, e4]
    obtain ⟨es, ms, q, odd⟩ := s
    refine hr_open fun p k be bq xs he => ?_
    dsimp only at *
    repeat (first | rintro _ _ ⟨rfl, rfl⟩ | refine exq fun _ => ?_ | intro _ | refine go ?_ | refine dr_HomR3_33m ?_ | refine drq ?_ | refine cal @hH ?_)
    (apply WE_ret rfl rfl (by (repeat (first | exact ResOk.nil | (apply ResOk.tmp; rfl) | (apply resOk_cell; rfl; exact inferInstance; rfl; rfl)))))
    · exact ⟨rfl, rfl⟩
    · ((repeat (first | (with_reducible exact Ent.refl) | exact Ent.nil | (apply ent_pickE; (focus ((repeat (first | (with_reducible exact pk_here) | (apply pk_there))); done))) | (apply hr_in) | apply Ent.drop)); all_goals (first | rfl | (with_reducible assumption) | (simp; done) | (simp; omega) | omega | (constructor <;> (simp) <;> omega)))
  | true =>
    simp only [hin] at hH
    obtain ⟨i, hi, en, ea⟩ := qin_t hin
    have hk := fun hb => next_kind (n := n) h hb
    have hSe := fun F bq => ref15_Sent (F := F) (b := bq) (room := c.buffer) (l := s.q) (n := n)
    have hN := fun F => ref05_Net (F := F) (k := (qnextM s.q n).kind)
    have hcase : (qnextB s.q n = false ∧ hmGoes s n l = false) ∨ (qnextB s.q n = true ∧ netK (qnextM s.q n).kind = 1 ∧ hmGoes s n l = decide (0 < l.2.1)) ∨ (qnextB s.q n = true ∧ netK (qnextM s.q n).kind = 2 ∧ hmGoes s n l = decide (0 < l.2.2)) := by
      cases hb : qnextB s.q n with
      | false => exact .inl ⟨rfl, by simp [hmGoes, hb]⟩
      | true =>
        rcases net_12 (hk hb).2.1 with hn | hn
        · exact .inr (.inl ⟨rfl, hn, by simp [hmGoes, hb, hn, l3at]⟩)
        · exact .inr (.inr ⟨rfl, hn, by simp [hmGoes, hb, hn, l3at]⟩)
    have e0 : hmGoes s n l = false → hmWorkM s n l = .zero ∧ hmWorkB s n l = false ∧ hmDid s n l = false ∧ hmWorkS c s n l = s := fun hg => by simp [hmWorkM, hmWorkB, hmDid, hmWorkS, hr, hg]
    have e1 : hmGoes s n l = true → hmWorkM s n l = qnextM s.q n ∧ hmWorkB s n l = true ∧ hmDid s n l = true ∧ hmWorkS c s n l = { s with q := qsentL s.q n } := fun hg => by simp [hmWorkM, hmWorkB, hmDid, hmWorkS, hr, hg]
    obtain ⟨es, ms, q, odd⟩ := s
    refine hr_open fun p k be bq xs he => ?_
    dsimp only at *
    subst en
    repeat (first | rintro _ _ ⟨rfl, rfl⟩ | refine exq fun _ => ?_ | intro _ | refine go ?_ | refine dr_HomR3_33m ?_ | refine drq ?_ | refine cal @hH ?_)
    (first | refine WO_front (QuR bq c.buffer q) ?_ | refine WC_front (QuR bq c.buffer q) ?_ | refine WE_front (QuR bq c.buffer q) ?_)
    refine qu_openO fun p2 c2 qs hf => ?_
    obtain ⟨hq, f1, f2, f3, hcp⟩ := hf
    have hi' : i < qs.length := by rw [← hq] at hi; simpa using hi
    repeat (first | rintro _ _ ⟨rfl, rfl⟩ | refine exq fun _ => ?_ | intro _ | refine go ?_ | refine dr_HomR3_33m ?_ | refine drq ?_)
    ((first | apply WO_ent (L' := (QuR bq c.buffer q) :: _) | apply WC_ent' (L' := (QuR bq c.buffer q) :: _) | apply WE_ent' (L' := (QuR bq c.buffer q) :: _) | apply WT_ent' (L' := (QuR bq c.buffer q) :: _)); (focus (apply qu_in; (focus (exact entu0)); all_goals (first | rfl | (with_reducible assumption) | (simp; done) | (simp; omega) | omega | (constructor <;> (simp) <;> omega)))))
    rcases hcase with ⟨hb, hg⟩ | ⟨hb, hn, hg⟩ | ⟨hb, hn, hg⟩
    · simp only [hb] at hX
      obtain ⟨d1, d2, d3, d4⟩ := e0 hg
      rw [d1, d2, d3, d4]
      repeat (first | rintro _ _ ⟨rfl, rfl⟩ | refine exq fun _ => ?_ | intro _ | refine go ?_ | refine dr_HomR3_33m ?_ | refine drq ?_ | refine cal @hR ?_ | refine cal @hX ?_)
      (apply WE_ret rfl rfl (by (repeat (first | exact ResOk.nil | (apply ResOk.tmp; rfl) | (apply resOk_cell; rfl; exact inferInstance; rfl; rfl)))))
      · exact ⟨rfl, rfl⟩
      · ((repeat (first | (with_reducible exact Ent.refl) | exact Ent.nil | (apply ent_pickE; (focus ((repeat (first | (with_reducible exact pk_here) | (apply pk_there))); done))) | (apply hr_in) | apply Ent.drop)); all_goals (first | rfl | (with_reducible assumption) | (simp; done) | (simp; omega) | omega | (constructor <;> (simp) <;> omega)))
    · simp only [hb] at hX
      simp only [hn] at hN
      by_cases hl : 0 < l.2.1
      · obtain ⟨d1, d2, d3, d4⟩ := e1 (by rw [hg]; exact decide_eq_true hl)
        rw [d1, d2, d3, d4]
        repeat (first | rintro _ _ ⟨rfl, rfl⟩ | refine exq fun _ => ?_ | intro _ | refine go ?_ | refine dr_HomR3_33m ?_ | refine drq ?_ | refine cal @hR ?_ | refine cal @hX ?_ | refine cal @hN ?_ | refine cal @hSe ?_)
        (apply WE_ret rfl rfl (by (repeat (first | exact ResOk.nil | (apply ResOk.tmp; rfl) | (apply resOk_cell; rfl; exact inferInstance; rfl; rfl)))))
        · exact ⟨rfl, rfl⟩
        · ((repeat (first | (with_reducible exact Ent.refl) | exact Ent.nil | (apply ent_pickE; (focus ((repeat (first | (with_reducible exact pk_here) | (apply pk_there))); done))) | (apply hr_in) | apply Ent.drop)); all_goals (first | rfl | (with_reducible assumption) | (simp; done) | (simp; omega) | omega | (constructor <;> (simp) <;> omega)))
      · obtain ⟨d1, d2, d3, d4⟩ := e0 (by rw [hg]; exact decide_eq_false hl)
        rw [d1, d2, d3, d4]
        repeat (first | rintro _ _ ⟨rfl, rfl⟩ | refine exq fun _ => ?_ | intro _ | refine go ?_ | refine dr_HomR3_33m ?_ | refine drq ?_ | refine cal @hR ?_ | refine cal @hX ?_ | refine cal @hN ?_)
        (apply WE_ret rfl rfl (by (repeat (first | exact ResOk.nil | (apply ResOk.tmp; rfl) | (apply resOk_cell; rfl; exact inferInstance; rfl; rfl)))))
        · exact ⟨rfl, rfl⟩
        · ((repeat (first | (with_reducible exact Ent.refl) | exact Ent.nil | (apply ent_pickE; (focus ((repeat (first | (with_reducible exact pk_here) | (apply pk_there))); done))) | (apply hr_in) | apply Ent.drop)); all_goals (first | rfl | (with_reducible assumption) | (simp; done) | (simp; omega) | omega | (constructor <;> (simp) <;> omega)))
    · simp only [hb] at hX
      simp only [hn] at hN
      by_cases hl : 0 < l.2.2
      · obtain ⟨d1, d2, d3, d4⟩ := e1 (by rw [hg]; exact decide_eq_true hl)
        rw [d1, d2, d3, d4]
        repeat (first | rintro _ _ ⟨rfl, rfl⟩ | refine exq fun _ => ?_ | intro _ | refine go ?_ | refine dr_HomR3_33m ?_ | refine drq ?_ | refine cal @hR ?_ | refine cal @hX ?_ | refine cal @hN ?_ | refine cal @hSe ?_)
        (apply WE_ret rfl rfl (by (repeat (first | exact ResOk.nil | (apply ResOk.tmp; rfl) | (apply resOk_cell; rfl; exact inferInstance; rfl; rfl)))))
        · exact ⟨rfl, rfl⟩
        · ((repeat (first | (with_reducible exact Ent.refl) | exact Ent.nil | (apply ent_pickE; (focus ((repeat (first | (with_reducible exact pk_here) | (apply pk_there))); done))) | (apply hr_in) | apply Ent.drop)); all_goals (first | rfl | (with_reducible assumption) | (simp; done) | (simp; omega) | omega | (constructor <;> (simp) <;> omega)))
      · obtain ⟨d1, d2, d3, d4⟩ := e0 (by rw [hg]; exact decide_eq_false hl)
        rw [d1, d2, d3, d4]
        repeat (first | rintro _ _ ⟨rfl, rfl⟩ | refine exq fun _ => ?_ | intro _ | refine go ?_ | refine dr_HomR3_33m ?_ | refine drq ?_ | refine cal @hR ?_ | refine cal @hX ?_ | refine cal @hN ?_)
        (apply WE_ret rfl rfl (by (repeat (first | exact ResOk.nil | (apply ResOk.tmp; rfl) | (apply resOk_cell; rfl; exact inferInstance; rfl; rfl)))))
        · exact ⟨rfl, rfl⟩
        · ((repeat (first | (with_reducible exact Ent.refl) | exact Ent.nil | (apply ent_pickE; (focus ((repeat (first | (with_reducible exact pk_here) | (apply pk_there))); done))) | (apply hr_in) | apply Ent.drop)); all_goals (first | rfl | (with_reducible assumption) | (simp; done) | (simp; omega) | omega | (constructor <;> (simp) <;> omega)))
end Go.Sx

/- What the document's homes do: Work, of a request that is ready. My own work. -/
namespace Go.Sx
open Go Go.Proofs
set_option linter.unusedVariables false
set_option linter.unusedSectionVars false
set_option linter.unusedSimpArgs false
theorem qera_in {T e : TypeId} {b : Nat} {room : Int} {q : List QE} {i n : Nat} {p : Option Addr} {c : Nat} {ps : List QP} {L M : List HP}
    (h : Ent L (Cells b T [.int .i64 room, .slice p n c] :: Own e 17 (.slice p n c) n (flat qc (ps.eraseIdx i)) :: All (ps.map qrd) :: M)) (hq : ps.map (·.1) = q) (hn : n = (ps.eraseIdx i).length) (h1 : (ps.length : Int) ≤ room) (h2 : room ≤ 16) (h3 : ∀ p ∈ ps, p.1.sends.length ≤ p.2.2 ∧ p.1.sends.length ≤ 1000) : Ent L (QuB T e b room (q.eraseIdx i) :: M) := by
  subst hq hn
  refine qu_in (ps := ps.eraseIdx i) (Ent.trans h (Ent.cons (Ent.cons (all_erase i)))) (by rw [map_erase]) rfl rfl ?_ h2 (fun p hp => h3 p (List.mem_of_mem_eraseIdx hp))
  have := List.length_eraseIdx_le ps i
  omega
set_option maxRecDepth 100000
set_option maxHeartbeats 4000000
attribute [local irreducible] Go.Exit.then Go.Exit.inBlock Go.Code.wp WC WO WE WQ V LoopQ FnQ Sat Star band bor IntKind.wrap WR Code.rounds WT KO
theorem dr_HomR4_33m {Q P : Prop} (k : Q) (h : Hid Q → P := by
  intro k
  first
  | (refine is_draw ?_; apply WC_mix (id := 6) (.only [11]) _ (pl := .p 0 <| .p 1 <| .p 2 <| .p 4 <| .r 3 <| .r 5 <| .e true [(6, .p 7 <| .p 8 <| .p 9 <| .e true [(10, .e true [(11, .n [] <| .p 12 <| .done)])]), (10, .e true [(6, .p 7 <| .p 8 <| .p 9 <| .e true [(11, .n [] <| .p 12 <| .done)])])]); exact mixed; kernel_rfl; kernel_rfl; exact Ent.refl; exact k.out)
  | (refine is_draw ?_; apply WC_mix (id := 7) (.only [10,15]) _ (pl := .p 0 <| .p 1 <| .p 2 <| .p 4 <| .r 3 <| .r 5 <| .p 6 <| .r 7 <| .r 8 <| .r 9 <| .e true [(10, .n [15] <| .p 11 <| .p 12 <| .p 13 <| .e true [(14, .e true [(15, .n [] <| .p 16 <| .done)])]), (14, .e true [(10, .n [15] <| .p 11 <| .p 12 <| .p 13 <| .e true [(15, .n [] <| .p 16 <| .done)])])]); exact mixed; kernel_rfl; kernel_rfl; exact Ent.refl; exact k.out)
  | (refine is_draw ?_; apply WC_mix (id := 18) (.only [7]) _ (pl := .p 0 <| .p 1 <| .p 2 <| .p 4 <| .p 5 <| .r 3 <| .r 6 <| .e true [(7, .n [] <| .done)]); exact mixed; kernel_rfl; kernel_rfl; exact Ent.refl; exact k.out)
  | (refine is_draw ?_; apply WC_mix (id := 21) (.only [8]) _ (pl := .p 0 <| .p 1 <| .p 2 <| .p 4 <| .p 6 <| .r 3 <| .r 5 <| .r 7 <| .e true [(8, .n [] <| .done)]); exact mixed; kernel_rfl; kernel_rfl; exact Ent.refl; exact k.out)
  | (refine is_draw ?_; apply WC_mix (id := 19) .true _ (pl := .p 0 <| .p 1 <| .p 2 <| .p 4 <| .p 6 <| .r 3 <| .r 5 <| .r 7 <| .p 8 <| .e true [(9, .done)]); exact mixed; kernel_rfl; kernel_rfl; exact Ent.refl; exact k.out)) : P := h ⟨k⟩
theorem hr_Work_odd {F : List HP} {b : Nat} {c : Cfg} {num : Int} {s : HomS} {n : Int} {l : L3} (h : HmI c num s) (hr : qready s.q n = true) (ho : 0 ≤ s.odd ∧ s.odd ≤ 1000000000000) (hE : nextE (hmEnt s (hmX s n).line) (hmX s n) = 7 ∧ (hmX s n).kind = 1 ∧ (hmEnt s (hmX s n).line).o = (hmX s n).src) :
    FnF Tryz.prog 33 [.pointer (some ⟨b, 0, none⟩), .int .i64 n, .agg (l3c l).toArray] [HomR b c num s] F
      (fun r L' => r = .tuple [mv .zero, .bool false, .bool true].toArray ∧ L' = [HomR b c num (hmOddS s n)]) := by
  have hc := cfg_wf' h.ok
  have hin := qready_in hr
  obtain ⟨i, hi, rfl, ea⟩ := qin_t hin
  have hmine : mineB c num (hmX s i) 0 = true := by unfold hmX; rw [ea]; exact h.req _ (List.getElem_mem hi)
  obtain ⟨f1, f2, f3, f4, f5⟩ := mine_facts h.ok hmine
  obtain ⟨g1, g2, g3, _⟩ := hmEnt_own h f3
  have hs : shMay (hmEnt s (hmX s i).line).s = true := by simp only [mayT, Bool.and_eq_true] at g2; exact g2.1.1
  have hok : okT (hmEnt s (hmX s i).line) (hmX s i) = true := by
    simp only [okT, g2, Bool.true_and, Bool.and_eq_true, decide_eq_true_eq]
    omega
  have hlb := (cfg_bnd h.ok).2.2.2
  obtain ⟨j, hj⟩ : ∃ j : Nat, (hmX s i).line = j := ⟨(hmX s i).line.toNat, by have := f3.1; omega⟩
  have hl : I64 (hmX s i).line := by have := f3.2.1; have := f3.1; unfold I64; omega
  have hH := fun F bq => ref15_Has (F := F) (b := bq) (room := c.buffer) (l := s.q) (n := i)
  have hR := fun F bq => ref15_Ready (F := F) (b := bq) (room := c.buffer) (l := s.q) (n := i)
  simp only [hr] at hR
  simp only [hin] at hH
  have hXe : hmX s i = s.q[i].m := by unfold hmX; rw [ea]
  have hL := fun F be => ref12_Line (F := F) (b := be) (c := c) (ms := s.ms) hc hl
  generalize hM : hmX s i = m at *
  obtain ⟨kd, ln, sr, ds, wh, ac, ow, w⟩ := m
  dsimp only at hj
  subst hj
  obtain ⟨es, ms, q, odd⟩ := s
  unfold hmOddS
  rw [Int.toNat_natCast]
  dsimp only at *
  refine FnF.mk' Tryz.func33 rfl rfl Tryz.ntmps33 rfl ?_
  refine hr_open fun p k be bq xs he => ?_
  have hjx : j < xs.length := by have := he.1; have := f3.2.1; omega
  have hxe : xs[j].1 = hmEnt ⟨es, ms, q, odd⟩ j := by
    have := he.2 j hjx f3
    rw [this] at g1
    exact Option.some.inj g1
  haveI kr := fun L => rd_hrx (L := L) (xs := xs) hjx
  have hN := fun F (hk : RdL F 1 (.slice xs[j].2.1 xs[j].1.s.ps.length xs[j].2.2) xs[j].1.s.ps.length (flat ic xs[j].1.s.ps)) => ref13_Next_own (F := F) (e := xs[j].1) (m := ⟨kd, j, sr, ds, wh, ac, ow, w⟩) (w := lineWo c ms j) hk (by rw [hxe]; exact hok) hE.2.1 (by rw [hxe]; exact hE.2.2)
  dsimp only at *
  repeat (first | rintro _ _ ⟨rfl, rfl⟩ | refine exq fun _ => ?_ | intro _ | refine go ?_ | refine dr_HomR4_33m ?_ | refine drq ?_ | refine cal @hH ?_)
  (first | (refine WO_some (.slice p xs.length k) inferInstance (by omega) ?_; intro _) | (refine WC_some (.slice p xs.length k) inferInstance (by omega) ?_; intro _))
  (first | refine WO_front (QuR bq c.buffer q) ?_ | refine WC_front (QuR bq c.buffer q) ?_ | refine WE_front (QuR bq c.buffer q) ?_)
  refine qu_openO fun p2 c2 qs hf => ?_
  obtain ⟨hq, q1, q2, q3, hcp⟩ := hf
  have hi' : i < qs.length := by rw [← hq] at hi; simpa using hi
  have hm : qs[i].1.m = ⟨kd, j, sr, ds, wh, ac, ow, w⟩ := by
    rw [hXe]; subst hq; simp
  have hcut : List.take 15 (List.drop 0 (qc qs[i])) = mc ⟨kd, j, sr, ds, wh, ac, ow, w⟩ := by
    show mc qs[i].1.m = _
    rw [hm]
  repeat (first | rintro _ _ ⟨rfl, rfl⟩ | refine exq fun _ => ?_ | intro _ | refine go ?_ | refine dr_HomR4_33m ?_ | refine drq ?_)
  simp only [hcut]
  ((first | apply WO_ent (L' := (QuR bq c.buffer q) :: _) | apply WC_ent' (L' := (QuR bq c.buffer q) :: _) | apply WE_ent' (L' := (QuR bq c.buffer q) :: _) | apply WT_ent' (L' := (QuR bq c.buffer q) :: _)); (focus (apply qu_in; (focus (exact entu0)); all_goals (first | rfl | (with_reducible assumption) | (simp; done) | (simp; omega) | omega | (constructor <;> (simp) <;> omega)))))
  repeat' (first | rintro _ _ ⟨rfl, rfl⟩ | refine exq fun _ => ?_ | intro _ | refine go ?_ | refine dr_HomR4_33m ?_ | refine drq ?_ | refine cal @hR ?_ | refine cal @hL ?_ | refine cal @hN ?_ | refine spl ?_ ?_ | fail)
  all_goals rename_i b5 b6 b9 hso b10 b11 b13 b78
  all_goals (first | refine WO_front (QuR bq c.buffer q) ?_ | refine WC_front (QuR bq c.buffer q) ?_ | refine WE_front (QuR bq c.buffer q) ?_)
  all_goals refine qu_open fun p3 c3 ps hf2 => ?_
  all_goals obtain ⟨hq2, w1, w2, w3, hcp2⟩ := hf2
  all_goals have hip : i < ps.length := by rw [← hq2] at hi; simpa using hi
  all_goals
    apply WC_loopE (E0 := [(0, _), (1, _), (6, _), (9, _)]) (fun E0 (r : Nat × Option Addr × Nat) => (16, .int .i64 r.1) :: (15, .slice r.2.1 ((ps.take r.1).eraseIdx i).length r.2.2) :: E0) (fun r => Own 216 17 (.slice r.2.1 ((ps.take r.1).eraseIdx i).length r.2.2) ((ps.take r.1).eraseIdx i).length (flat qc ((ps.take r.1).eraseIdx i)) :: Cells bq 120 [.int .i64 c.buffer, .slice p3 ps.length c3] :: Own 216 17 (.slice p3 ps.length c3) ps.length (flat qc ps) :: All (ps.map qrd) :: Cells b 113 (rmc c num p xs.length k be bq (odd + 1)) :: Own 136 5 (.slice p xs.length k) xs.length (flat hcx xs) :: All (xs.map hrd) :: MemRB be c ms :: Cells b6 38 (mc .zero) :: Cells b9 38 (mc .zero) :: F) (fun r => r.1 ≤ ps.length) (fun r => ps.length - r.1) (0, _, _)
    · (repeat (first | exact Sub.nil | (refine Sub.cons (by first | rfl | (simp only [Nat.zero_add]; rfl)) ?_)))
    · exact Nat.zero_le _
    · dsimp only; simp only [List.take_zero, List.eraseIdx_nil, List.length_nil, flat_nil]; exact entu0
    · rintro ⟨r, p', c'⟩ hr'
      dsimp only at hr' ⊢
      have hlen := erase_len (ps.take r) i
      rw [List.length_take] at hlen
      by_cases hlt : r < ps.length
      · by_cases he' : r = i
        · repeat (first | rintro _ _ ⟨rfl, rfl⟩ | refine exq fun _ => ?_ | intro _ | refine go ?_ | refine dr_HomR4_33m ?_ | refine drq ?_)
          refine WE_loop (r + 1, p', c') (by dsimp only; omega) (by dsimp only; omega) ?_ ?_
          · dsimp only; rw [take_erase ps i r hlt, if_pos he']; (repeat (first | exact Sub.nil | (refine Sub.cons (by first | rfl | (simp only [Nat.zero_add]; rfl)) ?_)))
          · dsimp only; rw [take_erase ps i r hlt, if_pos he']; exact Ent.refl
        · repeat (first | rintro _ _ ⟨rfl, rfl⟩ | refine exq fun _ => ?_ | intro _ | refine go ?_ | refine dr_HomR4_33m ?_ | refine drq ?_)
          rename_i p2 c2
          refine WE_loop (r + 1, p2, c2) (by dsimp only; omega) (by dsimp only; omega) ?_ ?_
          · dsimp only; rw [take_erase ps i r hlt, if_neg he']
            rw [List.length_append, List.length_singleton]
            (repeat (first | exact Sub.nil | (refine Sub.cons (by first | rfl | (simp only [Nat.zero_add]; rfl)) ?_)))
          · dsimp only; rw [take_erase ps i r hlt, if_neg he']
            rw [List.length_append, List.length_singleton, flat_append, flat_one]
            exact entu0
      · have hil : r = ps.length := by omega
        subst hil
        rw [List.take_length]
        repeat (first | rintro _ _ ⟨rfl, rfl⟩ | refine exq fun _ => ?_ | intro _ | refine go ?_ | refine dr_HomR4_33m ?_ | refine drq ?_)
        (apply WE_ret rfl rfl (by (repeat (first | exact ResOk.nil | (apply ResOk.tmp; rfl) | (apply resOk_cell; rfl; exact inferInstance; rfl; rfl)))))
        · exact ⟨rfl, rfl⟩
        · ((repeat (first | (with_reducible exact Ent.refl) | exact Ent.nil | (apply ent_pickE; (focus ((repeat (first | (with_reducible exact pk_here) | (apply pk_there))); done))) | (apply hr_in) | (apply qera_in) | apply Ent.drop)); all_goals (first | rfl | (with_reducible assumption) | (simp; done) | (simp; omega) | omega | (constructor <;> (simp) <;> omega)))
end Go.Sx
