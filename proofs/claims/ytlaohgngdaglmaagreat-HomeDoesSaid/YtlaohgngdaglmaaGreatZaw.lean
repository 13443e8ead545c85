/- HomR, TabR1: several of my texts as one. My own work. -/
import Derived.Test.YtlaohgngdaglmaaGreatZao
import Derived.Test.YtlaohgngdaglmaaGreatZak
import Derived.Test.YtlaohgngdaglmaaGreatZar
import Derived.Test.YtlaohgngdaglmaaGreatZav
import Derived.Test.YtlaohgngdaglmaaGreatZaq
/- What the document's homes do: their place in memory, Own, Accept, Done. My own work. -/
namespace Go.Sx
open Go Go.Proofs
set_option linter.unusedVariables false
set_option linter.unusedSectionVars false
set_option linter.unusedSimpArgs false
abbrev hcx (x : HRd) : List Value := tec x.1 x.2.1 x.2.2
abbrev rmc (c : Cfg) (num : Int) (p : Option Addr) (n k : Nat) (be bq : Nat) (odd : Int) : List Value := [.int .i64 c.cores, .int .i64 c.homes, .int .i64 c.sets, .int .i64 c.ways, .int .i64 c.words, .int .i64 c.lines, .int .i64 c.pointers, .int .i64 c.mshrs, .int .i64 c.buffer, .int .i64 c.writebacks, .int .i64 c.r0, .int .i64 c.r1, .int .i64 c.r2, .int .i64 num, .slice p n k, .pointer (some ⟨be, 0, none⟩), .pointer (some ⟨bq, 0, none⟩), .int .i64 odd]
def RFact (c : Cfg) (num : Int) (es : List (Int × TEnt)) (xs : List HRd) : Prop := (xs.length : Int) = c.lines ∧ ∀ k : Nat, ∀ hk : k < xs.length, ownL c num k → mget es k = some xs[k].1
def HomR (b : Nat) (c : Cfg) (num : Int) (s : HomS) : HP := Ex fun x : ((Option Addr × Nat) × Nat × Nat) × List HRd => [Cells b 113 (rmc c num x.1.1.1 x.2.length x.1.1.2 x.1.2.1 x.1.2.2 s.odd), Own 136 5 (.slice x.1.1.1 x.2.length x.1.1.2) x.2.length (flat hcx x.2), All (x.2.map hrd), MemRB x.1.2.1 c s.ms, QuB 120 216 x.1.2.2 c.buffer s.q, Fact (RFact c num s.es x.2)]
theorem hr_in {b be bq n : Nat} {p : Option Addr} {k : Nat} {c : Cfg} {num odd : Int} {xs : List HRd} {vs : List Value} {es : List (Int × TEnt)} {ms : List Int} {q : List QE} {L M : List HP}
    (h : Ent L (Cells b 113 (rmc c num p n k be bq odd) :: Own 136 5 (.slice p n k) n vs :: All (xs.map hrd) :: MemRB be c ms :: QuB 120 216 bq c.buffer q :: M)) (hn : n = xs.length) (hv : vs = flat hcx xs) (he : RFact c num es xs) : Ent L (HomR b c num ⟨es, ms, q, odd⟩ :: M) := by
  subst hn hv
  refine Ent.trans h (Ent.trans ?_ (ex_intro (p := fun x : ((Option Addr × Nat) × Nat × Nat) × List HRd => [Cells b 113 (rmc c num x.1.1.1 x.2.length x.1.1.2 x.1.2.1 x.1.2.2 odd), Own 136 5 (.slice x.1.1.1 x.2.length x.1.1.2) x.2.length (flat hcx x.2), All (x.2.map hrd), MemRB x.1.2.1 c ms, QuB 120 216 x.1.2.2 c.buffer q, Fact (RFact c num es x.2)]) (((p, k), be, bq), xs)))
  exact Ent.cons (Ent.cons (Ent.cons (Ent.cons (Ent.cons (star_fact_mk he)))))
theorem hr_sat {b : Nat} {c : Cfg} {num : Int} {s : HomS} {L : List HP} {w : World} (h : Sat (HomR b c num s :: L) w) : ∃ p k be bq, ∃ xs : List HRd, RFact c num s.es xs ∧
    Sat (Cells b 113 (rmc c num p xs.length k be bq s.odd) :: Own 136 5 (.slice p xs.length k) xs.length (flat hcx xs) :: All (xs.map hrd) :: MemRB be c s.ms :: QuB 120 216 bq c.buffer s.q :: L) w := by
  obtain ⟨⟨⟨⟨p, k⟩, be, bq⟩, xs⟩, hx⟩ := star_ex h
  simp only [app] at hx
  exact ⟨p, k, be, bq, xs, fact_of (star_drop (star_drop (star_drop (star_drop (star_drop hx))))), (Ent.cons (Ent.cons (Ent.cons (Ent.cons (Ent.cons (Ent.drop Ent.refl)))))) _ hx⟩
section
variable {b : Nat} {c : Cfg} {num : Int} {s : HomS} {P : Program} {N : Nat} {env : Env} {L : List HP} {Q : Exit → Act → World → Prop}
theorem hr_open {co : Code} (h : ∀ p k be bq, ∀ xs : List HRd, RFact c num s.es xs → WC P N co env (Cells b 113 (rmc c num p xs.length k be bq s.odd) :: Own 136 5 (.slice p xs.length k) xs.length (flat hcx xs) :: All (xs.map hrd) :: MemRB be c s.ms :: QuB 120 216 bq c.buffer s.q :: L) Q) : WC P N co env (HomR b c num s :: L) Q := by
  intro a w ha hw
  obtain ⟨p, k, be, bq, xs, he, hx⟩ := hr_sat hw
  exact h p k be bq xs he a w ha hx
theorem hr_openO {all : Array Oper} {o : List Oper} (h : ∀ p k be bq, ∀ xs : List HRd, RFact c num s.es xs → WO P N all o env (Cells b 113 (rmc c num p xs.length k be bq s.odd) :: Own 136 5 (.slice p xs.length k) xs.length (flat hcx xs) :: All (xs.map hrd) :: MemRB be c s.ms :: QuB 120 216 bq c.buffer s.q :: L) Q) : WO P N all o env (HomR b c num s :: L) Q := by
  intro a w ha hw
  obtain ⟨p, k, be, bq, xs, he, hx⟩ := hr_sat hw
  exact h p k be bq xs he a w ha hx
end
theorem mine_no {c : Cfg} {num : Int} {m : Msg} {net : Int} (h : ¬ MayP c m) : mineB c num m net = false := by simp [mineB, h]
theorem mine_0 {c : Cfg} {num : Int} {m : Msg} (h : MayP c m) : mineB c num m 0 = (decide (m.kind ≤ 3) && decide (m.dst = num)) := by
  have hk := h.2.1
  simp only [mineB, decide_eq_true h, Bool.true_and]
  by_cases h3 : m.kind ≤ 3
  · have e1 : netK m.kind = 0 := if_pos ⟨hk.1, h3⟩
    have e2 : HomeP m.kind := .inl ⟨hk.1, h3⟩
    simp [e1, e2, h3]
  · have e1 : ¬ netK m.kind = 0 := by
      unfold netK; rw [if_neg (by omega)]; split
      · omega
      · split <;> omega
    simp [e1, h3]
theorem mine_2 {c : Cfg} {num : Int} {m : Msg} (h : MayP c m) : mineB c num m 2 = (decide (m.kind = 11) && decide (m.dst = num)) := by
  have hk := h.2.1
  simp only [mineB, decide_eq_true h, Bool.true_and]
  by_cases h3 : m.kind = 11
  · have e1 : netK m.kind = 2 := by rw [h3]; decide
    have e2 : HomeP m.kind := .inr h3
    simp only [decide_eq_true e1, decide_eq_true e2, decide_eq_true h3, Bool.true_and]
  · by_cases e2 : HomeP m.kind
    · have e1 : netK m.kind = 0 := if_pos (e2.resolve_right h3)
      simp [e1, h3]
    · simp [e2, h3]
set_option maxRecDepth 100000
set_option maxHeartbeats 4000000
attribute [local irreducible] Go.Exit.then Go.Exit.inBlock Go.Code.wp WC WO WE WQ V LoopQ FnQ Sat Star band bor IntKind.wrap WR Code.rounds WT KO
theorem hr_Own {F : List HP} {b : Nat} {c : Cfg} {num : Int} {s : HomS} {line : Int} (hc : checkB c = true) : FnF Tryz.prog 41 [.pointer (some ⟨b, 0, none⟩), .int .i64 line] [HomR b c num s] F (fun r L' => r = .bool (decide (ownL c num line)) ∧ L' = [HomR b c num s]) := by
  have hh := (cfg_bnd hc).2.1
  obtain ⟨es, ms, q, odd⟩ := s
  refine FnF.mk' Tryz.func41 rfl rfl Tryz.ntmps41 rfl ?_
  refine hr_open fun p k be bq xs he => ?_
  by_cases h0 : 0 ≤ line
  · by_cases h1 : line < c.lines
    · have e : ownL c num line ↔ line % c.homes = num := by simp [ownL, h0, h1]
      repeat (first | rintro _ _ ⟨rfl, rfl⟩ | refine exq fun _ => ?_ | intro _ | refine go ?_ | refine drq ?_)
      (apply WE_ret rfl rfl (by (repeat (first | exact ResOk.nil | (apply ResOk.tmp; rfl) | (apply resOk_cell; rfl; exact inferInstance; rfl; rfl)))))
      · exact ⟨by simp [e, tmod_nn h0], rfl⟩
      · ((repeat (first | (with_reducible exact Ent.refl) | exact Ent.nil | (apply ent_pickE; (focus ((repeat (first | (with_reducible exact pk_here) | (apply pk_there))); done))) | (apply hr_in) | apply Ent.drop)); all_goals (first | rfl | (with_reducible assumption) | (simp; done) | (simp; omega) | omega | (constructor <;> (simp) <;> omega)))
    · have e : ¬ ownL c num line := fun h => h1 h.2.1
      repeat (first | rintro _ _ ⟨rfl, rfl⟩ | refine exq fun _ => ?_ | intro _ | refine go ?_ | refine drq ?_)
      (apply WE_ret rfl rfl (by (repeat (first | exact ResOk.nil | (apply ResOk.tmp; rfl) | (apply resOk_cell; rfl; exact inferInstance; rfl; rfl)))))
      · exact ⟨by simp [e], rfl⟩
      · ((repeat (first | (with_reducible exact Ent.refl) | exact Ent.nil | (apply ent_pickE; (focus ((repeat (first | (with_reducible exact pk_here) | (apply pk_there))); done))) | (apply hr_in) | apply Ent.drop)); all_goals (first | rfl | (with_reducible assumption) | (simp; done) | (simp; omega) | omega | (constructor <;> (simp) <;> omega)))
  · have e : ¬ ownL c num line := fun h => h0 h.1
    repeat (first | rintro _ _ ⟨rfl, rfl⟩ | refine exq fun _ => ?_ | intro _ | refine go ?_ | refine drq ?_)
    (apply WE_ret rfl rfl (by (repeat (first | exact ResOk.nil | (apply ResOk.tmp; rfl) | (apply resOk_cell; rfl; exact inferInstance; rfl; rfl)))))
    · exact ⟨by simp [e], rfl⟩
    · ((repeat (first | (with_reducible exact Ent.refl) | exact Ent.nil | (apply ent_pickE; (focus ((repeat (first | (with_reducible exact pk_here) | (apply pk_there))); done))) | (apply hr_in) | apply Ent.drop)); all_goals (first | rfl | (with_reducible assumption) | (simp; done) | (simp; omega) | omega | (constructor <;> (simp) <;> omega)))
theorem dr_HomR_32 {Q P : Prop} (k : Q) (h : Hid Q → P := by
  intro k
  first
  | (refine is_draw ?_; apply WC_mix (id := 3) .true _ (pl := .p 0 <| .p 1 <| .p 2 <| .r 3 <| .r 4 <| .e true [(5, .p 6 <| .done)]); exact mixed; kernel_rfl; kernel_rfl; exact Ent.refl; exact k.out)) : P := h ⟨k⟩
theorem hr_Accept {F : List HP} {b : Nat} {c : Cfg} {num : Int} {s : HomS} {m : Msg} (hc : c.wf) : FnF Tryz.prog 32 [.pointer (some ⟨b, 0, none⟩), mv m] [HomR b c num s] F (fun r L' => r = .int .i64 (hmAccE c num s m) ∧ L' = [HomR b c num (hmAccS c num s m)]) := by
  have hM := fun F => ref05_May (F := F) (c := c) (m := m) hc
  obtain ⟨es, ms, q, odd⟩ := s
  have hno : mineB c num m 0 = false → hmAccE c num ⟨es, ms, q, odd⟩ m = 1 ∧ hmAccS c num ⟨es, ms, q, odd⟩ m = ⟨es, ms, q, odd⟩ := fun h => by simp [hmAccE, hmAccS, h]
  by_cases h1 : MayP c m
  · simp only [decide_eq_true h1] at hM
    by_cases h2 : m.kind ≤ 3
    · by_cases h3 : m.dst = num
      · have e : mineB c num m 0 = true := by rw [mine_0 h1]; simp [h2, h3]
        have e1 : hmAccE c num ⟨es, ms, q, odd⟩ m = qaddE c.buffer q m := by simp [hmAccE, e]
        have e2 : hmAccS c num ⟨es, ms, q, odd⟩ m = ⟨es, ms, qaddL c.buffer q m, odd⟩ := by simp [hmAccS, e]
        rw [e1, e2]
        refine FnF.mk' Tryz.func32 rfl rfl Tryz.ntmps32 rfl ?_
        refine hr_open fun p k be bq xs he => ?_
        repeat (first | rintro _ _ ⟨rfl, rfl⟩ | refine exq fun _ => ?_ | intro _ | refine go ?_ | refine dr_HomR_32 ?_ | refine drq ?_ | refine cal @hM ?_ | refine cal @ref15_Add ?_)
        (apply WE_ret rfl rfl (by (repeat (first | exact ResOk.nil | (apply ResOk.tmp; rfl) | (apply resOk_cell; rfl; exact inferInstance; rfl; rfl)))))
        · exact ⟨rfl, rfl⟩
        · ((repeat (first | (with_reducible exact Ent.refl) | exact Ent.nil | (apply ent_pickE; (focus ((repeat (first | (with_reducible exact pk_here) | (apply pk_there))); done))) | (apply hr_in) | apply Ent.drop)); all_goals (first | rfl | (with_reducible assumption) | (simp; done) | (simp; omega) | omega | (constructor <;> (simp) <;> omega)))
      · obtain ⟨e1, e2⟩ := hno (by rw [mine_0 h1]; simp [h3])
        rw [e1, e2]
        refine FnF.mk' Tryz.func32 rfl rfl Tryz.ntmps32 rfl ?_
        refine hr_open fun p k be bq xs he => ?_
        repeat (first | rintro _ _ ⟨rfl, rfl⟩ | refine exq fun _ => ?_ | intro _ | refine go ?_ | refine dr_HomR_32 ?_ | refine drq ?_ | refine cal @hM ?_)
        (apply WE_ret rfl rfl (by (repeat (first | exact ResOk.nil | (apply ResOk.tmp; rfl) | (apply resOk_cell; rfl; exact inferInstance; rfl; rfl)))))
        · exact ⟨rfl, rfl⟩
        · ((repeat (first | (with_reducible exact Ent.refl) | exact Ent.nil | (apply ent_pickE; (focus ((repeat (first | (with_reducible exact pk_here) | (apply pk_there))); done))) | (apply hr_in) | apply Ent.drop)); all_goals (first | rfl | (with_reducible assumption) | (simp; done) | (simp; omega) | omega | (constructor <;> (simp) <;> omega)))
    · obtain ⟨e1, e2⟩ := hno (by rw [mine_0 h1]; simp [h2])
      rw [e1, e2]
      refine FnF.mk' Tryz.func32 rfl rfl Tryz.ntmps32 rfl ?_
      refine hr_open fun p k be bq xs he => ?_
      repeat (first | rintro _ _ ⟨rfl, rfl⟩ | refine exq fun _ => ?_ | intro _ | refine go ?_ | refine dr_HomR_32 ?_ | refine drq ?_ | refine cal @hM ?_)
      (apply WE_ret rfl rfl (by (repeat (first | exact ResOk.nil | (apply ResOk.tmp; rfl) | (apply resOk_cell; rfl; exact inferInstance; rfl; rfl)))))
      · exact ⟨rfl, rfl⟩
      · ((repeat (first | (with_reducible exact Ent.refl) | exact Ent.nil | (apply ent_pickE; (focus ((repeat (first | (with_reducible exact pk_here) | (apply pk_there))); done))) | (apply hr_in) | apply Ent.drop)); all_goals (first | rfl | (with_reducible assumption) | (simp; done) | (simp; omega) | omega | (constructor <;> (simp) <;> omega)))
  · obtain ⟨e1, e2⟩ := hno (mine_no h1)
    simp only [decide_eq_false h1] at hM
    rw [e1, e2]
    refine FnF.mk' Tryz.func32 rfl rfl Tryz.ntmps32 rfl ?_
    refine hr_open fun p k be bq xs he => ?_
    repeat (first | rintro _ _ ⟨rfl, rfl⟩ | refine exq fun _ => ?_ | intro _ | refine go ?_ | refine dr_HomR_32 ?_ | refine drq ?_ | refine cal @hM ?_)
    (apply WE_ret rfl rfl (by (repeat (first | exact ResOk.nil | (apply ResOk.tmp; rfl) | (apply resOk_cell; rfl; exact inferInstance; rfl; rfl)))))
    · exact ⟨rfl, rfl⟩
    · ((repeat (first | (with_reducible exact Ent.refl) | exact Ent.nil | (apply ent_pickE; (focus ((repeat (first | (with_reducible exact pk_here) | (apply pk_there))); done))) | (apply hr_in) | apply Ent.drop)); all_goals (first | rfl | (with_reducible assumption) | (simp; done) | (simp; omega) | omega | (constructor <;> (simp) <;> omega)))
theorem dr_HomR_34 {Q P : Prop} (k : Q) (h : Hid Q → P := by
  intro k
  first
  | (refine is_draw ?_; apply WC_mix (id := 3) .true _ (pl := .p 0 <| .p 1 <| .p 2 <| .p 4 <| .p 6 <| .r 3 <| .r 5 <| .r 7 <| .e true [(8, .p 9 <| .done)]); exact mixed; kernel_rfl; kernel_rfl; exact Ent.refl; exact k.out)) : P := h ⟨k⟩
theorem hr_Done {F : List HP} {b : Nat} {c : Cfg} {num : Int} {s : HomS} {m : Msg} (hc : c.wf) : FnF Tryz.prog 34 [.pointer (some ⟨b, 0, none⟩), mv m] [HomR b c num s] F (fun r L' => r = .int .i64 (hmDoneE c num s m) ∧ L' = [HomR b c num (hmDoneS c num s m)]) := by
  have hM := fun F => ref05_May (F := F) (c := c) (m := m) hc
  obtain ⟨es, ms, q, odd⟩ := s
  have hno : mineB c num m 2 = false → hmDoneE c num ⟨es, ms, q, odd⟩ m = 1 ∧ hmDoneS c num ⟨es, ms, q, odd⟩ m = ⟨es, ms, q, odd⟩ := fun h => by simp [hmDoneE, hmDoneS, h]
  by_cases h1 : MayP c m
  · simp only [decide_eq_true h1] at hM
    by_cases h2 : m.kind = 11
    · by_cases h3 : m.dst = num
      · have e : mineB c num m 2 = true := by rw [mine_2 h1]; simp [h2, h3]
        have e1 : hmDoneE c num ⟨es, ms, q, odd⟩ m = qfinE q m.line m.src := by simp [hmDoneE, e]
        have e2 : hmDoneS c num ⟨es, ms, q, odd⟩ m = ⟨es, ms, qfinL q m.line m.src, odd⟩ := by simp [hmDoneS, e]
        rw [e1, e2]
        refine FnF.mk' Tryz.func34 rfl rfl Tryz.ntmps34 rfl ?_
        refine hr_open fun p k be bq xs he => ?_
        repeat (first | rintro _ _ ⟨rfl, rfl⟩ | refine exq fun _ => ?_ | intro _ | refine go ?_ | refine dr_HomR_34 ?_ | refine drq ?_ | refine cal @hM ?_ | refine cal @ref15_Finish ?_)
        (apply WE_ret rfl rfl (by (repeat (first | exact ResOk.nil | (apply ResOk.tmp; rfl) | (apply resOk_cell; rfl; exact inferInstance; rfl; rfl)))))
        · exact ⟨rfl, rfl⟩
        · ((repeat (first | (with_reducible exact Ent.refl) | exact Ent.nil | (apply ent_pickE; (focus ((repeat (first | (with_reducible exact pk_here) | (apply pk_there))); done))) | (apply hr_in) | apply Ent.drop)); all_goals (first | rfl | (with_reducible assumption) | (simp; done) | (simp; omega) | omega | (constructor <;> (simp) <;> omega)))
      · obtain ⟨e1, e2⟩ := hno (by rw [mine_2 h1]; simp [h3])
        rw [e1, e2]
        refine FnF.mk' Tryz.func34 rfl rfl Tryz.ntmps34 rfl ?_
        refine hr_open fun p k be bq xs he => ?_
        repeat (first | rintro _ _ ⟨rfl, rfl⟩ | refine exq fun _ => ?_ | intro _ | refine go ?_ | refine dr_HomR_34 ?_ | refine drq ?_ | refine cal @hM ?_)
        (apply WE_ret rfl rfl (by (repeat (first | exact ResOk.nil | (apply ResOk.tmp; rfl) | (apply resOk_cell; rfl; exact inferInstance; rfl; rfl)))))
        · exact ⟨rfl, rfl⟩
        · ((repeat (first | (with_reducible exact Ent.refl) | exact Ent.nil | (apply ent_pickE; (focus ((repeat (first | (with_reducible exact pk_here) | (apply pk_there))); done))) | (apply hr_in) | apply Ent.drop)); all_goals (first | rfl | (with_reducible assumption) | (simp; done) | (simp; omega) | omega | (constructor <;> (simp) <;> omega)))
    · obtain ⟨e1, e2⟩ := hno (by rw [mine_2 h1]; simp [h2])
      rw [e1, e2]
      refine FnF.mk' Tryz.func34 rfl rfl Tryz.ntmps34 rfl ?_
      refine hr_open fun p k be bq xs he => ?_
      repeat (first | rintro _ _ ⟨rfl, rfl⟩ | refine exq fun _ => ?_ | intro _ | refine go ?_ | refine dr_HomR_34 ?_ | refine drq ?_ | refine cal @hM ?_)
      (apply WE_ret rfl rfl (by (repeat (first | exact ResOk.nil | (apply ResOk.tmp; rfl) | (apply resOk_cell; rfl; exact inferInstance; rfl; rfl)))))
      · exact ⟨rfl, rfl⟩
      · ((repeat (first | (with_reducible exact Ent.refl) | exact Ent.nil | (apply ent_pickE; (focus ((repeat (first | (with_reducible exact pk_here) | (apply pk_there))); done))) | (apply hr_in) | apply Ent.drop)); all_goals (first | rfl | (with_reducible assumption) | (simp; done) | (simp; omega) | omega | (constructor <;> (simp) <;> omega)))
  · obtain ⟨e1, e2⟩ := hno (mine_no h1)
    simp only [decide_eq_false h1] at hM
    rw [e1, e2]
    refine FnF.mk' Tryz.func34 rfl rfl Tryz.ntmps34 rfl ?_
    refine hr_open fun p k be bq xs he => ?_
    repeat (first | rintro _ _ ⟨rfl, rfl⟩ | refine exq fun _ => ?_ | intro _ | refine go ?_ | refine dr_HomR_34 ?_ | refine drq ?_ | refine cal @hM ?_)
    (apply WE_ret rfl rfl (by (repeat (first | exact ResOk.nil | (apply ResOk.tmp; rfl) | (apply resOk_cell; rfl; exact inferInstance; rfl; rfl)))))
    · exact ⟨rfl, rfl⟩
    · ((repeat (first | (with_reducible exact Ent.refl) | exact Ent.nil | (apply ent_pickE; (focus ((repeat (first | (with_reducible exact pk_here) | (apply pk_there))); done))) | (apply hr_in) | apply Ent.drop)); all_goals (first | rfl | (with_reducible assumption) | (simp; done) | (simp; omega) | omega | (constructor <;> (simp) <;> omega)))
end Go.Sx

/- The document's table: reads. My own work. -/
namespace Go.Sx
open Go Go.Proofs
set_option linter.unusedVariables false
set_option linter.unusedSectionVars false
set_option linter.unusedSimpArgs false
set_option maxRecDepth 100000
set_option maxHeartbeats 4000000
attribute [local irreducible] Go.Exit.then Go.Exit.inBlock Go.Code.wp WC WO WE WQ V LoopQ FnQ Sat Star band bor IntKind.wrap WR Code.rounds WT KO
theorem dr_TabR1_105 {Q P : Prop} (k : Q) (h : Hid Q → P := by
  intro k
  first
  | (refine is_draw ?_; apply WC_mix (id := 10) .false _ (pl := .p 0 <| .p 5 <| .p 7 <| .r 1 <| .r 2 <| .p 3 <| .r 4 <| .r 6 <| .r 8 <| .e true [(9, .e true [(10, .p 11 <| .e true [(12, .p 13 <| .done)])])]); exact mixed; kernel_rfl; kernel_rfl; exact Ent.refl; exact k.out)
  | (refine is_draw ?_; apply WC_mix (id := 12) .false _ (pl := .p 0 <| .p 4 <| .r 1 <| .p 2 <| .r 3 <| .r 5 <| .e true [(6, .e true [(7, .p 8 <| .e true [(9, .p 10 <| .done)])])]); exact mixed; kernel_rfl; kernel_rfl; exact Ent.refl; exact k.out)
  | (refine is_draw ?_; apply WC_mix (id := 14) .false _ (pl := .p 3 <| .r 0 <| .p 1 <| .r 2 <| .r 4 <| .e true [(5, .e true [(6, .p 7 <| .e true [(8, .p 9 <| .done)])])]); exact mixed; kernel_rfl; kernel_rfl; exact Ent.refl; exact k.out)
  | (refine is_draw ?_; apply WC_mix (id := 16) .false _ (pl := .p 2 <| .r 0 <| .r 1 <| .r 3 <| .e true [(4, .e true [(5, .p 6 <| .e true [(7, .e true [(8, .done)])]), (7, .e true [(5, .p 6 <| .e true [(8, .done)])])]), (7, .e true [(4, .e true [(5, .p 6 <| .e true [(8, .done)])])])]); exact mixed; kernel_rfl; kernel_rfl; exact Ent.refl; exact k.out)
  | (refine is_draw ?_; apply WC_mix (id := 25) .false _ (pl := .p 0 <| .p 3 <| .p 4 <| .r 1 <| .r 2 <| .r 5 <| .e true [(6, .e true [(7, .e true [(8, .p 9 <| .e true [(10, .done)])])])]); exact mixed; kernel_rfl; kernel_rfl; exact Ent.refl; exact k.out)
  | (refine is_draw ?_; apply WC_mix (id := 27) .false _ (pl := .p 0 <| .p 3 <| .p 4 <| .r 1 <| .r 2 <| .r 5 <| .e true [(6, .e true [(7, .e true [(8, .p 9 <| .e true [(10, .done)])])])]); exact mixed; kernel_rfl; kernel_rfl; exact Ent.refl; exact k.out)
  | (refine is_draw ?_; apply WC_mix (id := 28) .false _ (pl := .p 0 <| .p 3 <| .p 5 <| .p 6 <| .r 1 <| .r 2 <| .r 4 <| .r 7 <| .e true [(8, .e true [(9, .e true [(10, .p 11 <| .e true [(12, .done)])])])]); exact mixed; kernel_rfl; kernel_rfl; exact Ent.refl; exact k.out)
  | (refine is_draw ?_; apply WC_mix (id := 32) .false _ (pl := .p 0 <| .p 3 <| .p 4 <| .p 5 <| .p 7 <| .r 1 <| .r 2 <| .r 6 <| .r 8 <| .e true [(9, .e true [(10, .e true [(11, .p 12 <| .e true [(13, .done)])])])]); exact mixed; kernel_rfl; kernel_rfl; exact Ent.refl; exact k.out)) : P := h ⟨k⟩
/-- A read: the entry's set is its own, or it is the entry's. -/
theorem ref13_Next_read {F : List HP} {e : TEnt} {a : Option Addr} {k : Nat} {m : Msg} {w : Words} (hk : RdL F 1 (.slice a e.s.ps.length k) e.s.ps.length (flat ic e.s.ps)) (hok : okT e m = true) (hkd : m.kind = 1) (ho : ¬ e.o = m.src) (hh : shHas e.s m.src = false) :
    FnF Tryz.prog 105 [.agg (tec e a k).toArray, mv m, wv w] [] F (fun r L' => ∃ a' k' p c, r = .tuple [.agg (tuc (nextT e m) a' k' p (nextS e m w).length c false).toArray, .int .i64 0].toArray ∧
      L' = [Own 3 1 (.slice a' (nextT e m).s.ps.length k') (nextT e m).s.ps.length (flat ic (nextT e m).s.ps), Own 38 15 (.slice p (nextS e m w).length c) (nextS e m w).length (flat mc (nextS e m w))]) := by
  obtain ⟨hm, h2, h3, h4, h5⟩ := okT_facts hok
  have hmay : mayT e = true := mayT_mk hm h2 h3
  have hn := (may_facts' hm).2.2
  have h0 := next_ok1 hok hkd ho
  have hM := fun F (hk : RdL F 1 (.slice a e.s.ps.length k) e.s.ps.length (flat ic e.s.ps)) => ref13_May (F := F) hk (by omega)
  simp only [hmay] at hM
  have hA := fun F (hk : RdL F 1 (.slice a e.s.ps.length k) e.s.ps.length (flat ic e.s.ps)) => ref08_Add (F := F) (x := m.src) hk (by omega) (fun h => by rw [hh] at h; cases h)
  have hT := fun F u (hk : RdL F 1 (.slice a e.s.ps.length k) e.s.ps.length (flat ic e.s.ps)) (hb : RdL F 1 u 0 []) => ref08_Targets (F := F) (u := u) (but := []) hk hm hb (by simp)
  refine FnF.mk' Tryz.func105 rfl rfl Tryz.ntmps105 rfl ?_
  by_cases g1 : e.o = -1
  · by_cases g2 : (shTgt e.s [] e.s.cores.toNat).length = 0
    · have e1 : nextT e m = ⟨m.src, clearS e.s⟩ := by unfold nextT readT tgtT; rw [if_pos h0, if_pos hkd, if_neg ho, if_neg (by omega), if_pos g2]
      have e2 : nextS e m w = [msgT m 7 m.src 0 0 2 w] := by unfold nextS readS tgtT; rw [if_pos h0, if_pos hkd, if_neg ho, if_neg (by omega), if_pos g2]
      rw [e1, e2]
      repeat (first | rintro _ _ ⟨rfl, rfl⟩ | refine exq fun _ => ?_ | intro _ | refine go ?_ | refine dr_TabR1_105 ?_ | refine drq ?_ | refine cal @hM ?_ | refine cal @hA ?_ | refine cal @hT ?_ | refine cal @ref13_msg ?_)
      (apply WE_ret rfl rfl (by (repeat (first | exact ResOk.nil | (apply ResOk.tmp; rfl) | (apply resOk_cell; rfl; exact inferInstance; rfl; rfl)))))
      · exact ⟨none, 0, _, _, rfl, rfl⟩
      · refine Ent.trans (own_one Ent.refl) (Ent.trans ?_ (own_empty Ent.refl))
        exact entu0
    · have e1 : nextT e m = ⟨e.o, shAddS e.s m.src⟩ := by unfold nextT readT tgtT; rw [if_pos h0, if_pos hkd, if_neg ho, if_neg (by omega), if_neg g2]
      have e2 : nextS e m w = [msgT m 7 m.src 0 0 1 w] := by unfold nextS readS tgtT; rw [if_pos h0, if_pos hkd, if_neg ho, if_neg (by omega), if_neg g2]
      rw [e1, e2]
      repeat (first | rintro _ _ ⟨rfl, rfl⟩ | refine exq fun _ => ?_ | intro _ | refine go ?_ | refine dr_TabR1_105 ?_ | refine drq ?_ | refine cal @hM ?_ | refine cal @hA ?_ | refine cal @hT ?_ | refine cal @ref13_msg ?_)
      (apply WE_ret rfl rfl (by (repeat (first | exact ResOk.nil | (apply ResOk.tmp; rfl) | (apply resOk_cell; rfl; exact inferInstance; rfl; rfl)))))
      · exact ⟨_, _, _, _, by rw [g1]; rfl, rfl⟩
      · refine Ent.trans (own_one Ent.refl) ?_
        exact entu0
  · have e1 : nextT e m = ⟨e.o, shAddS e.s m.src⟩ := by unfold nextT readT; rw [if_pos h0, if_pos hkd, if_neg ho, if_pos (by omega)]
    have e2 : nextS e m w = [msgT m 4 e.o m.src 0 0 .zero] := by unfold nextS readS; rw [if_pos h0, if_pos hkd, if_neg ho, if_pos (by omega)]
    rw [e1, e2]
    repeat (first | rintro _ _ ⟨rfl, rfl⟩ | refine exq fun _ => ?_ | intro _ | refine go ?_ | refine dr_TabR1_105 ?_ | refine drq ?_ | refine cal @hM ?_ | refine cal @hA ?_ | refine cal @ref13_msgz ?_)
    (apply WE_ret rfl rfl (by (repeat (first | exact ResOk.nil | (apply ResOk.tmp; rfl) | (apply resOk_cell; rfl; exact inferInstance; rfl; rfl)))))
    · exact ⟨_, _, _, _, rfl, rfl⟩
    · refine Ent.trans (own_one Ent.refl) ?_
      exact entu0
theorem ref13_Next_readH {F : List HP} {e : TEnt} {a : Option Addr} {k : Nat} {m : Msg} {w : Words} (hk : RdL F 1 (.slice a e.s.ps.length k) e.s.ps.length (flat ic e.s.ps)) (hok : okT e m = true) (hkd : m.kind = 1) (ho : ¬ e.o = m.src) (hh : shHas e.s m.src = true) :
    FnF Tryz.prog 105 [.agg (tec e a k).toArray, mv m, wv w] [] F (fun r L' => ∃ p c, r = .tuple [.agg (tuc e a k p (nextS e m w).length c false).toArray, .int .i64 0].toArray ∧
      L' = [Own 38 15 (.slice p (nextS e m w).length c) (nextS e m w).length (flat mc (nextS e m w))]) := by
  obtain ⟨hm, h2, h3, h4, h5⟩ := okT_facts hok
  have hmay : mayT e = true := mayT_mk hm h2 h3
  have hn := (may_facts' hm).2.2
  have h0 := next_ok1 hok hkd ho
  have hM := fun F (hk : RdL F 1 (.slice a e.s.ps.length k) e.s.ps.length (flat ic e.s.ps)) => ref13_May (F := F) hk (by omega)
  simp only [hmay] at hM
  have hA := fun F (hk : RdL F 1 (.slice a e.s.ps.length k) e.s.ps.length (flat ic e.s.ps)) => ref08_Add_has (F := F) (x := m.src) hk hm h4 h5 hh
  have hT := fun F u (hk : RdL F 1 (.slice a e.s.ps.length k) e.s.ps.length (flat ic e.s.ps)) (hb : RdL F 1 u 0 []) => ref08_Targets (F := F) (u := u) (but := []) hk hm hb (by simp)
  have g2 : ¬ (shTgt e.s [] e.s.cores.toNat).length = 0 := fun h => by
    have hx : m.src ∈ shTgt e.s [] e.s.cores.toNat := (tgt_mem hm).2 ⟨hh, by simp⟩
    rw [List.eq_nil_of_length_eq_zero h] at hx; cases hx
  refine FnF.mk' Tryz.func105 rfl rfl Tryz.ntmps105 rfl ?_
  by_cases g1 : e.o = -1
  · have e2 : nextS e m w = [msgT m 7 m.src 0 0 1 w] := by unfold nextS readS tgtT; rw [if_pos h0, if_pos hkd, if_neg ho, if_neg (by omega), if_neg g2]
    rw [e2]
    repeat (first | rintro _ _ ⟨rfl, rfl⟩ | refine exq fun _ => ?_ | intro _ | refine go ?_ | refine dr_TabR1_105 ?_ | refine drq ?_ | refine cal @hM ?_ | refine cal @hA ?_ | refine cal @hT ?_ | refine cal @ref13_msg ?_)
    (apply WE_ret rfl rfl (by (repeat (first | exact ResOk.nil | (apply ResOk.tmp; rfl) | (apply resOk_cell; rfl; exact inferInstance; rfl; rfl)))))
    · exact ⟨_, _, by rw [tuc, g1]; rfl, rfl⟩
    · refine Ent.trans (own_one Ent.refl) ?_
      exact entu0
  · have e2 : nextS e m w = [msgT m 4 e.o m.src 0 0 .zero] := by unfold nextS readS; rw [if_pos h0, if_pos hkd, if_neg ho, if_pos (by omega)]
    rw [e2]
    repeat (first | rintro _ _ ⟨rfl, rfl⟩ | refine exq fun _ => ?_ | intro _ | refine go ?_ | refine dr_TabR1_105 ?_ | refine drq ?_ | refine cal @hM ?_ | refine cal @hA ?_ | refine cal @ref13_msgz ?_)
    (apply WE_ret rfl rfl (by (repeat (first | exact ResOk.nil | (apply ResOk.tmp; rfl) | (apply resOk_cell; rfl; exact inferInstance; rfl; rfl)))))
    · exact ⟨_, _, rfl, rfl⟩
    · refine Ent.trans (own_one Ent.refl) ?_
      exact entu0
end Go.Sx
