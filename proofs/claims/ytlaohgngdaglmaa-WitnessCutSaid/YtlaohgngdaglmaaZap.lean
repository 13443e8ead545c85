/- Hom4, Hom5, HomPl2, Ma: several of my texts as one. My own work. -/
import Derived.Test.YtlaohgngdaglmaaZao
import Derived.Test.YtlaohgngdaglmaaZaj
import Derived.Test.YtlaohgngdaglmaaZan
import Derived.Test.YtlaohgngdaglmaaZaf
/- What homes do: what can be done for one. The program's. My own work. -/
namespace Go.Sx
open Go Go.Proofs
set_option linter.unusedVariables false
set_option linter.unusedSectionVars false
set_option linter.unusedSimpArgs false
theorem hm_quf {b : Nat} {c : Cfg} {num : Int} {s : HomS} {L : List HP} {w : World} (h : Sat (HomP b c num s :: L) w) : (s.q.length : Int) ≤ c.buffer ∧ c.buffer ≤ 16 ∧ ∀ x ∈ s.q, x.sends.length ≤ 1000 := by
  obtain ⟨bm, be, bq, ps, he, hx⟩ := hm_sat h
  obtain ⟨p, c0, qs, ⟨h0, h1, h2, h3, _⟩, _⟩ := qu_sat (sat_tail (sat_tail (sat_tail (sat_tail hx))))
  rw [← h0]
  refine ⟨by simpa using h1, h2, fun x hx => ?_⟩
  obtain ⟨y, hy, rfl⟩ := List.mem_map.1 hx
  exact (h3 y hy).2
theorem WC_hmf {b : Nat} {c : Cfg} {num : Int} {s : HomS} {P : Program} {N : Nat} {co : Code} {env : Env} {L : List HP} {Q : Exit → Act → World → Prop}
    (h : (s.q.length : Int) ≤ c.buffer ∧ c.buffer ≤ 16 ∧ (∀ x ∈ s.q, x.sends.length ≤ 1000) → WC P N co env (HomP b c num s :: L) Q) : WC P N co env (HomP b c num s :: L) Q := fun a w ha hw => h (hm_quf hw) a w ha hw
theorem qready_in {q : List QE} {n : Int} (h : qready q n = true) : qin q n = true := by
  simp only [qready, Bool.and_eq_true] at h; exact h.1.1
theorem qat_mem {q : List QE} {n : Int} (h : qin q n = true) : qat q n ∈ q := by
  obtain ⟨i, hi, _, e⟩ := qin_t h
  rw [e]; exact List.getElem_mem hi
theorem next_kind {c : Cfg} {num : Int} {s : HomS} {n : Int} (h : HmI c num s) (hn : qnextB s.q n = true) : qnextM s.q n ∈ (qat s.q n).sends ∧ (4 ≤ (qnextM s.q n).kind ∧ (qnextM s.q n).kind ≤ 10) ∧ (qnextM s.q n).line = (qat s.q n).m.line ∧ (qnextM s.q n).src = num := by
  have hb := hn
  simp only [qnextB, Bool.and_eq_true, decide_eq_true_eq] at hb
  have hm := qat_mem hb.1
  have e : qnextM s.q n = (qat s.q n).sends.headD .zero := by unfold qnextM; rw [if_pos hn]
  have hmem : qnextM s.q n ∈ (qat s.q n).sends := by
    rw [e]
    cases hs : (qat s.q n).sends with
    | nil => rw [hs] at hb; exact absurd rfl hb.2
    | cons a r => simp
  exact ⟨hmem, h.snd _ hm _ hmem⟩
theorem net_12 {k : Int} (h : 4 ≤ k ∧ k ≤ 10) : netK k = 1 ∨ netK k = 2 := by
  unfold netK
  rw [if_neg (by omega)]
  split
  · exact .inl rfl
  · rw [if_pos (by omega)]; exact .inr rfl
set_option maxRecDepth 100000
set_option maxHeartbeats 4000000
attribute [local irreducible] Go.Exit.then Go.Exit.inBlock Go.Code.wp WC WO WE WQ V LoopQ FnQ Sat Star band bor IntKind.wrap WR Code.rounds WT KO
theorem hm_Work {F : List HP} {b : Nat} {c : Cfg} {num : Int} {s : HomS} {n : Int} {l : L3} (h : HmI c num s) (ho : 0 ≤ s.odd ∧ s.odd ≤ 1000000000000) :
    FnF Try.prog 34 [.pointer (some ⟨b, 0, none⟩), .int .i64 n, .agg (l3c l).toArray] [HomP b c num s] F
      (fun r L' => r = .tuple [mv (hmWorkM s n l), .bool (hmWorkB s n l), .bool (hmDid s n l)].toArray ∧ L' = [HomP b c num (hmWorkS c s n l)]) := by
  refine FnF.mk' Try.func34 rfl rfl Try.ntmps34 rfl ?_
  refine WC_hmf fun hf => ?_
  obtain ⟨_, _, hf⟩ := hf
  cases hr : qready s.q n with
  | true =>
    have hin := qready_in hr
    have hG := fun F bq => qu_Get (F := F) (b := bq) (room := c.buffer) hin (by have := hf _ (qat_mem hin); omega)
    have hR := fun F bq => qu_Ready (F := F) (b := bq) (room := c.buffer) (l := s.q) (n := n)
    simp only [hr] at hR
    have hS := fun F => hm_start (F := F) (b := b) h hr ho
    have e1 : hmWorkM s n l = .zero := by simp [hmWorkM, hr]
    have e2 : hmWorkB s n l = false := by simp [hmWorkB, hr]
    have e3 : hmDid s n l = true := by simp [hmDid, hr]
    have e4 : hmWorkS c s n l = hmStartS c s n := by simp [hmWorkS, hr]
    rw [e1, e2, e3, e4]
    simp only [hmX] at hS
    obtain ⟨es, ms, q, odd⟩ := s
    refine hm_open fun bm be bq ps he => ?_
    dsimp only at *
    subst he
    repeat (first | rintro _ _ ⟨rfl, rfl⟩ | refine exq fun _ => ?_ | intro _ | refine go ?_ | refine drq ?_ | refine cal @hG ?_ | refine cal @hR ?_)
    ((first | apply WO_ent (L' := (HomP b c num ⟨hes ps, ms, q, odd⟩) :: _) | apply WC_ent' (L' := (HomP b c num ⟨hes ps, ms, q, odd⟩) :: _) | apply WE_ent' (L' := (HomP b c num ⟨hes ps, ms, q, odd⟩) :: _) | apply WT_ent' (L' := (HomP b c num ⟨hes ps, ms, q, odd⟩) :: _)); (focus (apply hm_in; (focus (exact entu0)); all_goals (first | rfl | (with_reducible assumption) | (simp; done) | (simp; omega) | omega | (constructor <;> (simp) <;> omega)))))
    repeat (first | rintro _ _ ⟨rfl, rfl⟩ | refine exq fun _ => ?_ | intro _ | refine go ?_ | refine drq ?_ | refine cal @hS ?_)
    exact fin0
  | false =>
    have hR := fun F bq => qu_Ready (F := F) (b := bq) (room := c.buffer) (l := s.q) (n := n)
    simp only [hr] at hR
    have hX := fun F bq => qu_Next (F := F) (b := bq) (room := c.buffer) (l := s.q) (n := n)
    cases hin : qin s.q n with
    | false =>
      have hG := fun F bq => qu_Get_no (F := F) (b := bq) (room := c.buffer) hin
      have hb : qnextB s.q n = false := by simp [qnextB, hin]
      have hg : hmGoes s n l = false := by simp [hmGoes, hb]
      have e1 : hmWorkM s n l = .zero := by simp [hmWorkM, hr, hg]
      have e2 : hmWorkB s n l = false := by simp [hmWorkB, hr, hg]
      have e3 : hmDid s n l = false := by simp [hmDid, hr, hg]
      have e4 : hmWorkS c s n l = s := by simp [hmWorkS, hr, hg]
      rw [e1, e2, e3, e4]
      simp only [hb] at hX
      obtain ⟨es, ms, q, odd⟩ := s
      refine hm_open fun bm be bq ps he => ?_
      dsimp only at *
      repeat (first | rintro _ _ ⟨rfl, rfl⟩ | refine exq fun _ => ?_ | intro _ | refine go ?_ | refine drq ?_ | refine cal @hG ?_ | refine cal @hR ?_ | refine cal @hX ?_)
      (apply WE_ret rfl rfl (by (repeat (first | exact ResOk.nil | (apply ResOk.tmp; rfl) | (apply resOk_cell; rfl; exact inferInstance; rfl; rfl)))))
      · exact ⟨rfl, rfl⟩
      · ((repeat (first | (with_reducible exact Ent.refl) | exact Ent.nil | (apply ent_pickE; (focus ((repeat (first | (with_reducible exact pk_here) | (apply pk_there))); done))) | (apply hm_in) | apply Ent.drop)); all_goals (first | rfl | (with_reducible assumption) | (simp; done) | (simp; omega) | omega | (constructor <;> (simp) <;> omega)))
    | true =>
      have hG := fun F bq => qu_Get (F := F) (b := bq) (room := c.buffer) hin (by have := hf _ (qat_mem hin); omega)
      cases hb : qnextB s.q n with
      | false =>
        have hg : hmGoes s n l = false := by simp [hmGoes, hb]
        have e1 : hmWorkM s n l = .zero := by simp [hmWorkM, hr, hg]
        have e2 : hmWorkB s n l = false := by simp [hmWorkB, hr, hg]
        have e3 : hmDid s n l = false := by simp [hmDid, hr, hg]
        have e4 : hmWorkS c s n l = s := by simp [hmWorkS, hr, hg]
        rw [e1, e2, e3, e4]
        simp only [hb] at hX
        obtain ⟨es, ms, q, odd⟩ := s
        refine hm_open fun bm be bq ps he => ?_
        dsimp only at *
        repeat (first | rintro _ _ ⟨rfl, rfl⟩ | refine exq fun _ => ?_ | intro _ | refine go ?_ | refine drq ?_ | refine cal @hG ?_ | refine cal @hR ?_ | refine cal @hX ?_)
        (apply WE_ret rfl rfl (by (repeat (first | exact ResOk.nil | (apply ResOk.tmp; rfl) | (apply resOk_cell; rfl; exact inferInstance; rfl; rfl)))))
        · exact ⟨rfl, rfl⟩
        · ((repeat (first | (with_reducible exact Ent.refl) | exact Ent.nil | (apply ent_pickE; (focus ((repeat (first | (with_reducible exact pk_here) | (apply pk_there))); done))) | (apply hm_in) | apply Ent.drop)); all_goals (first | rfl | (with_reducible assumption) | (simp; done) | (simp; omega) | omega | (constructor <;> (simp) <;> omega)))
      | true =>
        have hk := next_kind h hb
        have hSe := fun F bq => qu_Sent (F := F) (b := bq) (room := c.buffer) (l := s.q) (n := n)
        have hN := fun F => msg_Net (F := F) (k := (qnextM s.q n).kind)
        rcases net_12 hk.2.1 with hn | hn
        · simp only [hn] at hN
          have hgd : hmGoes s n l = decide (0 < l.2.1) := by simp [hmGoes, hb, hn, l3at]
          by_cases hl : 0 < l.2.1
          · have hg : hmGoes s n l = true := by rw [hgd]; exact decide_eq_true hl
            have e1 : hmWorkM s n l = qnextM s.q n := by simp [hmWorkM, hr, hg]
            have e2 : hmWorkB s n l = true := by simp [hmWorkB, hr, hg]
            have e3 : hmDid s n l = true := by simp [hmDid, hr, hg]
            have e4 : hmWorkS c s n l = { s with q := qsentL s.q n } := by simp [hmWorkS, hr, hg]
            rw [e1, e2, e3, e4]
            simp only [hb] at hX
            obtain ⟨es, ms, q, odd⟩ := s
            refine hm_open fun bm be bq ps he => ?_
            dsimp only at *
            repeat (first | rintro _ _ ⟨rfl, rfl⟩ | refine exq fun _ => ?_ | intro _ | refine go ?_ | refine drq ?_ | refine cal @hG ?_ | refine cal @hR ?_ | refine cal @hX ?_ | refine cal @hN ?_ | refine cal @hSe ?_)
            (apply WE_ret rfl rfl (by (repeat (first | exact ResOk.nil | (apply ResOk.tmp; rfl) | (apply resOk_cell; rfl; exact inferInstance; rfl; rfl)))))
            · exact ⟨rfl, rfl⟩
            · ((repeat (first | (with_reducible exact Ent.refl) | exact Ent.nil | (apply ent_pickE; (focus ((repeat (first | (with_reducible exact pk_here) | (apply pk_there))); done))) | (apply hm_in) | apply Ent.drop)); all_goals (first | rfl | (with_reducible assumption) | (simp; done) | (simp; omega) | omega | (constructor <;> (simp) <;> omega)))
          · have hg : hmGoes s n l = false := by rw [hgd]; exact decide_eq_false hl
            have e1 : hmWorkM s n l = .zero := by simp [hmWorkM, hr, hg]
            have e2 : hmWorkB s n l = false := by simp [hmWorkB, hr, hg]
            have e3 : hmDid s n l = false := by simp [hmDid, hr, hg]
            have e4 : hmWorkS c s n l = s := by simp [hmWorkS, hr, hg]
            rw [e1, e2, e3, e4]
            simp only [hb] at hX
            obtain ⟨es, ms, q, odd⟩ := s
            refine hm_open fun bm be bq ps he => ?_
            dsimp only at *
            repeat (first | rintro _ _ ⟨rfl, rfl⟩ | refine exq fun _ => ?_ | intro _ | refine go ?_ | refine drq ?_ | refine cal @hG ?_ | refine cal @hR ?_ | refine cal @hX ?_ | refine cal @hN ?_)
            (apply WE_ret rfl rfl (by (repeat (first | exact ResOk.nil | (apply ResOk.tmp; rfl) | (apply resOk_cell; rfl; exact inferInstance; rfl; rfl)))))
            · exact ⟨rfl, rfl⟩
            · ((repeat (first | (with_reducible exact Ent.refl) | exact Ent.nil | (apply ent_pickE; (focus ((repeat (first | (with_reducible exact pk_here) | (apply pk_there))); done))) | (apply hm_in) | apply Ent.drop)); all_goals (first | rfl | (with_reducible assumption) | (simp; done) | (simp; omega) | omega | (constructor <;> (simp) <;> omega)))
        · simp only [hn] at hN
          have hgd : hmGoes s n l = decide (0 < l.2.2) := by simp [hmGoes, hb, hn, l3at]
          by_cases hl : 0 < l.2.2
          · have hg : hmGoes s n l = true := by rw [hgd]; exact decide_eq_true hl
            have e1 : hmWorkM s n l = qnextM s.q n := by simp [hmWorkM, hr, hg]
            have e2 : hmWorkB s n l = true := by simp [hmWorkB, hr, hg]
            have e3 : hmDid s n l = true := by simp [hmDid, hr, hg]
            have e4 : hmWorkS c s n l = { s with q := qsentL s.q n } := by simp [hmWorkS, hr, hg]
            rw [e1, e2, e3, e4]
            simp only [hb] at hX
            obtain ⟨es, ms, q, odd⟩ := s
            refine hm_open fun bm be bq ps he => ?_
            dsimp only at *
            repeat (first | rintro _ _ ⟨rfl, rfl⟩ | refine exq fun _ => ?_ | intro _ | refine go ?_ | refine drq ?_ | refine cal @hG ?_ | refine cal @hR ?_ | refine cal @hX ?_ | refine cal @hN ?_ | refine cal @hSe ?_)
            (apply WE_ret rfl rfl (by (repeat (first | exact ResOk.nil | (apply ResOk.tmp; rfl) | (apply resOk_cell; rfl; exact inferInstance; rfl; rfl)))))
            · exact ⟨rfl, rfl⟩
            · ((repeat (first | (with_reducible exact Ent.refl) | exact Ent.nil | (apply ent_pickE; (focus ((repeat (first | (with_reducible exact pk_here) | (apply pk_there))); done))) | (apply hm_in) | apply Ent.drop)); all_goals (first | rfl | (with_reducible assumption) | (simp; done) | (simp; omega) | omega | (constructor <;> (simp) <;> omega)))
          · have hg : hmGoes s n l = false := by rw [hgd]; exact decide_eq_false hl
            have e1 : hmWorkM s n l = .zero := by simp [hmWorkM, hr, hg]
            have e2 : hmWorkB s n l = false := by simp [hmWorkB, hr, hg]
            have e3 : hmDid s n l = false := by simp [hmDid, hr, hg]
            have e4 : hmWorkS c s n l = s := by simp [hmWorkS, hr, hg]
            rw [e1, e2, e3, e4]
            simp only [hb] at hX
            obtain ⟨es, ms, q, odd⟩ := s
            refine hm_open fun bm be bq ps he => ?_
            dsimp only at *
            repeat (first | rintro _ _ ⟨rfl, rfl⟩ | refine exq fun _ => ?_ | intro _ | refine go ?_ | refine drq ?_ | refine cal @hG ?_ | refine cal @hR ?_ | refine cal @hX ?_ | refine cal @hN ?_)
            (apply WE_ret rfl rfl (by (repeat (first | exact ResOk.nil | (apply ResOk.tmp; rfl) | (apply resOk_cell; rfl; exact inferInstance; rfl; rfl)))))
            · exact ⟨rfl, rfl⟩
            · ((repeat (first | (with_reducible exact Ent.refl) | exact Ent.nil | (apply ent_pickE; (focus ((repeat (first | (with_reducible exact pk_here) | (apply pk_there))); done))) | (apply hm_in) | apply Ent.drop)); all_goals (first | rfl | (with_reducible assumption) | (simp; done) | (simp; omega) | omega | (constructor <;> (simp) <;> omega)))
end Go.Sx

/- What homes do: a new one. The program's. My own work. -/
namespace Go.Sx
open Go Go.Proofs
set_option linter.unusedVariables false
set_option linter.unusedSectionVars false
set_option linter.unusedSimpArgs false
def hmE0 (c : Cfg) : TEnt := ⟨-1, ⟨c.cores, c.pointers, [], false⟩⟩
def hmN0 (c : Cfg) (l : List Int) : List (Int × HRd) := l.foldl (fun m k => mset m k (hmE0 c, none, 0)) []
def hmEs (c : Cfg) (l : List Int) : List (Int × TEnt) := l.foldl (fun m k => mset m k (hmE0 c)) []
theorem hmN0_es (c : Cfg) (l : List Int) : hes (hmN0 c l) = hmEs c l := by
  have : ∀ (l : List Int) (m : List (Int × HRd)), hes (l.foldl (fun m k => mset m k (hmE0 c, none, 0)) m) = l.foldl (fun m k => mset m k (hmE0 c)) (hes m) := by
    intro l
    induction l with
    | nil => intro m; rfl
    | cons a r ih => intro m; rw [List.foldl_cons, List.foldl_cons, ih, hes_mset]
  exact this l []
theorem hmEs_get (c : Cfg) (l : List Int) (k : Int) : mget (hmEs c l) k = if k ∈ l then some (hmE0 c) else none := by
  have : ∀ (l : List Int) (m : List (Int × TEnt)), mget (l.foldl (fun m k => mset m k (hmE0 c)) m) k = if k ∈ l then some (hmE0 c) else mget m k := by
    intro l
    induction l with
    | nil => intro m; simp
    | cons a r ih =>
      intro m
      rw [List.foldl_cons, ih, mget_mset]
      by_cases h1 : k ∈ r
      · simp [h1]
      · by_cases h2 : k = a <;> simp [h1, h2]
  exact this l []
def hmNew (c : Cfg) (num : Int) : HomS := ⟨hmEs c (linesL c num), List.replicate (c.words * c.lines).toNat 0, [], 0⟩
theorem may_e0 {c : Cfg} (h : checkB c = true) : shMay ⟨c.cores, c.pointers, [], false⟩ = true := by
  simp only [checkB, fitsB, Bool.and_eq_true, decide_eq_true_eq] at h
  refine may_mk' (by dsimp only; omega) (by dsimp only; omega) (by dsimp only; omega) (by dsimp only; omega) (by simp; omega) (fun h => by cases h) List.Pairwise.nil (fun c hc => by cases hc)
def newOk (c : Cfg) (num : Int) : Bool := checkB c && decide (0 ≤ num ∧ num < c.homes)
theorem hrs_put0 {L M : List HP} {ps : List (Int × HRd)} {k : Int} {c : Cfg} (h : Ent L (All (hrs ps) :: M)) : Ent L (All (hrs (mset ps k (hmE0 c, none, 0))) :: M) :=
  Ent.trans h (Ent.trans rds_nil (hrs_mset ps k (hmE0 c, none, 0)))
set_option maxRecDepth 100000
set_option maxHeartbeats 4000000
attribute [local irreducible] Go.Exit.then Go.Exit.inBlock Go.Code.wp WC WO WE WQ V LoopQ FnQ Sat Star band bor IntKind.wrap WR Code.rounds WT KO
theorem dr_Hom5_16 {Q P : Prop} (k : Q) (h : Hid Q → P := by
  intro k
  first
  | (refine is_draw ?_; apply WC_mix (id := 9) .false _ (pl := .p 0 <| .p 1 <| .p 2 <| .p 4 <| .p 5 <| .p 7 <| .r 3 <| .r 6 <| .r 8 <| .e true [(9, .p 10 <| .p 11 <| .p 12 <| .e true [(13, .done)])]); exact mixed; kernel_rfl; kernel_rfl; exact Ent.refl; exact k.out)) : P := h ⟨k⟩
theorem hm_New_no {F : List HP} {c : Cfg} {num : Int} (hc : c.wf) (h : newOk c num = false) : FnF Try.prog 16 [c.val, .int .i64 num] [] F (fun r L' => r = .tuple [.pointer none, .int .i64 1].toArray ∧ L' = []) := by
  refine FnF.mk' Try.func16 rfl rfl Try.ntmps16 rfl ?_
  cases hb : checkB c with
  | false =>
    have hM := fun F => mem_New_no (F := F) hc hb
    repeat (first | rintro _ _ ⟨rfl, rfl⟩ | refine exq fun _ => ?_ | intro _ | refine go ?_ | refine dr_Hom5_16 ?_ | refine drq ?_ | refine cal @hM ?_)
    exact fin0
  | true =>
    have hM := fun F => mem_New (F := F) hc hb
    by_cases h0 : num < 0
    · repeat (first | rintro _ _ ⟨rfl, rfl⟩ | refine exq fun _ => ?_ | intro _ | refine go ?_ | refine dr_Hom5_16 ?_ | refine drq ?_ | refine cal @hM ?_)
      exact fin0
    · have h1 : num ≥ c.homes := by
        simp only [newOk, hb, Bool.true_and, decide_eq_false_iff_not] at h
        omega
      repeat (first | rintro _ _ ⟨rfl, rfl⟩ | refine exq fun _ => ?_ | intro _ | refine go ?_ | refine dr_Hom5_16 ?_ | refine drq ?_ | refine cal @hM ?_)
      exact fin0
theorem hm_New {F : List HP} {c : Cfg} {num : Int} (hc : c.wf) (h : newOk c num = true) : FnF Try.prog 16 [c.val, .int .i64 num] [] F (fun r L' => ∃ b, r = .tuple [.pointer (some ⟨b, 0, none⟩), .int .i64 0].toArray ∧ L' = [HomP b c num (hmNew c num)]) := by
  simp only [newOk, Bool.and_eq_true, decide_eq_true_eq] at h
  obtain ⟨hb, h0, h1⟩ := h
  have hM := fun F => mem_New (F := F) hc hb
  have hQ := fun F => qu_New (F := F) (cfg_room' hb)
  have hI : I64 num := by have := (cfg_bnd hb).2.1; unfold I64; omega
  have hLi := fun F => split_Lines (F := F) hc hI
  have hT := fun F => tab_New (F := F) (cores := c.cores) (most := c.pointers)
  simp only [may_e0 hb, if_true] at hT
  have hll : (linesL c num).length ≤ 1099511627776 := by
    have := (cfg_bnd hb).2.2.2
    unfold linesL
    split
    · rw [rowN_len]
      unfold cntN
      refine Nat.le_trans (Nat.div_le_self _ _) ?_
      have := (cfg_bnd hb).2.1
      omega
    · simp
  unfold hmNew
  generalize linesL c num = ll at hLi hll ⊢
  refine FnF.mk' Try.func16 rfl rfl Try.ntmps16 rfl ?_
  repeat (first | rintro _ _ ⟨rfl, rfl⟩ | refine exq fun _ => ?_ | intro _ | refine go ?_ | refine dr_Hom5_16 ?_ | refine drq ?_ | refine cal @hM ?_ | refine cal @hQ ?_ | refine cal @hLi ?_)
  rename_i bc be bq bm b p cap
  apply WC_loopE (E0 := [(2, _), (10, _), (45, _), (46, _)]) (fun E0 (i : Nat) => (47, .int .i64 i) :: E0) (fun i => Own 3 1 (.slice p ll.length cap) ll.length (flat ic ll) :: Cells b 108 (hmc c num bm be bq 0) :: MapAt bm hrc (hmN0 c (ll.take i)) :: All (hrs (hmN0 c (ll.take i))) :: QuP bq c.buffer [] :: MemB be c (List.replicate (c.words * c.lines).toNat 0) :: Cells bc 24 c.cells :: F) (fun i => i ≤ ll.length) (fun i => ll.length - i) 0
  · (repeat (first | exact Sub.nil | (refine Sub.cons (by first | rfl | (simp only [Nat.zero_add]; rfl)) ?_)))
  · exact Nat.zero_le _
  · simp only [List.take_zero, show hmN0 c [] = [] from rfl]
    refine Ent.trans ?_ (Ent.cons (Ent.cons (Ent.cons all_nil)))
    exact entu0
  · intro i hi
    by_cases hlt : i < ll.length
    · have et : hmN0 c (ll.take (i + 1)) = mset (hmN0 c (ll.take i)) ll[i] (hmE0 c, none, 0) := by
        rw [List.take_add_one, List.getElem?_eq_getElem hlt]
        show hmN0 c (_ ++ [_]) = _
        unfold hmN0
        rw [List.foldl_append]
        rfl
      repeat (first | rintro _ _ ⟨rfl, rfl⟩ | refine exq fun _ => ?_ | intro _ | refine go ?_ | refine dr_Hom5_16 ?_ | refine drq ?_ | refine cal @hT ?_)
      (apply WT_k; rfl; (first | exact GIn.none | (apply gin_t; rfl; rfl; (first | (with_reducible rfl) | exact congrArg Value.bool (by with_reducible assumption) | exact congrArg Value.bool (dec_t (by first | (with_reducible assumption) | (with_reducible rfl) | (with_reducible exact nn_eq) | (with_reducible exact nn_ne) | omega | decide | exact rfl)))) | (apply gin_f; rfl; rfl; (first | (with_reducible rfl) | exact congrArg Value.bool (by with_reducible assumption) | exact congrArg Value.bool (dec_f (by first | (with_reducible assumption) | (with_reducible rfl) | (with_reducible exact nn_eq) | (with_reducible exact nn_ne) | omega | decide | exact rfl))))); exact K_mapUpdateT (xv := (hmE0 c, none, 0)) rfl rfl rfl inferInstance rfl; refine same_intro ?_)
      repeat (first | rintro _ _ ⟨rfl, rfl⟩ | refine exq fun _ => ?_ | intro _ | refine go ?_ | refine dr_Hom5_16 ?_ | refine drq ?_)
      refine WE_loop (i + 1) (by omega) (by omega) ?_ ?_
      · (repeat (first | exact Sub.nil | (refine Sub.cons (by first | rfl | (simp only [Nat.zero_add]; rfl)) ?_)))
      · rw [et]; ((repeat (first | (with_reducible exact Ent.refl) | exact Ent.nil | (apply ent_pickE; (focus ((repeat (first | (with_reducible exact pk_here) | (apply pk_there))); done))) | (apply hrs_put0) | apply Ent.drop)); all_goals (first | rfl | (with_reducible assumption) | (simp; done) | (simp; omega) | omega | (constructor <;> (simp) <;> omega)))
    · have hil : i = ll.length := by omega
      subst hil
      rw [List.take_length]
      repeat (first | rintro _ _ ⟨rfl, rfl⟩ | refine exq fun _ => ?_ | intro _ | refine go ?_ | refine dr_Hom5_16 ?_ | refine drq ?_)
      (apply WE_ret rfl rfl (by (repeat (first | exact ResOk.nil | (apply ResOk.tmp; rfl) | (apply resOk_cell; rfl; exact inferInstance; rfl; rfl)))))
      · exact ⟨_, rfl, rfl⟩
      · ((repeat (first | (with_reducible exact Ent.refl) | exact Ent.nil | (apply ent_pickE; (focus ((repeat (first | (with_reducible exact pk_here) | (apply pk_there))); done))) | (apply hm_in) | apply Ent.drop)); all_goals (first | rfl | (with_reducible assumption) | (simp [hmN0_es]; done) | (simp [hmN0_es]; omega) | omega | (constructor <;> (simp [hmN0_es]) <;> omega)))
end Go.Sx

/- What homes do, told of lists: what is so stays so. My own work. -/
namespace Go.Sx
open Go Go.Proofs
set_option linter.unusedVariables false
set_option linter.unusedSimpArgs false
theorem next_sizes {e : TEnt} {m : Msg} (h : nextE e m = 0) : (nextT e m).s.cores = e.s.cores ∧ (nextT e m).s.most = e.s.most := by
  obtain ⟨hok, hk⟩ := nextE_ok h
  obtain ⟨h1, h2, h3, h4, h5⟩ := okT_facts hok
  obtain ⟨a1, a2, a3⟩ := may_add' h1 h4 h5
  unfold nextT
  rw [if_pos h]
  rcases hk with ⟨k, ho⟩ | k | k
  · rw [if_pos k]
    unfold readT
    rw [if_neg ho]
    split
    · exact ⟨a2, a3⟩
    · split
      · exact ⟨rfl, rfl⟩
      · exact ⟨a2, a3⟩
  · rw [if_neg (by omega), if_pos k]
    exact ⟨rfl, rfl⟩
  · rw [if_neg (by omega), if_neg (by omega)]
    unfold putT
    split <;> exact ⟨rfl, rfl⟩
theorem next_kinds {e : TEnt} {m : Msg} {w : Words} (h : nextE e m = 0) : ∀ y ∈ nextS e m w, (4 ≤ y.kind ∧ y.kind ≤ 10) ∧ y.line = m.line ∧ y.src = m.dst := by
  obtain ⟨hok, hk⟩ := nextE_ok h
  intro y hy
  unfold nextS at hy
  rw [if_pos h] at hy
  rcases hk with ⟨k, ho⟩ | k | k
  · rw [if_pos k] at hy
    unfold readS at hy
    rw [if_neg ho] at hy
    split at hy
    · rw [List.mem_singleton] at hy; subst hy; exact ⟨⟨by simp [msgT], by simp [msgT]⟩, rfl, rfl⟩
    · split at hy <;> (rw [List.mem_singleton] at hy; subst hy; exact ⟨⟨by simp [msgT], by simp [msgT]⟩, rfl, rfl⟩)
  · rw [if_neg (by omega), if_pos k] at hy
    rcases List.mem_cons.1 hy with rfl | hy
    · unfold firstT
      split
      · exact ⟨⟨by simp [msgT], by simp [msgT]⟩, rfl, rfl⟩
      · split <;> exact ⟨⟨by simp [msgT], by simp [msgT]⟩, rfl, rfl⟩
    · obtain ⟨o, _, rfl⟩ := List.mem_map.1 hy
      exact ⟨⟨by simp [invT, msgT], by simp [invT, msgT]⟩, rfl, rfl⟩
  · rw [if_neg (by omega), if_neg (by omega)] at hy
    rw [List.mem_singleton] at hy; subst hy; exact ⟨⟨by simp [msgT], by simp [msgT]⟩, rfl, rfl⟩
theorem lines_mem {c : Cfg} {num : Int} (h : newOk c num = true) (k : Int) : k ∈ linesL c num ↔ ownL c num k := by
  simp only [newOk, Bool.and_eq_true, decide_eq_true_eq] at h
  obtain ⟨hb, h0, h1⟩ := h
  have hB := cfg_bnd hb
  obtain ⟨H, eH⟩ : ∃ H : Nat, c.homes = H := ⟨c.homes.toNat, by omega⟩
  obtain ⟨n, en⟩ : ∃ n : Nat, c.lines = n := ⟨c.lines.toNat, by omega⟩
  obtain ⟨g, rfl⟩ : ∃ n : Nat, num = n := ⟨num.toNat, by omega⟩
  have r1 : linesL c g = rowN g H (cntN n g H) := by simp [linesL, hb, eH, en]; omega
  have hg : g < H := by omega
  rw [r1]
  unfold ownL rowN
  rw [eH, en]
  simp only [List.mem_map, List.mem_range]
  constructor
  · rintro ⟨i, hi, rfl⟩
    have := (cnt_lt (n := n) (k := i) hg).1 hi
    refine ⟨by omega, by omega, ?_⟩
    have h3 : (g + i * H) % H = g := by rw [Nat.add_mul_mod_self_right]; exact Nat.mod_eq_of_lt hg
    exact_mod_cast h3
  · rintro ⟨k0, k1, k2⟩
    obtain ⟨k, rfl⟩ : ∃ n : Nat, k = n := ⟨k.toNat, by omega⟩
    have h3 : k % H = g := by exact_mod_cast k2
    have h4 := Nat.div_add_mod k H
    have h5 : g + k / H * H = k := by rw [Nat.mul_comm]; omega
    refine ⟨k / H, (cnt_lt (n := n) (k := k / H) hg).2 (by omega), by rw [h5]⟩
theorem hmI_new {c : Cfg} {num : Int} (h : newOk c num = true) : HmI c num (hmNew c num) := by
  have h0 := h
  simp only [newOk, Bool.and_eq_true, decide_eq_true_eq] at h0
  refine ⟨h0.1, h0.2, fun k => ?_, fun k e he => ?_, fun x hx => absurd hx (List.not_mem_nil), fun x hx => absurd hx (List.not_mem_nil), ?_⟩
  · show (mget (hmEs c (linesL c num)) k).isSome = _
    rw [hmEs_get]
    by_cases hk : ownL c num k
    · rw [if_pos ((lines_mem h k).2 hk), decide_eq_true hk]; rfl
    · rw [if_neg (fun hh => hk ((lines_mem h k).1 hh)), decide_eq_false hk]; rfl
  · have he' : mget (hmEs c (linesL c num)) k = some e := he
    rw [hmEs_get] at he'
    split at he'
    · cases he'
      have hb := cfg_bnd h0.1
      exact ⟨mayT_mk (may_e0 h0.1) (by simp [hmE0]) (by simp only [hmE0]; omega), rfl, rfl⟩
    · cases he'
  · have := cfg_room' h0.1
    show ((0 : Nat) : Int) ≤ _
    omega
theorem hmI_q {c : Cfg} {num : Int} {s : HomS} (h : HmI c num s) {q : List QE} (hr : ∀ x ∈ q, mineB c num x.m 0 = true) (hs : ∀ x ∈ q, ∀ y ∈ x.sends, (4 ≤ y.kind ∧ y.kind ≤ 10) ∧ y.line = x.m.line ∧ y.src = num) (hl : (q.length : Int) ≤ c.buffer) (o : Int) : HmI c num ⟨s.es, s.ms, q, o⟩ :=
  ⟨h.ok, h.nm, h.own, h.may, hr, hs, hl⟩
theorem hmI_acc {c : Cfg} {num : Int} {s : HomS} (h : HmI c num s) (m : Msg) : HmI c num (hmAccS c num s m) := by
  unfold hmAccS
  split
  · rename_i hm
    refine hmI_q h ?_ ?_ ?_ s.odd
    all_goals unfold qaddL
    · intro x hx
      split at hx
      · rcases List.mem_append.1 hx with hx | hx
        · exact h.req x hx
        · rw [List.mem_singleton] at hx; subst hx; exact hm
      · exact h.req x hx
    · intro x hx
      split at hx
      · rcases List.mem_append.1 hx with hx | hx
        · exact h.snd x hx
        · rw [List.mem_singleton] at hx; subst hx; intro y hy; cases hy
      · exact h.snd x hx
    · have hl := h.len
      split
      · rename_i he
        have : ¬ (s.q.length : Int) = c.buffer := fun hh => by
          unfold qaddE at he
          split at he
          · cases he
          · simp [hh] at he
        rw [List.length_append, List.length_singleton]
        omega
      · exact hl
  · exact h
theorem hmI_erase {c : Cfg} {num : Int} {s : HomS} (h : HmI c num s) (n : Nat) (o : Int) : HmI c num ⟨s.es, s.ms, s.q.eraseIdx n, o⟩ := by
  refine hmI_q h (fun x hx => h.req x (List.mem_of_mem_eraseIdx hx)) (fun x hx => h.snd x (List.mem_of_mem_eraseIdx hx)) ?_ o
  have := h.len
  have := List.length_eraseIdx_le s.q n
  omega
theorem hmI_done {c : Cfg} {num : Int} {s : HomS} (h : HmI c num s) (m : Msg) : HmI c num (hmDoneS c num s m) := by
  unfold hmDoneS qfinL
  split
  · split
    · exact h
    · exact hmI_erase h _ s.odd
  · exact h
theorem mem_set' {α : Type} {l : List α} {n : Nat} {a x : α} (h : x ∈ l.set n a) : x ∈ l ∨ x = a := List.mem_or_eq_of_mem_set h
theorem hmI_sent {c : Cfg} {num : Int} {s : HomS} (h : HmI c num s) (n : Int) : HmI c num { s with q := qsentL s.q n } := by
  unfold qsentL
  split
  · rename_i he
    split
    · exact hmI_erase h _ s.odd
    · have hin : qin s.q n = true := by
        cases hc : qin s.q n with
        | true => rfl
        | false => simp [qsentE, hc] at he
      have hm := qat_mem hin
      refine hmI_q h ?_ ?_ (by rw [List.length_set]; exact h.len) s.odd
      · intro x hx
        rcases mem_set' hx with hx | rfl
        · exact h.req x hx
        · exact h.req (qat s.q n) hm
      · intro x hx
        rcases mem_set' hx with hx | rfl
        · exact h.snd x hx
        · intro y hy
          exact h.snd (qat s.q n) hm y (List.mem_of_mem_drop hy)
  · exact h
theorem hmI_turn {c : Cfg} {num : Int} {s : HomS} (h : HmI c num s) {n : Int} (hr : qready s.q n = true) (h0 : nextE (hmEnt s (hmX s n).line) (hmX s n) = 0) : HmI c num (hmTurnS c s n) := by
  have hm := qat_mem (qready_in hr)
  have hmine : mineB c num (hmX s n) 0 = true := h.req _ hm
  obtain ⟨f1, f2, f3, f4, f5⟩ := mine_facts h.ok hmine
  obtain ⟨g1, g2, g3, g4⟩ := hmEnt_own h f3
  have hz := next_sizes h0
  refine ⟨h.ok, h.nm, fun k => ?_, fun k e he => ?_, ?_, ?_, ?_⟩
  · show (mget (mset s.es _ _) k).isSome = _
    rw [mget_mset]
    split
    · rename_i hk; subst hk; rw [decide_eq_true f3]; rfl
    · exact h.own k
  · have he' : mget (mset s.es (hmX s n).line (nextT (hmEnt s (hmX s n).line) (hmX s n))) k = some e := he
    rw [mget_mset] at he'
    split at he'
    · cases he'
      exact ⟨next_may h0, by rw [hz.1, g3], by rw [hz.2, g4]⟩
    · exact h.may k e he'
  · intro x hx
    have hx' : x ∈ qstartL s.q n (nextS (hmEnt s (hmX s n).line) (hmX s n) (lineWo c s.ms (hmX s n).line)) := hx
    unfold qstartL at hx'
    split at hx'
    · rcases mem_set' hx' with hx | rfl
      · exact h.req x hx
      · exact hmine
    · exact h.req x hx'
  · intro x hx
    have hx' : x ∈ qstartL s.q n (nextS (hmEnt s (hmX s n).line) (hmX s n) (lineWo c s.ms (hmX s n).line)) := hx
    unfold qstartL at hx'
    split at hx'
    · rcases mem_set' hx' with hx | rfl
      · exact h.snd x hx
      · intro y hy
        have := next_kinds h0 y hy
        rw [f5] at this
        exact this
    · exact h.snd x hx'
  · show ((qstartL s.q n _).length : Int) ≤ _
    unfold qstartL
    split
    · rw [List.length_set]; exact h.len
    · exact h.len
theorem hmI_work {c : Cfg} {num : Int} {s : HomS} (h : HmI c num s) (n : Int) (l : L3) : HmI c num (hmWorkS c s n l) := by
  unfold hmWorkS
  split
  · rename_i hr
    unfold hmStartS
    split
    · rename_i h0; exact hmI_turn h hr h0
    · exact hmI_erase h _ _
  · split
    · exact hmI_sent h n
    · exact h
theorem hm_odd {c : Cfg} {s : HomS} (n : Int) (l : L3) : s.odd ≤ (hmWorkS c s n l).odd ∧ (hmWorkS c s n l).odd ≤ s.odd + 1 := by
  unfold hmWorkS hmStartS hmTurnS hmOddS
  split
  · split
    · exact ⟨Int.le_refl _, by show s.odd ≤ _; omega⟩
    · exact ⟨by show s.odd ≤ s.odd + 1; omega, Int.le_refl _⟩
  · split
    · exact ⟨Int.le_refl _, by show s.odd ≤ _; omega⟩
    · exact ⟨Int.le_refl _, by omega⟩
end Go.Sx

/- A machine, told of lists: its state, and what each pick does. My own work. -/
namespace Go.Sx
open Go Go.Proofs
set_option linter.unusedVariables false
set_option linter.unusedSimpArgs false
/-- A core: its program, what was told, what was tried. -/
structure CoS where
  l : List Op3
  rs : List Int
  tr : List (Int × Bool)
/-- A commit. -/
structure Com where
  core : Int
  pos : Int
  op : Op3
  res : Int
/-- A machine: cores, caches, homes, a net, the trace, what was odd. -/
structure MaS where
  ks : List CoS
  cs : List CaS
  hs : List HomS
  n : Nets
  tr : List Com
  odd : Int
abbrev coZ : CoS := ⟨[], [], []⟩
abbrev caZ : CaS := ⟨[], [], []⟩
abbrev hmZ : HomS := ⟨[], [], [], 0⟩
def maK (s : MaS) (i : Int) : CoS := s.ks.getD i.toNat coZ
def maA (s : MaS) (i : Int) : CaS := s.cs.getD i.toNat caZ
def maH (s : MaS) (i : Int) : HomS := s.hs.getD i.toNat hmZ
def maKs (s : MaS) (i : Int) (k : CoS) : MaS := ⟨s.ks.set i.toNat k, s.cs, s.hs, s.n, s.tr, s.odd⟩
def maAs (s : MaS) (i : Int) (k : CaS) : MaS := ⟨s.ks, s.cs.set i.toNat k, s.hs, s.n, s.tr, s.odd⟩
def maHs (s : MaS) (i : Int) (k : HomS) : MaS := ⟨s.ks, s.cs, s.hs.set i.toNat k, s.n, s.tr, s.odd⟩
def maNs (s : MaS) (n : Nets) : MaS := ⟨s.ks, s.cs, s.hs, n, s.tr, s.odd⟩
def maOdd (s : MaS) (b : Bool) : MaS := ⟨s.ks, s.cs, s.hs, s.n, s.tr, if b then s.odd + 1 else s.odd⟩
def coHas (k : CoS) : Bool := headB k.l k.rs
def coOp (k : CoS) : Op3 := headO k.l k.rs
def coCom (k : CoS) (n : Int) : CoS := ⟨k.l, k.rs ++ [n], mdel k.tr k.rs.length⟩
def coTry (k : CoS) (d : Int) : CoS := ⟨k.l, k.rs, mset k.tr ((k.rs.length : Int) + d) true⟩
def coLeft (k : CoS) : Int := (k.l.length : Int) - k.rs.length
def maCom (s : MaS) (i : Int) (x : Op3) (n : Int) : MaS := ⟨s.ks.set i.toNat (coCom (maK s i) n), s.cs, s.hs, s.n, s.tr ++ [⟨i, (maK s i).rs.length, x, n⟩], s.odd⟩
def maSend (c : Cfg) (s : MaS) (m : Msg) : MaS := maNs s (nsendN c s.n m)
def maSent (c : Cfg) (s : MaS) (m : Msg) : Bool := decide (nsendE c s.n m = 0)
def maLine (c : Cfg) (x : Op3) : Int := addrL c x.addr
def maDoesB (c : Cfg) (s : MaS) (i : Int) (x : Op3) : Bool := decide (caDoE c (maA s i) x = 0)
def maDoes (c : Cfg) (s : MaS) (i : Int) (x : Op3) : MaS := if maDoesB c s i x then maCom (maAs s i (caDoK c (maA s i) x)) i x (caDoV c (maA s i) x) else s
/-- What a core can do: it finishes; it commits; it asks; it evicts. -/
def maFin (c : Cfg) (s : MaS) (i : Int) : MaS := maSend c (maAs s i (caFinK c (maA s i))) (caFinM c i (maA s i))
def maAsk (c : Cfg) (s : MaS) (i : Int) (x : Op3) : MaS := maSend c (maAs s i (caAskK c (maA s i) (maLine c x) (kindOf x))) (caAskM c i (maA s i) (maLine c x) (kindOf x))
def maAskE (c : Cfg) (s : MaS) (i : Int) (x : Op3) : Int := caAskE c (maA s i) (maLine c x) (kindOf x)
def maEvS (c : Cfg) (x : Op3) : Int := lineS c (maLine c x)
def maEv (c : Cfg) (s : MaS) (i : Int) (x : Op3) (w : Int) : MaS :=
  if caEvB c (maA s i) (maEvS c x) w then maSend c (maAs s i (caEvK c (maA s i) (maEvS c x) w)) (caEvM c i (maA s i) (maEvS c x) w) else maAs s i (caEvK c (maA s i) (maEvS c x) w)
def maActB (c : Cfg) (s : MaS) (i w : Int) : Bool :=
  if 0 < nleft c s.n 2 ∧ caFinB (maA s i) = true then maSent c s (caFinM c i (maA s i))
  else if coHas (maK s i) = false then false
  else if (coOp (maK s i)).kind = 4 then decide ((maA s i).mis.length = 0)
  else if maDoesB c s i (coOp (maK s i)) then true
  else if nleft c s.n 0 = 0 then false
  else if maAskE c s i (coOp (maK s i)) = 0 then maSent c s (caAskM c i (maA s i) (maLine c (coOp (maK s i))) (kindOf (coOp (maK s i))))
  else if maAskE c s i (coOp (maK s i)) = 5 then decide (caEvE c (maA s i) (maEvS c (coOp (maK s i))) (w.tmod c.ways) = 0) && (!caEvB c (maA s i) (maEvS c (coOp (maK s i))) (w.tmod c.ways) || maSent c s (caEvM c i (maA s i) (maEvS c (coOp (maK s i))) (w.tmod c.ways)))
  else false
def maActS (c : Cfg) (s : MaS) (i w : Int) : MaS :=
  if 0 < nleft c s.n 2 ∧ caFinB (maA s i) = true then maFin c s i
  else if coHas (maK s i) = false then s
  else if (coOp (maK s i)).kind = 4 then (if (maA s i).mis.length = 0 then maCom s i (coOp (maK s i)) 0 else s)
  else if maDoesB c s i (coOp (maK s i)) then maDoes c s i (coOp (maK s i))
  else if nleft c s.n 0 = 0 then s
  else if maAskE c s i (coOp (maK s i)) = 0 then maAsk c s i (coOp (maK s i))
  else if maAskE c s i (coOp (maK s i)) = 5 then maEv c s i (coOp (maK s i)) (w.tmod c.ways)
  else s
/-- A cache takes a message: what it sends is sent. -/
def maTake (c : Cfg) (s : MaS) (m : Msg) : MaS :=
  if caTakeB c m.dst (maA s m.dst) m then maSend c (maOdd (maAs s m.dst (caTakeK c m.dst (maA s m.dst) m)) (decide (caTakeE c m.dst (maA s m.dst) m ≠ 0))) (caTakeM c m.dst (maA s m.dst) m)
  else maOdd (maAs s m.dst (caTakeK c m.dst (maA s m.dst) m)) (decide (caTakeE c m.dst (maA s m.dst) m ≠ 0))
/-- Behind a response, the core's head may be done. -/
def maThen (c : Cfg) (s : MaS) (m : Msg) : MaS :=
  if coHas (maK s m.dst) = true ∧ (coOp (maK s m.dst)).kind ≠ 4 ∧ maLine c (coOp (maK s m.dst)) = m.line then maDoes c s m.dst (coOp (maK s m.dst)) else s
def maDone (c : Cfg) (s : MaS) (m : Msg) : MaS := maOdd (maHs s m.dst (hmDoneS c m.dst (maH s m.dst) m)) (decide (hmDoneE c m.dst (maH s m.dst) m ≠ 0))
def maDelB (c : Cfg) (s : MaS) (k i : Int) : Bool :=
  if natB s.n k i = false ∨ (k = 1 ∧ nleft c s.n 2 = 0) then false
  else if k = 0 then decide (hmAccE c (natM s.n 0 i).dst (maH s (natM s.n 0 i).dst) (natM s.n 0 i) = 0)
  else true
def maDelS (c : Cfg) (s : MaS) (k i : Int) : MaS :=
  if natB s.n k i = false ∨ (k = 1 ∧ nleft c s.n 2 = 0) then s
  else if k = 0 then (if hmAccE c (natM s.n 0 i).dst (maH s (natM s.n 0 i).dst) (natM s.n 0 i) = 0 then maNs (maHs s (natM s.n 0 i).dst (hmAccS c (natM s.n 0 i).dst (maH s (natM s.n 0 i).dst) (natM s.n 0 i))) (ntakeN s.n 0 i) else s)
  else if k = 1 then maTake c (maNs s (ntakeN s.n 1 i)) (natM s.n 1 i)
  else if (natM s.n k i).kind = 11 then maDone c (maNs s (ntakeN s.n k i)) (natM s.n k i)
  else maThen c (maTake c (maNs s (ntakeN s.n k i)) (natM s.n k i)) (natM s.n k i)
def maL (c : Cfg) (s : MaS) : L3 := (nleft c s.n 0, nleft c s.n 1, nleft c s.n 2)
def maWorkB (c : Cfg) (s : MaS) (i j : Int) : Bool := hmDid (maH s i) j (maL c s)
def maWorkS (c : Cfg) (s : MaS) (i j : Int) : MaS :=
  if hmWorkB (maH s i) j (maL c s) then maSend c (maHs s i (hmWorkS c (maH s i) j (maL c s))) (hmWorkM (maH s i) j (maL c s)) else maHs s i (hmWorkS c (maH s i) j (maL c s))
def coAhB (k : CoS) (d : Int) : Bool := aheadB k.l k.rs k.tr d
def coAhO (k : CoS) (d : Int) : Op3 := aheadO k.l k.rs k.tr d
def maLookB (c : Cfg) (s : MaS) (i d : Int) : Bool :=
  if coAhB (maK s i) d = false ∨ nleft c s.n 0 = 0 then false
  else if maAskE c s i (coAhO (maK s i) d) = 0 then maSent c s (caAskM c i (maA s i) (maLine c (coAhO (maK s i) d)) (kindOf (coAhO (maK s i) d)))
  else false
def maLookS (c : Cfg) (s : MaS) (i d : Int) : MaS :=
  if coAhB (maK s i) d = false ∨ nleft c s.n 0 = 0 then s
  else if maAskE c s i (coAhO (maK s i) d) = 0 then maAsk c (maKs s i (coTry (maK s i) d)) i (coAhO (maK s i) d)
  else s
/-- A pick: its kind, and two numbers. -/
structure Pk where
  kind : Int
  a : Int
  b : Int
def inN (n : Int) (k : Nat) : Bool := decide (0 ≤ n ∧ n < k)
def maPickB (c : Cfg) (s : MaS) (p : Pk) : Bool :=
  if p.a < 0 ∨ p.b < 0 then false
  else if p.kind = 1 then maDelB c s p.a p.b
  else if p.kind = 2 ∧ inN p.a s.hs.length = true then maWorkB c s p.a p.b
  else if p.kind = 0 ∧ inN p.a s.ks.length = true then maActB c s p.a p.b
  else if p.kind = 3 ∧ inN p.a s.ks.length = true then maLookB c s p.a (1 + p.b.tmod 4)
  else false
def maPick (c : Cfg) (s : MaS) (p : Pk) : MaS :=
  if p.a < 0 ∨ p.b < 0 then s
  else if p.kind = 1 then maDelS c s p.a p.b
  else if p.kind = 2 ∧ inN p.a s.hs.length = true then maWorkS c s p.a p.b
  else if p.kind = 0 ∧ inN p.a s.ks.length = true then maActS c s p.a p.b
  else if p.kind = 3 ∧ inN p.a s.ks.length = true then maLookS c s p.a (1 + p.b.tmod 4)
  else s
/-- Nothing is done. -/
abbrev caNew (c : Cfg) : CaS := ⟨List.replicate (c.sets * c.ways).toNat .zero, [], []⟩
def maNew (c : Cfg) (ps : List (List Op3)) : MaS := ⟨ps.map fun l => ⟨l, [], []⟩, ps.map fun _ => caNew c, (List.range c.homes.toNat).map fun (i : Nat) => hmNew c (i : Int), .no, [], 0⟩
def maOk (c : Cfg) (ps : List (List Op3)) : Bool := checkB c && decide ((ps.length : Int) = c.cores) && ps.all (progB c)
def maOddN (s : MaS) : Int := s.hs.foldl (fun n h => n + h.odd) s.odd
def maQuiet (s : MaS) : Bool := decide (nall s.n = []) && s.ks.all (fun k => decide (coLeft k = 0)) && s.cs.all (fun a => decide (a.mis = [] ∧ a.buf = [])) && s.hs.all fun h => decide (h.q.length = 0)
end Go.Sx
