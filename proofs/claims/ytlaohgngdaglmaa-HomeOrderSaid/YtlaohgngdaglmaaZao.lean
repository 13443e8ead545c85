/- Hom4, Hom5, HomPl2, HomLaw0, HomAw: several of my texts as one. My own work. -/
import Derived.Test.YtlaohgngdaglmaaZan
import Derived.Test.YtlaohgngdaglmaaZae
import Derived.Test.YtlaohgngdaglmaaZaa
/- What homes do: what can be done for one. The program's. My own work. -/
namespace Go.Sx
open Go Go.Proofs
set_option linter.unusedVariables false
set_option linter.unusedSectionVars false
set_option linter.unusedSimpArgs false
theorem hm_quf {b : Nat} {c : Cfg} {num : Int} {s : HomS} {L : List HP} {w : World} (h : Sat (HomP b c num s :: L) w) : (s.q.length : Int) ≤ c.buffer ∧ c.buffer ≤ 16 ∧ ∀ x ∈ s.q, x.sends.length ≤ 1000 := by
  obtain ⟨bm, be, bq, ps, he, hx⟩ := hm_sat h
  obtain ⟨p, c0, qs, ⟨h0, h1, h2, h3, _⟩, _⟩ := qu_sat (sat_tail (sat_tail (sat_tail (sat_tail hx))))
  rw [← h0]
  refine ⟨by simpa using h1, h2, fun x hx => ?_⟩
  obtain ⟨y, hy, rfl⟩ := List.mem_map.1 hx
  exact (h3 y hy).2
theorem WC_hmf {b : Nat} {c : Cfg} {num : Int} {s : HomS} {P : Program} {N : Nat} {co : Code} {env : Env} {L : List HP} {Q : Exit → Act → World → Prop}
    (h : (s.q.length : Int) ≤ c.buffer ∧ c.buffer ≤ 16 ∧ (∀ x ∈ s.q, x.sends.length ≤ 1000) → WC P N co env (HomP b c num s :: L) Q) : WC P N co env (HomP b c num s :: L) Q := fun a w ha hw => h (hm_quf hw) a w ha hw
theorem qready_in {q : List QE} {n : Int} (h : qready q n = true) : qin q n = true := by
  simp only [qready, Bool.and_eq_true] at h; exact h.1.1
theorem qat_mem {q : List QE} {n : Int} (h : qin q n = true) : qat q n ∈ q := by
  obtain ⟨i, hi, _, e⟩ := qin_t h
  rw [e]; exact List.getElem_mem hi
theorem next_kind {c : Cfg} {num : Int} {s : HomS} {n : Int} (h : HmI c num s) (hn : qnextB s.q n = true) : qnextM s.q n ∈ (qat s.q n).sends ∧ (4 ≤ (qnextM s.q n).kind ∧ (qnextM s.q n).kind ≤ 10) ∧ (qnextM s.q n).line = (qat s.q n).m.line ∧ (qnextM s.q n).src = num := by
  have hb := hn
  simp only [qnextB, Bool.and_eq_true, decide_eq_true_eq] at hb
  have hm := qat_mem hb.1
  have e : qnextM s.q n = (qat s.q n).sends.headD .zero := by unfold qnextM; rw [if_pos hn]
  have hmem : qnextM s.q n ∈ (qat s.q n).sends := by
    rw [e]
    cases hs : (qat s.q n).sends with
    | nil => rw [hs] at hb; exact absurd rfl hb.2
    | cons a r => simp
  exact ⟨hmem, h.snd _ hm _ hmem⟩
theorem net_12 {k : Int} (h : 4 ≤ k ∧ k ≤ 10) : netK k = 1 ∨ netK k = 2 := by
  unfold netK
  rw [if_neg (by omega)]
  split
  · exact .inl rfl
  · rw [if_pos (by omega)]; exact .inr rfl
set_option maxRecDepth 100000
set_option maxHeartbeats 4000000
attribute [local irreducible] Go.Exit.then Go.Exit.inBlock Go.Code.wp WC WO WE WQ V LoopQ FnQ Sat Star band bor IntKind.wrap WR Code.rounds WT KO
theorem hm_Work {F : List HP} {b : Nat} {c : Cfg} {num : Int} {s : HomS} {n : Int} {l : L3} (h : HmI c num s) (ho : 0 ≤ s.odd ∧ s.odd ≤ 1000000000000) :
    FnF Try.prog 34 [.pointer (some ⟨b, 0, none⟩), .int .i64 n, .agg (l3c l).toArray] [HomP b c num s] F
      (fun r L' => r = .tuple [mv (hmWorkM s n l), .bool (hmWorkB s n l), .bool (hmDid s n l)].toArray ∧ L' = [HomP b c num (hmWorkS c s n l)]) := by
  refine FnF.mk' Try.func34 rfl rfl Try.ntmps34 rfl ?_
  refine WC_hmf fun hf => ?_
  obtain ⟨_, _, hf⟩ := hf
  cases hr : qready s.q n with
  | true =>
    have hin := qready_in hr
    have hG := fun F bq => qu_Get (F := F) (b := bq) (room := c.buffer) hin (by have := hf _ (qat_mem hin); omega)
    have hR := fun F bq => qu_Ready (F := F) (b := bq) (room := c.buffer) (l := s.q) (n := n)
    simp only [hr] at hR
    have hS := fun F => hm_start (F := F) (b := b) h hr ho
    have e1 : hmWorkM s n l = .zero := by simp [hmWorkM, hr]
    have e2 : hmWorkB s n l = false := by simp [hmWorkB, hr]
    have e3 : hmDid s n l = true := by simp [hmDid, hr]
    have e4 : hmWorkS c s n l = hmStartS c s n := by simp [hmWorkS, hr]
    rw [e1, e2, e3, e4]
    simp only [hmX] at hS
    obtain ⟨es, ms, q, odd⟩ := s
    refine hm_open fun bm be bq ps he => ?_
    dsimp only at *
    subst he
    repeat (first | rintro _ _ ⟨rfl, rfl⟩ | refine exq fun _ => ?_ | intro _ | refine go ?_ | refine drq ?_ | refine cal @hG ?_ | refine cal @hR ?_)
    ((first | apply WO_ent (L' := (HomP b c num ⟨hes ps, ms, q, odd⟩) :: _) | apply WC_ent' (L' := (HomP b c num ⟨hes ps, ms, q, odd⟩) :: _) | apply WE_ent' (L' := (HomP b c num ⟨hes ps, ms, q, odd⟩) :: _) | apply WT_ent' (L' := (HomP b c num ⟨hes ps, ms, q, odd⟩) :: _)); (focus (apply hm_in; (focus (exact entu0)); all_goals (first | rfl | (with_reducible assumption) | (simp; done) | (simp; omega) | omega | (constructor <;> (simp) <;> omega)))))
    repeat (first | rintro _ _ ⟨rfl, rfl⟩ | refine exq fun _ => ?_ | intro _ | refine go ?_ | refine drq ?_ | refine cal @hS ?_)
    exact fin0
  | false =>
    have hR := fun F bq => qu_Ready (F := F) (b := bq) (room := c.buffer) (l := s.q) (n := n)
    simp only [hr] at hR
    have hX := fun F bq => qu_Next (F := F) (b := bq) (room := c.buffer) (l := s.q) (n := n)
    cases hin : qin s.q n with
    | false =>
      have hG := fun F bq => qu_Get_no (F := F) (b := bq) (room := c.buffer) hin
      have hb : qnextB s.q n = false := by simp [qnextB, hin]
      have hg : hmGoes s n l = false := by simp [hmGoes, hb]
      have e1 : hmWorkM s n l = .zero := by simp [hmWorkM, hr, hg]
      have e2 : hmWorkB s n l = false := by simp [hmWorkB, hr, hg]
      have e3 : hmDid s n l = false := by simp [hmDid, hr, hg]
      have e4 : hmWorkS c s n l = s := by simp [hmWorkS, hr, hg]
      rw [e1, e2, e3, e4]
      simp only [hb] at hX
      obtain ⟨es, ms, q, odd⟩ := s
      refine hm_open fun bm be bq ps he => ?_
      dsimp only at *
      repeat (first | rintro _ _ ⟨rfl, rfl⟩ | refine exq fun _ => ?_ | intro _ | refine go ?_ | refine drq ?_ | refine cal @hG ?_ | refine cal @hR ?_ | refine cal @hX ?_)
      (apply WE_ret rfl rfl (by (repeat (first | exact ResOk.nil | (apply ResOk.tmp; rfl) | (apply resOk_cell; rfl; exact inferInstance; rfl; rfl)))))
      · exact ⟨rfl, rfl⟩
      · ((repeat (first | (with_reducible exact Ent.refl) | exact Ent.nil | (apply ent_pickE; (focus ((repeat (first | (with_reducible exact pk_here) | (apply pk_there))); done))) | (apply hm_in) | apply Ent.drop)); all_goals (first | rfl | (with_reducible assumption) | (simp; done) | (simp; omega) | omega | (constructor <;> (simp) <;> omega)))
    | true =>
      have hG := fun F bq => qu_Get (F := F) (b := bq) (room := c.buffer) hin (by have := hf _ (qat_mem hin); omega)
      cases hb : qnextB s.q n with
      | false =>
        have hg : hmGoes s n l = false := by simp [hmGoes, hb]
        have e1 : hmWorkM s n l = .zero := by simp [hmWorkM, hr, hg]
        have e2 : hmWorkB s n l = false := by simp [hmWorkB, hr, hg]
        have e3 : hmDid s n l = false := by simp [hmDid, hr, hg]
        have e4 : hmWorkS c s n l = s := by simp [hmWorkS, hr, hg]
        rw [e1, e2, e3, e4]
        simp only [hb] at hX
        obtain ⟨es, ms, q, odd⟩ := s
        refine hm_open fun bm be bq ps he => ?_
        dsimp only at *
        repeat (first | rintro _ _ ⟨rfl, rfl⟩ | refine exq fun _ => ?_ | intro _ | refine go ?_ | refine drq ?_ | refine cal @hG ?_ | refine cal @hR ?_ | refine cal @hX ?_)
        (apply WE_ret rfl rfl (by (repeat (first | exact ResOk.nil | (apply ResOk.tmp; rfl) | (apply resOk_cell; rfl; exact inferInstance; rfl; rfl)))))
        · exact ⟨rfl, rfl⟩
        · ((repeat (first | (with_reducible exact Ent.refl) | exact Ent.nil | (apply ent_pickE; (focus ((repeat (first | (with_reducible exact pk_here) | (apply pk_there))); done))) | (apply hm_in) | apply Ent.drop)); all_goals (first | rfl | (with_reducible assumption) | (simp; done) | (simp; omega) | omega | (constructor <;> (simp) <;> omega)))
      | true =>
        have hk := next_kind h hb
        have hSe := fun F bq => qu_Sent (F := F) (b := bq) (room := c.buffer) (l := s.q) (n := n)
        have hN := fun F => msg_Net (F := F) (k := (qnextM s.q n).kind)
        rcases net_12 hk.2.1 with hn | hn
        · simp only [hn] at hN
          have hgd : hmGoes s n l = decide (0 < l.2.1) := by simp [hmGoes, hb, hn, l3at]
          by_cases hl : 0 < l.2.1
          · have hg : hmGoes s n l = true := by rw [hgd]; exact decide_eq_true hl
            have e1 : hmWorkM s n l = qnextM s.q n := by simp [hmWorkM, hr, hg]
            have e2 : hmWorkB s n l = true := by simp [hmWorkB, hr, hg]
            have e3 : hmDid s n l = true := by simp [hmDid, hr, hg]
            have e4 : hmWorkS c s n l = { s with q := qsentL s.q n } := by simp [hmWorkS, hr, hg]
            rw [e1, e2, e3, e4]
            simp only [hb] at hX
            obtain ⟨es, ms, q, odd⟩ := s
            refine hm_open fun bm be bq ps he => ?_
            dsimp only at *
            repeat (first | rintro _ _ ⟨rfl, rfl⟩ | refine exq fun _ => ?_ | intro _ | refine go ?_ | refine drq ?_ | refine cal @hG ?_ | refine cal @hR ?_ | refine cal @hX ?_ | refine cal @hN ?_ | refine cal @hSe ?_)
            (apply WE_ret rfl rfl (by (repeat (first | exact ResOk.nil | (apply ResOk.tmp; rfl) | (apply resOk_cell; rfl; exact inferInstance; rfl; rfl)))))
            · exact ⟨rfl, rfl⟩
            · ((repeat (first | (with_reducible exact Ent.refl) | exact Ent.nil | (apply ent_pickE; (focus ((repeat (first | (with_reducible exact pk_here) | (apply pk_there))); done))) | (apply hm_in) | apply Ent.drop)); all_goals (first | rfl | (with_reducible assumption) | (simp; done) | (simp; omega) | omega | (constructor <;> (simp) <;> omega)))
          · have hg : hmGoes s n l = false := by rw [hgd]; exact decide_eq_false hl
            have e1 : hmWorkM s n l = .zero := by simp [hmWorkM, hr, hg]
            have e2 : hmWorkB s n l = false := by simp [hmWorkB, hr, hg]
            have e3 : hmDid s n l = false := by simp [hmDid, hr, hg]
            have e4 : hmWorkS c s n l = s := by simp [hmWorkS, hr, hg]
            rw [e1, e2, e3, e4]
            simp only [hb] at hX
            obtain ⟨es, ms, q, odd⟩ := s
            refine hm_open fun bm be bq ps he => ?_
            dsimp only at *
            repeat (first | rintro _ _ ⟨rfl, rfl⟩ | refine exq fun _ => ?_ | intro _ | refine go ?_ | refine drq ?_ | refine cal @hG ?_ | refine cal @hR ?_ | refine cal @hX ?_ | refine cal @hN ?_)
            (apply WE_ret rfl rfl (by (repeat (first | exact ResOk.nil | (apply ResOk.tmp; rfl) | (apply resOk_cell; rfl; exact inferInstance; rfl; rfl)))))
            · exact ⟨rfl, rfl⟩
            · ((repeat (first | (with_reducible exact Ent.refl) | exact Ent.nil | (apply ent_pickE; (focus ((repeat (first | (with_reducible exact pk_here) | (apply pk_there))); done))) | (apply hm_in) | apply Ent.drop)); all_goals (first | rfl | (with_reducible assumption) | (simp; done) | (simp; omega) | omega | (constructor <;> (simp) <;> omega)))
        · simp only [hn] at hN
          have hgd : hmGoes s n l = decide (0 < l.2.2) := by simp [hmGoes, hb, hn, l3at]
          by_cases hl : 0 < l.2.2
          · have hg : hmGoes s n l = true := by rw [hgd]; exact decide_eq_true hl
            have e1 : hmWorkM s n l = qnextM s.q n := by simp [hmWorkM, hr, hg]
            have e2 : hmWorkB s n l = true := by simp [hmWorkB, hr, hg]
            have e3 : hmDid s n l = true := by simp [hmDid, hr, hg]
            have e4 : hmWorkS c s n l = { s with q := qsentL s.q n } := by simp [hmWorkS, hr, hg]
            rw [e1, e2, e3, e4]
            simp only [hb] at hX
            obtain ⟨es, ms, q, odd⟩ := s
            refine hm_open fun bm be bq ps he => ?_
            dsimp only at *
            repeat (first | rintro _ _ ⟨rfl, rfl⟩ | refine exq fun _ => ?_ | intro _ | refine go ?_ | refine drq ?_ | refine cal @hG ?_ | refine cal @hR ?_ | refine cal @hX ?_ | refine cal @hN ?_ | refine cal @hSe ?_)
            (apply WE_ret rfl rfl (by (repeat (first | exact ResOk.nil | (apply ResOk.tmp; rfl) | (apply resOk_cell; rfl; exact inferInstance; rfl; rfl)))))
            · exact ⟨rfl, rfl⟩
            · ((repeat (first | (with_reducible exact Ent.refl) | exact Ent.nil | (apply ent_pickE; (focus ((repeat (first | (with_reducible exact pk_here) | (apply pk_there))); done))) | (apply hm_in) | apply Ent.drop)); all_goals (first | rfl | (with_reducible assumption) | (simp; done) | (simp; omega) | omega | (constructor <;> (simp) <;> omega)))
          · have hg : hmGoes s n l = false := by rw [hgd]; exact decide_eq_false hl
            have e1 : hmWorkM s n l = .zero := by simp [hmWorkM, hr, hg]
            have e2 : hmWorkB s n l = false := by simp [hmWorkB, hr, hg]
            have e3 : hmDid s n l = false := by simp [hmDid, hr, hg]
            have e4 : hmWorkS c s n l = s := by simp [hmWorkS, hr, hg]
            rw [e1, e2, e3, e4]
            simp only [hb] at hX
            obtain ⟨es, ms, q, odd⟩ := s
            refine hm_open fun bm be bq ps he => ?_
            dsimp only at *
            repeat (first | rintro _ _ ⟨rfl, rfl⟩ | refine exq fun _ => ?_ | intro _ | refine go ?_ | refine drq ?_ | refine cal @hG ?_ | refine cal @hR ?_ | refine cal @hX ?_ | refine cal @hN ?_)
            (apply WE_ret rfl rfl (by (repeat (first | exact ResOk.nil | (apply ResOk.tmp; rfl) | (apply resOk_cell; rfl; exact inferInstance; rfl; rfl)))))
            · exact ⟨rfl, rfl⟩
            · ((repeat (first | (with_reducible exact Ent.refl) | exact Ent.nil | (apply ent_pickE; (focus ((repeat (first | (with_reducible exact pk_here) | (apply pk_there))); done))) | (apply hm_in) | apply Ent.drop)); all_goals (first | rfl | (with_reducible assumption) | (simp; done) | (simp; omega) | omega | (constructor <;> (simp) <;> omega)))
end Go.Sx

/- What homes do: a new one. The program's. My own work. -/
namespace Go.Sx
open Go Go.Proofs
set_option linter.unusedVariables false
set_option linter.unusedSectionVars false
set_option linter.unusedSimpArgs false
def hmE0 (c : Cfg) : TEnt := ⟨-1, ⟨c.cores, c.pointers, [], false⟩⟩
def hmN0 (c : Cfg) (l : List Int) : List (Int × HRd) := l.foldl (fun m k => mset m k (hmE0 c, none, 0)) []
def hmEs (c : Cfg) (l : List Int) : List (Int × TEnt) := l.foldl (fun m k => mset m k (hmE0 c)) []
theorem hmN0_es (c : Cfg) (l : List Int) : hes (hmN0 c l) = hmEs c l := by
  have : ∀ (l : List Int) (m : List (Int × HRd)), hes (l.foldl (fun m k => mset m k (hmE0 c, none, 0)) m) = l.foldl (fun m k => mset m k (hmE0 c)) (hes m) := by
    intro l
    induction l with
    | nil => intro m; rfl
    | cons a r ih => intro m; rw [List.foldl_cons, List.foldl_cons, ih, hes_mset]
  exact this l []
theorem hmEs_get (c : Cfg) (l : List Int) (k : Int) : mget (hmEs c l) k = if k ∈ l then some (hmE0 c) else none := by
  have : ∀ (l : List Int) (m : List (Int × TEnt)), mget (l.foldl (fun m k => mset m k (hmE0 c)) m) k = if k ∈ l then some (hmE0 c) else mget m k := by
    intro l
    induction l with
    | nil => intro m; simp
    | cons a r ih =>
      intro m
      rw [List.foldl_cons, ih, mget_mset]
      by_cases h1 : k ∈ r
      · simp [h1]
      · by_cases h2 : k = a <;> simp [h1, h2]
  exact this l []
def hmNew (c : Cfg) (num : Int) : HomS := ⟨hmEs c (linesL c num), List.replicate (c.words * c.lines).toNat 0, [], 0⟩
theorem may_e0 {c : Cfg} (h : checkB c = true) : shMay ⟨c.cores, c.pointers, [], false⟩ = true := by
  simp only [checkB, fitsB, Bool.and_eq_true, decide_eq_true_eq] at h
  refine may_mk' (by dsimp only; omega) (by dsimp only; omega) (by dsimp only; omega) (by dsimp only; omega) (by simp; omega) (fun h => by cases h) List.Pairwise.nil (fun c hc => by cases hc)
def newOk (c : Cfg) (num : Int) : Bool := checkB c && decide (0 ≤ num ∧ num < c.homes)
theorem hrs_put0 {L M : List HP} {ps : List (Int × HRd)} {k : Int} {c : Cfg} (h : Ent L (All (hrs ps) :: M)) : Ent L (All (hrs (mset ps k (hmE0 c, none, 0))) :: M) :=
  Ent.trans h (Ent.trans rds_nil (hrs_mset ps k (hmE0 c, none, 0)))
set_option maxRecDepth 100000
set_option maxHeartbeats 4000000
attribute [local irreducible] Go.Exit.then Go.Exit.inBlock Go.Code.wp WC WO WE WQ V LoopQ FnQ Sat Star band bor IntKind.wrap WR Code.rounds WT KO
theorem dr_Hom5_16 {Q P : Prop} (k : Q) (h : Hid Q → P := by
  intro k
  first
  | (refine is_draw ?_; apply WC_mix (id := 9) .false _ (pl := .p 0 <| .p 1 <| .p 2 <| .p 4 <| .p 5 <| .p 7 <| .r 3 <| .r 6 <| .r 8 <| .e true [(9, .p 10 <| .p 11 <| .p 12 <| .e true [(13, .done)])]); exact mixed; kernel_rfl; kernel_rfl; exact Ent.refl; exact k.out)) : P := h ⟨k⟩
theorem hm_New_no {F : List HP} {c : Cfg} {num : Int} (hc : c.wf) (h : newOk c num = false) : FnF Try.prog 16 [c.val, .int .i64 num] [] F (fun r L' => r = .tuple [.pointer none, .int .i64 1].toArray ∧ L' = []) := by
  refine FnF.mk' Try.func16 rfl rfl Try.ntmps16 rfl ?_
  cases hb : checkB c with
  | false =>
    have hM := fun F => mem_New_no (F := F) hc hb
    repeat (first | rintro _ _ ⟨rfl, rfl⟩ | refine exq fun _ => ?_ | intro _ | refine go ?_ | refine dr_Hom5_16 ?_ | refine drq ?_ | refine cal @hM ?_)
    exact fin0
  | true =>
    have hM := fun F => mem_New (F := F) hc hb
    by_cases h0 : num < 0
    · repeat (first | rintro _ _ ⟨rfl, rfl⟩ | refine exq fun _ => ?_ | intro _ | refine go ?_ | refine dr_Hom5_16 ?_ | refine drq ?_ | refine cal @hM ?_)
      exact fin0
    · have h1 : num ≥ c.homes := by
        simp only [newOk, hb, Bool.true_and, decide_eq_false_iff_not] at h
        omega
      repeat (first | rintro _ _ ⟨rfl, rfl⟩ | refine exq fun _ => ?_ | intro _ | refine go ?_ | refine dr_Hom5_16 ?_ | refine drq ?_ | refine cal @hM ?_)
      exact fin0
theorem hm_New {F : List HP} {c : Cfg} {num : Int} (hc : c.wf) (h : newOk c num = true) : FnF Try.prog 16 [c.val, .int .i64 num] [] F (fun r L' => ∃ b, r = .tuple [.pointer (some ⟨b, 0, none⟩), .int .i64 0].toArray ∧ L' = [HomP b c num (hmNew c num)]) := by
  simp only [newOk, Bool.and_eq_true, decide_eq_true_eq] at h
  obtain ⟨hb, h0, h1⟩ := h
  have hM := fun F => mem_New (F := F) hc hb
  have hQ := fun F => qu_New (F := F) (cfg_room' hb)
  have hI : I64 num := by have := (cfg_bnd hb).2.1; unfold I64; omega
  have hLi := fun F => split_Lines (F := F) hc hI
  have hT := fun F => tab_New (F := F) (cores := c.cores) (most := c.pointers)
  simp only [may_e0 hb, if_true] at hT
  have hll : (linesL c num).length ≤ 1099511627776 := by
    have := (cfg_bnd hb).2.2.2
    unfold linesL
    split
    · rw [rowN_len]
      unfold cntN
      refine Nat.le_trans (Nat.div_le_self _ _) ?_
      have := (cfg_bnd hb).2.1
      omega
    · simp
  unfold hmNew
  generalize linesL c num = ll at hLi hll ⊢
  refine FnF.mk' Try.func16 rfl rfl Try.ntmps16 rfl ?_
  repeat (first | rintro _ _ ⟨rfl, rfl⟩ | refine exq fun _ => ?_ | intro _ | refine go ?_ | refine dr_Hom5_16 ?_ | refine drq ?_ | refine cal @hM ?_ | refine cal @hQ ?_ | refine cal @hLi ?_)
  rename_i bc be bq bm b p cap
  apply WC_loopE (E0 := [(2, _), (10, _), (45, _), (46, _)]) (fun E0 (i : Nat) => (47, .int .i64 i) :: E0) (fun i => Own 3 1 (.slice p ll.length cap) ll.length (flat ic ll) :: Cells b 108 (hmc c num bm be bq 0) :: MapAt bm hrc (hmN0 c (ll.take i)) :: All (hrs (hmN0 c (ll.take i))) :: QuP bq c.buffer [] :: MemB be c (List.replicate (c.words * c.lines).toNat 0) :: Cells bc 24 c.cells :: F) (fun i => i ≤ ll.length) (fun i => ll.length - i) 0
  · (repeat (first | exact Sub.nil | (refine Sub.cons (by first | rfl | (simp only [Nat.zero_add]; rfl)) ?_)))
  · exact Nat.zero_le _
  · simp only [List.take_zero, show hmN0 c [] = [] from rfl]
    refine Ent.trans ?_ (Ent.cons (Ent.cons (Ent.cons all_nil)))
    exact entu0
  · intro i hi
    by_cases hlt : i < ll.length
    · have et : hmN0 c (ll.take (i + 1)) = mset (hmN0 c (ll.take i)) ll[i] (hmE0 c, none, 0) := by
        rw [List.take_add_one, List.getElem?_eq_getElem hlt]
        show hmN0 c (_ ++ [_]) = _
        unfold hmN0
        rw [List.foldl_append]
        rfl
      repeat (first | rintro _ _ ⟨rfl, rfl⟩ | refine exq fun _ => ?_ | intro _ | refine go ?_ | refine dr_Hom5_16 ?_ | refine drq ?_ | refine cal @hT ?_)
      (apply WT_k; rfl; (first | exact GIn.none | (apply gin_t; rfl; rfl; (first | (with_reducible rfl) | exact congrArg Value.bool (by with_reducible assumption) | exact congrArg Value.bool (dec_t (by first | (with_reducible assumption) | (with_reducible rfl) | (with_reducible exact nn_eq) | (with_reducible exact nn_ne) | omega | decide | exact rfl)))) | (apply gin_f; rfl; rfl; (first | (with_reducible rfl) | exact congrArg Value.bool (by with_reducible assumption) | exact congrArg Value.bool (dec_f (by first | (with_reducible assumption) | (with_reducible rfl) | (with_reducible exact nn_eq) | (with_reducible exact nn_ne) | omega | decide | exact rfl))))); exact K_mapUpdateT (xv := (hmE0 c, none, 0)) rfl rfl rfl inferInstance rfl; refine same_intro ?_)
      repeat (first | rintro _ _ ⟨rfl, rfl⟩ | refine exq fun _ => ?_ | intro _ | refine go ?_ | refine dr_Hom5_16 ?_ | refine drq ?_)
      refine WE_loop (i + 1) (by omega) (by omega) ?_ ?_
      · (repeat (first | exact Sub.nil | (refine Sub.cons (by first | rfl | (simp only [Nat.zero_add]; rfl)) ?_)))
      · rw [et]; ((repeat (first | (with_reducible exact Ent.refl) | exact Ent.nil | (apply ent_pickE; (focus ((repeat (first | (with_reducible exact pk_here) | (apply pk_there))); done))) | (apply hrs_put0) | apply Ent.drop)); all_goals (first | rfl | (with_reducible assumption) | (simp; done) | (simp; omega) | omega | (constructor <;> (simp) <;> omega)))
    · have hil : i = ll.length := by omega
      subst hil
      rw [List.take_length]
      repeat (first | rintro _ _ ⟨rfl, rfl⟩ | refine exq fun _ => ?_ | intro _ | refine go ?_ | refine dr_Hom5_16 ?_ | refine drq ?_)
      (apply WE_ret rfl rfl (by (repeat (first | exact ResOk.nil | (apply ResOk.tmp; rfl) | (apply resOk_cell; rfl; exact inferInstance; rfl; rfl)))))
      · exact ⟨_, rfl, rfl⟩
      · ((repeat (first | (with_reducible exact Ent.refl) | exact Ent.nil | (apply ent_pickE; (focus ((repeat (first | (with_reducible exact pk_here) | (apply pk_there))); done))) | (apply hm_in) | apply Ent.drop)); all_goals (first | rfl | (with_reducible assumption) | (simp [hmN0_es]; done) | (simp [hmN0_es]; omega) | omega | (constructor <;> (simp [hmN0_es]) <;> omega)))
end Go.Sx

/- What homes do, told of lists: what is so stays so. My own work. -/
namespace Go.Sx
open Go Go.Proofs
set_option linter.unusedVariables false
set_option linter.unusedSimpArgs false
theorem next_sizes {e : TEnt} {m : Msg} (h : nextE e m = 0) : (nextT e m).s.cores = e.s.cores ∧ (nextT e m).s.most = e.s.most := by
  obtain ⟨hok, hk⟩ := nextE_ok h
  obtain ⟨h1, h2, h3, h4, h5⟩ := okT_facts hok
  obtain ⟨a1, a2, a3⟩ := may_add' h1 h4 h5
  unfold nextT
  rw [if_pos h]
  rcases hk with ⟨k, ho⟩ | k | k
  · rw [if_pos k]
    unfold readT
    rw [if_neg ho]
    split
    · exact ⟨a2, a3⟩
    · split
      · exact ⟨rfl, rfl⟩
      · exact ⟨a2, a3⟩
  · rw [if_neg (by omega), if_pos k]
    exact ⟨rfl, rfl⟩
  · rw [if_neg (by omega), if_neg (by omega)]
    unfold putT
    split <;> exact ⟨rfl, rfl⟩
theorem next_kinds {e : TEnt} {m : Msg} {w : Words} (h : nextE e m = 0) : ∀ y ∈ nextS e m w, (4 ≤ y.kind ∧ y.kind ≤ 10) ∧ y.line = m.line ∧ y.src = m.dst := by
  obtain ⟨hok, hk⟩ := nextE_ok h
  intro y hy
  unfold nextS at hy
  rw [if_pos h] at hy
  rcases hk with ⟨k, ho⟩ | k | k
  · rw [if_pos k] at hy
    unfold readS at hy
    rw [if_neg ho] at hy
    split at hy
    · rw [List.mem_singleton] at hy; subst hy; exact ⟨⟨by simp [msgT], by simp [msgT]⟩, rfl, rfl⟩
    · split at hy <;> (rw [List.mem_singleton] at hy; subst hy; exact ⟨⟨by simp [msgT], by simp [msgT]⟩, rfl, rfl⟩)
  · rw [if_neg (by omega), if_pos k] at hy
    rcases List.mem_cons.1 hy with rfl | hy
    · unfold firstT
      split
      · exact ⟨⟨by simp [msgT], by simp [msgT]⟩, rfl, rfl⟩
      · split <;> exact ⟨⟨by simp [msgT], by simp [msgT]⟩, rfl, rfl⟩
    · obtain ⟨o, _, rfl⟩ := List.mem_map.1 hy
      exact ⟨⟨by simp [invT, msgT], by simp [invT, msgT]⟩, rfl, rfl⟩
  · rw [if_neg (by omega), if_neg (by omega)] at hy
    rw [List.mem_singleton] at hy; subst hy; exact ⟨⟨by simp [msgT], by simp [msgT]⟩, rfl, rfl⟩
theorem lines_mem {c : Cfg} {num : Int} (h : newOk c num = true) (k : Int) : k ∈ linesL c num ↔ ownL c num k := by
  simp only [newOk, Bool.and_eq_true, decide_eq_true_eq] at h
  obtain ⟨hb, h0, h1⟩ := h
  have hB := cfg_bnd hb
  obtain ⟨H, eH⟩ : ∃ H : Nat, c.homes = H := ⟨c.homes.toNat, by omega⟩
  obtain ⟨n, en⟩ : ∃ n : Nat, c.lines = n := ⟨c.lines.toNat, by omega⟩
  obtain ⟨g, rfl⟩ : ∃ n : Nat, num = n := ⟨num.toNat, by omega⟩
  have r1 : linesL c g = rowN g H (cntN n g H) := by simp [linesL, hb, eH, en]; omega
  have hg : g < H := by omega
  rw [r1]
  unfold ownL rowN
  rw [eH, en]
  simp only [List.mem_map, List.mem_range]
  constructor
  · rintro ⟨i, hi, rfl⟩
    have := (cnt_lt (n := n) (k := i) hg).1 hi
    refine ⟨by omega, by omega, ?_⟩
    have h3 : (g + i * H) % H = g := by rw [Nat.add_mul_mod_self_right]; exact Nat.mod_eq_of_lt hg
    exact_mod_cast h3
  · rintro ⟨k0, k1, k2⟩
    obtain ⟨k, rfl⟩ : ∃ n : Nat, k = n := ⟨k.toNat, by omega⟩
    have h3 : k % H = g := by exact_mod_cast k2
    have h4 := Nat.div_add_mod k H
    have h5 : g + k / H * H = k := by rw [Nat.mul_comm]; omega
    refine ⟨k / H, (cnt_lt (n := n) (k := k / H) hg).2 (by omega), by rw [h5]⟩
theorem hmI_new {c : Cfg} {num : Int} (h : newOk c num = true) : HmI c num (hmNew c num) := by
  have h0 := h
  simp only [newOk, Bool.and_eq_true, decide_eq_true_eq] at h0
  refine ⟨h0.1, h0.2, fun k => ?_, fun k e he => ?_, fun x hx => absurd hx (List.not_mem_nil), fun x hx => absurd hx (List.not_mem_nil), ?_⟩
  · show (mget (hmEs c (linesL c num)) k).isSome = _
    rw [hmEs_get]
    by_cases hk : ownL c num k
    · rw [if_pos ((lines_mem h k).2 hk), decide_eq_true hk]; rfl
    · rw [if_neg (fun hh => hk ((lines_mem h k).1 hh)), decide_eq_false hk]; rfl
  · have he' : mget (hmEs c (linesL c num)) k = some e := he
    rw [hmEs_get] at he'
    split at he'
    · cases he'
      have hb := cfg_bnd h0.1
      exact ⟨mayT_mk (may_e0 h0.1) (by simp [hmE0]) (by simp only [hmE0]; omega), rfl, rfl⟩
    · cases he'
  · have := cfg_room' h0.1
    show ((0 : Nat) : Int) ≤ _
    omega
theorem hmI_q {c : Cfg} {num : Int} {s : HomS} (h : HmI c num s) {q : List QE} (hr : ∀ x ∈ q, mineB c num x.m 0 = true) (hs : ∀ x ∈ q, ∀ y ∈ x.sends, (4 ≤ y.kind ∧ y.kind ≤ 10) ∧ y.line = x.m.line ∧ y.src = num) (hl : (q.length : Int) ≤ c.buffer) (o : Int) : HmI c num ⟨s.es, s.ms, q, o⟩ :=
  ⟨h.ok, h.nm, h.own, h.may, hr, hs, hl⟩
theorem hmI_acc {c : Cfg} {num : Int} {s : HomS} (h : HmI c num s) (m : Msg) : HmI c num (hmAccS c num s m) := by
  unfold hmAccS
  split
  · rename_i hm
    refine hmI_q h ?_ ?_ ?_ s.odd
    all_goals unfold qaddL
    · intro x hx
      split at hx
      · rcases List.mem_append.1 hx with hx | hx
        · exact h.req x hx
        · rw [List.mem_singleton] at hx; subst hx; exact hm
      · exact h.req x hx
    · intro x hx
      split at hx
      · rcases List.mem_append.1 hx with hx | hx
        · exact h.snd x hx
        · rw [List.mem_singleton] at hx; subst hx; intro y hy; cases hy
      · exact h.snd x hx
    · have hl := h.len
      split
      · rename_i he
        have : ¬ (s.q.length : Int) = c.buffer := fun hh => by
          unfold qaddE at he
          split at he
          · cases he
          · simp [hh] at he
        rw [List.length_append, List.length_singleton]
        omega
      · exact hl
  · exact h
theorem hmI_erase {c : Cfg} {num : Int} {s : HomS} (h : HmI c num s) (n : Nat) (o : Int) : HmI c num ⟨s.es, s.ms, s.q.eraseIdx n, o⟩ := by
  refine hmI_q h (fun x hx => h.req x (List.mem_of_mem_eraseIdx hx)) (fun x hx => h.snd x (List.mem_of_mem_eraseIdx hx)) ?_ o
  have := h.len
  have := List.length_eraseIdx_le s.q n
  omega
theorem hmI_done {c : Cfg} {num : Int} {s : HomS} (h : HmI c num s) (m : Msg) : HmI c num (hmDoneS c num s m) := by
  unfold hmDoneS qfinL
  split
  · split
    · exact h
    · exact hmI_erase h _ s.odd
  · exact h
theorem mem_set' {α : Type} {l : List α} {n : Nat} {a x : α} (h : x ∈ l.set n a) : x ∈ l ∨ x = a := List.mem_or_eq_of_mem_set h
theorem hmI_sent {c : Cfg} {num : Int} {s : HomS} (h : HmI c num s) (n : Int) : HmI c num { s with q := qsentL s.q n } := by
  unfold qsentL
  split
  · rename_i he
    split
    · exact hmI_erase h _ s.odd
    · have hin : qin s.q n = true := by
        cases hc : qin s.q n with
        | true => rfl
        | false => simp [qsentE, hc] at he
      have hm := qat_mem hin
      refine hmI_q h ?_ ?_ (by rw [List.length_set]; exact h.len) s.odd
      · intro x hx
        rcases mem_set' hx with hx | rfl
        · exact h.req x hx
        · exact h.req (qat s.q n) hm
      · intro x hx
        rcases mem_set' hx with hx | rfl
        · exact h.snd x hx
        · intro y hy
          exact h.snd (qat s.q n) hm y (List.mem_of_mem_drop hy)
  · exact h
theorem hmI_turn {c : Cfg} {num : Int} {s : HomS} (h : HmI c num s) {n : Int} (hr : qready s.q n = true) (h0 : nextE (hmEnt s (hmX s n).line) (hmX s n) = 0) : HmI c num (hmTurnS c s n) := by
  have hm := qat_mem (qready_in hr)
  have hmine : mineB c num (hmX s n) 0 = true := h.req _ hm
  obtain ⟨f1, f2, f3, f4, f5⟩ := mine_facts h.ok hmine
  obtain ⟨g1, g2, g3, g4⟩ := hmEnt_own h f3
  have hz := next_sizes h0
  refine ⟨h.ok, h.nm, fun k => ?_, fun k e he => ?_, ?_, ?_, ?_⟩
  · show (mget (mset s.es _ _) k).isSome = _
    rw [mget_mset]
    split
    · rename_i hk; subst hk; rw [decide_eq_true f3]; rfl
    · exact h.own k
  · have he' : mget (mset s.es (hmX s n).line (nextT (hmEnt s (hmX s n).line) (hmX s n))) k = some e := he
    rw [mget_mset] at he'
    split at he'
    · cases he'
      exact ⟨next_may h0, by rw [hz.1, g3], by rw [hz.2, g4]⟩
    · exact h.may k e he'
  · intro x hx
    have hx' : x ∈ qstartL s.q n (nextS (hmEnt s (hmX s n).line) (hmX s n) (lineWo c s.ms (hmX s n).line)) := hx
    unfold qstartL at hx'
    split at hx'
    · rcases mem_set' hx' with hx | rfl
      · exact h.req x hx
      · exact hmine
    · exact h.req x hx'
  · intro x hx
    have hx' : x ∈ qstartL s.q n (nextS (hmEnt s (hmX s n).line) (hmX s n) (lineWo c s.ms (hmX s n).line)) := hx
    unfold qstartL at hx'
    split at hx'
    · rcases mem_set' hx' with hx | rfl
      · exact h.snd x hx
      · intro y hy
        have := next_kinds h0 y hy
        rw [f5] at this
        exact this
    · exact h.snd x hx'
  · show ((qstartL s.q n _).length : Int) ≤ _
    unfold qstartL
    split
    · rw [List.length_set]; exact h.len
    · exact h.len
theorem hmI_work {c : Cfg} {num : Int} {s : HomS} (h : HmI c num s) (n : Int) (l : L3) : HmI c num (hmWorkS c s n l) := by
  unfold hmWorkS
  split
  · rename_i hr
    unfold hmStartS
    split
    · rename_i h0; exact hmI_turn h hr h0
    · exact hmI_erase h _ _
  · split
    · exact hmI_sent h n
    · exact h
theorem hm_odd {c : Cfg} {s : HomS} (n : Int) (l : L3) : s.odd ≤ (hmWorkS c s n l).odd ∧ (hmWorkS c s n l).odd ≤ s.odd + 1 := by
  unfold hmWorkS hmStartS hmTurnS hmOddS
  split
  · split
    · exact ⟨Int.le_refl _, by show s.odd ≤ _; omega⟩
    · exact ⟨by show s.odd ≤ s.odd + 1; omega, Int.le_refl _⟩
  · split
    · exact ⟨Int.le_refl _, by show s.odd ≤ _; omega⟩
    · exact ⟨Int.le_refl _, by omega⟩
end Go.Sx

/- The laws of homes: what they share. My own work. -/
namespace Go.Sx
open Go Go.Proofs
set_option linter.unusedVariables false
set_option linter.unusedSectionVars false
set_option linter.unusedSimpArgs false
/-- A step of a law of homes: what to do, a number, how much room the networks have, a message. -/
structure HStep where
  d : Int
  n : Int
  l0 : Int
  l1 : Int
  l2 : Int
  m : Msg
abbrev HStep.l (x : HStep) : L3 := (x.l0, x.l1, x.l2)
abbrev hsc (x : HStep) : List Value := [.int .i64 x.d, .int .i64 x.n, .int .i64 x.l0, .int .i64 x.l1, .int .i64 x.l2, .int .i64 x.m.kind, .int .i64 x.m.line, .int .i64 x.m.src, .int .i64 x.m.dst, .int .i64 x.m.who, .int .i64 x.m.acks, .int .i64 x.m.own, .int .i64 x.m.words.w0, .int .i64 x.m.words.w1, .int .i64 x.m.words.w2, .int .i64 x.m.words.w3, .int .i64 x.m.words.w4, .int .i64 x.m.words.w5, .int .i64 x.m.words.w6, .int .i64 x.m.words.w7]
abbrev hsv (x : HStep) : Value := .agg (hsc x).toArray
def HStep.wf (x : HStep) : Prop := I64 x.d ∧ I64 x.n ∧ (I64 x.l0 ∧ I64 x.l1 ∧ I64 x.l2) ∧ x.m.wf
abbrev rpc (m : Msg) (b d : Bool) (e : Int) : List Value := [.int .i64 m.kind, .int .i64 m.line, .int .i64 m.src, .int .i64 m.dst, .int .i64 m.who, .int .i64 m.acks, .int .i64 m.own, .int .i64 m.words.w0, .int .i64 m.words.w1, .int .i64 m.words.w2, .int .i64 m.words.w3, .int .i64 m.words.w4, .int .i64 m.words.w5, .int .i64 m.words.w6, .int .i64 m.words.w7, .bool b, .bool d, .int .i64 e]
def hsM (s : HomS) (x : HStep) : Msg := if x.d = 0 then .zero else if x.d = 1 then hmWorkM s x.n x.l else .zero
def hsB (s : HomS) (x : HStep) : Bool := if x.d = 0 then false else if x.d = 1 then hmWorkB s x.n x.l else false
def hsD (s : HomS) (x : HStep) : Bool := if x.d = 0 then false else if x.d = 1 then hmDid s x.n x.l else false
def hsE (c : Cfg) (num : Int) (s : HomS) (x : HStep) : Int := if x.d = 0 then hmAccE c num s x.m else if x.d = 1 then 0 else hmDoneE c num s x.m
def hsS (c : Cfg) (num : Int) (s : HomS) (x : HStep) : HomS := if x.d = 0 then hmAccS c num s x.m else if x.d = 1 then hmWorkS c s x.n x.l else hmDoneS c num s x.m
def hsK (c : Cfg) (num : Int) (l : List HStep) : HomS := l.foldl (hsS c num) (hmNew c num)
theorem hsK_step {c : Cfg} {num : Int} {l : List HStep} {i : Nat} (hi : i < l.length) : hsK c num (l.take (i + 1)) = hsS c num (hsK c num (l.take i)) l[i] := by
  unfold hsK
  rw [List.take_add_one, List.getElem?_eq_getElem hi, Option.toList_some, List.foldl_append]
  rfl
theorem hmI_step {c : Cfg} {num : Int} {s : HomS} (h : HmI c num s) (x : HStep) : HmI c num (hsS c num s x) := by
  unfold hsS
  split
  · exact hmI_acc h _
  · split
    · exact hmI_work h _ _
    · exact hmI_done h _
theorem odd_step {c : Cfg} {num : Int} {s : HomS} (x : HStep) : s.odd ≤ (hsS c num s x).odd ∧ (hsS c num s x).odd ≤ s.odd + 1 := by
  unfold hsS
  split
  · unfold hmAccS; split
    · exact ⟨Int.le_refl _, by show s.odd ≤ _; omega⟩
    · exact ⟨Int.le_refl _, by omega⟩
  · split
    · exact hm_odd _ _
    · unfold hmDoneS; split
      · exact ⟨Int.le_refl _, by show s.odd ≤ _; omega⟩
      · exact ⟨Int.le_refl _, by omega⟩
theorem hsK_inv {c : Cfg} {num : Int} (hn : newOk c num = true) (l : List HStep) (i : Nat) (hi : i ≤ l.length) : HmI c num (hsK c num (l.take i)) ∧ 0 ≤ (hsK c num (l.take i)).odd ∧ (hsK c num (l.take i)).odd ≤ i := by
  induction i with
  | zero => exact ⟨hmI_new hn, Int.le_refl _, Int.le_refl _⟩
  | succ i ih =>
    obtain ⟨h1, h2, h3⟩ := ih (by omega)
    rw [hsK_step (by omega)]
    have := odd_step (c := c) (num := num) (s := hsK c num (l.take i)) l[i]
    exact ⟨hmI_step h1 _, by omega, by omega⟩
def hLarge (c : Cfg) : Bool := decide (64 < c.lines) && decide (c.lines ≤ 1024)
set_option maxRecDepth 100000
set_option maxHeartbeats 4000000
attribute [local irreducible] Go.Exit.then Go.Exit.inBlock Go.Code.wp WC WO WE WQ V LoopQ FnQ Sat Star band bor IntKind.wrap WR Code.rounds WT KO
theorem law16_large {F : List HP} {c : Cfg} : FnF Try.prog 15 [c.val] [] F (fun r L' => r = .bool (hLarge c) ∧ L' = []) := by
  refine FnF.mk' Try.func15 rfl rfl Try.ntmps15 rfl ?_
  by_cases h : 64 < c.lines
  · repeat (first | rintro _ _ ⟨rfl, rfl⟩ | refine exq fun _ => ?_ | intro _ | refine go ?_ | refine drq ?_)
    (apply WE_ret rfl rfl (by (repeat (first | exact ResOk.nil | (apply ResOk.tmp; rfl) | (apply resOk_cell; rfl; exact inferInstance; rfl; rfl)))); (first | exact ⟨rfl, rfl⟩ | exact ⟨congrArg Value.bool (by decide), rfl⟩ | exact ⟨_, rfl, rfl⟩ | exact ⟨_, _, rfl, rfl⟩ | exact ⟨by first | (simp [hLarge, h]; done) | (simp [hLarge, h] <;> omega), rfl⟩); (repeat (first | exact Ent.refl | exact Ent.nil | apply Ent.pick | apply Ent.drop)))
  · repeat (first | rintro _ _ ⟨rfl, rfl⟩ | refine exq fun _ => ?_ | intro _ | refine go ?_ | refine drq ?_)
    (apply WE_ret rfl rfl (by (repeat (first | exact ResOk.nil | (apply ResOk.tmp; rfl) | (apply resOk_cell; rfl; exact inferInstance; rfl; rfl)))); (first | exact ⟨rfl, rfl⟩ | exact ⟨congrArg Value.bool (by decide), rfl⟩ | exact ⟨_, rfl, rfl⟩ | exact ⟨_, _, rfl, rfl⟩ | exact ⟨by first | (simp [hLarge, h]; done) | (simp [hLarge, h] <;> omega), rfl⟩); (repeat (first | exact Ent.refl | exact Ent.nil | apply Ent.pick | apply Ent.drop)))
theorem law16_same {F : List HP} {e t : TEnt} {a b : Option Addr} {k m : Nat} (h1 : RdL F 1 (.slice a e.s.ps.length k) e.s.ps.length (flat ic e.s.ps)) (h2 : RdL F 1 (.slice b t.s.ps.length m) t.s.ps.length (flat ic t.s.ps)) (hn : e.s.ps.length ≤ 1000) :
    FnF Try.prog 23 [.agg (tec e a k).toArray, .agg (tec t b m).toArray] [] F (fun r L' => r = .bool (decide (e = t)) ∧ L' = []) := by
  have hS := fun F (h1 : RdL F 1 (.slice a e.s.ps.length k) e.s.ps.length (flat ic e.s.ps)) (h2 : RdL F 1 (.slice b t.s.ps.length m) t.s.ps.length (flat ic t.s.ps)) => ref08_Same (F := F) (s := e.s) (t := t.s) h1 h2 hn
  by_cases ho : e.o = t.o
  · have hd : decide (e = t) = decide (e.s = t.s) := decide_eq_decide.2 ⟨fun h => by rw [h], fun h => TEnt.ext_iff'.1 ⟨ho, h⟩⟩
    rw [hd]
    refine FnF.mk' Try.func23 rfl rfl Try.ntmps23 rfl ?_
    repeat (first | rintro _ _ ⟨rfl, rfl⟩ | refine exq fun _ => ?_ | intro _ | refine go ?_ | refine drq ?_ | refine cal @hS ?_)
    exact fin0
  · have hd : decide (e = t) = false := decide_eq_false fun h => ho (by rw [h])
    rw [hd]
    refine FnF.mk' Try.func23 rfl rfl Try.ntmps23 rfl ?_
    repeat (first | rintro _ _ ⟨rfl, rfl⟩ | refine exq fun _ => ?_ | intro _ | refine go ?_ | refine drq ?_)
    exact fin0
theorem law16_do {F : List HP} {b : Nat} {c : Cfg} {num : Int} {s : HomS} {x : HStep} (hc : c.wf) (h : HmI c num s) (ho : 0 ≤ s.odd ∧ s.odd ≤ 1000000000000) : FnF Try.prog 18 [.pointer (some ⟨b, 0, none⟩), hsv x] [HomP b c num s] F
    (fun r L' => r = .agg (rpc (hsM s x) (hsB s x) (hsD s x) (hsE c num s x)).toArray ∧ L' = [HomP b c num (hsS c num s x)]) := by
  have hA := fun F => hm_Accept (F := F) (b := b) (num := num) (s := s) (m := x.m) hc
  have hD := fun F => hm_Done (F := F) (b := b) (num := num) (s := s) (m := x.m) hc
  have hW := fun F => hm_Work (F := F) (b := b) (n := x.n) (l := x.l) h ho
  refine FnF.mk' Try.func18 rfl rfl Try.ntmps18 rfl ?_
  by_cases h0 : x.d = 0
  · simp only [hsM, hsB, hsD, hsE, hsS, if_pos h0]
    repeat (first | rintro _ _ ⟨rfl, rfl⟩ | refine exq fun _ => ?_ | intro _ | refine go ?_ | refine drq ?_ | refine cal @hA ?_)
    exact fin0
  · by_cases h1 : x.d = 1
    · simp only [hsM, hsB, hsD, hsE, hsS, if_neg h0, if_pos h1]
      repeat (first | rintro _ _ ⟨rfl, rfl⟩ | refine exq fun _ => ?_ | intro _ | refine go ?_ | refine drq ?_ | refine cal @hW ?_)
      exact fin0
    · simp only [hsM, hsB, hsD, hsE, hsS, if_neg h0, if_neg h1]
      repeat (first | rintro _ _ ⟨rfl, rfl⟩ | refine exq fun _ => ?_ | intro _ | refine go ?_ | refine drq ?_ | refine cal @hD ?_)
      exact fin0
end Go.Sx

/- The laws of homes: awake. My own work. -/
namespace Go.Sx
open Go Go.Proofs
set_option linter.unusedVariables false
set_option linter.unusedSectionVars false
set_option linter.unusedSimpArgs false
abbrev c16 : Cfg := ⟨2, 2, 1, 1, 2, 4, 0, 1, 2, 1, 1, 1, 1⟩
abbrev m16a : Msg := ⟨1, 3, 1, 1, 0, 0, 0, .zero⟩
abbrev m16b : Msg := ⟨1, 2, 1, 0, 0, 0, 0, .zero⟩
abbrev m16d : Msg := ⟨11, 3, 0, 1, 0, 0, 0, .zero⟩
abbrev m16e : Msg := ⟨11, 3, 1, 1, 0, 0, 0, .zero⟩
abbrev m16p : Msg := ⟨3, 3, 1, 1, 0, 0, 0, ⟨8, 9, 0, 0, 0, 0, 0, 0⟩⟩
abbrev m16x : Msg := ⟨7, 3, 1, 1, 0, 0, 2, .zero⟩
abbrev m16y : Msg := ⟨10, 3, 1, 1, 0, 0, 0, .zero⟩
abbrev e16 (o : Int) : TEnt := ⟨o, ⟨2, 0, [], false⟩⟩
abbrev s16 (o : Int) (ms : List Int) (q : List QE) : HomS := ⟨[(1, e16 (-1)), (3, e16 o)], ms, q, 0⟩
abbrev z16 : List Int := [0, 0, 0, 0, 0, 0, 0, 0]
theorem aw0 : hmNew c16 1 = s16 (-1) z16 [] := rfl
theorem aw1 : hmAccE c16 1 (s16 (-1) z16 []) m16a = 0 ∧ hmAccS c16 1 (s16 (-1) z16 []) m16a = s16 (-1) z16 [⟨m16a, false, []⟩] := ⟨by decide, rfl⟩
abbrev w16 : List Int := [0, 0, 0, 0, 0, 0, 8, 9]
abbrev s16a := s16 (-1) z16 []
abbrev s16b := s16 (-1) z16 [⟨m16a, false, []⟩]
abbrev s16c := s16 1 z16 [⟨m16a, true, [m16x]⟩]
abbrev s16d := s16 1 z16 [⟨m16a, true, []⟩]
abbrev s16e := s16 1 z16 []
abbrev s16f := s16 1 z16 [⟨m16p, false, []⟩]
abbrev s16g := s16 (-1) w16 [⟨m16p, true, [m16y]⟩]
theorem aw2 : hmAccE c16 1 s16b m16b = 1 ∧ hmAccS c16 1 s16b m16b = s16b := ⟨by decide, rfl⟩
theorem aw3 : hmWorkM s16b 0 (0, 0, 0) = .zero ∧ hmWorkB s16b 0 (0, 0, 0) = false ∧ hmDid s16b 0 (0, 0, 0) = true ∧ hmWorkS c16 s16b 0 (0, 0, 0) = s16c := ⟨by decide, by decide, by decide, rfl⟩
theorem aw4 : hmWorkM s16c 0 (1, 1, 0) = .zero ∧ hmWorkB s16c 0 (1, 1, 0) = false ∧ hmDid s16c 0 (1, 1, 0) = false ∧ hmWorkS c16 s16c 0 (1, 1, 0) = s16c := ⟨by decide, by decide, by decide, rfl⟩
theorem aw5 : hmWorkM s16c 0 (0, 0, 1) = m16x ∧ hmWorkB s16c 0 (0, 0, 1) = true ∧ hmDid s16c 0 (0, 0, 1) = true ∧ hmWorkS c16 s16c 0 (0, 0, 1) = s16d := ⟨by decide, by decide, by decide, rfl⟩
theorem aw6 : hmDoneE c16 1 s16d m16d = 7 ∧ hmDoneS c16 1 s16d m16d = s16d := ⟨by decide, rfl⟩
theorem aw7 : hmDoneE c16 1 s16d m16e = 0 ∧ hmDoneS c16 1 s16d m16e = s16e := ⟨by decide, rfl⟩
theorem aw8 : hmAccE c16 1 s16e m16p = 0 ∧ hmAccS c16 1 s16e m16p = s16f := ⟨by decide, rfl⟩
theorem aw9 : hmWorkM s16f 0 (0, 0, 0) = .zero ∧ hmWorkB s16f 0 (0, 0, 0) = false ∧ hmDid s16f 0 (0, 0, 0) = true ∧ hmWorkS c16 s16f 0 (0, 0, 0) = s16g := ⟨by decide, by decide, by decide, rfl⟩
theorem awl : hmLine c16 s16g 3 = ⟨8, 9, 0, 0, 0, 0, 0, 0⟩ ∧ hmOwn s16g 3 = true ∧ hmEnt s16e 3 = e16 1 ∧ hmOwn s16e 3 = true ∧ hmEnt s16e 2 = .no ∧ hmOwn s16e 2 = false := ⟨by decide, by decide, by decide, by decide, by decide, by decide⟩
theorem awIa : HmI c16 1 s16a := by rw [show s16a = hmNew c16 1 from rfl]; exact hmI_new (by decide)
theorem awIb : HmI c16 1 s16b := by rw [show s16b = hmAccS c16 1 s16a m16a from rfl]; exact hmI_acc awIa _
theorem awIc : HmI c16 1 s16c := by rw [← aw3.2.2.2]; exact hmI_work awIb _ _
theorem awId : HmI c16 1 s16d := by rw [← aw5.2.2.2]; exact hmI_work awIc _ _
theorem awIe : HmI c16 1 s16e := by rw [← aw7.2]; exact hmI_done awId _
theorem awIf : HmI c16 1 s16f := by rw [← aw8.2]; exact hmI_acc awIe _
set_option maxRecDepth 100000
set_option maxHeartbeats 4000000
attribute [local irreducible] Go.Exit.then Go.Exit.inBlock Go.Code.wp WC WO WE WQ V LoopQ FnQ Sat Star band bor IntKind.wrap WR Code.rounds WT KO
theorem law16_awake {F : List HP} : FnF Try.prog 14 [] [] F (fun r L' => r = .bool true ∧ L' = []) := by
  have hw : c16.wf := cfg_wf' (by decide)
  have hN := fun F => hm_New (F := F) (c := c16) (num := 1) hw (by decide)
  rw [show hmNew c16 1 = s16a from rfl] at hN
  have hN2 := fun F => hm_New_no (F := F) (c := c16) (num := 2) hw (by decide)
  have hA1 := fun F b => hm_Accept (F := F) (b := b) (num := 1) (s := s16a) (m := m16a) hw
  simp only [aw1] at hA1
  have hA2 := fun F b => hm_Accept (F := F) (b := b) (num := 1) (s := s16b) (m := m16b) hw
  simp only [aw2] at hA2
  have hW3 := fun F b => hm_Work (F := F) (b := b) (n := 0) (l := (0, 0, 0)) awIb (by decide)
  simp only [aw3] at hW3
  have hW4 := fun F b => hm_Work (F := F) (b := b) (n := 0) (l := (1, 1, 0)) awIc (by decide)
  simp only [aw4] at hW4
  have hW5 := fun F b => hm_Work (F := F) (b := b) (n := 0) (l := (0, 0, 1)) awIc (by decide)
  simp only [aw5] at hW5
  have hD6 := fun F b => hm_Done (F := F) (b := b) (num := 1) (s := s16d) (m := m16d) hw
  simp only [aw6] at hD6
  have hD7 := fun F b => hm_Done (F := F) (b := b) (num := 1) (s := s16d) (m := m16e) hw
  simp only [aw7] at hD7
  have hE3 := fun F b => hm_Entry (F := F) (b := b) (c := c16) (num := 1) (s := s16e) (line := 3) (fun e he => (awIe.may _ e he).1)
  have hE2 := fun F b => hm_Entry (F := F) (b := b) (c := c16) (num := 1) (s := s16e) (line := 2) (fun e he => (awIe.may _ e he).1)
  simp only [awl] at hE3 hE2
  have hA8 := fun F b => hm_Accept (F := F) (b := b) (num := 1) (s := s16e) (m := m16p) hw
  simp only [aw8] at hA8
  have hW9 := fun F b => hm_Work (F := F) (b := b) (n := 0) (l := (0, 0, 0)) awIf (by decide)
  simp only [aw9] at hW9
  have hL := fun F b => hm_Line (F := F) (b := b) (c := c16) (num := 1) (s := s16g) (line := 3) hw (by unfold I64; omega)
  simp only [awl] at hL
  have hQ := fun F b => hm_Queue (F := F) (b := b) (c := c16) (num := 1) (s := s16g)
  have hO := fun F b => hm_Odd (F := F) (b := b) (c := c16) (num := 1) (s := s16g)
  refine FnF.mk' Try.func14 rfl rfl Try.ntmps14 rfl ?_
  repeat (first | rintro _ _ ⟨rfl, rfl⟩ | refine exq fun _ => ?_ | intro _ | refine go ?_ | refine drq ?_ | refine cal @hN ?_ | refine cal @hN2 ?_ | refine cal @hA1 ?_ | refine cal @hA2 ?_ | refine cal @hW3 ?_ | refine cal @hW4 ?_ | refine cal @hW5 ?_ | refine cal @hD6 ?_ | refine cal @hD7 ?_ | refine cal @hE3 ?_ | refine cal @hE2 ?_ | refine cal @hA8 ?_ | refine cal @hW9 ?_ | refine cal @hL ?_ | refine cal @hQ ?_ | refine cal @hO ?_)
  exact fin0
end Go.Sx
