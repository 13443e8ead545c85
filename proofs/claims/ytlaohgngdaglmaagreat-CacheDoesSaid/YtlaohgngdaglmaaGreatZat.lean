/- CaDr: several of my texts as one. My own work. -/
import Derived.Test.YtlaohgngdaglmaaGreatZas
/- The law of caches: a cache's picture, and whether pictures are the same. My own work. -/
namespace Go.Sx
open Go Go.Proofs
set_option linter.unusedVariables false
set_option linter.unusedSectionVars false
set_option linter.unusedSimpArgs false
theorem rl_fact {α : Type} {T e : TypeId} {sz : Nat} {enc : α → List Value} {b : Nat} {room : Int} {l : List α} {L : List HP} {w : World} (h : Sat (RL T e sz enc b room l :: L) w) : (l.length : Int) ≤ room ∧ room ≤ 4096 := by
  obtain ⟨⟨p, c0⟩, hx⟩ := star_ex h
  simp only [app] at hx
  exact fact_of (star_drop (star_drop hx))
theorem take_next {α : Type} {enc : α → List Value} {l : List α} {i : Nat} (hi : i < l.length) : flat enc (l.take i) ++ enc l[i] = flat enc (l.take (i + 1)) := by
  rw [List.take_succ_eq_append_getElem hi, flat_append, flat_one]
/-- What is so of a cache in memory. -/
def CaFacts (c : Cfg) (core : Int) (k : CaS) : Prop := checkB c = true ∧ (k.ways.length : Int) = c.sets * c.ways ∧ (k.mis.length : Int) ≤ c.mshrs ∧ (k.buf.length : Int) ≤ c.writebacks ∧ 0 ≤ core ∧ core < c.cores
theorem ca_facts {b : Nat} {c : Cfg} {core : Int} {k : CaS} {L : List HP} {w : World} (h : Sat (CaP b c core k :: L) w) : CaFacts c core k := by
  obtain ⟨a, f, e, hf, hx⟩ := ca_sat h
  have h1 := sat_tail hx
  obtain ⟨g, ha, hy⟩ := arr_sat h1
  have h2 := sat_tail h1
  exact ⟨hf.1, ha.2, (rl_fact h2).1, (rl_fact (sat_tail h2)).1, hf.2.1, hf.2.2⟩
theorem WC_ca {b : Nat} {c : Cfg} {core : Int} {k : CaS} {N : Nat} {env : Env} {L : List HP} {co : Code} {Q : Exit → Act → World → Prop} (h : CaFacts c core k → WC Tryz.prog N co env (CaP b c core k :: L) Q) : WC Tryz.prog N co env (CaP b c core k :: L) Q := fun a w ha hw => h (ca_facts hw) a w ha hw
theorem WO_ca {b : Nat} {c : Cfg} {core : Int} {k : CaS} {N : Nat} {env : Env} {L : List HP} {all : Array Oper} {co : List Oper} {Q : Exit → Act → World → Prop} (h : CaFacts c core k → WO Tryz.prog N all co env (CaP b c core k :: L) Q) : WO Tryz.prog N all co env (CaP b c core k :: L) Q := fun a w ha hw => h (ca_facts hw) a w ha hw
set_option maxRecDepth 100000
set_option maxHeartbeats 4000000
attribute [local irreducible] Go.Exit.then Go.Exit.inBlock Go.Code.wp WC WO WE WQ V LoopQ FnQ Sat Star band bor IntKind.wrap WR Code.rounds WT KO
theorem law14_drawn {F : List HP} {b : Nat} {c : Cfg} {core : Int} {k : CaS} :
    FnF Tryz.prog 15 [c.val, .pointer (some ⟨b, 0, none⟩)] [CaP b c core k] F (fun r L' => ∃ p1 c1 p2 c2 p3 c3, r = .agg [.slice p1 k.ways.length c1, .slice p2 k.mis.length c2, .slice p3 k.buf.length c3].toArray ∧
      L' = [Own 69 11 (.slice p1 k.ways.length c1) k.ways.length (flat wyc k.ways), Own 75 15 (.slice p2 k.mis.length c2) k.mis.length (flat msc' k.mis), Own 77 10 (.slice p3 k.buf.length c3) k.buf.length (flat bc k.buf), CaP b c core k]) := by
  refine FnF.mk' Tryz.func15 rfl rfl Tryz.ntmps15 rfl ?_
  refine WC_ca fun hf => ?_
  obtain ⟨hc, hn, hm, hb, _, _⟩ := hf
  obtain ⟨en, h4, h5, h6, h7, h8⟩ := arr_nums hc hn
  have hr := cfg_rooms hc
  have eW : c.ways = (c.ways.toNat : Int) := by omega
  have eS : c.sets = (c.sets.toNat : Int) := by omega
  repeat (first | rintro _ _ ⟨rfl, rfl⟩ | refine exq fun _ => ?_ | intro _ | refine go ?_ | refine drq ?_)
  rename_i b2 b4 b5
  apply WC_loopE (E0 := [(1, _), (2, _), (4, _), (5, _)]) (fun E0 (q : Nat × Option Addr × Nat) => (6, .int .i64 q.1) :: E0)
    (fun q => Own 69 11 (.slice q.2.1 (q.1 * c.ways.toNat) q.2.2) (q.1 * c.ways.toNat) (flat wyc (k.ways.take (q.1 * c.ways.toNat))) :: Cells b5 51 [.slice q.2.1 (q.1 * c.ways.toNat) q.2.2, .slice none 0 0, .slice none 0 0] :: Cells b4 51 [.slice none 0 0, .slice none 0 0, .slice none 0 0] :: Cells b2 24 c.cells :: CaP b c core k :: F)
    (fun q => q.1 ≤ c.sets.toNat) (fun q => c.sets.toNat - q.1) (0, none, 0)
  · (repeat (first | exact Sub.nil | (refine Sub.cons (by first | rfl | (simp only [Nat.zero_add]; rfl)) ?_)))
  · exact Nat.zero_le _
  · dsimp only; simp only [Nat.zero_mul, List.take_zero, flat_nil]; exact own_empty (by exact entu0)
  · rintro ⟨s, p, q⟩ hs
    dsimp only at hs ⊢
    by_cases hlt : s < c.sets.toNat
    · have hlt' : (s : Int) < c.sets := by omega
      have hr1 := set_room (s := s) (W := c.ways.toNat) (S := c.sets.toNat) hlt
      have hsl := Nat.succ_mul s c.ways.toNat
      have hsm : s * c.ways.toNat ≤ 512 := by omega
      repeat (first | rintro _ _ ⟨rfl, rfl⟩ | refine exq fun _ => ?_ | intro _ | refine go ?_ | refine drq ?_)
      apply WC_loopE (E0 := [(1, _), (2, _), (4, _), (5, _), (6, _)]) (fun E0 (r : Nat × Option Addr × Nat) => (7, .int .i64 r.1) :: E0)
        (fun r => Own 69 11 (.slice r.2.1 (s * c.ways.toNat + r.1) r.2.2) (s * c.ways.toNat + r.1) (flat wyc (k.ways.take (s * c.ways.toNat + r.1))) :: Cells b5 51 [.slice r.2.1 (s * c.ways.toNat + r.1) r.2.2, .slice none 0 0, .slice none 0 0] :: Cells b4 51 [.slice none 0 0, .slice none 0 0, .slice none 0 0] :: Cells b2 24 c.cells :: CaP b c core k :: F)
        (fun r => r.1 ≤ c.ways.toNat) (fun r => c.ways.toNat - r.1) (0, p, q)
      · (repeat (first | exact Sub.nil | (refine Sub.cons (by first | rfl | (simp only [Nat.zero_add]; rfl)) ?_)))
      · exact Nat.zero_le _
      · dsimp only; simp only [Nat.add_zero]; exact entu0
      · rintro ⟨w, p', q'⟩ hw
        dsimp only at hw ⊢
        by_cases hlw : w < c.ways.toNat
        · have hlw' : (w : Int) < c.ways := by omega
          have hix : s * c.ways.toNat + w < k.ways.length := by omega
          have e0 : atW c k.ways s w = k.ways[s * c.ways.toNat + w] := by
            unfold atW
            rw [if_pos (by simp [inWay]; omega), Int.toNat_natCast, Int.toNat_natCast]
            exact (getD_at hix).symm
          have hWay := fun F => ca_Way (F := F) (b := b) (c := c) (core := core) (s := s) (w := w) (k := k)
          rw [e0] at hWay
          repeat (first | rintro _ _ ⟨rfl, rfl⟩ | refine exq fun _ => ?_ | intro _ | refine go ?_ | refine drq ?_ | refine cal @hWay ?_)
          rename_i p2 c2
          refine WE_loop (w + 1, p2, c2) (by dsimp only; omega) (by dsimp only; omega) ?_ ?_
          · dsimp only; (repeat (first | exact Sub.nil | (refine Sub.cons (by first | rfl | (simp only [Nat.zero_add]; rfl)) ?_)))
          · dsimp only
            rw [show s * c.ways.toNat + (w + 1) = s * c.ways.toNat + w + 1 by omega, ← take_next hix]
            exact entu0
        · have hww : w = c.ways.toNat := by omega
          subst hww
          repeat (first | rintro _ _ ⟨rfl, rfl⟩ | refine exq fun _ => ?_ | intro _ | refine go ?_ | refine drq ?_)
          refine WE_loop (s + 1, p', q') (by dsimp only; omega) (by dsimp only; omega) ?_ ?_
          · dsimp only; (repeat (first | exact Sub.nil | (refine Sub.cons (by first | rfl | (simp only [Nat.zero_add]; rfl)) ?_)))
          · dsimp only; rw [hsl]; exact entu0
    · have hss : s = c.sets.toNat := by omega
      subst hss
      rw [← en, List.take_length]
      repeat (first | rintro _ _ ⟨rfl, rfl⟩ | refine exq fun _ => ?_ | intro _ | refine go ?_ | refine drq ?_ | refine cal @ca_Misses ?_)
      rename_i pm qm
      apply WC_loopE (E0 := [(1, _), (4, _), (5, _), (41, _), (42, _)]) (fun E0 (q : Nat × Option Addr × Nat) => (43, .int .i64 q.1) :: E0)
        (fun r => Own 75 15 (.slice r.2.1 r.1 r.2.2) r.1 (flat msc' (k.mis.take r.1)) :: Cells b5 51 [.slice p k.ways.length q, .slice r.2.1 r.1 r.2.2, .slice none 0 0] :: Own 69 11 (.slice p k.ways.length q) k.ways.length (flat wyc k.ways) :: Own 162 15 (.slice pm k.mis.length qm) k.mis.length (flat msc' k.mis) :: Cells b4 51 [.slice none 0 0, .slice none 0 0, .slice none 0 0] :: CaP b c core k :: F)
        (fun r => r.1 ≤ k.mis.length) (fun r => k.mis.length - r.1) (0, none, 0)
      · (repeat (first | exact Sub.nil | (refine Sub.cons (by first | rfl | (simp only [Nat.zero_add]; rfl)) ?_)))
      · exact Nat.zero_le _
      · dsimp only; simp only [List.take_zero, flat_nil]; exact own_empty (by exact entu0)
      · rintro ⟨i, p2, q2⟩ hi
        dsimp only at hi ⊢
        by_cases hli : i < k.mis.length
        · repeat (first | rintro _ _ ⟨rfl, rfl⟩ | refine exq fun _ => ?_ | intro _ | refine go ?_ | refine drq ?_)
          rename_i p3 c3
          refine WE_loop (i + 1, p3, c3) (by dsimp only; omega) (by dsimp only; omega) ?_ ?_
          · dsimp only; (repeat (first | exact Sub.nil | (refine Sub.cons (by first | rfl | (simp only [Nat.zero_add]; rfl)) ?_)))
          · dsimp only
            rw [← take_next hli]
            exact entu0
        · have hii : i = k.mis.length := by omega
          subst hii
          rw [List.take_length]
          repeat (first | rintro _ _ ⟨rfl, rfl⟩ | refine exq fun _ => ?_ | intro _ | refine go ?_ | refine drq ?_ | refine cal @ca_Written ?_)
          rename_i pb qb
          apply WC_loopE (E0 := [(4, _), (5, _), (55, _), (56, _)]) (fun E0 (q : Nat × Option Addr × Nat) => (57, .int .i64 q.1) :: E0)
            (fun r => Own 77 10 (.slice r.2.1 r.1 r.2.2) r.1 (flat bc (k.buf.take r.1)) :: Cells b5 51 [.slice p k.ways.length q, .slice p2 k.mis.length q2, .slice r.2.1 r.1 r.2.2] :: Own 69 11 (.slice p k.ways.length q) k.ways.length (flat wyc k.ways) :: Own 75 15 (.slice p2 k.mis.length q2) k.mis.length (flat msc' k.mis) :: Own 142 10 (.slice pb k.buf.length qb) k.buf.length (flat bc k.buf) :: Cells b4 51 [.slice none 0 0, .slice none 0 0, .slice none 0 0] :: CaP b c core k :: F)
            (fun r => r.1 ≤ k.buf.length) (fun r => k.buf.length - r.1) (0, none, 0)
          · (repeat (first | exact Sub.nil | (refine Sub.cons (by first | rfl | (simp only [Nat.zero_add]; rfl)) ?_)))
          · exact Nat.zero_le _
          · dsimp only; simp only [List.take_zero, flat_nil]; exact own_empty (by exact entu0)
          · rintro ⟨j, p4, q4⟩ hj
            dsimp only at hj ⊢
            by_cases hlj : j < k.buf.length
            · repeat (first | rintro _ _ ⟨rfl, rfl⟩ | refine exq fun _ => ?_ | intro _ | refine go ?_ | refine drq ?_)
              rename_i p5 c5
              refine WE_loop (j + 1, p5, c5) (by dsimp only; omega) (by dsimp only; omega) ?_ ?_
              · dsimp only; (repeat (first | exact Sub.nil | (refine Sub.cons (by first | rfl | (simp only [Nat.zero_add]; rfl)) ?_)))
              · dsimp only
                rw [← take_next hlj]
                exact entu0
            · have hjj : j = k.buf.length := by omega
              subst hjj
              rw [List.take_length]
              repeat (first | rintro _ _ ⟨rfl, rfl⟩ | refine exq fun _ => ?_ | intro _ | refine go ?_ | refine drq ?_)
              (apply WE_ret rfl rfl (by (repeat (first | exact ResOk.nil | (apply ResOk.tmp; rfl) | (apply resOk_cell; rfl; exact inferInstance; rfl; rfl)))))
              · exact ⟨_, _, _, _, _, _, rfl, rfl⟩
              · exact entu0
theorem law14_same {F : List HP} {v1 v2 v3 u1 u2 u3 : Value} {l1 : List Way} {l2 : List Miss} {l3 : List WbE} (k1 : RdL F 11 v1 l1.length (flat wyc l1)) (k2 : RdL F 15 v2 l2.length (flat msc' l2)) (k3 : RdL F 10 v3 l3.length (flat bc l3))
    (j1 : RdL F 11 u1 l1.length (flat wyc l1)) (j2 : RdL F 15 u2 l2.length (flat msc' l2)) (j3 : RdL F 10 u3 l3.length (flat bc l3)) (h1 : l1.length ≤ 4096) (h2 : l2.length ≤ 4096) (h3 : l3.length ≤ 4096) :
    FnF Tryz.prog 16 [.agg [v1, v2, v3].toArray, .agg [u1, u2, u3].toArray] [] F (fun r L' => r = .bool true ∧ L' = []) := by
  refine FnF.mk' Tryz.func16 rfl rfl Tryz.ntmps16 rfl ?_
  haveI := k1
  haveI := k2
  haveI := k3
  haveI := j1
  haveI := j2
  haveI := j3
  repeat (first | rintro _ _ ⟨rfl, rfl⟩ | refine exq fun _ => ?_ | intro _ | refine go ?_ | refine drq ?_)
  rename_i b2 b3
  apply WC_loopE (E0 := [(2, _), (3, _), (35, _)]) (fun E0 (i : Nat) => (36, .int .i64 i) :: E0) (fun _ => Cells b2 51 [v1, v2, v3] :: Cells b3 51 [u1, u2, u3] :: F) (fun i => i ≤ l1.length) (fun i => l1.length - i) 0
  · (repeat (first | exact Sub.nil | (refine Sub.cons (by first | rfl | (simp only [Nat.zero_add]; rfl)) ?_)))
  · exact Nat.zero_le _
  · exact entu0
  · intro i hi
    by_cases hlt : i < l1.length
    · repeat' (first | rintro _ _ ⟨rfl, rfl⟩ | refine exq fun _ => ?_ | intro _ | refine go ?_ | refine drq ?_ | refine spl ?_ ?_ | fail)
      all_goals refine WE_loop (i + 1) (by omega) (by omega) ?_ ?_
      all_goals first | ((repeat (first | exact Sub.nil | (refine Sub.cons (by first | rfl | (simp only [Nat.zero_add]; rfl)) ?_))); done) | (exact entu0; done)
    · have hii : i = l1.length := by omega
      subst hii
      repeat (first | rintro _ _ ⟨rfl, rfl⟩ | refine exq fun _ => ?_ | intro _ | refine go ?_ | refine drq ?_)
      apply WC_loopE (E0 := [(2, _), (3, _), (53, _)]) (fun E0 (i : Nat) => (54, .int .i64 i) :: E0) (fun _ => Cells b2 51 [v1, v2, v3] :: Cells b3 51 [u1, u2, u3] :: F) (fun i => i ≤ l2.length) (fun i => l2.length - i) 0
      · (repeat (first | exact Sub.nil | (refine Sub.cons (by first | rfl | (simp only [Nat.zero_add]; rfl)) ?_)))
      · exact Nat.zero_le _
      · exact entu0
      · intro i hi
        by_cases hlt : i < l2.length
        · repeat' (first | rintro _ _ ⟨rfl, rfl⟩ | refine exq fun _ => ?_ | intro _ | refine go ?_ | refine drq ?_ | refine spl ?_ ?_ | fail)
          all_goals refine WE_loop (i + 1) (by omega) (by omega) ?_ ?_
          all_goals first | ((repeat (first | exact Sub.nil | (refine Sub.cons (by first | rfl | (simp only [Nat.zero_add]; rfl)) ?_))); done) | (exact entu0; done)
        · have hii : i = l2.length := by omega
          subst hii
          repeat (first | rintro _ _ ⟨rfl, rfl⟩ | refine exq fun _ => ?_ | intro _ | refine go ?_ | refine drq ?_)
          apply WC_loopE (E0 := [(2, _), (3, _), (71, _)]) (fun E0 (i : Nat) => (72, .int .i64 i) :: E0) (fun _ => Cells b2 51 [v1, v2, v3] :: Cells b3 51 [u1, u2, u3] :: F) (fun i => i ≤ l3.length) (fun i => l3.length - i) 0
          · (repeat (first | exact Sub.nil | (refine Sub.cons (by first | rfl | (simp only [Nat.zero_add]; rfl)) ?_)))
          · exact Nat.zero_le _
          · exact entu0
          · intro i hi
            by_cases hlt : i < l3.length
            · repeat' (first | rintro _ _ ⟨rfl, rfl⟩ | refine exq fun _ => ?_ | intro _ | refine go ?_ | refine drq ?_ | refine spl ?_ ?_ | fail)
              all_goals refine WE_loop (i + 1) (by omega) (by omega) ?_ ?_
              all_goals first | ((repeat (first | exact Sub.nil | (refine Sub.cons (by first | rfl | (simp only [Nat.zero_add]; rfl)) ?_))); done) | (exact entu0; done)
            · have hii : i = l3.length := by omega
              subst hii
              repeat (first | rintro _ _ ⟨rfl, rfl⟩ | refine exq fun _ => ?_ | intro _ | refine go ?_ | refine drq ?_)
              exact fin0
/-- A contract whose cache is handed back with what is so of it. -/
theorem FnF.withFacts {f : FuncId} {vs : List Value} {pre F : List HP} {u : Value} {b : Nat} {c : Cfg} {core : Int} {k : CaS} (h : FnF Tryz.prog f vs pre F (fun r L' => r = u ∧ L' = [CaP b c core k])) :
    FnF Tryz.prog f vs pre F (fun r L' => ∃ _ : CaFacts c core k, r = u ∧ L' = [CaP b c core k]) := by
  refine ⟨h.enters, fun w hw => (h.runs w hw).mono ?_⟩
  rintro x w' ⟨v, L', he, ⟨hv, hL⟩, hs⟩
  subst hL
  exact ⟨v, _, he, ⟨ca_facts hs, hv, rfl⟩, hs⟩
theorem caFacts_len {c : Cfg} {core : Int} {k : CaS} (h : CaFacts c core k) : k.ways.length ≤ 4096 ∧ k.mis.length ≤ 4096 ∧ k.buf.length ≤ 4096 := by
  obtain ⟨hc, hn, hm, hb, _, _⟩ := h
  have h1 := (arr_nums hc hn).2.2.2.2.2
  have hr := cfg_rooms hc
  omega
end Go.Sx
