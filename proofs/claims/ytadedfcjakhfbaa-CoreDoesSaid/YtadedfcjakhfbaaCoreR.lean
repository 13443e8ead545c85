/- The document's programs and cores. My own work. -/
import Derived.Test.YtadedfcjakhfbaaCore
namespace Go.Sx
open Go Go.Proofs
set_option linter.unusedVariables false
set_option linter.unusedSimpArgs false

theorem mayB_iff (x : Op3) : mayB x = decide ((x.kind = 4 ∧ x.addr = 0 ∧ x.value = 0) ∨ (x.kind = 1 ∧ 0 ≤ x.addr ∧ x.addr ≤ 8191 ∧ x.value = 0) ∨ ((x.kind = 2 ∨ x.kind = 3) ∧ 0 ≤ x.addr ∧ x.addr ≤ 8191 ∧ -2147483648 ≤ x.value ∧ x.value ≤ 2147483647)) := by
  rw [Bool.eq_iff_iff, decide_eq_true_iff]
  unfold mayB
  split
  · simp only [Bool.and_eq_true, decide_eq_true_eq]; omega
  · split
    · simp only [Bool.and_eq_true, decide_eq_true_eq]; omega
    · split
      · simp only [Bool.and_eq_true, decide_eq_true_eq]; omega
      · simp only [Bool.false_eq_true, false_iff]; omega

def RCoreB (b : Nat) (l : List Op3) (rs td : List Int) : HP :=
  Ex fun q : (Option Addr × Nat) × (Option Addr × Nat) × (Option Addr × Nat) => [Cells b 137 [.slice q.1.1 l.length q.1.2, .slice q.2.1.1 rs.length q.2.1.2, .slice q.2.2.1 td.length q.2.2.2], Own 132 3 (.slice q.1.1 l.length q.1.2) l.length (flat oc l), Own 3 1 (.slice q.2.1.1 rs.length q.2.1.2) rs.length (flat ic rs), Own 3 1 (.slice q.2.2.1 td.length q.2.2.2) td.length (flat ic td), Fact (rs.length ≤ l.length ∧ l.length ≤ 64 ∧ td.length ≤ 4096)]
theorem rcore_in {b n1 n2 n3 : Nat} {l : List Op3} {rs td : List Int} {p1 p2 p3 : Option Addr} {c1 c2 c3 : Nat} {xs ys zs : List Value} {L M : List HP}
    (h : Ent L (Cells b 137 [.slice p1 n1 c1, .slice p2 n2 c2, .slice p3 n3 c3] :: Own 132 3 (.slice p1 n1 c1) n1 xs :: Own 3 1 (.slice p2 n2 c2) n2 ys :: Own 3 1 (.slice p3 n3 c3) n3 zs :: M)) (hn1 : n1 = l.length) (hn2 : n2 = rs.length) (hn3 : n3 = td.length) (hx : xs = flat oc l) (hy : ys = flat ic rs) (hz : zs = flat ic td) (hl : rs.length ≤ l.length ∧ l.length ≤ 64 ∧ td.length ≤ 4096) : Ent L (RCoreB b l rs td :: M) := by
  subst hn1 hn2 hn3 hx hy hz
  refine Ent.trans h (Ent.trans ?_ (ex_intro (p := fun q : (Option Addr × Nat) × (Option Addr × Nat) × (Option Addr × Nat) => [Cells b 137 [.slice q.1.1 l.length q.1.2, .slice q.2.1.1 rs.length q.2.1.2, .slice q.2.2.1 td.length q.2.2.2], Own 132 3 (.slice q.1.1 l.length q.1.2) l.length (flat oc l), Own 3 1 (.slice q.2.1.1 rs.length q.2.1.2) rs.length (flat ic rs), Own 3 1 (.slice q.2.2.1 td.length q.2.2.2) td.length (flat ic td), Fact (rs.length ≤ l.length ∧ l.length ≤ 64 ∧ td.length ≤ 4096)]) ((p1, c1), (p2, c2), (p3, c3))))
  exact Ent.cons (Ent.cons (Ent.cons (Ent.cons (star_fact_mk hl))))
theorem rcore_sat {b : Nat} {l : List Op3} {rs td : List Int} {L : List HP} {w : World} (h : Sat (RCoreB b l rs td :: L) w) : (rs.length ≤ l.length ∧ l.length ≤ 64 ∧ td.length ≤ 4096) ∧
    ∃ p1 c1 p2 c2 p3 c3, Sat (Cells b 137 [.slice p1 l.length c1, .slice p2 rs.length c2, .slice p3 td.length c3] :: Own 132 3 (.slice p1 l.length c1) l.length (flat oc l) :: Own 3 1 (.slice p2 rs.length c2) rs.length (flat ic rs) :: Own 3 1 (.slice p3 td.length c3) td.length (flat ic td) :: L) w := by
  obtain ⟨⟨⟨p1, c1⟩, ⟨p2, c2⟩, ⟨p3, c3⟩⟩, hx⟩ := star_ex h
  simp only [app] at hx
  have hf := fact_of (star_drop (star_drop (star_drop (star_drop hx))))
  exact ⟨hf, p1, c1, p2, c2, p3, c3, (Ent.cons (Ent.cons (Ent.cons (Ent.cons (Ent.drop Ent.refl))))) _ hx⟩
theorem rcore_open {b : Nat} {l : List Op3} {rs td : List Int} {P : Program} {N : Nat} {c : Code} {env : Env} {L : List HP} {Q : Exit → Act → World → Prop}
    (h : ∀ p1 c1 p2 c2 p3 c3, (rs.length ≤ l.length ∧ l.length ≤ 64 ∧ td.length ≤ 4096) → WC P N c env (Cells b 137 [.slice p1 l.length c1, .slice p2 rs.length c2, .slice p3 td.length c3] :: Own 132 3 (.slice p1 l.length c1) l.length (flat oc l) :: Own 3 1 (.slice p2 rs.length c2) rs.length (flat ic rs) :: Own 3 1 (.slice p3 td.length c3) td.length (flat ic td) :: L) Q) : WC P N c env (RCoreB b l rs td :: L) Q := by
  intro a w ha hw
  obtain ⟨hf, p1, c1, p2, c2, p3, c3, hx⟩ := rcore_sat hw
  exact h p1 c1 p2 c2 p3 c3 hf a w ha hx
theorem rcore_openO {b : Nat} {l : List Op3} {rs td : List Int} {P : Program} {N : Nat} {all : Array Oper} {c : List Oper} {env : Env} {L : List HP} {Q : Exit → Act → World → Prop}
    (h : ∀ p1 c1 p2 c2 p3 c3, (rs.length ≤ l.length ∧ l.length ≤ 64 ∧ td.length ≤ 4096) → WO P N all c env (Cells b 137 [.slice p1 l.length c1, .slice p2 rs.length c2, .slice p3 td.length c3] :: Own 132 3 (.slice p1 l.length c1) l.length (flat oc l) :: Own 3 1 (.slice p2 rs.length c2) rs.length (flat ic rs) :: Own 3 1 (.slice p3 td.length c3) td.length (flat ic td) :: L) Q) : WO P N all c env (RCoreB b l rs td :: L) Q := by
  intro a w ha hw
  obtain ⟨hf, p1, c1, p2, c2, p3, c3, hx⟩ := rcore_sat hw
  exact h p1 c1 p2 c2 p3 c3 hf a w ha hx
set_option maxRecDepth 100000
set_option maxHeartbeats 4000000
attribute [local irreducible] Go.Exit.then Go.Exit.inBlock Go.Code.wp WC WO WE WQ V LoopQ FnQ Sat Star band bor IntKind.wrap WR Code.rounds WT KO
theorem ref03_May {F : List HP} {x : Op3} : FnF Try.prog 130 [ov x] [] F (fun r L' => r = .bool (mayB x) ∧ L' = []) := by
  rw [mayB_iff]
  refine FnF.mk' Try.func130 rfl rfl Try.ntmps130 rfl ?_
  repeat' (first | rintro _ _ ⟨rfl, rfl⟩ | rintro _ _ ⟨_, rfl, rfl⟩ | rintro _ _ ⟨_, _, rfl, rfl⟩ | intro _ | refine go ?_ | (refine is_draw ?_; refine WC_draw mixed (by kernel_rfl) ?_) | refine spl ?_ ?_ | fail)
  all_goals (apply WE_ret rfl rfl (by (repeat (first | exact ResOk.nil | (apply ResOk.tmp; rfl)))))
  all_goals first
    | (refine ⟨?_, rfl⟩; first | (exact congrArg Value.bool (Eq.symm (decide_eq_false (by omega)))) | (exact congrArg Value.bool (Eq.symm (decide_eq_true (by omega)))) | (exact congrArg Value.bool (decide_eq_decide.2 (by omega))))
    | (repeat (first | (with_reducible exact Ent.refl) | exact Ent.nil | (apply ent_pickE; (focus ((repeat (first | (with_reducible exact pk_here) | (apply pk_there))); done))) | apply Ent.drop))

theorem ref03_Fits {F : List HP} {c : Cfg} (hc : c.wf) {l : List Op3} {v : Value} (k : RdL F 3 v l.length (flat oc l)) (hn : l.length ≤ 1099511627776) : FnF Try.prog 112 [c.val, v] [] F (fun r L' => r = .bool (progB c l) ∧ L' = []) := by
  refine FnF.mk' Try.func112 rfl rfl Try.ntmps112 rfl ?_
  repeat (first | rintro _ _ ⟨rfl, rfl⟩ | rintro _ _ ⟨_, rfl, rfl⟩ | rintro _ _ ⟨_, _, rfl, rfl⟩ | intro _ | refine go ?_ | (refine is_draw ?_; refine WC_draw mixed (by kernel_rfl) ?_) | refine cal (ref01_Check (c := c)) ?_)
  cases e : checkB c with
  | false =>
    have e1 : checkE c = 1 := by simp [checkE, e]
    repeat (first | rintro _ _ ⟨rfl, rfl⟩ | rintro _ _ ⟨_, rfl, rfl⟩ | rintro _ _ ⟨_, _, rfl, rfl⟩ | intro _ | refine go ?_ | (refine is_draw ?_; refine WC_draw mixed (by kernel_rfl) ?_))
    (apply WE_ret rfl rfl (by (repeat (first | exact ResOk.nil | (apply ResOk.tmp; rfl) | (apply resOk_cell; rfl; exact inferInstance; rfl; rfl)))); (first | exact ⟨rfl, rfl⟩ | exact ⟨congrArg Value.bool (by decide), rfl⟩ | exact ⟨_, rfl, rfl⟩ | exact ⟨_, _, rfl, rfl⟩ | exact ⟨by first | (simp [progB, e]; done) | (simp [progB, e] <;> omega), rfl⟩); (repeat (first | exact Ent.refl | exact Ent.nil | apply Ent.pick | apply Ent.drop)))
  | true =>
    have e1 : checkE c = 0 := by simp [checkE, e]
    have hw := check_words e
    have hm := mul_bd (m := 8) (n := 1024) (a := c.words) (b := c.lines) (by omega) (by omega) (by omega) (by omega) (by omega)
    have hS : sizeOf' c = c.words * c.lines := by simp [sizeOf', e]
    by_cases h64 : 64 < l.length
    · repeat (first | rintro _ _ ⟨rfl, rfl⟩ | rintro _ _ ⟨_, rfl, rfl⟩ | rintro _ _ ⟨_, _, rfl, rfl⟩ | intro _ | refine go ?_ | (refine is_draw ?_; refine WC_draw mixed (by kernel_rfl) ?_))
      (apply WE_ret rfl rfl (by (repeat (first | exact ResOk.nil | (apply ResOk.tmp; rfl) | (apply resOk_cell; rfl; exact inferInstance; rfl; rfl)))); (first | exact ⟨rfl, rfl⟩ | exact ⟨congrArg Value.bool (by decide), rfl⟩ | exact ⟨_, rfl, rfl⟩ | exact ⟨_, _, rfl, rfl⟩ | exact ⟨by first | (simp [progB, e, h64]; done) | (simp [progB, e, h64] <;> omega), rfl⟩); (repeat (first | exact Ent.refl | exact Ent.nil | apply Ent.pick | apply Ent.drop)))
    · repeat (first | rintro _ _ ⟨rfl, rfl⟩ | rintro _ _ ⟨_, rfl, rfl⟩ | rintro _ _ ⟨_, _, rfl, rfl⟩ | intro _ | refine go ?_ | (refine is_draw ?_; refine WC_draw mixed (by kernel_rfl) ?_))
      rename_i bc
      apply WC_loopE (E0 := [(1, _), (2, _)]) (fun E0 (j : Nat) => (5, .int .i64 j) :: E0) (fun _ => Cells bc 121 c.cells :: F) (fun j => j ≤ l.length ∧ ∀ i (h : i < l.length), i < j → (mayB l[i] && decide (l[i].addr < sizeOf' c)) = true) (fun j => l.length - j) 0
      · (repeat (first | exact Sub.nil | (refine Sub.cons (by first | rfl | (simp only [Nat.zero_add]; rfl)) ?_)))
      · exact ⟨Nat.zero_le _, fun i h hi => by omega⟩
      · (repeat (first | (with_reducible exact Ent.refl) | exact Ent.nil | (apply ent_pickE; (focus ((repeat (first | (with_reducible exact pk_here) | (apply pk_there))); done))) | apply Ent.drop))
      · rintro j ⟨hj, hall⟩
        by_cases hlt : j < l.length
        · have hM := fun F => ref03_May (F := F) (x := l[j])
          cases hm : mayB l[j] with
          | false =>
            have hf : progB c l = false := by
              have : (l.all fun x => mayB x && decide (x.addr < sizeOf' c)) = false := by
                rw [List.all_eq_false]; exact ⟨_, List.getElem_mem hlt, by simp [hm]⟩
              simp [progB, this]
            simp only [hm] at hM
            repeat (first | rintro _ _ ⟨rfl, rfl⟩ | rintro _ _ ⟨_, rfl, rfl⟩ | rintro _ _ ⟨_, _, rfl, rfl⟩ | intro _ | refine go ?_ | (refine is_draw ?_; refine WC_draw mixed (by kernel_rfl) ?_) | refine cal @hM ?_)
            (apply WE_ret rfl rfl (by (repeat (first | exact ResOk.nil | (apply ResOk.tmp; rfl) | (apply resOk_cell; rfl; exact inferInstance; rfl; rfl)))); (first | exact ⟨rfl, rfl⟩ | exact ⟨congrArg Value.bool (by decide), rfl⟩ | exact ⟨_, rfl, rfl⟩ | exact ⟨_, _, rfl, rfl⟩ | exact ⟨by first | (simp [hf]; done) | (simp [hf] <;> omega), rfl⟩); (repeat (first | exact Ent.refl | exact Ent.nil | apply Ent.pick | apply Ent.drop)))
          | true =>
            simp only [hm] at hM
            by_cases hs : l[j].addr < c.words * c.lines
            · repeat (first | rintro _ _ ⟨rfl, rfl⟩ | rintro _ _ ⟨_, rfl, rfl⟩ | rintro _ _ ⟨_, _, rfl, rfl⟩ | intro _ | refine go ?_ | (refine is_draw ?_; refine WC_draw mixed (by kernel_rfl) ?_) | refine cal @hM ?_)
              refine WE_loop (j + 1) (by omega) ⟨by omega, fun i h hi => ?_⟩ ?_ ?_
              · by_cases e : i = j
                · subst e; simp [hm, hs, hS]
                · exact hall i h (by omega)
              · (repeat (first | exact Sub.nil | (refine Sub.cons (by first | rfl | (simp only [Nat.zero_add]; rfl)) ?_)))
              · (repeat (first | (with_reducible exact Ent.refl) | exact Ent.nil | (apply ent_pickE; (focus ((repeat (first | (with_reducible exact pk_here) | (apply pk_there))); done))) | apply Ent.drop))
            · have hf : progB c l = false := by
                have : (l.all fun x => mayB x && decide (x.addr < sizeOf' c)) = false := by
                  rw [List.all_eq_false]; exact ⟨_, List.getElem_mem hlt, by rw [hS]; simp [hs]⟩
                simp [progB, this]
              repeat (first | rintro _ _ ⟨rfl, rfl⟩ | rintro _ _ ⟨_, rfl, rfl⟩ | rintro _ _ ⟨_, _, rfl, rfl⟩ | intro _ | refine go ?_ | (refine is_draw ?_; refine WC_draw mixed (by kernel_rfl) ?_) | refine cal @hM ?_)
              (apply WE_ret rfl rfl (by (repeat (first | exact ResOk.nil | (apply ResOk.tmp; rfl) | (apply resOk_cell; rfl; exact inferInstance; rfl; rfl)))); (first | exact ⟨rfl, rfl⟩ | exact ⟨congrArg Value.bool (by decide), rfl⟩ | exact ⟨_, rfl, rfl⟩ | exact ⟨_, _, rfl, rfl⟩ | exact ⟨by first | (simp [hf]; done) | (simp [hf] <;> omega), rfl⟩); (repeat (first | exact Ent.refl | exact Ent.nil | apply Ent.pick | apply Ent.drop)))
        · have ha : (l.all fun x => mayB x && decide (x.addr < sizeOf' c)) = true := by
            rw [List.all_eq_true]
            intro x hx
            obtain ⟨i, hi, rfl⟩ := List.getElem_of_mem hx
            exact hall i hi (by omega)
          repeat (first | rintro _ _ ⟨rfl, rfl⟩ | rintro _ _ ⟨_, rfl, rfl⟩ | rintro _ _ ⟨_, _, rfl, rfl⟩ | intro _ | refine go ?_ | (refine is_draw ?_; refine WC_draw mixed (by kernel_rfl) ?_))
          (apply WE_ret rfl rfl (by (repeat (first | exact ResOk.nil | (apply ResOk.tmp; rfl) | (apply resOk_cell; rfl; exact inferInstance; rfl; rfl)))); (first | exact ⟨rfl, rfl⟩ | exact ⟨congrArg Value.bool (by decide), rfl⟩ | exact ⟨_, rfl, rfl⟩ | exact ⟨_, _, rfl, rfl⟩ | exact ⟨by first | (simp [progB, e, ha, h64]; done) | (simp [progB, e, ha, h64] <;> omega), rfl⟩); (repeat (first | exact Ent.refl | exact Ent.nil | apply Ent.pick | apply Ent.drop)))

theorem rcore_New {F : List HP} {c : Cfg} (hc : c.wf) {l : List Op3} {v : Value} (k : RdL F 3 v l.length (flat oc l)) (hn : l.length ≤ 1099511627776) (h : progB c l = true) :
    FnF Try.prog 66 [c.val, v] [] F (fun r L' => ∃ b, r = .tuple [.pointer (some ⟨b, 0, none⟩), .int .i64 0].toArray ∧ L' = [RCoreB b l [] []]) := by
  have hP := fun F k => ref03_Fits (F := F) (c := c) hc (l := l) (v := v) k hn
  simp only [h] at hP
  have hl := prog_len h
  refine FnF.mk' Try.func66 rfl rfl Try.ntmps66 rfl ?_
  repeat (first | rintro _ _ ⟨rfl, rfl⟩ | rintro _ _ ⟨_, rfl, rfl⟩ | rintro _ _ ⟨_, _, rfl, rfl⟩ | intro _ | refine go ?_ | (refine is_draw ?_; refine WC_draw mixed (by kernel_rfl) ?_) | refine cal @hP ?_)
  (apply WE_ret rfl rfl (by (repeat (first | exact ResOk.nil | (apply ResOk.tmp; rfl) | (apply resOk_cell; rfl; exact inferInstance; rfl; rfl)))))
  · exact ⟨_, rfl, rfl⟩
  · apply rcore_in (rs := []) (td := []) (p2 := none) (c2 := 0) (n2 := 0) (ys := []) (p3 := none) (c3 := 0) (n3 := 0) (zs := [])
    · refine Ent.trans (own_empty (e := 3) (sz := 1) (p := none) (own_empty (e := 3) (sz := 1) (p := none) Ent.refl)) ?_
      (focus ((repeat (first | (with_reducible exact Ent.refl) | exact Ent.nil | (apply ent_pickE; (focus ((repeat (first | (with_reducible exact pk_here) | (apply pk_there))); done))) | apply Ent.drop)); done))
    · simp
    · rfl
    · rfl
    · simp
    · rfl
    · rfl
    · exact ⟨Nat.zero_le _, hl, Nat.zero_le _⟩
theorem rcore_New_no {F : List HP} {c : Cfg} (hc : c.wf) {l : List Op3} {v : Value} (k : RdL F 3 v l.length (flat oc l)) (hn : l.length ≤ 1099511627776) (h : progB c l = false) :
    FnF Try.prog 66 [c.val, v] [] F (fun r L' => r = .tuple [.pointer none, .int .i64 1].toArray ∧ L' = []) := by
  have hP := fun F k => ref03_Fits (F := F) (c := c) hc (l := l) (v := v) k hn
  simp only [h] at hP
  refine FnF.mk' Try.func66 rfl rfl Try.ntmps66 rfl ?_
  repeat (first | rintro _ _ ⟨rfl, rfl⟩ | rintro _ _ ⟨_, rfl, rfl⟩ | rintro _ _ ⟨_, _, rfl, rfl⟩ | intro _ | refine go ?_ | (refine is_draw ?_; refine WC_draw mixed (by kernel_rfl) ?_) | refine cal @hP ?_)
  (apply WE_ret rfl rfl (by (repeat (first | exact ResOk.nil | (apply ResOk.tmp; rfl) | (apply resOk_cell; rfl; exact inferInstance; rfl; rfl)))); (first | exact ⟨rfl, rfl⟩ | exact ⟨congrArg Value.bool (by decide), rfl⟩ | exact ⟨_, rfl, rfl⟩ | exact ⟨_, _, rfl, rfl⟩ | exact ⟨by first | (simp []; done) | (simp [] <;> omega), rfl⟩); (repeat (first | exact Ent.refl | exact Ent.nil | apply Ent.pick | apply Ent.drop)))

theorem rcore_Head {F : List HP} {b : Nat} {l : List Op3} {rs td : List Int} : FnF Try.prog 74 [.pointer (some ⟨b, 0, none⟩)] [RCoreB b l rs td] F (fun r L' => r = .tuple [ov (headO l rs), .bool (headB l rs)].toArray ∧ L' = [RCoreB b l rs td]) := by
  refine FnF.mk' Try.func74 rfl rfl Try.ntmps74 rfl ?_
  refine rcore_open fun p1 c1 p2 c2 p3 c3 hl => ?_
  by_cases h : rs.length = l.length
  · repeat (first | rintro _ _ ⟨rfl, rfl⟩ | rintro _ _ ⟨_, rfl, rfl⟩ | rintro _ _ ⟨_, _, rfl, rfl⟩ | intro _ | refine go ?_ | (refine is_draw ?_; apply WC_mix (id := 3) true _ (pl := .p 0 <| .p 1 <| .p 2 <| .p 4 <| .p 5 <| .p 6 <| .r 3 <| .r 7 <| .p 8 <| .p 9 <| .r 10 <| .e true [(11, .p 12 <| .done)]); exact mixed; kernel_rfl; kernel_rfl; exact Ent.refl) | (refine is_draw ?_; refine WC_draw mixed (by kernel_rfl) ?_))
    (apply WE_ret rfl rfl (by (repeat (first | exact ResOk.nil | (apply ResOk.tmp; rfl) | (apply resOk_cell; rfl; exact inferInstance; rfl; rfl)))))
    · exact ⟨by simp [headO, headB, h], rfl⟩
    · ((repeat (first | (with_reducible exact Ent.refl) | exact Ent.nil | (apply ent_pickE; (focus ((repeat (first | (with_reducible exact pk_here) | (apply pk_there))); done))) | (apply rcore_in) | apply Ent.drop)); all_goals (first | rfl | (with_reducible assumption) | (simp; done) | (simp; omega) | omega | (constructor <;> (simp) <;> omega)))
  · have hlt : rs.length < l.length := by omega
    (first | (refine WO_some (.slice p1 l.length c1) inferInstance (by omega) ?_; intro _) | (refine WC_some (.slice p1 l.length c1) inferInstance (by omega) ?_; intro _))
    repeat (first | rintro _ _ ⟨rfl, rfl⟩ | rintro _ _ ⟨_, rfl, rfl⟩ | rintro _ _ ⟨_, _, rfl, rfl⟩ | intro _ | refine go ?_ | (refine is_draw ?_; apply WC_mix (id := 3) true _ (pl := .p 0 <| .p 1 <| .p 2 <| .p 4 <| .p 5 <| .p 6 <| .r 3 <| .r 7 <| .p 8 <| .p 9 <| .r 10 <| .e true [(11, .p 12 <| .done)]); exact mixed; kernel_rfl; kernel_rfl; exact Ent.refl) | (refine is_draw ?_; refine WC_draw mixed (by kernel_rfl) ?_))
    (apply WE_ret rfl rfl (by (repeat (first | exact ResOk.nil | (apply ResOk.tmp; rfl) | (apply resOk_cell; rfl; exact inferInstance; rfl; rfl)))))
    · exact ⟨by simp [headO, headB, h, hlt], rfl⟩
    · ((repeat (first | (with_reducible exact Ent.refl) | exact Ent.nil | (apply ent_pickE; (focus ((repeat (first | (with_reducible exact pk_here) | (apply pk_there))); done))) | (apply rcore_in) | apply Ent.drop)); all_goals (first | rfl | (with_reducible assumption) | (simp; done) | (simp; omega) | omega | (constructor <;> (simp) <;> omega)))

theorem rcore_Commit {F : List HP} {b : Nat} {l : List Op3} {rs td : List Int} {n : Int} (h : ¬ rs.length = l.length) : FnF Try.prog 68 [.pointer (some ⟨b, 0, none⟩), .int .i64 n] [RCoreB b l rs td] F
    (fun r L' => r = .tuple [.int .i64 rs.length, .int .i64 0].toArray ∧ L' = [RCoreB b l (rs ++ [n]) td]) := by
  refine FnF.mk' Try.func68 rfl rfl Try.ntmps68 rfl ?_
  refine rcore_open fun p1 c1 p2 c2 p3 c3 hl => ?_
  repeat (first | rintro _ _ ⟨rfl, rfl⟩ | rintro _ _ ⟨_, rfl, rfl⟩ | rintro _ _ ⟨_, _, rfl, rfl⟩ | intro _ | refine go ?_ | (refine is_draw ?_; refine WC_draw mixed (by kernel_rfl) ?_))
  (apply WE_ret rfl rfl (by (repeat (first | exact ResOk.nil | (apply ResOk.tmp; rfl) | (apply resOk_cell; rfl; exact inferInstance; rfl; rfl)))))
  · exact ⟨by first | (simp; done) | (simp; omega), rfl⟩
  · ((repeat (first | (with_reducible exact Ent.refl) | exact Ent.nil | (apply ent_pickE; (focus ((repeat (first | (with_reducible exact pk_here) | (apply pk_there))); done))) | (apply rcore_in) | apply Ent.drop)); all_goals (first | rfl | (with_reducible assumption) | (simp; done) | (simp; omega) | omega | (constructor <;> (simp) <;> omega)))
theorem rcore_Commit_no {F : List HP} {b : Nat} {l : List Op3} {rs td : List Int} {n : Int} (h : rs.length = l.length) : FnF Try.prog 68 [.pointer (some ⟨b, 0, none⟩), .int .i64 n] [RCoreB b l rs td] F
    (fun r L' => r = .tuple [.int .i64 0, .int .i64 5].toArray ∧ L' = [RCoreB b l rs td]) := by
  refine FnF.mk' Try.func68 rfl rfl Try.ntmps68 rfl ?_
  refine rcore_open fun p1 c1 p2 c2 p3 c3 hl => ?_
  repeat (first | rintro _ _ ⟨rfl, rfl⟩ | rintro _ _ ⟨_, rfl, rfl⟩ | rintro _ _ ⟨_, _, rfl, rfl⟩ | intro _ | refine go ?_ | (refine is_draw ?_; refine WC_draw mixed (by kernel_rfl) ?_))
  (apply WE_ret rfl rfl (by (repeat (first | exact ResOk.nil | (apply ResOk.tmp; rfl) | (apply resOk_cell; rfl; exact inferInstance; rfl; rfl)))))
  · exact ⟨rfl, rfl⟩
  · ((repeat (first | (with_reducible exact Ent.refl) | exact Ent.nil | (apply ent_pickE; (focus ((repeat (first | (with_reducible exact pk_here) | (apply pk_there))); done))) | (apply rcore_in) | apply Ent.drop)); all_goals (first | rfl | (with_reducible assumption) | (simp; done) | (simp; omega) | omega | (constructor <;> (simp) <;> omega)))

def raheadB (l : List Op3) (rs td : List Int) (d : Int) : Bool := aheadIn l rs d && !decide (((rs.length : Int) + d) ∈ td)
def raheadO (l : List Op3) (rs td : List Int) (d : Int) : Op3 := if raheadB l rs td d then l.getD ((rs.length : Int) + d).toNat .zero else .zero
theorem rcore_Ahead {F : List HP} {b : Nat} {l : List Op3} {rs td : List Int} {d : Int} : FnF Try.prog 72 [.pointer (some ⟨b, 0, none⟩), .int .i64 d] [RCoreB b l rs td] F
    (fun r L' => r = .tuple [ov (raheadO l rs td d), .bool (raheadB l rs td d)].toArray ∧ L' = [RCoreB b l rs td]) := by
  refine FnF.mk' Try.func72 rfl rfl Try.ntmps72 rfl ?_
  refine rcore_open fun p1 c1 p2 c2 p3 c3 hl => ?_
  by_cases h1 : d < 1
  · have e : raheadB l rs td d = false := by simp [raheadB, aheadIn]; omega
    repeat (first | rintro _ _ ⟨rfl, rfl⟩ | rintro _ _ ⟨_, rfl, rfl⟩ | rintro _ _ ⟨_, _, rfl, rfl⟩ | intro _ | refine go ?_ | (refine is_draw ?_; apply WC_mix (id := 3) true _ (pl := .p 0 <| .p 1 <| .p 2 <| .p 4 <| .p 5 <| .p 6 <| .p 9 <| .r 3 <| .r 7 <| .p 8 <| .p 10 <| .p 11 <| .r 12 <| .e true [(13, .e true [(14, .done)])]); exact mixed; kernel_rfl; kernel_rfl; exact Ent.refl) | (refine is_draw ?_; refine WC_draw mixed (by kernel_rfl) ?_))
    (apply WE_ret rfl rfl (by (repeat (first | exact ResOk.nil | (apply ResOk.tmp; rfl) | (apply resOk_cell; rfl; exact inferInstance; rfl; rfl)))))
    · exact ⟨by simp [raheadO, e], rfl⟩
    · ((repeat (first | (with_reducible exact Ent.refl) | exact Ent.nil | (apply ent_pickE; (focus ((repeat (first | (with_reducible exact pk_here) | (apply pk_there))); done))) | (apply rcore_in) | apply Ent.drop)); all_goals (first | rfl | (with_reducible assumption) | (simp; done) | (simp; omega) | omega | (constructor <;> (simp) <;> omega)))
  · by_cases h2 : 4 < d
    · have e : raheadB l rs td d = false := by simp [raheadB, aheadIn]; omega
      repeat (first | rintro _ _ ⟨rfl, rfl⟩ | rintro _ _ ⟨_, rfl, rfl⟩ | rintro _ _ ⟨_, _, rfl, rfl⟩ | intro _ | refine go ?_ | (refine is_draw ?_; apply WC_mix (id := 3) true _ (pl := .p 0 <| .p 1 <| .p 2 <| .p 4 <| .p 5 <| .p 6 <| .p 9 <| .r 3 <| .r 7 <| .p 8 <| .p 10 <| .p 11 <| .r 12 <| .e true [(13, .e true [(14, .done)])]); exact mixed; kernel_rfl; kernel_rfl; exact Ent.refl) | (refine is_draw ?_; refine WC_draw mixed (by kernel_rfl) ?_))
      (apply WE_ret rfl rfl (by (repeat (first | exact ResOk.nil | (apply ResOk.tmp; rfl) | (apply resOk_cell; rfl; exact inferInstance; rfl; rfl)))))
      · exact ⟨by simp [raheadO, e], rfl⟩
      · ((repeat (first | (with_reducible exact Ent.refl) | exact Ent.nil | (apply ent_pickE; (focus ((repeat (first | (with_reducible exact pk_here) | (apply pk_there))); done))) | (apply rcore_in) | apply Ent.drop)); all_goals (first | rfl | (with_reducible assumption) | (simp; done) | (simp; omega) | omega | (constructor <;> (simp) <;> omega)))
    · by_cases h3 : (l.length : Int) ≤ (rs.length : Int) + d
      · have e : raheadB l rs td d = false := by simp [raheadB, aheadIn]; omega
        repeat (first | rintro _ _ ⟨rfl, rfl⟩ | rintro _ _ ⟨_, rfl, rfl⟩ | rintro _ _ ⟨_, _, rfl, rfl⟩ | intro _ | refine go ?_ | (refine is_draw ?_; apply WC_mix (id := 3) true _ (pl := .p 0 <| .p 1 <| .p 2 <| .p 4 <| .p 5 <| .p 6 <| .p 9 <| .r 3 <| .r 7 <| .p 8 <| .p 10 <| .p 11 <| .r 12 <| .e true [(13, .e true [(14, .done)])]); exact mixed; kernel_rfl; kernel_rfl; exact Ent.refl) | (refine is_draw ?_; refine WC_draw mixed (by kernel_rfl) ?_))
        (apply WE_ret rfl rfl (by (repeat (first | exact ResOk.nil | (apply ResOk.tmp; rfl) | (apply resOk_cell; rfl; exact inferInstance; rfl; rfl)))))
        · exact ⟨by simp [raheadO, e], rfl⟩
        · ((repeat (first | (with_reducible exact Ent.refl) | exact Ent.nil | (apply ent_pickE; (focus ((repeat (first | (with_reducible exact pk_here) | (apply pk_there))); done))) | (apply rcore_in) | apply Ent.drop)); all_goals (first | rfl | (with_reducible assumption) | (simp; done) | (simp; omega) | omega | (constructor <;> (simp) <;> omega)))
      · have hlt : ((rs.length : Int) + d).toNat < l.length := by omega
        have hg : l.getD ((rs.length : Int) + d).toNat .zero = l[((rs.length : Int) + d).toNat] := by simp [hlt]
        (first | (refine WO_some (.slice p1 l.length c1) inferInstance (by omega) ?_; intro _) | (refine WC_some (.slice p1 l.length c1) inferInstance (by omega) ?_; intro _))
        repeat (first | rintro _ _ ⟨rfl, rfl⟩ | rintro _ _ ⟨_, rfl, rfl⟩ | rintro _ _ ⟨_, _, rfl, rfl⟩ | intro _ | refine go ?_ | (refine is_draw ?_; apply WC_mix (id := 3) true _ (pl := .p 0 <| .p 1 <| .p 2 <| .p 4 <| .p 5 <| .p 6 <| .p 9 <| .r 3 <| .r 7 <| .p 8 <| .p 10 <| .p 11 <| .r 12 <| .e true [(13, .e true [(14, .done)])]); exact mixed; kernel_rfl; kernel_rfl; exact Ent.refl) | (refine is_draw ?_; refine WC_draw mixed (by kernel_rfl) ?_))
        rename_i b4 bx
        apply WC_loopE (E0 := [(0, _), (1, _), (4, _), (6, _)]) (fun E0 (j : Nat) => (7, .int .i64 j) :: E0) (fun _ => Cells bx 132 (oc l[((rs.length : Int) + d).toNat]) :: Cells b4 132 (oc Op3.zero) :: Cells b 137 [.slice p1 l.length c1, .slice p2 rs.length c2, .slice p3 td.length c3] :: Own 132 3 (.slice p1 l.length c1) l.length (flat oc l) :: Own 3 1 (.slice p2 rs.length c2) rs.length (flat ic rs) :: Own 3 1 (.slice p3 td.length c3) td.length (flat ic td) :: F)
          (fun j => j ≤ td.length ∧ ∀ i (h : i < td.length), i < j → td[i] ≠ (rs.length : Int) + d) (fun j => td.length - j) 0
        · (repeat (first | exact Sub.nil | (refine Sub.cons (by first | rfl | (simp only [Nat.zero_add]; rfl)) ?_)))
        · exact ⟨Nat.zero_le _, fun i h hi => by omega⟩
        · (repeat (first | (with_reducible exact Ent.refl) | exact Ent.nil | (apply ent_pickE; (focus ((repeat (first | (with_reducible exact pk_here) | (apply pk_there))); done))) | apply Ent.drop))
        · rintro j ⟨hj, hall⟩
          by_cases hjl : j < td.length
          · (first | (refine WO_some (.slice p3 td.length c3) inferInstance (by omega) ?_; intro _) | (refine WC_some (.slice p3 td.length c3) inferInstance (by omega) ?_; intro _))
            by_cases he : td[j] = (rs.length : Int) + d
            · have e : raheadB l rs td d = false := by
                have : (rs.length : Int) + d ∈ td := by rw [← he]; exact List.getElem_mem hjl
                simp [raheadB, this]
              repeat (first | rintro _ _ ⟨rfl, rfl⟩ | rintro _ _ ⟨_, rfl, rfl⟩ | rintro _ _ ⟨_, _, rfl, rfl⟩ | intro _ | refine go ?_ | (refine is_draw ?_; apply WC_mix (id := 3) true _ (pl := .p 0 <| .p 1 <| .p 2 <| .p 4 <| .p 5 <| .p 6 <| .p 9 <| .r 3 <| .r 7 <| .p 8 <| .p 10 <| .p 11 <| .r 12 <| .e true [(13, .e true [(14, .done)])]); exact mixed; kernel_rfl; kernel_rfl; exact Ent.refl) | (refine is_draw ?_; refine WC_draw mixed (by kernel_rfl) ?_))
              (apply WE_ret rfl rfl (by (repeat (first | exact ResOk.nil | (apply ResOk.tmp; rfl) | (apply resOk_cell; rfl; exact inferInstance; rfl; rfl)))))
              · exact ⟨by simp [raheadO, e], rfl⟩
              · ((repeat (first | (with_reducible exact Ent.refl) | exact Ent.nil | (apply ent_pickE; (focus ((repeat (first | (with_reducible exact pk_here) | (apply pk_there))); done))) | (apply rcore_in) | apply Ent.drop)); all_goals (first | rfl | (with_reducible assumption) | (simp; done) | (simp; omega) | omega | (constructor <;> (simp) <;> omega)))
            · repeat (first | rintro _ _ ⟨rfl, rfl⟩ | rintro _ _ ⟨_, rfl, rfl⟩ | rintro _ _ ⟨_, _, rfl, rfl⟩ | intro _ | refine go ?_ | (refine is_draw ?_; apply WC_mix (id := 3) true _ (pl := .p 0 <| .p 1 <| .p 2 <| .p 4 <| .p 5 <| .p 6 <| .p 9 <| .r 3 <| .r 7 <| .p 8 <| .p 10 <| .p 11 <| .r 12 <| .e true [(13, .e true [(14, .done)])]); exact mixed; kernel_rfl; kernel_rfl; exact Ent.refl) | (refine is_draw ?_; refine WC_draw mixed (by kernel_rfl) ?_))
              refine WE_loop (j + 1) (by omega) ⟨by omega, fun i h hi => ?_⟩ ?_ ?_
              · by_cases e : i = j
                · subst e; exact he
                · exact hall i h (by omega)
              · (repeat (first | exact Sub.nil | (refine Sub.cons (by first | rfl | (simp only [Nat.zero_add]; rfl)) ?_)))
              · (repeat (first | (with_reducible exact Ent.refl) | exact Ent.nil | (apply ent_pickE; (focus ((repeat (first | (with_reducible exact pk_here) | (apply pk_there))); done))) | apply Ent.drop))
          · have hn : ¬ (rs.length : Int) + d ∈ td := by
              intro hm
              obtain ⟨i, hi, e⟩ := List.getElem_of_mem hm
              exact hall i hi (by omega) e
            by_cases h4 : l[((rs.length : Int) + d).toNat].kind = 4
            · have e : raheadB l rs td d = false := by simp only [raheadB, aheadIn, hg, h4]; simp
              repeat (first | rintro _ _ ⟨rfl, rfl⟩ | rintro _ _ ⟨_, rfl, rfl⟩ | rintro _ _ ⟨_, _, rfl, rfl⟩ | intro _ | refine go ?_ | (refine is_draw ?_; apply WC_mix (id := 3) true _ (pl := .p 0 <| .p 1 <| .p 2 <| .p 4 <| .p 5 <| .p 6 <| .p 9 <| .r 3 <| .r 7 <| .p 8 <| .p 10 <| .p 11 <| .r 12 <| .e true [(13, .e true [(14, .done)])]); exact mixed; kernel_rfl; kernel_rfl; exact Ent.refl) | (refine is_draw ?_; refine WC_draw mixed (by kernel_rfl) ?_))
              (apply WE_ret rfl rfl (by (repeat (first | exact ResOk.nil | (apply ResOk.tmp; rfl) | (apply resOk_cell; rfl; exact inferInstance; rfl; rfl)))))
              · exact ⟨by simp [raheadO, e], rfl⟩
              · ((repeat (first | (with_reducible exact Ent.refl) | exact Ent.nil | (apply ent_pickE; (focus ((repeat (first | (with_reducible exact pk_here) | (apply pk_there))); done))) | (apply rcore_in) | apply Ent.drop)); all_goals (first | rfl | (with_reducible assumption) | (simp; done) | (simp; omega) | omega | (constructor <;> (simp) <;> omega)))
            · have e : raheadB l rs td d = true := by simp only [raheadB, aheadIn, hg, h4, hn]; simp; omega
              repeat (first | rintro _ _ ⟨rfl, rfl⟩ | rintro _ _ ⟨_, rfl, rfl⟩ | rintro _ _ ⟨_, _, rfl, rfl⟩ | intro _ | refine go ?_ | (refine is_draw ?_; apply WC_mix (id := 3) true _ (pl := .p 0 <| .p 1 <| .p 2 <| .p 4 <| .p 5 <| .p 6 <| .p 9 <| .r 3 <| .r 7 <| .p 8 <| .p 10 <| .p 11 <| .r 12 <| .e true [(13, .e true [(14, .done)])]); exact mixed; kernel_rfl; kernel_rfl; exact Ent.refl) | (refine is_draw ?_; refine WC_draw mixed (by kernel_rfl) ?_))
              (apply WE_ret rfl rfl (by (repeat (first | exact ResOk.nil | (apply ResOk.tmp; rfl) | (apply resOk_cell; rfl; exact inferInstance; rfl; rfl)))))
              · exact ⟨by simp only [raheadO, e, if_true, hg]; rfl, rfl⟩
              · ((repeat (first | (with_reducible exact Ent.refl) | exact Ent.nil | (apply ent_pickE; (focus ((repeat (first | (with_reducible exact pk_here) | (apply pk_there))); done))) | (apply rcore_in) | apply Ent.drop)); all_goals (first | rfl | (with_reducible assumption) | (simp; done) | (simp; omega) | omega | (constructor <;> (simp) <;> omega)))

theorem rcore_Try_no {F : List HP} {b : Nat} {l : List Op3} {rs td : List Int} {d : Int} (h : raheadB l rs td d = false) : FnF Try.prog 70 [.pointer (some ⟨b, 0, none⟩), .int .i64 d] [RCoreB b l rs td] F
    (fun r L' => r = .int .i64 5 ∧ L' = [RCoreB b l rs td]) := by
  have hA := fun F => rcore_Ahead (F := F) (b := b) (l := l) (rs := rs) (td := td) (d := d)
  simp only [h] at hA
  refine FnF.mk' Try.func70 rfl rfl Try.ntmps70 rfl ?_
  repeat (first | rintro _ _ ⟨rfl, rfl⟩ | rintro _ _ ⟨_, rfl, rfl⟩ | rintro _ _ ⟨_, _, rfl, rfl⟩ | intro _ | refine go ?_ | (refine is_draw ?_; apply WC_mix (id := 4) false _ (pl := .p 0 <| .p 2 <| .p 3 <| .p 4 <| .p 7 <| .p 8 <| .p 9 <| .p 12 <| .r 5 <| .r 10 <| .p 11 <| .p 13 <| .e true [(1, .e true [(6, .e true [(14, .e true [(15, .p 16 <| .p 17 <| .e true [(18, .done)])])]), (14, .e true [(6, .e true [(15, .p 16 <| .p 17 <| .e true [(18, .done)])])])]), (14, .e true [(1, .e true [(6, .e true [(15, .p 16 <| .p 17 <| .e true [(18, .done)])])])])]); exact mixed; kernel_rfl; kernel_rfl; exact Ent.refl) | (refine is_draw ?_; refine WC_draw mixed (by kernel_rfl) ?_) | refine cal @hA ?_)
  (apply WE_ret rfl rfl (by (repeat (first | exact ResOk.nil | (apply ResOk.tmp; rfl) | (apply resOk_cell; rfl; exact inferInstance; rfl; rfl)))); (first | exact ⟨rfl, rfl⟩ | exact ⟨congrArg Value.bool (by decide), rfl⟩ | exact ⟨_, rfl, rfl⟩ | exact ⟨_, _, rfl, rfl⟩ | exact ⟨by first | (simp []; done) | (simp [] <;> omega), rfl⟩); (repeat (first | exact Ent.refl | exact Ent.nil | apply Ent.pick | apply Ent.drop)))
theorem rcore_Try {F : List HP} {b : Nat} {l : List Op3} {rs td : List Int} {d : Int} (h : raheadB l rs td d = true) (ht : td.length ≤ 1000) : FnF Try.prog 70 [.pointer (some ⟨b, 0, none⟩), .int .i64 d] [RCoreB b l rs td] F
    (fun r L' => r = .int .i64 0 ∧ L' = [RCoreB b l rs (td ++ [(rs.length : Int) + d])]) := by
  have hA := fun F => rcore_Ahead (F := F) (b := b) (l := l) (rs := rs) (td := td) (d := d)
  simp only [h] at hA
  have hI : 1 ≤ d ∧ d ≤ 4 ∧ (rs.length : Int) + d < l.length := by simp [raheadB, aheadIn] at h; omega
  refine FnF.mk' Try.func70 rfl rfl Try.ntmps70 rfl ?_
  repeat (first | rintro _ _ ⟨rfl, rfl⟩ | rintro _ _ ⟨_, rfl, rfl⟩ | rintro _ _ ⟨_, _, rfl, rfl⟩ | intro _ | refine go ?_ | refine cal @hA ?_)
  (first | refine WO_front (RCoreB b l rs td) ?_ | refine WC_front (RCoreB b l rs td) ?_ | refine WE_front (RCoreB b l rs td) ?_)
  first | refine rcore_open fun p1 c1 p2 c2 p3 c3 hl => ?_ | refine rcore_openO fun p1 c1 p2 c2 p3 c3 hl => ?_
  repeat' (first | rintro _ _ ⟨rfl, rfl⟩ | rintro _ _ ⟨_, rfl, rfl⟩ | rintro _ _ ⟨_, _, rfl, rfl⟩ | intro _ | refine go ?_ | (refine is_draw ?_; apply WC_mix (id := 4) false _ (pl := .p 0 <| .p 2 <| .p 3 <| .p 4 <| .p 7 <| .p 8 <| .p 9 <| .p 12 <| .r 5 <| .r 10 <| .p 11 <| .p 13 <| .e true [(1, .e true [(6, .e true [(14, .e true [(15, .p 16 <| .p 17 <| .e true [(18, .done)])])]), (14, .e true [(6, .e true [(15, .p 16 <| .p 17 <| .e true [(18, .done)])])])]), (14, .e true [(1, .e true [(6, .e true [(15, .p 16 <| .p 17 <| .e true [(18, .done)])])])])]); exact mixed; kernel_rfl; kernel_rfl; exact Ent.refl) | (refine is_draw ?_; refine WC_draw mixed (by kernel_rfl) ?_) | refine spl ?_ ?_ | fail)
  all_goals (apply WE_ret rfl rfl (by (repeat (first | exact ResOk.nil | (apply ResOk.tmp; rfl)))))
  all_goals first | exact ⟨rfl, rfl⟩ | (((repeat (first | (with_reducible exact Ent.refl) | exact Ent.nil | (apply ent_pickE; (focus ((repeat (first | (with_reducible exact pk_here) | (apply pk_there))); done))) | (apply rcore_in) | apply Ent.drop)); all_goals (first | rfl | (with_reducible assumption) | (simp; done) | (simp; omega) | omega | (constructor <;> (simp) <;> omega))))
end Go.Sx
