/- The document's nets. My own work. -/
import Derived.Test.YtcjagmphobdbbaaNet2
import Derived.Test.YtcjagmphobdbbaaMsgR2
namespace Go.Sx
open Go Go.Proofs
set_option linter.unusedVariables false
set_option linter.unusedSectionVars false
set_option linter.unusedSimpArgs false
theorem mc_inj {a b : Msg} (h : mc a = mc b) : a = b := by
  obtain ⟨a1, a2, a3, a4, a5, a6, a7, ⟨x0, x1, x2, x3, x4, x5, x6, x7⟩⟩ := a
  obtain ⟨b1, b2, b3, b4, b5, b6, b7, ⟨y0, y1, y2, y3, y4, y5, y6, y7⟩⟩ := b
  simp only [mc, List.cons.injEq, Value.int.injEq, true_and, and_true] at h
  obtain ⟨rfl, rfl, rfl, rfl, rfl, rfl, rfl, rfl, rfl, rfl, rfl, rfl, rfl, rfl, rfl⟩ := h
  rfl
abbrev NQ := (Option Addr × Nat) × (Option Addr × Nat) × (Option Addr × Nat)
abbrev nrcells (c : Cfg) (n : Nets) (p0 : Option Addr) (q0 : Nat) (p1 : Option Addr) (q1 : Nat) (p2 : Option Addr) (q2 : Nat) : List Value := [.int .i64 c.cores, .int .i64 c.homes, .int .i64 c.sets, .int .i64 c.ways, .int .i64 c.words, .int .i64 c.lines, .int .i64 c.pointers, .int .i64 c.mshrs, .int .i64 c.buffer, .int .i64 c.writebacks, .int .i64 c.r0, .int .i64 c.r1, .int .i64 c.r2, .slice p0 n.l0.length q0, .slice p1 n.l1.length q1, .slice p2 n.l2.length q2]
def NetRB (T TM : TypeId) (b : Nat) (c : Cfg) (n : Nets) : HP :=
  Ex fun q : NQ => [Cells b T (nrcells c n q.1.1 q.1.2 q.2.1.1 q.2.1.2 q.2.2.1 q.2.2.2), Own TM 15 (.slice q.1.1 n.l0.length q.1.2) n.l0.length (flat mc n.l0), Own TM 15 (.slice q.2.1.1 n.l1.length q.2.1.2) n.l1.length (flat mc n.l1), Own TM 15 (.slice q.2.2.1 n.l2.length q.2.2.2) n.l2.length (flat mc n.l2),
    Fact (checkB c = true ∧ (n.l0.length : Int) ≤ c.r0 ∧ (n.l1.length : Int) ≤ c.r1 ∧ (n.l2.length : Int) ≤ c.r2)]
theorem nrs0 {c : Cfg} {n : Nets} {p0 p1 p2 p : Option Addr} {q0 q1 q2 k q : Nat} : splice (nrcells c n p0 q0 p1 q1 p2 q2) (13 + Int.toNat 0 * 1) (cellsOf (.slice p k q)) = [.int .i64 c.cores, .int .i64 c.homes, .int .i64 c.sets, .int .i64 c.ways, .int .i64 c.words, .int .i64 c.lines, .int .i64 c.pointers, .int .i64 c.mshrs, .int .i64 c.buffer, .int .i64 c.writebacks, .int .i64 c.r0, .int .i64 c.r1, .int .i64 c.r2, .slice p k q, .slice p1 n.l1.length q1, .slice p2 n.l2.length q2] := rfl
theorem nrs1 {c : Cfg} {n : Nets} {p0 p1 p2 p : Option Addr} {q0 q1 q2 k q : Nat} : splice (nrcells c n p0 q0 p1 q1 p2 q2) (13 + Int.toNat 1 * 1) (cellsOf (.slice p k q)) = [.int .i64 c.cores, .int .i64 c.homes, .int .i64 c.sets, .int .i64 c.ways, .int .i64 c.words, .int .i64 c.lines, .int .i64 c.pointers, .int .i64 c.mshrs, .int .i64 c.buffer, .int .i64 c.writebacks, .int .i64 c.r0, .int .i64 c.r1, .int .i64 c.r2, .slice p0 n.l0.length q0, .slice p k q, .slice p2 n.l2.length q2] := rfl
theorem nrs2 {c : Cfg} {n : Nets} {p0 p1 p2 p : Option Addr} {q0 q1 q2 k q : Nat} : splice (nrcells c n p0 q0 p1 q1 p2 q2) (13 + Int.toNat 2 * 1) (cellsOf (.slice p k q)) = [.int .i64 c.cores, .int .i64 c.homes, .int .i64 c.sets, .int .i64 c.ways, .int .i64 c.words, .int .i64 c.lines, .int .i64 c.pointers, .int .i64 c.mshrs, .int .i64 c.buffer, .int .i64 c.writebacks, .int .i64 c.r0, .int .i64 c.r1, .int .i64 c.r2, .slice p0 n.l0.length q0, .slice p1 n.l1.length q1, .slice p k q] := rfl
theorem netr_in {T TM : TypeId} {b : Nat} {c : Cfg} {n : Nets} {p0 p1 p2 : Option Addr} {q0 q1 q2 k0 k1 k2 : Nat} {x0 x1 x2 : List Value} {L M : List HP}
    (h : Ent L (Cells b T [.int .i64 c.cores, .int .i64 c.homes, .int .i64 c.sets, .int .i64 c.ways, .int .i64 c.words, .int .i64 c.lines, .int .i64 c.pointers, .int .i64 c.mshrs, .int .i64 c.buffer, .int .i64 c.writebacks, .int .i64 c.r0, .int .i64 c.r1, .int .i64 c.r2, .slice p0 k0 q0, .slice p1 k1 q1, .slice p2 k2 q2] :: Own TM 15 (.slice p0 k0 q0) k0 x0 :: Own TM 15 (.slice p1 k1 q1) k1 x1 :: Own TM 15 (.slice p2 k2 q2) k2 x2 :: M))
    (h0 : k0 = n.l0.length) (h1 : k1 = n.l1.length) (h2 : k2 = n.l2.length) (e0 : x0 = flat mc n.l0) (e1 : x1 = flat mc n.l1) (e2 : x2 = flat mc n.l2)
    (hc : checkB c = true) (hn0 : (n.l0.length : Int) ≤ c.r0) (hn1 : (n.l1.length : Int) ≤ c.r1) (hn2 : (n.l2.length : Int) ≤ c.r2) : Ent L (NetRB T TM b c n :: M) := by
  subst h0 h1 h2 e0 e1 e2
  refine Ent.trans h (Ent.trans ?_ (ex_intro (p := fun q : NQ => [Cells b T (nrcells c n q.1.1 q.1.2 q.2.1.1 q.2.1.2 q.2.2.1 q.2.2.2), Own TM 15 (.slice q.1.1 n.l0.length q.1.2) n.l0.length (flat mc n.l0), Own TM 15 (.slice q.2.1.1 n.l1.length q.2.1.2) n.l1.length (flat mc n.l1), Own TM 15 (.slice q.2.2.1 n.l2.length q.2.2.2) n.l2.length (flat mc n.l2),
    Fact (checkB c = true ∧ (n.l0.length : Int) ≤ c.r0 ∧ (n.l1.length : Int) ≤ c.r1 ∧ (n.l2.length : Int) ≤ c.r2)]) ((p0, q0), (p1, q1), (p2, q2))))
  exact Ent.cons (Ent.cons (Ent.cons (Ent.cons (star_fact_mk ⟨hc, hn0, hn1, hn2⟩))))
theorem netr_sat {T TM : TypeId} {b : Nat} {c : Cfg} {n : Nets} {L : List HP} {w : World} (h : Sat (NetRB T TM b c n :: L) w) : ∃ p0 q0 p1 q1 p2 q2, (checkB c = true ∧ (n.l0.length : Int) ≤ c.r0 ∧ (n.l1.length : Int) ≤ c.r1 ∧ (n.l2.length : Int) ≤ c.r2) ∧
    Sat (Cells b T (nrcells c n p0 q0 p1 q1 p2 q2) :: Own TM 15 (.slice p0 n.l0.length q0) n.l0.length (flat mc n.l0) :: Own TM 15 (.slice p1 n.l1.length q1) n.l1.length (flat mc n.l1) :: Own TM 15 (.slice p2 n.l2.length q2) n.l2.length (flat mc n.l2) :: L) w := by
  obtain ⟨⟨⟨p0, q0⟩, ⟨p1, q1⟩, ⟨p2, q2⟩⟩, hx⟩ := star_ex h
  simp only [app] at hx
  have hf := fact_of (star_drop (star_drop (star_drop (star_drop hx))))
  exact ⟨p0, q0, p1, q1, p2, q2, hf, (Ent.cons (Ent.cons (Ent.cons (Ent.cons (Ent.drop Ent.refl))))) _ hx⟩
section
variable {T TM : TypeId} {b : Nat} {c : Cfg} {n : Nets} {P : Program} {N : Nat} {env : Env} {L : List HP} {Q : Exit → Act → World → Prop}
theorem netr_open {co : Code} (h : ∀ p0 q0 p1 q1 p2 q2, (checkB c = true ∧ (n.l0.length : Int) ≤ c.r0 ∧ (n.l1.length : Int) ≤ c.r1 ∧ (n.l2.length : Int) ≤ c.r2) → WC P N co env (Cells b T (nrcells c n p0 q0 p1 q1 p2 q2) :: Own TM 15 (.slice p0 n.l0.length q0) n.l0.length (flat mc n.l0) :: Own TM 15 (.slice p1 n.l1.length q1) n.l1.length (flat mc n.l1) :: Own TM 15 (.slice p2 n.l2.length q2) n.l2.length (flat mc n.l2) :: L) Q) : WC P N co env (NetRB T TM b c n :: L) Q := by
  intro a w ha hw
  obtain ⟨p0, q0, p1, q1, p2, q2, hf, hx⟩ := netr_sat hw
  exact h p0 q0 p1 q1 p2 q2 hf a w ha hx
theorem netr_openO {all : Array Oper} {o : List Oper} (h : ∀ p0 q0 p1 q1 p2 q2, (checkB c = true ∧ (n.l0.length : Int) ≤ c.r0 ∧ (n.l1.length : Int) ≤ c.r1 ∧ (n.l2.length : Int) ≤ c.r2) → WO P N all o env (Cells b T (nrcells c n p0 q0 p1 q1 p2 q2) :: Own TM 15 (.slice p0 n.l0.length q0) n.l0.length (flat mc n.l0) :: Own TM 15 (.slice p1 n.l1.length q1) n.l1.length (flat mc n.l1) :: Own TM 15 (.slice p2 n.l2.length q2) n.l2.length (flat mc n.l2) :: L) Q) : WO P N all o env (NetRB T TM b c n :: L) Q := by
  intro a w ha hw
  obtain ⟨p0, q0, p1, q1, p2, q2, hf, hx⟩ := netr_sat hw
  exact h p0 q0 p1 q1 p2 q2 hf a w ha hx
end
theorem fil_in {base l : List Msg} {i : Nat} (hi : i < l.length) {p : Msg → Bool} (h : p l[i] = true) : (base ++ l.take (i + 1)).filter p = (base ++ l.take i).filter p ++ [l[i]] := by
  rw [List.take_add_one, List.getElem?_eq_getElem hi, ← List.append_assoc, List.filter_append]; simp [h]
theorem fil_out {base l : List Msg} {i : Nat} (hi : i < l.length) {p : Msg → Bool} (h : p l[i] = false) : (base ++ l.take (i + 1)).filter p = (base ++ l.take i).filter p := by
  rw [List.take_add_one, List.getElem?_eq_getElem hi, ← List.append_assoc, List.filter_append]; simp [h]
theorem fil_in0 {l : List Msg} {i : Nat} (hi : i < l.length) {p : Msg → Bool} (h : p l[i] = true) : (l.take (i + 1)).filter p = (l.take i).filter p ++ [l[i]] := fil_in (base := []) hi h
theorem fil_out0 {l : List Msg} {i : Nat} (hi : i < l.length) {p : Msg → Bool} (h : p l[i] = false) : (l.take (i + 1)).filter p = (l.take i).filter p := fil_out (base := []) hi h
set_option maxRecDepth 100000
set_option maxHeartbeats 4000000
attribute [local irreducible] Go.Exit.then Go.Exit.inBlock Go.Code.wp WC WO WE WQ V LoopQ FnQ Sat Star band bor IntKind.wrap WR Code.rounds WT KO
abbrev NetRP := NetRB 49 37

theorem ref07_Same {F : List HP} {v u : Value} {l m : List Msg} (k1 : RdL F 15 v l.length (flat mc l)) (k2 : RdL F 15 u m.length (flat mc m)) (hn : l.length ≤ 1099511627776) : FnF Try.prog 24 [v, u] [] F (fun r L' => r = .bool (decide (l = m)) ∧ L' = []) := by
  refine FnF.mk' Try.func24 rfl rfl Try.ntmps24 rfl ?_
  by_cases e : l.length = m.length
  · repeat (first | rintro _ _ ⟨rfl, rfl⟩ | rintro _ _ ⟨_, rfl, rfl⟩ | rintro _ _ ⟨_, _, rfl, rfl⟩ | intro _ | refine go ?_ | (refine is_draw ?_; refine WC_draw mixed (by kernel_rfl) ?_))
    apply WC_loopE (E0 := [(0, _), (1, _)]) (fun E0 (i : Nat) => (5, .int .i64 i) :: E0) (fun _ => F) (fun i => i ≤ l.length ∧ l.take i = m.take i) (fun i => l.length - i) 0
    · (repeat (first | exact Sub.nil | (refine Sub.cons (by first | rfl | (simp only [Nat.zero_add]; rfl)) ?_)))
    · exact ⟨by omega, rfl⟩
    · exact Ent.refl
    · rintro i ⟨hi, h1⟩
      by_cases hlt : i < l.length
      · have hlt' : i < m.length := by omega
        by_cases he : l[i] = m[i]
        · have he' : ¬ (mc l[i] ≠ mc m[i]) := fun h => h (by rw [he])
          repeat (first | rintro _ _ ⟨rfl, rfl⟩ | rintro _ _ ⟨_, rfl, rfl⟩ | rintro _ _ ⟨_, _, rfl, rfl⟩ | intro _ | refine go ?_ | (refine is_draw ?_; refine WC_draw mixed (by kernel_rfl) ?_))
          refine WE_loop (i + 1) (by omega) ⟨by omega, ?_⟩ ?_ Ent.refl
          · rw [List.take_add_one, List.take_add_one, h1]; simp [hlt, hlt', he]
          · (repeat (first | exact Sub.nil | (refine Sub.cons (by first | rfl | (simp only [Nat.zero_add]; rfl)) ?_)))
        · have he' : mc l[i] ≠ mc m[i] := fun h => he (mc_inj h)
          repeat (first | rintro _ _ ⟨rfl, rfl⟩ | rintro _ _ ⟨_, rfl, rfl⟩ | rintro _ _ ⟨_, _, rfl, rfl⟩ | intro _ | refine go ?_ | (refine is_draw ?_; refine WC_draw mixed (by kernel_rfl) ?_))
          have hne : l ≠ m := fun e => by subst e; exact he rfl
          (apply WE_ret rfl rfl (by (repeat (first | exact ResOk.nil | (apply ResOk.tmp; rfl) | (apply resOk_cell; rfl; exact inferInstance; rfl; rfl)))); (first | exact ⟨rfl, rfl⟩ | exact ⟨congrArg Value.bool (by decide), rfl⟩ | exact ⟨_, rfl, rfl⟩ | exact ⟨_, _, rfl, rfl⟩ | exact ⟨by first | (simp [hne]; done) | (simp [hne] <;> omega), rfl⟩); (repeat (first | exact Ent.refl | exact Ent.nil | apply Ent.pick | apply Ent.drop)))
      · have hil : i = l.length := by omega
        subst hil
        have : l = m := by rw [List.take_length, e, List.take_length] at h1; exact h1
        repeat (first | rintro _ _ ⟨rfl, rfl⟩ | rintro _ _ ⟨_, rfl, rfl⟩ | rintro _ _ ⟨_, _, rfl, rfl⟩ | intro _ | refine go ?_ | (refine is_draw ?_; refine WC_draw mixed (by kernel_rfl) ?_))
        (apply WE_ret rfl rfl (by (repeat (first | exact ResOk.nil | (apply ResOk.tmp; rfl) | (apply resOk_cell; rfl; exact inferInstance; rfl; rfl)))); (first | exact ⟨rfl, rfl⟩ | exact ⟨congrArg Value.bool (by decide), rfl⟩ | exact ⟨_, rfl, rfl⟩ | exact ⟨_, _, rfl, rfl⟩ | exact ⟨by first | (simp [this]; done) | (simp [this] <;> omega), rfl⟩); (repeat (first | exact Ent.refl | exact Ent.nil | apply Ent.pick | apply Ent.drop)))
  · have hne : l ≠ m := fun h => e (by rw [h])
    repeat (first | rintro _ _ ⟨rfl, rfl⟩ | rintro _ _ ⟨_, rfl, rfl⟩ | rintro _ _ ⟨_, _, rfl, rfl⟩ | intro _ | refine go ?_ | (refine is_draw ?_; refine WC_draw mixed (by kernel_rfl) ?_))
    (apply WE_ret rfl rfl (by (repeat (first | exact ResOk.nil | (apply ResOk.tmp; rfl) | (apply resOk_cell; rfl; exact inferInstance; rfl; rfl)))); (first | exact ⟨rfl, rfl⟩ | exact ⟨congrArg Value.bool (by decide), rfl⟩ | exact ⟨_, rfl, rfl⟩ | exact ⟨_, _, rfl, rfl⟩ | exact ⟨by first | (simp [hne]; done) | (simp [hne] <;> omega), rfl⟩); (repeat (first | exact Ent.refl | exact Ent.nil | apply Ent.pick | apply Ent.drop)))
theorem ref07_New {F : List HP} {c : Cfg} (hw : c.wf) (hc : checkB c = true) : FnF Try.prog 15 [c.val] [] F (fun r L' => ∃ b, r = .tuple [.pointer (some ⟨b, 0, none⟩), .int .i64 0].toArray ∧ L' = [NetRP b c .no]) := by
  have hC := fun F => ref01_Check (F := F) hw
  simp only [checkE, hc, if_true] at hC
  have hr : (1 ≤ c.r0 ∧ c.r0 ≤ 4096) ∧ (1 ≤ c.r1 ∧ c.r1 ≤ 4096) ∧ (1 ≤ c.r2 ∧ c.r2 ≤ 4096) := by
    simp only [checkB, fitsB, Bool.and_eq_true, decide_eq_true_eq] at hc
    omega
  refine FnF.mk' Try.func15 rfl rfl Try.ntmps15 rfl ?_
  repeat (first | rintro _ _ ⟨rfl, rfl⟩ | rintro _ _ ⟨_, rfl, rfl⟩ | rintro _ _ ⟨_, _, rfl, rfl⟩ | intro _ | refine go ?_ | (refine is_draw ?_; refine WC_draw mixed (by kernel_rfl) ?_) | refine cal @hC ?_)
  (apply WE_ret rfl rfl (by (repeat (first | exact ResOk.nil | (apply ResOk.tmp; rfl) | (apply resOk_cell; rfl; exact inferInstance; rfl; rfl)))))
  · exact ⟨_, rfl, rfl⟩
  · refine netr_in (n := .no) (Ent.cons (own_empty (own_empty (own_empty (Ent.drop Ent.refl))))) rfl rfl rfl rfl rfl rfl hc ?_ ?_ ?_ <;> (simp; omega)
theorem ref07_New_no {F : List HP} {c : Cfg} (hw : c.wf) (hc : checkB c = false) : FnF Try.prog 15 [c.val] [] F (fun r L' => r = .tuple [.pointer none, .int .i64 1].toArray ∧ L' = []) := by
  have hC := fun F => ref01_Check (F := F) hw
  simp only [checkE, hc, Bool.false_eq_true, if_false] at hC
  refine FnF.mk' Try.func15 rfl rfl Try.ntmps15 rfl ?_
  repeat (first | rintro _ _ ⟨rfl, rfl⟩ | rintro _ _ ⟨_, rfl, rfl⟩ | rintro _ _ ⟨_, _, rfl, rfl⟩ | intro _ | refine go ?_ | (refine is_draw ?_; refine WC_draw mixed (by kernel_rfl) ?_) | refine cal @hC ?_)
  (apply WE_ret rfl rfl (by (repeat (first | exact ResOk.nil | (apply ResOk.tmp; rfl) | (apply resOk_cell; rfl; exact inferInstance; rfl; rfl)))); (first | exact ⟨rfl, rfl⟩ | exact ⟨congrArg Value.bool (by decide), rfl⟩ | exact ⟨_, rfl, rfl⟩ | exact ⟨_, _, rfl, rfl⟩ | exact ⟨by first | (simp []; done) | (simp [] <;> omega), rfl⟩); (repeat (first | exact Ent.refl | exact Ent.nil | apply Ent.pick | apply Ent.drop)))
theorem ref07_Empty {F : List HP} {b : Nat} {c : Cfg} {n : Nets} : FnF Try.prog 27 [.pointer (some ⟨b, 0, none⟩)] [NetRP b c n] F (fun r L' => r = .bool (decide (nall n = [])) ∧ L' = [NetRP b c n]) := by
  refine FnF.mk' Try.func27 rfl rfl Try.ntmps27 rfl ?_
  refine netr_open fun p0 q0 p1 q1 p2 q2 ⟨hc, hn0, hn1, hn2⟩ => ?_
  obtain ⟨r0, r1, r2⟩ := cfg_rooms hc
  repeat (first | rintro _ _ ⟨rfl, rfl⟩ | rintro _ _ ⟨_, rfl, rfl⟩ | rintro _ _ ⟨_, _, rfl, rfl⟩ | intro _ | refine go ?_ | (refine is_draw ?_; refine WC_draw mixed (by kernel_rfl) ?_))
  have h : nall n = [] ↔ (n.l0.length : Int) + n.l1.length + n.l2.length = 0 := by
    unfold nall
    rw [← List.length_eq_zero_iff]; simp only [List.length_append]; omega
  (apply WE_ret rfl rfl (by (repeat (first | exact ResOk.nil | (apply ResOk.tmp; rfl) | (apply resOk_cell; rfl; exact inferInstance; rfl; rfl)))))
  · exact ⟨congrArg Value.bool (decide_eq_decide.2 h.symm), rfl⟩
  · (apply netr_in; (focus ((repeat (first | (with_reducible exact Ent.refl) | exact Ent.nil | (apply ent_pickE; (focus ((repeat (first | (with_reducible exact pk_here) | (apply pk_there))); done))) | apply Ent.drop)); done)); all_goals (first | rfl | (with_reducible assumption) | (simp; done) | (simp; omega) | omega | (constructor <;> (simp) <;> omega)))
theorem ref07_Left {F : List HP} {b : Nat} {c : Cfg} {n : Nets} {k : Int} : FnF Try.prog 19 [.pointer (some ⟨b, 0, none⟩), .int .i64 k] [NetRP b c n] F (fun r L' => r = .int .i64 (nleft c n k) ∧ L' = [NetRP b c n]) := by
  refine FnF.mk' Try.func19 rfl rfl Try.ntmps19 rfl ?_
  refine netr_open fun p0 q0 p1 q1 p2 q2 ⟨hc, hn0, hn1, hn2⟩ => ?_
  obtain ⟨r0, r1, r2⟩ := cfg_rooms hc
  cases h : hasN k with
  | true =>
    rcases hasN_case h with rfl | rfl | rfl
    · repeat (first | rintro _ _ ⟨rfl, rfl⟩ | rintro _ _ ⟨_, rfl, rfl⟩ | rintro _ _ ⟨_, _, rfl, rfl⟩ | intro _ | refine go ?_ | (refine is_draw ?_; refine WC_draw mixed (by kernel_rfl) ?_))
      (apply WE_ret rfl rfl (by (repeat (first | exact ResOk.nil | (apply ResOk.tmp; rfl) | (apply resOk_cell; rfl; exact inferInstance; rfl; rfl)))))
      · exact ⟨rfl, rfl⟩
      · (apply netr_in; (focus ((repeat (first | (with_reducible exact Ent.refl) | exact Ent.nil | (apply ent_pickE; (focus ((repeat (first | (with_reducible exact pk_here) | (apply pk_there))); done))) | apply Ent.drop)); done)); all_goals (first | rfl | (with_reducible assumption) | (simp; done) | (simp; omega) | omega | (constructor <;> (simp) <;> omega)))
    · repeat (first | rintro _ _ ⟨rfl, rfl⟩ | rintro _ _ ⟨_, rfl, rfl⟩ | rintro _ _ ⟨_, _, rfl, rfl⟩ | intro _ | refine go ?_ | (refine is_draw ?_; refine WC_draw mixed (by kernel_rfl) ?_))
      (apply WE_ret rfl rfl (by (repeat (first | exact ResOk.nil | (apply ResOk.tmp; rfl) | (apply resOk_cell; rfl; exact inferInstance; rfl; rfl)))))
      · exact ⟨rfl, rfl⟩
      · (apply netr_in; (focus ((repeat (first | (with_reducible exact Ent.refl) | exact Ent.nil | (apply ent_pickE; (focus ((repeat (first | (with_reducible exact pk_here) | (apply pk_there))); done))) | apply Ent.drop)); done)); all_goals (first | rfl | (with_reducible assumption) | (simp; done) | (simp; omega) | omega | (constructor <;> (simp) <;> omega)))
    · repeat (first | rintro _ _ ⟨rfl, rfl⟩ | rintro _ _ ⟨_, rfl, rfl⟩ | rintro _ _ ⟨_, _, rfl, rfl⟩ | intro _ | refine go ?_ | (refine is_draw ?_; refine WC_draw mixed (by kernel_rfl) ?_))
      (apply WE_ret rfl rfl (by (repeat (first | exact ResOk.nil | (apply ResOk.tmp; rfl) | (apply resOk_cell; rfl; exact inferInstance; rfl; rfl)))))
      · exact ⟨rfl, rfl⟩
      · (apply netr_in; (focus ((repeat (first | (with_reducible exact Ent.refl) | exact Ent.nil | (apply ent_pickE; (focus ((repeat (first | (with_reducible exact pk_here) | (apply pk_there))); done))) | apply Ent.drop)); done)); all_goals (first | rfl | (with_reducible assumption) | (simp; done) | (simp; omega) | omega | (constructor <;> (simp) <;> omega)))
  | false =>
    have h' := h
    simp only [hasN, decide_eq_false_iff_not] at h'
    by_cases h0 : k < 0
    · repeat (first | rintro _ _ ⟨rfl, rfl⟩ | rintro _ _ ⟨_, rfl, rfl⟩ | rintro _ _ ⟨_, _, rfl, rfl⟩ | intro _ | refine go ?_ | (refine is_draw ?_; refine WC_draw mixed (by kernel_rfl) ?_))
      (apply WE_ret rfl rfl (by (repeat (first | exact ResOk.nil | (apply ResOk.tmp; rfl) | (apply resOk_cell; rfl; exact inferInstance; rfl; rfl)))))
      · exact ⟨by simp [nleft, nroom_no h, nget_no h], rfl⟩
      · (apply netr_in; (focus ((repeat (first | (with_reducible exact Ent.refl) | exact Ent.nil | (apply ent_pickE; (focus ((repeat (first | (with_reducible exact pk_here) | (apply pk_there))); done))) | apply Ent.drop)); done)); all_goals (first | rfl | (with_reducible assumption) | (simp; done) | (simp; omega) | omega | (constructor <;> (simp) <;> omega)))
    · repeat (first | rintro _ _ ⟨rfl, rfl⟩ | rintro _ _ ⟨_, rfl, rfl⟩ | rintro _ _ ⟨_, _, rfl, rfl⟩ | intro _ | refine go ?_ | (refine is_draw ?_; refine WC_draw mixed (by kernel_rfl) ?_))
      (apply WE_ret rfl rfl (by (repeat (first | exact ResOk.nil | (apply ResOk.tmp; rfl) | (apply resOk_cell; rfl; exact inferInstance; rfl; rfl)))))
      · exact ⟨by simp [nleft, nroom_no h, nget_no h], rfl⟩
      · (apply netr_in; (focus ((repeat (first | (with_reducible exact Ent.refl) | exact Ent.nil | (apply ent_pickE; (focus ((repeat (first | (with_reducible exact pk_here) | (apply pk_there))); done))) | apply Ent.drop)); done)); all_goals (first | rfl | (with_reducible assumption) | (simp; done) | (simp; omega) | omega | (constructor <;> (simp) <;> omega)))
theorem ref07_At {F : List HP} {b : Nat} {c : Cfg} {n : Nets} {k i : Int} : FnF Try.prog 17 [.pointer (some ⟨b, 0, none⟩), .int .i64 k, .int .i64 i] [NetRP b c n] F (fun r L' => r = .tuple [mv (natM n k i), .bool (natB n k i)].toArray ∧ L' = [NetRP b c n]) := by
  refine FnF.mk' Try.func17 rfl rfl Try.ntmps17 rfl ?_
  refine netr_open fun p0 q0 p1 q1 p2 q2 ⟨hc, hn0, hn1, hn2⟩ => ?_
  obtain ⟨r0, r1, r2⟩ := cfg_rooms hc
  cases h : hasN k with
  | true =>
    rcases hasN_case h with rfl | rfl | rfl
    · cases e : inL n.l0 i with
      | true =>
        obtain ⟨h1, h2⟩ := inL_iff.1 e
        obtain ⟨i, rfl⟩ : ∃ j : Nat, i = j := ⟨i.toNat, by omega⟩
        have hi : i < n.l0.length := by omega
        have e1 : natM n 0 i = n.l0[i] := by show atL .zero n.l0 i = _; simp [atL, e, hi]
        have e2 : natB n 0 i = true := e
        repeat (first | rintro _ _ ⟨rfl, rfl⟩ | rintro _ _ ⟨_, rfl, rfl⟩ | rintro _ _ ⟨_, _, rfl, rfl⟩ | intro _ | refine go ?_ | (refine is_draw ?_; refine WC_draw mixed (by kernel_rfl) ?_))
        (apply WE_ret rfl rfl (by (repeat (first | exact ResOk.nil | (apply ResOk.tmp; rfl) | (apply resOk_cell; rfl; exact inferInstance; rfl; rfl)))))
        · rw [e1, e2]; exact ⟨rfl, rfl⟩
        · (apply netr_in; (focus ((repeat (first | (with_reducible exact Ent.refl) | exact Ent.nil | (apply ent_pickE; (focus ((repeat (first | (with_reducible exact pk_here) | (apply pk_there))); done))) | apply Ent.drop)); done)); all_goals (first | rfl | (with_reducible assumption) | (simp; done) | (simp; omega) | omega | (constructor <;> (simp) <;> omega)))
      | false =>
        have e0 := inL_not.1 e
        have e1 : natM n 0 i = .zero := by show atL .zero n.l0 i = _; simp [atL, e]
        have e2 : natB n 0 i = false := e
        by_cases h0 : i < 0
        · repeat (first | rintro _ _ ⟨rfl, rfl⟩ | rintro _ _ ⟨_, rfl, rfl⟩ | rintro _ _ ⟨_, _, rfl, rfl⟩ | intro _ | refine go ?_ | (refine is_draw ?_; refine WC_draw mixed (by kernel_rfl) ?_))
          (apply WE_ret rfl rfl (by (repeat (first | exact ResOk.nil | (apply ResOk.tmp; rfl) | (apply resOk_cell; rfl; exact inferInstance; rfl; rfl)))))
          · rw [e1, e2]; exact ⟨rfl, rfl⟩
          · (apply netr_in; (focus ((repeat (first | (with_reducible exact Ent.refl) | exact Ent.nil | (apply ent_pickE; (focus ((repeat (first | (with_reducible exact pk_here) | (apply pk_there))); done))) | apply Ent.drop)); done)); all_goals (first | rfl | (with_reducible assumption) | (simp; done) | (simp; omega) | omega | (constructor <;> (simp) <;> omega)))
        · repeat (first | rintro _ _ ⟨rfl, rfl⟩ | rintro _ _ ⟨_, rfl, rfl⟩ | rintro _ _ ⟨_, _, rfl, rfl⟩ | intro _ | refine go ?_ | (refine is_draw ?_; refine WC_draw mixed (by kernel_rfl) ?_))
          (apply WE_ret rfl rfl (by (repeat (first | exact ResOk.nil | (apply ResOk.tmp; rfl) | (apply resOk_cell; rfl; exact inferInstance; rfl; rfl)))))
          · rw [e1, e2]; exact ⟨rfl, rfl⟩
          · (apply netr_in; (focus ((repeat (first | (with_reducible exact Ent.refl) | exact Ent.nil | (apply ent_pickE; (focus ((repeat (first | (with_reducible exact pk_here) | (apply pk_there))); done))) | apply Ent.drop)); done)); all_goals (first | rfl | (with_reducible assumption) | (simp; done) | (simp; omega) | omega | (constructor <;> (simp) <;> omega)))
    · cases e : inL n.l1 i with
      | true =>
        obtain ⟨h1, h2⟩ := inL_iff.1 e
        obtain ⟨i, rfl⟩ : ∃ j : Nat, i = j := ⟨i.toNat, by omega⟩
        have hi : i < n.l1.length := by omega
        have e1 : natM n 1 i = n.l1[i] := by show atL .zero n.l1 i = _; simp [atL, e, hi]
        have e2 : natB n 1 i = true := e
        repeat (first | rintro _ _ ⟨rfl, rfl⟩ | rintro _ _ ⟨_, rfl, rfl⟩ | rintro _ _ ⟨_, _, rfl, rfl⟩ | intro _ | refine go ?_ | (refine is_draw ?_; refine WC_draw mixed (by kernel_rfl) ?_))
        (apply WE_ret rfl rfl (by (repeat (first | exact ResOk.nil | (apply ResOk.tmp; rfl) | (apply resOk_cell; rfl; exact inferInstance; rfl; rfl)))))
        · rw [e1, e2]; exact ⟨rfl, rfl⟩
        · (apply netr_in; (focus ((repeat (first | (with_reducible exact Ent.refl) | exact Ent.nil | (apply ent_pickE; (focus ((repeat (first | (with_reducible exact pk_here) | (apply pk_there))); done))) | apply Ent.drop)); done)); all_goals (first | rfl | (with_reducible assumption) | (simp; done) | (simp; omega) | omega | (constructor <;> (simp) <;> omega)))
      | false =>
        have e0 := inL_not.1 e
        have e1 : natM n 1 i = .zero := by show atL .zero n.l1 i = _; simp [atL, e]
        have e2 : natB n 1 i = false := e
        by_cases h0 : i < 0
        · repeat (first | rintro _ _ ⟨rfl, rfl⟩ | rintro _ _ ⟨_, rfl, rfl⟩ | rintro _ _ ⟨_, _, rfl, rfl⟩ | intro _ | refine go ?_ | (refine is_draw ?_; refine WC_draw mixed (by kernel_rfl) ?_))
          (apply WE_ret rfl rfl (by (repeat (first | exact ResOk.nil | (apply ResOk.tmp; rfl) | (apply resOk_cell; rfl; exact inferInstance; rfl; rfl)))))
          · rw [e1, e2]; exact ⟨rfl, rfl⟩
          · (apply netr_in; (focus ((repeat (first | (with_reducible exact Ent.refl) | exact Ent.nil | (apply ent_pickE; (focus ((repeat (first | (with_reducible exact pk_here) | (apply pk_there))); done))) | apply Ent.drop)); done)); all_goals (first | rfl | (with_reducible assumption) | (simp; done) | (simp; omega) | omega | (constructor <;> (simp) <;> omega)))
        · repeat (first | rintro _ _ ⟨rfl, rfl⟩ | rintro _ _ ⟨_, rfl, rfl⟩ | rintro _ _ ⟨_, _, rfl, rfl⟩ | intro _ | refine go ?_ | (refine is_draw ?_; refine WC_draw mixed (by kernel_rfl) ?_))
          (apply WE_ret rfl rfl (by (repeat (first | exact ResOk.nil | (apply ResOk.tmp; rfl) | (apply resOk_cell; rfl; exact inferInstance; rfl; rfl)))))
          · rw [e1, e2]; exact ⟨rfl, rfl⟩
          · (apply netr_in; (focus ((repeat (first | (with_reducible exact Ent.refl) | exact Ent.nil | (apply ent_pickE; (focus ((repeat (first | (with_reducible exact pk_here) | (apply pk_there))); done))) | apply Ent.drop)); done)); all_goals (first | rfl | (with_reducible assumption) | (simp; done) | (simp; omega) | omega | (constructor <;> (simp) <;> omega)))
    · cases e : inL n.l2 i with
      | true =>
        obtain ⟨h1, h2⟩ := inL_iff.1 e
        obtain ⟨i, rfl⟩ : ∃ j : Nat, i = j := ⟨i.toNat, by omega⟩
        have hi : i < n.l2.length := by omega
        have e1 : natM n 2 i = n.l2[i] := by show atL .zero n.l2 i = _; simp [atL, e, hi]
        have e2 : natB n 2 i = true := e
        repeat (first | rintro _ _ ⟨rfl, rfl⟩ | rintro _ _ ⟨_, rfl, rfl⟩ | rintro _ _ ⟨_, _, rfl, rfl⟩ | intro _ | refine go ?_ | (refine is_draw ?_; refine WC_draw mixed (by kernel_rfl) ?_))
        (apply WE_ret rfl rfl (by (repeat (first | exact ResOk.nil | (apply ResOk.tmp; rfl) | (apply resOk_cell; rfl; exact inferInstance; rfl; rfl)))))
        · rw [e1, e2]; exact ⟨rfl, rfl⟩
        · (apply netr_in; (focus ((repeat (first | (with_reducible exact Ent.refl) | exact Ent.nil | (apply ent_pickE; (focus ((repeat (first | (with_reducible exact pk_here) | (apply pk_there))); done))) | apply Ent.drop)); done)); all_goals (first | rfl | (with_reducible assumption) | (simp; done) | (simp; omega) | omega | (constructor <;> (simp) <;> omega)))
      | false =>
        have e0 := inL_not.1 e
        have e1 : natM n 2 i = .zero := by show atL .zero n.l2 i = _; simp [atL, e]
        have e2 : natB n 2 i = false := e
        by_cases h0 : i < 0
        · repeat (first | rintro _ _ ⟨rfl, rfl⟩ | rintro _ _ ⟨_, rfl, rfl⟩ | rintro _ _ ⟨_, _, rfl, rfl⟩ | intro _ | refine go ?_ | (refine is_draw ?_; refine WC_draw mixed (by kernel_rfl) ?_))
          (apply WE_ret rfl rfl (by (repeat (first | exact ResOk.nil | (apply ResOk.tmp; rfl) | (apply resOk_cell; rfl; exact inferInstance; rfl; rfl)))))
          · rw [e1, e2]; exact ⟨rfl, rfl⟩
          · (apply netr_in; (focus ((repeat (first | (with_reducible exact Ent.refl) | exact Ent.nil | (apply ent_pickE; (focus ((repeat (first | (with_reducible exact pk_here) | (apply pk_there))); done))) | apply Ent.drop)); done)); all_goals (first | rfl | (with_reducible assumption) | (simp; done) | (simp; omega) | omega | (constructor <;> (simp) <;> omega)))
        · repeat (first | rintro _ _ ⟨rfl, rfl⟩ | rintro _ _ ⟨_, rfl, rfl⟩ | rintro _ _ ⟨_, _, rfl, rfl⟩ | intro _ | refine go ?_ | (refine is_draw ?_; refine WC_draw mixed (by kernel_rfl) ?_))
          (apply WE_ret rfl rfl (by (repeat (first | exact ResOk.nil | (apply ResOk.tmp; rfl) | (apply resOk_cell; rfl; exact inferInstance; rfl; rfl)))))
          · rw [e1, e2]; exact ⟨rfl, rfl⟩
          · (apply netr_in; (focus ((repeat (first | (with_reducible exact Ent.refl) | exact Ent.nil | (apply ent_pickE; (focus ((repeat (first | (with_reducible exact pk_here) | (apply pk_there))); done))) | apply Ent.drop)); done)); all_goals (first | rfl | (with_reducible assumption) | (simp; done) | (simp; omega) | omega | (constructor <;> (simp) <;> omega)))
  | false =>
    have h' := h
    simp only [hasN, decide_eq_false_iff_not] at h'
    have e1 : natM n k i = .zero := by simp [natM, nget_no h, atL, inL]
    have e2 : natB n k i = false := by simp [natB, nget_no h, inL]
    by_cases h0 : k < 0
    · repeat (first | rintro _ _ ⟨rfl, rfl⟩ | rintro _ _ ⟨_, rfl, rfl⟩ | rintro _ _ ⟨_, _, rfl, rfl⟩ | intro _ | refine go ?_ | (refine is_draw ?_; refine WC_draw mixed (by kernel_rfl) ?_))
      (apply WE_ret rfl rfl (by (repeat (first | exact ResOk.nil | (apply ResOk.tmp; rfl) | (apply resOk_cell; rfl; exact inferInstance; rfl; rfl)))))
      · rw [e1, e2]; exact ⟨rfl, rfl⟩
      · (apply netr_in; (focus ((repeat (first | (with_reducible exact Ent.refl) | exact Ent.nil | (apply ent_pickE; (focus ((repeat (first | (with_reducible exact pk_here) | (apply pk_there))); done))) | apply Ent.drop)); done)); all_goals (first | rfl | (with_reducible assumption) | (simp; done) | (simp; omega) | omega | (constructor <;> (simp) <;> omega)))
    · repeat (first | rintro _ _ ⟨rfl, rfl⟩ | rintro _ _ ⟨_, rfl, rfl⟩ | rintro _ _ ⟨_, _, rfl, rfl⟩ | intro _ | refine go ?_ | (refine is_draw ?_; refine WC_draw mixed (by kernel_rfl) ?_))
      (apply WE_ret rfl rfl (by (repeat (first | exact ResOk.nil | (apply ResOk.tmp; rfl) | (apply resOk_cell; rfl; exact inferInstance; rfl; rfl)))))
      · rw [e1, e2]; exact ⟨rfl, rfl⟩
      · (apply netr_in; (focus ((repeat (first | (with_reducible exact Ent.refl) | exact Ent.nil | (apply ent_pickE; (focus ((repeat (first | (with_reducible exact pk_here) | (apply pk_there))); done))) | apply Ent.drop)); done)); all_goals (first | rfl | (with_reducible assumption) | (simp; done) | (simp; omega) | omega | (constructor <;> (simp) <;> omega)))
theorem ref07_Take {F : List HP} {b : Nat} {c : Cfg} {n : Nets} {k i : Int} : FnF Try.prog 23 [.pointer (some ⟨b, 0, none⟩), .int .i64 k, .int .i64 i] [NetRP b c n] F (fun r L' => r = .tuple [mv (natM n k i), .int .i64 (ntakeE n k i)].toArray ∧ L' = [NetRP b c (ntakeN n k i)]) := by
  have hA := fun F => ref07_At (F := F) (b := b) (c := c) (n := n) (k := k) (i := i)
  refine FnF.mk' Try.func23 rfl rfl Try.ntmps23 rfl ?_
  cases e0 : natB n k i with
  | false =>
    have e1 : ntakeE n k i = 5 := by have e0' : inL (nget n k) i = false := e0; simp [ntakeE, takeE, e0']
    have e3 : natM n k i = .zero := by have e0' : inL (nget n k) i = false := e0; simp [natM, atL, e0']
    have e2 : ntakeN n k i = n := by
      have e0' : inL (nget n k) i = false := e0
      unfold ntakeN takeL; rw [e0']; simp only [Bool.false_eq_true, if_false]
      cases h : hasN k with
      | false => exact nset_no h
      | true => rcases hasN_case h with rfl | rfl | rfl <;> rfl
    rw [e1, e2, e3]
    simp only [e0, e3] at hA
    repeat (first | rintro _ _ ⟨rfl, rfl⟩ | rintro _ _ ⟨_, rfl, rfl⟩ | rintro _ _ ⟨_, _, rfl, rfl⟩ | intro _ | refine go ?_ | (refine is_draw ?_; refine WC_draw mixed (by kernel_rfl) ?_) | refine cal @hA ?_)
    (apply WE_ret rfl rfl (by (repeat (first | exact ResOk.nil | (apply ResOk.tmp; rfl) | (apply resOk_cell; rfl; exact inferInstance; rfl; rfl)))))
    · exact ⟨rfl, rfl⟩
    · (repeat (first | (with_reducible exact Ent.refl) | exact Ent.nil | (apply ent_pickE; (focus ((repeat (first | (with_reducible exact pk_here) | (apply pk_there))); done))) | apply Ent.drop))
  | true =>
    have e0' : inL (nget n k) i = true := e0
    have hh : hasN k = true := by
      cases h : hasN k with
      | true => rfl
      | false => have := inL_iff.1 e0'; rw [nget_no h] at this; simp only [List.length_nil] at this; omega
    obtain ⟨g1, g2⟩ := inL_iff.1 e0'
    obtain ⟨j, rfl⟩ : ∃ j : Nat, i = j := ⟨i.toNat, by omega⟩
    have e1 : ntakeE n k j = 0 := by simp [ntakeE, takeE, e0']
    simp only [e0] at hA
    rw [e1]
    rcases hasN_case hh with rfl | rfl | rfl
    · have g2' : (j : Int) < n.l0.length := g2
      have e3 : natM n 0 j = n.l0[j] := by show atL .zero n.l0 j = _; have e0'' : inL n.l0 j = true := e0'; simp [atL, e0'', show j < n.l0.length by omega]
      have e2 : ntakeN n 0 j = ⟨n.l0.eraseIdx j, n.l1, n.l2⟩ := by have e0'' : inL n.l0 j = true := e0'; simp [ntakeN, nset, nget, takeL, e0'']
      rw [e2, e3]
      simp only [e3] at hA
      repeat (first | rintro _ _ ⟨rfl, rfl⟩ | rintro _ _ ⟨_, rfl, rfl⟩ | rintro _ _ ⟨_, _, rfl, rfl⟩ | intro _ | refine go ?_ | (refine is_draw ?_; refine WC_draw mixed (by kernel_rfl) ?_) | refine cal @hA ?_)
      (first | refine WO_front (NetRP b c n) ?_ | refine WC_front (NetRP b c n) ?_ | refine WE_front (NetRP b c n) ?_)
      refine netr_open fun p0 q0 p1 q1 p2 q2 ⟨hc, hn0, hn1, hn2⟩ => ?_
      obtain ⟨r0, r1, r2⟩ := cfg_rooms hc
      repeat (first | rintro _ _ ⟨rfl, rfl⟩ | rintro _ _ ⟨_, rfl, rfl⟩ | rintro _ _ ⟨_, _, rfl, rfl⟩ | intro _ | refine go ?_ | (refine is_draw ?_; refine WC_draw mixed (by kernel_rfl) ?_))
      rename_i b6 b8 bo _
      apply WC_loopE (E0 := [(0, _), (1, _), (2, _), (6, _), (8, _)]) (fun E0 (q : Nat × Option Addr × Nat) => (11, .int .i64 q.1) :: (10, .slice q.2.1 ((n.l0.take q.1).eraseIdx j).length q.2.2) :: E0)
        (fun q => Own 37 15 (.slice q.2.1 ((n.l0.take q.1).eraseIdx j).length q.2.2) ((n.l0.take q.1).eraseIdx j).length (flat mc ((n.l0.take q.1).eraseIdx j)) :: Cells b8 37 (mc n.l0[j]) :: Cells b6 37 (mc .zero) :: Cells b 49 (nrcells c n p0 q0 p1 q1 p2 q2) :: Own 37 15 (.slice p0 n.l0.length q0) n.l0.length (flat mc n.l0) :: Own 37 15 (.slice p1 n.l1.length q1) n.l1.length (flat mc n.l1) :: Own 37 15 (.slice p2 n.l2.length q2) n.l2.length (flat mc n.l2) :: F) (fun q => q.1 ≤ n.l0.length) (fun q => n.l0.length - q.1) (0, some ⟨bo, 0, none⟩, 0)
      · (repeat (first | exact Sub.nil | (refine Sub.cons (by first | rfl | (simp only [Nat.zero_add]; rfl)) ?_)))
      · exact Nat.zero_le _
      · dsimp only; simp only [List.take_zero, List.eraseIdx_nil, List.length_nil, flat_nil]; (repeat (first | (with_reducible exact Ent.refl) | exact Ent.nil | (apply ent_pickE; (focus ((repeat (first | (with_reducible exact pk_here) | (apply pk_there))); done))) | apply Ent.drop))
      · rintro ⟨i, p', c'⟩ hi
        dsimp only at hi ⊢
        have hlen := erase_len (n.l0.take i) j
        rw [List.length_take] at hlen
        by_cases hlt : i < n.l0.length
        · by_cases he : i = j
          · repeat (first | rintro _ _ ⟨rfl, rfl⟩ | rintro _ _ ⟨_, rfl, rfl⟩ | rintro _ _ ⟨_, _, rfl, rfl⟩ | intro _ | refine go ?_ | (refine is_draw ?_; refine WC_draw mixed (by kernel_rfl) ?_))
            refine WE_loop (i + 1, p', c') (by first | omega | (dsimp only; omega)) (by first | omega | (dsimp only; omega)) ?_ ?_
            · dsimp only; rw [take_erase n.l0 j i hlt, if_pos he]; (repeat (first | exact Sub.nil | (refine Sub.cons (by first | rfl | (simp only [Nat.zero_add]; rfl)) ?_)))
            · dsimp only; rw [take_erase n.l0 j i hlt, if_pos he]; exact Ent.refl
          · repeat (first | rintro _ _ ⟨rfl, rfl⟩ | rintro _ _ ⟨_, rfl, rfl⟩ | rintro _ _ ⟨_, _, rfl, rfl⟩ | intro _ | refine go ?_ | (refine is_draw ?_; refine WC_draw mixed (by kernel_rfl) ?_))
            rename_i p2' c2'
            refine WE_loop (i + 1, p2', c2') (by first | omega | (dsimp only; omega)) (by first | omega | (dsimp only; omega)) ?_ ?_
            · dsimp only; rw [take_erase n.l0 j i hlt, if_neg he]
              rw [List.length_append, List.length_singleton]
              (repeat (first | exact Sub.nil | (refine Sub.cons (by first | rfl | (simp only [Nat.zero_add]; rfl)) ?_)))
            · dsimp only; rw [take_erase n.l0 j i hlt, if_neg he]
              rw [List.length_append, List.length_singleton, flat_append, flat_one]
              (repeat (first | (with_reducible exact Ent.refl) | exact Ent.nil | (apply ent_pickE; (focus ((repeat (first | (with_reducible exact pk_here) | (apply pk_there))); done))) | apply Ent.drop))
        · have hil : i = n.l0.length := by omega
          subst hil
          rw [List.take_length]
          repeat (first | rintro _ _ ⟨rfl, rfl⟩ | rintro _ _ ⟨_, rfl, rfl⟩ | rintro _ _ ⟨_, _, rfl, rfl⟩ | intro _ | refine go ?_ | (refine is_draw ?_; refine WC_draw mixed (by kernel_rfl) ?_))
          have hlen := erase_len n.l0 j
          (apply WE_ret rfl rfl (by (repeat (first | exact ResOk.nil | (apply ResOk.tmp; rfl) | (apply resOk_cell; rfl; exact inferInstance; rfl; rfl)))))
          · exact ⟨rfl, rfl⟩
          · change Ent (_ :: _ :: _ :: Cells b 49 [.int .i64 c.cores, .int .i64 c.homes, .int .i64 c.sets, .int .i64 c.ways, .int .i64 c.words, .int .i64 c.lines, .int .i64 c.pointers, .int .i64 c.mshrs, .int .i64 c.buffer, .int .i64 c.writebacks, .int .i64 c.r0, .int .i64 c.r1, .int .i64 c.r2, .slice p' (n.l0.eraseIdx j).length c', .slice p1 n.l1.length q1, .slice p2 n.l2.length q2] :: _) _
            (apply netr_in; (focus ((repeat (first | (with_reducible exact Ent.refl) | exact Ent.nil | (apply ent_pickE; (focus ((repeat (first | (with_reducible exact pk_here) | (apply pk_there))); done))) | apply Ent.drop)); done)); all_goals (first | rfl | (with_reducible assumption) | (simp; done) | (simp; omega) | omega | (constructor <;> (simp) <;> omega)))
    · have g2' : (j : Int) < n.l1.length := g2
      have e3 : natM n 1 j = n.l1[j] := by show atL .zero n.l1 j = _; have e0'' : inL n.l1 j = true := e0'; simp [atL, e0'', show j < n.l1.length by omega]
      have e2 : ntakeN n 1 j = ⟨n.l0, n.l1.eraseIdx j, n.l2⟩ := by have e0'' : inL n.l1 j = true := e0'; simp [ntakeN, nset, nget, takeL, e0'']
      rw [e2, e3]
      simp only [e3] at hA
      repeat (first | rintro _ _ ⟨rfl, rfl⟩ | rintro _ _ ⟨_, rfl, rfl⟩ | rintro _ _ ⟨_, _, rfl, rfl⟩ | intro _ | refine go ?_ | (refine is_draw ?_; refine WC_draw mixed (by kernel_rfl) ?_) | refine cal @hA ?_)
      (first | refine WO_front (NetRP b c n) ?_ | refine WC_front (NetRP b c n) ?_ | refine WE_front (NetRP b c n) ?_)
      refine netr_open fun p0 q0 p1 q1 p2 q2 ⟨hc, hn0, hn1, hn2⟩ => ?_
      obtain ⟨r0, r1, r2⟩ := cfg_rooms hc
      repeat (first | rintro _ _ ⟨rfl, rfl⟩ | rintro _ _ ⟨_, rfl, rfl⟩ | rintro _ _ ⟨_, _, rfl, rfl⟩ | intro _ | refine go ?_ | (refine is_draw ?_; refine WC_draw mixed (by kernel_rfl) ?_))
      rename_i b6 b8 bo _
      apply WC_loopE (E0 := [(0, _), (1, _), (2, _), (6, _), (8, _)]) (fun E0 (q : Nat × Option Addr × Nat) => (11, .int .i64 q.1) :: (10, .slice q.2.1 ((n.l1.take q.1).eraseIdx j).length q.2.2) :: E0)
        (fun q => Own 37 15 (.slice q.2.1 ((n.l1.take q.1).eraseIdx j).length q.2.2) ((n.l1.take q.1).eraseIdx j).length (flat mc ((n.l1.take q.1).eraseIdx j)) :: Cells b8 37 (mc n.l1[j]) :: Cells b6 37 (mc .zero) :: Cells b 49 (nrcells c n p0 q0 p1 q1 p2 q2) :: Own 37 15 (.slice p0 n.l0.length q0) n.l0.length (flat mc n.l0) :: Own 37 15 (.slice p1 n.l1.length q1) n.l1.length (flat mc n.l1) :: Own 37 15 (.slice p2 n.l2.length q2) n.l2.length (flat mc n.l2) :: F) (fun q => q.1 ≤ n.l1.length) (fun q => n.l1.length - q.1) (0, some ⟨bo, 0, none⟩, 0)
      · (repeat (first | exact Sub.nil | (refine Sub.cons (by first | rfl | (simp only [Nat.zero_add]; rfl)) ?_)))
      · exact Nat.zero_le _
      · dsimp only; simp only [List.take_zero, List.eraseIdx_nil, List.length_nil, flat_nil]; (repeat (first | (with_reducible exact Ent.refl) | exact Ent.nil | (apply ent_pickE; (focus ((repeat (first | (with_reducible exact pk_here) | (apply pk_there))); done))) | apply Ent.drop))
      · rintro ⟨i, p', c'⟩ hi
        dsimp only at hi ⊢
        have hlen := erase_len (n.l1.take i) j
        rw [List.length_take] at hlen
        by_cases hlt : i < n.l1.length
        · by_cases he : i = j
          · repeat (first | rintro _ _ ⟨rfl, rfl⟩ | rintro _ _ ⟨_, rfl, rfl⟩ | rintro _ _ ⟨_, _, rfl, rfl⟩ | intro _ | refine go ?_ | (refine is_draw ?_; refine WC_draw mixed (by kernel_rfl) ?_))
            refine WE_loop (i + 1, p', c') (by first | omega | (dsimp only; omega)) (by first | omega | (dsimp only; omega)) ?_ ?_
            · dsimp only; rw [take_erase n.l1 j i hlt, if_pos he]; (repeat (first | exact Sub.nil | (refine Sub.cons (by first | rfl | (simp only [Nat.zero_add]; rfl)) ?_)))
            · dsimp only; rw [take_erase n.l1 j i hlt, if_pos he]; exact Ent.refl
          · repeat (first | rintro _ _ ⟨rfl, rfl⟩ | rintro _ _ ⟨_, rfl, rfl⟩ | rintro _ _ ⟨_, _, rfl, rfl⟩ | intro _ | refine go ?_ | (refine is_draw ?_; refine WC_draw mixed (by kernel_rfl) ?_))
            rename_i p2' c2'
            refine WE_loop (i + 1, p2', c2') (by first | omega | (dsimp only; omega)) (by first | omega | (dsimp only; omega)) ?_ ?_
            · dsimp only; rw [take_erase n.l1 j i hlt, if_neg he]
              rw [List.length_append, List.length_singleton]
              (repeat (first | exact Sub.nil | (refine Sub.cons (by first | rfl | (simp only [Nat.zero_add]; rfl)) ?_)))
            · dsimp only; rw [take_erase n.l1 j i hlt, if_neg he]
              rw [List.length_append, List.length_singleton, flat_append, flat_one]
              (repeat (first | (with_reducible exact Ent.refl) | exact Ent.nil | (apply ent_pickE; (focus ((repeat (first | (with_reducible exact pk_here) | (apply pk_there))); done))) | apply Ent.drop))
        · have hil : i = n.l1.length := by omega
          subst hil
          rw [List.take_length]
          repeat (first | rintro _ _ ⟨rfl, rfl⟩ | rintro _ _ ⟨_, rfl, rfl⟩ | rintro _ _ ⟨_, _, rfl, rfl⟩ | intro _ | refine go ?_ | (refine is_draw ?_; refine WC_draw mixed (by kernel_rfl) ?_))
          have hlen := erase_len n.l1 j
          (apply WE_ret rfl rfl (by (repeat (first | exact ResOk.nil | (apply ResOk.tmp; rfl) | (apply resOk_cell; rfl; exact inferInstance; rfl; rfl)))))
          · exact ⟨rfl, rfl⟩
          · change Ent (_ :: _ :: _ :: Cells b 49 [.int .i64 c.cores, .int .i64 c.homes, .int .i64 c.sets, .int .i64 c.ways, .int .i64 c.words, .int .i64 c.lines, .int .i64 c.pointers, .int .i64 c.mshrs, .int .i64 c.buffer, .int .i64 c.writebacks, .int .i64 c.r0, .int .i64 c.r1, .int .i64 c.r2, .slice p0 n.l0.length q0, .slice p' (n.l1.eraseIdx j).length c', .slice p2 n.l2.length q2] :: _) _
            (apply netr_in; (focus ((repeat (first | (with_reducible exact Ent.refl) | exact Ent.nil | (apply ent_pickE; (focus ((repeat (first | (with_reducible exact pk_here) | (apply pk_there))); done))) | apply Ent.drop)); done)); all_goals (first | rfl | (with_reducible assumption) | (simp; done) | (simp; omega) | omega | (constructor <;> (simp) <;> omega)))
    · have g2' : (j : Int) < n.l2.length := g2
      have e3 : natM n 2 j = n.l2[j] := by show atL .zero n.l2 j = _; have e0'' : inL n.l2 j = true := e0'; simp [atL, e0'', show j < n.l2.length by omega]
      have e2 : ntakeN n 2 j = ⟨n.l0, n.l1, n.l2.eraseIdx j⟩ := by have e0'' : inL n.l2 j = true := e0'; simp [ntakeN, nset, nget, takeL, e0'']
      rw [e2, e3]
      simp only [e3] at hA
      repeat (first | rintro _ _ ⟨rfl, rfl⟩ | rintro _ _ ⟨_, rfl, rfl⟩ | rintro _ _ ⟨_, _, rfl, rfl⟩ | intro _ | refine go ?_ | (refine is_draw ?_; refine WC_draw mixed (by kernel_rfl) ?_) | refine cal @hA ?_)
      (first | refine WO_front (NetRP b c n) ?_ | refine WC_front (NetRP b c n) ?_ | refine WE_front (NetRP b c n) ?_)
      refine netr_open fun p0 q0 p1 q1 p2 q2 ⟨hc, hn0, hn1, hn2⟩ => ?_
      obtain ⟨r0, r1, r2⟩ := cfg_rooms hc
      repeat (first | rintro _ _ ⟨rfl, rfl⟩ | rintro _ _ ⟨_, rfl, rfl⟩ | rintro _ _ ⟨_, _, rfl, rfl⟩ | intro _ | refine go ?_ | (refine is_draw ?_; refine WC_draw mixed (by kernel_rfl) ?_))
      rename_i b6 b8 bo _
      apply WC_loopE (E0 := [(0, _), (1, _), (2, _), (6, _), (8, _)]) (fun E0 (q : Nat × Option Addr × Nat) => (11, .int .i64 q.1) :: (10, .slice q.2.1 ((n.l2.take q.1).eraseIdx j).length q.2.2) :: E0)
        (fun q => Own 37 15 (.slice q.2.1 ((n.l2.take q.1).eraseIdx j).length q.2.2) ((n.l2.take q.1).eraseIdx j).length (flat mc ((n.l2.take q.1).eraseIdx j)) :: Cells b8 37 (mc n.l2[j]) :: Cells b6 37 (mc .zero) :: Cells b 49 (nrcells c n p0 q0 p1 q1 p2 q2) :: Own 37 15 (.slice p0 n.l0.length q0) n.l0.length (flat mc n.l0) :: Own 37 15 (.slice p1 n.l1.length q1) n.l1.length (flat mc n.l1) :: Own 37 15 (.slice p2 n.l2.length q2) n.l2.length (flat mc n.l2) :: F) (fun q => q.1 ≤ n.l2.length) (fun q => n.l2.length - q.1) (0, some ⟨bo, 0, none⟩, 0)
      · (repeat (first | exact Sub.nil | (refine Sub.cons (by first | rfl | (simp only [Nat.zero_add]; rfl)) ?_)))
      · exact Nat.zero_le _
      · dsimp only; simp only [List.take_zero, List.eraseIdx_nil, List.length_nil, flat_nil]; (repeat (first | (with_reducible exact Ent.refl) | exact Ent.nil | (apply ent_pickE; (focus ((repeat (first | (with_reducible exact pk_here) | (apply pk_there))); done))) | apply Ent.drop))
      · rintro ⟨i, p', c'⟩ hi
        dsimp only at hi ⊢
        have hlen := erase_len (n.l2.take i) j
        rw [List.length_take] at hlen
        by_cases hlt : i < n.l2.length
        · by_cases he : i = j
          · repeat (first | rintro _ _ ⟨rfl, rfl⟩ | rintro _ _ ⟨_, rfl, rfl⟩ | rintro _ _ ⟨_, _, rfl, rfl⟩ | intro _ | refine go ?_ | (refine is_draw ?_; refine WC_draw mixed (by kernel_rfl) ?_))
            refine WE_loop (i + 1, p', c') (by first | omega | (dsimp only; omega)) (by first | omega | (dsimp only; omega)) ?_ ?_
            · dsimp only; rw [take_erase n.l2 j i hlt, if_pos he]; (repeat (first | exact Sub.nil | (refine Sub.cons (by first | rfl | (simp only [Nat.zero_add]; rfl)) ?_)))
            · dsimp only; rw [take_erase n.l2 j i hlt, if_pos he]; exact Ent.refl
          · repeat (first | rintro _ _ ⟨rfl, rfl⟩ | rintro _ _ ⟨_, rfl, rfl⟩ | rintro _ _ ⟨_, _, rfl, rfl⟩ | intro _ | refine go ?_ | (refine is_draw ?_; refine WC_draw mixed (by kernel_rfl) ?_))
            rename_i p2' c2'
            refine WE_loop (i + 1, p2', c2') (by first | omega | (dsimp only; omega)) (by first | omega | (dsimp only; omega)) ?_ ?_
            · dsimp only; rw [take_erase n.l2 j i hlt, if_neg he]
              rw [List.length_append, List.length_singleton]
              (repeat (first | exact Sub.nil | (refine Sub.cons (by first | rfl | (simp only [Nat.zero_add]; rfl)) ?_)))
            · dsimp only; rw [take_erase n.l2 j i hlt, if_neg he]
              rw [List.length_append, List.length_singleton, flat_append, flat_one]
              (repeat (first | (with_reducible exact Ent.refl) | exact Ent.nil | (apply ent_pickE; (focus ((repeat (first | (with_reducible exact pk_here) | (apply pk_there))); done))) | apply Ent.drop))
        · have hil : i = n.l2.length := by omega
          subst hil
          rw [List.take_length]
          repeat (first | rintro _ _ ⟨rfl, rfl⟩ | rintro _ _ ⟨_, rfl, rfl⟩ | rintro _ _ ⟨_, _, rfl, rfl⟩ | intro _ | refine go ?_ | (refine is_draw ?_; refine WC_draw mixed (by kernel_rfl) ?_))
          have hlen := erase_len n.l2 j
          (apply WE_ret rfl rfl (by (repeat (first | exact ResOk.nil | (apply ResOk.tmp; rfl) | (apply resOk_cell; rfl; exact inferInstance; rfl; rfl)))))
          · exact ⟨rfl, rfl⟩
          · change Ent (_ :: _ :: _ :: Cells b 49 [.int .i64 c.cores, .int .i64 c.homes, .int .i64 c.sets, .int .i64 c.ways, .int .i64 c.words, .int .i64 c.lines, .int .i64 c.pointers, .int .i64 c.mshrs, .int .i64 c.buffer, .int .i64 c.writebacks, .int .i64 c.r0, .int .i64 c.r1, .int .i64 c.r2, .slice p0 n.l0.length q0, .slice p1 n.l1.length q1, .slice p' (n.l2.eraseIdx j).length c'] :: _) _
            (apply netr_in; (focus ((repeat (first | (with_reducible exact Ent.refl) | exact Ent.nil | (apply ent_pickE; (focus ((repeat (first | (with_reducible exact pk_here) | (apply pk_there))); done))) | apply Ent.drop)); done)); all_goals (first | rfl | (with_reducible assumption) | (simp; done) | (simp; omega) | omega | (constructor <;> (simp) <;> omega)))
theorem ref07_Send {F : List HP} {b : Nat} {c : Cfg} {n : Nets} {m : Msg} (hw : c.wf) : FnF Try.prog 21 [.pointer (some ⟨b, 0, none⟩), mv m] [NetRP b c n] F (fun r L' => r = .int .i64 (nsendE c n m) ∧ L' = [NetRP b c (nsendN c n m)]) := by
  have hM := fun F => ref05_May (F := F) (c := c) (m := m) hw
  have hN := fun F => ref05_Net (F := F) (k := m.kind)
  refine FnF.mk' Try.func21 rfl rfl Try.ntmps21 rfl ?_
  refine netr_open fun p0 q0 p1 q1 p2 q2 ⟨hc, hn0, hn1, hn2⟩ => ?_
  obtain ⟨r0, r1, r2⟩ := cfg_rooms hc
  by_cases h : MayP c m
  · simp only [decide_eq_true h] at hM
    have e1 : nsendE c n m = putE (nroom c (netK m.kind)) (nget n (netK m.kind)) := if_pos h
    have e2 : nsendN c n m = nset n (netK m.kind) (putL (nroom c (netK m.kind)) (nget n (netK m.kind)) m) := if_pos h
    rw [e1, e2]
    rcases netK_may h with e | e | e
    · rw [e] at hN ⊢
      by_cases hf : (n.l0.length : Int) = c.r0
      · have e3 : putE (nroom c 0) (nget n 0) = 4 := by show putE c.r0 n.l0 = 4; simp [putE, hf]
        have e4 : nset n 0 (putL (nroom c 0) (nget n 0) m) = n := by
          show nset n 0 (putL c.r0 n.l0 m) = n
          simp [putL, hf, nset]
        rw [e3, e4]
        repeat (first | rintro _ _ ⟨rfl, rfl⟩ | rintro _ _ ⟨_, rfl, rfl⟩ | rintro _ _ ⟨_, _, rfl, rfl⟩ | intro _ | refine go ?_ | (refine is_draw ?_; apply WC_mix (id := 1) true _ (pl := .p 0 <| .p 1 <| .p 2 <| .r 3 <| .r 4 <| .e true [(5, .p 6 <| .done)]); exact mixed; kernel_rfl; kernel_rfl; exact Ent.refl) | (refine is_draw ?_; apply WC_mix (id := 6) false _ (pl := .p 0 <| .p 1 <| .p 3 <| .p 4 <| .p 5 <| .p 6 <| .p 7 <| .p 13 <| .p 14 <| .r 8 <| .r 10 <| .e true [(2, .e true [(9, .e true [(11, .e true [(12, .p 15 <| .e true [(16, .done)])])]), (11, .e true [(9, .e true [(12, .p 15 <| .e true [(16, .done)])])])]), (11, .e true [(2, .e true [(9, .e true [(12, .p 15 <| .e true [(16, .done)])])])])]); exact mixed; kernel_rfl; kernel_rfl; exact Ent.refl) | (refine is_draw ?_; refine WC_draw mixed (by kernel_rfl) ?_) | refine cal @hM ?_ | refine cal @hN ?_)
        (apply WE_ret rfl rfl (by (repeat (first | exact ResOk.nil | (apply ResOk.tmp; rfl) | (apply resOk_cell; rfl; exact inferInstance; rfl; rfl)))))
        · exact ⟨rfl, rfl⟩
        · (apply netr_in; (focus ((repeat (first | (with_reducible exact Ent.refl) | exact Ent.nil | (apply ent_pickE; (focus ((repeat (first | (with_reducible exact pk_here) | (apply pk_there))); done))) | apply Ent.drop)); done)); all_goals (first | rfl | (with_reducible assumption) | (simp; done) | (simp; omega) | omega | (constructor <;> (simp) <;> omega)))
      · have e3 : putE (nroom c 0) (nget n 0) = 0 := by show putE c.r0 n.l0 = 0; simp [putE, hf]
        have e4 : nset n 0 (putL (nroom c 0) (nget n 0) m) = ⟨n.l0 ++ [m], n.l1, n.l2⟩ := by
          show nset n 0 (putL c.r0 n.l0 m) = _
          simp [putL, hf, nset]
        rw [e3, e4]
        repeat' (first | rintro _ _ ⟨rfl, rfl⟩ | rintro _ _ ⟨_, rfl, rfl⟩ | rintro _ _ ⟨_, _, rfl, rfl⟩ | intro _ | refine go ?_ | (refine is_draw ?_; apply WC_mix (id := 1) true _ (pl := .p 0 <| .p 1 <| .p 2 <| .r 3 <| .r 4 <| .e true [(5, .p 6 <| .done)]); exact mixed; kernel_rfl; kernel_rfl; exact Ent.refl) | (refine is_draw ?_; apply WC_mix (id := 6) false _ (pl := .p 0 <| .p 1 <| .p 3 <| .p 4 <| .p 5 <| .p 6 <| .p 7 <| .p 13 <| .p 14 <| .r 8 <| .r 10 <| .e true [(2, .e true [(9, .e true [(11, .e true [(12, .p 15 <| .e true [(16, .done)])])]), (11, .e true [(9, .e true [(12, .p 15 <| .e true [(16, .done)])])])]), (11, .e true [(2, .e true [(9, .e true [(12, .p 15 <| .e true [(16, .done)])])])])]); exact mixed; kernel_rfl; kernel_rfl; exact Ent.refl) | (refine is_draw ?_; refine WC_draw mixed (by kernel_rfl) ?_) | refine cal @hM ?_ | refine cal @hN ?_ | refine spl ?_ ?_ | fail)
        all_goals (apply WE_ret rfl rfl (by (repeat (first | exact ResOk.nil | (apply ResOk.tmp; rfl) | (apply resOk_cell; rfl; exact inferInstance; rfl; rfl)))))
        all_goals first | exact ⟨rfl, rfl⟩ | (rw [nrs0]; (apply netr_in; (focus ((repeat (first | (with_reducible exact Ent.refl) | exact Ent.nil | (apply ent_pickE; (focus ((repeat (first | (with_reducible exact pk_here) | (apply pk_there))); done))) | apply Ent.drop)); done)); all_goals (first | rfl | (with_reducible assumption) | (simp [flat_append, flat_one]; done) | (simp [flat_append, flat_one]; omega) | omega | (constructor <;> (simp [flat_append, flat_one]) <;> omega))))
    · rw [e] at hN ⊢
      by_cases hf : (n.l1.length : Int) = c.r1
      · have e3 : putE (nroom c 1) (nget n 1) = 4 := by show putE c.r1 n.l1 = 4; simp [putE, hf]
        have e4 : nset n 1 (putL (nroom c 1) (nget n 1) m) = n := by
          show nset n 1 (putL c.r1 n.l1 m) = n
          simp [putL, hf, nset]
        rw [e3, e4]
        repeat (first | rintro _ _ ⟨rfl, rfl⟩ | rintro _ _ ⟨_, rfl, rfl⟩ | rintro _ _ ⟨_, _, rfl, rfl⟩ | intro _ | refine go ?_ | (refine is_draw ?_; apply WC_mix (id := 1) true _ (pl := .p 0 <| .p 1 <| .p 2 <| .r 3 <| .r 4 <| .e true [(5, .p 6 <| .done)]); exact mixed; kernel_rfl; kernel_rfl; exact Ent.refl) | (refine is_draw ?_; apply WC_mix (id := 6) false _ (pl := .p 0 <| .p 1 <| .p 3 <| .p 4 <| .p 5 <| .p 6 <| .p 7 <| .p 13 <| .p 14 <| .r 8 <| .r 10 <| .e true [(2, .e true [(9, .e true [(11, .e true [(12, .p 15 <| .e true [(16, .done)])])]), (11, .e true [(9, .e true [(12, .p 15 <| .e true [(16, .done)])])])]), (11, .e true [(2, .e true [(9, .e true [(12, .p 15 <| .e true [(16, .done)])])])])]); exact mixed; kernel_rfl; kernel_rfl; exact Ent.refl) | (refine is_draw ?_; refine WC_draw mixed (by kernel_rfl) ?_) | refine cal @hM ?_ | refine cal @hN ?_)
        (apply WE_ret rfl rfl (by (repeat (first | exact ResOk.nil | (apply ResOk.tmp; rfl) | (apply resOk_cell; rfl; exact inferInstance; rfl; rfl)))))
        · exact ⟨rfl, rfl⟩
        · (apply netr_in; (focus ((repeat (first | (with_reducible exact Ent.refl) | exact Ent.nil | (apply ent_pickE; (focus ((repeat (first | (with_reducible exact pk_here) | (apply pk_there))); done))) | apply Ent.drop)); done)); all_goals (first | rfl | (with_reducible assumption) | (simp; done) | (simp; omega) | omega | (constructor <;> (simp) <;> omega)))
      · have e3 : putE (nroom c 1) (nget n 1) = 0 := by show putE c.r1 n.l1 = 0; simp [putE, hf]
        have e4 : nset n 1 (putL (nroom c 1) (nget n 1) m) = ⟨n.l0, n.l1 ++ [m], n.l2⟩ := by
          show nset n 1 (putL c.r1 n.l1 m) = _
          simp [putL, hf, nset]
        rw [e3, e4]
        repeat' (first | rintro _ _ ⟨rfl, rfl⟩ | rintro _ _ ⟨_, rfl, rfl⟩ | rintro _ _ ⟨_, _, rfl, rfl⟩ | intro _ | refine go ?_ | (refine is_draw ?_; apply WC_mix (id := 1) true _ (pl := .p 0 <| .p 1 <| .p 2 <| .r 3 <| .r 4 <| .e true [(5, .p 6 <| .done)]); exact mixed; kernel_rfl; kernel_rfl; exact Ent.refl) | (refine is_draw ?_; apply WC_mix (id := 6) false _ (pl := .p 0 <| .p 1 <| .p 3 <| .p 4 <| .p 5 <| .p 6 <| .p 7 <| .p 13 <| .p 14 <| .r 8 <| .r 10 <| .e true [(2, .e true [(9, .e true [(11, .e true [(12, .p 15 <| .e true [(16, .done)])])]), (11, .e true [(9, .e true [(12, .p 15 <| .e true [(16, .done)])])])]), (11, .e true [(2, .e true [(9, .e true [(12, .p 15 <| .e true [(16, .done)])])])])]); exact mixed; kernel_rfl; kernel_rfl; exact Ent.refl) | (refine is_draw ?_; refine WC_draw mixed (by kernel_rfl) ?_) | refine cal @hM ?_ | refine cal @hN ?_ | refine spl ?_ ?_ | fail)
        all_goals (apply WE_ret rfl rfl (by (repeat (first | exact ResOk.nil | (apply ResOk.tmp; rfl) | (apply resOk_cell; rfl; exact inferInstance; rfl; rfl)))))
        all_goals first | exact ⟨rfl, rfl⟩ | (rw [nrs1]; (apply netr_in; (focus ((repeat (first | (with_reducible exact Ent.refl) | exact Ent.nil | (apply ent_pickE; (focus ((repeat (first | (with_reducible exact pk_here) | (apply pk_there))); done))) | apply Ent.drop)); done)); all_goals (first | rfl | (with_reducible assumption) | (simp [flat_append, flat_one]; done) | (simp [flat_append, flat_one]; omega) | omega | (constructor <;> (simp [flat_append, flat_one]) <;> omega))))
    · rw [e] at hN ⊢
      by_cases hf : (n.l2.length : Int) = c.r2
      · have e3 : putE (nroom c 2) (nget n 2) = 4 := by show putE c.r2 n.l2 = 4; simp [putE, hf]
        have e4 : nset n 2 (putL (nroom c 2) (nget n 2) m) = n := by
          show nset n 2 (putL c.r2 n.l2 m) = n
          simp [putL, hf, nset]
        rw [e3, e4]
        repeat (first | rintro _ _ ⟨rfl, rfl⟩ | rintro _ _ ⟨_, rfl, rfl⟩ | rintro _ _ ⟨_, _, rfl, rfl⟩ | intro _ | refine go ?_ | (refine is_draw ?_; apply WC_mix (id := 1) true _ (pl := .p 0 <| .p 1 <| .p 2 <| .r 3 <| .r 4 <| .e true [(5, .p 6 <| .done)]); exact mixed; kernel_rfl; kernel_rfl; exact Ent.refl) | (refine is_draw ?_; apply WC_mix (id := 6) false _ (pl := .p 0 <| .p 1 <| .p 3 <| .p 4 <| .p 5 <| .p 6 <| .p 7 <| .p 13 <| .p 14 <| .r 8 <| .r 10 <| .e true [(2, .e true [(9, .e true [(11, .e true [(12, .p 15 <| .e true [(16, .done)])])]), (11, .e true [(9, .e true [(12, .p 15 <| .e true [(16, .done)])])])]), (11, .e true [(2, .e true [(9, .e true [(12, .p 15 <| .e true [(16, .done)])])])])]); exact mixed; kernel_rfl; kernel_rfl; exact Ent.refl) | (refine is_draw ?_; refine WC_draw mixed (by kernel_rfl) ?_) | refine cal @hM ?_ | refine cal @hN ?_)
        (apply WE_ret rfl rfl (by (repeat (first | exact ResOk.nil | (apply ResOk.tmp; rfl) | (apply resOk_cell; rfl; exact inferInstance; rfl; rfl)))))
        · exact ⟨rfl, rfl⟩
        · (apply netr_in; (focus ((repeat (first | (with_reducible exact Ent.refl) | exact Ent.nil | (apply ent_pickE; (focus ((repeat (first | (with_reducible exact pk_here) | (apply pk_there))); done))) | apply Ent.drop)); done)); all_goals (first | rfl | (with_reducible assumption) | (simp; done) | (simp; omega) | omega | (constructor <;> (simp) <;> omega)))
      · have e3 : putE (nroom c 2) (nget n 2) = 0 := by show putE c.r2 n.l2 = 0; simp [putE, hf]
        have e4 : nset n 2 (putL (nroom c 2) (nget n 2) m) = ⟨n.l0, n.l1, n.l2 ++ [m]⟩ := by
          show nset n 2 (putL c.r2 n.l2 m) = _
          simp [putL, hf, nset]
        rw [e3, e4]
        repeat' (first | rintro _ _ ⟨rfl, rfl⟩ | rintro _ _ ⟨_, rfl, rfl⟩ | rintro _ _ ⟨_, _, rfl, rfl⟩ | intro _ | refine go ?_ | (refine is_draw ?_; apply WC_mix (id := 1) true _ (pl := .p 0 <| .p 1 <| .p 2 <| .r 3 <| .r 4 <| .e true [(5, .p 6 <| .done)]); exact mixed; kernel_rfl; kernel_rfl; exact Ent.refl) | (refine is_draw ?_; apply WC_mix (id := 6) false _ (pl := .p 0 <| .p 1 <| .p 3 <| .p 4 <| .p 5 <| .p 6 <| .p 7 <| .p 13 <| .p 14 <| .r 8 <| .r 10 <| .e true [(2, .e true [(9, .e true [(11, .e true [(12, .p 15 <| .e true [(16, .done)])])]), (11, .e true [(9, .e true [(12, .p 15 <| .e true [(16, .done)])])])]), (11, .e true [(2, .e true [(9, .e true [(12, .p 15 <| .e true [(16, .done)])])])])]); exact mixed; kernel_rfl; kernel_rfl; exact Ent.refl) | (refine is_draw ?_; refine WC_draw mixed (by kernel_rfl) ?_) | refine cal @hM ?_ | refine cal @hN ?_ | refine spl ?_ ?_ | fail)
        all_goals (apply WE_ret rfl rfl (by (repeat (first | exact ResOk.nil | (apply ResOk.tmp; rfl) | (apply resOk_cell; rfl; exact inferInstance; rfl; rfl)))))
        all_goals first | exact ⟨rfl, rfl⟩ | (rw [nrs2]; (apply netr_in; (focus ((repeat (first | (with_reducible exact Ent.refl) | exact Ent.nil | (apply ent_pickE; (focus ((repeat (first | (with_reducible exact pk_here) | (apply pk_there))); done))) | apply Ent.drop)); done)); all_goals (first | rfl | (with_reducible assumption) | (simp [flat_append, flat_one]; done) | (simp [flat_append, flat_one]; omega) | omega | (constructor <;> (simp [flat_append, flat_one]) <;> omega))))
  · simp only [decide_eq_false h] at hM
    have e1 : nsendE c n m = 1 := if_neg h
    have e2 : nsendN c n m = n := if_neg h
    rw [e1, e2]
    repeat (first | rintro _ _ ⟨rfl, rfl⟩ | rintro _ _ ⟨_, rfl, rfl⟩ | rintro _ _ ⟨_, _, rfl, rfl⟩ | intro _ | refine go ?_ | (refine is_draw ?_; apply WC_mix (id := 1) true _ (pl := .p 0 <| .p 1 <| .p 2 <| .r 3 <| .r 4 <| .e true [(5, .p 6 <| .done)]); exact mixed; kernel_rfl; kernel_rfl; exact Ent.refl) | (refine is_draw ?_; apply WC_mix (id := 6) false _ (pl := .p 0 <| .p 1 <| .p 3 <| .p 4 <| .p 5 <| .p 6 <| .p 7 <| .p 13 <| .p 14 <| .r 8 <| .r 10 <| .e true [(2, .e true [(9, .e true [(11, .e true [(12, .p 15 <| .e true [(16, .done)])])]), (11, .e true [(9, .e true [(12, .p 15 <| .e true [(16, .done)])])])]), (11, .e true [(2, .e true [(9, .e true [(12, .p 15 <| .e true [(16, .done)])])])])]); exact mixed; kernel_rfl; kernel_rfl; exact Ent.refl) | (refine is_draw ?_; refine WC_draw mixed (by kernel_rfl) ?_) | refine cal @hM ?_)
    (apply WE_ret rfl rfl (by (repeat (first | exact ResOk.nil | (apply ResOk.tmp; rfl) | (apply resOk_cell; rfl; exact inferInstance; rfl; rfl)))))
    · exact ⟨rfl, rfl⟩
    · (apply netr_in; (focus ((repeat (first | (with_reducible exact Ent.refl) | exact Ent.nil | (apply ent_pickE; (focus ((repeat (first | (with_reducible exact pk_here) | (apply pk_there))); done))) | apply Ent.drop)); done)); all_goals (first | rfl | (with_reducible assumption) | (simp; done) | (simp; omega) | omega | (constructor <;> (simp) <;> omega)))
theorem ref07_Of {F : List HP} {b : Nat} {c : Cfg} {n : Nets} {line : Int} : FnF Try.prog 29 [.pointer (some ⟨b, 0, none⟩), .int .i64 line] [NetRP b c n] F (fun r L' => ∃ p q, r = .slice p (nofL n line).length q ∧ L' = [Own 37 15 (.slice p (nofL n line).length q) (nofL n line).length (flat mc (nofL n line)), NetRP b c n]) := by
  refine FnF.mk' Try.func29 rfl rfl Try.ntmps29 rfl ?_
  refine netr_open fun p0 q0 p1 q1 p2 q2 ⟨hc, hn0, hn1, hn2⟩ => ?_
  obtain ⟨r0, r1, r2⟩ := cfg_rooms hc
  have hfl : ∀ l : List Msg, (l.filter fun m => decide (m.line = line)).length ≤ l.length := fun l => List.length_filter_le _ _
  repeat (first | rintro _ _ ⟨rfl, rfl⟩ | rintro _ _ ⟨_, rfl, rfl⟩ | rintro _ _ ⟨_, _, rfl, rfl⟩ | intro _ | refine go ?_ | (refine is_draw ?_; refine WC_draw mixed (by kernel_rfl) ?_))
  rename_i bo
  refine WC_rounds 4 ?_
  repeat (first | rintro _ _ ⟨rfl, rfl⟩ | rintro _ _ ⟨_, rfl, rfl⟩ | rintro _ _ ⟨_, _, rfl, rfl⟩ | intro _ | refine go ?_ | (refine is_draw ?_; refine WC_draw mixed (by kernel_rfl) ?_))
  have hb0 := hfl ([] ++ n.l0)
  apply WC_loopE (E0 := [(0, _), (1, _), (6, _)]) (fun E0 (q : Nat × Option Addr × Nat) => (7, .int .i64 q.1) :: (5, .slice q.2.1 ((n.l0.take q.1).filter fun m => decide (m.line = line)).length q.2.2) :: E0)
    (fun q => Own 37 15 (.slice q.2.1 ((n.l0.take q.1).filter fun m => decide (m.line = line)).length q.2.2) ((n.l0.take q.1).filter fun m => decide (m.line = line)).length (flat mc ((n.l0.take q.1).filter fun m => decide (m.line = line))) :: Cells b 49 (nrcells c n p0 q0 p1 q1 p2 q2) :: Own 37 15 (.slice p0 n.l0.length q0) n.l0.length (flat mc n.l0) :: Own 37 15 (.slice p1 n.l1.length q1) n.l1.length (flat mc n.l1) :: Own 37 15 (.slice p2 n.l2.length q2) n.l2.length (flat mc n.l2) :: F) (fun q => q.1 ≤ n.l0.length) (fun q => n.l0.length - q.1) (0, some ⟨bo, 0, none⟩, 0)
  · (repeat (first | exact Sub.nil | (refine Sub.cons (by first | rfl | (simp only [Nat.zero_add]; rfl)) ?_)))
  · exact Nat.zero_le _
  · dsimp only; simp only [List.take_zero, List.filter_nil, List.length_nil, flat_nil]; (repeat (first | (with_reducible exact Ent.refl) | exact Ent.nil | (apply ent_pickE; (focus ((repeat (first | (with_reducible exact pk_here) | (apply pk_there))); done))) | apply Ent.drop))
  · rintro ⟨i, p', c'⟩ hi
    dsimp only at hi ⊢
    have hla := hfl (n.l0.take i)
    rw [List.length_take] at hla
    skip
    by_cases hlt : i < n.l0.length
    · by_cases hm : n.l0[i].line = line
      · have et : ((n.l0.take (i + 1)).filter fun m => decide (m.line = line)) = ((n.l0.take i).filter fun m => decide (m.line = line)) ++ [n.l0[i]] := fil_in0 hlt (decide_eq_true hm)
        repeat (first | rintro _ _ ⟨rfl, rfl⟩ | rintro _ _ ⟨_, rfl, rfl⟩ | rintro _ _ ⟨_, _, rfl, rfl⟩ | intro _ | refine go ?_ | (refine is_draw ?_; refine WC_draw mixed (by kernel_rfl) ?_))
        refine WE_loop (i + 1, ?_, ?_) ?_ ?_ ?_ ?_
        rotate_right
        · dsimp only; rw [et, List.length_append, List.length_singleton, flat_append, flat_one]; (repeat (first | (with_reducible exact Ent.refl) | exact Ent.nil | (apply ent_pickE; (focus ((repeat (first | (with_reducible exact pk_here) | (apply pk_there))); done))) | apply Ent.drop))
        · dsimp only; omega
        · dsimp only; omega
        · dsimp only; rw [et, List.length_append, List.length_singleton]; (repeat (first | exact Sub.nil | (refine Sub.cons (by first | rfl | (simp only [Nat.zero_add]; rfl)) ?_)))
      · have et : ((n.l0.take (i + 1)).filter fun m => decide (m.line = line)) = ((n.l0.take i).filter fun m => decide (m.line = line)) := fil_out0 hlt (decide_eq_false hm)
        repeat (first | rintro _ _ ⟨rfl, rfl⟩ | rintro _ _ ⟨_, rfl, rfl⟩ | rintro _ _ ⟨_, _, rfl, rfl⟩ | intro _ | refine go ?_ | (refine is_draw ?_; refine WC_draw mixed (by kernel_rfl) ?_))
        refine WE_loop (i + 1, p', c') (by first | omega | (dsimp only; omega)) (by first | omega | (dsimp only; omega)) ?_ ?_
        · dsimp only; rw [et]; (repeat (first | exact Sub.nil | (refine Sub.cons (by first | rfl | (simp only [Nat.zero_add]; rfl)) ?_)))
        · dsimp only; rw [et]; exact Ent.refl
    · have hil : i = n.l0.length := by omega
      subst hil
      rw [List.take_length]
      repeat (first | rintro _ _ ⟨rfl, rfl⟩ | rintro _ _ ⟨_, rfl, rfl⟩ | rintro _ _ ⟨_, _, rfl, rfl⟩ | intro _ | refine go ?_ | (refine is_draw ?_; refine WC_draw mixed (by kernel_rfl) ?_))
      have hb1 := hfl (n.l0 ++ n.l1)
      apply WC_loopE (E0 := [(0, _), (1, _), (6, _)]) (fun E0 (q : Nat × Option Addr × Nat) => (7, .int .i64 q.1) :: (5, .slice q.2.1 (((n.l0) ++ n.l1.take q.1).filter fun m => decide (m.line = line)).length q.2.2) :: E0)
        (fun q => Own 37 15 (.slice q.2.1 (((n.l0) ++ n.l1.take q.1).filter fun m => decide (m.line = line)).length q.2.2) (((n.l0) ++ n.l1.take q.1).filter fun m => decide (m.line = line)).length (flat mc (((n.l0) ++ n.l1.take q.1).filter fun m => decide (m.line = line))) :: Cells b 49 (nrcells c n p0 q0 p1 q1 p2 q2) :: Own 37 15 (.slice p0 n.l0.length q0) n.l0.length (flat mc n.l0) :: Own 37 15 (.slice p1 n.l1.length q1) n.l1.length (flat mc n.l1) :: Own 37 15 (.slice p2 n.l2.length q2) n.l2.length (flat mc n.l2) :: F) (fun q => q.1 ≤ n.l1.length) (fun q => n.l1.length - q.1) (0, p', c')
      · dsimp only; simp only [List.take_zero, List.append_nil]; (repeat (first | exact Sub.nil | (refine Sub.cons (by first | rfl | (simp only [Nat.zero_add]; rfl)) ?_)))
      · exact Nat.zero_le _
      · dsimp only; simp only [List.take_zero, List.append_nil]; (repeat (first | (with_reducible exact Ent.refl) | exact Ent.nil | (apply ent_pickE; (focus ((repeat (first | (with_reducible exact pk_here) | (apply pk_there))); done))) | apply Ent.drop))
      · rintro ⟨i, p', c'⟩ hi
        dsimp only at hi ⊢
        have hla := hfl (n.l0 ++ n.l1.take i)
        rw [show ∀ x : List Msg, ((n.l0) ++ x).length = (n.l0).length + x.length from fun x => List.length_append, List.length_take] at hla
        have hbl : (n.l0).length ≤ 128 := by first | omega | (simp only [List.length_append]; omega)
        by_cases hlt : i < n.l1.length
        · by_cases hm : n.l1[i].line = line
          · have et : (((n.l0) ++ n.l1.take (i + 1)).filter fun m => decide (m.line = line)) = (((n.l0) ++ n.l1.take i).filter fun m => decide (m.line = line)) ++ [n.l1[i]] := fil_in hlt (decide_eq_true hm)
            repeat (first | rintro _ _ ⟨rfl, rfl⟩ | rintro _ _ ⟨_, rfl, rfl⟩ | rintro _ _ ⟨_, _, rfl, rfl⟩ | intro _ | refine go ?_ | (refine is_draw ?_; refine WC_draw mixed (by kernel_rfl) ?_))
            refine WE_loop (i + 1, ?_, ?_) ?_ ?_ ?_ ?_
            rotate_right
            · dsimp only; rw [et, List.length_append, List.length_singleton, flat_append, flat_one]; (repeat (first | (with_reducible exact Ent.refl) | exact Ent.nil | (apply ent_pickE; (focus ((repeat (first | (with_reducible exact pk_here) | (apply pk_there))); done))) | apply Ent.drop))
            · dsimp only; omega
            · dsimp only; omega
            · dsimp only; rw [et, List.length_append, List.length_singleton]; (repeat (first | exact Sub.nil | (refine Sub.cons (by first | rfl | (simp only [Nat.zero_add]; rfl)) ?_)))
          · have et : (((n.l0) ++ n.l1.take (i + 1)).filter fun m => decide (m.line = line)) = (((n.l0) ++ n.l1.take i).filter fun m => decide (m.line = line)) := fil_out hlt (decide_eq_false hm)
            repeat (first | rintro _ _ ⟨rfl, rfl⟩ | rintro _ _ ⟨_, rfl, rfl⟩ | rintro _ _ ⟨_, _, rfl, rfl⟩ | intro _ | refine go ?_ | (refine is_draw ?_; refine WC_draw mixed (by kernel_rfl) ?_))
            refine WE_loop (i + 1, p', c') (by first | omega | (dsimp only; omega)) (by first | omega | (dsimp only; omega)) ?_ ?_
            · dsimp only; rw [et]; (repeat (first | exact Sub.nil | (refine Sub.cons (by first | rfl | (simp only [Nat.zero_add]; rfl)) ?_)))
            · dsimp only; rw [et]; exact Ent.refl
        · have hil : i = n.l1.length := by omega
          subst hil
          rw [List.take_length]
          repeat (first | rintro _ _ ⟨rfl, rfl⟩ | rintro _ _ ⟨_, rfl, rfl⟩ | rintro _ _ ⟨_, _, rfl, rfl⟩ | intro _ | refine go ?_ | (refine is_draw ?_; refine WC_draw mixed (by kernel_rfl) ?_))
          have hb2 := hfl (n.l0 ++ n.l1 ++ n.l2)
          apply WC_loopE (E0 := [(0, _), (1, _), (6, _)]) (fun E0 (q : Nat × Option Addr × Nat) => (7, .int .i64 q.1) :: (5, .slice q.2.1 (((n.l0 ++ n.l1) ++ n.l2.take q.1).filter fun m => decide (m.line = line)).length q.2.2) :: E0)
            (fun q => Own 37 15 (.slice q.2.1 (((n.l0 ++ n.l1) ++ n.l2.take q.1).filter fun m => decide (m.line = line)).length q.2.2) (((n.l0 ++ n.l1) ++ n.l2.take q.1).filter fun m => decide (m.line = line)).length (flat mc (((n.l0 ++ n.l1) ++ n.l2.take q.1).filter fun m => decide (m.line = line))) :: Cells b 49 (nrcells c n p0 q0 p1 q1 p2 q2) :: Own 37 15 (.slice p0 n.l0.length q0) n.l0.length (flat mc n.l0) :: Own 37 15 (.slice p1 n.l1.length q1) n.l1.length (flat mc n.l1) :: Own 37 15 (.slice p2 n.l2.length q2) n.l2.length (flat mc n.l2) :: F) (fun q => q.1 ≤ n.l2.length) (fun q => n.l2.length - q.1) (0, p', c')
          · dsimp only; simp only [List.take_zero, List.append_nil]; (repeat (first | exact Sub.nil | (refine Sub.cons (by first | rfl | (simp only [Nat.zero_add]; rfl)) ?_)))
          · exact Nat.zero_le _
          · dsimp only; simp only [List.take_zero, List.append_nil]; (repeat (first | (with_reducible exact Ent.refl) | exact Ent.nil | (apply ent_pickE; (focus ((repeat (first | (with_reducible exact pk_here) | (apply pk_there))); done))) | apply Ent.drop))
          · rintro ⟨i, p', c'⟩ hi
            dsimp only at hi ⊢
            have hla := hfl (n.l0 ++ n.l1 ++ n.l2.take i)
            rw [show ∀ x : List Msg, ((n.l0 ++ n.l1) ++ x).length = (n.l0 ++ n.l1).length + x.length from fun x => List.length_append, List.length_take] at hla
            have hbl : (n.l0 ++ n.l1).length ≤ 128 := by first | omega | (simp only [List.length_append]; omega)
            by_cases hlt : i < n.l2.length
            · by_cases hm : n.l2[i].line = line
              · have et : (((n.l0 ++ n.l1) ++ n.l2.take (i + 1)).filter fun m => decide (m.line = line)) = (((n.l0 ++ n.l1) ++ n.l2.take i).filter fun m => decide (m.line = line)) ++ [n.l2[i]] := fil_in hlt (decide_eq_true hm)
                repeat (first | rintro _ _ ⟨rfl, rfl⟩ | rintro _ _ ⟨_, rfl, rfl⟩ | rintro _ _ ⟨_, _, rfl, rfl⟩ | intro _ | refine go ?_ | (refine is_draw ?_; refine WC_draw mixed (by kernel_rfl) ?_))
                refine WE_loop (i + 1, ?_, ?_) ?_ ?_ ?_ ?_
                rotate_right
                · dsimp only; rw [et, List.length_append, List.length_singleton, flat_append, flat_one]; (repeat (first | (with_reducible exact Ent.refl) | exact Ent.nil | (apply ent_pickE; (focus ((repeat (first | (with_reducible exact pk_here) | (apply pk_there))); done))) | apply Ent.drop))
                · dsimp only; omega
                · dsimp only; omega
                · dsimp only; rw [et, List.length_append, List.length_singleton]; (repeat (first | exact Sub.nil | (refine Sub.cons (by first | rfl | (simp only [Nat.zero_add]; rfl)) ?_)))
              · have et : (((n.l0 ++ n.l1) ++ n.l2.take (i + 1)).filter fun m => decide (m.line = line)) = (((n.l0 ++ n.l1) ++ n.l2.take i).filter fun m => decide (m.line = line)) := fil_out hlt (decide_eq_false hm)
                repeat (first | rintro _ _ ⟨rfl, rfl⟩ | rintro _ _ ⟨_, rfl, rfl⟩ | rintro _ _ ⟨_, _, rfl, rfl⟩ | intro _ | refine go ?_ | (refine is_draw ?_; refine WC_draw mixed (by kernel_rfl) ?_))
                refine WE_loop (i + 1, p', c') (by first | omega | (dsimp only; omega)) (by first | omega | (dsimp only; omega)) ?_ ?_
                · dsimp only; rw [et]; (repeat (first | exact Sub.nil | (refine Sub.cons (by first | rfl | (simp only [Nat.zero_add]; rfl)) ?_)))
                · dsimp only; rw [et]; exact Ent.refl
            · have hil : i = n.l2.length := by omega
              subst hil
              rw [List.take_length]
              repeat (first | rintro _ _ ⟨rfl, rfl⟩ | rintro _ _ ⟨_, rfl, rfl⟩ | rintro _ _ ⟨_, _, rfl, rfl⟩ | intro _ | refine go ?_ | (refine is_draw ?_; refine WC_draw mixed (by kernel_rfl) ?_))
              have ho : nofL n line = ((n.l0 ++ n.l1) ++ n.l2).filter (fun m => decide (m.line = line)) := rfl
              rw [ho]
              (apply WE_ret rfl rfl (by (repeat (first | exact ResOk.nil | (apply ResOk.tmp; rfl) | (apply resOk_cell; rfl; exact inferInstance; rfl; rfl)))))
              · exact ⟨_, _, rfl, rfl⟩
              · refine Ent.cons ?_
                (apply netr_in; (focus ((repeat (first | (with_reducible exact Ent.refl) | exact Ent.nil | (apply ent_pickE; (focus ((repeat (first | (with_reducible exact pk_here) | (apply pk_there))); done))) | apply Ent.drop)); done)); all_goals (first | rfl | (with_reducible assumption) | (simp; done) | (simp; omega) | omega | (constructor <;> (simp) <;> omega)))
end Go.Sx
