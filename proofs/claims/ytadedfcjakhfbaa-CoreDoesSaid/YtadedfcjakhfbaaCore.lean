/- What the cores of package core do. My own work. -/
import Derived.Test.YtadedfcjakhfbaaMay
namespace Go.Sx
open Go Go.Proofs
set_option linter.unusedVariables false
set_option linter.unusedSimpArgs false
instance : MapT Try.prog 85 blv false := ⟨_, _, _, _, _, Try.underlying85, Try.underlying3, TZ.pf⟩

abbrev Op3.zero : Op3 := ⟨0, 0, 0⟩
def CoreB (b : Nat) (l : List Op3) (rs : List Int) (tr : List (Int × Bool)) : HP :=
  Ex fun q : (Option Addr × Nat) × (Option Addr × Nat) × Nat => [Cells b 178 [.slice q.1.1 l.length q.1.2, .slice q.2.1.1 rs.length q.2.1.2, .map (some q.2.2)], Own 132 3 (.slice q.1.1 l.length q.1.2) l.length (flat oc l), Own 3 1 (.slice q.2.1.1 rs.length q.2.1.2) rs.length (flat ic rs), MapAt q.2.2 blv tr, Fact (rs.length ≤ l.length ∧ l.length ≤ 64)]
theorem core_in {b n1 n2 bm : Nat} {l : List Op3} {rs : List Int} {tr : List (Int × Bool)} {p1 p2 : Option Addr} {c1 c2 : Nat} {xs ys : List Value} {L M : List HP}
    (h : Ent L (Cells b 178 [.slice p1 n1 c1, .slice p2 n2 c2, .map (some bm)] :: Own 132 3 (.slice p1 n1 c1) n1 xs :: Own 3 1 (.slice p2 n2 c2) n2 ys :: MapAt bm blv tr :: M)) (hn1 : n1 = l.length) (hn2 : n2 = rs.length) (hx : xs = flat oc l) (hy : ys = flat ic rs) (hl : rs.length ≤ l.length ∧ l.length ≤ 64) : Ent L (CoreB b l rs tr :: M) := by
  subst hn1 hn2 hx hy
  refine Ent.trans h (Ent.trans ?_ (ex_intro (p := fun q : (Option Addr × Nat) × (Option Addr × Nat) × Nat => [Cells b 178 [.slice q.1.1 l.length q.1.2, .slice q.2.1.1 rs.length q.2.1.2, .map (some q.2.2)], Own 132 3 (.slice q.1.1 l.length q.1.2) l.length (flat oc l), Own 3 1 (.slice q.2.1.1 rs.length q.2.1.2) rs.length (flat ic rs), MapAt q.2.2 blv tr, Fact (rs.length ≤ l.length ∧ l.length ≤ 64)]) ((p1, c1), (p2, c2), bm)))
  exact Ent.cons (Ent.cons (Ent.cons (Ent.cons (star_fact_mk hl))))
theorem core_sat {b : Nat} {l : List Op3} {rs : List Int} {tr : List (Int × Bool)} {L : List HP} {w : World} (h : Sat (CoreB b l rs tr :: L) w) : (rs.length ≤ l.length ∧ l.length ≤ 64) ∧
    ∃ p1 c1 p2 c2 bm, Sat (Cells b 178 [.slice p1 l.length c1, .slice p2 rs.length c2, .map (some bm)] :: Own 132 3 (.slice p1 l.length c1) l.length (flat oc l) :: Own 3 1 (.slice p2 rs.length c2) rs.length (flat ic rs) :: MapAt bm blv tr :: L) w := by
  obtain ⟨⟨⟨p1, c1⟩, ⟨p2, c2⟩, bm⟩, hx⟩ := star_ex h
  simp only [app] at hx
  have hf := fact_of (star_drop (star_drop (star_drop (star_drop hx))))
  exact ⟨hf, p1, c1, p2, c2, bm, (Ent.cons (Ent.cons (Ent.cons (Ent.cons (Ent.drop Ent.refl))))) _ hx⟩
theorem core_open {b : Nat} {l : List Op3} {rs : List Int} {tr : List (Int × Bool)} {P : Program} {N : Nat} {c : Code} {env : Env} {L : List HP} {Q : Exit → Act → World → Prop}
    (h : ∀ p1 c1 p2 c2 bm, (rs.length ≤ l.length ∧ l.length ≤ 64) → WC P N c env (Cells b 178 [.slice p1 l.length c1, .slice p2 rs.length c2, .map (some bm)] :: Own 132 3 (.slice p1 l.length c1) l.length (flat oc l) :: Own 3 1 (.slice p2 rs.length c2) rs.length (flat ic rs) :: MapAt bm blv tr :: L) Q) : WC P N c env (CoreB b l rs tr :: L) Q := by
  intro a w ha hw
  obtain ⟨hf, p1, c1, p2, c2, bm, hx⟩ := core_sat hw
  exact h p1 c1 p2 c2 bm hf a w ha hx
theorem core_openO {b : Nat} {l : List Op3} {rs : List Int} {tr : List (Int × Bool)} {P : Program} {N : Nat} {all : Array Oper} {c : List Oper} {env : Env} {L : List HP} {Q : Exit → Act → World → Prop}
    (h : ∀ p1 c1 p2 c2 bm, (rs.length ≤ l.length ∧ l.length ≤ 64) → WO P N all c env (Cells b 178 [.slice p1 l.length c1, .slice p2 rs.length c2, .map (some bm)] :: Own 132 3 (.slice p1 l.length c1) l.length (flat oc l) :: Own 3 1 (.slice p2 rs.length c2) rs.length (flat ic rs) :: MapAt bm blv tr :: L) Q) : WO P N all c env (CoreB b l rs tr :: L) Q := by
  intro a w ha hw
  obtain ⟨hf, p1, c1, p2, c2, bm, hx⟩ := core_sat hw
  exact h p1 c1 p2 c2 bm hf a w ha hx

set_option maxRecDepth 100000
set_option maxHeartbeats 4000000
attribute [local irreducible] Go.Exit.then Go.Exit.inBlock Go.Code.wp WC WO WE WQ V LoopQ FnQ Sat Star band bor IntKind.wrap WR Code.rounds WT KO
theorem prog_len {c : Cfg} {l : List Op3} (h : progB c l = true) : l.length ≤ 64 := by simp [progB] at h; omega

theorem core_New {F : List HP} {c : Cfg} (hc : c.wf) {l : List Op3} {v : Value} (k : RdL F 3 v l.length (flat oc l)) (hn : l.length ≤ 1099511627776) (h : progB c l = true) :
    FnF Try.prog 65 [c.val, v] [] F (fun r L' => ∃ b, r = .tuple [.pointer (some ⟨b, 0, none⟩), .int .i64 0].toArray ∧ L' = [CoreB b l [] []]) := by
  have hP := fun F k => program_Fits (F := F) (c := c) hc (l := l) (v := v) k hn
  simp only [h] at hP
  have hl := prog_len h
  refine FnF.mk' Try.func65 rfl rfl Try.ntmps65 rfl ?_
  repeat (first | rintro _ _ ⟨rfl, rfl⟩ | rintro _ _ ⟨_, rfl, rfl⟩ | rintro _ _ ⟨_, _, rfl, rfl⟩ | intro _ | refine go ?_ | (refine is_draw ?_; refine WC_draw mixed (by kernel_rfl) ?_) | refine cal @hP ?_ | refine cal @sl_Clone_op ?_)
  (apply WE_ret rfl rfl (by (repeat (first | exact ResOk.nil | (apply ResOk.tmp; rfl) | (apply resOk_cell; rfl; exact inferInstance; rfl; rfl)))))
  · exact ⟨_, rfl, rfl⟩
  · apply core_in (rs := []) (p2 := none) (c2 := 0) (n2 := 0) (ys := [])
    · refine Ent.trans (own_empty (e := 3) (sz := 1) (p := none) Ent.refl) ?_
      (focus ((repeat (first | (with_reducible exact Ent.refl) | exact Ent.nil | (apply ent_pickE; (focus ((repeat (first | (with_reducible exact pk_here) | (apply pk_there))); done))) | apply Ent.drop)); done))
    · rfl
    · rfl
    · rfl
    · rfl
    · exact ⟨Nat.zero_le _, hl⟩
theorem core_New_no {F : List HP} {c : Cfg} (hc : c.wf) {l : List Op3} {v : Value} (k : RdL F 3 v l.length (flat oc l)) (hn : l.length ≤ 1099511627776) (h : progB c l = false) :
    FnF Try.prog 65 [c.val, v] [] F (fun r L' => r = .tuple [.pointer none, .int .i64 1].toArray ∧ L' = []) := by
  have hP := fun F k => program_Fits (F := F) (c := c) hc (l := l) (v := v) k hn
  simp only [h] at hP
  refine FnF.mk' Try.func65 rfl rfl Try.ntmps65 rfl ?_
  repeat (first | rintro _ _ ⟨rfl, rfl⟩ | rintro _ _ ⟨_, rfl, rfl⟩ | rintro _ _ ⟨_, _, rfl, rfl⟩ | intro _ | refine go ?_ | (refine is_draw ?_; refine WC_draw mixed (by kernel_rfl) ?_) | refine cal @hP ?_)
  (apply WE_ret rfl rfl (by (repeat (first | exact ResOk.nil | (apply ResOk.tmp; rfl) | (apply resOk_cell; rfl; exact inferInstance; rfl; rfl)))); (first | exact ⟨rfl, rfl⟩ | exact ⟨congrArg Value.bool (by decide), rfl⟩ | exact ⟨_, rfl, rfl⟩ | exact ⟨_, _, rfl, rfl⟩ | exact ⟨by first | (simp []; done) | (simp [] <;> omega), rfl⟩); (repeat (first | exact Ent.refl | exact Ent.nil | apply Ent.pick | apply Ent.drop)))

theorem core_Left {F : List HP} {b : Nat} {l : List Op3} {rs : List Int} {tr : List (Int × Bool)} : FnF Try.prog 76 [.pointer (some ⟨b, 0, none⟩)] [CoreB b l rs tr] F (fun r L' => r = .int .i64 ((l.length : Int) - rs.length) ∧ L' = [CoreB b l rs tr]) := by
  refine FnF.mk' Try.func76 rfl rfl Try.ntmps76 rfl ?_
  refine core_open fun p1 c1 p2 c2 bm hl => ?_
  repeat (first | rintro _ _ ⟨rfl, rfl⟩ | rintro _ _ ⟨_, rfl, rfl⟩ | rintro _ _ ⟨_, _, rfl, rfl⟩ | intro _ | refine go ?_ | (refine is_draw ?_; refine WC_draw mixed (by kernel_rfl) ?_))
  (apply WE_ret rfl rfl (by (repeat (first | exact ResOk.nil | (apply ResOk.tmp; rfl) | (apply resOk_cell; rfl; exact inferInstance; rfl; rfl)))))
  · exact ⟨rfl, rfl⟩
  · (apply core_in; (focus ((repeat (first | (with_reducible exact Ent.refl) | exact Ent.nil | (apply ent_pickE; (focus ((repeat (first | (with_reducible exact pk_here) | (apply pk_there))); done))) | apply Ent.drop)); done)); all_goals (first | rfl | (with_reducible assumption) | (simp; done) | (simp; omega) | omega | (constructor <;> (simp) <;> omega)))

theorem core_Results {F : List HP} {b : Nat} {l : List Op3} {rs : List Int} {tr : List (Int × Bool)} : FnF Try.prog 75 [.pointer (some ⟨b, 0, none⟩)] [CoreB b l rs tr] F (fun r L' => ∃ p c, r = .slice p rs.length c ∧ L' = [Own 3 1 (.slice p rs.length c) rs.length (flat ic rs), CoreB b l rs tr]) := by
  refine FnF.mk' Try.func75 rfl rfl Try.ntmps75 rfl ?_
  refine core_open fun p1 c1 p2 c2 bm hl => ?_
  repeat (first | rintro _ _ ⟨rfl, rfl⟩ | rintro _ _ ⟨_, rfl, rfl⟩ | rintro _ _ ⟨_, _, rfl, rfl⟩ | intro _ | refine go ?_ | (refine is_draw ?_; refine WC_draw mixed (by kernel_rfl) ?_) | refine cal @sl_Clone_int ?_)
  (apply WE_ret rfl rfl (by (repeat (first | exact ResOk.nil | (apply ResOk.tmp; rfl) | (apply resOk_cell; rfl; exact inferInstance; rfl; rfl)))))
  · exact ⟨_, _, rfl, rfl⟩
  · refine Ent.cons ?_
    (apply core_in; (focus ((repeat (first | (with_reducible exact Ent.refl) | exact Ent.nil | (apply ent_pickE; (focus ((repeat (first | (with_reducible exact pk_here) | (apply pk_there))); done))) | apply Ent.drop)); done)); all_goals (first | rfl | (with_reducible assumption) | (simp; done) | (simp; omega) | omega | (constructor <;> (simp) <;> omega)))

def headB (l : List Op3) (rs : List Int) : Bool := !decide (rs.length = l.length)
def headO (l : List Op3) (rs : List Int) : Op3 := l.getD rs.length .zero
theorem core_Head {F : List HP} {b : Nat} {l : List Op3} {rs : List Int} {tr : List (Int × Bool)} : FnF Try.prog 73 [.pointer (some ⟨b, 0, none⟩)] [CoreB b l rs tr] F (fun r L' => r = .tuple [ov (headO l rs), .bool (headB l rs)].toArray ∧ L' = [CoreB b l rs tr]) := by
  refine FnF.mk' Try.func73 rfl rfl Try.ntmps73 rfl ?_
  by_cases h : rs.length = l.length
  · have h0 : (l.length : Int) - rs.length = 0 := by omega
    repeat (first | rintro _ _ ⟨rfl, rfl⟩ | rintro _ _ ⟨_, rfl, rfl⟩ | rintro _ _ ⟨_, _, rfl, rfl⟩ | intro _ | refine go ?_ | (refine is_draw ?_; apply WC_mix (id := 3) true _ (pl := .p 0 <| .p 1 <| .p 2 <| .p 4 <| .p 5 <| .p 6 <| .r 3 <| .r 7 <| .p 8 <| .p 9 <| .r 10 <| .e true [(11, .p 12 <| .done)]); exact mixed; kernel_rfl; kernel_rfl; exact Ent.refl) | (refine is_draw ?_; refine WC_draw mixed (by kernel_rfl) ?_) | refine cal @core_Left ?_)
    (apply WE_ret rfl rfl (by (repeat (first | exact ResOk.nil | (apply ResOk.tmp; rfl) | (apply resOk_cell; rfl; exact inferInstance; rfl; rfl)))))
    · exact ⟨by simp [headO, headB, h], rfl⟩
    · (repeat (first | (with_reducible exact Ent.refl) | exact Ent.nil | (apply ent_pickE; (focus ((repeat (first | (with_reducible exact pk_here) | (apply pk_there))); done))) | apply Ent.drop))
  · have h0 : ¬ (l.length : Int) - rs.length = 0 := by omega
    repeat (first | rintro _ _ ⟨rfl, rfl⟩ | rintro _ _ ⟨_, rfl, rfl⟩ | rintro _ _ ⟨_, _, rfl, rfl⟩ | intro _ | refine go ?_ | refine cal @core_Left ?_)
    (first | refine WO_front (CoreB b l rs tr) ?_ | refine WC_front (CoreB b l rs tr) ?_ | refine WE_front (CoreB b l rs tr) ?_)
    refine core_open fun p1 c1 p2 c2 bm hl => ?_
    have hlt : rs.length < l.length := by omega
    (first | (refine WO_some (.slice p1 l.length c1) inferInstance (by omega) ?_; intro _) | (refine WC_some (.slice p1 l.length c1) inferInstance (by omega) ?_; intro _))
    repeat (first | rintro _ _ ⟨rfl, rfl⟩ | rintro _ _ ⟨_, rfl, rfl⟩ | rintro _ _ ⟨_, _, rfl, rfl⟩ | intro _ | refine go ?_ | (refine is_draw ?_; apply WC_mix (id := 3) true _ (pl := .p 0 <| .p 1 <| .p 2 <| .p 4 <| .p 5 <| .p 6 <| .r 3 <| .r 7 <| .p 8 <| .p 9 <| .r 10 <| .e true [(11, .p 12 <| .done)]); exact mixed; kernel_rfl; kernel_rfl; exact Ent.refl) | (refine is_draw ?_; refine WC_draw mixed (by kernel_rfl) ?_))
    (apply WE_ret rfl rfl (by (repeat (first | exact ResOk.nil | (apply ResOk.tmp; rfl) | (apply resOk_cell; rfl; exact inferInstance; rfl; rfl)))))
    · exact ⟨by simp [headO, headB, h, hlt], rfl⟩
    · ((repeat (first | (with_reducible exact Ent.refl) | exact Ent.nil | (apply ent_pickE; (focus ((repeat (first | (with_reducible exact pk_here) | (apply pk_there))); done))) | (apply core_in) | apply Ent.drop)); all_goals (first | rfl | (with_reducible assumption) | (simp; done) | (simp; omega) | omega | (constructor <;> (simp) <;> omega)))

theorem core_Commit {F : List HP} {b : Nat} {l : List Op3} {rs : List Int} {tr : List (Int × Bool)} {n : Int} (h : ¬ rs.length = l.length) : FnF Try.prog 67 [.pointer (some ⟨b, 0, none⟩), .int .i64 n] [CoreB b l rs tr] F
    (fun r L' => r = .tuple [.int .i64 rs.length, .int .i64 0].toArray ∧ L' = [CoreB b l (rs ++ [n]) (mdel tr rs.length)]) := by
  refine FnF.mk' Try.func67 rfl rfl Try.ntmps67 rfl ?_
  have h0 : ¬ (l.length : Int) - rs.length = 0 := by omega
  repeat (first | rintro _ _ ⟨rfl, rfl⟩ | rintro _ _ ⟨_, rfl, rfl⟩ | rintro _ _ ⟨_, _, rfl, rfl⟩ | intro _ | refine go ?_ | refine cal @core_Left ?_)
  (first | refine WO_front (CoreB b l rs tr) ?_ | refine WC_front (CoreB b l rs tr) ?_ | refine WE_front (CoreB b l rs tr) ?_)
  first | refine core_open fun p1 c1 p2 c2 bm hl => ?_ | refine core_openO fun p1 c1 p2 c2 bm hl => ?_
  repeat (first | rintro _ _ ⟨rfl, rfl⟩ | rintro _ _ ⟨_, rfl, rfl⟩ | rintro _ _ ⟨_, _, rfl, rfl⟩ | intro _ | refine go ?_ | (refine is_draw ?_; refine WC_draw mixed (by kernel_rfl) ?_))
  (apply WE_ret rfl rfl (by (repeat (first | exact ResOk.nil | (apply ResOk.tmp; rfl) | (apply resOk_cell; rfl; exact inferInstance; rfl; rfl)))))
  · exact ⟨rfl, rfl⟩
  · ((repeat (first | (with_reducible exact Ent.refl) | exact Ent.nil | (apply ent_pickE; (focus ((repeat (first | (with_reducible exact pk_here) | (apply pk_there))); done))) | (apply core_in) | apply Ent.drop)); all_goals (first | rfl | (with_reducible assumption) | (simp; done) | (simp; omega) | omega | (constructor <;> (simp) <;> omega)))
theorem core_Commit_no {F : List HP} {b : Nat} {l : List Op3} {rs : List Int} {tr : List (Int × Bool)} {n : Int} (h : rs.length = l.length) : FnF Try.prog 67 [.pointer (some ⟨b, 0, none⟩), .int .i64 n] [CoreB b l rs tr] F
    (fun r L' => r = .tuple [.int .i64 0, .int .i64 5].toArray ∧ L' = [CoreB b l rs tr]) := by
  refine FnF.mk' Try.func67 rfl rfl Try.ntmps67 rfl ?_
  have h0 : (l.length : Int) - rs.length = 0 := by omega
  repeat (first | rintro _ _ ⟨rfl, rfl⟩ | rintro _ _ ⟨_, rfl, rfl⟩ | rintro _ _ ⟨_, _, rfl, rfl⟩ | intro _ | refine go ?_ | (refine is_draw ?_; refine WC_draw mixed (by kernel_rfl) ?_) | refine cal @core_Left ?_)
  (apply WE_ret rfl rfl (by (repeat (first | exact ResOk.nil | (apply ResOk.tmp; rfl) | (apply resOk_cell; rfl; exact inferInstance; rfl; rfl)))); (first | exact ⟨rfl, rfl⟩ | exact ⟨congrArg Value.bool (by decide), rfl⟩ | exact ⟨_, rfl, rfl⟩ | exact ⟨_, _, rfl, rfl⟩ | exact ⟨by first | (simp []; done) | (simp [] <;> omega), rfl⟩); (repeat (first | exact Ent.refl | exact Ent.nil | apply Ent.pick | apply Ent.drop)))

def aheadIn (l : List Op3) (rs : List Int) (d : Int) : Bool := decide (1 ≤ d ∧ d ≤ 4 ∧ (rs.length : Int) + d < l.length) && !decide ((l.getD ((rs.length : Int) + d).toNat .zero).kind = 4)
def aheadB (l : List Op3) (rs : List Int) (tr : List (Int × Bool)) (d : Int) : Bool := aheadIn l rs d && !(mget tr ((rs.length : Int) + d)).getD false
def aheadO (l : List Op3) (rs : List Int) (tr : List (Int × Bool)) (d : Int) : Op3 := if aheadB l rs tr d then l.getD ((rs.length : Int) + d).toNat .zero else .zero
theorem core_Ahead {F : List HP} {b : Nat} {l : List Op3} {rs : List Int} {tr : List (Int × Bool)} {d : Int} : FnF Try.prog 71 [.pointer (some ⟨b, 0, none⟩), .int .i64 d] [CoreB b l rs tr] F
    (fun r L' => r = .tuple [ov (aheadO l rs tr d), .bool (aheadB l rs tr d)].toArray ∧ L' = [CoreB b l rs tr]) := by
  refine FnF.mk' Try.func71 rfl rfl Try.ntmps71 rfl ?_
  refine core_open fun p1 c1 p2 c2 bm hl => ?_
  by_cases h1 : d < 1
  · have e : aheadB l rs tr d = false := by simp [aheadB, aheadIn]; omega
    repeat (first | rintro _ _ ⟨rfl, rfl⟩ | rintro _ _ ⟨_, rfl, rfl⟩ | rintro _ _ ⟨_, _, rfl, rfl⟩ | intro _ | refine go ?_ | (refine is_draw ?_; refine WC_draw mixed (by kernel_rfl) ?_))
    (apply WE_ret rfl rfl (by (repeat (first | exact ResOk.nil | (apply ResOk.tmp; rfl) | (apply resOk_cell; rfl; exact inferInstance; rfl; rfl)))))
    · exact ⟨by simp [aheadO, e], rfl⟩
    · ((repeat (first | (with_reducible exact Ent.refl) | exact Ent.nil | (apply ent_pickE; (focus ((repeat (first | (with_reducible exact pk_here) | (apply pk_there))); done))) | (apply core_in) | apply Ent.drop)); all_goals (first | rfl | (with_reducible assumption) | (simp; done) | (simp; omega) | omega | (constructor <;> (simp) <;> omega)))
  · by_cases h2 : 4 < d
    · have e : aheadB l rs tr d = false := by simp [aheadB, aheadIn]; omega
      repeat (first | rintro _ _ ⟨rfl, rfl⟩ | rintro _ _ ⟨_, rfl, rfl⟩ | rintro _ _ ⟨_, _, rfl, rfl⟩ | intro _ | refine go ?_ | (refine is_draw ?_; refine WC_draw mixed (by kernel_rfl) ?_))
      (apply WE_ret rfl rfl (by (repeat (first | exact ResOk.nil | (apply ResOk.tmp; rfl) | (apply resOk_cell; rfl; exact inferInstance; rfl; rfl)))))
      · exact ⟨by simp [aheadO, e], rfl⟩
      · ((repeat (first | (with_reducible exact Ent.refl) | exact Ent.nil | (apply ent_pickE; (focus ((repeat (first | (with_reducible exact pk_here) | (apply pk_there))); done))) | (apply core_in) | apply Ent.drop)); all_goals (first | rfl | (with_reducible assumption) | (simp; done) | (simp; omega) | omega | (constructor <;> (simp) <;> omega)))
    · by_cases h3 : (l.length : Int) ≤ (rs.length : Int) + d
      · have e : aheadB l rs tr d = false := by simp [aheadB, aheadIn]; omega
        repeat (first | rintro _ _ ⟨rfl, rfl⟩ | rintro _ _ ⟨_, rfl, rfl⟩ | rintro _ _ ⟨_, _, rfl, rfl⟩ | intro _ | refine go ?_ | (refine is_draw ?_; refine WC_draw mixed (by kernel_rfl) ?_))
        (apply WE_ret rfl rfl (by (repeat (first | exact ResOk.nil | (apply ResOk.tmp; rfl) | (apply resOk_cell; rfl; exact inferInstance; rfl; rfl)))))
        · exact ⟨by simp [aheadO, e], rfl⟩
        · ((repeat (first | (with_reducible exact Ent.refl) | exact Ent.nil | (apply ent_pickE; (focus ((repeat (first | (with_reducible exact pk_here) | (apply pk_there))); done))) | (apply core_in) | apply Ent.drop)); all_goals (first | rfl | (with_reducible assumption) | (simp; done) | (simp; omega) | omega | (constructor <;> (simp) <;> omega)))
      · have hlt : ((rs.length : Int) + d).toNat < l.length := by omega
        have hg : l.getD ((rs.length : Int) + d).toNat .zero = l[((rs.length : Int) + d).toNat] := by simp [hlt]
        by_cases h4 : l[((rs.length : Int) + d).toNat].kind = 4
        · have e : aheadB l rs tr d = false := by simp only [aheadB, aheadIn, hg, h4]; simp
          repeat (first | rintro _ _ ⟨rfl, rfl⟩ | rintro _ _ ⟨_, rfl, rfl⟩ | rintro _ _ ⟨_, _, rfl, rfl⟩ | intro _ | refine go ?_ | (refine is_draw ?_; refine WC_draw mixed (by kernel_rfl) ?_))
          (apply WE_ret rfl rfl (by (repeat (first | exact ResOk.nil | (apply ResOk.tmp; rfl) | (apply resOk_cell; rfl; exact inferInstance; rfl; rfl)))))
          · exact ⟨by simp [aheadO, e], rfl⟩
          · ((repeat (first | (with_reducible exact Ent.refl) | exact Ent.nil | (apply ent_pickE; (focus ((repeat (first | (with_reducible exact pk_here) | (apply pk_there))); done))) | (apply core_in) | apply Ent.drop)); all_goals (first | rfl | (with_reducible assumption) | (simp; done) | (simp; omega) | omega | (constructor <;> (simp) <;> omega)))
        · have hI : aheadIn l rs d = true := by simp only [aheadIn, hg, h4]; simp; omega
          cases ht : (mget tr ((rs.length : Int) + d)).getD false with
          | true =>
            have e : aheadB l rs tr d = false := by simp [aheadB, ht]
            repeat (first | rintro _ _ ⟨rfl, rfl⟩ | rintro _ _ ⟨_, rfl, rfl⟩ | rintro _ _ ⟨_, _, rfl, rfl⟩ | intro _ | refine go ?_ | (refine is_draw ?_; refine WC_draw mixed (by kernel_rfl) ?_))
            (apply WE_ret rfl rfl (by (repeat (first | exact ResOk.nil | (apply ResOk.tmp; rfl) | (apply resOk_cell; rfl; exact inferInstance; rfl; rfl)))))
            · exact ⟨by simp [aheadO, e], rfl⟩
            · ((repeat (first | (with_reducible exact Ent.refl) | exact Ent.nil | (apply ent_pickE; (focus ((repeat (first | (with_reducible exact pk_here) | (apply pk_there))); done))) | (apply core_in) | apply Ent.drop)); all_goals (first | rfl | (with_reducible assumption) | (simp; done) | (simp; omega) | omega | (constructor <;> (simp) <;> omega)))
          | false =>
            have e : aheadB l rs tr d = true := by simp [aheadB, ht, hI]
            repeat (first | rintro _ _ ⟨rfl, rfl⟩ | rintro _ _ ⟨_, rfl, rfl⟩ | rintro _ _ ⟨_, _, rfl, rfl⟩ | intro _ | refine go ?_ | (refine is_draw ?_; refine WC_draw mixed (by kernel_rfl) ?_))
            (apply WE_ret rfl rfl (by (repeat (first | exact ResOk.nil | (apply ResOk.tmp; rfl) | (apply resOk_cell; rfl; exact inferInstance; rfl; rfl)))))
            · exact ⟨by simp only [aheadO, e, if_true, hg]; rfl, rfl⟩
            · ((repeat (first | (with_reducible exact Ent.refl) | exact Ent.nil | (apply ent_pickE; (focus ((repeat (first | (with_reducible exact pk_here) | (apply pk_there))); done))) | (apply core_in) | apply Ent.drop)); all_goals (first | rfl | (with_reducible assumption) | (simp; done) | (simp; omega) | omega | (constructor <;> (simp) <;> omega)))

theorem core_Try_no {F : List HP} {b : Nat} {l : List Op3} {rs : List Int} {tr : List (Int × Bool)} {d : Int} (h : aheadB l rs tr d = false) : FnF Try.prog 69 [.pointer (some ⟨b, 0, none⟩), .int .i64 d] [CoreB b l rs tr] F
    (fun r L' => r = .int .i64 5 ∧ L' = [CoreB b l rs tr]) := by
  have hA := fun F => core_Ahead (F := F) (b := b) (l := l) (rs := rs) (tr := tr) (d := d)
  simp only [h] at hA
  refine FnF.mk' Try.func69 rfl rfl Try.ntmps69 rfl ?_
  repeat (first | rintro _ _ ⟨rfl, rfl⟩ | rintro _ _ ⟨_, rfl, rfl⟩ | rintro _ _ ⟨_, _, rfl, rfl⟩ | intro _ | refine go ?_ | (refine is_draw ?_; apply WC_mix (id := 4) true _ (pl := .p 0 <| .p 1 <| .p 2 <| .p 4 <| .p 5 <| .p 6 <| .p 9 <| .r 3 <| .r 7 <| .p 8 <| .p 10 <| .e true [(11, .done)]); exact mixed; kernel_rfl; kernel_rfl; exact Ent.refl) | (refine is_draw ?_; refine WC_draw mixed (by kernel_rfl) ?_) | refine cal @hA ?_)
  (apply WE_ret rfl rfl (by (repeat (first | exact ResOk.nil | (apply ResOk.tmp; rfl) | (apply resOk_cell; rfl; exact inferInstance; rfl; rfl)))); (first | exact ⟨rfl, rfl⟩ | exact ⟨congrArg Value.bool (by decide), rfl⟩ | exact ⟨_, rfl, rfl⟩ | exact ⟨_, _, rfl, rfl⟩ | exact ⟨by first | (simp []; done) | (simp [] <;> omega), rfl⟩); (repeat (first | exact Ent.refl | exact Ent.nil | apply Ent.pick | apply Ent.drop)))
theorem core_Try {F : List HP} {b : Nat} {l : List Op3} {rs : List Int} {tr : List (Int × Bool)} {d : Int} (h : aheadB l rs tr d = true) : FnF Try.prog 69 [.pointer (some ⟨b, 0, none⟩), .int .i64 d] [CoreB b l rs tr] F
    (fun r L' => r = .int .i64 0 ∧ L' = [CoreB b l rs (mset tr ((rs.length : Int) + d) true)]) := by
  have hA := fun F => core_Ahead (F := F) (b := b) (l := l) (rs := rs) (tr := tr) (d := d)
  simp only [h] at hA
  have hI : 1 ≤ d ∧ d ≤ 4 ∧ (rs.length : Int) + d < l.length := by simp [aheadB, aheadIn] at h; omega
  refine FnF.mk' Try.func69 rfl rfl Try.ntmps69 rfl ?_
  repeat (first | rintro _ _ ⟨rfl, rfl⟩ | rintro _ _ ⟨_, rfl, rfl⟩ | rintro _ _ ⟨_, _, rfl, rfl⟩ | intro _ | refine go ?_ | refine cal @hA ?_)
  (first | refine WO_front (CoreB b l rs tr) ?_ | refine WC_front (CoreB b l rs tr) ?_ | refine WE_front (CoreB b l rs tr) ?_)
  first | refine core_open fun p1 c1 p2 c2 bm hl => ?_ | refine core_openO fun p1 c1 p2 c2 bm hl => ?_
  repeat (first | rintro _ _ ⟨rfl, rfl⟩ | rintro _ _ ⟨_, rfl, rfl⟩ | rintro _ _ ⟨_, _, rfl, rfl⟩ | intro _ | refine go ?_ | (refine is_draw ?_; apply WC_mix (id := 4) true _ (pl := .p 0 <| .p 1 <| .p 2 <| .p 4 <| .p 5 <| .p 6 <| .p 9 <| .r 3 <| .r 7 <| .p 8 <| .p 10 <| .e true [(11, .done)]); exact mixed; kernel_rfl; kernel_rfl; exact Ent.refl) | (refine is_draw ?_; refine WC_draw mixed (by kernel_rfl) ?_))
  (apply WE_ret rfl rfl (by (repeat (first | exact ResOk.nil | (apply ResOk.tmp; rfl) | (apply resOk_cell; rfl; exact inferInstance; rfl; rfl)))))
  · exact ⟨rfl, rfl⟩
  · ((repeat (first | (with_reducible exact Ent.refl) | exact Ent.nil | (apply ent_pickE; (focus ((repeat (first | (with_reducible exact pk_here) | (apply pk_there))); done))) | (apply core_in) | apply Ent.drop)); all_goals (first | rfl | (with_reducible assumption) | (simp; done) | (simp; omega) | omega | (constructor <;> (simp) <;> omega)))
end Go.Sx
