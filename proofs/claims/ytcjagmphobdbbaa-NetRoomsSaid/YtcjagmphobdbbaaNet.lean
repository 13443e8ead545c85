/- What nets do: three bags of messages. The program's. My own work. -/
import Derived.Test.YtcjagmphobdbbaaMsg3
import Derived.Test.YtcjagmphobdbbaaBagR
import Derived.Test.YtcjagmphobdbbaaRange
namespace Go.Sx
open Go Go.Proofs
set_option linter.unusedVariables false
set_option linter.unusedSectionVars false
set_option linter.unusedSimpArgs false

/-! ## Three networks -/
structure Nets where
  l0 : List Msg
  l1 : List Msg
  l2 : List Msg
abbrev Nets.no : Nets := ⟨[], [], []⟩
def hasN (k : Int) : Bool := decide (0 ≤ k ∧ k < 3)
def nget (n : Nets) (k : Int) : List Msg := if k = 0 then n.l0 else if k = 1 then n.l1 else if k = 2 then n.l2 else []
def nset (n : Nets) (k : Int) (l : List Msg) : Nets := if k = 0 then ⟨l, n.l1, n.l2⟩ else if k = 1 then ⟨n.l0, l, n.l2⟩ else if k = 2 then ⟨n.l0, n.l1, l⟩ else n
def nroom (c : Cfg) (k : Int) : Int := if k = 0 then c.r0 else if k = 1 then c.r1 else if k = 2 then c.r2 else 0
def nleft (c : Cfg) (n : Nets) (k : Int) : Int := nroom c k - (nget n k).length
def natM (n : Nets) (k i : Int) : Msg := atL .zero (nget n k) i
def natB (n : Nets) (k i : Int) : Bool := inL (nget n k) i
def ntakeE (n : Nets) (k i : Int) : Int := takeE (nget n k) i
def ntakeN (n : Nets) (k i : Int) : Nets := nset n k (takeL (nget n k) i)
def nsendE (c : Cfg) (n : Nets) (m : Msg) : Int := if MayP c m then putE (nroom c (netK m.kind)) (nget n (netK m.kind)) else 1
def nsendN (c : Cfg) (n : Nets) (m : Msg) : Nets := if MayP c m then nset n (netK m.kind) (putL (nroom c (netK m.kind)) (nget n (netK m.kind)) m) else n
def nall (n : Nets) : List Msg := n.l0 ++ n.l1 ++ n.l2
def nofL (n : Nets) (line : Int) : List Msg := (nall n).filter fun m => decide (m.line = line)
theorem hasN_case {k : Int} (h : hasN k = true) : k = 0 ∨ k = 1 ∨ k = 2 := by simp [hasN] at h; omega
theorem nget_no {n : Nets} {k : Int} (h : hasN k = false) : nget n k = [] := by
  simp only [hasN, decide_eq_false_iff_not] at h
  unfold nget; rw [if_neg (by omega), if_neg (by omega), if_neg (by omega)]
theorem nroom_no {c : Cfg} {k : Int} (h : hasN k = false) : nroom c k = 0 := by
  simp only [hasN, decide_eq_false_iff_not] at h
  unfold nroom; rw [if_neg (by omega), if_neg (by omega), if_neg (by omega)]
theorem nset_no {n : Nets} {k : Int} {l : List Msg} (h : hasN k = false) : nset n k l = n := by
  simp only [hasN, decide_eq_false_iff_not] at h
  unfold nset; rw [if_neg (by omega), if_neg (by omega), if_neg (by omega)]
theorem netK_may {c : Cfg} {m : Msg} (h : MayP c m) : netK m.kind = 0 ∨ netK m.kind = 1 ∨ netK m.kind = 2 := by
  have := h.2.1
  unfold netK; split <;> (try split) <;> (try split) <;> omega

abbrev ncells (c : Cfg) (b0 b1 b2 : Nat) : List Value := [.int .i64 c.cores, .int .i64 c.homes, .int .i64 c.sets, .int .i64 c.ways, .int .i64 c.words, .int .i64 c.lines, .int .i64 c.pointers, .int .i64 c.mshrs, .int .i64 c.buffer, .int .i64 c.writebacks, .int .i64 c.r0, .int .i64 c.r1, .int .i64 c.r2, .pointer (some ⟨b0, 0, none⟩), .pointer (some ⟨b1, 0, none⟩), .pointer (some ⟨b2, 0, none⟩)]
theorem RL_len {α : Type} {T e : TypeId} {sz : Nat} {enc : α → List Value} {b : Nat} {room : Int} {l : List α} {L : List HP} {w : World} (h : Sat (RL T e sz enc b room l :: L) w) : (l.length : Int) ≤ room ∧ room ≤ 4096 := by
  obtain ⟨⟨p, c0⟩, hx⟩ := star_ex h
  simp only [app] at hx
  exact fact_of (star_drop (star_drop hx))
def NetB (T TB TM : TypeId) (b : Nat) (c : Cfg) (n : Nets) : HP :=
  Ex fun q : Nat × Nat × Nat => [Cells b T (ncells c q.1 q.2.1 q.2.2), RL TB TM 15 mc q.1 c.r0 n.l0, RL TB TM 15 mc q.2.1 c.r1 n.l1, RL TB TM 15 mc q.2.2 c.r2 n.l2, Fact (checkB c = true)]
theorem net_in {T TB TM : TypeId} {b : Nat} {c : Cfg} {n : Nets} {b0 b1 b2 : Nat} {L M : List HP}
    (h : Ent L (Cells b T (ncells c b0 b1 b2) :: RL TB TM 15 mc b0 c.r0 n.l0 :: RL TB TM 15 mc b1 c.r1 n.l1 :: RL TB TM 15 mc b2 c.r2 n.l2 :: M)) (hc : checkB c = true) : Ent L (NetB T TB TM b c n :: M) := by
  refine Ent.trans h (Ent.trans ?_ (ex_intro (p := fun q : Nat × Nat × Nat => [Cells b T (ncells c q.1 q.2.1 q.2.2), RL TB TM 15 mc q.1 c.r0 n.l0, RL TB TM 15 mc q.2.1 c.r1 n.l1, RL TB TM 15 mc q.2.2 c.r2 n.l2, Fact (checkB c = true)]) (b0, b1, b2)))
  exact Ent.cons (Ent.cons (Ent.cons (Ent.cons (star_fact_mk hc))))
theorem net_sat {T TB TM : TypeId} {b : Nat} {c : Cfg} {n : Nets} {L : List HP} {w : World} (h : Sat (NetB T TB TM b c n :: L) w) : ∃ b0 b1 b2, (checkB c = true ∧ (n.l0.length : Int) ≤ c.r0 ∧ (n.l1.length : Int) ≤ c.r1 ∧ (n.l2.length : Int) ≤ c.r2) ∧
    Sat (Cells b T (ncells c b0 b1 b2) :: RL TB TM 15 mc b0 c.r0 n.l0 :: RL TB TM 15 mc b1 c.r1 n.l1 :: RL TB TM 15 mc b2 c.r2 n.l2 :: L) w := by
  obtain ⟨⟨b0, b1, b2⟩, hx⟩ := star_ex h
  simp only [app] at hx
  have hf := fact_of (star_drop (star_drop (star_drop (star_drop hx))))
  have h2 : Sat (Cells b T (ncells c b0 b1 b2) :: RL TB TM 15 mc b0 c.r0 n.l0 :: RL TB TM 15 mc b1 c.r1 n.l1 :: RL TB TM 15 mc b2 c.r2 n.l2 :: L) w := (Ent.cons (Ent.cons (Ent.cons (Ent.cons (Ent.drop Ent.refl))))) _ hx
  exact ⟨b0, b1, b2, ⟨hf, (RL_len ((Ent.drop Ent.refl).sat h2)).1, (RL_len ((Ent.drop (Ent.drop Ent.refl)).sat h2)).1, (RL_len ((Ent.drop (Ent.drop (Ent.drop Ent.refl))).sat h2)).1⟩, h2⟩
section
variable {T TB TM : TypeId} {b : Nat} {c : Cfg} {n : Nets} {P : Program} {N : Nat} {env : Env} {L : List HP} {Q : Exit → Act → World → Prop}
theorem net_open {co : Code} (h : ∀ b0 b1 b2, (checkB c = true ∧ (n.l0.length : Int) ≤ c.r0 ∧ (n.l1.length : Int) ≤ c.r1 ∧ (n.l2.length : Int) ≤ c.r2) → WC P N co env (Cells b T (ncells c b0 b1 b2) :: RL TB TM 15 mc b0 c.r0 n.l0 :: RL TB TM 15 mc b1 c.r1 n.l1 :: RL TB TM 15 mc b2 c.r2 n.l2 :: L) Q) : WC P N co env (NetB T TB TM b c n :: L) Q := by
  intro a w ha hw
  obtain ⟨b0, b1, b2, hf, hx⟩ := net_sat hw
  exact h b0 b1 b2 hf a w ha hx
theorem net_openO {all : Array Oper} {o : List Oper} (h : ∀ b0 b1 b2, (checkB c = true ∧ (n.l0.length : Int) ≤ c.r0 ∧ (n.l1.length : Int) ≤ c.r1 ∧ (n.l2.length : Int) ≤ c.r2) → WO P N all o env (Cells b T (ncells c b0 b1 b2) :: RL TB TM 15 mc b0 c.r0 n.l0 :: RL TB TM 15 mc b1 c.r1 n.l1 :: RL TB TM 15 mc b2 c.r2 n.l2 :: L) Q) : WO P N all o env (NetB T TB TM b c n :: L) Q := by
  intro a w ha hw
  obtain ⟨b0, b1, b2, hf, hx⟩ := net_sat hw
  exact h b0 b1 b2 hf a w ha hx
end
set_option maxRecDepth 100000
set_option maxHeartbeats 4000000
attribute [local irreducible] Go.Exit.then Go.Exit.inBlock Go.Code.wp WC WO WE WQ V LoopQ FnQ Sat Star band bor IntKind.wrap WR Code.rounds WT KO
abbrev NetP := NetB 134 190 37

theorem net_New {F : List HP} {c : Cfg} (hw : c.wf) (hc : checkB c = true) : FnF Try.prog 14 [c.val] [] F (fun r L' => ∃ b, r = .tuple [.pointer (some ⟨b, 0, none⟩), .int .i64 0].toArray ∧ L' = [NetP b c .no]) := by
  have hC := fun F => shape_Check (F := F) hw
  simp only [checkE, hc, if_true] at hC
  have hr : (1 ≤ c.r0 ∧ c.r0 ≤ 4096) ∧ (1 ≤ c.r1 ∧ c.r1 ≤ 4096) ∧ (1 ≤ c.r2 ∧ c.r2 ≤ 4096) := by
    simp only [checkB, fitsB, Bool.and_eq_true, decide_eq_true_eq] at hc
    omega
  obtain ⟨h0, h1, h2⟩ := hr
  have hB0 := fun F => bag_New_msg (F := F) h0
  have hB1 := fun F => bag_New_msg (F := F) h1
  have hB2 := fun F => bag_New_msg (F := F) h2
  refine FnF.mk' Try.func14 rfl rfl Try.ntmps14 rfl ?_
  repeat (first | rintro _ _ ⟨rfl, rfl⟩ | rintro _ _ ⟨_, rfl, rfl⟩ | rintro _ _ ⟨_, _, rfl, rfl⟩ | intro _ | refine go ?_ | (refine is_draw ?_; apply WC_mix (id := 8) true [] (pl := .p 0 <| .p 1 <| .p 2 <| .p 7 <| .p 8 <| .e true [(3, .p 4 <| .p 5 <| .p 6 <| .p 9 <| .e false [(10, .done)])]); exact mixed; kernel_rfl; kernel_rfl; exact Ent.nil) | (refine is_draw ?_; refine WC_draw mixed (by kernel_rfl) ?_) | refine cal @hC ?_)
  refine WC_rounds 4 ?_
  repeat (first | rintro _ _ ⟨rfl, rfl⟩ | rintro _ _ ⟨_, rfl, rfl⟩ | rintro _ _ ⟨_, _, rfl, rfl⟩ | intro _ | refine go ?_ | (refine is_draw ?_; apply WC_mix (id := 8) true [] (pl := .p 0 <| .p 1 <| .p 2 <| .p 7 <| .p 8 <| .e true [(3, .p 4 <| .p 5 <| .p 6 <| .p 9 <| .e false [(10, .done)])]); exact mixed; kernel_rfl; kernel_rfl; exact Ent.nil) | (refine is_draw ?_; refine WC_draw mixed (by kernel_rfl) ?_) | refine cal @hB0 ?_ | refine cal @hB1 ?_ | refine cal @hB2 ?_)
  (apply WE_ret rfl rfl (by (repeat (first | exact ResOk.nil | (apply ResOk.tmp; rfl) | (apply resOk_cell; rfl; exact inferInstance; rfl; rfl)))))
  · exact ⟨_, rfl, rfl⟩
  · rename_i bc b w2 w1 w0
    change Ent (Bag_msg w0 c.r2 [] :: Bag_msg w1 c.r1 [] :: Bag_msg w2 c.r0 [] :: Cells b 134 (ncells c w2 w1 w0) :: _) _
    (apply net_in; (focus ((repeat (first | (with_reducible exact Ent.refl) | exact Ent.nil | (apply ent_pickE; (focus ((repeat (first | (with_reducible exact pk_here) | (apply pk_there))); done))) | apply Ent.drop)); done)); all_goals (first | rfl | (with_reducible assumption) | (simp; done) | (simp; omega) | omega | (constructor <;> (simp) <;> omega)))
theorem net_New_no {F : List HP} {c : Cfg} (hw : c.wf) (hc : checkB c = false) : FnF Try.prog 14 [c.val] [] F (fun r L' => r = .tuple [.pointer none, .int .i64 1].toArray ∧ L' = []) := by
  have hC := fun F => shape_Check (F := F) hw
  simp only [checkE, hc, Bool.false_eq_true, if_false] at hC
  refine FnF.mk' Try.func14 rfl rfl Try.ntmps14 rfl ?_
  repeat (first | rintro _ _ ⟨rfl, rfl⟩ | rintro _ _ ⟨_, rfl, rfl⟩ | rintro _ _ ⟨_, _, rfl, rfl⟩ | intro _ | refine go ?_ | (refine is_draw ?_; apply WC_mix (id := 8) true [] (pl := .p 0 <| .p 1 <| .p 2 <| .p 7 <| .p 8 <| .e true [(3, .p 4 <| .p 5 <| .p 6 <| .p 9 <| .e false [(10, .done)])]); exact mixed; kernel_rfl; kernel_rfl; exact Ent.nil) | (refine is_draw ?_; refine WC_draw mixed (by kernel_rfl) ?_) | refine cal @hC ?_)
  (apply WE_ret rfl rfl (by (repeat (first | exact ResOk.nil | (apply ResOk.tmp; rfl) | (apply resOk_cell; rfl; exact inferInstance; rfl; rfl)))); (first | exact ⟨rfl, rfl⟩ | exact ⟨congrArg Value.bool (by decide), rfl⟩ | exact ⟨_, rfl, rfl⟩ | exact ⟨_, _, rfl, rfl⟩ | exact ⟨by first | (simp []; done) | (simp [] <;> omega), rfl⟩); (repeat (first | exact Ent.refl | exact Ent.nil | apply Ent.pick | apply Ent.drop)))
theorem net_has {F : List HP} {k : Int} : FnF Try.prog 69 [.int .i64 k] [] F (fun r L' => r = .bool (hasN k) ∧ L' = []) := by
  refine FnF.mk' Try.func69 rfl rfl Try.ntmps69 rfl ?_
  repeat' (first | rintro _ _ ⟨rfl, rfl⟩ | rintro _ _ ⟨_, rfl, rfl⟩ | rintro _ _ ⟨_, _, rfl, rfl⟩ | intro _ | refine go ?_ | (refine is_draw ?_; refine WC_draw mixed (by kernel_rfl) ?_) | refine spl ?_ ?_ | fail)
  all_goals (apply WE_ret rfl rfl (by (repeat (first | exact ResOk.nil | (apply ResOk.tmp; rfl) | (apply resOk_cell; rfl; exact inferInstance; rfl; rfl)))); (refine ⟨congrArg Value.bool ?_, rfl⟩; (first | (refine decide_eq_decide.2 ?_) | (refine (decide_eq_true ?_).symm) | (refine (decide_eq_false ?_).symm)); (first | omega | (simp only [hasN]; omega))); (repeat (first | exact Ent.refl | exact Ent.nil | apply Ent.pick | apply Ent.drop)))
theorem net_Left {F : List HP} {b : Nat} {c : Cfg} {n : Nets} {k : Int} : FnF Try.prog 18 [.pointer (some ⟨b, 0, none⟩), .int .i64 k] [NetP b c n] F (fun r L' => r = .int .i64 (nleft c n k) ∧ L' = [NetP b c n]) := by
  have hH := fun F => net_has (F := F) (k := k)
  refine FnF.mk' Try.func18 rfl rfl Try.ntmps18 rfl ?_
  refine net_open fun b0 b1 b2 ⟨hc, hn0, hn1, hn2⟩ => ?_
  cases h : hasN k with
  | true =>
    rw [h] at hH
    rcases hasN_case h with rfl | rfl | rfl
    · repeat (first | rintro _ _ ⟨rfl, rfl⟩ | rintro _ _ ⟨_, rfl, rfl⟩ | rintro _ _ ⟨_, _, rfl, rfl⟩ | intro _ | refine go ?_ | (refine is_draw ?_; refine WC_draw mixed (by kernel_rfl) ?_) | refine cal @hH ?_ | refine cal @bag_Left_msg ?_)
      (apply WE_ret rfl rfl (by (repeat (first | exact ResOk.nil | (apply ResOk.tmp; rfl) | (apply resOk_cell; rfl; exact inferInstance; rfl; rfl)))))
      · exact ⟨rfl, rfl⟩
      · (apply net_in; (focus ((repeat (first | (with_reducible exact Ent.refl) | exact Ent.nil | (apply ent_pickE; (focus ((repeat (first | (with_reducible exact pk_here) | (apply pk_there))); done))) | apply Ent.drop)); done)); all_goals (first | rfl | (with_reducible assumption) | (simp; done) | (simp; omega) | omega | (constructor <;> (simp) <;> omega)))
    · repeat (first | rintro _ _ ⟨rfl, rfl⟩ | rintro _ _ ⟨_, rfl, rfl⟩ | rintro _ _ ⟨_, _, rfl, rfl⟩ | intro _ | refine go ?_ | (refine is_draw ?_; refine WC_draw mixed (by kernel_rfl) ?_) | refine cal @hH ?_ | refine cal @bag_Left_msg ?_)
      (apply WE_ret rfl rfl (by (repeat (first | exact ResOk.nil | (apply ResOk.tmp; rfl) | (apply resOk_cell; rfl; exact inferInstance; rfl; rfl)))))
      · exact ⟨rfl, rfl⟩
      · (apply net_in; (focus ((repeat (first | (with_reducible exact Ent.refl) | exact Ent.nil | (apply ent_pickE; (focus ((repeat (first | (with_reducible exact pk_here) | (apply pk_there))); done))) | apply Ent.drop)); done)); all_goals (first | rfl | (with_reducible assumption) | (simp; done) | (simp; omega) | omega | (constructor <;> (simp) <;> omega)))
    · repeat (first | rintro _ _ ⟨rfl, rfl⟩ | rintro _ _ ⟨_, rfl, rfl⟩ | rintro _ _ ⟨_, _, rfl, rfl⟩ | intro _ | refine go ?_ | (refine is_draw ?_; refine WC_draw mixed (by kernel_rfl) ?_) | refine cal @hH ?_ | refine cal @bag_Left_msg ?_)
      (apply WE_ret rfl rfl (by (repeat (first | exact ResOk.nil | (apply ResOk.tmp; rfl) | (apply resOk_cell; rfl; exact inferInstance; rfl; rfl)))))
      · exact ⟨rfl, rfl⟩
      · (apply net_in; (focus ((repeat (first | (with_reducible exact Ent.refl) | exact Ent.nil | (apply ent_pickE; (focus ((repeat (first | (with_reducible exact pk_here) | (apply pk_there))); done))) | apply Ent.drop)); done)); all_goals (first | rfl | (with_reducible assumption) | (simp; done) | (simp; omega) | omega | (constructor <;> (simp) <;> omega)))
  | false =>
    rw [h] at hH
    repeat (first | rintro _ _ ⟨rfl, rfl⟩ | rintro _ _ ⟨_, rfl, rfl⟩ | rintro _ _ ⟨_, _, rfl, rfl⟩ | intro _ | refine go ?_ | (refine is_draw ?_; refine WC_draw mixed (by kernel_rfl) ?_) | refine cal @hH ?_)
    (apply WE_ret rfl rfl (by (repeat (first | exact ResOk.nil | (apply ResOk.tmp; rfl) | (apply resOk_cell; rfl; exact inferInstance; rfl; rfl)))))
    · exact ⟨by simp [nleft, nroom_no h, nget_no h], rfl⟩
    · (apply net_in; (focus ((repeat (first | (with_reducible exact Ent.refl) | exact Ent.nil | (apply ent_pickE; (focus ((repeat (first | (with_reducible exact pk_here) | (apply pk_there))); done))) | apply Ent.drop)); done)); all_goals (first | rfl | (with_reducible assumption) | (simp; done) | (simp; omega) | omega | (constructor <;> (simp) <;> omega)))
theorem net_At {F : List HP} {b : Nat} {c : Cfg} {n : Nets} {k i : Int} : FnF Try.prog 16 [.pointer (some ⟨b, 0, none⟩), .int .i64 k, .int .i64 i] [NetP b c n] F (fun r L' => r = .tuple [mv (natM n k i), .bool (natB n k i)].toArray ∧ L' = [NetP b c n]) := by
  have hH := fun F => net_has (F := F) (k := k)
  refine FnF.mk' Try.func16 rfl rfl Try.ntmps16 rfl ?_
  refine net_open fun b0 b1 b2 ⟨hc, hn0, hn1, hn2⟩ => ?_
  cases h : hasN k with
  | true =>
    rw [h] at hH
    rcases hasN_case h with rfl | rfl | rfl
    · repeat (first | rintro _ _ ⟨rfl, rfl⟩ | rintro _ _ ⟨_, rfl, rfl⟩ | rintro _ _ ⟨_, _, rfl, rfl⟩ | intro _ | refine go ?_ | (refine is_draw ?_; refine WC_draw mixed (by kernel_rfl) ?_) | refine cal @hH ?_ | refine cal @bag_At_msg ?_)
      (apply WE_ret rfl rfl (by (repeat (first | exact ResOk.nil | (apply ResOk.tmp; rfl) | (apply resOk_cell; rfl; exact inferInstance; rfl; rfl)))))
      · exact ⟨rfl, rfl⟩
      · (apply net_in; (focus ((repeat (first | (with_reducible exact Ent.refl) | exact Ent.nil | (apply ent_pickE; (focus ((repeat (first | (with_reducible exact pk_here) | (apply pk_there))); done))) | apply Ent.drop)); done)); all_goals (first | rfl | (with_reducible assumption) | (simp; done) | (simp; omega) | omega | (constructor <;> (simp) <;> omega)))
    · repeat (first | rintro _ _ ⟨rfl, rfl⟩ | rintro _ _ ⟨_, rfl, rfl⟩ | rintro _ _ ⟨_, _, rfl, rfl⟩ | intro _ | refine go ?_ | (refine is_draw ?_; refine WC_draw mixed (by kernel_rfl) ?_) | refine cal @hH ?_ | refine cal @bag_At_msg ?_)
      (apply WE_ret rfl rfl (by (repeat (first | exact ResOk.nil | (apply ResOk.tmp; rfl) | (apply resOk_cell; rfl; exact inferInstance; rfl; rfl)))))
      · exact ⟨rfl, rfl⟩
      · (apply net_in; (focus ((repeat (first | (with_reducible exact Ent.refl) | exact Ent.nil | (apply ent_pickE; (focus ((repeat (first | (with_reducible exact pk_here) | (apply pk_there))); done))) | apply Ent.drop)); done)); all_goals (first | rfl | (with_reducible assumption) | (simp; done) | (simp; omega) | omega | (constructor <;> (simp) <;> omega)))
    · repeat (first | rintro _ _ ⟨rfl, rfl⟩ | rintro _ _ ⟨_, rfl, rfl⟩ | rintro _ _ ⟨_, _, rfl, rfl⟩ | intro _ | refine go ?_ | (refine is_draw ?_; refine WC_draw mixed (by kernel_rfl) ?_) | refine cal @hH ?_ | refine cal @bag_At_msg ?_)
      (apply WE_ret rfl rfl (by (repeat (first | exact ResOk.nil | (apply ResOk.tmp; rfl) | (apply resOk_cell; rfl; exact inferInstance; rfl; rfl)))))
      · exact ⟨rfl, rfl⟩
      · (apply net_in; (focus ((repeat (first | (with_reducible exact Ent.refl) | exact Ent.nil | (apply ent_pickE; (focus ((repeat (first | (with_reducible exact pk_here) | (apply pk_there))); done))) | apply Ent.drop)); done)); all_goals (first | rfl | (with_reducible assumption) | (simp; done) | (simp; omega) | omega | (constructor <;> (simp) <;> omega)))
  | false =>
    rw [h] at hH
    have e1 : natM n k i = .zero := by simp [natM, nget_no h, atL, inL]
    have e2 : natB n k i = false := by simp [natB, nget_no h, inL]
    repeat (first | rintro _ _ ⟨rfl, rfl⟩ | rintro _ _ ⟨_, rfl, rfl⟩ | rintro _ _ ⟨_, _, rfl, rfl⟩ | intro _ | refine go ?_ | (refine is_draw ?_; refine WC_draw mixed (by kernel_rfl) ?_) | refine cal @hH ?_)
    (apply WE_ret rfl rfl (by (repeat (first | exact ResOk.nil | (apply ResOk.tmp; rfl) | (apply resOk_cell; rfl; exact inferInstance; rfl; rfl)))))
    · rw [e1, e2]; exact ⟨rfl, rfl⟩
    · (apply net_in; (focus ((repeat (first | (with_reducible exact Ent.refl) | exact Ent.nil | (apply ent_pickE; (focus ((repeat (first | (with_reducible exact pk_here) | (apply pk_there))); done))) | apply Ent.drop)); done)); all_goals (first | rfl | (with_reducible assumption) | (simp; done) | (simp; omega) | omega | (constructor <;> (simp) <;> omega)))
theorem net_Take {F : List HP} {b : Nat} {c : Cfg} {n : Nets} {k i : Int} : FnF Try.prog 22 [.pointer (some ⟨b, 0, none⟩), .int .i64 k, .int .i64 i] [NetP b c n] F (fun r L' => r = .tuple [mv (natM n k i), .int .i64 (ntakeE n k i)].toArray ∧ L' = [NetP b c (ntakeN n k i)]) := by
  have hH := fun F => net_has (F := F) (k := k)
  refine FnF.mk' Try.func22 rfl rfl Try.ntmps22 rfl ?_
  refine net_open fun b0 b1 b2 ⟨hc, hn0, hn1, hn2⟩ => ?_
  cases h : hasN k with
  | true =>
    rw [h] at hH
    rcases hasN_case h with rfl | rfl | rfl
    · have e3 : ntakeN n 0 i = ⟨takeL n.l0 i, n.l1, n.l2⟩ := rfl
      rw [e3]
      repeat (first | rintro _ _ ⟨rfl, rfl⟩ | rintro _ _ ⟨_, rfl, rfl⟩ | rintro _ _ ⟨_, _, rfl, rfl⟩ | intro _ | refine go ?_ | (refine is_draw ?_; refine WC_draw mixed (by kernel_rfl) ?_) | refine cal @hH ?_ | refine cal @bag_Take_msg ?_) 
      (apply WE_ret rfl rfl (by (repeat (first | exact ResOk.nil | (apply ResOk.tmp; rfl) | (apply resOk_cell; rfl; exact inferInstance; rfl; rfl)))))
      · exact ⟨rfl, rfl⟩
      · (apply net_in; (focus ((repeat (first | (with_reducible exact Ent.refl) | exact Ent.nil | (apply ent_pickE; (focus ((repeat (first | (with_reducible exact pk_here) | (apply pk_there))); done))) | apply Ent.drop)); done)); all_goals (first | rfl | (with_reducible assumption) | (simp; done) | (simp; omega) | omega | (constructor <;> (simp) <;> omega)))
    · have e3 : ntakeN n 1 i = ⟨n.l0, takeL n.l1 i, n.l2⟩ := rfl
      rw [e3]
      repeat (first | rintro _ _ ⟨rfl, rfl⟩ | rintro _ _ ⟨_, rfl, rfl⟩ | rintro _ _ ⟨_, _, rfl, rfl⟩ | intro _ | refine go ?_ | (refine is_draw ?_; refine WC_draw mixed (by kernel_rfl) ?_) | refine cal @hH ?_ | refine cal @bag_Take_msg ?_) 
      (apply WE_ret rfl rfl (by (repeat (first | exact ResOk.nil | (apply ResOk.tmp; rfl) | (apply resOk_cell; rfl; exact inferInstance; rfl; rfl)))))
      · exact ⟨rfl, rfl⟩
      · (apply net_in; (focus ((repeat (first | (with_reducible exact Ent.refl) | exact Ent.nil | (apply ent_pickE; (focus ((repeat (first | (with_reducible exact pk_here) | (apply pk_there))); done))) | apply Ent.drop)); done)); all_goals (first | rfl | (with_reducible assumption) | (simp; done) | (simp; omega) | omega | (constructor <;> (simp) <;> omega)))
    · have e3 : ntakeN n 2 i = ⟨n.l0, n.l1, takeL n.l2 i⟩ := rfl
      rw [e3]
      repeat (first | rintro _ _ ⟨rfl, rfl⟩ | rintro _ _ ⟨_, rfl, rfl⟩ | rintro _ _ ⟨_, _, rfl, rfl⟩ | intro _ | refine go ?_ | (refine is_draw ?_; refine WC_draw mixed (by kernel_rfl) ?_) | refine cal @hH ?_ | refine cal @bag_Take_msg ?_) 
      (apply WE_ret rfl rfl (by (repeat (first | exact ResOk.nil | (apply ResOk.tmp; rfl) | (apply resOk_cell; rfl; exact inferInstance; rfl; rfl)))))
      · exact ⟨rfl, rfl⟩
      · (apply net_in; (focus ((repeat (first | (with_reducible exact Ent.refl) | exact Ent.nil | (apply ent_pickE; (focus ((repeat (first | (with_reducible exact pk_here) | (apply pk_there))); done))) | apply Ent.drop)); done)); all_goals (first | rfl | (with_reducible assumption) | (simp; done) | (simp; omega) | omega | (constructor <;> (simp) <;> omega)))
  | false =>
    rw [h] at hH
    have e1 : natM n k i = .zero := by simp [natM, nget_no h, atL, inL]
    have e2 : ntakeE n k i = 5 := by simp [ntakeE, nget_no h, takeE, inL]
    have e3 : ntakeN n k i = n := nset_no h
    repeat (first | rintro _ _ ⟨rfl, rfl⟩ | rintro _ _ ⟨_, rfl, rfl⟩ | rintro _ _ ⟨_, _, rfl, rfl⟩ | intro _ | refine go ?_ | (refine is_draw ?_; refine WC_draw mixed (by kernel_rfl) ?_) | refine cal @hH ?_)
    (apply WE_ret rfl rfl (by (repeat (first | exact ResOk.nil | (apply ResOk.tmp; rfl) | (apply resOk_cell; rfl; exact inferInstance; rfl; rfl)))))
    · rw [e1, e2]; exact ⟨rfl, rfl⟩
    · rw [e3]; (apply net_in; (focus ((repeat (first | (with_reducible exact Ent.refl) | exact Ent.nil | (apply ent_pickE; (focus ((repeat (first | (with_reducible exact pk_here) | (apply pk_there))); done))) | apply Ent.drop)); done)); all_goals (first | rfl | (with_reducible assumption) | (simp; done) | (simp; omega) | omega | (constructor <;> (simp) <;> omega)))
theorem net_List {F : List HP} {b : Nat} {c : Cfg} {n : Nets} {k : Int} : FnF Try.prog 25 [.pointer (some ⟨b, 0, none⟩), .int .i64 k] [NetP b c n] F (fun r L' => ∃ p q, r = .slice p (nget n k).length q ∧ L' = [Own 37 15 (.slice p (nget n k).length q) (nget n k).length (flat mc (nget n k)), NetP b c n]) := by
  have hH := fun F => net_has (F := F) (k := k)
  refine FnF.mk' Try.func25 rfl rfl Try.ntmps25 rfl ?_
  refine net_open fun b0 b1 b2 ⟨hc, hn0, hn1, hn2⟩ => ?_
  cases h : hasN k with
  | true =>
    rw [h] at hH
    rcases hasN_case h with rfl | rfl | rfl
    · repeat (first | rintro _ _ ⟨rfl, rfl⟩ | rintro _ _ ⟨_, rfl, rfl⟩ | rintro _ _ ⟨_, _, rfl, rfl⟩ | intro _ | refine go ?_ | (refine is_draw ?_; refine WC_draw mixed (by kernel_rfl) ?_) | refine cal @hH ?_ | refine cal @bag_List_msg ?_)
      (apply WE_ret rfl rfl (by (repeat (first | exact ResOk.nil | (apply ResOk.tmp; rfl) | (apply resOk_cell; rfl; exact inferInstance; rfl; rfl)))))
      · exact ⟨_, _, rfl, rfl⟩
      · refine Ent.cons ?_
        (apply net_in; (focus ((repeat (first | (with_reducible exact Ent.refl) | exact Ent.nil | (apply ent_pickE; (focus ((repeat (first | (with_reducible exact pk_here) | (apply pk_there))); done))) | apply Ent.drop)); done)); all_goals (first | rfl | (with_reducible assumption) | (simp; done) | (simp; omega) | omega | (constructor <;> (simp) <;> omega)))
    · repeat (first | rintro _ _ ⟨rfl, rfl⟩ | rintro _ _ ⟨_, rfl, rfl⟩ | rintro _ _ ⟨_, _, rfl, rfl⟩ | intro _ | refine go ?_ | (refine is_draw ?_; refine WC_draw mixed (by kernel_rfl) ?_) | refine cal @hH ?_ | refine cal @bag_List_msg ?_)
      (apply WE_ret rfl rfl (by (repeat (first | exact ResOk.nil | (apply ResOk.tmp; rfl) | (apply resOk_cell; rfl; exact inferInstance; rfl; rfl)))))
      · exact ⟨_, _, rfl, rfl⟩
      · refine Ent.cons ?_
        (apply net_in; (focus ((repeat (first | (with_reducible exact Ent.refl) | exact Ent.nil | (apply ent_pickE; (focus ((repeat (first | (with_reducible exact pk_here) | (apply pk_there))); done))) | apply Ent.drop)); done)); all_goals (first | rfl | (with_reducible assumption) | (simp; done) | (simp; omega) | omega | (constructor <;> (simp) <;> omega)))
    · repeat (first | rintro _ _ ⟨rfl, rfl⟩ | rintro _ _ ⟨_, rfl, rfl⟩ | rintro _ _ ⟨_, _, rfl, rfl⟩ | intro _ | refine go ?_ | (refine is_draw ?_; refine WC_draw mixed (by kernel_rfl) ?_) | refine cal @hH ?_ | refine cal @bag_List_msg ?_)
      (apply WE_ret rfl rfl (by (repeat (first | exact ResOk.nil | (apply ResOk.tmp; rfl) | (apply resOk_cell; rfl; exact inferInstance; rfl; rfl)))))
      · exact ⟨_, _, rfl, rfl⟩
      · refine Ent.cons ?_
        (apply net_in; (focus ((repeat (first | (with_reducible exact Ent.refl) | exact Ent.nil | (apply ent_pickE; (focus ((repeat (first | (with_reducible exact pk_here) | (apply pk_there))); done))) | apply Ent.drop)); done)); all_goals (first | rfl | (with_reducible assumption) | (simp; done) | (simp; omega) | omega | (constructor <;> (simp) <;> omega)))
  | false =>
    rw [h] at hH
    rw [nget_no h]
    repeat (first | rintro _ _ ⟨rfl, rfl⟩ | rintro _ _ ⟨_, rfl, rfl⟩ | rintro _ _ ⟨_, _, rfl, rfl⟩ | intro _ | refine go ?_ | (refine is_draw ?_; refine WC_draw mixed (by kernel_rfl) ?_) | refine cal @hH ?_)
    (apply WE_ret rfl rfl (by (repeat (first | exact ResOk.nil | (apply ResOk.tmp; rfl) | (apply resOk_cell; rfl; exact inferInstance; rfl; rfl)))))
    · exact ⟨none, 0, rfl, rfl⟩
    · refine Ent.trans ?_ (own_empty Ent.refl)
      (apply net_in; (focus ((repeat (first | (with_reducible exact Ent.refl) | exact Ent.nil | (apply ent_pickE; (focus ((repeat (first | (with_reducible exact pk_here) | (apply pk_there))); done))) | apply Ent.drop)); done)); all_goals (first | rfl | (with_reducible assumption) | (simp; done) | (simp; omega) | omega | (constructor <;> (simp) <;> omega)))
theorem net_Send {F : List HP} {b : Nat} {c : Cfg} {n : Nets} {m : Msg} (hw : c.wf) : FnF Try.prog 20 [.pointer (some ⟨b, 0, none⟩), mv m] [NetP b c n] F (fun r L' => r = .int .i64 (nsendE c n m) ∧ L' = [NetP b c (nsendN c n m)]) := by
  have hM := fun F => msg_May (F := F) (c := c) (m := m) hw
  have hN := fun F => msg_Net (F := F) (k := m.kind)
  refine FnF.mk' Try.func20 rfl rfl Try.ntmps20 rfl ?_
  refine net_open fun b0 b1 b2 ⟨hc, hn0, hn1, hn2⟩ => ?_
  by_cases h : MayP c m
  · simp only [decide_eq_true h] at hM
    have e1 : nsendE c n m = putE (nroom c (netK m.kind)) (nget n (netK m.kind)) := if_pos h
    have e2 : nsendN c n m = nset n (netK m.kind) (putL (nroom c (netK m.kind)) (nget n (netK m.kind)) m) := if_pos h
    rw [e1, e2]
    rcases netK_may h with e | e | e
    · rw [e] at hN ⊢
      have e3 : nset n 0 (putL (nroom c 0) (nget n 0) m) = ⟨putL c.r0 n.l0 m, n.l1, n.l2⟩ := rfl
      rw [e3]
      repeat' (first | rintro _ _ ⟨rfl, rfl⟩ | rintro _ _ ⟨_, rfl, rfl⟩ | rintro _ _ ⟨_, _, rfl, rfl⟩ | intro _ | refine go ?_ | (refine is_draw ?_; apply WC_mix (id := 1) true _ (pl := .p 0 <| .p 1 <| .p 2 <| .r 3 <| .r 4 <| .e true [(5, .p 6 <| .done)]); exact mixed; kernel_rfl; kernel_rfl; exact Ent.refl) | (refine is_draw ?_; apply WC_mix (id := 3) true _ (pl := .p 0 <| .p 1 <| .p 4 <| .p 5 <| .r 2 <| .e true [(3, .p 6 <| .e false [(7, .e false [(8, .e false [(9, .p 10 <| .done)])]), (8, .e false [(7, .e false [(9, .p 10 <| .done)])])]), (8, .e true [(3, .p 6 <| .e false [(7, .e false [(9, .p 10 <| .done)])])])]); exact mixed; kernel_rfl; kernel_rfl; exact Ent.refl) | (refine is_draw ?_; refine WC_draw mixed (by kernel_rfl) ?_) | refine cal @hM ?_ | refine cal @hN ?_ | refine cal @bag_Put_msg ?_ | refine spl ?_ ?_ | fail)
      all_goals (apply WE_ret rfl rfl (by (repeat (first | exact ResOk.nil | (apply ResOk.tmp; rfl) | (apply resOk_cell; rfl; exact inferInstance; rfl; rfl)))))
      all_goals first | exact ⟨rfl, rfl⟩ | (apply net_in; (focus ((repeat (first | (with_reducible exact Ent.refl) | exact Ent.nil | (apply ent_pickE; (focus ((repeat (first | (with_reducible exact pk_here) | (apply pk_there))); done))) | apply Ent.drop)); done)); all_goals (first | rfl | (with_reducible assumption) | (simp; done) | (simp; omega) | omega | (constructor <;> (simp) <;> omega)))
    · rw [e] at hN ⊢
      have e3 : nset n 1 (putL (nroom c 1) (nget n 1) m) = ⟨n.l0, putL c.r1 n.l1 m, n.l2⟩ := rfl
      rw [e3]
      repeat' (first | rintro _ _ ⟨rfl, rfl⟩ | rintro _ _ ⟨_, rfl, rfl⟩ | rintro _ _ ⟨_, _, rfl, rfl⟩ | intro _ | refine go ?_ | (refine is_draw ?_; apply WC_mix (id := 1) true _ (pl := .p 0 <| .p 1 <| .p 2 <| .r 3 <| .r 4 <| .e true [(5, .p 6 <| .done)]); exact mixed; kernel_rfl; kernel_rfl; exact Ent.refl) | (refine is_draw ?_; apply WC_mix (id := 3) true _ (pl := .p 0 <| .p 1 <| .p 4 <| .p 5 <| .r 2 <| .e true [(3, .p 6 <| .e false [(7, .e false [(8, .e false [(9, .p 10 <| .done)])]), (8, .e false [(7, .e false [(9, .p 10 <| .done)])])]), (8, .e true [(3, .p 6 <| .e false [(7, .e false [(9, .p 10 <| .done)])])])]); exact mixed; kernel_rfl; kernel_rfl; exact Ent.refl) | (refine is_draw ?_; refine WC_draw mixed (by kernel_rfl) ?_) | refine cal @hM ?_ | refine cal @hN ?_ | refine cal @bag_Put_msg ?_ | refine spl ?_ ?_ | fail)
      all_goals (apply WE_ret rfl rfl (by (repeat (first | exact ResOk.nil | (apply ResOk.tmp; rfl) | (apply resOk_cell; rfl; exact inferInstance; rfl; rfl)))))
      all_goals first | exact ⟨rfl, rfl⟩ | (apply net_in; (focus ((repeat (first | (with_reducible exact Ent.refl) | exact Ent.nil | (apply ent_pickE; (focus ((repeat (first | (with_reducible exact pk_here) | (apply pk_there))); done))) | apply Ent.drop)); done)); all_goals (first | rfl | (with_reducible assumption) | (simp; done) | (simp; omega) | omega | (constructor <;> (simp) <;> omega)))
    · rw [e] at hN ⊢
      have e3 : nset n 2 (putL (nroom c 2) (nget n 2) m) = ⟨n.l0, n.l1, putL c.r2 n.l2 m⟩ := rfl
      rw [e3]
      repeat' (first | rintro _ _ ⟨rfl, rfl⟩ | rintro _ _ ⟨_, rfl, rfl⟩ | rintro _ _ ⟨_, _, rfl, rfl⟩ | intro _ | refine go ?_ | (refine is_draw ?_; apply WC_mix (id := 1) true _ (pl := .p 0 <| .p 1 <| .p 2 <| .r 3 <| .r 4 <| .e true [(5, .p 6 <| .done)]); exact mixed; kernel_rfl; kernel_rfl; exact Ent.refl) | (refine is_draw ?_; apply WC_mix (id := 3) true _ (pl := .p 0 <| .p 1 <| .p 4 <| .p 5 <| .r 2 <| .e true [(3, .p 6 <| .e false [(7, .e false [(8, .e false [(9, .p 10 <| .done)])]), (8, .e false [(7, .e false [(9, .p 10 <| .done)])])]), (8, .e true [(3, .p 6 <| .e false [(7, .e false [(9, .p 10 <| .done)])])])]); exact mixed; kernel_rfl; kernel_rfl; exact Ent.refl) | (refine is_draw ?_; refine WC_draw mixed (by kernel_rfl) ?_) | refine cal @hM ?_ | refine cal @hN ?_ | refine cal @bag_Put_msg ?_ | refine spl ?_ ?_ | fail)
      all_goals (apply WE_ret rfl rfl (by (repeat (first | exact ResOk.nil | (apply ResOk.tmp; rfl) | (apply resOk_cell; rfl; exact inferInstance; rfl; rfl)))))
      all_goals first | exact ⟨rfl, rfl⟩ | (apply net_in; (focus ((repeat (first | (with_reducible exact Ent.refl) | exact Ent.nil | (apply ent_pickE; (focus ((repeat (first | (with_reducible exact pk_here) | (apply pk_there))); done))) | apply Ent.drop)); done)); all_goals (first | rfl | (with_reducible assumption) | (simp; done) | (simp; omega) | omega | (constructor <;> (simp) <;> omega)))
  · simp only [decide_eq_false h] at hM
    have e1 : nsendE c n m = 1 := if_neg h
    have e2 : nsendN c n m = n := if_neg h
    rw [e1, e2]
    repeat (first | rintro _ _ ⟨rfl, rfl⟩ | rintro _ _ ⟨_, rfl, rfl⟩ | rintro _ _ ⟨_, _, rfl, rfl⟩ | intro _ | refine go ?_ | (refine is_draw ?_; apply WC_mix (id := 1) true _ (pl := .p 0 <| .p 1 <| .p 2 <| .r 3 <| .r 4 <| .e true [(5, .p 6 <| .done)]); exact mixed; kernel_rfl; kernel_rfl; exact Ent.refl) | (refine is_draw ?_; apply WC_mix (id := 3) true _ (pl := .p 0 <| .p 1 <| .p 4 <| .p 5 <| .r 2 <| .e true [(3, .p 6 <| .e false [(7, .e false [(8, .e false [(9, .p 10 <| .done)])]), (8, .e false [(7, .e false [(9, .p 10 <| .done)])])]), (8, .e true [(3, .p 6 <| .e false [(7, .e false [(9, .p 10 <| .done)])])])]); exact mixed; kernel_rfl; kernel_rfl; exact Ent.refl) | (refine is_draw ?_; refine WC_draw mixed (by kernel_rfl) ?_) | refine cal @hM ?_)
    (apply WE_ret rfl rfl (by (repeat (first | exact ResOk.nil | (apply ResOk.tmp; rfl) | (apply resOk_cell; rfl; exact inferInstance; rfl; rfl)))))
    · exact ⟨rfl, rfl⟩
    · (apply net_in; (focus ((repeat (first | (with_reducible exact Ent.refl) | exact Ent.nil | (apply ent_pickE; (focus ((repeat (first | (with_reducible exact pk_here) | (apply pk_there))); done))) | apply Ent.drop)); done)); all_goals (first | rfl | (with_reducible assumption) | (simp; done) | (simp; omega) | omega | (constructor <;> (simp) <;> omega)))
end Go.Sx
