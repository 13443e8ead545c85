/- What bags do, the program's and the document's. My own work. -/
import Derived.Test.YtcjagmphobdbbaaSlT
namespace Go.Sx
open Go Go.Proofs
set_option linter.unusedVariables false
set_option linter.unusedSectionVars false
set_option maxRecDepth 100000
set_option maxHeartbeats 4000000
attribute [local irreducible] Go.Exit.then Go.Exit.inBlock Go.Code.wp WC WO WE WQ V LoopQ FnQ Sat Star band bor IntKind.wrap WR Code.rounds WT KO

/-! ## What a bag does, told of lists -/
def putE {α : Type} (room : Int) (l : List α) : Int := if (l.length : Int) = room then 4 else 0
def putL {α : Type} (room : Int) (l : List α) (x : α) : List α := if (l.length : Int) = room then l else l ++ [x]
def inL {α : Type} (l : List α) (n : Int) : Bool := decide (0 ≤ n ∧ n < l.length)
def takeL {α : Type} (l : List α) (n : Int) : List α := if inL l n then l.eraseIdx n.toNat else l
def takeE {α : Type} (l : List α) (n : Int) : Int := if inL l n then 0 else 5
def atL {α : Type} (z : α) (l : List α) (n : Int) : α := if inL l n then l.getD n.toNat z else z

theorem putL_le {α : Type} {room : Int} {l : List α} {x : α} (h : (l.length : Int) ≤ room) : ((putL room l x).length : Int) ≤ room := by
  unfold putL; split
  · exact h
  · simp; omega
theorem takeL_le {α : Type} {l : List α} {n : Int} : (takeL l n).length ≤ l.length := by
  unfold takeL; split
  · exact List.length_eraseIdx_le _ _
  · exact Nat.le_refl _
theorem inL_iff {α : Type} {l : List α} {n : Int} : inL l n = true ↔ (0 ≤ n ∧ n < l.length) := by simp [inL]
theorem inL_not {α : Type} {l : List α} {n : Int} : inL l n = false ↔ ¬ (0 ≤ n ∧ n < l.length) := by rw [← Bool.not_eq_true, inL_iff]

abbrev Bag_msg (b : Nat) (room : Int) (l : List Msg) : HP := RL 190 37 15 mc b room l

theorem bag_New_msg {F : List HP} {room : Int} (h : 1 ≤ room ∧ room ≤ 4096) : FnF Try.prog 67 [.int .i64 room] [] F (fun r L' => ∃ b, r = .tuple [.pointer (some ⟨b, 0, none⟩), .int .i64 0].toArray ∧ L' = [Bag_msg b room []]) := by
  refine FnF.mk' Try.func67 rfl rfl Try.ntmps67 rfl ?_
  repeat (first | rintro _ _ ⟨rfl, rfl⟩ | rintro _ _ ⟨_, rfl, rfl⟩ | rintro _ _ ⟨_, _, rfl, rfl⟩ | intro _ | refine go ?_ | (refine is_draw ?_; refine WC_draw mixed (by kernel_rfl) ?_))
  (apply WE_ret rfl rfl (by (repeat (first | exact ResOk.nil | (apply ResOk.tmp; rfl) | (apply resOk_cell; rfl; exact inferInstance; rfl; rfl)))))
  · exact ⟨_, rfl, rfl⟩
  · exact RL_in (l := []) (Ent.cons (own_empty Ent.refl)) rfl rfl (by simp; omega)
theorem bag_New_no_msg {F : List HP} {room : Int} (h : ¬ (1 ≤ room ∧ room ≤ 4096)) : FnF Try.prog 67 [.int .i64 room] [] F (fun r L' => r = .tuple [.pointer none, .int .i64 1].toArray ∧ L' = []) := by
  refine FnF.mk' Try.func67 rfl rfl Try.ntmps67 rfl ?_
  repeat' (first | rintro _ _ ⟨rfl, rfl⟩ | rintro _ _ ⟨_, rfl, rfl⟩ | rintro _ _ ⟨_, _, rfl, rfl⟩ | intro _ | refine go ?_ | (refine is_draw ?_; refine WC_draw mixed (by kernel_rfl) ?_) | refine spl ?_ ?_ | fail)
  all_goals first | omega | (apply WE_ret rfl rfl (by (repeat (first | exact ResOk.nil | (apply ResOk.tmp; rfl) | (apply resOk_cell; rfl; exact inferInstance; rfl; rfl)))); (first | exact ⟨rfl, rfl⟩ | exact ⟨congrArg Value.bool (by decide), rfl⟩ | exact ⟨_, rfl, rfl⟩ | exact ⟨_, _, rfl, rfl⟩ | exact ⟨by first | (simp []; done) | (simp [] <;> omega), rfl⟩); (repeat (first | exact Ent.refl | exact Ent.nil | apply Ent.pick | apply Ent.drop)))

theorem bag_Left_msg {F : List HP} {b : Nat} {room : Int} {l : List Msg} : FnF Try.prog 71 [.pointer (some ⟨b, 0, none⟩)] [Bag_msg b room l] F (fun r L' => r = .int .i64 (room - l.length) ∧ L' = [Bag_msg b room l]) := by
  refine FnF.mk' Try.func71 rfl rfl Try.ntmps71 rfl ?_
  refine RL_open fun p c hl => ?_
  repeat (first | rintro _ _ ⟨rfl, rfl⟩ | rintro _ _ ⟨_, rfl, rfl⟩ | rintro _ _ ⟨_, _, rfl, rfl⟩ | intro _ | refine go ?_ | (refine is_draw ?_; refine WC_draw mixed (by kernel_rfl) ?_))
  (apply WE_ret rfl rfl (by (repeat (first | exact ResOk.nil | (apply ResOk.tmp; rfl) | (apply resOk_cell; rfl; exact inferInstance; rfl; rfl)))))
  · exact ⟨rfl, rfl⟩
  · (apply RL_in; (focus ((repeat (first | (with_reducible exact Ent.refl) | exact Ent.nil | (apply ent_pickE; (focus ((repeat (first | (with_reducible exact pk_here) | (apply pk_there))); done))) | apply Ent.drop)); done)); all_goals (first | rfl | (with_reducible assumption) | (simp; done) | (simp; omega) | omega | (constructor <;> (simp) <;> omega)))

theorem bag_Put_msg {F : List HP} {b : Nat} {room : Int} {l : List Msg} {x : Msg} : FnF Try.prog 74 [.pointer (some ⟨b, 0, none⟩), mv x] [Bag_msg b room l] F (fun r L' => r = .int .i64 (putE room l) ∧ L' = [Bag_msg b room (putL room l x)]) := by
  refine FnF.mk' Try.func74 rfl rfl Try.ntmps74 rfl ?_
  by_cases e : (l.length : Int) = room
  · repeat (first | rintro _ _ ⟨rfl, rfl⟩ | rintro _ _ ⟨_, rfl, rfl⟩ | rintro _ _ ⟨_, _, rfl, rfl⟩ | intro _ | refine go ?_ | (refine is_draw ?_; apply WC_mix (id := 3) true _ (pl := .p 0 <| .p 1 <| .p 2 <| .p 3 <| .r 4 <| .r 5 <| .e true [(6, .e true [(7, .p 8 <| .p 9 <| .e false [(10, .done)])])]); exact mixed; kernel_rfl; kernel_rfl; exact Ent.refl) | (refine is_draw ?_; refine WC_draw mixed (by kernel_rfl) ?_) | refine cal @bag_Left_msg ?_)
    (apply WE_ret rfl rfl (by (repeat (first | exact ResOk.nil | (apply ResOk.tmp; rfl) | (apply resOk_cell; rfl; exact inferInstance; rfl; rfl)))))
    · exact ⟨by simp [putE, e], rfl⟩
    · simp only [putL, e, if_true]; (repeat (first | (with_reducible exact Ent.refl) | exact Ent.nil | (apply ent_pickE; (focus ((repeat (first | (with_reducible exact pk_here) | (apply pk_there))); done))) | apply Ent.drop))
  · repeat (first | rintro _ _ ⟨rfl, rfl⟩ | rintro _ _ ⟨_, rfl, rfl⟩ | rintro _ _ ⟨_, _, rfl, rfl⟩ | intro _ | refine go ?_ | refine cal @bag_Left_msg ?_)
    (first | refine WO_front (Bag_msg b room l) ?_ | refine WC_front (Bag_msg b room l) ?_ | refine WE_front (Bag_msg b room l) ?_)
    first | refine RL_open fun p c hl => ?_ | refine RL_openO fun p c hl => ?_
    repeat (first | rintro _ _ ⟨rfl, rfl⟩ | rintro _ _ ⟨_, rfl, rfl⟩ | rintro _ _ ⟨_, _, rfl, rfl⟩ | intro _ | refine go ?_ | (refine is_draw ?_; apply WC_mix (id := 3) true _ (pl := .p 0 <| .p 1 <| .p 2 <| .p 3 <| .r 4 <| .r 5 <| .e true [(6, .e true [(7, .p 8 <| .p 9 <| .e false [(10, .done)])])]); exact mixed; kernel_rfl; kernel_rfl; exact Ent.refl) | (refine is_draw ?_; refine WC_draw mixed (by kernel_rfl) ?_))
    (apply WE_ret rfl rfl (by (repeat (first | exact ResOk.nil | (apply ResOk.tmp; rfl) | (apply resOk_cell; rfl; exact inferInstance; rfl; rfl)))))
    · exact ⟨by simp [putE, e], rfl⟩
    · simp only [putL, e, if_false]
      (apply RL_in; (focus ((repeat (first | (with_reducible exact Ent.refl) | exact Ent.nil | (apply ent_pickE; (focus ((repeat (first | (with_reducible exact pk_here) | (apply pk_there))); done))) | apply Ent.drop)); done)); all_goals (first | rfl | (with_reducible assumption) | (simp; done) | (simp; omega) | omega | (constructor <;> (simp) <;> omega)))

theorem bag_At_msg {F : List HP} {b : Nat} {room : Int} {l : List Msg} {n : Int} : FnF Try.prog 70 [.pointer (some ⟨b, 0, none⟩), .int .i64 n] [Bag_msg b room l] F (fun r L' => r = .tuple [mv (atL .zero l n), .bool (inL l n)].toArray ∧ L' = [Bag_msg b room l]) := by
  refine FnF.mk' Try.func70 rfl rfl Try.ntmps70 rfl ?_
  refine RL_open fun p c hl => ?_
  by_cases h : 0 ≤ n ∧ n < l.length
  · obtain ⟨i, rfl⟩ : ∃ i : Nat, n = i := ⟨n.toNat, by omega⟩
    have hi : i < l.length := by omega
    repeat (first | rintro _ _ ⟨rfl, rfl⟩ | rintro _ _ ⟨_, rfl, rfl⟩ | rintro _ _ ⟨_, _, rfl, rfl⟩ | intro _ | refine go ?_ | (refine is_draw ?_; refine WC_draw mixed (by kernel_rfl) ?_))
    (apply WE_ret rfl rfl (by (repeat (first | exact ResOk.nil | (apply ResOk.tmp; rfl) | (apply resOk_cell; rfl; exact inferInstance; rfl; rfl)))))
    · exact ⟨by simp [atL, inL_iff.2 h, hi], rfl⟩
    · (apply RL_in; (focus ((repeat (first | (with_reducible exact Ent.refl) | exact Ent.nil | (apply ent_pickE; (focus ((repeat (first | (with_reducible exact pk_here) | (apply pk_there))); done))) | apply Ent.drop)); done)); all_goals (first | rfl | (with_reducible assumption) | (simp; done) | (simp; omega) | omega | (constructor <;> (simp) <;> omega)))
  · repeat' (first | rintro _ _ ⟨rfl, rfl⟩ | rintro _ _ ⟨_, rfl, rfl⟩ | rintro _ _ ⟨_, _, rfl, rfl⟩ | intro _ | refine go ?_ | (refine is_draw ?_; refine WC_draw mixed (by kernel_rfl) ?_) | refine spl ?_ ?_ | fail)
    all_goals first | (exfalso; omega) | skip
    all_goals (apply WE_ret rfl rfl (by (repeat (first | exact ResOk.nil | (apply ResOk.tmp; rfl) | (apply resOk_cell; rfl; exact inferInstance; rfl; rfl)))))
    all_goals first | exact ⟨by simp [atL, inL_not.2 h]; rfl, rfl⟩ | exact ⟨by simp [atL, inL_not.2 h], rfl⟩ | (apply RL_in; (focus ((repeat (first | (with_reducible exact Ent.refl) | exact Ent.nil | (apply ent_pickE; (focus ((repeat (first | (with_reducible exact pk_here) | (apply pk_there))); done))) | apply Ent.drop)); done)); all_goals (first | rfl | (with_reducible assumption) | (simp; done) | (simp; omega) | omega | (constructor <;> (simp) <;> omega)))

theorem bag_List_msg {F : List HP} {b : Nat} {room : Int} {l : List Msg} : FnF Try.prog 76 [.pointer (some ⟨b, 0, none⟩)] [Bag_msg b room l] F (fun r L' => ∃ p c, r = .slice p l.length c ∧ L' = [Own 37 15 (.slice p l.length c) l.length (flat mc l), Bag_msg b room l]) := by
  refine FnF.mk' Try.func76 rfl rfl Try.ntmps76 rfl ?_
  refine RL_open fun p c hl => ?_
  repeat (first | rintro _ _ ⟨rfl, rfl⟩ | rintro _ _ ⟨_, rfl, rfl⟩ | rintro _ _ ⟨_, _, rfl, rfl⟩ | intro _ | refine go ?_ | (refine is_draw ?_; refine WC_draw mixed (by kernel_rfl) ?_) | refine cal @sl_Clone_msg ?_)
  (apply WE_ret rfl rfl (by (repeat (first | exact ResOk.nil | (apply ResOk.tmp; rfl) | (apply resOk_cell; rfl; exact inferInstance; rfl; rfl)))))
  · exact ⟨_, _, rfl, rfl⟩
  · refine Ent.cons ?_
    (apply RL_in; (focus ((repeat (first | (with_reducible exact Ent.refl) | exact Ent.nil | (apply ent_pickE; (focus ((repeat (first | (with_reducible exact pk_here) | (apply pk_there))); done))) | apply Ent.drop)); done)); all_goals (first | rfl | (with_reducible assumption) | (simp; done) | (simp; omega) | omega | (constructor <;> (simp) <;> omega)))

theorem bag_Take_msg {F : List HP} {b : Nat} {room : Int} {l : List Msg} {n : Int} : FnF Try.prog 75 [.pointer (some ⟨b, 0, none⟩), .int .i64 n] [Bag_msg b room l] F (fun r L' => r = .tuple [mv (atL .zero l n), .int .i64 (takeE l n)].toArray ∧ L' = [Bag_msg b room (takeL l n)]) := by
  refine FnF.mk' Try.func75 rfl rfl Try.ntmps75 rfl ?_
  cases e : inL l n with
  | true =>
    obtain ⟨h1, h2⟩ := inL_iff.1 e
    obtain ⟨i, rfl⟩ : ∃ i : Nat, n = i := ⟨n.toNat, by omega⟩
    have hB := fun F => bag_At_msg (F := F) (b := b) (room := room) (l := l) (n := i)
    simp only [e] at hB
    repeat (first | rintro _ _ ⟨rfl, rfl⟩ | rintro _ _ ⟨_, rfl, rfl⟩ | rintro _ _ ⟨_, _, rfl, rfl⟩ | intro _ | refine go ?_ | (refine is_draw ?_; refine WC_draw mixed (by kernel_rfl) ?_) | refine cal @hB ?_)
    (first | refine WO_front (Bag_msg b room l) ?_ | refine WC_front (Bag_msg b room l) ?_ | refine WE_front (Bag_msg b room l) ?_)
    refine RL_openO fun p c hl => ?_
    repeat (first | rintro _ _ ⟨rfl, rfl⟩ | rintro _ _ ⟨_, rfl, rfl⟩ | rintro _ _ ⟨_, _, rfl, rfl⟩ | intro _ | refine go ?_ | (refine is_draw ?_; refine WC_draw mixed (by kernel_rfl) ?_))
    refine cal (@sl_Delete_msg (i := i) (j := i + 1)) ?_
    repeat (first | rintro _ _ ⟨rfl, rfl⟩ | rintro _ _ ⟨_, rfl, rfl⟩ | rintro _ _ ⟨_, _, rfl, rfl⟩ | intro _ | refine go ?_ | (refine is_draw ?_; refine WC_draw mixed (by kernel_rfl) ?_))
    (apply WE_ret rfl rfl (by (repeat (first | exact ResOk.nil | (apply ResOk.tmp; rfl) | (apply resOk_cell; rfl; exact inferInstance; rfl; rfl)))))
    · exact ⟨by simp [takeE, e], rfl⟩
    · simp only [takeL, e, if_true]
      apply RL_in
      · (repeat (first | (with_reducible exact Ent.refl) | exact Ent.nil | (apply ent_pickE; (focus ((repeat (first | (with_reducible exact pk_here) | (apply pk_there))); done))) | apply Ent.drop))
      · simp only [List.length_eraseIdx, Int.toNat_natCast]; split <;> omega
      · rw [flat_take (enc := mc) (n := 15) (fun _ => rfl), flat_drop (enc := mc) (n := 15) (fun _ => rfl)]
        simp [List.eraseIdx_eq_take_drop_succ]
      · have := List.length_eraseIdx_le l i
        simp only [Int.toNat_natCast]
        omega
  | false =>
    have hB := fun F => bag_At_msg (F := F) (b := b) (room := room) (l := l) (n := n)
    simp only [e] at hB
    repeat (first | rintro _ _ ⟨rfl, rfl⟩ | rintro _ _ ⟨_, rfl, rfl⟩ | rintro _ _ ⟨_, _, rfl, rfl⟩ | intro _ | refine go ?_ | (refine is_draw ?_; refine WC_draw mixed (by kernel_rfl) ?_) | refine cal @hB ?_)
    (apply WE_ret rfl rfl (by (repeat (first | exact ResOk.nil | (apply ResOk.tmp; rfl) | (apply resOk_cell; rfl; exact inferInstance; rfl; rfl)))))
    · exact ⟨by simp [takeE, e], rfl⟩
    · simp only [takeL, e, Bool.false_eq_true, if_false]; (repeat (first | (with_reducible exact Ent.refl) | exact Ent.nil | (apply ent_pickE; (focus ((repeat (first | (with_reducible exact pk_here) | (apply pk_there))); done))) | apply Ent.drop))

end Go.Sx
