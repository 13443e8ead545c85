/- What bags do, the program's and the document's. My own work. -/
import Derived.Test.YtadedfcjakhfbabSlT
namespace Go.Sx
open Go Go.Proofs
set_option linter.unusedVariables false
set_option linter.unusedSectionVars false
set_option maxRecDepth 100000
attribute [local irreducible] Go.Exit.then Go.Exit.inBlock Go.Code.wp WC WO WE WQ V LoopQ FnQ Sat Star band bor IntKind.wrap WR Code.rounds WT KO

/-! ## What a bag does, told of lists -/
def putE {α : Type} (room : Int) (l : List α) : Int := if (l.length : Int) = room then 4 else 0
def putL {α : Type} (room : Int) (l : List α) (x : α) : List α := if (l.length : Int) = room then l else l ++ [x]
def inL {α : Type} (l : List α) (n : Int) : Bool := decide (0 ≤ n ∧ n < l.length)
def takeL {α : Type} (l : List α) (n : Int) : List α := if inL l n then l.eraseIdx n.toNat else l
def takeE {α : Type} (l : List α) (n : Int) : Int := if inL l n then 0 else 5
def atL {α : Type} (z : α) (l : List α) (n : Int) : α := if inL l n then l.getD n.toNat z else z

theorem putL_le {α : Type} {room : Int} {l : List α} {x : α} (h : (l.length : Int) ≤ room) : ((putL room l x).length : Int) ≤ room := by
  unfold putL; split
  · exact h
  · simp; omega
theorem takeL_le {α : Type} {l : List α} {n : Int} : (takeL l n).length ≤ l.length := by
  unfold takeL; split
  · exact List.length_eraseIdx_le _ _
  · exact Nat.le_refl _
theorem inL_iff {α : Type} {l : List α} {n : Int} : inL l n = true ↔ (0 ≤ n ∧ n < l.length) := by simp [inL]
theorem inL_not {α : Type} {l : List α} {n : Int} : inL l n = false ↔ ¬ (0 ≤ n ∧ n < l.length) := by rw [← Bool.not_eq_true, inL_iff]

abbrev Bag_msg (b : Nat) (room : Int) (l : List Msg) : HP := RL 147 64 15 mc b room l

theorem bag_New_msg {F : List HP} {room : Int} (h : 1 ≤ room ∧ room ≤ 4096) : FnF Try.prog 83 [.int .i64 room] [] F (fun r L' => ∃ b, r = .tuple [.pointer (some ⟨b, 0, none⟩), .int .i64 0].toArray ∧ L' = [Bag_msg b room []]) := by
  refine FnF.mk' Try.func83 rfl rfl Try.ntmps83 rfl ?_
  repeat (first | rintro _ _ ⟨rfl, rfl⟩ | rintro _ _ ⟨_, rfl, rfl⟩ | rintro _ _ ⟨_, _, rfl, rfl⟩ | intro _ | refine go ?_ | (refine is_draw ?_; refine WC_draw mixed (by kernel_rfl) ?_))
  (apply WE_ret rfl rfl (by (repeat (first | exact ResOk.nil | (apply ResOk.tmp; rfl) | (apply resOk_cell; rfl; exact inferInstance; rfl; rfl)))))
  · exact ⟨_, rfl, rfl⟩
  · exact RL_in (l := []) (Ent.cons (own_empty Ent.refl)) rfl rfl (by simp; omega)
theorem bag_New_no_msg {F : List HP} {room : Int} (h : ¬ (1 ≤ room ∧ room ≤ 4096)) : FnF Try.prog 83 [.int .i64 room] [] F (fun r L' => r = .tuple [.pointer none, .int .i64 1].toArray ∧ L' = []) := by
  refine FnF.mk' Try.func83 rfl rfl Try.ntmps83 rfl ?_
  repeat' (first | rintro _ _ ⟨rfl, rfl⟩ | rintro _ _ ⟨_, rfl, rfl⟩ | rintro _ _ ⟨_, _, rfl, rfl⟩ | intro _ | refine go ?_ | (refine is_draw ?_; refine WC_draw mixed (by kernel_rfl) ?_) | refine spl ?_ ?_ | fail)
  all_goals first | omega | (apply WE_ret rfl rfl (by (repeat (first | exact ResOk.nil | (apply ResOk.tmp; rfl) | (apply resOk_cell; rfl; exact inferInstance; rfl; rfl)))); (first | exact ⟨rfl, rfl⟩ | exact ⟨_, rfl, rfl⟩ | exact ⟨_, _, rfl, rfl⟩ | exact ⟨by first | (simp []; done) | (simp [] <;> omega), rfl⟩); (repeat (first | exact Ent.refl | exact Ent.nil | apply Ent.pick | apply Ent.drop)))


end Go.Sx
