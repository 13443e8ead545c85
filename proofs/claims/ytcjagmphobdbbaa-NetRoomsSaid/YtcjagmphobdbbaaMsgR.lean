/- The document's messages: kinds, homes, cores, May. My own work. -/
import Derived.Test.YtcjagmphobdbbaaMsg2
namespace Go.Sx
open Go Go.Proofs
set_option linter.unusedVariables false
set_option linter.unusedSectionVars false
set_option linter.unusedSimpArgs false
set_option maxRecDepth 100000
set_option maxHeartbeats 4000000
attribute [local irreducible] Go.Exit.then Go.Exit.inBlock Go.Code.wp WC WO WE WQ V LoopQ FnQ Sat Star band bor IntKind.wrap WR Code.rounds WT KO
theorem ref05_core {F : List HP} {c : Cfg} {n : Int} : FnF Try.prog 79 [c.val, .int .i64 n] [] F (fun r L' => r = .bool (decide (InP n c.cores)) ∧ L' = []) := by
  refine FnF.mk' Try.func79 rfl rfl Try.ntmps79 rfl ?_
  repeat' (first | rintro _ _ ⟨rfl, rfl⟩ | rintro _ _ ⟨_, rfl, rfl⟩ | rintro _ _ ⟨_, _, rfl, rfl⟩ | intro _ | refine go ?_ | (refine is_draw ?_; refine WC_draw mixed (by kernel_rfl) ?_) | refine spl ?_ ?_ | fail)
  all_goals (apply WE_ret rfl rfl (by (repeat (first | exact ResOk.nil | (apply ResOk.tmp; rfl) | (apply resOk_cell; rfl; exact inferInstance; rfl; rfl)))); (refine ⟨congrArg Value.bool ?_, rfl⟩; (first | (refine decide_eq_decide.2 ?_) | (refine (decide_eq_true ?_).symm) | (refine (decide_eq_false ?_).symm)); (first | omega | (simp only [InP]; omega))); (repeat (first | exact Ent.refl | exact Ent.nil | apply Ent.pick | apply Ent.drop)))
theorem ref05_Home {F : List HP} {k : Int} : FnF Try.prog 78 [.int .i64 k] [] F (fun r L' => r = .bool (decide (HomeP k)) ∧ L' = []) := by
  refine FnF.mk' Try.func78 rfl rfl Try.ntmps78 rfl ?_
  repeat' (first | rintro _ _ ⟨rfl, rfl⟩ | rintro _ _ ⟨_, rfl, rfl⟩ | rintro _ _ ⟨_, _, rfl, rfl⟩ | intro _ | refine go ?_ | (refine is_draw ?_; refine WC_draw mixed (by kernel_rfl) ?_) | refine spl ?_ ?_ | fail)
  all_goals (apply WE_ret rfl rfl (by (repeat (first | exact ResOk.nil | (apply ResOk.tmp; rfl) | (apply resOk_cell; rfl; exact inferInstance; rfl; rfl)))); (refine ⟨congrArg Value.bool ?_, rfl⟩; (first | (refine decide_eq_decide.2 ?_) | (refine (decide_eq_true ?_).symm) | (refine (decide_eq_false ?_).symm)); (first | omega | (simp only [HomeP]; omega))); (repeat (first | exact Ent.refl | exact Ent.nil | apply Ent.pick | apply Ent.drop)))
theorem ref05_Net {F : List HP} {k : Int} : FnF Try.prog 30 [.int .i64 k] [] F (fun r L' => r = .int .i64 (netK k) ∧ L' = []) := by
  by_cases hk : 1 ≤ k ∧ k ≤ 11
  · have hcase : k = 1 ∨ k = 2 ∨ k = 3 ∨ k = 4 ∨ k = 5 ∨ k = 6 ∨ k = 7 ∨ k = 8 ∨ k = 9 ∨ k = 10 ∨ k = 11 := by omega
    refine FnF.mk' Try.func30 rfl rfl Try.ntmps30 rfl ?_
    rcases hcase with rfl | rfl | rfl | rfl | rfl | rfl | rfl | rfl | rfl | rfl | rfl
    all_goals (repeat (first | rintro _ _ ⟨rfl, rfl⟩ | rintro _ _ ⟨_, rfl, rfl⟩ | rintro _ _ ⟨_, _, rfl, rfl⟩ | intro _ | refine go ?_ | (refine is_draw ?_; refine WC_draw mixed (by kernel_rfl) ?_)); skip)
    all_goals (apply WE_ret rfl rfl (by (repeat (first | exact ResOk.nil | (apply ResOk.tmp; rfl) | (apply resOk_cell; rfl; exact inferInstance; rfl; rfl)))); (first | exact ⟨rfl, rfl⟩ | exact ⟨congrArg Value.bool (by decide), rfl⟩ | exact ⟨_, rfl, rfl⟩ | exact ⟨_, _, rfl, rfl⟩ | exact ⟨by first | (simp [netK]; done) | (simp [netK] <;> omega), rfl⟩); (repeat (first | exact Ent.refl | exact Ent.nil | apply Ent.pick | apply Ent.drop)))
  · have hnk : netK k = -1 := by unfold netK; rw [if_neg (by omega), if_neg (by omega), if_neg (by omega)]
    refine FnF.mk' Try.func30 rfl rfl Try.ntmps30 rfl ?_
    repeat' (first | rintro _ _ ⟨rfl, rfl⟩ | rintro _ _ ⟨_, rfl, rfl⟩ | rintro _ _ ⟨_, _, rfl, rfl⟩ | intro _ | refine go ?_ | (refine is_draw ?_; refine WC_draw mixed (by kernel_rfl) ?_) | refine spl ?_ ?_ | fail)
    all_goals first | omega | (apply WE_ret rfl rfl (by (repeat (first | exact ResOk.nil | (apply ResOk.tmp; rfl) | (apply resOk_cell; rfl; exact inferInstance; rfl; rfl)))); (first | exact ⟨rfl, rfl⟩ | exact ⟨congrArg Value.bool (by decide), rfl⟩ | exact ⟨_, rfl, rfl⟩ | exact ⟨_, _, rfl, rfl⟩ | exact ⟨by first | (simp [hnk]; done) | (simp [hnk] <;> omega), rfl⟩); (repeat (first | exact Ent.refl | exact Ent.nil | apply Ent.pick | apply Ent.drop)))
/-- What a word must be like, of a kind. -/
def Ok2 (c : Cfg) (k : Int) (w : Words) (i : Nat) : Prop := -2147483648 ≤ w.at i ∧ w.at i ≤ 2147483647 ∧ (w.at i ≠ 0 → i < c.words ∧ (k = 3 ∨ k = 7))
theorem ok2_wordy {c : Cfg} {k : Int} {w : Words} (h : k = 3 ∨ k = 7) : ValsP c w ↔ ∀ i, i < 8 → Ok2 c k w i := by
  unfold ValsP OkAt Ok2
  constructor
  · intro hv i hi
    have := hv i hi
    refine ⟨this.1, this.2.1, fun hn => ⟨?_, h⟩⟩
    have := this.2.2
    omega
  · intro hv i hi
    have := hv i hi
    exact ⟨this.1, this.2.1, fun hn => Classical.byContradiction fun h0 => by have := (this.2.2 h0).1; omega⟩
theorem ok2_plain {c : Cfg} {k : Int} {w : Words} (h : ¬ (k = 3 ∨ k = 7)) : w = .zero ↔ ∀ i, i < 8 → Ok2 c k w i := by
  constructor
  · rintro rfl i hi
    have : Words.zero.at i = 0 := by
      have hcase : i = 0 ∨ i = 1 ∨ i = 2 ∨ i = 3 ∨ i = 4 ∨ i = 5 ∨ i = 6 ∨ i = 7 := by omega
      rcases hcase with rfl | rfl | rfl | rfl | rfl | rfl | rfl | rfl <;> rfl
    unfold Ok2
    rw [this]
    exact ⟨by omega, by omega, fun h => absurd rfl h⟩
  · intro hv
    have hz : ∀ i, i < 8 → w.at i = 0 := fun i hi => Classical.byContradiction fun h0 => h ((hv i hi).2.2 h0).2
    obtain ⟨w0, w1, w2, w3, w4, w5, w6, w7⟩ := w
    have a0 : w0 = 0 := hz 0 (by omega)
    have a1 : w1 = 0 := hz 1 (by omega)
    have a2 : w2 = 0 := hz 2 (by omega)
    have a3 : w3 = 0 := hz 3 (by omega)
    have a4 : w4 = 0 := hz 4 (by omega)
    have a5 : w5 = 0 := hz 5 (by omega)
    have a6 : w6 = 0 := hz 6 (by omega)
    have a7 : w7 = 0 := hz 7 (by omega)
    rw [a0, a1, a2, a3, a4, a5, a6, a7]
theorem words_cell (m : Msg) (i : Nat) (h : i < 8) : (mc m)[7 + ((i : Nat) : Int).toNat * 1]? = some (.int .i64 (m.words.at i)) := by
  have hcase : i = 0 ∨ i = 1 ∨ i = 2 ∨ i = 3 ∨ i = 4 ∨ i = 5 ∨ i = 6 ∨ i = 7 := by omega
  rcases hcase with rfl | rfl | rfl | rfl | rfl | rfl | rfl | rfl <;> rfl
theorem cfg_bnd' {c : Cfg} (h : checkB c = true) : (1 ≤ c.cores ∧ c.cores ≤ 64) ∧ (1 ≤ c.homes ∧ c.homes ≤ 16) ∧ (1 ≤ c.words ∧ c.words ≤ 8) ∧ (1 ≤ c.lines ∧ c.lines ≤ 1024) := by
  simp only [checkB, fitsB, Bool.and_eq_true, decide_eq_true_eq] at h
  omega
end Go.Sx
