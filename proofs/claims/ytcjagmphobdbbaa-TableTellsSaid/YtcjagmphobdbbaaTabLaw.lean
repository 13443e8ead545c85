/- The laws of the table. My own work. -/
import Derived.Test.YtcjagmphobdbbaaTab
import Derived.Test.YtcjagmphobdbbaaSame7
import Derived.Test.YtcjagmphobdbbaaShrR
namespace Go.Sx
open Go Go.Proofs
set_option linter.unusedVariables false
set_option linter.unusedSectionVars false
set_option linter.unusedSimpArgs false
def x13 : TEnt := ⟨2, ⟨4, 2, [0, 1], false⟩⟩
def e13 : TEnt := ⟨-1, ⟨4, 2, [], false⟩⟩
set_option maxRecDepth 100000
set_option maxHeartbeats 4000000
attribute [local irreducible] Go.Exit.then Go.Exit.inBlock Go.Code.wp WC WO WE WQ V LoopQ FnQ Sat Star band bor IntKind.wrap WR Code.rounds WT KO
theorem tab_New {F : List HP} {cores most : Int} : FnF Try.prog 33 [.int .i64 cores, .int .i64 most] [] F
    (fun r L' => r = .tuple [.agg (tec (if shMay ⟨cores, most, [], false⟩ then ⟨-1, ⟨cores, most, [], false⟩⟩ else .no) none 0).toArray, .int .i64 (if shMay ⟨cores, most, [], false⟩ then 0 else 1)].toArray ∧ L' = []) := by
  have hN := fun F => shr_New (F := F) (cores := cores) (most := most)
  cases e : shMay ⟨cores, most, [], false⟩ with
  | true =>
    simp only [e, if_true] at hN ⊢
    refine FnF.mk' Try.func33 rfl rfl Try.ntmps33 rfl ?_
    repeat (first | rintro _ _ ⟨rfl, rfl⟩ | rintro _ _ ⟨_, rfl, rfl⟩ | rintro _ _ ⟨_, _, rfl, rfl⟩ | rintro _ _ ⟨_, _, _, _, rfl, rfl⟩ | intro _ | refine go ?_ | (refine is_draw ?_; refine WC_draw mixed (by kernel_rfl) ?_) | refine cal @hN ?_)
    (apply WE_ret rfl rfl (by (repeat (first | exact ResOk.nil | (apply ResOk.tmp; rfl) | (apply resOk_cell; rfl; exact inferInstance; rfl; rfl)))); (first | exact ⟨rfl, rfl⟩ | exact ⟨congrArg Value.bool (by decide), rfl⟩ | exact ⟨_, rfl, rfl⟩ | exact ⟨_, _, rfl, rfl⟩ | exact ⟨by first | (simp []; done) | (simp [] <;> omega), rfl⟩); (repeat (first | exact Ent.refl | exact Ent.nil | apply Ent.pick | apply Ent.drop)))
  | false =>
    simp only [e, Bool.false_eq_true, if_false] at hN ⊢
    refine FnF.mk' Try.func33 rfl rfl Try.ntmps33 rfl ?_
    repeat (first | rintro _ _ ⟨rfl, rfl⟩ | rintro _ _ ⟨_, rfl, rfl⟩ | rintro _ _ ⟨_, _, rfl, rfl⟩ | rintro _ _ ⟨_, _, _, _, rfl, rfl⟩ | intro _ | refine go ?_ | (refine is_draw ?_; refine WC_draw mixed (by kernel_rfl) ?_) | refine cal @hN ?_)
    (apply WE_ret rfl rfl (by (repeat (first | exact ResOk.nil | (apply ResOk.tmp; rfl) | (apply resOk_cell; rfl; exact inferInstance; rfl; rfl)))); (first | exact ⟨rfl, rfl⟩ | exact ⟨congrArg Value.bool (by decide), rfl⟩ | exact ⟨_, rfl, rfl⟩ | exact ⟨_, _, rfl, rfl⟩ | exact ⟨by first | (simp []; done) | (simp [] <;> omega), rfl⟩); (repeat (first | exact Ent.refl | exact Ent.nil | apply Ent.pick | apply Ent.drop)))
theorem law13_same {F : List HP} {e t : TEnt} {a b : Option Addr} {k m : Nat} (h1 : RdL F 1 (.slice a e.s.ps.length k) e.s.ps.length (flat ic e.s.ps)) (h2 : RdL F 1 (.slice b t.s.ps.length m) t.s.ps.length (flat ic t.s.ps)) (hn : e.s.ps.length ≤ 1000) :
    FnF Try.prog 38 [.agg (tec e a k).toArray, .agg (tec t b m).toArray] [] F (fun r L' => r = .bool (decide (e = t)) ∧ L' = []) := by
  have hS := fun F (h1 : RdL F 1 (.slice a e.s.ps.length k) e.s.ps.length (flat ic e.s.ps)) (h2 : RdL F 1 (.slice b t.s.ps.length m) t.s.ps.length (flat ic t.s.ps)) => ref08_Same (F := F) (s := e.s) (t := t.s) h1 h2 hn
  by_cases ho : e.o = t.o
  · have hd : decide (e = t) = decide (e.s = t.s) := decide_eq_decide.2 ⟨fun h => by rw [h], fun h => TEnt.ext_iff'.1 ⟨ho, h⟩⟩
    rw [hd]
    refine FnF.mk' Try.func38 rfl rfl Try.ntmps38 rfl ?_
    repeat (first | rintro _ _ ⟨rfl, rfl⟩ | rintro _ _ ⟨_, rfl, rfl⟩ | rintro _ _ ⟨_, _, rfl, rfl⟩ | rintro _ _ ⟨_, _, _, _, rfl, rfl⟩ | intro _ | refine go ?_ | (refine is_draw ?_; refine WC_draw mixed (by kernel_rfl) ?_) | refine cal @hS ?_)
    (apply WE_ret rfl rfl (by (repeat (first | exact ResOk.nil | (apply ResOk.tmp; rfl) | (apply resOk_cell; rfl; exact inferInstance; rfl; rfl)))); (first | exact ⟨rfl, rfl⟩ | exact ⟨congrArg Value.bool (by decide), rfl⟩ | exact ⟨_, rfl, rfl⟩ | exact ⟨_, _, rfl, rfl⟩ | exact ⟨by first | (simp []; done) | (simp [] <;> omega), rfl⟩); (repeat (first | exact Ent.refl | exact Ent.nil | apply Ent.pick | apply Ent.drop)))
  · have hd : decide (e = t) = false := decide_eq_false fun h => ho (by rw [h])
    rw [hd]
    refine FnF.mk' Try.func38 rfl rfl Try.ntmps38 rfl ?_
    repeat (first | rintro _ _ ⟨rfl, rfl⟩ | rintro _ _ ⟨_, rfl, rfl⟩ | rintro _ _ ⟨_, _, rfl, rfl⟩ | rintro _ _ ⟨_, _, _, _, rfl, rfl⟩ | intro _ | refine go ?_ | (refine is_draw ?_; refine WC_draw mixed (by kernel_rfl) ?_))
    (apply WE_ret rfl rfl (by (repeat (first | exact ResOk.nil | (apply ResOk.tmp; rfl) | (apply resOk_cell; rfl; exact inferInstance; rfl; rfl)))); (first | exact ⟨rfl, rfl⟩ | exact ⟨congrArg Value.bool (by decide), rfl⟩ | exact ⟨_, rfl, rfl⟩ | exact ⟨_, _, rfl, rfl⟩ | exact ⟨by first | (simp []; done) | (simp [] <;> omega), rfl⟩); (repeat (first | exact Ent.refl | exact Ent.nil | apply Ent.pick | apply Ent.drop)))
theorem law13_awake {F : List HP} : FnF Try.prog 32 [] [] F (fun r L' => r = .bool true ∧ L' = []) := by
  have hN := fun F => tab_New (F := F) (cores := 4) (most := 2)
  have hN0 := fun F => tab_New (F := F) (cores := 0) (most := 0)
  simp only [show shMay ⟨4, 2, [], false⟩ = true by decide, if_true] at hN
  simp only [show shMay ⟨0, 0, [], false⟩ = false by decide, Bool.false_eq_true, if_false] at hN0
  have hT := fun F a k (hk : RdL F 1 (.slice a 2 k) 2 [.int .i64 0, .int .i64 1]) => tab_Next (F := F) (e := x13) (a := a) (k := k) (m := ⟨2, 6, 1, 0, 0, 0, 0, .zero⟩) (w := .zero) hk (by decide)
  have hU := fun F => tab_Next (F := F) (e := e13) (a := none) (k := 0) (m := ⟨1, 0, 3, 0, 0, 0, 0, .zero⟩) (w := ⟨5, 0, 0, 0, 0, 0, 0, 0⟩) rd_empty (by decide)
  have hV := fun F a k (hk : RdL F 1 (.slice a 2 k) 2 [.int .i64 0, .int .i64 1]) => tab_Next (F := F) (e := x13) (a := a) (k := k) (m := ⟨3, 0, 2, 0, 0, 0, 0, .zero⟩) (w := .zero) hk (by decide)
  have hK := fun F a k (hk : RdL F 1 (.slice a 2 k) 2 [.int .i64 0, .int .i64 1]) => tab_Next (F := F) (e := x13) (a := a) (k := k) (m := ⟨1, 0, 2, 0, 0, 0, 0, .zero⟩) (w := .zero) hk (by decide)
  have hL := fun F a k (hk : RdL F 1 (.slice a 2 k) 2 [.int .i64 0, .int .i64 1]) => tab_Next (F := F) (e := x13) (a := a) (k := k) (m := ⟨6, 0, 2, 0, 0, 0, 0, .zero⟩) (w := .zero) hk (by decide)
  have hM := fun F a k (hk : RdL F 1 (.slice a 2 k) 2 [.int .i64 0, .int .i64 1]) => tab_May (F := F) (e := x13) (a := a) (k := k) hk (by decide)
  have hM0 := fun F => tab_May (F := F) (e := .no) (a := none) (k := 0) rd_empty (by decide)
  simp only [show mayT x13 = true by decide] at hM
  simp only [show mayT .no = false by decide] at hM0
  simp only [show nextT x13 ⟨2, 6, 1, 0, 0, 0, 0, .zero⟩ = ⟨1, ⟨4, 2, [], false⟩⟩ by decide, show nextS x13 ⟨2, 6, 1, 0, 0, 0, 0, .zero⟩ .zero = [⟨5, 6, 0, 2, 1, 1, 0, .zero⟩, ⟨6, 6, 0, 0, 1, 0, 0, .zero⟩] by decide, show nextE x13 ⟨2, 6, 1, 0, 0, 0, 0, .zero⟩ = 0 by decide, show nextW x13 ⟨2, 6, 1, 0, 0, 0, 0, .zero⟩ = false by decide] at hT
  simp only [show nextT e13 ⟨1, 0, 3, 0, 0, 0, 0, .zero⟩ = ⟨3, ⟨4, 2, [], false⟩⟩ by decide, show nextS e13 ⟨1, 0, 3, 0, 0, 0, 0, .zero⟩ ⟨5, 0, 0, 0, 0, 0, 0, 0⟩ = [⟨7, 0, 0, 3, 0, 0, 2, ⟨5, 0, 0, 0, 0, 0, 0, 0⟩⟩] by decide, show nextE e13 ⟨1, 0, 3, 0, 0, 0, 0, .zero⟩ = 0 by decide, show nextW e13 ⟨1, 0, 3, 0, 0, 0, 0, .zero⟩ = false by decide] at hU
  simp only [show nextT x13 ⟨3, 0, 2, 0, 0, 0, 0, .zero⟩ = ⟨-1, ⟨4, 2, [0, 1], false⟩⟩ by decide, show nextS x13 ⟨3, 0, 2, 0, 0, 0, 0, .zero⟩ .zero = [⟨10, 0, 0, 2, 0, 0, 0, .zero⟩] by decide, show nextE x13 ⟨3, 0, 2, 0, 0, 0, 0, .zero⟩ = 0 by decide, show nextW x13 ⟨3, 0, 2, 0, 0, 0, 0, .zero⟩ = true by decide] at hV
  simp only [show nextT x13 ⟨1, 0, 2, 0, 0, 0, 0, .zero⟩ = .no by decide, show nextS x13 ⟨1, 0, 2, 0, 0, 0, 0, .zero⟩ .zero = [] by decide, show nextE x13 ⟨1, 0, 2, 0, 0, 0, 0, .zero⟩ = 7 by decide, show nextW x13 ⟨1, 0, 2, 0, 0, 0, 0, .zero⟩ = false by decide] at hK
  simp only [show nextT x13 ⟨6, 0, 2, 0, 0, 0, 0, .zero⟩ = .no by decide, show nextS x13 ⟨6, 0, 2, 0, 0, 0, 0, .zero⟩ .zero = [] by decide, show nextE x13 ⟨6, 0, 2, 0, 0, 0, 0, .zero⟩ = 1 by decide, show nextW x13 ⟨6, 0, 2, 0, 0, 0, 0, .zero⟩ = false by decide] at hL
  have hS := fun F a k (h1 : RdL F 1 (.slice a (⟨1, ⟨4, 2, [], false⟩⟩ : TEnt).s.ps.length k) (⟨1, ⟨4, 2, [], false⟩⟩ : TEnt).s.ps.length (flat ic (⟨1, ⟨4, 2, [], false⟩⟩ : TEnt).s.ps)) => law13_same (F := F) (e := ⟨1, ⟨4, 2, [], false⟩⟩) (t := ⟨1, ⟨4, 2, [], false⟩⟩) (a := a) (b := none) (k := k) (m := 0) h1 rd_empty (by decide)
  simp only [decide_true] at hS
  have hS2 := fun F v u (k1 : RdL F 15 v 2 (flat mc [⟨5, 6, 0, 2, 1, 1, 0, .zero⟩, ⟨6, 6, 0, 0, 1, 0, 0, .zero⟩])) (k2 : RdL F 15 u 2 (mc ⟨5, 6, 0, 2, 1, 1, 0, .zero⟩ ++ mc ⟨6, 6, 0, 0, 1, 0, 0, .zero⟩)) => @ref07_Same F v u [⟨5, 6, 0, 2, 1, 1, 0, .zero⟩, ⟨6, 6, 0, 0, 1, 0, 0, .zero⟩] [⟨5, 6, 0, 2, 1, 1, 0, .zero⟩, ⟨6, 6, 0, 0, 1, 0, 0, .zero⟩] k1 k2 (by decide)
  have hS1 := fun F v u (k1 : RdL F 15 v 1 (flat mc [⟨7, 0, 0, 3, 0, 0, 2, ⟨5, 0, 0, 0, 0, 0, 0, 0⟩⟩])) (k2 : RdL F 15 u 1 (mc ⟨7, 0, 0, 3, 0, 0, 2, ⟨5, 0, 0, 0, 0, 0, 0, 0⟩⟩)) => @ref07_Same F v u [⟨7, 0, 0, 3, 0, 0, 2, ⟨5, 0, 0, 0, 0, 0, 0, 0⟩⟩] [⟨7, 0, 0, 3, 0, 0, 2, ⟨5, 0, 0, 0, 0, 0, 0, 0⟩⟩] k1 k2 (by decide)
  simp only [decide_true] at hS2 hS1
  refine FnF.mk' Try.func32 rfl rfl Try.ntmps32 rfl ?_
  repeat (first | rintro _ _ ⟨rfl, rfl⟩ | rintro _ _ ⟨_, rfl, rfl⟩ | rintro _ _ ⟨_, _, rfl, rfl⟩ | rintro _ _ ⟨_, _, _, _, rfl, rfl⟩ | intro _ | refine go ?_ | (refine is_draw ?_; refine WC_draw mixed (by kernel_rfl) ?_) | refine cal @hN ?_ | refine cal @hN0 ?_ | refine cal @hT ?_ | refine cal @hU ?_ | refine cal @hV ?_ | refine cal @hK ?_ | refine cal @hL ?_)
  have hl1 : 0 < ([⟨10, 0, 0, 2, 0, 0, 0, .zero⟩] : List Msg).length := by decide
  repeat (first | rintro _ _ ⟨rfl, rfl⟩ | rintro _ _ ⟨_, rfl, rfl⟩ | rintro _ _ ⟨_, _, rfl, rfl⟩ | rintro _ _ ⟨_, _, _, _, rfl, rfl⟩ | intro _ | refine go ?_ | (refine is_draw ?_; refine WC_draw mixed (by kernel_rfl) ?_) | refine cal @hS ?_ | refine cal @hS2 ?_ | refine cal @hS1 ?_ | refine cal @hM ?_ | refine cal @hM0 ?_)
  (apply WE_ret rfl rfl (by (repeat (first | exact ResOk.nil | (apply ResOk.tmp; rfl) | (apply resOk_cell; rfl; exact inferInstance; rfl; rfl)))); (first | exact ⟨rfl, rfl⟩ | exact ⟨congrArg Value.bool (by decide), rfl⟩ | exact ⟨_, rfl, rfl⟩ | exact ⟨_, _, rfl, rfl⟩ | exact ⟨by first | (simp []; done) | (simp [] <;> omega), rfl⟩); (repeat (first | exact Ent.refl | exact Ent.nil | apply Ent.pick | apply Ent.drop)))
end Go.Sx
