/- The laws of arrays of ways. My own work. -/
import Derived.Test.YtcjagmphobdbbaaArrLn
import Derived.Test.YtcjagmphobdbbaaBagR
namespace Go.Sx
open Go Go.Proofs
set_option linter.unusedVariables false
set_option linter.unusedSectionVars false
set_option linter.unusedSimpArgs false
def c09 : Cfg := ⟨1, 1, 2, 1, 2, 8, 0, 1, 1, 1, 1, 1, 1⟩
def w34 : Words := ⟨3, 4, 0, 0, 0, 0, 0, 0⟩
def adoE (c : Cfg) (l : List Way) (x : AOp) : Int := if x.d = 0 then layE c l x.line x.n else if x.d = 1 then setE c l x.line x.n x.words else if x.d = 2 then lockE c l x.line else 0
def adoL (c : Cfg) (l : List Way) (x : AOp) : List Way := if x.d = 0 then layL c l x.line x.n else if x.d = 1 then setL c l x.line x.n x.words else if x.d = 2 then lockL c l x.line (decide (x.n ≠ 0)) else l
theorem adoL_inv {c : Cfg} {l : List Way} {x : AOp} (hI : ArrInv c l) : ArrInv c (adoL c l x) := by
  unfold adoL
  split
  · exact layL_inv hI
  · split
    · exact setL_inv hI
    · split
      · exact lockL_inv hI
      · exact hI
theorem adoL_len {c : Cfg} {l : List Way} {x : AOp} : (adoL c l x).length = l.length := by
  unfold adoL
  split
  · exact layL_len
  · split
    · exact setL_len
    · split
      · exact lockL_len
      · rfl
set_option maxRecDepth 100000
set_option maxHeartbeats 4000000
attribute [local irreducible] Go.Exit.then Go.Exit.inBlock Go.Code.wp WC WO WE WQ V LoopQ FnQ Sat Star band bor IntKind.wrap WR Code.rounds WT KO
theorem law09_do {F : List HP} {b : Nat} {c : Cfg} {l : List Way} {x : AOp} (hw : c.wf) (hx : I64 x.line) :
    FnF Try.prog 45 [.pointer (some ⟨b, 0, none⟩), aov x] [ArrP b c l] F (fun r L' => r = .int .i64 (adoE c l x) ∧ L' = [ArrP b c (adoL c l x)]) := by
  have hL := fun F => arr_Lay (F := F) (b := b) (c := c) (l := l) (line := x.line) (way := x.n) hw hx
  have hS := fun F => arr_Set (F := F) (b := b) (c := c) (l := l) (line := x.line) (st := x.n) (w := x.words) hw hx
  have hK := fun F => arr_Lock (F := F) (b := b) (c := c) (l := l) (line := x.line) (lk := decide (x.n ≠ 0)) hw hx
  refine FnF.mk' Try.func45 rfl rfl Try.ntmps45 rfl ?_
  by_cases h0 : x.d = 0
  · have e1 : adoE c l x = layE c l x.line x.n := if_pos h0
    have e2 : adoL c l x = layL c l x.line x.n := if_pos h0
    rw [e1, e2]
    repeat (first | rintro _ _ ⟨rfl, rfl⟩ | rintro _ _ ⟨_, rfl, rfl⟩ | rintro _ _ ⟨_, _, rfl, rfl⟩ | rintro _ _ ⟨_, _, _, _, rfl, rfl⟩ | intro _ | refine go ?_ | (refine is_draw ?_; refine WC_draw mixed (by kernel_rfl) ?_) | refine cal @hL ?_)
    (apply WE_ret rfl rfl (by (repeat (first | exact ResOk.nil | (apply ResOk.tmp; rfl) | (apply resOk_cell; rfl; exact inferInstance; rfl; rfl)))); (first | exact ⟨rfl, rfl⟩ | exact ⟨congrArg Value.bool (by decide), rfl⟩ | exact ⟨_, rfl, rfl⟩ | exact ⟨_, _, rfl, rfl⟩ | exact ⟨by first | (simp []; done) | (simp [] <;> omega), rfl⟩); (repeat (first | exact Ent.refl | exact Ent.nil | apply Ent.pick | apply Ent.drop)))
  · by_cases h1 : x.d = 1
    · have e1 : adoE c l x = setE c l x.line x.n x.words := by unfold adoE; rw [if_neg h0, if_pos h1]
      have e2 : adoL c l x = setL c l x.line x.n x.words := by unfold adoL; rw [if_neg h0, if_pos h1]
      rw [e1, e2]
      repeat (first | rintro _ _ ⟨rfl, rfl⟩ | rintro _ _ ⟨_, rfl, rfl⟩ | rintro _ _ ⟨_, _, rfl, rfl⟩ | rintro _ _ ⟨_, _, _, _, rfl, rfl⟩ | intro _ | refine go ?_ | (refine is_draw ?_; refine WC_draw mixed (by kernel_rfl) ?_) | refine cal @hS ?_)
      (apply WE_ret rfl rfl (by (repeat (first | exact ResOk.nil | (apply ResOk.tmp; rfl) | (apply resOk_cell; rfl; exact inferInstance; rfl; rfl)))); (first | exact ⟨rfl, rfl⟩ | exact ⟨congrArg Value.bool (by decide), rfl⟩ | exact ⟨_, rfl, rfl⟩ | exact ⟨_, _, rfl, rfl⟩ | exact ⟨by first | (simp []; done) | (simp [] <;> omega), rfl⟩); (repeat (first | exact Ent.refl | exact Ent.nil | apply Ent.pick | apply Ent.drop)))
    · by_cases h2 : x.d = 2
      · have e1 : adoE c l x = lockE c l x.line := by unfold adoE; rw [if_neg h0, if_neg h1, if_pos h2]
        have e2 : adoL c l x = lockL c l x.line (decide (x.n ≠ 0)) := by unfold adoL; rw [if_neg h0, if_neg h1, if_pos h2]
        rw [e1, e2]
        repeat (first | rintro _ _ ⟨rfl, rfl⟩ | rintro _ _ ⟨_, rfl, rfl⟩ | rintro _ _ ⟨_, _, rfl, rfl⟩ | rintro _ _ ⟨_, _, _, _, rfl, rfl⟩ | intro _ | refine go ?_ | (refine is_draw ?_; refine WC_draw mixed (by kernel_rfl) ?_) | refine cal @hK ?_)
        (apply WE_ret rfl rfl (by (repeat (first | exact ResOk.nil | (apply ResOk.tmp; rfl) | (apply resOk_cell; rfl; exact inferInstance; rfl; rfl)))); (first | exact ⟨rfl, rfl⟩ | exact ⟨congrArg Value.bool (by decide), rfl⟩ | exact ⟨_, rfl, rfl⟩ | exact ⟨_, _, rfl, rfl⟩ | exact ⟨by first | (simp []; done) | (simp [] <;> omega), rfl⟩); (repeat (first | exact Ent.refl | exact Ent.nil | apply Ent.pick | apply Ent.drop)))
      · have e1 : adoE c l x = 0 := by unfold adoE; rw [if_neg h0, if_neg h1, if_neg h2]
        have e2 : adoL c l x = l := by unfold adoL; rw [if_neg h0, if_neg h1, if_neg h2]
        rw [e1, e2]
        repeat (first | rintro _ _ ⟨rfl, rfl⟩ | rintro _ _ ⟨_, rfl, rfl⟩ | rintro _ _ ⟨_, _, rfl, rfl⟩ | rintro _ _ ⟨_, _, _, _, rfl, rfl⟩ | intro _ | refine go ?_ | (refine is_draw ?_; refine WC_draw mixed (by kernel_rfl) ?_))
        (apply WE_ret rfl rfl (by (repeat (first | exact ResOk.nil | (apply ResOk.tmp; rfl) | (apply resOk_cell; rfl; exact inferInstance; rfl; rfl)))); (first | exact ⟨rfl, rfl⟩ | exact ⟨congrArg Value.bool (by decide), rfl⟩ | exact ⟨_, rfl, rfl⟩ | exact ⟨_, _, rfl, rfl⟩ | exact ⟨by first | (simp []; done) | (simp [] <;> omega), rfl⟩); (repeat (first | exact Ent.refl | exact Ent.nil | apply Ent.pick | apply Ent.drop)))
theorem law09_awake {F : List HP} : FnF Try.prog 42 [] [] F (fun r L' => r = .bool true ∧ L' = []) := by
  have hc : c09.wf := by simp [Cfg.wf, I64, c09]
  have hz : Cfg.wf ⟨0, 0, 0, 0, 0, 0, 0, 0, 0, 0, 0, 0, 0⟩ := by simp [Cfg.wf, I64]
  have i4 : I64 4 := by simp [I64]
  have i5 : I64 5 := by simp [I64]
  have i7 : I64 7 := by simp [I64]
  have hN := fun F => arr_New (F := F) hc (by decide)
  have hN0 := fun F => arr_New_no (F := F) hz (by decide)
  have hA := fun F b => arr_Lay (F := F) (b := b) (c := c09) (l := List.replicate (c09.sets * c09.ways).toNat .zero) (line := 5) (way := 0) hc i5
  have hB := fun F b => arr_Set (F := F) (b := b) (c := c09) (l := [.zero, ⟨0, 5, .zero, true⟩]) (line := 5) (st := 1) (w := w34) hc i5
  have hC := fun F b => arr_Lock (F := F) (b := b) (c := c09) (l := [.zero, ⟨1, 5, w34, true⟩]) (line := 5) (lk := false) hc i5
  have hD := fun F b => arr_Find (F := F) (b := b) (c := c09) (l := [.zero, ⟨1, 5, w34, false⟩]) (line := 5) hc i5
  have hE := fun F b => arr_Find (F := F) (b := b) (c := c09) (l := [.zero, ⟨1, 5, w34, false⟩]) (line := 4) hc i4
  have hG := fun F b => arr_At (F := F) (b := b) (c := c09) (l := [.zero, ⟨1, 5, w34, false⟩]) (s := 1) (k := 0)
  have hH := fun F b => arr_Free (F := F) (b := b) (c := c09) (l := [.zero, ⟨1, 5, w34, false⟩]) (line := 5) hc i5
  have hI := fun F b => arr_Free (F := F) (b := b) (c := c09) (l := [.zero, ⟨1, 5, w34, false⟩]) (line := 4) hc i4
  have hJ := fun F b => arr_Lay (F := F) (b := b) (c := c09) (l := [.zero, ⟨1, 5, w34, false⟩]) (line := 7) (way := 0) hc i7
  have hK := fun F b => arr_Lay (F := F) (b := b) (c := c09) (l := [.zero, ⟨1, 5, w34, false⟩]) (line := 5) (way := 0) hc i5
  have hM := fun F b => arr_Set (F := F) (b := b) (c := c09) (l := [.zero, ⟨1, 5, w34, false⟩]) (line := 4) (st := 1) (w := .zero) hc i4
  have hO := fun F b => arr_Lock (F := F) (b := b) (c := c09) (l := [.zero, ⟨1, 5, w34, false⟩]) (line := 4) (lk := true) hc i4
  have hP := fun F b => arr_Lines (F := F) (b := b) (c := c09) (l := [.zero, ⟨1, 5, w34, false⟩])
  simp only [show layE c09 (List.replicate (c09.sets * c09.ways).toNat .zero) 5 0 = 0 by decide, show layL c09 (List.replicate (c09.sets * c09.ways).toNat .zero) 5 0 = [.zero, ⟨0, 5, .zero, true⟩] by decide] at hA
  simp only [show setE c09 [.zero, ⟨0, 5, .zero, true⟩] 5 1 w34 = 0 by decide, show setL c09 [.zero, ⟨0, 5, .zero, true⟩] 5 1 w34 = [.zero, ⟨1, 5, w34, true⟩] by decide] at hB
  simp only [show lockE c09 [.zero, ⟨1, 5, w34, true⟩] 5 = 0 by decide, show lockL c09 [.zero, ⟨1, 5, w34, true⟩] 5 false = [.zero, ⟨1, 5, w34, false⟩] by decide] at hC
  simp only [show findW c09 [.zero, ⟨1, 5, w34, false⟩] 5 = ⟨1, 5, w34, false⟩ by decide, show findI c09 [.zero, ⟨1, 5, w34, false⟩] 5 = 0 by decide, show findB c09 [.zero, ⟨1, 5, w34, false⟩] 5 = true by decide] at hD
  simp only [show findW c09 [.zero, ⟨1, 5, w34, false⟩] 4 = .zero by decide, show findI c09 [.zero, ⟨1, 5, w34, false⟩] 4 = 0 by decide, show findB c09 [.zero, ⟨1, 5, w34, false⟩] 4 = false by decide] at hE
  simp only [show atW c09 [.zero, ⟨1, 5, w34, false⟩] 1 0 = ⟨1, 5, w34, false⟩ by decide, show inWay c09 1 0 = true by decide] at hG
  simp only [show arrFree c09 [.zero, ⟨1, 5, w34, false⟩] 5 = -1 by decide] at hH
  simp only [show arrFree c09 [.zero, ⟨1, 5, w34, false⟩] 4 = 0 by decide] at hI
  simp only [show layE c09 [.zero, ⟨1, 5, w34, false⟩] 7 0 = 4 by decide, show layL c09 [.zero, ⟨1, 5, w34, false⟩] 7 0 = [.zero, ⟨1, 5, w34, false⟩] by decide] at hJ
  simp only [show layE c09 [.zero, ⟨1, 5, w34, false⟩] 5 0 = 6 by decide, show layL c09 [.zero, ⟨1, 5, w34, false⟩] 5 0 = [.zero, ⟨1, 5, w34, false⟩] by decide] at hK
  simp only [show setE c09 [.zero, ⟨1, 5, w34, false⟩] 4 1 .zero = 5 by decide, show setL c09 [.zero, ⟨1, 5, w34, false⟩] 4 1 .zero = [.zero, ⟨1, 5, w34, false⟩] by decide] at hM
  simp only [show lockE c09 [.zero, ⟨1, 5, w34, false⟩] 4 = 5 by decide, show lockL c09 [.zero, ⟨1, 5, w34, false⟩] 4 true = [.zero, ⟨1, 5, w34, false⟩] by decide] at hO
  simp only [show linesW [.zero, ⟨1, 5, w34, false⟩] = [5] by rw [linesW, show linesU [.zero, ⟨1, 5, w34, false⟩] = [5] by decide, srt, List.mergeSort_singleton]] at hP
  refine FnF.mk' Try.func42 rfl rfl Try.ntmps42 rfl ?_
  repeat (first | rintro _ _ ⟨rfl, rfl⟩ | rintro _ _ ⟨_, rfl, rfl⟩ | rintro _ _ ⟨_, _, rfl, rfl⟩ | rintro _ _ ⟨_, _, _, _, rfl, rfl⟩ | intro _ | refine go ?_ | (refine is_draw ?_; refine WC_draw mixed (by kernel_rfl) ?_) | refine cal @hN ?_ | refine cal @hN0 ?_ | refine cal @hA ?_ | refine cal @hB ?_ | refine cal @hC ?_ | refine cal @hD ?_ | refine cal @hE ?_ | refine cal @hG ?_ | refine cal @hH ?_ | refine cal @hI ?_ | refine cal @hJ ?_ | refine cal @hK ?_ | refine cal @hM ?_ | refine cal @hO ?_ | refine cal @hP ?_ | refine cal (ref02_Same (m := [5])) ?_)
  (apply WE_ret rfl rfl (by (repeat (first | exact ResOk.nil | (apply ResOk.tmp; rfl) | (apply resOk_cell; rfl; exact inferInstance; rfl; rfl)))); (first | exact ⟨rfl, rfl⟩ | exact ⟨congrArg Value.bool (by decide), rfl⟩ | exact ⟨_, rfl, rfl⟩ | exact ⟨_, _, rfl, rfl⟩ | exact ⟨by first | (simp []; done) | (simp [] <;> omega), rfl⟩); (repeat (first | exact Ent.refl | exact Ent.nil | apply Ent.pick | apply Ent.drop)))
end Go.Sx
