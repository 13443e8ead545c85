/- What sharers do: the law against the document. My own work. -/
import Derived.Test.YtadedfcjakhfbabShrLaw
namespace Go.Sx
open Go Go.Proofs
set_option linter.unusedVariables false
set_option linter.unusedSectionVars false
set_option linter.unusedSimpArgs false
theorem addS_len (s : SSet) (x : Int) : (shAddS s x).ps.length ≤ s.ps.length + 1 := by
  unfold shAddS
  split
  · split
    · omega
    · split
      · simp
      · simp only [insL_len]; omega
  · simp
theorem tgt_len (s : SSet) (but : List Int) (n : Nat) : (shTgt s but n).length ≤ n := by
  have := List.length_filter_le (fun c => shHas s c && !decide (c ∈ but)) (upto n)
  simp only [upto, List.length_map, List.length_range] at this
  exact this
set_option maxRecDepth 100000
set_option maxHeartbeats 4000000
attribute [local irreducible] Go.Exit.then Go.Exit.inBlock Go.Code.wp WC WO WE WQ V LoopQ FnQ Sat Star band bor IntKind.wrap WR Code.rounds WT KO
theorem law08_Tells {W : World} {F : List HP} {s : SSet} {a : Option Addr} {k : Nat} {core cores pointers : Int} {v : Value} {but : List Int} (hk : ROld W 1 (.slice a s.ps.length k) s.ps.length (flat ic s.ps)) (hl : s.ps.length ≤ 9223372036854775807) (hb : ROld W 1 v but.length (flat ic but)) (hbl : but.length ≤ 9223372036854775807) :
    FnF Try.prog 6 [scw s a k, .int .i64 core, v, .int .i64 cores, .int .i64 pointers] [Old W] F (fun r L' => r = .bool true ∧ L' = [Old W]) := by
  haveI := hk
  haveI := hb
  refine FnF.mk' Try.func6 rfl rfl Try.ntmps6 rfl ?_
  by_cases h1 : 100 < s.ps.length
  · repeat (first | rintro _ _ ⟨rfl, rfl⟩ | rintro _ _ ⟨_, rfl, rfl⟩ | rintro _ _ ⟨_, _, rfl, rfl⟩ | intro _ | refine go ?_ | (refine is_draw ?_; apply WC_mix (id := 16) false _ (pl := .p 1 <| .p 4 <| .r 0 <| .r 3 <| .e true [(2, .e true [(5, .p 6 <| .p 7 <| .p 9 <| .p 12 <| .r 8 <| .r 11 <| .e true [(10, .e true [(13, .e true [(14, .p 15 <| .p 16 <| .p 19 <| .p 21 <| .r 17 <| .r 20 <| .r 22 <| .p 23 <| .e true [(18, .e true [(24, .p 25 <| .p 26 <| .done)])])])])])])]); exact mixed; kernel_rfl; kernel_rfl; exact Ent.refl) | (refine is_draw ?_; refine WC_draw mixed (by kernel_rfl) ?_) | refine cal @law08_awake ?_)
    (apply WE_ret rfl rfl (by (repeat (first | exact ResOk.nil | (apply ResOk.tmp; rfl) | (apply resOk_cell; rfl; exact inferInstance; rfl; rfl)))); (first | exact ⟨rfl, rfl⟩ | exact ⟨congrArg Value.bool (by decide), rfl⟩ | exact ⟨_, rfl, rfl⟩ | exact ⟨_, _, rfl, rfl⟩ | exact ⟨by first | (simp []; done) | (simp [] <;> omega), rfl⟩); (repeat (first | exact Ent.refl | exact Ent.nil | apply Ent.pick | apply Ent.drop)))
  · by_cases h2 : 100 < but.length
    · repeat (first | rintro _ _ ⟨rfl, rfl⟩ | rintro _ _ ⟨_, rfl, rfl⟩ | rintro _ _ ⟨_, _, rfl, rfl⟩ | intro _ | refine go ?_ | (refine is_draw ?_; apply WC_mix (id := 16) false _ (pl := .p 1 <| .p 4 <| .r 0 <| .r 3 <| .e true [(2, .e true [(5, .p 6 <| .p 7 <| .p 9 <| .p 12 <| .r 8 <| .r 11 <| .e true [(10, .e true [(13, .e true [(14, .p 15 <| .p 16 <| .p 19 <| .p 21 <| .r 17 <| .r 20 <| .r 22 <| .p 23 <| .e true [(18, .e true [(24, .p 25 <| .p 26 <| .done)])])])])])])]); exact mixed; kernel_rfl; kernel_rfl; exact Ent.refl) | (refine is_draw ?_; refine WC_draw mixed (by kernel_rfl) ?_) | refine cal @law08_awake ?_)
      (apply WE_ret rfl rfl (by (repeat (first | exact ResOk.nil | (apply ResOk.tmp; rfl) | (apply resOk_cell; rfl; exact inferInstance; rfl; rfl)))); (first | exact ⟨rfl, rfl⟩ | exact ⟨congrArg Value.bool (by decide), rfl⟩ | exact ⟨_, rfl, rfl⟩ | exact ⟨_, _, rfl, rfl⟩ | exact ⟨by first | (simp []; done) | (simp [] <;> omega), rfl⟩); (repeat (first | exact Ent.refl | exact Ent.nil | apply Ent.pick | apply Ent.drop)))
    · have hN := fun F => shr_New (F := F) (cores := cores) (most := pointers)
      have hRM := fun F => ref08_May (F := F) (s := ⟨cores, pointers, [], false⟩) (a := none) (k := 0) rd_empty (by simp)
      have hSn := fun F => ref08_Same (F := F) (s := ⟨cores, pointers, [], false⟩) (t := ⟨cores, pointers, [], false⟩) (a := none) (b := none) (k := 0) (m := 0) rd_empty rd_empty (by simp)
      have hS0 := fun F => ref08_Same (F := F) (s := .no) (t := .no) (a := none) (b := none) (k := 0) (m := 0) rd_empty rd_empty (by simp)
      simp only [decide_true] at hSn hS0
      have hM := fun F (hk : RdL F 1 (.slice a s.ps.length k) s.ps.length (flat ic s.ps)) => shr_May (F := F) hk (by omega)
      have hRM2 := fun F (hk : RdL F 1 (.slice a s.ps.length k) s.ps.length (flat ic s.ps)) => ref08_May (F := F) hk (by omega)
      have hA := fun F (hk : RdL F 1 (.slice a s.ps.length k) s.ps.length (flat ic s.ps)) => shr_Add (F := F) (x := core) hk (by omega)
      have hAl := addS_len s core
      have hSm := fun F a k b m (h1 : RdL F 1 (.slice a (shAddS s core).ps.length k) (shAddS s core).ps.length (flat ic (shAddS s core).ps)) (h2 : RdL F 1 (.slice b (shAddS s core).ps.length m) (shAddS s core).ps.length (flat ic (shAddS s core).ps)) => ref08_Same (F := F) (s := shAddS s core) (t := shAddS s core) h1 h2 (by omega)
      simp only [decide_true] at hSm
      cases e : shMay ⟨cores, pointers, [], false⟩ with
      | true =>
        simp only [e, if_true] at hN hRM
        repeat (first | rintro _ _ ⟨rfl, rfl⟩ | rintro _ _ ⟨_, rfl, rfl⟩ | rintro _ _ ⟨_, _, rfl, rfl⟩ | intro _ | refine go ?_ | (refine is_draw ?_; apply WC_mix (id := 16) false _ (pl := .p 1 <| .p 4 <| .r 0 <| .r 3 <| .e true [(2, .e true [(5, .p 6 <| .p 7 <| .p 9 <| .p 12 <| .r 8 <| .r 11 <| .e true [(10, .e true [(13, .e true [(14, .p 15 <| .p 16 <| .p 19 <| .p 21 <| .r 17 <| .r 20 <| .r 22 <| .p 23 <| .e true [(18, .e true [(24, .p 25 <| .p 26 <| .done)])])])])])])]); exact mixed; kernel_rfl; kernel_rfl; exact Ent.refl) | (refine is_draw ?_; refine WC_draw mixed (by kernel_rfl) ?_) | refine cal @law08_awake ?_ | refine cal @hN ?_ | refine cal @hRM ?_ | refine cal @hSn ?_ | refine cal @hS0 ?_ | refine cal @hA ?_)
        by_cases hcase : shMay s = true ∧ 0 ≤ core ∧ core < s.cores ∧ shHas s core = true
        · obtain ⟨hm, c2, c3, c4⟩ := hcase
          have hRA := fun F (hk : RdL F 1 (.slice a s.ps.length k) s.ps.length (flat ic s.ps)) => ref08_Add_has (F := F) hk hm c2 c3 c4
          have hE' : shAddE s core = 0 := by simp only [shAddE, hm, if_true]; rw [if_neg (by omega)]
          have hS' : shAddS s core = s := by simp [shAddS, hE', c4]
          simp only [hS', hE'] at hSm ⊢
          simp only [hm] at hM hRM2
          have hH := fun F (hk : RdL F 1 (.slice a s.ps.length k) s.ps.length (flat ic s.ps)) => shr_Has (F := F) (c := core) hk hm
          have hRH := fun F (hk : RdL F 1 (.slice a s.ps.length k) s.ps.length (flat ic s.ps)) => ref08_Has (F := F) (c := core) hk (by omega)
          simp only [has_same hm] at hRH
          have hT := fun F (hk : RdL F 1 (.slice a s.ps.length k) s.ps.length (flat ic s.ps)) (hb : RdL F 1 v but.length (flat ic but)) => shr_Targets (F := F) hk hm hb (by omega)
          have hRT := fun F (hk : RdL F 1 (.slice a s.ps.length k) s.ps.length (flat ic s.ps)) (hb : RdL F 1 v but.length (flat ic but)) => ref08_Targets (F := F) hk hm hb (by omega)
          have hTl := tgt_len s but s.cores.toNat
          have hc64 := (may_facts' hm).2.1
          have hS2 := fun F v u (k1 : RdL F 1 v (shTgt s but s.cores.toNat).length (flat ic (shTgt s but s.cores.toNat))) (k2 : RdL F 1 u (shTgt s but s.cores.toNat).length (flat ic (shTgt s but s.cores.toNat))) => ref02_Same (F := F) k1 k2 (by omega)
          simp only [decide_true] at hS2
          have hSc := fun F => ref08_Same (F := F) (s := ⟨s.cores, s.most, [], false⟩) (t := ⟨s.cores, s.most, [], false⟩) (a := none) (b := none) (k := 0) (m := 0) rd_empty rd_empty (by simp)
          simp only [decide_true] at hSc
          repeat (first | rintro _ _ ⟨rfl, rfl⟩ | rintro _ _ ⟨_, rfl, rfl⟩ | rintro _ _ ⟨_, _, rfl, rfl⟩ | intro _ | refine go ?_ | (refine is_draw ?_; apply WC_mix (id := 16) false _ (pl := .p 1 <| .p 4 <| .r 0 <| .r 3 <| .e true [(2, .e true [(5, .p 6 <| .p 7 <| .p 9 <| .p 12 <| .r 8 <| .r 11 <| .e true [(10, .e true [(13, .e true [(14, .p 15 <| .p 16 <| .p 19 <| .p 21 <| .r 17 <| .r 20 <| .r 22 <| .p 23 <| .e true [(18, .e true [(24, .p 25 <| .p 26 <| .done)])])])])])])]); exact mixed; kernel_rfl; kernel_rfl; exact Ent.refl) | (refine is_draw ?_; refine WC_draw mixed (by kernel_rfl) ?_) | refine cal @hRA ?_ | refine cal @hM ?_ | refine cal @hRM2 ?_ | refine cal @hSm ?_ | refine cal @hH ?_ | refine cal @hRH ?_ | refine cal @hT ?_ | refine cal @hRT ?_ | refine cal @hS2 ?_ | refine cal @shr_Clear ?_ | refine cal @hSc ?_)
          (apply WE_ret rfl rfl (by (repeat (first | exact ResOk.nil | (apply ResOk.tmp; rfl) | (apply resOk_cell; rfl; exact inferInstance; rfl; rfl)))); (first | exact ⟨rfl, rfl⟩ | exact ⟨congrArg Value.bool (by decide), rfl⟩ | exact ⟨_, rfl, rfl⟩ | exact ⟨_, _, rfl, rfl⟩ | exact ⟨by first | (simp []; done) | (simp [] <;> omega), rfl⟩); (repeat (first | exact Ent.refl | exact Ent.nil | apply Ent.pick | apply Ent.drop)))
        · have hRA := fun F (hk : RdL F 1 (.slice a s.ps.length k) s.ps.length (flat ic s.ps)) => ref08_Add (F := F) hk (by omega) (fun h1 h2 h3 h4 => hcase ⟨h2, h3, h4, h1⟩)
          cases hm : shMay s with
          | false =>
            simp only [hm] at hM hRM2
            repeat (first | rintro _ _ ⟨rfl, rfl⟩ | rintro _ _ ⟨_, rfl, rfl⟩ | rintro _ _ ⟨_, _, rfl, rfl⟩ | intro _ | refine go ?_ | (refine is_draw ?_; apply WC_mix (id := 16) false _ (pl := .p 1 <| .p 4 <| .r 0 <| .r 3 <| .e true [(2, .e true [(5, .p 6 <| .p 7 <| .p 9 <| .p 12 <| .r 8 <| .r 11 <| .e true [(10, .e true [(13, .e true [(14, .p 15 <| .p 16 <| .p 19 <| .p 21 <| .r 17 <| .r 20 <| .r 22 <| .p 23 <| .e true [(18, .e true [(24, .p 25 <| .p 26 <| .done)])])])])])])]); exact mixed; kernel_rfl; kernel_rfl; exact Ent.refl) | (refine is_draw ?_; refine WC_draw mixed (by kernel_rfl) ?_) | refine cal @hRA ?_ | refine cal @hM ?_ | refine cal @hRM2 ?_ | refine cal @hSm ?_)
            (apply WE_ret rfl rfl (by (repeat (first | exact ResOk.nil | (apply ResOk.tmp; rfl) | (apply resOk_cell; rfl; exact inferInstance; rfl; rfl)))); (first | exact ⟨rfl, rfl⟩ | exact ⟨congrArg Value.bool (by decide), rfl⟩ | exact ⟨_, rfl, rfl⟩ | exact ⟨_, _, rfl, rfl⟩ | exact ⟨by first | (simp []; done) | (simp [] <;> omega), rfl⟩); (repeat (first | exact Ent.refl | exact Ent.nil | apply Ent.pick | apply Ent.drop)))
          | true =>
            simp only [hm] at hM hRM2
            have hH := fun F (hk : RdL F 1 (.slice a s.ps.length k) s.ps.length (flat ic s.ps)) => shr_Has (F := F) (c := core) hk hm
            have hRH := fun F (hk : RdL F 1 (.slice a s.ps.length k) s.ps.length (flat ic s.ps)) => ref08_Has (F := F) (c := core) hk (by omega)
            simp only [has_same hm] at hRH
            have hT := fun F (hk : RdL F 1 (.slice a s.ps.length k) s.ps.length (flat ic s.ps)) (hb : RdL F 1 v but.length (flat ic but)) => shr_Targets (F := F) hk hm hb (by omega)
            have hRT := fun F (hk : RdL F 1 (.slice a s.ps.length k) s.ps.length (flat ic s.ps)) (hb : RdL F 1 v but.length (flat ic but)) => ref08_Targets (F := F) hk hm hb (by omega)
            have hTl := tgt_len s but s.cores.toNat
            have hc64 := (may_facts' hm).2.1
            have hS2 := fun F v u (k1 : RdL F 1 v (shTgt s but s.cores.toNat).length (flat ic (shTgt s but s.cores.toNat))) (k2 : RdL F 1 u (shTgt s but s.cores.toNat).length (flat ic (shTgt s but s.cores.toNat))) => ref02_Same (F := F) k1 k2 (by omega)
            simp only [decide_true] at hS2
            have hSc := fun F => ref08_Same (F := F) (s := ⟨s.cores, s.most, [], false⟩) (t := ⟨s.cores, s.most, [], false⟩) (a := none) (b := none) (k := 0) (m := 0) rd_empty rd_empty (by simp)
            simp only [decide_true] at hSc
            repeat (first | rintro _ _ ⟨rfl, rfl⟩ | rintro _ _ ⟨_, rfl, rfl⟩ | rintro _ _ ⟨_, _, rfl, rfl⟩ | intro _ | refine go ?_ | (refine is_draw ?_; apply WC_mix (id := 16) false _ (pl := .p 1 <| .p 4 <| .r 0 <| .r 3 <| .e true [(2, .e true [(5, .p 6 <| .p 7 <| .p 9 <| .p 12 <| .r 8 <| .r 11 <| .e true [(10, .e true [(13, .e true [(14, .p 15 <| .p 16 <| .p 19 <| .p 21 <| .r 17 <| .r 20 <| .r 22 <| .p 23 <| .e true [(18, .e true [(24, .p 25 <| .p 26 <| .done)])])])])])])]); exact mixed; kernel_rfl; kernel_rfl; exact Ent.refl) | (refine is_draw ?_; refine WC_draw mixed (by kernel_rfl) ?_) | refine cal @hRA ?_ | refine cal @hM ?_ | refine cal @hRM2 ?_ | refine cal @hSm ?_ | refine cal @hH ?_ | refine cal @hRH ?_ | refine cal @hT ?_ | refine cal @hRT ?_ | refine cal @hS2 ?_ | refine cal @shr_Clear ?_ | refine cal @hSc ?_)
            (apply WE_ret rfl rfl (by (repeat (first | exact ResOk.nil | (apply ResOk.tmp; rfl) | (apply resOk_cell; rfl; exact inferInstance; rfl; rfl)))); (first | exact ⟨rfl, rfl⟩ | exact ⟨congrArg Value.bool (by decide), rfl⟩ | exact ⟨_, rfl, rfl⟩ | exact ⟨_, _, rfl, rfl⟩ | exact ⟨by first | (simp []; done) | (simp [] <;> omega), rfl⟩); (repeat (first | exact Ent.refl | exact Ent.nil | apply Ent.pick | apply Ent.drop)))
      | false =>
        simp only [e, Bool.false_eq_true, if_false] at hN hRM
        repeat (first | rintro _ _ ⟨rfl, rfl⟩ | rintro _ _ ⟨_, rfl, rfl⟩ | rintro _ _ ⟨_, _, rfl, rfl⟩ | intro _ | refine go ?_ | (refine is_draw ?_; apply WC_mix (id := 16) false _ (pl := .p 1 <| .p 4 <| .r 0 <| .r 3 <| .e true [(2, .e true [(5, .p 6 <| .p 7 <| .p 9 <| .p 12 <| .r 8 <| .r 11 <| .e true [(10, .e true [(13, .e true [(14, .p 15 <| .p 16 <| .p 19 <| .p 21 <| .r 17 <| .r 20 <| .r 22 <| .p 23 <| .e true [(18, .e true [(24, .p 25 <| .p 26 <| .done)])])])])])])]); exact mixed; kernel_rfl; kernel_rfl; exact Ent.refl) | (refine is_draw ?_; refine WC_draw mixed (by kernel_rfl) ?_) | refine cal @law08_awake ?_ | refine cal @hN ?_ | refine cal @hRM ?_ | refine cal @hSn ?_ | refine cal @hS0 ?_ | refine cal @hA ?_)
        by_cases hcase : shMay s = true ∧ 0 ≤ core ∧ core < s.cores ∧ shHas s core = true
        · obtain ⟨hm, c2, c3, c4⟩ := hcase
          have hRA := fun F (hk : RdL F 1 (.slice a s.ps.length k) s.ps.length (flat ic s.ps)) => ref08_Add_has (F := F) hk hm c2 c3 c4
          have hE' : shAddE s core = 0 := by simp only [shAddE, hm, if_true]; rw [if_neg (by omega)]
          have hS' : shAddS s core = s := by simp [shAddS, hE', c4]
          simp only [hS', hE'] at hSm ⊢
          simp only [hm] at hM hRM2
          have hH := fun F (hk : RdL F 1 (.slice a s.ps.length k) s.ps.length (flat ic s.ps)) => shr_Has (F := F) (c := core) hk hm
          have hRH := fun F (hk : RdL F 1 (.slice a s.ps.length k) s.ps.length (flat ic s.ps)) => ref08_Has (F := F) (c := core) hk (by omega)
          simp only [has_same hm] at hRH
          have hT := fun F (hk : RdL F 1 (.slice a s.ps.length k) s.ps.length (flat ic s.ps)) (hb : RdL F 1 v but.length (flat ic but)) => shr_Targets (F := F) hk hm hb (by omega)
          have hRT := fun F (hk : RdL F 1 (.slice a s.ps.length k) s.ps.length (flat ic s.ps)) (hb : RdL F 1 v but.length (flat ic but)) => ref08_Targets (F := F) hk hm hb (by omega)
          have hTl := tgt_len s but s.cores.toNat
          have hc64 := (may_facts' hm).2.1
          have hS2 := fun F v u (k1 : RdL F 1 v (shTgt s but s.cores.toNat).length (flat ic (shTgt s but s.cores.toNat))) (k2 : RdL F 1 u (shTgt s but s.cores.toNat).length (flat ic (shTgt s but s.cores.toNat))) => ref02_Same (F := F) k1 k2 (by omega)
          simp only [decide_true] at hS2
          have hSc := fun F => ref08_Same (F := F) (s := ⟨s.cores, s.most, [], false⟩) (t := ⟨s.cores, s.most, [], false⟩) (a := none) (b := none) (k := 0) (m := 0) rd_empty rd_empty (by simp)
          simp only [decide_true] at hSc
          repeat (first | rintro _ _ ⟨rfl, rfl⟩ | rintro _ _ ⟨_, rfl, rfl⟩ | rintro _ _ ⟨_, _, rfl, rfl⟩ | intro _ | refine go ?_ | (refine is_draw ?_; apply WC_mix (id := 16) false _ (pl := .p 1 <| .p 4 <| .r 0 <| .r 3 <| .e true [(2, .e true [(5, .p 6 <| .p 7 <| .p 9 <| .p 12 <| .r 8 <| .r 11 <| .e true [(10, .e true [(13, .e true [(14, .p 15 <| .p 16 <| .p 19 <| .p 21 <| .r 17 <| .r 20 <| .r 22 <| .p 23 <| .e true [(18, .e true [(24, .p 25 <| .p 26 <| .done)])])])])])])]); exact mixed; kernel_rfl; kernel_rfl; exact Ent.refl) | (refine is_draw ?_; refine WC_draw mixed (by kernel_rfl) ?_) | refine cal @hRA ?_ | refine cal @hM ?_ | refine cal @hRM2 ?_ | refine cal @hSm ?_ | refine cal @hH ?_ | refine cal @hRH ?_ | refine cal @hT ?_ | refine cal @hRT ?_ | refine cal @hS2 ?_ | refine cal @shr_Clear ?_ | refine cal @hSc ?_)
          (apply WE_ret rfl rfl (by (repeat (first | exact ResOk.nil | (apply ResOk.tmp; rfl) | (apply resOk_cell; rfl; exact inferInstance; rfl; rfl)))); (first | exact ⟨rfl, rfl⟩ | exact ⟨congrArg Value.bool (by decide), rfl⟩ | exact ⟨_, rfl, rfl⟩ | exact ⟨_, _, rfl, rfl⟩ | exact ⟨by first | (simp []; done) | (simp [] <;> omega), rfl⟩); (repeat (first | exact Ent.refl | exact Ent.nil | apply Ent.pick | apply Ent.drop)))
        · have hRA := fun F (hk : RdL F 1 (.slice a s.ps.length k) s.ps.length (flat ic s.ps)) => ref08_Add (F := F) hk (by omega) (fun h1 h2 h3 h4 => hcase ⟨h2, h3, h4, h1⟩)
          cases hm : shMay s with
          | false =>
            simp only [hm] at hM hRM2
            repeat (first | rintro _ _ ⟨rfl, rfl⟩ | rintro _ _ ⟨_, rfl, rfl⟩ | rintro _ _ ⟨_, _, rfl, rfl⟩ | intro _ | refine go ?_ | (refine is_draw ?_; apply WC_mix (id := 16) false _ (pl := .p 1 <| .p 4 <| .r 0 <| .r 3 <| .e true [(2, .e true [(5, .p 6 <| .p 7 <| .p 9 <| .p 12 <| .r 8 <| .r 11 <| .e true [(10, .e true [(13, .e true [(14, .p 15 <| .p 16 <| .p 19 <| .p 21 <| .r 17 <| .r 20 <| .r 22 <| .p 23 <| .e true [(18, .e true [(24, .p 25 <| .p 26 <| .done)])])])])])])]); exact mixed; kernel_rfl; kernel_rfl; exact Ent.refl) | (refine is_draw ?_; refine WC_draw mixed (by kernel_rfl) ?_) | refine cal @hRA ?_ | refine cal @hM ?_ | refine cal @hRM2 ?_ | refine cal @hSm ?_)
            (apply WE_ret rfl rfl (by (repeat (first | exact ResOk.nil | (apply ResOk.tmp; rfl) | (apply resOk_cell; rfl; exact inferInstance; rfl; rfl)))); (first | exact ⟨rfl, rfl⟩ | exact ⟨congrArg Value.bool (by decide), rfl⟩ | exact ⟨_, rfl, rfl⟩ | exact ⟨_, _, rfl, rfl⟩ | exact ⟨by first | (simp []; done) | (simp [] <;> omega), rfl⟩); (repeat (first | exact Ent.refl | exact Ent.nil | apply Ent.pick | apply Ent.drop)))
          | true =>
            simp only [hm] at hM hRM2
            have hH := fun F (hk : RdL F 1 (.slice a s.ps.length k) s.ps.length (flat ic s.ps)) => shr_Has (F := F) (c := core) hk hm
            have hRH := fun F (hk : RdL F 1 (.slice a s.ps.length k) s.ps.length (flat ic s.ps)) => ref08_Has (F := F) (c := core) hk (by omega)
            simp only [has_same hm] at hRH
            have hT := fun F (hk : RdL F 1 (.slice a s.ps.length k) s.ps.length (flat ic s.ps)) (hb : RdL F 1 v but.length (flat ic but)) => shr_Targets (F := F) hk hm hb (by omega)
            have hRT := fun F (hk : RdL F 1 (.slice a s.ps.length k) s.ps.length (flat ic s.ps)) (hb : RdL F 1 v but.length (flat ic but)) => ref08_Targets (F := F) hk hm hb (by omega)
            have hTl := tgt_len s but s.cores.toNat
            have hc64 := (may_facts' hm).2.1
            have hS2 := fun F v u (k1 : RdL F 1 v (shTgt s but s.cores.toNat).length (flat ic (shTgt s but s.cores.toNat))) (k2 : RdL F 1 u (shTgt s but s.cores.toNat).length (flat ic (shTgt s but s.cores.toNat))) => ref02_Same (F := F) k1 k2 (by omega)
            simp only [decide_true] at hS2
            have hSc := fun F => ref08_Same (F := F) (s := ⟨s.cores, s.most, [], false⟩) (t := ⟨s.cores, s.most, [], false⟩) (a := none) (b := none) (k := 0) (m := 0) rd_empty rd_empty (by simp)
            simp only [decide_true] at hSc
            repeat (first | rintro _ _ ⟨rfl, rfl⟩ | rintro _ _ ⟨_, rfl, rfl⟩ | rintro _ _ ⟨_, _, rfl, rfl⟩ | intro _ | refine go ?_ | (refine is_draw ?_; apply WC_mix (id := 16) false _ (pl := .p 1 <| .p 4 <| .r 0 <| .r 3 <| .e true [(2, .e true [(5, .p 6 <| .p 7 <| .p 9 <| .p 12 <| .r 8 <| .r 11 <| .e true [(10, .e true [(13, .e true [(14, .p 15 <| .p 16 <| .p 19 <| .p 21 <| .r 17 <| .r 20 <| .r 22 <| .p 23 <| .e true [(18, .e true [(24, .p 25 <| .p 26 <| .done)])])])])])])]); exact mixed; kernel_rfl; kernel_rfl; exact Ent.refl) | (refine is_draw ?_; refine WC_draw mixed (by kernel_rfl) ?_) | refine cal @hRA ?_ | refine cal @hM ?_ | refine cal @hRM2 ?_ | refine cal @hSm ?_ | refine cal @hH ?_ | refine cal @hRH ?_ | refine cal @hT ?_ | refine cal @hRT ?_ | refine cal @hS2 ?_ | refine cal @shr_Clear ?_ | refine cal @hSc ?_)
            (apply WE_ret rfl rfl (by (repeat (first | exact ResOk.nil | (apply ResOk.tmp; rfl) | (apply resOk_cell; rfl; exact inferInstance; rfl; rfl)))); (first | exact ⟨rfl, rfl⟩ | exact ⟨congrArg Value.bool (by decide), rfl⟩ | exact ⟨_, rfl, rfl⟩ | exact ⟨_, _, rfl, rfl⟩ | exact ⟨by first | (simp []; done) | (simp [] <;> omega), rfl⟩); (repeat (first | exact Ent.refl | exact Ent.nil | apply Ent.pick | apply Ent.drop)))
end Go.Sx
