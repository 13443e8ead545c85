/- The laws of messages. My own work. -/
import Derived.Test.YtadedfcjakhfbabMsgTakeR
namespace Go.Sx
open Go Go.Proofs
set_option linter.unusedVariables false
set_option linter.unusedSectionVars false
set_option linter.unusedSimpArgs false
def c05 : Cfg := ⟨3, 2, 1, 1, 2, 4, 0, 1, 1, 1, 1, 1, 1⟩
def m05 : Msg := ⟨7, 3, 1, 2, 0, 1, 4, ⟨7, -1, 0, 0, 0, 0, 0, 0⟩⟩
set_option maxRecDepth 100000
set_option maxHeartbeats 4000000
attribute [local irreducible] Go.Exit.then Go.Exit.inBlock Go.Code.wp WC WO WE WQ V LoopQ FnQ Sat Star band bor IntKind.wrap WR Code.rounds WT KO
theorem law05_awake {F : List HP} : FnF Try.prog 40 [] [] F (fun r L' => r = .bool true ∧ L' = []) := by
  have hc : c05.wf := by simp [Cfg.wf, I64, c05]
  have hm : MayP c05 m05 := by decide
  have hz : ¬ MayP c05 .zero := fun h => by have := h.2.1; simp [Msg.zero] at this
  obtain ⟨k1, k2⟩ := take_put hm
  have hP := fun F => msg_Put (F := F) (c := c05) (m := m05) hc
  have hZ := fun F => msg_Put (F := F) (c := c05) (m := .zero) hc
  have hT := fun F => msg_Take (F := F) (c := c05) (s := putS c05 m05) hc (by have := (par_put hm).2.1; omega)
  have hX := fun F => msg_Take (F := F) (c := c05) (s := ⟨#[120]⟩) hc (by decide)
  have hM := fun F => msg_May (F := F) (c := c05) (m := m05) hc
  have hxo : ¬ OkT c05 ⟨#[120]⟩ := fun h => absurd h.1 (by decide)
  have e0 : putE' c05 m05 = 0 := if_pos hm
  have e1 : putE' c05 .zero = 1 := if_neg hz
  have e2 : takeE' c05 ⟨#[120]⟩ = 2 := if_neg hxo
  simp only [e0, e1, e2, k1, k2, hm, decide_true] at hP hZ hT hX hM
  have hN := fun F k v (h : netK k = v) => (fun (hh : FnF Try.prog 45 [.int .i64 k] [] F (fun r L' => r = .int .i64 v ∧ L' = [])) => hh) (h ▸ msg_Net (F := F) (k := k))
  have hN1 := fun F => hN F 2 0 rfl
  have hN2 := fun F => hN F 6 1 rfl
  have hN3 := fun F => hN F 9 2 rfl
  have hN4 := fun F => hN F 0 (-1) rfl
  have hH1 := fun F => msg_Home (F := F) (k := 11)
  have hH2 := fun F => msg_Home (F := F) (k := 6)
  simp only [show decide (HomeP 11) = true from rfl, show decide (HomeP 6) = false from rfl] at hH1 hH2
  have hs0 : putS c05 m05 = ⟨#[7, 0, 3, 1, 2, 0, 1, 4, 0, 0, 0, 7, 255, 255, 255, 255]⟩ := by kernel_rfl
  refine FnF.mk' Try.func40 rfl rfl Try.ntmps40 rfl ?_
  repeat (first | rintro _ _ ⟨rfl, rfl⟩ | rintro _ _ ⟨_, rfl, rfl⟩ | rintro _ _ ⟨_, _, rfl, rfl⟩ | intro _ | refine go ?_ | (refine is_draw ?_; refine WC_draw mixed (by kernel_rfl) ?_) | refine cal @hP ?_ | refine cal @hT ?_ | refine cal @hZ ?_ | refine cal @hX ?_ | refine cal @hM ?_ | refine cal @hN1 ?_ | refine cal @hN2 ?_ | refine cal @hN3 ?_ | refine cal @hN4 ?_ | refine cal @hH1 ?_ | refine cal @hH2 ?_ | refine str ?_)
  (apply WE_ret rfl rfl (by (repeat (first | exact ResOk.nil | (apply ResOk.tmp; rfl) | (apply resOk_cell; rfl; exact inferInstance; rfl; rfl)))); (first | exact ⟨rfl, rfl⟩ | exact ⟨congrArg Value.bool (by decide), rfl⟩ | exact ⟨_, rfl, rfl⟩ | exact ⟨_, _, rfl, rfl⟩ | exact ⟨by first | (simp []; done) | (simp [] <;> omega), rfl⟩); (repeat (first | exact Ent.refl | exact Ent.nil | apply Ent.pick | apply Ent.drop)))
theorem law05_Tells {W : World} {F : List HP} {c : Cfg} {m : Msg} {s : ByteArray} (hc : c.wf) :
    FnF Try.prog 10 [c.val, mv m, .string s] [Old W] F (fun r L' => r = .bool true ∧ L' = [Old W]) := by
  refine FnF.mk' Try.func10 rfl rfl Try.ntmps10 rfl ?_
  by_cases h : 100 < s.size
  · repeat (first | rintro _ _ ⟨rfl, rfl⟩ | rintro _ _ ⟨_, rfl, rfl⟩ | rintro _ _ ⟨_, _, rfl, rfl⟩ | intro _ | refine go ?_ | (refine is_draw ?_; refine WC_draw mixed (by kernel_rfl) ?_) | refine cal @law05_awake ?_)
    (apply WE_ret rfl rfl (by (repeat (first | exact ResOk.nil | (apply ResOk.tmp; rfl) | (apply resOk_cell; rfl; exact inferInstance; rfl; rfl)))); (first | exact ⟨rfl, rfl⟩ | exact ⟨congrArg Value.bool (by decide), rfl⟩ | exact ⟨_, rfl, rfl⟩ | exact ⟨_, _, rfl, rfl⟩ | exact ⟨by first | (simp []; done) | (simp [] <;> omega), rfl⟩); (repeat (first | exact Ent.refl | exact Ent.nil | apply Ent.pick | apply Ent.drop)))
  · have hP := fun F => msg_Put (F := F) (c := c) (m := m) hc
    have hQ := fun F => ref05_Put (F := F) (c := c) (m := m) hc
    have hT := fun F => msg_Take (F := F) (c := c) (s := s) hc (by omega)
    have hU := fun F => ref05_Take (F := F) (c := c) (s := s) hc (by omega)
    have hM := fun F => msg_May (F := F) (c := c) (m := m) hc
    have hR := fun F => ref05_May (F := F) (c := c) (m := m) hc
    repeat (first | rintro _ _ ⟨rfl, rfl⟩ | rintro _ _ ⟨_, rfl, rfl⟩ | rintro _ _ ⟨_, _, rfl, rfl⟩ | intro _ | refine go ?_ | (refine is_draw ?_; refine WC_draw mixed (by kernel_rfl) ?_) | refine cal @law05_awake ?_ | refine cal @hP ?_ | refine cal @hQ ?_ | refine cal @hT ?_ | refine cal @hU ?_ | refine cal @hM ?_ | refine cal @hR ?_ | refine cal @msg_Net ?_ | refine cal @ref05_Net ?_ | refine cal @msg_Home ?_ | refine cal @ref05_Home ?_ | refine str ?_)
    (apply WE_ret rfl rfl (by (repeat (first | exact ResOk.nil | (apply ResOk.tmp; rfl) | (apply resOk_cell; rfl; exact inferInstance; rfl; rfl)))); (first | exact ⟨rfl, rfl⟩ | exact ⟨congrArg Value.bool (by decide), rfl⟩ | exact ⟨_, rfl, rfl⟩ | exact ⟨_, _, rfl, rfl⟩ | exact ⟨by first | (simp []; done) | (simp [] <;> omega), rfl⟩); (repeat (first | exact Ent.refl | exact Ent.nil | apply Ent.pick | apply Ent.drop)))
theorem law05_Back {W : World} {F : List HP} {c : Cfg} {m : Msg} {s : ByteArray} (hc : c.wf) :
    FnF Try.prog 11 [c.val, mv m, .string s] [Old W] F (fun r L' => r = .bool true ∧ L' = [Old W]) := by
  refine FnF.mk' Try.func11 rfl rfl Try.ntmps11 rfl ?_
  by_cases h : 100 < s.size
  · repeat (first | rintro _ _ ⟨rfl, rfl⟩ | rintro _ _ ⟨_, rfl, rfl⟩ | rintro _ _ ⟨_, _, rfl, rfl⟩ | intro _ | refine go ?_ | (refine is_draw ?_; refine WC_draw mixed (by kernel_rfl) ?_) | refine cal @law05_awake ?_)
    (apply WE_ret rfl rfl (by (repeat (first | exact ResOk.nil | (apply ResOk.tmp; rfl) | (apply resOk_cell; rfl; exact inferInstance; rfl; rfl)))); (first | exact ⟨rfl, rfl⟩ | exact ⟨congrArg Value.bool (by decide), rfl⟩ | exact ⟨_, rfl, rfl⟩ | exact ⟨_, _, rfl, rfl⟩ | exact ⟨by first | (simp []; done) | (simp [] <;> omega), rfl⟩); (repeat (first | exact Ent.refl | exact Ent.nil | apply Ent.pick | apply Ent.drop)))
  · have hP := fun F => msg_Put (F := F) (c := c) (m := m) hc
    have hM := fun F => msg_May (F := F) (c := c) (m := m) hc
    have hT := fun F => msg_Take (F := F) (c := c) (s := s) hc (by omega)
    have hz : ∀ m : Msg, (mc m = mc m) = True := fun m => eq_self _
    by_cases hm : MayP c m
    · obtain ⟨k1, k2⟩ := take_put hm
      have hB := fun F => msg_Take (F := F) (c := c) (s := putS c m) hc (by have := (par_put hm).2.1; omega)
      have e0 : putE' c m = 0 := if_pos hm
      simp only [e0, hm, decide_true, k1, k2] at hP hM hB
      by_cases ho : OkT c s
      · obtain ⟨q1, q2⟩ := put_take ho
        have hQ := fun F => msg_Put (F := F) (c := c) (m := takeM c s) hc
        have hN := fun F => msg_May (F := F) (c := c) (m := takeM c s) hc
        have e1 : putE' c (takeM c s) = 0 := if_pos q2
        have e2 : takeE' c s = 0 := if_pos ho
        simp only [e1, q1, q2, decide_true] at hQ hN
        simp only [e2] at hT
        repeat (first | rintro _ _ ⟨rfl, rfl⟩ | rintro _ _ ⟨_, rfl, rfl⟩ | rintro _ _ ⟨_, _, rfl, rfl⟩ | intro _ | refine go ?_ | (refine is_draw ?_; refine WC_draw mixed (by kernel_rfl) ?_) | refine cal @law05_awake ?_ | refine cal @hP ?_ | refine cal @hM ?_ | refine cal @hT ?_ | refine cal @hB ?_ | refine cal @hQ ?_ | refine cal @hN ?_ | refine str ?_)
        (apply WE_ret rfl rfl (by (repeat (first | exact ResOk.nil | (apply ResOk.tmp; rfl) | (apply resOk_cell; rfl; exact inferInstance; rfl; rfl)))); (first | exact ⟨rfl, rfl⟩ | exact ⟨congrArg Value.bool (by decide), rfl⟩ | exact ⟨_, rfl, rfl⟩ | exact ⟨_, _, rfl, rfl⟩ | exact ⟨by first | (simp []; done) | (simp [] <;> omega), rfl⟩); (repeat (first | exact Ent.refl | exact Ent.nil | apply Ent.pick | apply Ent.drop)))
      · have e2 : takeE' c s = 2 := if_neg ho
        have e3 : takeM c s = .zero := if_neg ho
        simp only [e2, e3] at hT
        repeat (first | rintro _ _ ⟨rfl, rfl⟩ | rintro _ _ ⟨_, rfl, rfl⟩ | rintro _ _ ⟨_, _, rfl, rfl⟩ | intro _ | refine go ?_ | (refine is_draw ?_; refine WC_draw mixed (by kernel_rfl) ?_) | refine cal @law05_awake ?_ | refine cal @hP ?_ | refine cal @hM ?_ | refine cal @hT ?_ | refine cal @hB ?_ | refine str ?_)
        (apply WE_ret rfl rfl (by (repeat (first | exact ResOk.nil | (apply ResOk.tmp; rfl) | (apply resOk_cell; rfl; exact inferInstance; rfl; rfl)))); (first | exact ⟨rfl, rfl⟩ | exact ⟨congrArg Value.bool (by decide), rfl⟩ | exact ⟨_, rfl, rfl⟩ | exact ⟨_, _, rfl, rfl⟩ | exact ⟨by first | (simp []; done) | (simp [] <;> omega), rfl⟩); (repeat (first | exact Ent.refl | exact Ent.nil | apply Ent.pick | apply Ent.drop)))
    · have e0 : putE' c m = 1 := if_neg hm
      have e4 : putS c m = ⟨#[]⟩ := if_neg hm
      simp only [e0, e4, hm, decide_false] at hP hM
      by_cases ho : OkT c s
      · obtain ⟨q1, q2⟩ := put_take ho
        have hQ := fun F => msg_Put (F := F) (c := c) (m := takeM c s) hc
        have hN := fun F => msg_May (F := F) (c := c) (m := takeM c s) hc
        have e1 : putE' c (takeM c s) = 0 := if_pos q2
        have e2 : takeE' c s = 0 := if_pos ho
        simp only [e1, q1, q2, decide_true] at hQ hN
        simp only [e2] at hT
        repeat (first | rintro _ _ ⟨rfl, rfl⟩ | rintro _ _ ⟨_, rfl, rfl⟩ | rintro _ _ ⟨_, _, rfl, rfl⟩ | intro _ | refine go ?_ | (refine is_draw ?_; refine WC_draw mixed (by kernel_rfl) ?_) | refine cal @law05_awake ?_ | refine cal @hP ?_ | refine cal @hM ?_ | refine cal @hT ?_ | refine cal @hQ ?_ | refine cal @hN ?_ | refine str ?_)
        (apply WE_ret rfl rfl (by (repeat (first | exact ResOk.nil | (apply ResOk.tmp; rfl) | (apply resOk_cell; rfl; exact inferInstance; rfl; rfl)))); (first | exact ⟨rfl, rfl⟩ | exact ⟨congrArg Value.bool (by decide), rfl⟩ | exact ⟨_, rfl, rfl⟩ | exact ⟨_, _, rfl, rfl⟩ | exact ⟨by first | (simp []; done) | (simp [] <;> omega), rfl⟩); (repeat (first | exact Ent.refl | exact Ent.nil | apply Ent.pick | apply Ent.drop)))
      · have e2 : takeE' c s = 2 := if_neg ho
        have e3 : takeM c s = .zero := if_neg ho
        simp only [e2, e3] at hT
        repeat (first | rintro _ _ ⟨rfl, rfl⟩ | rintro _ _ ⟨_, rfl, rfl⟩ | rintro _ _ ⟨_, _, rfl, rfl⟩ | intro _ | refine go ?_ | (refine is_draw ?_; refine WC_draw mixed (by kernel_rfl) ?_) | refine cal @law05_awake ?_ | refine cal @hP ?_ | refine cal @hM ?_ | refine cal @hT ?_ | refine str ?_)
        (apply WE_ret rfl rfl (by (repeat (first | exact ResOk.nil | (apply ResOk.tmp; rfl) | (apply resOk_cell; rfl; exact inferInstance; rfl; rfl)))); (first | exact ⟨rfl, rfl⟩ | exact ⟨congrArg Value.bool (by decide), rfl⟩ | exact ⟨_, rfl, rfl⟩ | exact ⟨_, _, rfl, rfl⟩ | exact ⟨by first | (simp []; done) | (simp [] <;> omega), rfl⟩); (repeat (first | exact Ent.refl | exact Ent.nil | apply Ent.pick | apply Ent.drop)))
theorem may_nets {c : Cfg} {m : Msg} (h : MayP c m) : (HomeP m.kind → m.dst = homeN c m ∧ 0 ≤ m.src ∧ m.src < c.cores) ∧ (¬ HomeP m.kind → (0 ≤ m.dst ∧ m.dst < c.cores) ∧ (netK m.kind = 1 → m.src = homeN c m)) ∧ (HomeP m.kind ↔ (netK m.kind = 0 ∨ m.kind = 11)) ∧ 0 ≤ netK m.kind := by
  obtain ⟨h1, h2, h3, h4, h5⟩ := h
  have he : homeN c { m with who := 0 } = homeN c m := rfl
  have hk : (netK m.kind = 0 ↔ (1 ≤ m.kind ∧ m.kind ≤ 3)) ∧ 0 ≤ netK m.kind ∧ (netK m.kind = 1 ↔ (4 ≤ m.kind ∧ m.kind ≤ 6)) := by unfold netK; split <;> (try split) <;> (try split) <;> omega
  refine ⟨fun hh => ?_, fun hh => ?_, ?_, hk.2.1⟩
  · unfold FormP at h4
    rw [if_pos hh] at h4
    exact ⟨h4.2.1, h4.1.1, h4.1.2⟩
  · unfold FormP at h4
    rw [if_neg hh] at h4
    split at h4
    · simp only [ForwardP, DownP, he] at h4; exact ⟨h4.2.2.2.1, fun _ => h4.2.2.1⟩
    · split at h4
      · simp only [ForwardP, DownP, he] at h4; exact ⟨h4.2.2.2.1, fun _ => h4.2.2.1⟩
      · split at h4
        · exact ⟨h4.2.2.1, fun hn => by have := hk.2.2.1 hn; omega⟩
        · split at h4
          · exact ⟨h4.2.1, fun hn => by have := hk.2.2.1 hn; omega⟩
          · split at h4
            · exact ⟨h4.2.1, fun hn => by have := hk.2.2.1 hn; omega⟩
            · exact ⟨h4.2.1, fun hn => by have := hk.2.2.1 hn; omega⟩
  · unfold HomeP
    rw [hk.1]
theorem law05_Nets {W : World} {F : List HP} {c : Cfg} {m : Msg} (hc : c.wf) :
    FnF Try.prog 12 [c.val, mv m] [Old W] F (fun r L' => r = .bool true ∧ L' = [Old W]) := by
  have hM := fun F => msg_May (F := F) (c := c) (m := m) hc
  have hN := fun F => msg_Net (F := F) (k := m.kind)
  have hH := fun F => msg_Home (F := F) (k := m.kind)
  have hb : -1 ≤ netK m.kind ∧ netK m.kind ≤ 2 := by unfold netK; split <;> (try split) <;> (try split) <;> omega
  by_cases hm : MayP c m
  · obtain ⟨n1, n2, n3, n4⟩ := may_nets hm
    obtain ⟨b1, b2, b3, b4⟩ := cfg_bnd hm.1
    have h0 : c.homes ≠ 0 := by omega
    have heq : homeN c m = m.line.tmod c.homes := rfl
    rw [heq] at n1 n2
    simp only [hm, decide_true] at hM
    by_cases hh : HomeP m.kind
    · obtain ⟨a1, a2, a3⟩ := n1 hh
      have n5 := n3.1 hh
      simp only [hh, decide_true] at hH
      refine FnF.mk' Try.func12 rfl rfl Try.ntmps12 rfl ?_
      repeat' (first | rintro _ _ ⟨rfl, rfl⟩ | rintro _ _ ⟨_, rfl, rfl⟩ | rintro _ _ ⟨_, _, rfl, rfl⟩ | intro _ | refine go ?_ | (refine is_draw ?_; refine WC_draw mixed (by kernel_rfl) ?_) | refine cal @law05_awake ?_ | refine cal @hM ?_ | refine cal @hN ?_ | refine cal @hH ?_ | refine spl ?_ ?_ | fail)
      all_goals first | (exfalso; omega) | (apply WE_ret rfl rfl (by (repeat (first | exact ResOk.nil | (apply ResOk.tmp; rfl) | (apply resOk_cell; rfl; exact inferInstance; rfl; rfl)))); (first | exact ⟨rfl, rfl⟩ | exact ⟨congrArg Value.bool (by decide), rfl⟩ | exact ⟨_, rfl, rfl⟩ | exact ⟨_, _, rfl, rfl⟩ | exact ⟨by first | (simp []; done) | (simp [] <;> omega), rfl⟩); (repeat (first | exact Ent.refl | exact Ent.nil | apply Ent.pick | apply Ent.drop)))
    · obtain ⟨⟨a1, a2⟩, a3⟩ := n2 hh
      have n5 : ¬ (netK m.kind = 0 ∨ m.kind = 11) := fun h => hh (n3.2 h)
      simp only [hh, decide_false] at hH
      by_cases hn1 : netK m.kind = 1
      · have a4 := a3 hn1
        refine FnF.mk' Try.func12 rfl rfl Try.ntmps12 rfl ?_
        repeat' (first | rintro _ _ ⟨rfl, rfl⟩ | rintro _ _ ⟨_, rfl, rfl⟩ | rintro _ _ ⟨_, _, rfl, rfl⟩ | intro _ | refine go ?_ | (refine is_draw ?_; refine WC_draw mixed (by kernel_rfl) ?_) | refine cal @law05_awake ?_ | refine cal @hM ?_ | refine cal @hN ?_ | refine cal @hH ?_ | refine spl ?_ ?_ | fail)
        all_goals first | (exfalso; omega) | (apply WE_ret rfl rfl (by (repeat (first | exact ResOk.nil | (apply ResOk.tmp; rfl) | (apply resOk_cell; rfl; exact inferInstance; rfl; rfl)))); (first | exact ⟨rfl, rfl⟩ | exact ⟨congrArg Value.bool (by decide), rfl⟩ | exact ⟨_, rfl, rfl⟩ | exact ⟨_, _, rfl, rfl⟩ | exact ⟨by first | (simp []; done) | (simp [] <;> omega), rfl⟩); (repeat (first | exact Ent.refl | exact Ent.nil | apply Ent.pick | apply Ent.drop)))
      · refine FnF.mk' Try.func12 rfl rfl Try.ntmps12 rfl ?_
        repeat' (first | rintro _ _ ⟨rfl, rfl⟩ | rintro _ _ ⟨_, rfl, rfl⟩ | rintro _ _ ⟨_, _, rfl, rfl⟩ | intro _ | refine go ?_ | (refine is_draw ?_; refine WC_draw mixed (by kernel_rfl) ?_) | refine cal @law05_awake ?_ | refine cal @hM ?_ | refine cal @hN ?_ | refine cal @hH ?_ | refine spl ?_ ?_ | fail)
        all_goals first | (exfalso; omega) | (apply WE_ret rfl rfl (by (repeat (first | exact ResOk.nil | (apply ResOk.tmp; rfl) | (apply resOk_cell; rfl; exact inferInstance; rfl; rfl)))); (first | exact ⟨rfl, rfl⟩ | exact ⟨congrArg Value.bool (by decide), rfl⟩ | exact ⟨_, rfl, rfl⟩ | exact ⟨_, _, rfl, rfl⟩ | exact ⟨by first | (simp []; done) | (simp [] <;> omega), rfl⟩); (repeat (first | exact Ent.refl | exact Ent.nil | apply Ent.pick | apply Ent.drop)))
  · simp only [hm, decide_false] at hM
    refine FnF.mk' Try.func12 rfl rfl Try.ntmps12 rfl ?_
    repeat (first | rintro _ _ ⟨rfl, rfl⟩ | rintro _ _ ⟨_, rfl, rfl⟩ | rintro _ _ ⟨_, _, rfl, rfl⟩ | intro _ | refine go ?_ | (refine is_draw ?_; refine WC_draw mixed (by kernel_rfl) ?_) | refine cal @law05_awake ?_ | refine cal @hM ?_ | refine cal @hN ?_)
    (apply WE_ret rfl rfl (by (repeat (first | exact ResOk.nil | (apply ResOk.tmp; rfl) | (apply resOk_cell; rfl; exact inferInstance; rfl; rfl)))); (first | exact ⟨rfl, rfl⟩ | exact ⟨congrArg Value.bool (by decide), rfl⟩ | exact ⟨_, rfl, rfl⟩ | exact ⟨_, _, rfl, rfl⟩ | exact ⟨by first | (simp []; done) | (simp [] <;> omega), rfl⟩); (repeat (first | exact Ent.refl | exact Ent.nil | apply Ent.pick | apply Ent.drop)))
end Go.Sx
