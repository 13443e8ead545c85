/- The law of what comes of any request. My own work. -/
import Derived.Test.YtcjagmphobdbbaaTabR1
import Derived.Test.YtcjagmphobdbbaaTabR2
import Derived.Test.YtcjagmphobdbbaaTabR3
namespace Go.Sx
open Go Go.Proofs
set_option linter.unusedVariables false
set_option linter.unusedSectionVars false
set_option linter.unusedSimpArgs false
theorem next_readH {e : TEnt} {m : Msg} (hok : okT e m = true) (hkd : m.kind = 1) (ho : ¬ e.o = m.src) (hh : shHas e.s m.src = true) : nextT e m = e := by
  obtain ⟨hm, h2, h3, h4, h5⟩ := okT_facts hok
  have h0 := next_ok1 hok hkd ho
  have hA : shAddS e.s m.src = e.s := by
    have e1 : shAddE e.s m.src = 0 := by simp only [shAddE, hm, if_true]; rw [if_neg (by omega)]
    unfold shAddS; rw [if_pos e1, hh, if_pos rfl]
  have g2 : ¬ (tgtT e []).length = 0 := fun h => by
    have hx : m.src ∈ tgtT e [] := (tgt_mem hm).2 ⟨hh, by simp⟩
    rw [List.eq_nil_of_length_eq_zero h] at hx; cases hx
  unfold nextT readT
  rw [if_pos h0, if_pos hkd, if_neg ho, if_neg g2, hA]
  split <;> rfl
set_option maxRecDepth 100000
set_option maxHeartbeats 4000000
attribute [local irreducible] Go.Exit.then Go.Exit.inBlock Go.Code.wp WC WO WE WQ V LoopQ FnQ Sat Star band bor IntKind.wrap WR Code.rounds WT KO
theorem law13_Tells {W : World} {F : List HP} {e : TEnt} {a : Option Addr} {k : Nat} {m : Msg} {w : Words} {cores most : Int} (hk : ROld W 1 (.slice a e.s.ps.length k) e.s.ps.length (flat ic e.s.ps)) (hl : e.s.ps.length ≤ 9223372036854775807) :
    FnF Try.prog 5 [.agg (tec e a k).toArray, mv m, wv w, .int .i64 cores, .int .i64 most] [Old W] F (fun r L' => r = .bool true ∧ L' = [Old W]) := by
  haveI := hk
  refine FnF.mk' Try.func5 rfl rfl Try.ntmps5 rfl ?_
  by_cases h1 : 100 < e.s.ps.length
  · repeat (first | rintro _ _ ⟨rfl, rfl⟩ | rintro _ _ ⟨_, rfl, rfl⟩ | rintro _ _ ⟨_, _, rfl, rfl⟩ | rintro _ _ ⟨_, _, _, _, rfl, rfl⟩ | intro _ | refine go ?_ | (refine is_draw ?_; apply WC_mix (id := 8) false _ (pl := .r 0 <| .r 2 <| .r 3 <| .e true [(1, .e true [(4, .p 5 <| .p 6 <| .p 7 <| .e true [(8, .e true [(9, .p 10 <| .done)])]), (8, .e true [(4, .p 5 <| .p 6 <| .p 7 <| .e true [(9, .p 10 <| .done)])])]), (8, .e true [(1, .e true [(4, .p 5 <| .p 6 <| .p 7 <| .e true [(9, .p 10 <| .done)])])])]); exact mixed; kernel_rfl; kernel_rfl; exact Ent.refl) | (refine is_draw ?_; refine WC_draw mixed (by kernel_rfl) ?_) | refine cal @law13_awake ?_)
    (apply WE_ret rfl rfl (by (repeat (first | exact ResOk.nil | (apply ResOk.tmp; rfl) | (apply resOk_cell; rfl; exact inferInstance; rfl; rfl)))); (first | exact ⟨rfl, rfl⟩ | exact ⟨congrArg Value.bool (by decide), rfl⟩ | exact ⟨_, rfl, rfl⟩ | exact ⟨_, _, rfl, rfl⟩ | exact ⟨by first | (simp []; done) | (simp [] <;> omega), rfl⟩); (repeat (first | exact Ent.refl | exact Ent.nil | apply Ent.pick | apply Ent.drop)))
  · have hN := fun F => tab_New (F := F) (cores := cores) (most := most)
    have hNR := fun F => ref13_New (F := F) (cores := cores) (most := most)
    have hS0 : ∀ F, FnF Try.prog 38 [.agg (tec (if shMay ⟨cores, most, [], false⟩ then ⟨-1, ⟨cores, most, [], false⟩⟩ else .no) none 0).toArray, .agg (tec (if shMay ⟨cores, most, [], false⟩ then ⟨-1, ⟨cores, most, [], false⟩⟩ else .no) none 0).toArray] [] F (fun r L' => r = .bool true ∧ L' = []) := fun F => by
      cases shMay ⟨cores, most, [], false⟩ with
      | true => simpa using law13_same (F := F) (e := ⟨-1, ⟨cores, most, [], false⟩⟩) (t := ⟨-1, ⟨cores, most, [], false⟩⟩) (a := none) (b := none) (k := 0) (m := 0) rd_empty rd_empty (by simp)
      | false => simpa using law13_same (F := F) (e := .no) (t := .no) (a := none) (b := none) (k := 0) (m := 0) rd_empty rd_empty (by simp)
    generalize (if shMay ⟨cores, most, [], false⟩ then (⟨-1, ⟨cores, most, [], false⟩⟩ : TEnt) else .no) = eN at *
    generalize (if shMay ⟨cores, most, [], false⟩ then (0 : Int) else 1) = xN at *
    have hT := fun F (hk : RdL F 1 (.slice a e.s.ps.length k) e.s.ps.length (flat ic e.s.ps)) => tab_Next (F := F) (e := e) (a := a) (k := k) (m := m) (w := w) hk (by omega)
    have hM := fun F (hk : RdL F 1 (.slice a e.s.ps.length k) e.s.ps.length (flat ic e.s.ps)) => tab_May (F := F) (e := e) (a := a) (k := k) hk (by omega)
    have hMR := fun F (hk : RdL F 1 (.slice a e.s.ps.length k) e.s.ps.length (flat ic e.s.ps)) => ref13_May (F := F) (e := e) (a := a) (k := k) hk (by omega)
    have hO := fun F => law13_own (F := F) (e := e) (a := a) (k := k)
    by_cases hno : okT e m = false ∨ (m.kind < 1 ∨ m.kind > 3)
    · have h0 : nextE e m = 1 := by
        unfold nextE
        rcases hno with h | h
        · rw [h]; rfl
        · split
          · rw [if_neg (by omega), if_neg (by omega), if_neg (by omega)]
          · rfl
      have hR := fun F (hk : RdL F 1 (.slice a e.s.ps.length k) e.s.ps.length (flat ic e.s.ps)) => ref13_Next_no (F := F) (e := e) (a := a) (k := k) (m := m) (w := w) hk (by omega) hno
      have e1 : nextT e m = .no := by simp [nextT, h0]
      have e2 : nextS e m w = [] := by simp [nextS, h0]
      have e3 : nextW e m = false := by simp [nextW, h0]
      have hSm := fun F p q (h1 : RdL F 1 (.slice p 0 q) 0 []) => law13_same (F := F) (e := .no) (t := .no) (a := p) (b := none) (k := q) (m := 0) h1 rd_empty (by simp)
      have hS7 := fun F p q (h1 : RdL F 15 (.slice p 0 q) 0 []) => ref07_Same (F := F) (v := .slice p 0 q) (u := .slice none 0 0) (l := []) (m := []) h1 rd_empty (by simp)
      simp only [decide_true] at hSm hS7
      simp only [e1, e2, e3, h0] at hT
      repeat' (first | rintro _ _ ⟨rfl, rfl⟩ | rintro _ _ ⟨_, rfl, rfl⟩ | rintro _ _ ⟨_, _, rfl, rfl⟩ | rintro _ _ ⟨_, _, _, _, rfl, rfl⟩ | intro _ | refine go ?_ | (refine is_draw ?_; apply WC_mix (id := 8) false _ (pl := .r 0 <| .r 2 <| .r 3 <| .e true [(1, .e true [(4, .p 5 <| .p 6 <| .p 7 <| .e true [(8, .e true [(9, .p 10 <| .done)])]), (8, .e true [(4, .p 5 <| .p 6 <| .p 7 <| .e true [(9, .p 10 <| .done)])])]), (8, .e true [(1, .e true [(4, .p 5 <| .p 6 <| .p 7 <| .e true [(9, .p 10 <| .done)])])])]); exact mixed; kernel_rfl; kernel_rfl; exact Ent.refl) | (refine is_draw ?_; refine WC_draw mixed (by kernel_rfl) ?_) | refine cal @law13_awake ?_ | refine cal @hN ?_ | refine cal @hNR ?_ | refine cal @hT ?_ | refine cal @hO ?_ | refine cal @hR ?_ | refine cal @hS0 ?_ | refine cal @hM ?_ | refine cal @hMR ?_ | refine cal @hSm ?_ | refine cal @hS7 ?_ | refine spl ?_ ?_ | fail)
      all_goals ((apply WE_ret rfl rfl (by (repeat (first | exact ResOk.nil | (apply ResOk.tmp; rfl) | (apply resOk_cell; rfl; exact inferInstance; rfl; rfl)))); (first | exact ⟨rfl, rfl⟩ | exact ⟨congrArg Value.bool (by decide), rfl⟩ | exact ⟨_, rfl, rfl⟩ | exact ⟨_, _, rfl, rfl⟩ | exact ⟨by first | (simp []; done) | (simp [] <;> omega), rfl⟩); (repeat (first | exact Ent.refl | exact Ent.nil | apply Ent.pick | apply Ent.drop))))
    · have hok : okT e m = true := by
        cases h : okT e m with
        | true => rfl
        | false => exact absurd (.inl h) hno
      have hks : m.kind = 1 ∨ m.kind = 2 ∨ m.kind = 3 := by omega
      by_cases ho : m.kind = 1 ∧ e.o = m.src
      · have h0 : nextE e m = 7 := by unfold nextE; rw [if_pos hok, if_pos ho.1, if_pos ho.2]
        have hR := fun F (hk : RdL F 1 (.slice a e.s.ps.length k) e.s.ps.length (flat ic e.s.ps)) => ref13_Next_own (F := F) (e := e) (a := a) (k := k) (m := m) (w := w) hk hok ho.1 ho.2
        have e1 : nextT e m = .no := by simp [nextT, h0]
        have e2 : nextS e m w = [] := by simp [nextS, h0]
        have e3 : nextW e m = false := by simp [nextW, h0]
        have hSm := fun F p q (h1 : RdL F 1 (.slice p 0 q) 0 []) => law13_same (F := F) (e := .no) (t := .no) (a := p) (b := none) (k := q) (m := 0) h1 rd_empty (by simp)
        have hS7 := fun F p q (h1 : RdL F 15 (.slice p 0 q) 0 []) => ref07_Same (F := F) (v := .slice p 0 q) (u := .slice none 0 0) (l := []) (m := []) h1 rd_empty (by simp)
        simp only [decide_true] at hSm hS7
        simp only [e1, e2, e3, h0] at hT
        repeat' (first | rintro _ _ ⟨rfl, rfl⟩ | rintro _ _ ⟨_, rfl, rfl⟩ | rintro _ _ ⟨_, _, rfl, rfl⟩ | rintro _ _ ⟨_, _, _, _, rfl, rfl⟩ | intro _ | refine go ?_ | (refine is_draw ?_; apply WC_mix (id := 8) false _ (pl := .r 0 <| .r 2 <| .r 3 <| .e true [(1, .e true [(4, .p 5 <| .p 6 <| .p 7 <| .e true [(8, .e true [(9, .p 10 <| .done)])]), (8, .e true [(4, .p 5 <| .p 6 <| .p 7 <| .e true [(9, .p 10 <| .done)])])]), (8, .e true [(1, .e true [(4, .p 5 <| .p 6 <| .p 7 <| .e true [(9, .p 10 <| .done)])])])]); exact mixed; kernel_rfl; kernel_rfl; exact Ent.refl) | (refine is_draw ?_; refine WC_draw mixed (by kernel_rfl) ?_) | refine cal @law13_awake ?_ | refine cal @hN ?_ | refine cal @hNR ?_ | refine cal @hT ?_ | refine cal @hO ?_ | refine cal @hR ?_ | refine cal @hS0 ?_ | refine cal @hM ?_ | refine cal @hMR ?_ | refine cal @hSm ?_ | refine cal @hS7 ?_ | refine spl ?_ ?_ | fail)
        all_goals ((apply WE_ret rfl rfl (by (repeat (first | exact ResOk.nil | (apply ResOk.tmp; rfl) | (apply resOk_cell; rfl; exact inferInstance; rfl; rfl)))); (first | exact ⟨rfl, rfl⟩ | exact ⟨congrArg Value.bool (by decide), rfl⟩ | exact ⟨_, rfl, rfl⟩ | exact ⟨_, _, rfl, rfl⟩ | exact ⟨by first | (simp []; done) | (simp [] <;> omega), rfl⟩); (repeat (first | exact Ent.refl | exact Ent.nil | apply Ent.pick | apply Ent.drop))))
      · have h0 : nextE e m = 0 := by
          rcases hks with h | h | h
          · exact next_ok1 hok h (fun h' => ho ⟨h, h'⟩)
          · exact okT_kinds hok (.inl h)
          · exact okT_kinds hok (.inr h)
        have hmay := next_may h0
        have hTm : shMay (nextT e m).s = true := by simp only [mayT, Bool.and_eq_true] at hmay; exact hmay.1.1
        have hTl : (nextT e m).s.ps.length ≤ 1000 := by have := (may_facts' hTm).2.2; omega
        obtain ⟨_, hSl, _⟩ := sent_facts (w := w) h0
        have hS7 := fun F p q p' q' (h1 : RdL F 15 (.slice p (nextS e m w).length q) (nextS e m w).length (flat mc (nextS e m w))) (h2 : RdL F 15 (.slice p' (nextS e m w).length q') (nextS e m w).length (flat mc (nextS e m w))) => ref07_Same (F := F) (v := .slice p (nextS e m w).length q) (u := .slice p' (nextS e m w).length q') (l := nextS e m w) (m := nextS e m w) h1 h2 (by omega)
        simp only [decide_true] at hS7
        simp only [h0] at hT
        by_cases hk1 : m.kind = 1
        · have ho1 : ¬ e.o = m.src := fun h => ho ⟨hk1, h⟩
          have e3 : nextW e m = false := by simp [nextW, hk1]
          simp only [e3] at hT
          cases hh : shHas e.s m.src with
          | true =>
            have hR := fun F (hk : RdL F 1 (.slice a e.s.ps.length k) e.s.ps.length (flat ic e.s.ps)) => ref13_Next_readH (F := F) (e := e) (a := a) (k := k) (m := m) (w := w) hk hok hk1 ho1 hh
            have e1 : nextT e m = e := next_readH hok hk1 ho1 hh
            rw [e1] at hT hTl
            have hSm := fun F p q (h1 : RdL F 1 (.slice p e.s.ps.length q) e.s.ps.length (flat ic e.s.ps)) (h2 : RdL F 1 (.slice a e.s.ps.length k) e.s.ps.length (flat ic e.s.ps)) => law13_same (F := F) (e := e) (t := e) (a := p) (b := a) (k := q) (m := k) h1 h2 hTl
            simp only [decide_true] at hSm
            generalize nextS e m w = S at *
            repeat' (first | rintro _ _ ⟨rfl, rfl⟩ | rintro _ _ ⟨_, rfl, rfl⟩ | rintro _ _ ⟨_, _, rfl, rfl⟩ | rintro _ _ ⟨_, _, _, _, rfl, rfl⟩ | intro _ | refine go ?_ | (refine is_draw ?_; apply WC_mix (id := 8) false _ (pl := .r 0 <| .r 2 <| .r 3 <| .e true [(1, .e true [(4, .p 5 <| .p 6 <| .p 7 <| .e true [(8, .e true [(9, .p 10 <| .done)])]), (8, .e true [(4, .p 5 <| .p 6 <| .p 7 <| .e true [(9, .p 10 <| .done)])])]), (8, .e true [(1, .e true [(4, .p 5 <| .p 6 <| .p 7 <| .e true [(9, .p 10 <| .done)])])])]); exact mixed; kernel_rfl; kernel_rfl; exact Ent.refl) | (refine is_draw ?_; refine WC_draw mixed (by kernel_rfl) ?_) | refine cal @law13_awake ?_ | refine cal @hN ?_ | refine cal @hNR ?_ | refine cal @hT ?_ | refine cal @hO ?_ | refine cal @hR ?_ | refine cal @hS0 ?_ | refine cal @hM ?_ | refine cal @hMR ?_ | refine cal @hSm ?_ | refine cal @hS7 ?_ | refine spl ?_ ?_ | fail)
            all_goals ((apply WE_ret rfl rfl (by (repeat (first | exact ResOk.nil | (apply ResOk.tmp; rfl) | (apply resOk_cell; rfl; exact inferInstance; rfl; rfl)))); (first | exact ⟨rfl, rfl⟩ | exact ⟨congrArg Value.bool (by decide), rfl⟩ | exact ⟨_, rfl, rfl⟩ | exact ⟨_, _, rfl, rfl⟩ | exact ⟨by first | (simp []; done) | (simp [] <;> omega), rfl⟩); (repeat (first | exact Ent.refl | exact Ent.nil | apply Ent.pick | apply Ent.drop))))
          | false =>
            have hR := fun F (hk : RdL F 1 (.slice a e.s.ps.length k) e.s.ps.length (flat ic e.s.ps)) => ref13_Next_read (F := F) (e := e) (a := a) (k := k) (m := m) (w := w) hk hok hk1 ho1 hh
            have hSm := fun F p q p' q' (h1 : RdL F 1 (.slice p (nextT e m).s.ps.length q) (nextT e m).s.ps.length (flat ic (nextT e m).s.ps)) (h2 : RdL F 1 (.slice p' (nextT e m).s.ps.length q') (nextT e m).s.ps.length (flat ic (nextT e m).s.ps)) => law13_same (F := F) (e := nextT e m) (t := nextT e m) (a := p) (b := p') (k := q) (m := q') h1 h2 hTl
            simp only [decide_true] at hSm
            generalize nextS e m w = S at *
            generalize nextT e m = T at *
            repeat' (first | rintro _ _ ⟨rfl, rfl⟩ | rintro _ _ ⟨_, rfl, rfl⟩ | rintro _ _ ⟨_, _, rfl, rfl⟩ | rintro _ _ ⟨_, _, _, _, rfl, rfl⟩ | intro _ | refine go ?_ | (refine is_draw ?_; apply WC_mix (id := 8) false _ (pl := .r 0 <| .r 2 <| .r 3 <| .e true [(1, .e true [(4, .p 5 <| .p 6 <| .p 7 <| .e true [(8, .e true [(9, .p 10 <| .done)])]), (8, .e true [(4, .p 5 <| .p 6 <| .p 7 <| .e true [(9, .p 10 <| .done)])])]), (8, .e true [(1, .e true [(4, .p 5 <| .p 6 <| .p 7 <| .e true [(9, .p 10 <| .done)])])])]); exact mixed; kernel_rfl; kernel_rfl; exact Ent.refl) | (refine is_draw ?_; refine WC_draw mixed (by kernel_rfl) ?_) | refine cal @law13_awake ?_ | refine cal @hN ?_ | refine cal @hNR ?_ | refine cal @hT ?_ | refine cal @hO ?_ | refine cal @hR ?_ | refine cal @hS0 ?_ | refine cal @hM ?_ | refine cal @hMR ?_ | refine cal @hSm ?_ | refine cal @hS7 ?_ | refine spl ?_ ?_ | fail)
            all_goals ((apply WE_ret rfl rfl (by (repeat (first | exact ResOk.nil | (apply ResOk.tmp; rfl) | (apply resOk_cell; rfl; exact inferInstance; rfl; rfl)))); (first | exact ⟨rfl, rfl⟩ | exact ⟨congrArg Value.bool (by decide), rfl⟩ | exact ⟨_, rfl, rfl⟩ | exact ⟨_, _, rfl, rfl⟩ | exact ⟨by first | (simp []; done) | (simp [] <;> omega), rfl⟩); (repeat (first | exact Ent.refl | exact Ent.nil | apply Ent.pick | apply Ent.drop))))
        · by_cases hk2 : m.kind = 2
          · have e3 : nextW e m = false := by simp [nextW, hk2]
            have e1 : nextT e m = ⟨m.src, clearS e.s⟩ := by unfold nextT; rw [if_pos h0, if_neg (by omega), if_pos hk2]
            have hR := fun F (hk : RdL F 1 (.slice a e.s.ps.length k) e.s.ps.length (flat ic e.s.ps)) => ref13_Next_write (F := F) (e := e) (a := a) (k := k) (m := m) (w := w) hk hok hk2
            have hnil : (nextT e m).s.ps = [] := by rw [e1]; rfl
            have hSm := fun F p q (h1 : RdL F 1 (.slice p (nextT e m).s.ps.length q) (nextT e m).s.ps.length (flat ic (nextT e m).s.ps)) => law13_same (F := F) (e := nextT e m) (t := nextT e m) (a := p) (b := none) (k := q) (m := 0) h1 (by rw [hnil]; exact rd_empty) hTl
            simp only [decide_true] at hSm
            simp only [e3] at hT
            generalize nextS e m w = S at *
            generalize nextT e m = T at *
            repeat' (first | rintro _ _ ⟨rfl, rfl⟩ | rintro _ _ ⟨_, rfl, rfl⟩ | rintro _ _ ⟨_, _, rfl, rfl⟩ | rintro _ _ ⟨_, _, _, _, rfl, rfl⟩ | intro _ | refine go ?_ | (refine is_draw ?_; apply WC_mix (id := 8) false _ (pl := .r 0 <| .r 2 <| .r 3 <| .e true [(1, .e true [(4, .p 5 <| .p 6 <| .p 7 <| .e true [(8, .e true [(9, .p 10 <| .done)])]), (8, .e true [(4, .p 5 <| .p 6 <| .p 7 <| .e true [(9, .p 10 <| .done)])])]), (8, .e true [(1, .e true [(4, .p 5 <| .p 6 <| .p 7 <| .e true [(9, .p 10 <| .done)])])])]); exact mixed; kernel_rfl; kernel_rfl; exact Ent.refl) | (refine is_draw ?_; refine WC_draw mixed (by kernel_rfl) ?_) | refine cal @law13_awake ?_ | refine cal @hN ?_ | refine cal @hNR ?_ | refine cal @hT ?_ | refine cal @hO ?_ | refine cal @hR ?_ | refine cal @hS0 ?_ | refine cal @hM ?_ | refine cal @hMR ?_ | refine cal @hSm ?_ | refine cal @hS7 ?_ | refine spl ?_ ?_ | fail)
            all_goals ((apply WE_ret rfl rfl (by (repeat (first | exact ResOk.nil | (apply ResOk.tmp; rfl) | (apply resOk_cell; rfl; exact inferInstance; rfl; rfl)))); (first | exact ⟨rfl, rfl⟩ | exact ⟨congrArg Value.bool (by decide), rfl⟩ | exact ⟨_, rfl, rfl⟩ | exact ⟨_, _, rfl, rfl⟩ | exact ⟨by first | (simp []; done) | (simp [] <;> omega), rfl⟩); (repeat (first | exact Ent.refl | exact Ent.nil | apply Ent.pick | apply Ent.drop))))
          · have hk3 : m.kind = 3 := by omega
            obtain ⟨o', e1⟩ : ∃ o', nextT e m = ⟨o', e.s⟩ := by
              unfold nextT putT
              rw [if_pos h0, if_neg hk1, if_neg hk2]
              split
              · exact ⟨_, rfl⟩
              · exact ⟨e.o, rfl⟩
            have hR := fun F (hk : RdL F 1 (.slice a e.s.ps.length k) e.s.ps.length (flat ic e.s.ps)) => ref13_Next_put (F := F) (e := e) (a := a) (k := k) (m := m) (w := w) hk hok hk3
            rw [e1] at hT hR hTl
            have hSm := fun F p q (h1 : RdL F 1 (.slice p e.s.ps.length q) e.s.ps.length (flat ic e.s.ps)) (h2 : RdL F 1 (.slice a e.s.ps.length k) e.s.ps.length (flat ic e.s.ps)) => law13_same (F := F) (e := ⟨o', e.s⟩) (t := ⟨o', e.s⟩) (a := p) (b := a) (k := q) (m := k) h1 h2 hTl
            simp only [decide_true] at hSm
            generalize nextS e m w = S at *
            generalize nextW e m = wr at *
            repeat' (first | rintro _ _ ⟨rfl, rfl⟩ | rintro _ _ ⟨_, rfl, rfl⟩ | rintro _ _ ⟨_, _, rfl, rfl⟩ | rintro _ _ ⟨_, _, _, _, rfl, rfl⟩ | intro _ | refine go ?_ | (refine is_draw ?_; apply WC_mix (id := 8) false _ (pl := .r 0 <| .r 2 <| .r 3 <| .e true [(1, .e true [(4, .p 5 <| .p 6 <| .p 7 <| .e true [(8, .e true [(9, .p 10 <| .done)])]), (8, .e true [(4, .p 5 <| .p 6 <| .p 7 <| .e true [(9, .p 10 <| .done)])])]), (8, .e true [(1, .e true [(4, .p 5 <| .p 6 <| .p 7 <| .e true [(9, .p 10 <| .done)])])])]); exact mixed; kernel_rfl; kernel_rfl; exact Ent.refl) | (refine is_draw ?_; refine WC_draw mixed (by kernel_rfl) ?_) | refine cal @law13_awake ?_ | refine cal @hN ?_ | refine cal @hNR ?_ | refine cal @hT ?_ | refine cal @hO ?_ | refine cal @hR ?_ | refine cal @hS0 ?_ | refine cal @hM ?_ | refine cal @hMR ?_ | refine cal @hSm ?_ | refine cal @hS7 ?_ | refine spl ?_ ?_ | fail)
            all_goals ((apply WE_ret rfl rfl (by (repeat (first | exact ResOk.nil | (apply ResOk.tmp; rfl) | (apply resOk_cell; rfl; exact inferInstance; rfl; rfl)))); (first | exact ⟨rfl, rfl⟩ | exact ⟨congrArg Value.bool (by decide), rfl⟩ | exact ⟨_, rfl, rfl⟩ | exact ⟨_, _, rfl, rfl⟩ | exact ⟨by first | (simp []; done) | (simp [] <;> omega), rfl⟩); (repeat (first | exact Ent.refl | exact Ent.nil | apply Ent.pick | apply Ent.drop))))
end Go.Sx
