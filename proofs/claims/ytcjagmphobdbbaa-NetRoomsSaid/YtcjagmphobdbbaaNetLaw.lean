/- The laws of nets. My own work. -/
import Derived.Test.YtcjagmphobdbbaaNetR
namespace Go.Sx
open Go Go.Proofs
set_option linter.unusedVariables false
set_option linter.unusedSectionVars false
set_option linter.unusedSimpArgs false
theorem Nets.ext_iff' {a b : Nets} : (a.l0 = b.l0 ∧ a.l1 = b.l1 ∧ a.l2 = b.l2) ↔ a = b := by cases a; cases b; simp
instance : DecidableEq Nets := fun a b => decidable_of_iff _ Nets.ext_iff'
def c07 : Cfg := ⟨2, 1, 1, 1, 1, 2, 0, 1, 1, 1, 1, 1, 1⟩
def m07a : Msg := ⟨1, 1, 1, 0, 0, 0, 0, .zero⟩
def m07b : Msg := ⟨2, 0, 0, 0, 0, 0, 0, .zero⟩
def m07d : Msg := ⟨6, 1, 0, 1, 0, 0, 0, .zero⟩
def m07g : Msg := ⟨12, 0, 0, 0, 0, 0, 0, .zero⟩
set_option maxRecDepth 100000
set_option maxHeartbeats 4000000
attribute [local irreducible] Go.Exit.then Go.Exit.inBlock Go.Code.wp WC WO WE WQ V LoopQ FnQ Sat Star band bor IntKind.wrap WR Code.rounds WT KO
theorem law07_awake {F : List HP} : FnF Try.prog 13 [] [] F (fun r L' => r = .bool true ∧ L' = []) := by
  have hc : c07.wf := by simp [Cfg.wf, I64, c07]
  have hz : Cfg.wf ⟨0, 0, 0, 0, 0, 0, 0, 0, 0, 0, 0, 0, 0⟩ := by simp [Cfg.wf, I64]
  have hN := fun F => net_New (F := F) hc (by decide)
  have hN0 := fun F => net_New_no (F := F) hz (by decide)
  have hA := fun F b => net_Send (F := F) (b := b) (n := .no) (m := m07a) hc
  have hB := fun F b => net_Send (F := F) (b := b) (n := ⟨[m07a], [], []⟩) (m := m07b) hc
  have hD := fun F b => net_Send (F := F) (b := b) (n := ⟨[m07a], [], []⟩) (m := m07d) hc
  have hG := fun F b => net_Send (F := F) (b := b) (n := ⟨[m07a], [m07d], []⟩) (m := m07g) hc
  have hT := fun F b => net_At (F := F) (b := b) (c := c07) (n := ⟨[m07a], [m07d], []⟩) (k := 0) (i := 0)
  have hO := fun F b => net_Of (F := F) (b := b) (c := c07) (n := ⟨[m07a], [m07d], []⟩) (line := 1)
  have hK := fun F b => net_Take (F := F) (b := b) (c := c07) (n := ⟨[m07a], [m07d], []⟩) (k := 0) (i := 0)
  have hK3 := fun F b => net_Take (F := F) (b := b) (c := c07) (n := ⟨[], [m07d], []⟩) (k := 3) (i := 0)
  have hL0 := fun F b => net_Left (F := F) (b := b) (c := c07) (n := ⟨[], [m07d], []⟩) (k := 0)
  have hL1 := fun F b => net_Left (F := F) (b := b) (c := c07) (n := ⟨[], [m07d], []⟩) (k := 1)
  have hI1 := fun F b => net_List (F := F) (b := b) (c := c07) (n := ⟨[], [m07d], []⟩) (k := 1)
  have hE := fun F b => net_Empty (F := F) (b := b) (c := c07) (n := ⟨[], [m07d], []⟩)
  simp only [show nsendE c07 .no m07a = 0 by decide, show nsendN c07 .no m07a = ⟨[m07a], [], []⟩ by decide] at hA
  simp only [show nsendE c07 ⟨[m07a], [], []⟩ m07b = 4 by decide, show nsendN c07 ⟨[m07a], [], []⟩ m07b = ⟨[m07a], [], []⟩ by decide] at hB
  simp only [show nsendE c07 ⟨[m07a], [], []⟩ m07d = 0 by decide, show nsendN c07 ⟨[m07a], [], []⟩ m07d = ⟨[m07a], [m07d], []⟩ by decide] at hD
  simp only [show nsendE c07 ⟨[m07a], [m07d], []⟩ m07g = 1 by decide, show nsendN c07 ⟨[m07a], [m07d], []⟩ m07g = ⟨[m07a], [m07d], []⟩ by decide] at hG
  simp only [show natM ⟨[m07a], [m07d], []⟩ 0 0 = m07a by decide, show natB ⟨[m07a], [m07d], []⟩ 0 0 = true by decide] at hT
  simp only [show natM ⟨[m07a], [m07d], []⟩ 0 0 = m07a by decide, show ntakeE ⟨[m07a], [m07d], []⟩ 0 0 = 0 by decide, show ntakeN ⟨[m07a], [m07d], []⟩ 0 0 = ⟨[], [m07d], []⟩ by decide] at hK
  simp only [show natM ⟨[], [m07d], []⟩ 3 0 = .zero by decide, show ntakeE ⟨[], [m07d], []⟩ 3 0 = 5 by decide, show ntakeN ⟨[], [m07d], []⟩ 3 0 = ⟨[], [m07d], []⟩ by decide] at hK3
  simp only [show nleft c07 ⟨[], [m07d], []⟩ 0 = 1 by decide] at hL0
  simp only [show nleft c07 ⟨[], [m07d], []⟩ 1 = 0 by decide] at hL1
  simp only [show nofL ⟨[m07a], [m07d], []⟩ 1 = [m07a, m07d] by decide] at hO
  simp only [show nget ⟨[], [m07d], []⟩ 1 = [m07d] by decide] at hI1
  simp only [show decide (nall ⟨[], [m07d], []⟩ = []) = false by decide] at hE
  refine FnF.mk' Try.func13 rfl rfl Try.ntmps13 rfl ?_
  repeat (first | rintro _ _ ⟨rfl, rfl⟩ | rintro _ _ ⟨_, rfl, rfl⟩ | rintro _ _ ⟨_, _, rfl, rfl⟩ | intro _ | refine go ?_ | (refine is_draw ?_; refine WC_draw mixed (by kernel_rfl) ?_) | refine cal @hN ?_ | refine cal @hN0 ?_ | refine cal @hA ?_ | refine cal @hB ?_ | refine cal @hD ?_ | refine cal @hG ?_ | refine cal @hT ?_ | refine cal @hO ?_ | refine cal @hK ?_ | refine cal @hK3 ?_ | refine cal @hL0 ?_ | refine cal @hL1 ?_ | refine cal @hI1 ?_ | refine cal @hE ?_)
  (apply WE_ret rfl rfl (by (repeat (first | exact ResOk.nil | (apply ResOk.tmp; rfl) | (apply resOk_cell; rfl; exact inferInstance; rfl; rfl)))); (first | exact ⟨rfl, rfl⟩ | exact ⟨congrArg Value.bool (by decide), rfl⟩ | exact ⟨_, rfl, rfl⟩ | exact ⟨_, _, rfl, rfl⟩ | exact ⟨by first | (simp []; done) | (simp [] <;> omega), rfl⟩); (repeat (first | exact Ent.refl | exact Ent.nil | apply Ent.pick | apply Ent.drop)))
theorem law07_Does {W : World} {F : List HP} {c : Cfg} {v : Value} {l : List NOp} {line : Int} (hc : c.wf) (hl : l.length ≤ 9223372036854775807) (k : ROld W 18 v l.length (flat noc l)) :
    FnF Try.prog 3 [c.val, v, .int .i64 line] [Old W] F (fun r L' => r = .bool true ∧ L' = [Old W]) := by
  refine FnF.mk' Try.func3 rfl rfl Try.ntmps3 rfl ?_
  by_cases hm : 100 < l.length
  · repeat (first | rintro _ _ ⟨rfl, rfl⟩ | rintro _ _ ⟨_, rfl, rfl⟩ | rintro _ _ ⟨_, _, rfl, rfl⟩ | intro _ | refine go ?_ | (refine is_draw ?_; apply WC_mix (id := 18) true _ (pl := .p 0 <| .p 1 <| .p 4 <| .p 5 <| .r 2 <| .e true [(3, .e false [(6, .e false [(7, .p 8 <| .done)])]), (6, .e true [(3, .e false [(7, .p 8 <| .done)])])]); exact mixed; kernel_rfl; kernel_rfl; exact Ent.refl) | (refine is_draw ?_; refine WC_draw mixed (by kernel_rfl) ?_) | refine cal @law07_awake ?_)
    (apply WE_ret rfl rfl (by (repeat (first | exact ResOk.nil | (apply ResOk.tmp; rfl) | (apply resOk_cell; rfl; exact inferInstance; rfl; rfl)))); (first | exact ⟨rfl, rfl⟩ | exact ⟨congrArg Value.bool (by decide), rfl⟩ | exact ⟨_, rfl, rfl⟩ | exact ⟨_, _, rfl, rfl⟩ | exact ⟨by first | (simp []; done) | (simp [] <;> omega), rfl⟩); (repeat (first | exact Ent.refl | exact Ent.nil | apply Ent.pick | apply Ent.drop)))
  · cases he : checkB c with
    | false =>
      have hN := fun F => net_New_no (F := F) hc he
      have hR := fun F => ref07_New_no (F := F) hc he
      repeat (first | rintro _ _ ⟨rfl, rfl⟩ | rintro _ _ ⟨_, rfl, rfl⟩ | rintro _ _ ⟨_, _, rfl, rfl⟩ | intro _ | refine go ?_ | (refine is_draw ?_; apply WC_mix (id := 18) true _ (pl := .p 0 <| .p 1 <| .p 4 <| .p 5 <| .r 2 <| .e true [(3, .e false [(6, .e false [(7, .p 8 <| .done)])]), (6, .e true [(3, .e false [(7, .p 8 <| .done)])])]); exact mixed; kernel_rfl; kernel_rfl; exact Ent.refl) | (refine is_draw ?_; refine WC_draw mixed (by kernel_rfl) ?_) | refine cal @law07_awake ?_ | refine cal @hN ?_ | refine cal @hR ?_)
      refine WC_rounds 1 ?_
      repeat (first | rintro _ _ ⟨rfl, rfl⟩ | rintro _ _ ⟨_, rfl, rfl⟩ | rintro _ _ ⟨_, _, rfl, rfl⟩ | intro _ | refine go ?_ | (refine is_draw ?_; apply WC_mix (id := 18) true _ (pl := .p 0 <| .p 1 <| .p 4 <| .p 5 <| .r 2 <| .e true [(3, .e false [(6, .e false [(7, .p 8 <| .done)])]), (6, .e true [(3, .e false [(7, .p 8 <| .done)])])]); exact mixed; kernel_rfl; kernel_rfl; exact Ent.refl) | (refine is_draw ?_; refine WC_draw mixed (by kernel_rfl) ?_))
      (apply WE_ret rfl rfl (by (repeat (first | exact ResOk.nil | (apply ResOk.tmp; rfl) | (apply resOk_cell; rfl; exact inferInstance; rfl; rfl)))); (first | exact ⟨rfl, rfl⟩ | exact ⟨congrArg Value.bool (by decide), rfl⟩ | exact ⟨_, rfl, rfl⟩ | exact ⟨_, _, rfl, rfl⟩ | exact ⟨by first | (simp []; done) | (simp [] <;> omega), rfl⟩); (repeat (first | exact Ent.refl | exact Ent.nil | apply Ent.pick | apply Ent.drop)))
    | true =>
      have hN := fun F => net_New (F := F) hc he
      have hR := fun F => ref07_New (F := F) hc he
      repeat (first | rintro _ _ ⟨rfl, rfl⟩ | rintro _ _ ⟨_, rfl, rfl⟩ | rintro _ _ ⟨_, _, rfl, rfl⟩ | intro _ | refine go ?_ | (refine is_draw ?_; apply WC_mix (id := 18) true _ (pl := .p 0 <| .p 1 <| .p 4 <| .p 5 <| .r 2 <| .e true [(3, .e false [(6, .e false [(7, .p 8 <| .done)])]), (6, .e true [(3, .e false [(7, .p 8 <| .done)])])]); exact mixed; kernel_rfl; kernel_rfl; exact Ent.refl) | (refine is_draw ?_; refine WC_draw mixed (by kernel_rfl) ?_) | refine cal @law07_awake ?_ | refine cal @hN ?_ | refine cal @hR ?_)
      rename_i bc b br
      apply WC_loopE (E0 := [(1, _), (2, _), (7, _), (9, _)]) (fun E0 (q : Nat × Nets) => (11, .int .i64 q.1) :: E0) (fun q => NetP b c q.2 :: NetRP br c q.2 :: Old W :: F) (fun q => q.1 ≤ l.length) (fun q => l.length - q.1) (0, .no)
      · (repeat (first | exact Sub.nil | (refine Sub.cons (by first | rfl | (simp only [Nat.zero_add]; rfl)) ?_)))
      · exact Nat.zero_le _
      · (repeat (first | (with_reducible exact Ent.refl) | exact Ent.nil | (apply ent_pickE; (focus ((repeat (first | (with_reducible exact pk_here) | (apply pk_there))); done))) | apply Ent.drop))
      · rintro ⟨i, n⟩ hi
        dsimp only at hi ⊢
        by_cases hlt : i < l.length
        · have hS := fun F => net_Send (F := F) (b := b) (n := n) (m := l[i].m) hc
          have hSR := fun F => ref07_Send (F := F) (b := br) (n := n) (m := l[i].m) hc
          by_cases h0 : l[i].d = 0
          · repeat' (first | rintro _ _ ⟨rfl, rfl⟩ | rintro _ _ ⟨_, rfl, rfl⟩ | rintro _ _ ⟨_, _, rfl, rfl⟩ | intro _ | refine go ?_ | (refine is_draw ?_; apply WC_mix (id := 18) true _ (pl := .p 0 <| .p 1 <| .p 4 <| .p 5 <| .r 2 <| .e true [(3, .e false [(6, .e false [(7, .p 8 <| .done)])]), (6, .e true [(3, .e false [(7, .p 8 <| .done)])])]); exact mixed; kernel_rfl; kernel_rfl; exact Ent.refl) | (refine is_draw ?_; refine WC_draw mixed (by kernel_rfl) ?_) | refine cal @net_At ?_ | refine cal @ref07_At ?_ | refine cal @net_Left ?_ | refine cal @ref07_Left ?_ | refine cal @hS ?_ | refine cal @hSR ?_ | refine spl ?_ ?_ | fail)
            all_goals
              generalize nsendN c n l[i].m = n2
              (first | refine WO_front (NetRP br c n2) ?_ | refine WC_front (NetRP br c n2) ?_ | refine WE_front (NetRP br c n2) ?_)
              refine netr_open fun p0 q0 p1 q1 p2 q2 ⟨hcc, hn0, hn1, hn2⟩ => ?_
              obtain ⟨r0, r1, r2⟩ := cfg_rooms he
              have hLm := fun F => net_List (F := F) (b := b) (c := c) (n := n2) (k := -1)
              have hL0 := fun F => net_List (F := F) (b := b) (c := c) (n := n2) (k := 0)
              have hL1 := fun F => net_List (F := F) (b := b) (c := c) (n := n2) (k := 1)
              have hL2 := fun F => net_List (F := F) (b := b) (c := c) (n := n2) (k := 2)
              have hL3 := fun F => net_List (F := F) (b := b) (c := c) (n := n2) (k := 3)
              simp only [show nget n2 (-1) = [] from rfl, show nget n2 0 = n2.l0 from rfl, show nget n2 1 = n2.l1 from rfl, show nget n2 2 = n2.l2 from rfl, show nget n2 3 = [] from rfl] at hLm hL0 hL1 hL2 hL3
              have hSe := fun F v u (k1 : RdL F 15 v 0 []) (k2 : RdL F 15 u 0 []) => @ref07_Same F v u [] [] k1 k2 (by simp)
              have hS0 := fun F v u (k1 : RdL F 15 v n2.l0.length (flat mc n2.l0)) (k2 : RdL F 15 u n2.l0.length (flat mc n2.l0)) => @ref07_Same F v u n2.l0 n2.l0 k1 k2 (by omega)
              have hS1 := fun F v u (k1 : RdL F 15 v n2.l1.length (flat mc n2.l1)) (k2 : RdL F 15 u n2.l1.length (flat mc n2.l1)) => @ref07_Same F v u n2.l1 n2.l1 k1 k2 (by omega)
              have hS2 := fun F v u (k1 : RdL F 15 v n2.l2.length (flat mc n2.l2)) (k2 : RdL F 15 u n2.l2.length (flat mc n2.l2)) => @ref07_Same F v u n2.l2 n2.l2 k1 k2 (by omega)
              have hofl : (nofL n2 line).length ≤ 192 := Nat.le_trans (List.length_filter_le _ _) (by simp [nall]; omega)
              have hSo := fun F v u (k1 : RdL F 15 v (nofL n2 line).length (flat mc (nofL n2 line))) (k2 : RdL F 15 u (nofL n2 line).length (flat mc (nofL n2 line))) => @ref07_Same F v u (nofL n2 line) (nofL n2 line) k1 k2 (by omega)
              simp only [decide_true] at hSe hS0 hS1 hS2 hSo
              refine WC_rounds 6 ?_
              repeat (first | rintro _ _ ⟨rfl, rfl⟩ | rintro _ _ ⟨_, rfl, rfl⟩ | rintro _ _ ⟨_, _, rfl, rfl⟩ | intro _ | refine go ?_ | (refine is_draw ?_; apply WC_mix (id := 18) true _ (pl := .p 0 <| .p 1 <| .p 4 <| .p 5 <| .r 2 <| .e true [(3, .e false [(6, .e false [(7, .p 8 <| .done)])]), (6, .e true [(3, .e false [(7, .p 8 <| .done)])])]); exact mixed; kernel_rfl; kernel_rfl; exact Ent.refl) | (refine is_draw ?_; refine WC_draw mixed (by kernel_rfl) ?_) | refine cal @hLm ?_ | refine cal @hL0 ?_ | refine cal @hL1 ?_ | refine cal @hL2 ?_ | refine cal @hL3 ?_ | refine cal @hSe ?_ | refine cal @hS0 ?_ | refine cal @hS1 ?_ | refine cal @hS2 ?_ | refine cal @net_Empty ?_)
              refine WO_ent (L' := NetRP br c n2 :: NetP b c n2 :: Old W :: F) (by ((repeat (first | (with_reducible exact Ent.refl) | exact Ent.nil | (apply ent_pickE; (focus ((repeat (first | (with_reducible exact pk_here) | (apply pk_there))); done))) | (apply netr_in) | apply Ent.drop)); all_goals (first | rfl | (with_reducible assumption) | (simp; done) | (simp; omega) | omega | (constructor <;> (simp) <;> omega)))) ?_
              repeat (first | rintro _ _ ⟨rfl, rfl⟩ | rintro _ _ ⟨_, rfl, rfl⟩ | rintro _ _ ⟨_, _, rfl, rfl⟩ | intro _ | refine go ?_ | (refine is_draw ?_; apply WC_mix (id := 18) true _ (pl := .p 0 <| .p 1 <| .p 4 <| .p 5 <| .r 2 <| .e true [(3, .e false [(6, .e false [(7, .p 8 <| .done)])]), (6, .e true [(3, .e false [(7, .p 8 <| .done)])])]); exact mixed; kernel_rfl; kernel_rfl; exact Ent.refl) | (refine is_draw ?_; refine WC_draw mixed (by kernel_rfl) ?_) | refine cal @ref07_Empty ?_ | refine cal @net_Of ?_ | refine cal @ref07_Of ?_ | refine cal @hSo ?_)
              refine WE_loop (i + 1, n2) (by dsimp only; omega) (by dsimp only; omega) ?_ ?_
              · (repeat (first | exact Sub.nil | (refine Sub.cons (by first | rfl | (simp only [Nat.zero_add]; rfl)) ?_)))
              · (repeat (first | (with_reducible exact Ent.refl) | exact Ent.nil | (apply ent_pickE; (focus ((repeat (first | (with_reducible exact pk_here) | (apply pk_there))); done))) | apply Ent.drop))
          · repeat (first | rintro _ _ ⟨rfl, rfl⟩ | rintro _ _ ⟨_, rfl, rfl⟩ | rintro _ _ ⟨_, _, rfl, rfl⟩ | intro _ | refine go ?_ | (refine is_draw ?_; apply WC_mix (id := 18) true _ (pl := .p 0 <| .p 1 <| .p 4 <| .p 5 <| .r 2 <| .e true [(3, .e false [(6, .e false [(7, .p 8 <| .done)])]), (6, .e true [(3, .e false [(7, .p 8 <| .done)])])]); exact mixed; kernel_rfl; kernel_rfl; exact Ent.refl) | (refine is_draw ?_; refine WC_draw mixed (by kernel_rfl) ?_) | refine cal @net_At ?_ | refine cal @ref07_At ?_ | refine cal @net_Left ?_ | refine cal @ref07_Left ?_ | refine cal @net_Take ?_ | refine cal @ref07_Take ?_)
            generalize ntakeN n l[i].k l[i].i = n2
            (first | refine WO_front (NetRP br c n2) ?_ | refine WC_front (NetRP br c n2) ?_ | refine WE_front (NetRP br c n2) ?_)
            refine netr_open fun p0 q0 p1 q1 p2 q2 ⟨hcc, hn0, hn1, hn2⟩ => ?_
            obtain ⟨r0, r1, r2⟩ := cfg_rooms he
            have hLm := fun F => net_List (F := F) (b := b) (c := c) (n := n2) (k := -1)
            have hL0 := fun F => net_List (F := F) (b := b) (c := c) (n := n2) (k := 0)
            have hL1 := fun F => net_List (F := F) (b := b) (c := c) (n := n2) (k := 1)
            have hL2 := fun F => net_List (F := F) (b := b) (c := c) (n := n2) (k := 2)
            have hL3 := fun F => net_List (F := F) (b := b) (c := c) (n := n2) (k := 3)
            simp only [show nget n2 (-1) = [] from rfl, show nget n2 0 = n2.l0 from rfl, show nget n2 1 = n2.l1 from rfl, show nget n2 2 = n2.l2 from rfl, show nget n2 3 = [] from rfl] at hLm hL0 hL1 hL2 hL3
            have hSe := fun F v u (k1 : RdL F 15 v 0 []) (k2 : RdL F 15 u 0 []) => @ref07_Same F v u [] [] k1 k2 (by simp)
            have hS0 := fun F v u (k1 : RdL F 15 v n2.l0.length (flat mc n2.l0)) (k2 : RdL F 15 u n2.l0.length (flat mc n2.l0)) => @ref07_Same F v u n2.l0 n2.l0 k1 k2 (by omega)
            have hS1 := fun F v u (k1 : RdL F 15 v n2.l1.length (flat mc n2.l1)) (k2 : RdL F 15 u n2.l1.length (flat mc n2.l1)) => @ref07_Same F v u n2.l1 n2.l1 k1 k2 (by omega)
            have hS2 := fun F v u (k1 : RdL F 15 v n2.l2.length (flat mc n2.l2)) (k2 : RdL F 15 u n2.l2.length (flat mc n2.l2)) => @ref07_Same F v u n2.l2 n2.l2 k1 k2 (by omega)
            have hofl : (nofL n2 line).length ≤ 192 := Nat.le_trans (List.length_filter_le _ _) (by simp [nall]; omega)
            have hSo := fun F v u (k1 : RdL F 15 v (nofL n2 line).length (flat mc (nofL n2 line))) (k2 : RdL F 15 u (nofL n2 line).length (flat mc (nofL n2 line))) => @ref07_Same F v u (nofL n2 line) (nofL n2 line) k1 k2 (by omega)
            simp only [decide_true] at hSe hS0 hS1 hS2 hSo
            refine WC_rounds 6 ?_
            repeat (first | rintro _ _ ⟨rfl, rfl⟩ | rintro _ _ ⟨_, rfl, rfl⟩ | rintro _ _ ⟨_, _, rfl, rfl⟩ | intro _ | refine go ?_ | (refine is_draw ?_; apply WC_mix (id := 18) true _ (pl := .p 0 <| .p 1 <| .p 4 <| .p 5 <| .r 2 <| .e true [(3, .e false [(6, .e false [(7, .p 8 <| .done)])]), (6, .e true [(3, .e false [(7, .p 8 <| .done)])])]); exact mixed; kernel_rfl; kernel_rfl; exact Ent.refl) | (refine is_draw ?_; refine WC_draw mixed (by kernel_rfl) ?_) | refine cal @hLm ?_ | refine cal @hL0 ?_ | refine cal @hL1 ?_ | refine cal @hL2 ?_ | refine cal @hL3 ?_ | refine cal @hSe ?_ | refine cal @hS0 ?_ | refine cal @hS1 ?_ | refine cal @hS2 ?_ | refine cal @net_Empty ?_)
            refine WO_ent (L' := NetRP br c n2 :: NetP b c n2 :: Old W :: F) (by ((repeat (first | (with_reducible exact Ent.refl) | exact Ent.nil | (apply ent_pickE; (focus ((repeat (first | (with_reducible exact pk_here) | (apply pk_there))); done))) | (apply netr_in) | apply Ent.drop)); all_goals (first | rfl | (with_reducible assumption) | (simp; done) | (simp; omega) | omega | (constructor <;> (simp) <;> omega)))) ?_
            repeat (first | rintro _ _ ⟨rfl, rfl⟩ | rintro _ _ ⟨_, rfl, rfl⟩ | rintro _ _ ⟨_, _, rfl, rfl⟩ | intro _ | refine go ?_ | (refine is_draw ?_; apply WC_mix (id := 18) true _ (pl := .p 0 <| .p 1 <| .p 4 <| .p 5 <| .r 2 <| .e true [(3, .e false [(6, .e false [(7, .p 8 <| .done)])]), (6, .e true [(3, .e false [(7, .p 8 <| .done)])])]); exact mixed; kernel_rfl; kernel_rfl; exact Ent.refl) | (refine is_draw ?_; refine WC_draw mixed (by kernel_rfl) ?_) | refine cal @ref07_Empty ?_ | refine cal @net_Of ?_ | refine cal @ref07_Of ?_ | refine cal @hSo ?_)
            refine WE_loop (i + 1, n2) (by dsimp only; omega) (by dsimp only; omega) ?_ ?_
            · (repeat (first | exact Sub.nil | (refine Sub.cons (by first | rfl | (simp only [Nat.zero_add]; rfl)) ?_)))
            · (repeat (first | (with_reducible exact Ent.refl) | exact Ent.nil | (apply ent_pickE; (focus ((repeat (first | (with_reducible exact pk_here) | (apply pk_there))); done))) | apply Ent.drop))
        · repeat (first | rintro _ _ ⟨rfl, rfl⟩ | rintro _ _ ⟨_, rfl, rfl⟩ | rintro _ _ ⟨_, _, rfl, rfl⟩ | intro _ | refine go ?_ | (refine is_draw ?_; apply WC_mix (id := 18) true _ (pl := .p 0 <| .p 1 <| .p 4 <| .p 5 <| .r 2 <| .e true [(3, .e false [(6, .e false [(7, .p 8 <| .done)])]), (6, .e true [(3, .e false [(7, .p 8 <| .done)])])]); exact mixed; kernel_rfl; kernel_rfl; exact Ent.refl) | (refine is_draw ?_; refine WC_draw mixed (by kernel_rfl) ?_))
          (apply WE_ret rfl rfl (by (repeat (first | exact ResOk.nil | (apply ResOk.tmp; rfl) | (apply resOk_cell; rfl; exact inferInstance; rfl; rfl)))); (first | exact ⟨rfl, rfl⟩ | exact ⟨congrArg Value.bool (by decide), rfl⟩ | exact ⟨_, rfl, rfl⟩ | exact ⟨_, _, rfl, rfl⟩ | exact ⟨by first | (simp []; done) | (simp [] <;> omega), rfl⟩); (repeat (first | exact Ent.refl | exact Ent.nil | apply Ent.pick | apply Ent.drop)))
end Go.Sx
