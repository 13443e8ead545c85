/- HomBou: several of my texts as one. My own work. -/
import Derived.Test.YtlaohgngdaglmaaZao
import Derived.Test.YtlaohgngdaglmaaZap
/- The law of homes: bounds. My own work. -/
namespace Go.Sx
open Go Go.Proofs
set_option linter.unusedVariables false
set_option linter.unusedSectionVars false
set_option linter.unusedSimpArgs false
theorem ent_le {c : Cfg} {num : Int} {s : HomS} (h : HmI c num s) (k : Int) : (hmEnt s k).s.ps.length ≤ 1000 := by
  by_cases ho : ownL c num k
  · have hmt := (hmEnt_own h ho).2.1
    simp only [mayT, Bool.and_eq_true] at hmt
    have := may_facts' hmt.1.1
    omega
  · have h1 := h.own k
    rw [decide_eq_false ho] at h1
    unfold hmOwn at h1
    unfold hmEnt
    cases e : mget s.es k with
    | none => decide
    | some x => rw [e] at h1; cases h1
theorem hm_memf {b : Nat} {c : Cfg} {num : Int} {s : HomS} {L : List HP} {w : World} (h : Sat (HomP b c num s :: L) w) : (s.ms.length : Int) = c.words * c.lines := by
  obtain ⟨bm, be, bq, ps, he, hx⟩ := hm_sat h
  obtain ⟨⟨_, h1, _⟩, _⟩ := mem_sat (sat_tail (sat_tail (sat_tail hx)))
  exact h1
theorem WO_memf' {b : Nat} {c : Cfg} {num : Int} {s : HomS} {P : Program} {N : Nat} {all : Array Oper} {o : List Oper} {env : Env} {L : List HP} {Q : Exit → Act → World → Prop}
    (h : (s.ms.length : Int) = c.words * c.lines → WO P N all o env (HomP b c num s :: L) Q) : WO P N all o env (HomP b c num s :: L) Q := fun a w ha hw => h (hm_memf hw) a w ha hw
theorem WC_memf' {b : Nat} {c : Cfg} {num : Int} {s : HomS} {P : Program} {N : Nat} {o : Code} {env : Env} {L : List HP} {Q : Exit → Act → World → Prop}
    (h : (s.ms.length : Int) = c.words * c.lines → WC P N o env (HomP b c num s :: L) Q) : WC P N o env (HomP b c num s :: L) Q := fun a w ha hw => h (hm_memf hw) a w ha hw
set_option maxRecDepth 100000
set_option maxHeartbeats 4000000
attribute [local irreducible] Go.Exit.then Go.Exit.inBlock Go.Code.wp WC WO WE WQ V LoopQ FnQ Sat Star band bor IntKind.wrap WR Code.rounds WT KO
theorem dr_HomBou_6m {Q P : Prop} (k : Q) (h : Hid Q → P := by
  intro k
  first
  | (refine is_draw ?_; apply WC_mix (id := 22) (.only []) _ (pl := .p 0 <| .p 3 <| .r 4 <| .e true [(1, .p 2 <| .p 5 <| .p 6 <| .p 7 <| .r 8 <| .p 9 <| .p 10 <| .r 11 <| .p 12 <| .p 13 <| .p 14 <| .p 15 <| .p 16 <| .r 17 <| .p 18 <| .p 19 <| .p 20 <| .p 22 <| .r 21 <| .p 23 <| .p 24 <| .p 25 <| .done)]); exact mixed; kernel_rfl; kernel_rfl; exact Ent.refl; exact k.out)) : P := h ⟨k⟩
theorem law16_Bounds {W : World} {F : List HP} {c : Cfg} {num line : Int} {v : Value} {l : List HStep} (hc : c.wf) (hnu : I64 num) (hli : I64 line) (hl : l.length ≤ 9223372036854775807) (k : ROld W 20 v l.length (flat hsc l)) (hwf : ∀ x ∈ l, HStep.wf x) :
    FnF Try.prog 6 [c.val, .int .i64 num, v, .int .i64 line] [Old W] F (fun r L' => r = .bool true ∧ L' = [Old W]) := by
  have hLg := fun F => law16_large (F := F) (c := c)
  refine FnF.mk' Try.func6 rfl rfl Try.ntmps6 rfl ?_
  by_cases hm : 60 < l.length
  · repeat (first | rintro _ _ ⟨rfl, rfl⟩ | refine exq fun _ => ?_ | intro _ | refine go ?_ | refine dr_HomBou_6m ?_ | refine drq ?_ | refine cal @law16_awake ?_)
    exact fin0
  · cases hL : hLarge c with
    | true =>
      rw [hL] at hLg
      repeat (first | rintro _ _ ⟨rfl, rfl⟩ | refine exq fun _ => ?_ | intro _ | refine go ?_ | refine dr_HomBou_6m ?_ | refine drq ?_ | refine cal @law16_awake ?_ | refine cal @hLg ?_)
      exact fin0
    | false =>
      rw [hL] at hLg
      cases he : newOk c num with
      | false =>
        have hN := fun F => hm_New_no (F := F) hc he
        repeat (first | rintro _ _ ⟨rfl, rfl⟩ | refine exq fun _ => ?_ | intro _ | refine go ?_ | refine dr_HomBou_6m ?_ | refine drq ?_ | refine cal @law16_awake ?_ | refine cal @hLg ?_ | refine cal @hN ?_)
        exact fin0
      | true =>
        have hN := fun F => hm_New (F := F) hc he
        repeat (first | rintro _ _ ⟨rfl, rfl⟩ | refine exq fun _ => ?_ | intro _ | refine go ?_ | refine dr_HomBou_6m ?_ | refine drq ?_ | refine cal @law16_awake ?_ | refine cal @hLg ?_ | refine cal @hN ?_)
        rename_i bx b
        apply WC_loopE (E0 := [(1, _), (3, _), (4, _), (9, _), (42, _), (43, _)]) (fun E0 (i : Nat) => (44, .int .i64 i) :: E0) (fun i => HomP b c num (hsK c num (l.take i)) :: Cells bx 24 c.cells :: Old W :: F) (fun i => i ≤ l.length) (fun i => l.length - i) 0
        · (repeat (first | exact Sub.nil | (refine Sub.cons (by first | rfl | (simp only [Nat.zero_add]; rfl)) ?_)))
        · exact Nat.zero_le _
        · rw [List.take_zero, show hsK c num [] = hmNew c num from rfl]; exact entu0
        · intro i hi
          by_cases hlt : i < l.length
          · obtain ⟨hI, ho, ho2⟩ := hsK_inv he l i hi
            have hst := hsK_step (c := c) (num := num) hlt
            have hwx := hwf _ (List.getElem_mem hlt)
            generalize hsK c num (l.take i) = s at hI ho ho2 hst ⊢
            have hI2 := hmI_step hI l[i]
            refine WC_memf' fun hml => ?_
            have hot := hms_other (c := c) (num := num) (s := s) (x := l[i]) (line := line) hml hI
            have hsn := hms_sent (x := l[i]) hI
            have hlen := hI2.len
            have hDo := fun F => law16_do (F := F) (b := b) (c := c) (num := num) (s := s) (x := l[i]) hc hI (by omega)
            have hEt := fun F => hm_Entry (F := F) (b := b) (c := c) (num := num) (s := s) (line := line) (fun e he => (hI.may _ e he).1)
            have hLi := fun F => hm_Line (F := F) (b := b) (c := c) (num := num) (s := s) (line := line) hc hli
            have hQ := fun F => hm_Queue (F := F) (b := b) (c := c) (num := num) (s := s)
            have hl1 := ent_le hI line
            apply WO_join (P := Try.prog) (fun q : Nat × Nat × Nat × Option Addr × Nat => [(1, .int .i64 num), (3, .int .i64 line), (4, .pointer (some ⟨bx, 0, none⟩)), (9, .pointer (some ⟨b, 0, none⟩)), (42, v), (43, .int .i64 l.length), (44, .int .i64 i), (12, .pointer (some ⟨q.1, 0, none⟩)), (13, .pointer (some ⟨q.2.1, 0, none⟩)), (15, .pointer (some ⟨q.2.2.1, 0, none⟩)), (17, .int .i64 (hsOf s l[i])), (84, .pointer (some ⟨b, 0, none⟩)), (85, hsv l[i])])
              (fun q => HomP b c num s :: Cells q.2.2.1 56 (wc (hmLine c s line)) :: Cells q.2.1 52 (tec (hmEnt s line) q.2.2.2.1 q.2.2.2.2) :: Own 3 1 (.slice q.2.2.2.1 (hmEnt s line).s.ps.length q.2.2.2.2) (hmEnt s line).s.ps.length (flat ic (hmEnt s line).s.ps) :: Cells q.1 61 (hsc l[i]) :: Cells bx 24 c.cells :: Old W :: F) (fun _ => True)
            · intro join
              by_cases hq1 : l[i].d = 1
              · by_cases hq2 : 0 ≤ l[i].n
                · by_cases hq3 : l[i].n < s.q.length
                  · have e : hsOf s l[i] = (qat s.q l[i].n).m.line := if_pos ⟨hq1, hq2, hq3⟩
                    rw [e] at join
                    obtain ⟨j, hj⟩ : ∃ j : Nat, l[i].n = j := ⟨l[i].n.toNat, by omega⟩
                    repeat (first | rintro _ _ ⟨rfl, rfl⟩ | refine exq fun _ => ?_ | intro _ | refine go ?_ | refine dr_HomBou_6m ?_ | refine drq ?_ | refine cal @hEt ?_ | refine cal @hLi ?_ | refine cal @hQ ?_)
                    rename_i b12 x1 y1 b13 b15 x2 y2
                    (first | refine WO_front (QuL 68 (.slice x2 s.q.length y2) s.q) ?_ | refine WC_front (QuL 68 (.slice x2 s.q.length y2) s.q) ?_ | refine WE_front (QuL 68 (.slice x2 s.q.length y2) s.q) ?_)
                    refine ql_openO fun qs hf => ?_
                    have hlq : s.q.length = qs.length := by rw [← hf, List.length_map]
                    have hjl : j < qs.length := by omega
                    have hat : (qat s.q l[i].n).m.line = qs[j].1.m.line := by
                      have h9 : qin s.q (j : Int) = true := by simp only [qin, decide_eq_true_eq]; omega
                      have h8 : j < s.q.length := by omega
                      have h7 : s.q[j] = qs[j].1 := by simp only [← hf, List.getElem_map]
                      simp [hj, qat, h9, h8, h7]
                    rw [hat] at join
                    simp only [hj, hlq]
                    (first | (refine WO_some (.slice x2 qs.length y2) inferInstance (by omega) ?_; intro _) | (refine WC_some (.slice x2 qs.length y2) inferInstance (by omega) ?_; intro _))
                    repeat (first | rintro _ _ ⟨rfl, rfl⟩ | refine exq fun _ => ?_ | intro _ | refine go ?_ | refine dr_HomBou_6m ?_ | refine drq ?_)
                    exact join (b12, b13, b15, x1, y1) _ _ trivial (by (repeat (first | exact Sub.nil | (refine Sub.cons (by first | rfl | (simp only [Nat.zero_add]; rfl)) ?_)))) (by exact entu0)
                  · have e : hsOf s l[i] = -1 := if_neg fun h => hq3 h.2.2
                    rw [e] at join
                    repeat (first | rintro _ _ ⟨rfl, rfl⟩ | refine exq fun _ => ?_ | intro _ | refine go ?_ | refine dr_HomBou_6m ?_ | refine drq ?_ | refine cal @hEt ?_ | refine cal @hLi ?_ | refine cal @hQ ?_)
                    rename_i b12 x1 y1 b13 b15 x2 y2
                    exact join (b12, b13, b15, x1, y1) _ _ trivial (by (repeat (first | exact Sub.nil | (refine Sub.cons (by first | rfl | (simp only [Nat.zero_add]; rfl)) ?_)))) (by exact entu0)
                · have e : hsOf s l[i] = -1 := if_neg fun h => hq2 h.2.1
                  rw [e] at join
                  repeat (first | rintro _ _ ⟨rfl, rfl⟩ | refine exq fun _ => ?_ | intro _ | refine go ?_ | refine dr_HomBou_6m ?_ | refine drq ?_ | refine cal @hEt ?_ | refine cal @hLi ?_ | refine cal @hQ ?_)
                  rename_i b12 x1 y1 b13 b15 x2 y2
                  exact join (b12, b13, b15, x1, y1) _ _ trivial (by (repeat (first | exact Sub.nil | (refine Sub.cons (by first | rfl | (simp only [Nat.zero_add]; rfl)) ?_)))) (by exact entu0)
              · have e : hsOf s l[i] = -1 := if_neg fun h => hq1 h.1
                rw [e] at join
                repeat (first | rintro _ _ ⟨rfl, rfl⟩ | refine exq fun _ => ?_ | intro _ | refine go ?_ | refine dr_HomBou_6m ?_ | refine drq ?_ | refine cal @hEt ?_ | refine cal @hLi ?_ | refine cal @hQ ?_)
                rename_i b12 x1 y1 b13 b15 x2 y2
                exact join (b12, b13, b15, x1, y1) _ _ trivial (by (repeat (first | exact Sub.nil | (refine Sub.cons (by first | rfl | (simp only [Nat.zero_add]; rfl)) ?_)))) (by exact entu0)
            · rintro ⟨b12, b13, b15, x1, y1⟩ _
              have hl2 := ent_le hI2 line
              have hEt2 := fun F => hm_Entry (F := F) (b := b) (c := c) (num := num) (s := hsS c num s l[i]) (line := line) (fun e he => (hI2.may _ e he).1)
              have hLi2 := fun F => hm_Line (F := F) (b := b) (c := c) (num := num) (s := hsS c num s l[i]) (line := line) hc hli
              have hQ2 := fun F => hm_Queue (F := F) (b := b) (c := c) (num := num) (s := hsS c num s l[i])
              generalize hs2 : hsS c num s l[i] = s2 at hst hI2 hot hlen hDo hl2 hEt2 hLi2 hQ2
              have hngt : ¬ (s2.q.length : Int) > c.buffer := by omega
              have hSm : line ≠ hsOf s l[i] → ∀ F a1 k1 a2 k2, RdL F 1 (.slice a1 (hmEnt s2 line).s.ps.length k1) (hmEnt s2 line).s.ps.length (flat ic (hmEnt s2 line).s.ps) → RdL F 1 (.slice a2 (hmEnt s line).s.ps.length k2) (hmEnt s line).s.ps.length (flat ic (hmEnt s line).s.ps) →
                  FnF Try.prog 23 [.agg (tec (hmEnt s2 line) a1 k1).toArray, .agg (tec (hmEnt s line) a2 k2).toArray] [] F (fun r L' => r = .bool true ∧ L' = []) := fun hof F a1 k1 a2 k2 h1 h2 => by
                have := law16_same h1 h2 hl2
                rwa [decide_eq_true (hot hof).1] at this
              have hWd : line ≠ hsOf s l[i] → ¬ (wc (hmLine c s2 line) ≠ wc (hmLine c s line)) := fun hof h => h (by rw [(hot hof).2])
              cases hB : hsB s l[i] with
              | false =>
                have hM := hsn.2 hB
                rw [hB, hM] at hDo
                by_cases hof : line = hsOf s l[i]
                · have hof' : ¬ line ≠ hsOf s l[i] := fun h => h hof
                  repeat' (first | rintro _ _ ⟨rfl, rfl⟩ | refine exq fun _ => ?_ | intro _ | refine go ?_ | refine dr_HomBou_6m ?_ | refine drq ?_ | refine cal @hDo ?_ | refine cal @hEt2 ?_ | refine cal @hLi2 ?_ | refine cal @hQ2 ?_ | refine spl ?_ ?_ | fail)
                  all_goals refine WE_loop (i + 1) (by omega) (by omega) (by (repeat (first | exact Sub.nil | (refine Sub.cons (by first | rfl | (simp only [Nat.zero_add]; rfl)) ?_)))) ?_
                  all_goals (dsimp only; rw [hst])
                  all_goals exact entu0
                · have hSm := hSm hof
                  have hWd := hWd hof
                  repeat' (first | rintro _ _ ⟨rfl, rfl⟩ | refine exq fun _ => ?_ | intro _ | refine go ?_ | refine dr_HomBou_6m ?_ | refine drq ?_ | refine cal @hDo ?_ | refine cal @hEt2 ?_ | refine cal @hLi2 ?_ | refine cal @hQ2 ?_ | refine cal @hSm ?_ | refine spl ?_ ?_ | fail)
                  all_goals refine WE_loop (i + 1) (by omega) (by omega) (by (repeat (first | exact Sub.nil | (refine Sub.cons (by first | rfl | (simp only [Nat.zero_add]; rfl)) ?_)))) ?_
                  all_goals (dsimp only; rw [hst])
                  all_goals exact entu0
              | true =>
                obtain ⟨m1, m2, m3, m4, m5, m6⟩ := hsn.1 hB
                rw [hB, m1] at hDo
                generalize hsM s l[i] = mm at hDo m3 m4 m5 m6
                have m7 : (mm.kind = 4 ∨ mm.kind = 5 ∨ mm.kind = 6) ∧ 0 < l[i].l1 ∨ (mm.kind ≠ 4 ∧ mm.kind ≠ 5 ∧ mm.kind ≠ 6) ∧ 0 < l[i].l2 := by
                  by_cases h : 4 ≤ mm.kind ∧ mm.kind ≤ 6
                  · left
                    have : netK mm.kind = 1 := by unfold netK; rw [if_neg (by omega), if_pos h]
                    rw [this] at m5
                    exact ⟨by omega, m5⟩
                  · right
                    have : netK mm.kind = 2 := by unfold netK; rw [if_neg (by omega), if_neg h, if_pos (by omega)]
                    rw [this] at m5
                    exact ⟨by omega, m5⟩
                by_cases hof : line = hsOf s l[i]
                · have hof' : ¬ line ≠ hsOf s l[i] := fun h => h hof
                  rcases m7 with ⟨h4 | h4 | h4, hp⟩ | ⟨⟨h4, h5, h6⟩, hp⟩
                  all_goals repeat' (first | rintro _ _ ⟨rfl, rfl⟩ | refine exq fun _ => ?_ | intro _ | refine go ?_ | refine dr_HomBou_6m ?_ | refine drq ?_ | refine cal @hDo ?_ | refine cal @hEt2 ?_ | refine cal @hLi2 ?_ | refine cal @hQ2 ?_ | refine spl ?_ ?_ | fail)
                  all_goals refine WE_loop (i + 1) (by omega) (by omega) (by (repeat (first | exact Sub.nil | (refine Sub.cons (by first | rfl | (simp only [Nat.zero_add]; rfl)) ?_)))) ?_
                  all_goals (dsimp only; rw [hst])
                  all_goals exact entu0
                · have hSm := hSm hof
                  have hWd := hWd hof
                  rcases m7 with ⟨h4 | h4 | h4, hp⟩ | ⟨⟨h4, h5, h6⟩, hp⟩
                  all_goals repeat' (first | rintro _ _ ⟨rfl, rfl⟩ | refine exq fun _ => ?_ | intro _ | refine go ?_ | refine dr_HomBou_6m ?_ | refine drq ?_ | refine cal @hDo ?_ | refine cal @hEt2 ?_ | refine cal @hLi2 ?_ | refine cal @hQ2 ?_ | refine cal @hSm ?_ | refine spl ?_ ?_ | fail)
                  all_goals refine WE_loop (i + 1) (by omega) (by omega) (by (repeat (first | exact Sub.nil | (refine Sub.cons (by first | rfl | (simp only [Nat.zero_add]; rfl)) ?_)))) ?_
                  all_goals (dsimp only; rw [hst])
                  all_goals exact entu0
          · have hil : i = l.length := by omega
            subst hil
            repeat (first | rintro _ _ ⟨rfl, rfl⟩ | refine exq fun _ => ?_ | intro _ | refine go ?_ | refine dr_HomBou_6m ?_ | refine drq ?_)
            exact fin0
end Go.Sx
