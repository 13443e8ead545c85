/- What queues do: the law against the document. My own work. -/
import Derived.Test.YtadedfcjakhfbaaQuLaw
namespace Go.Sx
open Go Go.Proofs
set_option linter.unusedVariables false
set_option linter.unusedSectionVars false
set_option linter.unusedSimpArgs false
set_option maxRecDepth 100000
set_option maxHeartbeats 4000000
attribute [local irreducible] Go.Exit.then Go.Exit.inBlock Go.Code.wp WC WO WE WQ V LoopQ FnQ Sat Star band bor IntKind.wrap WR Code.rounds WT KO
theorem ref15_SameL {F : List HP} {e : TypeId} {v u : Value} {l : List QE} {ps : List QP} (hb : ∀ x ∈ l, x.sends.length ≤ 1000) (k2 : RdL F 17 u ps.length (flat qc ps)) (r2 : RdAll F ps) (hn : l.length ≤ 1000) :
    FnF Try.prog 55 [v, u] [QuL e v l] F (fun r L' => r = .bool (decide (l = ps.map (·.1))) ∧ L' = [QuL e v l]) := by
  refine ⟨enters_of Try.func55 rfl rfl, fun w hw => ?_⟩
  obtain ⟨qs, rfl, hx⟩ := ql_sat hw
  rw [List.length_map] at hn
  have C := ref15_Same (F := Own e 17 v qs.length (flat qc qs) :: All (qs.map qrd) :: F) (v := v) (u := u) (ps := qs) (qs := ps) RdL.own inferInstance inferInstance
    (fun p hp => hb _ (List.mem_map_of_mem hp)) inferInstance (by omega)
  refine (C.runs w hx).mono ?_
  rintro e' w' ⟨v', L', he, ⟨hv, hL⟩, hs⟩
  subst hL
  exact ⟨v', _, he, ⟨hv, rfl⟩, (ql_in Ent.refl rfl rfl rfl).sat hs⟩

theorem law15_Does {W : World} {F : List HP} {room : Int} {v : Value} {l : List QOp} (hr : I64 room) (hw : ∀ o ∈ l, o.ok W ∧ o.sends.length ≤ 2000000000000) (hl : l.length ≤ 9223372036854775807) (k : ROld W 18 v l.length (flat qoc l)) :
    FnF Try.prog 8 [.int .i64 room, v] [Old W] F (fun r L' => r = .bool true ∧ L' = [Old W]) := by
  have hs' : ∀ o ∈ l, o.sends.length ≤ 2000000000000 := fun o ho => (hw o ho).2
  refine FnF.mk' Try.func8 rfl rfl Try.ntmps8 rfl ?_
  by_cases h1 : 1 ≤ room ∧ room ≤ 16
  · repeat (first | rintro _ _ ⟨rfl, rfl⟩ | rintro _ _ ⟨_, rfl, rfl⟩ | rintro _ _ ⟨_, _, rfl, rfl⟩ | intro _ | refine go ?_ | (refine is_draw ?_; apply WC_mix (id := 24) false _ (pl := .r 0 <| .r 1 <| .p 2 <| .p 3 <| .p 4 <| .p 5 <| .p 6 <| .p 7 <| .p 8 <| .p 9 <| .p 10 <| .p 11 <| .p 12 <| .p 13 <| .p 14 <| .p 17 <| .p 18 <| .p 19 <| .r 20 <| .e true [(15, .e true [(16, .e true [(21, .p 22 <| .p 23 <| .p 24 <| .p 25 <| .p 27 <| .p 28 <| .p 29 <| .p 30 <| .r 31 <| .p 32 <| .p 33 <| .e true [(26, .p 34 <| .p 35 <| .p 36 <| .p 37 <| .p 38 <| .p 41 <| .p 42 <| .r 39 <| .r 43 <| .e true [(40, .e true [(44, .p 45 <| .p 46 <| .done)])])])])])]); exact mixed; kernel_rfl; kernel_rfl; exact Ent.refl) | (refine is_draw ?_; refine WC_draw mixed (by kernel_rfl) ?_) | refine cal @law15_awake ?_ | refine cal @law15_large ?_)
    rename_i B hB
    cases B with
    | true =>
      repeat (first | rintro _ _ ⟨rfl, rfl⟩ | rintro _ _ ⟨_, rfl, rfl⟩ | rintro _ _ ⟨_, _, rfl, rfl⟩ | intro _ | refine go ?_ | (refine is_draw ?_; apply WC_mix (id := 24) false _ (pl := .r 0 <| .r 1 <| .p 2 <| .p 3 <| .p 4 <| .p 5 <| .p 6 <| .p 7 <| .p 8 <| .p 9 <| .p 10 <| .p 11 <| .p 12 <| .p 13 <| .p 14 <| .p 17 <| .p 18 <| .p 19 <| .r 20 <| .e true [(15, .e true [(16, .e true [(21, .p 22 <| .p 23 <| .p 24 <| .p 25 <| .p 27 <| .p 28 <| .p 29 <| .p 30 <| .r 31 <| .p 32 <| .p 33 <| .e true [(26, .p 34 <| .p 35 <| .p 36 <| .p 37 <| .p 38 <| .p 41 <| .p 42 <| .r 39 <| .r 43 <| .e true [(40, .e true [(44, .p 45 <| .p 46 <| .done)])])])])])]); exact mixed; kernel_rfl; kernel_rfl; exact Ent.refl) | (refine is_draw ?_; refine WC_draw mixed (by kernel_rfl) ?_))
      (apply WE_ret rfl rfl (by (repeat (first | exact ResOk.nil | (apply ResOk.tmp; rfl) | (apply resOk_cell; rfl; exact inferInstance; rfl; rfl)))); (first | exact ⟨rfl, rfl⟩ | exact ⟨congrArg Value.bool (by decide), rfl⟩ | exact ⟨_, rfl, rfl⟩ | exact ⟨_, _, rfl, rfl⟩ | exact ⟨by first | (simp []; done) | (simp [] <;> omega), rfl⟩); (repeat (first | exact Ent.refl | exact Ent.nil | apply Ent.pick | apply Ent.drop)))
    | false =>
      obtain ⟨hlen, hsm⟩ := hB rfl
      repeat (first | rintro _ _ ⟨rfl, rfl⟩ | rintro _ _ ⟨_, rfl, rfl⟩ | rintro _ _ ⟨_, _, rfl, rfl⟩ | intro _ | refine go ?_ | (refine is_draw ?_; apply WC_mix (id := 24) false _ (pl := .r 0 <| .r 1 <| .p 2 <| .p 3 <| .p 4 <| .p 5 <| .p 6 <| .p 7 <| .p 8 <| .p 9 <| .p 10 <| .p 11 <| .p 12 <| .p 13 <| .p 14 <| .p 17 <| .p 18 <| .p 19 <| .r 20 <| .e true [(15, .e true [(16, .e true [(21, .p 22 <| .p 23 <| .p 24 <| .p 25 <| .p 27 <| .p 28 <| .p 29 <| .p 30 <| .r 31 <| .p 32 <| .p 33 <| .e true [(26, .p 34 <| .p 35 <| .p 36 <| .p 37 <| .p 38 <| .p 41 <| .p 42 <| .r 39 <| .r 43 <| .e true [(40, .e true [(44, .p 45 <| .p 46 <| .done)])])])])])]); exact mixed; kernel_rfl; kernel_rfl; exact Ent.refl) | (refine is_draw ?_; refine WC_draw mixed (by kernel_rfl) ?_) | refine cal @qu_New ?_ | refine cal @ref15_New ?_)
      rename_i b br
      apply WC_loopE (E0 := [(0, _), (1, _), (5, _), (7, _)]) (fun E0 (q : Nat × List QE) => (9, .int .i64 q.1) :: E0) (fun q => QuP b room q.2 :: QuR br room q.2 :: Old W :: F) (fun q => q.1 ≤ l.length ∧ (q.2.length : Int) ≤ room) (fun q => l.length - q.1) (0, [])
      · (repeat (first | exact Sub.nil | (refine Sub.cons (by first | rfl | (simp only [Nat.zero_add]; rfl)) ?_)))
      · exact ⟨Nat.zero_le _, by simp; omega⟩
      · (repeat (first | (with_reducible exact Ent.refl) | exact Ent.nil | (apply ent_pickE; (focus ((repeat (first | (with_reducible exact pk_here) | (apply pk_there))); done))) | apply Ent.drop))
      · rintro ⟨i, q⟩ ⟨hi, hq⟩
        dsimp only at hi hq ⊢
        by_cases hlt : i < l.length
        · have hok := hw _ (List.getElem_mem hlt)
          have hsx := hsm _ (List.getElem_mem hlt)
          have hD := fun F => qu_do (W := W) (F := F) (b := b) (room := room) (l := q) (x := l[i]) hok.1 (by omega)
          have hq2 := qroom_do (room := room) (l := q) (x := l[i]) hq
          repeat (first | rintro _ _ ⟨rfl, rfl⟩ | rintro _ _ ⟨_, rfl, rfl⟩ | rintro _ _ ⟨_, _, rfl, rfl⟩ | intro _ | refine go ?_ | refine cal @hD ?_)
          rename_i bx bm bn
          apply WC_join (P := Try.prog) (fun _ : Unit => [(0, .int .i64 room), (1, v), (5, .pointer (some ⟨b, 0, none⟩)), (7, .pointer (some ⟨br, 0, none⟩)), (9, .int .i64 i), (10, .pointer (some ⟨bx, 0, none⟩)), (11, .pointer (some ⟨bm, 0, none⟩)), (12, .bool (qdoB q l[i])), (13, .int .i64 (qdoE room q l[i])), (14, .pointer (some ⟨bn, 0, none⟩)), (15, .bool (qdoB q l[i])), (16, .int .i64 (qdoE room q l[i]))])
            (fun _ => QuR br room (qdoL room q l[i]) :: Cells bn 52 (mc (qdoM q l[i])) :: Cells bm 52 (mc (qdoM q l[i])) :: Cells bx 96 (qoc l[i]) :: QuP b room (qdoL room q l[i]) :: Old W :: F) (fun _ => True)
          · intro join
            haveI := hok.1.2.1
            by_cases g0 : l[i].d = 0
            · have e1 : qaddE room q l[i].m = qdoE room q l[i] := by simp [qdoE, g0]
              have e2 : qaddL room q l[i].m = qdoL room q l[i] := by simp [qdoL, g0]
              have e3 : qdoM q l[i] = .zero := by simp [qdoM, g0]
              have e4 : qdoB q l[i] = false := by simp [qdoB, g0]
              have hA := fun F => ref15_Add (F := F) (b := br) (room := room) (l := q) (m := l[i].m)
              simp only [e1, e2] at hA
              repeat (first | rintro _ _ ⟨rfl, rfl⟩ | rintro _ _ ⟨_, rfl, rfl⟩ | rintro _ _ ⟨_, _, rfl, rfl⟩ | intro _ | refine go ?_ | refine cal @hA ?_)
              simp only [e3, e4] at join ⊢
              exact join () _ _ trivial (by (repeat (first | exact Sub.nil | (refine Sub.cons (by first | rfl | (simp only [Nat.zero_add]; rfl)) ?_)))) (by (repeat (first | (with_reducible exact Ent.refl) | exact Ent.nil | (apply ent_pickE; (focus ((repeat (first | (with_reducible exact pk_here) | (apply pk_there))); done))) | apply Ent.drop)))
            · by_cases g1 : l[i].d = 1
              · have e1 : qstartE q l[i].n l[i].sends = qdoE room q l[i] := by simp [qdoE, g1]
                have e2 : qstartL q l[i].n l[i].sends = qdoL room q l[i] := by simp [qdoL, g1]
                have e3 : qdoM q l[i] = .zero := by simp [qdoM, g1]
                have e4 : qdoB q l[i] = false := by simp [qdoB, g1]
                have hA := fun F u (k : RdL F 15 u l[i].sends.length (flat mc l[i].sends)) => ref15_Start (F := F) (b := br) (room := room) (l := q) (n := l[i].n) k (by omega)
                simp only [e1, e2] at hA
                repeat (first | rintro _ _ ⟨rfl, rfl⟩ | rintro _ _ ⟨_, rfl, rfl⟩ | rintro _ _ ⟨_, _, rfl, rfl⟩ | intro _ | refine go ?_ | refine cal @hA ?_)
                simp only [e3, e4] at join ⊢
                exact join () _ _ trivial (by (repeat (first | exact Sub.nil | (refine Sub.cons (by first | rfl | (simp only [Nat.zero_add]; rfl)) ?_)))) (by (repeat (first | (with_reducible exact Ent.refl) | exact Ent.nil | (apply ent_pickE; (focus ((repeat (first | (with_reducible exact pk_here) | (apply pk_there))); done))) | apply Ent.drop)))
              · by_cases g2 : l[i].d = 2
                · have e1 : qsentE q l[i].n = qdoE room q l[i] := by simp [qdoE, g2]
                  have e2 : qsentL q l[i].n = qdoL room q l[i] := by simp [qdoL, g2]
                  have e3 : qnextM q l[i].n = qdoM q l[i] := by simp [qdoM, g2]
                  have e4 : qnextB q l[i].n = qdoB q l[i] := by simp [qdoB, g2]
                  have hA := fun F => ref15_Next (F := F) (b := br) (room := room) (l := q) (n := l[i].n)
                  have hA2 := fun F => ref15_Sent (F := F) (b := br) (room := room) (l := q) (n := l[i].n)
                  simp only [e3, e4] at hA
                  simp only [e1, e2] at hA2
                  repeat (first | rintro _ _ ⟨rfl, rfl⟩ | rintro _ _ ⟨_, rfl, rfl⟩ | rintro _ _ ⟨_, _, rfl, rfl⟩ | intro _ | refine go ?_ | refine cal @hA ?_ | refine cal @hA2 ?_)
                  exact join () _ _ trivial (by (repeat (first | exact Sub.nil | (refine Sub.cons (by first | rfl | (simp only [Nat.zero_add]; rfl)) ?_)))) (by (repeat (first | (with_reducible exact Ent.refl) | exact Ent.nil | (apply ent_pickE; (focus ((repeat (first | (with_reducible exact pk_here) | (apply pk_there))); done))) | apply Ent.drop)))
                · have e1 : qfinE q l[i].m.line l[i].m.src = qdoE room q l[i] := by simp [qdoE, g0, g1, g2]
                  have e2 : qfinL q l[i].m.line l[i].m.src = qdoL room q l[i] := by simp [qdoL, g0, g1, g2]
                  have e3 : qdoM q l[i] = .zero := by simp [qdoM, g0, g1, g2]
                  have e4 : qdoB q l[i] = false := by simp [qdoB, g0, g1, g2]
                  have hA := fun F => ref15_Finish (F := F) (b := br) (room := room) (l := q) (line := l[i].m.line) (src := l[i].m.src)
                  simp only [e1, e2] at hA
                  repeat (first | rintro _ _ ⟨rfl, rfl⟩ | rintro _ _ ⟨_, rfl, rfl⟩ | rintro _ _ ⟨_, _, rfl, rfl⟩ | intro _ | refine go ?_ | refine cal @hA ?_)
                  simp only [e3, e4] at join ⊢
                  exact join () _ _ trivial (by (repeat (first | exact Sub.nil | (refine Sub.cons (by first | rfl | (simp only [Nat.zero_add]; rfl)) ?_)))) (by (repeat (first | (with_reducible exact Ent.refl) | exact Ent.nil | (apply ent_pickE; (focus ((repeat (first | (with_reducible exact pk_here) | (apply pk_there))); done))) | apply Ent.drop)))
          intro _ _
          generalize hgl : qdoL room q l[i] = q2 at hq2 ⊢
          refine qu_open fun p c ps hf => ?_
          obtain ⟨rfl, f1, f2, f3, hcp⟩ := hf
          have hLb : ∀ x ∈ ps.map (·.1), x.sends.length ≤ 1000 := fun x hx => by
            obtain ⟨y, hy, rfl⟩ := List.mem_map.1 hx
            exact (f3 y hy).2
          have hHO := fun F => ref15_HasO (F := F) (b := br) (room := room) (p := p) (c := c) (ps := ps) (n := l[i].n)
          have hRO := fun F => ref15_ReadyO (F := F) (b := br) (room := room) (p := p) (c := c) (ps := ps) (n := l[i].n) (by omega)
          have hSm : ∀ F e v u, RdL F 17 u ps.length (flat qc ps) → RdAll F ps → FnF Try.prog 55 [v, u] [QuL e v (ps.map (·.1))] F (fun r L' => r = .bool true ∧ L' = [QuL e v (ps.map (·.1))]) := fun F e v u k2 r2 => by
            have := ref15_SameL (F := F) (e := e) (v := v) (u := u) hLb k2 r2 (by rw [List.length_map]; omega)
            simpa using this
          have hRP := fun F => qu_Ready (F := F) (b := b) (room := room) (l := ps.map (·.1)) (n := l[i].n)
          have hLP := fun F => qu_Left (F := F) (b := b) (room := room) (l := ps.map (·.1))
          simp only [List.length_map] at hLP
          have hOw := fun F v => law15_own (F := F) (v := v) (l := ps.map (·.1)) (by rw [List.length_map]; omega)
          repeat (first | rintro _ _ ⟨rfl, rfl⟩ | rintro _ _ ⟨_, rfl, rfl⟩ | rintro _ _ ⟨_, _, rfl, rfl⟩ | intro _ | refine go ?_ | (refine is_draw ?_; apply WC_mix (id := 24) false _ (pl := .r 0 <| .r 1 <| .p 2 <| .p 3 <| .p 4 <| .p 5 <| .p 6 <| .p 7 <| .p 8 <| .p 9 <| .p 10 <| .p 11 <| .p 12 <| .p 13 <| .p 14 <| .p 17 <| .p 18 <| .p 19 <| .r 20 <| .e true [(15, .e true [(16, .e true [(21, .p 22 <| .p 23 <| .p 24 <| .p 25 <| .p 27 <| .p 28 <| .p 29 <| .p 30 <| .r 31 <| .p 32 <| .p 33 <| .e true [(26, .p 34 <| .p 35 <| .p 36 <| .p 37 <| .p 38 <| .p 41 <| .p 42 <| .r 39 <| .r 43 <| .e true [(40, .e true [(44, .p 45 <| .p 46 <| .done)])])])])])]); exact mixed; kernel_rfl; kernel_rfl; exact Ent.refl) | (refine is_draw ?_; refine WC_draw mixed (by kernel_rfl) ?_) | refine cal @qu_List ?_ | refine cal @hOw ?_ | refine cal @hSm ?_ | refine cal @hLP ?_ | refine cal @hRP ?_ | refine cal @hRO ?_)
          cases eq : qin (ps.map (·.1)) l[i].n with
          | true =>
            rw [eq] at hHO
            obtain ⟨j, hj, ej, ea⟩ := qin_t eq
            have hjn : l[i].n.toNat < ps.length := by rw [List.length_map] at hj; omega
            have hn0 : 0 ≤ l[i].n := by omega
            have hn1 : l[i].n < ps.length := by omega
            have ea2 : qat (ps.map (·.1)) l[i].n = ps[l[i].n.toNat].1 := by
              have : l[i].n.toNat = j := by omega
              simp only [ea, this, List.getElem_map]
            have hb3 := (f3 _ (List.getElem_mem hjn)).2
            have hG := fun F => qu_Gete (F := F) (b := b) (room := room) eq (by rw [ea2]; omega)
            simp only [ea2] at hG
            haveI kr := fun L => rd_all (ps := ps) (p := ps[l[i].n.toNat]) (List.getElem_mem hjn) (L := L)
            have hO : ∀ F a c, RdL F 15 (.slice a ps[l[i].n.toNat].1.sends.length c) ps[l[i].n.toNat].1.sends.length (flat mc ps[l[i].n.toNat].1.sends) → RdL F 15 (qsl ps[l[i].n.toNat]) ps[l[i].n.toNat].1.sends.length (flat mc ps[l[i].n.toNat].1.sends) →
                FnF Try.prog 63 [.agg (qcv ps[l[i].n.toNat].1 a c).toArray, qv ps[l[i].n.toNat]] [] F (fun r L' => r = .bool true ∧ L' = []) := fun F a c k1 k2 => by
              have := ref15_One (F := F) (p := (ps[l[i].n.toNat].1, (a, c))) (q := ps[l[i].n.toNat]) k1 k2 (by dsimp only; omega)
              simpa using this
            repeat (first | rintro _ _ ⟨rfl, rfl⟩ | rintro _ _ ⟨_, rfl, rfl⟩ | rintro _ _ ⟨_, _, rfl, rfl⟩ | intro _ | refine go ?_ | (refine is_draw ?_; apply WC_mix (id := 24) false _ (pl := .r 0 <| .r 1 <| .p 2 <| .p 3 <| .p 4 <| .p 5 <| .p 6 <| .p 7 <| .p 8 <| .p 9 <| .p 10 <| .p 11 <| .p 12 <| .p 13 <| .p 14 <| .p 17 <| .p 18 <| .p 19 <| .r 20 <| .e true [(15, .e true [(16, .e true [(21, .p 22 <| .p 23 <| .p 24 <| .p 25 <| .p 27 <| .p 28 <| .p 29 <| .p 30 <| .r 31 <| .p 32 <| .p 33 <| .e true [(26, .p 34 <| .p 35 <| .p 36 <| .p 37 <| .p 38 <| .p 41 <| .p 42 <| .r 39 <| .r 43 <| .e true [(40, .e true [(44, .p 45 <| .p 46 <| .done)])])])])])]); exact mixed; kernel_rfl; kernel_rfl; exact Ent.refl) | (refine is_draw ?_; refine WC_draw mixed (by kernel_rfl) ?_) | refine cal @hG ?_ | refine cal @hHO ?_ | refine cal @hO ?_)
            refine WE_loop (i + 1, ps.map (·.1)) (by dsimp only; omega) ⟨by dsimp only; omega, hq2⟩ ?_ ?_
            · (repeat (first | exact Sub.nil | (refine Sub.cons (by first | rfl | (simp only [Nat.zero_add]; rfl)) ?_)))
            · ((repeat (first | (with_reducible exact Ent.refl) | exact Ent.nil | (apply ent_pickE; (focus ((repeat (first | (with_reducible exact pk_here) | (apply pk_there))); done))) | (apply qu_in) | apply Ent.drop)); all_goals (first | rfl | (with_reducible assumption) | (simp; done) | (simp; omega) | omega | (constructor <;> (simp) <;> omega)))
          | false =>
            rw [eq] at hHO
            have hG := fun F => qu_Get_no (F := F) (b := b) (room := room) eq
            have hO := fun F => ref15_One (F := F) (p := ((⟨.zero, false, []⟩ : QE), (none, 0))) (q := ((⟨.zero, false, []⟩ : QE), (none, 0))) rd_empty rd_empty (by simp)
            simp only [decide_true] at hO
            repeat (first | rintro _ _ ⟨rfl, rfl⟩ | rintro _ _ ⟨_, rfl, rfl⟩ | rintro _ _ ⟨_, _, rfl, rfl⟩ | intro _ | refine go ?_ | (refine is_draw ?_; apply WC_mix (id := 24) false _ (pl := .r 0 <| .r 1 <| .p 2 <| .p 3 <| .p 4 <| .p 5 <| .p 6 <| .p 7 <| .p 8 <| .p 9 <| .p 10 <| .p 11 <| .p 12 <| .p 13 <| .p 14 <| .p 17 <| .p 18 <| .p 19 <| .r 20 <| .e true [(15, .e true [(16, .e true [(21, .p 22 <| .p 23 <| .p 24 <| .p 25 <| .p 27 <| .p 28 <| .p 29 <| .p 30 <| .r 31 <| .p 32 <| .p 33 <| .e true [(26, .p 34 <| .p 35 <| .p 36 <| .p 37 <| .p 38 <| .p 41 <| .p 42 <| .r 39 <| .r 43 <| .e true [(40, .e true [(44, .p 45 <| .p 46 <| .done)])])])])])]); exact mixed; kernel_rfl; kernel_rfl; exact Ent.refl) | (refine is_draw ?_; refine WC_draw mixed (by kernel_rfl) ?_) | refine cal @hG ?_ | refine cal @hHO ?_ | refine cal @hO ?_)
            refine WE_loop (i + 1, ps.map (·.1)) (by dsimp only; omega) ⟨by dsimp only; omega, hq2⟩ ?_ ?_
            · (repeat (first | exact Sub.nil | (refine Sub.cons (by first | rfl | (simp only [Nat.zero_add]; rfl)) ?_)))
            · ((repeat (first | (with_reducible exact Ent.refl) | exact Ent.nil | (apply ent_pickE; (focus ((repeat (first | (with_reducible exact pk_here) | (apply pk_there))); done))) | (apply qu_in) | apply Ent.drop)); all_goals (first | rfl | (with_reducible assumption) | (simp; done) | (simp; omega) | omega | (constructor <;> (simp) <;> omega)))
        · repeat (first | rintro _ _ ⟨rfl, rfl⟩ | rintro _ _ ⟨_, rfl, rfl⟩ | rintro _ _ ⟨_, _, rfl, rfl⟩ | intro _ | refine go ?_ | (refine is_draw ?_; apply WC_mix (id := 24) false _ (pl := .r 0 <| .r 1 <| .p 2 <| .p 3 <| .p 4 <| .p 5 <| .p 6 <| .p 7 <| .p 8 <| .p 9 <| .p 10 <| .p 11 <| .p 12 <| .p 13 <| .p 14 <| .p 17 <| .p 18 <| .p 19 <| .r 20 <| .e true [(15, .e true [(16, .e true [(21, .p 22 <| .p 23 <| .p 24 <| .p 25 <| .p 27 <| .p 28 <| .p 29 <| .p 30 <| .r 31 <| .p 32 <| .p 33 <| .e true [(26, .p 34 <| .p 35 <| .p 36 <| .p 37 <| .p 38 <| .p 41 <| .p 42 <| .r 39 <| .r 43 <| .e true [(40, .e true [(44, .p 45 <| .p 46 <| .done)])])])])])]); exact mixed; kernel_rfl; kernel_rfl; exact Ent.refl) | (refine is_draw ?_; refine WC_draw mixed (by kernel_rfl) ?_))
          (apply WE_ret rfl rfl (by (repeat (first | exact ResOk.nil | (apply ResOk.tmp; rfl) | (apply resOk_cell; rfl; exact inferInstance; rfl; rfl)))); (first | exact ⟨rfl, rfl⟩ | exact ⟨congrArg Value.bool (by decide), rfl⟩ | exact ⟨_, rfl, rfl⟩ | exact ⟨_, _, rfl, rfl⟩ | exact ⟨by first | (simp []; done) | (simp [] <;> omega), rfl⟩); (repeat (first | exact Ent.refl | exact Ent.nil | apply Ent.pick | apply Ent.drop)))
  · repeat (first | rintro _ _ ⟨rfl, rfl⟩ | rintro _ _ ⟨_, rfl, rfl⟩ | rintro _ _ ⟨_, _, rfl, rfl⟩ | intro _ | refine go ?_ | (refine is_draw ?_; apply WC_mix (id := 24) false _ (pl := .r 0 <| .r 1 <| .p 2 <| .p 3 <| .p 4 <| .p 5 <| .p 6 <| .p 7 <| .p 8 <| .p 9 <| .p 10 <| .p 11 <| .p 12 <| .p 13 <| .p 14 <| .p 17 <| .p 18 <| .p 19 <| .r 20 <| .e true [(15, .e true [(16, .e true [(21, .p 22 <| .p 23 <| .p 24 <| .p 25 <| .p 27 <| .p 28 <| .p 29 <| .p 30 <| .r 31 <| .p 32 <| .p 33 <| .e true [(26, .p 34 <| .p 35 <| .p 36 <| .p 37 <| .p 38 <| .p 41 <| .p 42 <| .r 39 <| .r 43 <| .e true [(40, .e true [(44, .p 45 <| .p 46 <| .done)])])])])])]); exact mixed; kernel_rfl; kernel_rfl; exact Ent.refl) | (refine is_draw ?_; refine WC_draw mixed (by kernel_rfl) ?_) | refine cal @law15_awake ?_ | refine cal @law15_large ?_)
    rename_i B hB
    cases B with
    | true =>
      repeat (first | rintro _ _ ⟨rfl, rfl⟩ | rintro _ _ ⟨_, rfl, rfl⟩ | rintro _ _ ⟨_, _, rfl, rfl⟩ | intro _ | refine go ?_ | (refine is_draw ?_; apply WC_mix (id := 24) false _ (pl := .r 0 <| .r 1 <| .p 2 <| .p 3 <| .p 4 <| .p 5 <| .p 6 <| .p 7 <| .p 8 <| .p 9 <| .p 10 <| .p 11 <| .p 12 <| .p 13 <| .p 14 <| .p 17 <| .p 18 <| .p 19 <| .r 20 <| .e true [(15, .e true [(16, .e true [(21, .p 22 <| .p 23 <| .p 24 <| .p 25 <| .p 27 <| .p 28 <| .p 29 <| .p 30 <| .r 31 <| .p 32 <| .p 33 <| .e true [(26, .p 34 <| .p 35 <| .p 36 <| .p 37 <| .p 38 <| .p 41 <| .p 42 <| .r 39 <| .r 43 <| .e true [(40, .e true [(44, .p 45 <| .p 46 <| .done)])])])])])]); exact mixed; kernel_rfl; kernel_rfl; exact Ent.refl) | (refine is_draw ?_; refine WC_draw mixed (by kernel_rfl) ?_))
      (apply WE_ret rfl rfl (by (repeat (first | exact ResOk.nil | (apply ResOk.tmp; rfl) | (apply resOk_cell; rfl; exact inferInstance; rfl; rfl)))); (first | exact ⟨rfl, rfl⟩ | exact ⟨congrArg Value.bool (by decide), rfl⟩ | exact ⟨_, rfl, rfl⟩ | exact ⟨_, _, rfl, rfl⟩ | exact ⟨by first | (simp []; done) | (simp [] <;> omega), rfl⟩); (repeat (first | exact Ent.refl | exact Ent.nil | apply Ent.pick | apply Ent.drop)))
    | false =>
      repeat (first | rintro _ _ ⟨rfl, rfl⟩ | rintro _ _ ⟨_, rfl, rfl⟩ | rintro _ _ ⟨_, _, rfl, rfl⟩ | intro _ | refine go ?_ | (refine is_draw ?_; apply WC_mix (id := 24) false _ (pl := .r 0 <| .r 1 <| .p 2 <| .p 3 <| .p 4 <| .p 5 <| .p 6 <| .p 7 <| .p 8 <| .p 9 <| .p 10 <| .p 11 <| .p 12 <| .p 13 <| .p 14 <| .p 17 <| .p 18 <| .p 19 <| .r 20 <| .e true [(15, .e true [(16, .e true [(21, .p 22 <| .p 23 <| .p 24 <| .p 25 <| .p 27 <| .p 28 <| .p 29 <| .p 30 <| .r 31 <| .p 32 <| .p 33 <| .e true [(26, .p 34 <| .p 35 <| .p 36 <| .p 37 <| .p 38 <| .p 41 <| .p 42 <| .r 39 <| .r 43 <| .e true [(40, .e true [(44, .p 45 <| .p 46 <| .done)])])])])])]); exact mixed; kernel_rfl; kernel_rfl; exact Ent.refl) | (refine is_draw ?_; refine WC_draw mixed (by kernel_rfl) ?_) | refine cal @qu_New_no ?_ | refine cal @ref15_New_no ?_)
      refine WC_rounds 1 ?_
      repeat (first | rintro _ _ ⟨rfl, rfl⟩ | rintro _ _ ⟨_, rfl, rfl⟩ | rintro _ _ ⟨_, _, rfl, rfl⟩ | intro _ | refine go ?_ | (refine is_draw ?_; apply WC_mix (id := 24) false _ (pl := .r 0 <| .r 1 <| .p 2 <| .p 3 <| .p 4 <| .p 5 <| .p 6 <| .p 7 <| .p 8 <| .p 9 <| .p 10 <| .p 11 <| .p 12 <| .p 13 <| .p 14 <| .p 17 <| .p 18 <| .p 19 <| .r 20 <| .e true [(15, .e true [(16, .e true [(21, .p 22 <| .p 23 <| .p 24 <| .p 25 <| .p 27 <| .p 28 <| .p 29 <| .p 30 <| .r 31 <| .p 32 <| .p 33 <| .e true [(26, .p 34 <| .p 35 <| .p 36 <| .p 37 <| .p 38 <| .p 41 <| .p 42 <| .r 39 <| .r 43 <| .e true [(40, .e true [(44, .p 45 <| .p 46 <| .done)])])])])])]); exact mixed; kernel_rfl; kernel_rfl; exact Ent.refl) | (refine is_draw ?_; refine WC_draw mixed (by kernel_rfl) ?_))
      (apply WE_ret rfl rfl (by (repeat (first | exact ResOk.nil | (apply ResOk.tmp; rfl) | (apply resOk_cell; rfl; exact inferInstance; rfl; rfl)))); (first | exact ⟨rfl, rfl⟩ | exact ⟨congrArg Value.bool (by decide), rfl⟩ | exact ⟨_, rfl, rfl⟩ | exact ⟨_, _, rfl, rfl⟩ | exact ⟨by first | (simp []; done) | (simp [] <;> omega), rfl⟩); (repeat (first | exact Ent.refl | exact Ent.nil | apply Ent.pick | apply Ent.drop)))
end Go.Sx
