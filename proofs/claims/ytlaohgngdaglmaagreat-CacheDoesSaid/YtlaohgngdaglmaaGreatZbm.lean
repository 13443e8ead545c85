/- CaDoes: several of my texts as one. My own work. -/
import Derived.Test.YtlaohgngdaglmaaGreatZbl
import Derived.Test.YtlaohgngdaglmaaGreatZat
/- The law of caches: step by step. My own work. -/
namespace Go.Sx
open Go Go.Proofs
set_option linter.unusedVariables false
set_option linter.unusedSectionVars false
set_option linter.unusedSimpArgs false
theorem caRO_shut {b a f e g : Nat} {p2 p3 : Option Addr} {c2 c3 : Nat} {c : Cfg} {core : Int} {k : CaS} {M : List HP} (hf : CaFacts c core k) (hI : ArrInv c k.ways) : Ent (app (CaRX b a f e g p2 c2 p3 c3 c core k) M) (app (CaRO b a f e c core k) M) := by
  obtain ⟨hc, hn, hm, hb, h0, h1⟩ := hf
  have hr := cfg_rooms hc
  have hm2 : (k.mis.length : Int) ≤ c.mshrs ∧ c.mshrs ≤ 4096 := by omega
  have hb2 : (k.buf.length : Int) ≤ c.writebacks ∧ c.writebacks ≤ 4096 := by omega
  simp only [CaRX, ← wsl_eq]
  apply ent_pickE
  · (focus ((repeat (first | (with_reducible exact pk_here) | (apply pk_there))); done))
  apply arrr_in
  · (apply ent_pickE; (focus ((repeat (first | (with_reducible exact pk_here) | (apply pk_there))); done)))
    (apply ent_pickE; (focus ((repeat (first | (with_reducible exact pk_here) | (apply pk_there))); done)))
    apply RL_in
    · (apply ent_pickE; (focus ((repeat (first | (with_reducible exact pk_here) | (apply pk_there))); done)))
      (apply ent_pickE; (focus ((repeat (first | (with_reducible exact pk_here) | (apply pk_there))); done)))
      apply RL_in
      · (apply ent_pickE; (focus ((repeat (first | (with_reducible exact pk_here) | (apply pk_there))); done)))
        (apply ent_pickE; (focus ((repeat (first | (with_reducible exact pk_here) | (apply pk_there))); done)))
        exact Ent.refl
      · rfl
      · rfl
      · exact hb2
    · rfl
    · rfl
    · exact hm2
  · rfl
  · rfl
  · exact hc
  · exact hn
  · exact hI
set_option maxRecDepth 100000
set_option maxHeartbeats 4000000
attribute [local irreducible] Go.Exit.then Go.Exit.inBlock Go.Code.wp WC WO WE WQ V LoopQ FnQ Sat Star band bor IntKind.wrap WR Code.rounds WT KO
theorem dr_CaDoes_3m {Q P : Prop} (k : Q) (h : Hid Q → P := by
  intro k
  first
  | (refine is_draw ?_; apply WC_mix (id := 12) (.only [5,11]) _ (pl := .p 0 <| .p 1 <| .p 2 <| .p 3 <| .p 6 <| .p 7 <| .p 8 <| .p 9 <| .r 4 <| .e true [(5, .n [11] <| .r 10 <| .e true [(11, .n [] <| .p 12 <| .p 13 <| .p 15 <| .p 17 <| .p 18 <| .p 19 <| .p 24 <| .p 25 <| .p 26 <| .p 31 <| .p 32 <| .p 33 <| .r 14 <| .r 20 <| .p 21 <| .p 22 <| .r 23 <| .r 27 <| .p 28 <| .p 29 <| .r 30 <| .r 34 <| .p 35 <| .p 36 <| .r 37 <| .p 38 <| .e true [(16, .e true [(39, .p 40 <| .p 41 <| .done)])])]), (10, .e true [(5, .n [11] <| .e true [(11, .n [] <| .p 12 <| .p 13 <| .p 15 <| .p 17 <| .p 18 <| .p 19 <| .p 24 <| .p 25 <| .p 26 <| .p 31 <| .p 32 <| .p 33 <| .r 14 <| .r 20 <| .p 21 <| .p 22 <| .r 23 <| .r 27 <| .p 28 <| .p 29 <| .r 30 <| .r 34 <| .p 35 <| .p 36 <| .r 37 <| .p 38 <| .e true [(16, .e true [(39, .p 40 <| .p 41 <| .done)])])])])]); exact mixed; kernel_rfl; kernel_rfl; exact Ent.refl; exact k.out)
  | (refine is_draw ?_; apply WC_mix (id := 15) (.only [15]) _ (pl := .p 0 <| .p 1 <| .p 2 <| .p 4 <| .p 5 <| .p 6 <| .p 7 <| .r 3 <| .r 8 <| .e true [(9, .p 10 <| .p 11 <| .p 12 <| .p 13 <| .e true [(14, .e true [(15, .n [] <| .p 16 <| .p 17 <| .done)])]), (14, .e true [(9, .p 10 <| .p 11 <| .p 12 <| .p 13 <| .e true [(15, .n [] <| .p 16 <| .p 17 <| .done)])])]); exact mixed; kernel_rfl; kernel_rfl; exact Ent.refl; exact k.out)) : P := h ⟨k⟩
theorem law14_Does {W : World} {F : List HP} {c : Cfg} {v : Value} {l : List CStep} {core : Int} (hc : c.wf) (hco : I64 core) (hl : l.length ≤ 9223372036854775807) (k : ROld W 21 v l.length (flat csc l)) (hwf : ∀ x ∈ l, CStep.wf x) :
    FnF Tryz.prog 3 [c.val, .int .i64 core, v] [Old W] F (fun r L' => r = .bool true ∧ L' = [Old W]) := by
  refine FnF.mk' Tryz.func3 rfl rfl Tryz.ntmps3 rfl ?_
  by_cases hm : 60 < l.length
  · repeat (first | rintro _ _ ⟨rfl, rfl⟩ | refine exq fun _ => ?_ | intro _ | refine go ?_ | refine dr_CaDoes_3m ?_ | refine drq ?_ | refine cal @law14_awake ?_)
    exact fin0
  · cases hL : largeB c with
    | true =>
      have hLg := fun F => law14_large (F := F) (c := c)
      rw [hL] at hLg
      repeat (first | rintro _ _ ⟨rfl, rfl⟩ | refine exq fun _ => ?_ | intro _ | refine go ?_ | refine dr_CaDoes_3m ?_ | refine drq ?_ | refine cal @law14_awake ?_ | refine cal @hLg ?_)
      exact fin0
    | false =>
      have hLg := fun F => law14_large (F := F) (c := c)
      rw [hL] at hLg
      by_cases he : checkB c = true ∧ 0 ≤ core ∧ core < c.cores
      · have hN := fun F => ca_New (F := F) hc he
        have hR := fun F => ref14_New (F := F) hc he
        repeat (first | rintro _ _ ⟨rfl, rfl⟩ | refine exq fun _ => ?_ | intro _ | refine go ?_ | refine dr_CaDoes_3m ?_ | refine drq ?_ | refine cal @law14_awake ?_ | refine cal @hLg ?_ | refine cal @hN ?_ | refine cal @hR ?_)
        rename_i bx b br
        apply WC_loopE (E0 := [(2, _), (3, _), (7, _), (9, _)]) (fun E0 (i : Nat) => (11, .int .i64 i) :: E0) (fun i => CaP b c core (stKs c core ⟨List.replicate (c.sets * c.ways).toNat .zero, [], []⟩ (l.take i)) :: CaR br c core (stKs c core ⟨List.replicate (c.sets * c.ways).toNat .zero, [], []⟩ (l.take i)) :: Cells bx 24 c.cells :: Old W :: F) (fun i => i ≤ l.length) (fun i => l.length - i) 0
        · (repeat (first | exact Sub.nil | (refine Sub.cons (by first | rfl | (simp only [Nat.zero_add]; rfl)) ?_)))
        · exact Nat.zero_le _
        · simp only [List.take_zero, stKs, List.foldl_nil]; exact entu0
        · intro i hi
          by_cases hlt : i < l.length
          · have hx := hwf l[i] (List.getElem_mem hlt)
            have hI := stKs_inv (core := core) (l := l) (caInv_new c 0 (c.sets * c.ways).toNat) i hi
            have hI2 := stKs_inv (core := core) (l := l) (caInv_new c 0 (c.sets * c.ways).toNat) (i + 1) hlt
            have hsu := stKs_succ (c := c) (core := core) (k := ⟨List.replicate (c.sets * c.ways).toNat .zero, [], []⟩) hlt
            rw [hsu] at hI2
            generalize stKs c core ⟨List.replicate (c.sets * c.ways).toNat .zero, [], []⟩ (l.take i) = ki at *
            have hD := fun F => law14_do (F := F) (b := b) (core := core) hI (by omega) hx
            have hO := fun F => FnF.openX (law14_own (F := F) (b := br) (core := core) hI (by omega) hx)
            generalize stK c core ki l[i] = k2 at *
            generalize stM c core ki l[i] = rm at *
            generalize stB c core ki l[i] = rb at *
            generalize stN c ki l[i] = rn at *
            generalize stE c core ki l[i] = re at *
            have hD' := fun F => FnF.withFacts (hD F)
            have hLook := fun F => ca_Look (F := F) (b := b) (c := c) (core := core) (k := k2) (line := l[i].a) hx.2.1
            have hFi := fun F a => ref09_Find (F := F) (b := a) (c := c) (l := k2.ways) (line := l[i].a)
            generalize findW c k2.ways l[i].a = fw at *
            generalize findB c k2.ways l[i].a = fb at *
            generalize findI c k2.ways l[i].a = fi at *
            have hSm := fun F (v1 v2 v3 u1 u2 u3 : Value) (hf : CaFacts c core k2) (k1 : RdL F 11 v1 k2.ways.length (flat wyc k2.ways)) (k2' : RdL F 15 v2 k2.mis.length (flat msc' k2.mis)) (k3 : RdL F 10 v3 k2.buf.length (flat bc k2.buf)) (j1 : RdL F 11 u1 k2.ways.length (flat wyc k2.ways)) (j2 : RdL F 15 u2 k2.mis.length (flat msc' k2.mis)) (j3 : RdL F 10 u3 k2.buf.length (flat bc k2.buf)) =>
              law14_same k1 k2' k3 j1 j2 j3 (caFacts_len hf).1 (caFacts_len hf).2.1 (caFacts_len hf).2.2
            haveI kr := fun (g T : Nat) (L : List HP) => rd_arrS (g := g) (T := T) (l := k2.ways) L
            (first | (refine WO_some (v) inferInstance (by omega) ?_; intro _) | (refine WC_some (v) inferInstance (by omega) ?_; intro _))
            repeat' (first | rintro _ _ ⟨rfl, rfl⟩ | refine exq fun _ => ?_ | intro _ | refine go ?_ | refine dr_CaDoes_3m ?_ | refine drq ?_ | refine cal @hD' ?_ | refine spl ?_ ?_ | fail)
            all_goals rename_i hf
            all_goals repeat' (first | rintro _ _ ⟨rfl, rfl⟩ | refine exq fun _ => ?_ | intro _ | refine go ?_ | refine dr_CaDoes_3m ?_ | refine drq ?_ | refine cal @hO ?_ | refine cal @law14_drawn ?_ | refine cal @hSm ?_ | refine spl ?_ ?_ | fail)
            all_goals (rename_i a f e g q2 d2 q3 d3 m1 n1 m2 n2 m3 n3)
            all_goals (refine WO_ent (L' := CaP b c core k2 :: app (CaRO br a f e c core k2) (Cells bx 24 c.cells :: Old W :: F)) (Ent.trans (M := CaP b c core k2 :: app (CaRX br a f e g q2 d2 q3 d3 c core k2) (Cells bx 24 c.cells :: Old W :: F)) (by exact entu0) (Ent.cons (caRO_shut hf hI2.1))) ?_)
            all_goals repeat' (first | rintro _ _ ⟨rfl, rfl⟩ | refine exq fun _ => ?_ | intro _ | refine go ?_ | refine dr_CaDoes_3m ?_ | refine drq ?_ | refine cal @hLook ?_ | refine cal @hFi ?_ | refine spl ?_ ?_ | fail)
            all_goals refine WE_loop (i + 1) (by omega) hlt ?_ ?_
            all_goals first | ((repeat (first | exact Sub.nil | (refine Sub.cons (by first | rfl | (simp only [Nat.zero_add]; rfl)) ?_))); done) | (rw [hsu]; ((repeat (first | (with_reducible exact Ent.refl) | exact Ent.nil | (apply ent_pickE; (focus ((repeat (first | (with_reducible exact pk_here) | (apply pk_there))); done))) | (apply ca_in) | apply Ent.drop)); all_goals (first | rfl | (with_reducible assumption) | (simp; done) | (simp; omega) | omega | (constructor <;> (simp) <;> omega))))
          · have hil : i = l.length := by omega
            subst hil
            repeat (first | rintro _ _ ⟨rfl, rfl⟩ | refine exq fun _ => ?_ | intro _ | refine go ?_ | refine dr_CaDoes_3m ?_ | refine drq ?_)
            exact fin0
      · have hN := fun F => ca_New_no (F := F) hc he
        have hR := fun F => ref14_New_no (F := F) hc he
        repeat (first | rintro _ _ ⟨rfl, rfl⟩ | refine exq fun _ => ?_ | intro _ | refine go ?_ | refine dr_CaDoes_3m ?_ | refine drq ?_ | refine cal @law14_awake ?_ | refine cal @hLg ?_ | refine cal @hN ?_ | refine cal @hR ?_)
        refine WC_rounds 1 ?_
        repeat (first | rintro _ _ ⟨rfl, rfl⟩ | refine exq fun _ => ?_ | intro _ | refine go ?_ | refine dr_CaDoes_3m ?_ | refine drq ?_)
        exact fin0
end Go.Sx
