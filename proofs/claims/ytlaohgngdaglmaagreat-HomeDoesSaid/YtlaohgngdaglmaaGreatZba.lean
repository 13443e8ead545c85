/- HomDoes: several of my texts as one. My own work. -/
import Derived.Test.YtlaohgngdaglmaaGreatZap
import Derived.Test.YtlaohgngdaglmaaGreatZaz
/- The law of homes: step by step. My own work. -/
namespace Go.Sx
open Go Go.Proofs
set_option linter.unusedVariables false
set_option linter.unusedSectionVars false
set_option linter.unusedSimpArgs false
set_option maxRecDepth 100000
set_option maxHeartbeats 4000000
attribute [local irreducible] Go.Exit.then Go.Exit.inBlock Go.Code.wp WC WO WE WQ V LoopQ FnQ Sat Star band bor IntKind.wrap WR Code.rounds WT KO
theorem hr_ins {b be bq n : Nat} {p : Option Addr} {k : Nat} {c : Cfg} {num : Int} {s : HomS} {xs : List HRd} {vs : List Value} {L M : List HP}
    (h : Ent L (Cells b 113 (rmc c num p n k be bq s.odd) :: Own 136 5 (.slice p n k) n vs :: All (xs.map hrd) :: MemRB be c s.ms :: QuB 120 216 bq c.buffer s.q :: M)) (hn : n = xs.length) (hv : vs = flat hcx xs) (he : RFact c num s.es xs) : Ent L (HomR b c num s :: M) := hr_in h hn hv he
theorem hom_SameL {F : List HP} {e : TypeId} {v u : Value} {ps : List QP} (hb : ∀ x ∈ ps, x.1.sends.length ≤ 1000) (k2 : RdL F 17 u ps.length (flat qc ps)) (r2 : RdAll F ps) (hn : ps.length ≤ 1000) :
    FnF Tryz.prog 36 [v, u] [QuL e v (ps.map (·.1))] F (fun r L' => r = .bool true ∧ L' = [QuL e v (ps.map (·.1))]) := by
  refine ⟨enters_of Tryz.func36 rfl rfl, fun w hw => ?_⟩
  obtain ⟨qs, hq, hx⟩ := ql_sat hw
  have hlen : qs.length = ps.length := by have := congrArg List.length hq; simpa using this
  have C := ref15_Same (F := Own e 17 v qs.length (flat qc qs) :: All (qs.map qrd) :: F) (v := v) (u := u) (ps := qs) (qs := ps) RdL.own inferInstance inferInstance
    (fun p hp => by
      have : p.1 ∈ ps.map (·.1) := by rw [← hq]; exact List.mem_map_of_mem hp
      obtain ⟨y, hy, e⟩ := List.mem_map.1 this
      rw [← e]; exact hb y hy) inferInstance (by omega)
  refine (C.runs w hx).mono ?_
  rintro e' w' ⟨v', L', he, ⟨hv, hL⟩, hs⟩
  subst hL
  refine ⟨v', _, he, ⟨by rw [hv]; simp [hq], rfl⟩, (ql_in Ent.refl hq rfl rfl).sat hs⟩
theorem hr_Work {F : List HP} {b : Nat} {c : Cfg} {num : Int} {s : HomS} {n : Int} {l : L3} (h : HmI c num s) (ho : 0 ≤ s.odd ∧ s.odd ≤ 1000000000000) :
    FnF Tryz.prog 33 [.pointer (some ⟨b, 0, none⟩), .int .i64 n, .agg (l3c l).toArray] [HomR b c num s] F
      (fun r L' => r = .tuple [mv (hmWorkM s n l), .bool (hmWorkB s n l), .bool (hmDid s n l)].toArray ∧ L' = [HomR b c num (hmWorkS c s n l)]) := by
  cases hr : qready s.q n with
  | false => exact hr_Work_no h hr
  | true =>
    have e1 : hmWorkM s n l = .zero := by simp [hmWorkM, hr]
    have e2 : hmWorkB s n l = false := by simp [hmWorkB, hr]
    have e3 : hmDid s n l = true := by simp [hmDid, hr]
    have hm := qat_mem (qready_in hr)
    rw [e1, e2, e3]
    rcases nextE_cases h (h.req _ hm) with hE | hE
    · have e4 : hmWorkS c s n l = hmOddS s n := by
        unfold hmWorkS hmStartS; rw [if_pos hr, if_neg]
        have : nextE (hmEnt s (hmX s n).line) (hmX s n) = 7 := hE.1
        omega
      rw [e4]
      exact hr_Work_odd h hr ho hE
    · have e4 : hmWorkS c s n l = hmTurnS c s n := by
        have hE' : nextE (hmEnt s (hmX s n).line) (hmX s n) = 0 := hE
        unfold hmWorkS hmStartS; rw [if_pos hr, if_pos hE']
      rw [e4]
      exact hr_Work_turn h hr ho hE
theorem dr_HomDoes_8m {Q P : Prop} (k : Q) (h : Hid Q → P := by
  intro k
  first
  | (refine is_draw ?_; apply WC_mix (id := 21) (.only []) _ (pl := .r 0 <| .r 1 <| .p 2 <| .p 3 <| .p 4 <| .p 6 <| .p 7 <| .p 8 <| .r 9 <| .e true [(5, .p 10 <| .p 11 <| .p 12 <| .p 13 <| .p 16 <| .p 17 <| .p 18 <| .r 19 <| .p 20 <| .p 21 <| .r 22 <| .e true [(14, .e true [(15, .e true [(23, .p 24 <| .p 25 <| .done)])])])]); exact mixed; kernel_rfl; kernel_rfl; exact Ent.refl; exact k.out)
  | (refine is_draw ?_; apply WC_mix (id := 31) (.only []) _ (pl := .p 0 <| .p 1 <| .p 3 <| .p 4 <| .p 5 <| .p 7 <| .r 2 <| .r 6 <| .p 8 <| .r 9 <| .e true [(10, .p 11 <| .p 12 <| .r 13 <| .r 14 <| .p 15 <| .p 16 <| .p 17 <| .p 18 <| .p 19 <| .p 20 <| .p 21 <| .p 22 <| .r 23 <| .p 24 <| .p 25 <| .p 27 <| .r 26 <| .p 28 <| .p 29 <| .p 30 <| .p 31 <| .done)]); exact mixed; kernel_rfl; kernel_rfl; exact Ent.refl; exact k.out)) : P := h ⟨k⟩
theorem law16_Does {W : World} {F : List HP} {c : Cfg} {num line : Int} {v : Value} {l : List HStep} (hc : c.wf) (hnu : I64 num) (hli : I64 line) (hl : l.length ≤ 9223372036854775807) (k : ROld W 20 v l.length (flat hsc l)) (hwf : ∀ x ∈ l, HStep.wf x) :
    FnF Tryz.prog 8 [c.val, .int .i64 num, v, .int .i64 line] [Old W] F (fun r L' => r = .bool true ∧ L' = [Old W]) := by
  have hLg := fun F => law16_large (F := F) (c := c)
  refine FnF.mk' Tryz.func8 rfl rfl Tryz.ntmps8 rfl ?_
  by_cases hm : 60 < l.length
  · repeat (first | rintro _ _ ⟨rfl, rfl⟩ | refine exq fun _ => ?_ | intro _ | refine go ?_ | refine dr_HomDoes_8m ?_ | refine drq ?_ | refine cal @law16_awake ?_)
    exact fin0
  · cases hL : hLarge c with
    | true =>
      rw [hL] at hLg
      repeat (first | rintro _ _ ⟨rfl, rfl⟩ | refine exq fun _ => ?_ | intro _ | refine go ?_ | refine dr_HomDoes_8m ?_ | refine drq ?_ | refine cal @law16_awake ?_ | refine cal @hLg ?_)
      exact fin0
    | false =>
      rw [hL] at hLg
      cases he : newOk c num with
      | false =>
        have hN := fun F => hm_New_no (F := F) hc he
        have hR := fun F => ref16_New_no (F := F) hc he
        repeat (first | rintro _ _ ⟨rfl, rfl⟩ | refine exq fun _ => ?_ | intro _ | refine go ?_ | refine dr_HomDoes_8m ?_ | refine drq ?_ | refine cal @law16_awake ?_ | refine cal @hLg ?_ | refine cal @hN ?_ | refine cal @hR ?_)
        refine WC_rounds 1 ?_
        repeat (first | rintro _ _ ⟨rfl, rfl⟩ | refine exq fun _ => ?_ | intro _ | refine go ?_ | refine dr_HomDoes_8m ?_ | refine drq ?_)
        exact fin0
      | true =>
        have hN := fun F => hm_New (F := F) hc he
        have hR := fun F => ref16_New (F := F) hc he
        repeat (first | rintro _ _ ⟨rfl, rfl⟩ | refine exq fun _ => ?_ | intro _ | refine go ?_ | refine dr_HomDoes_8m ?_ | refine drq ?_ | refine cal @law16_awake ?_ | refine cal @hLg ?_ | refine cal @hN ?_ | refine cal @hR ?_)
        rename_i bx b br
        apply WC_loopE (E0 := [(2, _), (3, _), (9, _), (11, _)]) (fun E0 (i : Nat) => (13, .int .i64 i) :: E0) (fun i => HomP b c num (hsK c num (l.take i)) :: HomR br c num (hsK c num (l.take i)) :: Cells bx 24 c.cells :: Old W :: F) (fun i => i ≤ l.length) (fun i => l.length - i) 0
        · (repeat (first | exact Sub.nil | (refine Sub.cons (by first | rfl | (simp only [Nat.zero_add]; rfl)) ?_)))
        · exact Nat.zero_le _
        · rw [List.take_zero, show hsK c num [] = hmNew c num from rfl]; exact entu0
        · intro i hi
          by_cases hlt : i < l.length
          · obtain ⟨hI, ho, ho2⟩ := hsK_inv he l i hi
            have hst := hsK_step (c := c) (num := num) hlt
            have hwx := hwf _ (List.getElem_mem hlt)
            generalize hsK c num (l.take i) = s at hI ho ho2 hst
            have hI2 := hmI_step hI l[i]
            have hDo := fun F => law16_do (F := F) (b := b) (c := c) (num := num) (s := s) (x := l[i]) hc hI (by omega)
            repeat (first | rintro _ _ ⟨rfl, rfl⟩ | refine exq fun _ => ?_ | intro _ | refine go ?_ | refine cal @hDo ?_)
            rename_i b14 ba bb
            apply WC_join (P := Tryz.prog) (fun _ : Unit => [(2, v), (3, .int .i64 line), (9, .pointer (some ⟨b, 0, none⟩)), (11, .pointer (some ⟨br, 0, none⟩)), (13, .int .i64 i), (14, .pointer (some ⟨b14, 0, none⟩)), (15, .pointer (some ⟨ba, 0, none⟩)), (16, .pointer (some ⟨bb, 0, none⟩))])
              (fun _ => HomR br c num (hsS c num s l[i]) :: HomP b c num (hsS c num s l[i]) :: Cells bb 103 (rpc (hsM s l[i]) (hsB s l[i]) (hsD s l[i]) (hsE c num s l[i])) :: Cells ba 103 (rpc (hsM s l[i]) (hsB s l[i]) (hsD s l[i]) (hsE c num s l[i])) :: Cells b14 101 (hsc l[i]) :: Cells bx 24 c.cells :: Old W :: F) (fun _ => True)
            · intro join
              by_cases h0 : l[i].d = 0
              · have hA := fun F => hr_Accept (F := F) (b := br) (num := num) (s := s) (m := l[i].m) hc
                have q1 : hsM s l[i] = .zero := if_pos h0
                have q2 : hsB s l[i] = false := if_pos h0
                have q3 : hsD s l[i] = false := if_pos h0
                have q4 : hsE c num s l[i] = hmAccE c num s l[i].m := if_pos h0
                have q5 : hsS c num s l[i] = hmAccS c num s l[i].m := if_pos h0
                rw [q1, q2, q3, q4, q5] at join ⊢
                repeat (first | rintro _ _ ⟨rfl, rfl⟩ | refine exq fun _ => ?_ | intro _ | refine go ?_ | refine cal @hA ?_)
                exact join () _ _ trivial (by (repeat (first | exact Sub.nil | (refine Sub.cons (by first | rfl | (simp only [Nat.zero_add]; rfl)) ?_)))) (by exact entu0)
              · by_cases h1 : l[i].d = 1
                · have q1 : hsM s l[i] = hmWorkM s l[i].n l[i].l := by unfold hsM; rw [if_neg h0, if_pos h1]
                  have q2 : hsB s l[i] = hmWorkB s l[i].n l[i].l := by unfold hsB; rw [if_neg h0, if_pos h1]
                  have q3 : hsD s l[i] = hmDid s l[i].n l[i].l := by unfold hsD; rw [if_neg h0, if_pos h1]
                  have q4 : hsE c num s l[i] = 0 := by unfold hsE; rw [if_neg h0, if_pos h1]
                  have q5 : hsS c num s l[i] = hmWorkS c s l[i].n l[i].l := by unfold hsS; rw [if_neg h0, if_pos h1]
                  have hW := fun F => hr_Work (F := F) (b := br) (n := l[i].n) (l := l[i].l) hI (by omega)
                  rw [q1, q2, q3, q4, q5] at join ⊢
                  repeat (first | rintro _ _ ⟨rfl, rfl⟩ | refine exq fun _ => ?_ | intro _ | refine go ?_ | refine cal @hW ?_)
                  exact join () _ _ trivial (by (repeat (first | exact Sub.nil | (refine Sub.cons (by first | rfl | (simp only [Nat.zero_add]; rfl)) ?_)))) (by exact entu0)
                · have hD := fun F => hr_Done (F := F) (b := br) (num := num) (s := s) (m := l[i].m) hc
                  have q1 : hsM s l[i] = .zero := by unfold hsM; rw [if_neg h0, if_neg h1]
                  have q2 : hsB s l[i] = false := by unfold hsB; rw [if_neg h0, if_neg h1]
                  have q3 : hsD s l[i] = false := by unfold hsD; rw [if_neg h0, if_neg h1]
                  have q4 : hsE c num s l[i] = hmDoneE c num s l[i].m := by unfold hsE; rw [if_neg h0, if_neg h1]
                  have q5 : hsS c num s l[i] = hmDoneS c num s l[i].m := by unfold hsS; rw [if_neg h0, if_neg h1]
                  rw [q1, q2, q3, q4, q5] at join ⊢
                  repeat (first | rintro _ _ ⟨rfl, rfl⟩ | refine exq fun _ => ?_ | intro _ | refine go ?_ | refine cal @hD ?_)
                  exact join () _ _ trivial (by (repeat (first | exact Sub.nil | (refine Sub.cons (by first | rfl | (simp only [Nat.zero_add]; rfl)) ?_)))) (by exact entu0)
            intro _ _
            generalize hgl : hsS c num s l[i] = s2 at hI2 hst ⊢
            generalize hsM s l[i] = rm
            generalize hsB s l[i] = rb
            generalize hsD s l[i] = rd
            generalize hsE c num s l[i] = re
            refine hr_open fun p kk be bq xs hx => ?_
            (first | refine WO_front (QuR bq c.buffer s2.q) ?_ | refine WC_front (QuR bq c.buffer s2.q) ?_ | refine WE_front (QuR bq c.buffer s2.q) ?_)
            refine qu_open fun p2 c2 qs hf => ?_
            obtain ⟨hq, f1, f2, f3, hcp⟩ := hf
            have hql : qs.length ≤ 16 := by omega
            have hQ := fun F => hm_Queue (F := F) (b := b) (c := c) (num := num) (s := s2)
            simp only [← hq] at hQ
            have hEn := fun F v => law16_entries (F := F) (v := v) (l := qs.map (·.1)) (by rw [List.length_map]; omega)
            have hO := fun F => hm_Odd (F := F) (b := b) (c := c) (num := num) (s := s2)
            have hSm := fun F e v u k2 r2 => hom_SameL (F := F) (e := e) (v := v) (u := u) (ps := qs) (fun x hx => (f3 x hx).2) k2 r2 (by omega)
            have hwl : I64 l[i].m.line := hwx.2.2.2.2.1
            repeat (first | rintro _ _ ⟨rfl, rfl⟩ | refine exq fun _ => ?_ | intro _ | refine go ?_ | refine dr_HomDoes_8m ?_ | refine drq ?_ | refine cal @hQ ?_ | refine cal @hEn ?_ | refine cal @hO ?_ | refine cal @hSm ?_)
            generalize l[i].m.line = k2 at hwl ⊢
            apply WC_loopE (E0 := [(2, _), (3, _), (9, _), (11, _), (13, _), (133, _)]) (fun E0 (q : Int) => (134, .int .i64 q) :: E0) (fun _ => HomP b c num s2 :: HomR br c num s2 :: Cells bx 24 c.cells :: Old W :: F) (fun q => 0 ≤ q ∧ q ≤ 2) (fun q => (2 - q).toNat) 0
            · (repeat (first | exact Sub.nil | (refine Sub.cons (by first | rfl | (simp only [Nat.zero_add]; rfl)) ?_)))
            · exact ⟨by omega, by omega⟩
            · ((repeat (first | (with_reducible exact Ent.refl) | exact Ent.nil | (apply ent_pickE; (focus ((repeat (first | (with_reducible exact pk_here) | (apply pk_there))); done))) | (apply hr_ins) | (apply qu_in) | apply Ent.drop)); all_goals (first | rfl | (with_reducible assumption) | (simp; done) | (simp; omega) | omega | (constructor <;> (simp) <;> omega)))
            · rintro q ⟨hq0, hq2⟩
              by_cases hlt2 : q < 2
              · obtain ⟨k, hk, hkI⟩ : ∃ k, (q = 0 ∧ k = line ∨ q = 1 ∧ k = k2) ∧ I64 k := by
                  by_cases h : q = 0
                  · exact ⟨line, .inl ⟨h, rfl⟩, hli⟩
                  · exact ⟨k2, .inr ⟨by omega, rfl⟩, hwl⟩
                have hEt := fun F => hm_Entry (F := F) (b := b) (c := c) (num := num) (s := s2) (line := k) (fun e he => (hI2.may _ e he).1)
                have hLi := fun F => hm_Line (F := F) (b := b) (c := c) (num := num) (s := s2) (line := k) hc hkI
                have hOw := fun F => hr_Own (F := F) (b := br) (c := c) (num := num) (s := s2) (line := k) hI2.ok
                have hRL := fun F be => ref12_Line (F := F) (b := be) (c := c) (ms := s2.ms) (line := k) hc hkI
                have hown := hI2.own k
                by_cases hok : ownL c num k
                · rw [decide_eq_true hok] at hown
                  have hml : hmLine c s2 k = lineWo c s2.ms k := by simp [hmLine, hown]
                  simp only [hown, hml] at hEt hLi
                  simp only [decide_eq_true hok] at hOw
                  obtain ⟨j, rfl⟩ : ∃ j : Nat, k = j := ⟨k.toNat, by have := hok.1; omega⟩
                  have hmt := hmEnt_own hI2 hok
                  have hps : (hmEnt s2 j).s.ps.length ≤ 1000 := by
                    have h8 := hmt.2.1
                    simp only [mayT, Bool.and_eq_true] at h8
                    have := may_facts' h8.1.1
                    omega
                  rcases hk with ⟨rfl, rfl⟩ | ⟨rfl, rfl⟩
                  · repeat (first | rintro _ _ ⟨rfl, rfl⟩ | refine exq fun _ => ?_ | intro _ | refine go ?_ | refine dr_HomDoes_8m ?_ | refine drq ?_ | refine cal @hEt ?_ | refine cal @hLi ?_ | refine cal @hOw ?_)
                    (first | refine WO_front (HomR br c num s2) ?_ | refine WC_front (HomR br c num s2) ?_ | refine WE_front (HomR br c num s2) ?_)
                    refine hr_openO fun p3 kk3 be3 bq3 ys hx3 => ?_
                    have hjx : j < ys.length := by have := hx3.1; have := hok.2.1; omega
                    have hxe : ys[j].1 = hmEnt s2 j := by
                      have h9 := hx3.2 j hjx hok
                      rw [hmt.1] at h9
                      exact (Option.some.inj h9).symm
                    haveI kr3 := fun L => rd_hrx (L := L) hjx
                    have hSa := fun F a kk (h1 : RdL F 1 (.slice a (hmEnt s2 j).s.ps.length kk) (hmEnt s2 j).s.ps.length (flat ic (hmEnt s2 j).s.ps)) (h2 : RdL F 1 (.slice ys[j].2.1 ys[j].1.s.ps.length ys[j].2.2) ys[j].1.s.ps.length (flat ic ys[j].1.s.ps)) => law16_same (F := F) (e := hmEnt s2 j) (t := ys[j].1) (a := a) (b := ys[j].2.1) (k := kk) (m := ys[j].2.2) h1 h2 hps
                    have hd : decide (hmEnt s2 j = ys[j].1) = true := decide_eq_true hxe.symm
                    simp only [hd] at hSa
                    (first | (refine WO_some (.slice p3 ys.length kk3) inferInstance (by omega) ?_; intro _) | (refine WC_some (.slice p3 ys.length kk3) inferInstance (by omega) ?_; intro _))
                    repeat (first | rintro _ _ ⟨rfl, rfl⟩ | refine exq fun _ => ?_ | intro _ | refine go ?_ | refine dr_HomDoes_8m ?_ | refine drq ?_ | refine cal @hRL ?_ | refine cal @hSa ?_)
                    refine WE_loop (1 : Int) (by omega) ⟨by omega, by omega⟩ ?_ ?_
                    · (repeat (first | exact Sub.nil | (refine Sub.cons (by first | rfl | (simp only [Nat.zero_add]; rfl)) ?_)))
                    · ((repeat (first | (with_reducible exact Ent.refl) | exact Ent.nil | (apply ent_pickE; (focus ((repeat (first | (with_reducible exact pk_here) | (apply pk_there))); done))) | (apply hr_ins) | apply Ent.drop)); all_goals (first | rfl | (with_reducible assumption) | (simp; done) | (simp; omega) | omega | (constructor <;> (simp) <;> omega)))
                  · repeat (first | rintro _ _ ⟨rfl, rfl⟩ | refine exq fun _ => ?_ | intro _ | refine go ?_ | refine dr_HomDoes_8m ?_ | refine drq ?_ | refine cal @hEt ?_ | refine cal @hLi ?_ | refine cal @hOw ?_)
                    (first | refine WO_front (HomR br c num s2) ?_ | refine WC_front (HomR br c num s2) ?_ | refine WE_front (HomR br c num s2) ?_)
                    refine hr_openO fun p3 kk3 be3 bq3 ys hx3 => ?_
                    have hjx : j < ys.length := by have := hx3.1; have := hok.2.1; omega
                    have hxe : ys[j].1 = hmEnt s2 j := by
                      have h9 := hx3.2 j hjx hok
                      rw [hmt.1] at h9
                      exact (Option.some.inj h9).symm
                    haveI kr3 := fun L => rd_hrx (L := L) hjx
                    have hSa := fun F a kk (h1 : RdL F 1 (.slice a (hmEnt s2 j).s.ps.length kk) (hmEnt s2 j).s.ps.length (flat ic (hmEnt s2 j).s.ps)) (h2 : RdL F 1 (.slice ys[j].2.1 ys[j].1.s.ps.length ys[j].2.2) ys[j].1.s.ps.length (flat ic ys[j].1.s.ps)) => law16_same (F := F) (e := hmEnt s2 j) (t := ys[j].1) (a := a) (b := ys[j].2.1) (k := kk) (m := ys[j].2.2) h1 h2 hps
                    have hd : decide (hmEnt s2 j = ys[j].1) = true := decide_eq_true hxe.symm
                    simp only [hd] at hSa
                    (first | (refine WO_some (.slice p3 ys.length kk3) inferInstance (by omega) ?_; intro _) | (refine WC_some (.slice p3 ys.length kk3) inferInstance (by omega) ?_; intro _))
                    repeat (first | rintro _ _ ⟨rfl, rfl⟩ | refine exq fun _ => ?_ | intro _ | refine go ?_ | refine dr_HomDoes_8m ?_ | refine drq ?_ | refine cal @hRL ?_ | refine cal @hSa ?_)
                    refine WE_loop (2 : Int) (by omega) ⟨by omega, by omega⟩ ?_ ?_
                    · (repeat (first | exact Sub.nil | (refine Sub.cons (by first | rfl | (simp only [Nat.zero_add]; rfl)) ?_)))
                    · ((repeat (first | (with_reducible exact Ent.refl) | exact Ent.nil | (apply ent_pickE; (focus ((repeat (first | (with_reducible exact pk_here) | (apply pk_there))); done))) | (apply hr_ins) | apply Ent.drop)); all_goals (first | rfl | (with_reducible assumption) | (simp; done) | (simp; omega) | omega | (constructor <;> (simp) <;> omega)))
                · rw [decide_eq_false hok] at hown
                  have hml : hmLine c s2 k = .zero := by simp [hmLine, hown]
                  have hme : hmEnt s2 k = .no := by
                    have h9 := hown
                    unfold hmOwn at h9
                    unfold hmEnt
                    cases h8 : mget s2.es k with
                    | none => rfl
                    | some x => rw [h8] at h9; cases h9
                  simp only [hown, hml, hme] at hEt hLi
                  simp only [decide_eq_false hok] at hOw
                  rcases hk with ⟨rfl, rfl⟩ | ⟨rfl, rfl⟩
                  · repeat (first | rintro _ _ ⟨rfl, rfl⟩ | refine exq fun _ => ?_ | intro _ | refine go ?_ | refine dr_HomDoes_8m ?_ | refine drq ?_ | refine cal @hEt ?_ | refine cal @hLi ?_ | refine cal @hOw ?_)
                    (first | refine WO_front (HomR br c num s2) ?_ | refine WC_front (HomR br c num s2) ?_ | refine WE_front (HomR br c num s2) ?_)
                    refine hr_openO fun p3 kk3 be3 bq3 ys hx3 => ?_
                    repeat (first | rintro _ _ ⟨rfl, rfl⟩ | refine exq fun _ => ?_ | intro _ | refine go ?_ | refine dr_HomDoes_8m ?_ | refine drq ?_ | refine cal @hRL ?_)
                    refine WE_loop (1 : Int) (by omega) ⟨by omega, by omega⟩ ?_ ?_
                    · (repeat (first | exact Sub.nil | (refine Sub.cons (by first | rfl | (simp only [Nat.zero_add]; rfl)) ?_)))
                    · ((repeat (first | (with_reducible exact Ent.refl) | exact Ent.nil | (apply ent_pickE; (focus ((repeat (first | (with_reducible exact pk_here) | (apply pk_there))); done))) | (apply hr_ins) | apply Ent.drop)); all_goals (first | rfl | (with_reducible assumption) | (simp; done) | (simp; omega) | omega | (constructor <;> (simp) <;> omega)))
                  · repeat (first | rintro _ _ ⟨rfl, rfl⟩ | refine exq fun _ => ?_ | intro _ | refine go ?_ | refine dr_HomDoes_8m ?_ | refine drq ?_ | refine cal @hEt ?_ | refine cal @hLi ?_ | refine cal @hOw ?_)
                    (first | refine WO_front (HomR br c num s2) ?_ | refine WC_front (HomR br c num s2) ?_ | refine WE_front (HomR br c num s2) ?_)
                    refine hr_openO fun p3 kk3 be3 bq3 ys hx3 => ?_
                    repeat (first | rintro _ _ ⟨rfl, rfl⟩ | refine exq fun _ => ?_ | intro _ | refine go ?_ | refine dr_HomDoes_8m ?_ | refine drq ?_ | refine cal @hRL ?_)
                    refine WE_loop (2 : Int) (by omega) ⟨by omega, by omega⟩ ?_ ?_
                    · (repeat (first | exact Sub.nil | (refine Sub.cons (by first | rfl | (simp only [Nat.zero_add]; rfl)) ?_)))
                    · ((repeat (first | (with_reducible exact Ent.refl) | exact Ent.nil | (apply ent_pickE; (focus ((repeat (first | (with_reducible exact pk_here) | (apply pk_there))); done))) | (apply hr_ins) | apply Ent.drop)); all_goals (first | rfl | (with_reducible assumption) | (simp; done) | (simp; omega) | omega | (constructor <;> (simp) <;> omega)))
              · have hq3 : q = 2 := by omega
                subst hq3
                repeat (first | rintro _ _ ⟨rfl, rfl⟩ | refine exq fun _ => ?_ | intro _ | refine go ?_ | refine dr_HomDoes_8m ?_ | refine drq ?_)
                refine WE_loop (i + 1) (by omega) (by omega) ?_ ?_
                · (repeat (first | exact Sub.nil | (refine Sub.cons (by first | rfl | (simp only [Nat.zero_add]; rfl)) ?_)))
                · rw [hst]; exact entu0
          · have hil : i = l.length := by omega
            subst hil
            repeat (first | rintro _ _ ⟨rfl, rfl⟩ | refine exq fun _ => ?_ | intro _ | refine go ?_ | refine dr_HomDoes_8m ?_ | refine drq ?_)
            exact fin0
end Go.Sx
