/- TabR3, HomR2: several of my texts as one. My own work. -/
import Derived.Test.YtlaohgngdaglmaaGreatZaq
import Derived.Test.YtlaohgngdaglmaaGreatZaw
import Derived.Test.YtlaohgngdaglmaaGreatZar
/- The document's table: what is put back. My own work. -/
namespace Go.Sx
open Go Go.Proofs
set_option linter.unusedVariables false
set_option linter.unusedSectionVars false
set_option linter.unusedSimpArgs false
theorem own_one' {T : TypeId} {b : Nat} {m : Msg} {L M : List HP} (h : Ent L (Cells b T (mc m) :: M)) : Ent L (Own T 15 (.slice (some ⟨b, 0, none⟩) [m].length 1) [m].length (flat mc [m]) :: M) := Ent.trans h (own_one Ent.refl)
set_option maxRecDepth 100000
set_option maxHeartbeats 4000000
attribute [local irreducible] Go.Exit.then Go.Exit.inBlock Go.Code.wp WC WO WE WQ V LoopQ FnQ Sat Star band bor IntKind.wrap WR Code.rounds WT KO
theorem dr_TabR3_105 {Q P : Prop} (k : Q) (h : Hid Q → P := by
  intro k
  first
  | (refine is_draw ?_; apply WC_mix (id := 10) .false _ (pl := .p 0 <| .p 5 <| .p 7 <| .r 1 <| .r 2 <| .p 3 <| .r 4 <| .r 6 <| .r 8 <| .e true [(9, .e true [(10, .p 11 <| .e true [(12, .p 13 <| .done)])])]); exact mixed; kernel_rfl; kernel_rfl; exact Ent.refl; exact k.out)
  | (refine is_draw ?_; apply WC_mix (id := 12) .false _ (pl := .p 0 <| .p 4 <| .r 1 <| .p 2 <| .r 3 <| .r 5 <| .e true [(6, .e true [(7, .p 8 <| .e true [(9, .p 10 <| .done)])])]); exact mixed; kernel_rfl; kernel_rfl; exact Ent.refl; exact k.out)
  | (refine is_draw ?_; apply WC_mix (id := 14) .false _ (pl := .p 3 <| .r 0 <| .p 1 <| .r 2 <| .r 4 <| .e true [(5, .e true [(6, .p 7 <| .e true [(8, .p 9 <| .done)])])]); exact mixed; kernel_rfl; kernel_rfl; exact Ent.refl; exact k.out)
  | (refine is_draw ?_; apply WC_mix (id := 16) .false _ (pl := .p 2 <| .r 0 <| .r 1 <| .r 3 <| .e true [(4, .e true [(5, .p 6 <| .e true [(7, .e true [(8, .done)])]), (7, .e true [(5, .p 6 <| .e true [(8, .done)])])]), (7, .e true [(4, .e true [(5, .p 6 <| .e true [(8, .done)])])])]); exact mixed; kernel_rfl; kernel_rfl; exact Ent.refl; exact k.out)
  | (refine is_draw ?_; apply WC_mix (id := 25) .false _ (pl := .p 0 <| .p 3 <| .p 4 <| .r 1 <| .r 2 <| .r 5 <| .e true [(6, .e true [(7, .e true [(8, .p 9 <| .e true [(10, .done)])])])]); exact mixed; kernel_rfl; kernel_rfl; exact Ent.refl; exact k.out)
  | (refine is_draw ?_; apply WC_mix (id := 27) .false _ (pl := .p 0 <| .p 3 <| .p 4 <| .r 1 <| .r 2 <| .r 5 <| .e true [(6, .e true [(7, .e true [(8, .p 9 <| .e true [(10, .done)])])])]); exact mixed; kernel_rfl; kernel_rfl; exact Ent.refl; exact k.out)
  | (refine is_draw ?_; apply WC_mix (id := 28) .false _ (pl := .p 0 <| .p 3 <| .p 5 <| .p 6 <| .r 1 <| .r 2 <| .r 4 <| .r 7 <| .e true [(8, .e true [(9, .e true [(10, .p 11 <| .e true [(12, .done)])])])]); exact mixed; kernel_rfl; kernel_rfl; exact Ent.refl; exact k.out)
  | (refine is_draw ?_; apply WC_mix (id := 32) .false _ (pl := .p 0 <| .p 3 <| .p 4 <| .p 5 <| .p 7 <| .r 1 <| .r 2 <| .r 6 <| .r 8 <| .e true [(9, .e true [(10, .e true [(11, .p 12 <| .e true [(13, .done)])])])]); exact mixed; kernel_rfl; kernel_rfl; exact Ent.refl; exact k.out)) : P := h ⟨k⟩
theorem ref13_Next_put {F : List HP} {e : TEnt} {a : Option Addr} {k : Nat} {m : Msg} {w : Words} (hk : RdL F 1 (.slice a e.s.ps.length k) e.s.ps.length (flat ic e.s.ps)) (hok : okT e m = true) (hkd : m.kind = 3) :
    FnF Tryz.prog 105 [.agg (tec e a k).toArray, mv m, wv w] [] F (fun r L' => ∃ p c, r = .tuple [.agg (tuc (nextT e m) a k p (nextS e m w).length c (nextW e m)).toArray, .int .i64 0].toArray ∧
      L' = [Own 38 15 (.slice p (nextS e m w).length c) (nextS e m w).length (flat mc (nextS e m w))]) := by
  obtain ⟨hm, h2, h3, h4, h5⟩ := okT_facts hok
  have hmay : mayT e = true := mayT_mk hm h2 h3
  have hn := (may_facts' hm).2.2
  have h0 := okT_kinds hok (.inr hkd)
  have hM := fun F (hk : RdL F 1 (.slice a e.s.ps.length k) e.s.ps.length (flat ic e.s.ps)) => ref13_May (F := F) hk (by omega)
  simp only [hmay] at hM
  have e1 : nextT e m = putT e m := by unfold nextT; rw [if_pos h0, if_neg (by omega), if_neg (by omega)]
  have e2 : nextS e m w = [msgT m 10 m.src 0 0 0 .zero] := by unfold nextS; rw [if_pos h0, if_neg (by omega), if_neg (by omega)]
  have e3 : nextW e m = decide (e.o = m.src) := by simp [nextW, h0, hkd]
  rw [e1, e2, e3]
  refine FnF.mk' Tryz.func105 rfl rfl Tryz.ntmps105 rfl ?_
  cases hh : shHas e.s m.src with
  | true =>
    have hA := fun F (hk : RdL F 1 (.slice a e.s.ps.length k) e.s.ps.length (flat ic e.s.ps)) => ref08_Add_has (F := F) (x := m.src) hk hm h4 h5 hh
    by_cases g1 : e.o = m.src
    · have e4 : putT e m = ⟨-1, e.s⟩ := if_pos g1
      rw [e4]
      repeat' (first | rintro _ _ ⟨rfl, rfl⟩ | refine exq fun _ => ?_ | intro _ | refine go ?_ | refine dr_TabR3_105 ?_ | refine drq ?_ | refine cal @hM ?_ | refine cal @hA ?_ | refine cal @ref13_msgz ?_ | refine spl ?_ ?_ | fail)
      all_goals (apply WE_ret rfl rfl (by (repeat (first | exact ResOk.nil | (apply ResOk.tmp; rfl) | (apply resOk_cell; rfl; exact inferInstance; rfl; rfl)))))
      all_goals first | exact ⟨_, _, by rw [tuc, decide_eq_true g1]; rfl, rfl⟩ | (refine own_one' ?_; exact entu0)
    · have e4 : putT e m = e := if_neg g1
      rw [e4]
      repeat' (first | rintro _ _ ⟨rfl, rfl⟩ | refine exq fun _ => ?_ | intro _ | refine go ?_ | refine dr_TabR3_105 ?_ | refine drq ?_ | refine cal @hM ?_ | refine cal @hA ?_ | refine cal @ref13_msgz ?_ | refine spl ?_ ?_ | fail)
      all_goals (apply WE_ret rfl rfl (by (repeat (first | exact ResOk.nil | (apply ResOk.tmp; rfl) | (apply resOk_cell; rfl; exact inferInstance; rfl; rfl)))))
      all_goals first | exact ⟨_, _, by rw [tuc, decide_eq_false g1]; rfl, rfl⟩ | (refine own_one' ?_; exact entu0)
  | false =>
    have hA := fun F (hk : RdL F 1 (.slice a e.s.ps.length k) e.s.ps.length (flat ic e.s.ps)) => ref08_Add (F := F) (x := m.src) hk (by omega) (fun h => by rw [hh] at h; cases h)
    by_cases g1 : e.o = m.src
    · have e4 : putT e m = ⟨-1, e.s⟩ := if_pos g1
      rw [e4]
      repeat' (first | rintro _ _ ⟨rfl, rfl⟩ | refine exq fun _ => ?_ | intro _ | refine go ?_ | refine dr_TabR3_105 ?_ | refine drq ?_ | refine cal @hM ?_ | refine cal @hA ?_ | refine cal @ref13_msgz ?_ | refine spl ?_ ?_ | fail)
      all_goals (apply WE_ret rfl rfl (by (repeat (first | exact ResOk.nil | (apply ResOk.tmp; rfl) | (apply resOk_cell; rfl; exact inferInstance; rfl; rfl)))))
      all_goals first | exact ⟨_, _, by rw [tuc, decide_eq_true g1]; rfl, rfl⟩ | (refine own_one' ?_; exact entu0)
    · have e4 : putT e m = e := if_neg g1
      rw [e4]
      repeat' (first | rintro _ _ ⟨rfl, rfl⟩ | refine exq fun _ => ?_ | intro _ | refine go ?_ | refine dr_TabR3_105 ?_ | refine drq ?_ | refine cal @hM ?_ | refine cal @hA ?_ | refine cal @ref13_msgz ?_ | refine spl ?_ ?_ | fail)
      all_goals (apply WE_ret rfl rfl (by (repeat (first | exact ResOk.nil | (apply ResOk.tmp; rfl) | (apply resOk_cell; rfl; exact inferInstance; rfl; rfl)))))
      all_goals first | exact ⟨_, _, by rw [tuc, decide_eq_false g1]; rfl, rfl⟩ | (refine own_one' ?_; exact entu0)
end Go.Sx

/- What the document's homes do: New, and the table's Next. My own work. -/
namespace Go.Sx
open Go Go.Proofs
set_option linter.unusedVariables false
set_option linter.unusedSectionVars false
set_option linter.unusedSimpArgs false
theorem hrx_same {L : List HP} {xs : List HRd} {i : Nat} (hi : i < xs.length) {y : HRd} (h : y.1.s.ps = xs[i].1.s.ps) (h2 : y.2 = xs[i].2) : Ent (All (xs.map hrd) :: L) (All ((xs.set i y).map hrd) :: L) := by
  refine Ent.trans (all_take (f := hrd) i hi) ?_
  have e : hrd y = hrd xs[i] := by
    obtain ⟨⟨o, ⟨a, b, l, c⟩⟩, p, k⟩ := y
    dsimp only at h h2
    subst h
    obtain ⟨e1, e2⟩ := Prod.mk.inj h2
    subst e1 e2
    rfl
  rw [← e]
  exact all_put (f := hrd) i hi y
theorem hrx_new {L : List HP} {T : TypeId} {xs : List HRd} {i : Nat} (hi : i < xs.length) {y : HRd} : Ent (Own T 1 (hrv y) y.1.s.ps.length (flat ic y.1.s.ps) :: All (xs.map hrd) :: L) (All ((xs.set i y).map hrd) :: L) := by
  refine Ent.trans own_rds ?_
  refine Ent.trans (Ent.cons (all_take (f := hrd) i hi)) ?_
  refine Ent.trans (Ent.cons (Ent.drop Ent.refl)) ?_
  exact all_put (f := hrd) i hi y
theorem hrx_nil {L : List HP} {xs : List HRd} {i : Nat} (hi : i < xs.length) {e : TEnt} (h : e.s.ps = []) : Ent (All (xs.map hrd) :: L) (All ((xs.set i (e, none, 0)).map hrd) :: L) := by
  refine Ent.trans (all_take (f := hrd) i hi) ?_
  refine Ent.trans (Ent.drop Ent.refl) ?_
  obtain ⟨o, ⟨a, b, l, c⟩⟩ := e
  dsimp only at h
  subst h
  refine Ent.trans ?_ (all_put (f := hrd) i hi _)
  exact rds_nil
theorem rd_hrx {L : List HP} {xs : List HRd} {i : Nat} (hi : i < xs.length) : RdL (All (xs.map hrd) :: L) 1 (.slice xs[i].2.1 xs[i].1.s.ps.length xs[i].2.2) xs[i].1.s.ps.length (flat ic xs[i].1.s.ps) := by
  have k : RdL (hrd xs[i] :: All ((xs.eraseIdx i).map hrd) :: L) 1 (hrv xs[i]) xs[i].1.s.ps.length (flat ic xs[i].1.s.ps) := RdL.rds
  have e := all_take (f := hrd) (L := L) i hi
  exact ⟨fun w h => k.len w (e.sat h), fun w h => k.ones w (e.sat h), fun w h => k.pf w (e.sat h)⟩
theorem shAdd_has {s : SSet} {x : Int} (hm : shMay s = true) (h4 : 0 ≤ x) (h5 : x < s.cores) (h : shHas s x = true) : shAddS s x = s := by
  have e : shAddE s x = 0 := by unfold shAddE; rw [if_pos hm, if_neg (by omega)]
  unfold shAddS
  rw [if_pos e, if_pos h]
theorem readH_same {e : TEnt} {m : Msg} (h0 : nextE e m = 0) (hk : m.kind = 1) (ho : ¬ e.o = m.src) (hh : shHas e.s m.src = true) : nextT e m = e := by
  obtain ⟨hm, h2, h3, h4, h5⟩ := okT_facts (nextE_ok h0).1
  have ha := shAdd_has hm h4 h5 hh
  have g2 : ¬ (tgtT e []).length = 0 := fun h => by
    have hx : m.src ∈ shTgt e.s [] e.s.cores.toNat := (tgt_mem hm).2 ⟨hh, by simp⟩
    have h' : (shTgt e.s [] e.s.cores.toNat).length = 0 := h
    rw [List.eq_nil_of_length_eq_zero h'] at hx; cases hx
  unfold nextT readT
  rw [if_pos h0, if_pos hk, if_neg ho, ha]
  rw [if_neg g2]
  split <;> rfl
theorem ent_swap {p q : HP} {L : List HP} : Ent (p :: q :: L) (q :: p :: L) := ent_perm (List.Perm.swap _ _ _)
/-- What is told of a call, with a part of memory put into another form. -/
theorem FnF.inL {P : Program} {f : FuncId} {vs : List Value} {p : HP} {F : List HP} {post post' : Value → List HP → Prop} (C : FnF P f vs [] (p :: F) post)
    (h : ∀ v L', post v L' → ∃ L'', post' v L'' ∧ Ent (app L' (p :: F)) (app L'' F)) : FnF P f vs [p] F post' :=
  ⟨C.enters, fun w hw => (C.runs w hw).mono (by
    rintro e w' ⟨v, L', he, hp, hs⟩
    obtain ⟨L'', h1, h2⟩ := h v L' hp
    exact ⟨v, L'', he, h1, h2.sat hs⟩)⟩
set_option maxRecDepth 100000
set_option maxHeartbeats 4000000
attribute [local irreducible] Go.Exit.then Go.Exit.inBlock Go.Code.wp WC WO WE WQ V LoopQ FnQ Sat Star band bor IntKind.wrap WR Code.rounds WT KO
theorem hr_Next {F : List HP} {xs : List HRd} {i : Nat} (hi : i < xs.length) {m : Msg} {w : Words} (h0 : nextE xs[i].1 m = 0) :
    FnF Tryz.prog 105 [hrc xs[i], mv m, wv w] [All (xs.map hrd)] F (fun r L' => ∃ a k p c, r = .tuple [.agg (tuc (nextT xs[i].1 m) a k p (nextS xs[i].1 m w).length c (nextW xs[i].1 m)).toArray, .int .i64 0].toArray ∧
      L' = [All ((xs.set i (nextT xs[i].1 m, a, k)).map hrd), Own 38 15 (.slice p (nextS xs[i].1 m w).length c) (nextS xs[i].1 m w).length (flat mc (nextS xs[i].1 m w))]) := by
  obtain ⟨hok, hk⟩ := nextE_ok h0
  have kr : RdL (All (xs.map hrd) :: F) 1 (.slice xs[i].2.1 xs[i].1.s.ps.length xs[i].2.2) xs[i].1.s.ps.length (flat ic xs[i].1.s.ps) := rd_hrx hi
  rcases hk with ⟨k1, ho⟩ | k1 | k1
  · have hw : nextW xs[i].1 m = false := by simp [nextW, h0, k1]
    rw [hw]
    cases hh : shHas xs[i].1.s m.src with
    | false =>
      refine FnF.inL (ref13_Next_read kr hok k1 ho hh) ?_
      rintro v L' ⟨a, k, p, c, rfl, rfl⟩
      exact ⟨_, ⟨a, k, p, c, rfl, rfl⟩, Ent.trans (Ent.cons ent_swap) (hrx_new hi (y := (nextT xs[i].1 m, a, k)))⟩
    | true =>
      have e1 := readH_same h0 k1 ho hh
      refine FnF.inL (ref13_Next_readH kr hok k1 ho hh) ?_
      rintro v L' ⟨p, c, rfl, rfl⟩
      refine ⟨_, ⟨xs[i].2.1, xs[i].2.2, p, c, by rw [e1], rfl⟩, Ent.trans ent_swap (hrx_same hi ?_ rfl)⟩
      rw [e1]
  · have hw : nextW xs[i].1 m = false := by simp [nextW, h0, k1]
    have e1 : nextT xs[i].1 m = ⟨m.src, clearS xs[i].1.s⟩ := by unfold nextT; rw [if_pos h0, if_neg (by omega), if_pos k1]
    rw [hw]
    refine FnF.inL (ref13_Next_write kr hok k1) ?_
    rintro v L' ⟨p, c, rfl, rfl⟩
    refine ⟨_, ⟨none, 0, p, c, rfl, rfl⟩, Ent.trans ent_swap (hrx_nil hi ?_)⟩
    rw [e1]; rfl
  · have e1 : (nextT xs[i].1 m).s = xs[i].1.s := by
      unfold nextT putT; rw [if_pos h0, if_neg (by omega), if_neg (by omega)]; split <;> rfl
    refine FnF.inL (ref13_Next_put kr hok k1) ?_
    rintro v L' ⟨p, c, rfl, rfl⟩
    exact ⟨_, ⟨xs[i].2.1, xs[i].2.2, p, c, rfl, rfl⟩, Ent.trans ent_swap (hrx_same hi (by rw [e1]) rfl)⟩
theorem dr_HomR2_30 {Q P : Prop} (k : Q) (h : Hid Q → P := by
  intro k
  first
  | (refine is_draw ?_; apply WC_mix (id := 10) .true _ (pl := .p 0 <| .p 1 <| .p 2 <| .p 3 <| .r 4 <| .r 5 <| .e true [(6, .e true [(7, .p 8 <| .p 9 <| .e false [(10, .done)])])]); exact mixed; kernel_rfl; kernel_rfl; exact Ent.refl; exact k.out)) : P := h ⟨k⟩
theorem ref16_New_no {F : List HP} {c : Cfg} {num : Int} (hc : c.wf) (h : newOk c num = false) : FnF Tryz.prog 30 [c.val, .int .i64 num] [] F (fun r L' => r = .tuple [.pointer none, .int .i64 1].toArray ∧ L' = []) := by
  have hC := fun F => ref01_Check (F := F) hc
  cases hb : checkB c with
  | false =>
    simp only [checkE, hb, Bool.false_eq_true, if_false] at hC
    refine FnF.mk' Tryz.func30 rfl rfl Tryz.ntmps30 rfl ?_
    repeat (first | rintro _ _ ⟨rfl, rfl⟩ | refine exq fun _ => ?_ | intro _ | refine go ?_ | refine dr_HomR2_30 ?_ | refine drq ?_ | refine cal @hC ?_)
    exact fin0
  | true =>
    simp only [checkE, hb, if_true] at hC
    by_cases h0 : num < 0
    · refine FnF.mk' Tryz.func30 rfl rfl Tryz.ntmps30 rfl ?_
      repeat (first | rintro _ _ ⟨rfl, rfl⟩ | refine exq fun _ => ?_ | intro _ | refine go ?_ | refine dr_HomR2_30 ?_ | refine drq ?_ | refine cal @hC ?_)
      exact fin0
    · have h1 : num ≥ c.homes := by
        simp only [newOk, hb, Bool.true_and, decide_eq_false_iff_not] at h
        omega
      refine FnF.mk' Tryz.func30 rfl rfl Tryz.ntmps30 rfl ?_
      repeat (first | rintro _ _ ⟨rfl, rfl⟩ | refine exq fun _ => ?_ | intro _ | refine go ?_ | refine dr_HomR2_30 ?_ | refine drq ?_ | refine cal @hC ?_)
      exact fin0
theorem hrx_more {L M : List HP} {xs : List HRd} {c : Cfg} (h : Ent L (All (xs.map hrd) :: M)) : Ent L (All ((xs ++ [((hmE0 c, none, 0) : HRd)]).map hrd) :: M) :=
  Ent.trans h (Ent.trans rds_nil (all_add (f := hrd) ((hmE0 c, none, 0) : HRd)))
theorem ref16_New {F : List HP} {c : Cfg} {num : Int} (hc : c.wf) (h : newOk c num = true) : FnF Tryz.prog 30 [c.val, .int .i64 num] [] F (fun r L' => ∃ b, r = .tuple [.pointer (some ⟨b, 0, none⟩), .int .i64 0].toArray ∧ L' = [HomR b c num (hmNew c num)]) := by
  have hnew := h
  simp only [newOk, Bool.and_eq_true, decide_eq_true_eq] at h
  obtain ⟨hb, h0, h1⟩ := h
  have hC := fun F => ref01_Check (F := F) hc
  simp only [checkE, hb, if_true] at hC
  have hM := fun F => ref12_New (F := F) hc hb
  have hQ := fun F => ref15_New (F := F) (cfg_room' hb)
  have hB := (cfg_bnd hb).2.2.2
  have hT : ∀ F, FnF Tryz.prog 100 [.int .i64 c.cores, .int .i64 c.pointers] [] F (fun r L' => r = .tuple [.agg (tec (hmE0 c) none 0).toArray, .int .i64 0].toArray ∧ L' = []) := fun F => by
    have := ref13_New (F := F) (cores := c.cores) (most := c.pointers)
    simp only [may_e0 hb, if_true] at this
    exact this
  obtain ⟨n, hn⟩ : ∃ n : Nat, c.lines = n := ⟨c.lines.toNat, by omega⟩
  refine FnF.mk' Tryz.func30 rfl rfl Tryz.ntmps30 rfl ?_
  repeat (first | rintro _ _ ⟨rfl, rfl⟩ | refine exq fun _ => ?_ | intro _ | refine go ?_ | refine dr_HomR2_30 ?_ | refine drq ?_ | refine cal @hC ?_ | refine cal @hM ?_ | refine cal @hQ ?_)
  rename_i bc be bq b
  apply WC_loopE (E0 := [(2, _), (10, _)]) (fun E0 (q : Nat × Option Addr × Nat) => (11, .int .i64 q.1) :: E0) (fun q => Cells b 113 (rmc c num q.2.1 q.1 q.2.2 be bq 0) :: Own 136 5 (.slice q.2.1 q.1 q.2.2) q.1 (flat hcx (List.replicate q.1 ((hmE0 c, none, 0) : HRd))) :: All ((List.replicate q.1 ((hmE0 c, none, 0) : HRd)).map hrd) :: QuR bq c.buffer [] :: MemRB be c (List.replicate (c.words * c.lines).toNat 0) :: Cells bc 24 c.cells :: F) (fun q => q.1 ≤ n) (fun q => n - q.1) (0, none, 0)
  · (repeat (first | exact Sub.nil | (refine Sub.cons (by first | rfl | (simp only [Nat.zero_add]; rfl)) ?_)))
  · exact Nat.zero_le _
  · refine Ent.trans ?_ (Ent.cons (own_empty all_nil))
    exact entu0
  · rintro ⟨i, p, k⟩ hi
    dsimp only at hi ⊢
    by_cases hlt : i < n
    · repeat (first | rintro _ _ ⟨rfl, rfl⟩ | refine exq fun _ => ?_ | intro _ | refine go ?_ | refine dr_HomR2_30 ?_ | refine drq ?_ | refine cal @hT ?_)
      rename_i b12 b64 p' k'
      refine WE_loop (i + 1, p', k') (by dsimp only; omega) (by dsimp only; omega) ?_ ?_
      · (repeat (first | exact Sub.nil | (refine Sub.cons (by first | rfl | (simp only [Nat.zero_add]; rfl)) ?_)))
      · dsimp only
        rw [List.replicate_succ', flat_append, flat_one]
        ((repeat (first | (with_reducible exact Ent.refl) | exact Ent.nil | (apply ent_pickE; (focus ((repeat (first | (with_reducible exact pk_here) | (apply pk_there))); done))) | (apply hrx_more) | apply Ent.drop)); all_goals (first | rfl | (with_reducible assumption) | (simp; done) | (simp; omega) | omega | (constructor <;> (simp) <;> omega)))
    · have hil : i = n := by omega
      subst hil
      repeat (first | rintro _ _ ⟨rfl, rfl⟩ | refine exq fun _ => ?_ | intro _ | refine go ?_ | refine dr_HomR2_30 ?_ | refine drq ?_)
      (apply WE_ret rfl rfl (by (repeat (first | exact ResOk.nil | (apply ResOk.tmp; rfl) | (apply resOk_cell; rfl; exact inferInstance; rfl; rfl)))))
      · exact ⟨_, rfl, rfl⟩
      · have he : RFact c num (hmEs c (linesL c num)) (List.replicate i ((hmE0 c, none, 0) : HRd)) := by
          refine ⟨by rw [List.length_replicate]; omega, fun k hk ho => ?_⟩
          rw [hmEs_get, if_pos ((lines_mem hnew k).2 ho), List.getElem_replicate]
        unfold hmNew
        have hl : i = (List.replicate i ((hmE0 c, none, 0) : HRd)).length := by rw [List.length_replicate]
        refine hr_in (xs := List.replicate i ((hmE0 c, none, 0) : HRd)) (n := i) (p := p) (k := k) (be := be) (bq := bq) ?_ hl rfl he
        exact entu0
end Go.Sx
