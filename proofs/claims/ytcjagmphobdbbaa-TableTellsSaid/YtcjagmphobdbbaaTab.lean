/- The table: what a home's entry becomes. The program's functions. My own work. -/
import Derived.Test.YtcjagmphobdbbaaShrTells
namespace Go.Sx
open Go Go.Proofs
set_option linter.unusedVariables false
set_option linter.unusedSectionVars false
set_option linter.unusedSimpArgs false
structure TEnt where
  o : Int
  s : SSet
theorem TEnt.ext_iff' {a b : TEnt} : (a.o = b.o ∧ a.s = b.s) ↔ a = b := by cases a; cases b; simp
instance : DecidableEq TEnt := fun a b => decidable_of_iff _ TEnt.ext_iff'
abbrev tec (e : TEnt) (a : Option Addr) (k : Nat) : List Value := [.int .i64 e.o, .int .i64 e.s.cores, .int .i64 e.s.most, .slice a e.s.ps.length k, .bool e.s.all]
abbrev TEnt.no : TEnt := ⟨0, .no⟩
abbrev tz (p : Option Addr) (n c : Nat) : List Value := [.int .i64 0, .int .i64 0, .int .i64 0, .slice none 0 0, .bool false, .slice p n c, .bool false]
abbrev tuc (e : TEnt) (a : Option Addr) (k : Nat) (p : Option Addr) (n c : Nat) (w : Bool) : List Value := [.int .i64 e.o, .int .i64 e.s.cores, .int .i64 e.s.most, .slice a e.s.ps.length k, .bool e.s.all, .slice p n c, .bool w]
/-- A turn that is being laid: the request's box, the turn's box, what was sent. -/
def SB (T U : TypeId) (bm bt : Nat) (m : Msg) (l : List Msg) : HP := Ex fun q : Option Addr × Nat => [Cells bm T (mc m), Cells bt U (tz q.1 l.length q.2), Own T 15 (.slice q.1 l.length q.2) l.length (flat mc l)]
theorem SB_in {T U : TypeId} {bm bt : Nat} {m : Msg} {l : List Msg} {p : Option Addr} {n c : Nat} {xs : List Value} {L M : List HP} (h : Ent L (Cells bm T (mc m) :: Cells bt U (tz p n c) :: Own T 15 (.slice p n c) n xs :: M)) (hn : n = l.length) (hx : xs = flat mc l) : Ent L (SB T U bm bt m l :: M) := by
  subst hn hx
  exact Ent.trans h (ex_intro (p := fun q : Option Addr × Nat => [Cells bm T (mc m), Cells bt U (tz q.1 l.length q.2), Own T 15 (.slice q.1 l.length q.2) l.length (flat mc l)]) (p, c))
section
variable {T U : TypeId} {bm bt : Nat} {m : Msg} {l : List Msg} {P : Program} {N : Nat} {env : Env} {L : List HP} {Q : Exit → Act → World → Prop}
theorem SB_open {c : Code} (h : ∀ p c0, WC P N c env (Cells bm T (mc m) :: Cells bt U (tz p l.length c0) :: Own T 15 (.slice p l.length c0) l.length (flat mc l) :: L) Q) : WC P N c env (SB T U bm bt m l :: L) Q := by
  intro a w ha hw
  obtain ⟨⟨p, c0⟩, hx⟩ := star_ex hw
  exact h p c0 a w ha hx
theorem SB_openO {all : Array Oper} {c : List Oper} (h : ∀ p c0, WO P N all c env (Cells bm T (mc m) :: Cells bt U (tz p l.length c0) :: Own T 15 (.slice p l.length c0) l.length (flat mc l) :: L) Q) : WO P N all c env (SB T U bm bt m l :: L) Q := by
  intro a w ha hw
  obtain ⟨⟨p, c0⟩, hx⟩ := star_ex hw
  exact h p c0 a w ha hx
end

/-! ## What comes of a request -/
def mayT (e : TEnt) : Bool := shMay e.s && decide (-1 ≤ e.o) && decide (e.o < e.s.cores)
def msgT (m : Msg) (kind to who acks own : Int) (w : Words) : Msg := ⟨kind, m.line, m.dst, to, who, acks, own, w⟩
def clearS (s : SSet) : SSet := ⟨s.cores, s.most, [], false⟩
def tgtT (e : TEnt) (but : List Int) : List Int := shTgt e.s but e.s.cores.toNat
def readT (e : TEnt) (m : Msg) : TEnt := if e.o = m.src then .no else if e.o ≠ -1 then ⟨e.o, shAddS e.s m.src⟩ else if (tgtT e []).length = 0 then ⟨m.src, clearS e.s⟩ else ⟨e.o, shAddS e.s m.src⟩
def readS (e : TEnt) (m : Msg) (w : Words) : List Msg := if e.o = m.src then [] else if e.o ≠ -1 then [msgT m 4 e.o m.src 0 0 .zero] else if (tgtT e []).length = 0 then [msgT m 7 m.src 0 0 2 w] else [msgT m 7 m.src 0 0 1 w]
def othersT (e : TEnt) (m : Msg) : List Int := tgtT e [m.src, e.o]
def firstT (e : TEnt) (m : Msg) (w : Words) : Msg := if e.o = -1 then msgT m 7 m.src 0 (othersT e m).length 4 w else if e.o = m.src then msgT m 8 m.src 0 (othersT e m).length 0 .zero else msgT m 5 e.o m.src (othersT e m).length 0 .zero
def invT (m : Msg) (c : Int) : Msg := msgT m 6 c m.src 0 0 .zero
def writeS (e : TEnt) (m : Msg) (w : Words) : List Msg := firstT e m w :: (othersT e m).map (invT m)
def putT (e : TEnt) (m : Msg) : TEnt := if e.o = m.src then ⟨-1, e.s⟩ else e
def okT (e : TEnt) (m : Msg) : Bool := mayT e && decide (0 ≤ m.src) && decide (m.src < e.s.cores)
def nextE (e : TEnt) (m : Msg) : Int := if okT e m then (if m.kind = 1 then (if e.o = m.src then 7 else 0) else if m.kind = 2 then 0 else if m.kind = 3 then 0 else 1) else 1
def nextT (e : TEnt) (m : Msg) : TEnt := if nextE e m = 0 then (if m.kind = 1 then readT e m else if m.kind = 2 then ⟨m.src, clearS e.s⟩ else putT e m) else .no
def nextS (e : TEnt) (m : Msg) (w : Words) : List Msg := if nextE e m = 0 then (if m.kind = 1 then readS e m w else if m.kind = 2 then writeS e m w else [msgT m 10 m.src 0 0 0 .zero]) else []
def nextW (e : TEnt) (m : Msg) : Bool := decide (nextE e m = 0) && decide (m.kind = 3) && decide (e.o = m.src)
set_option maxRecDepth 100000
set_option maxHeartbeats 4000000
attribute [local irreducible] Go.Exit.then Go.Exit.inBlock Go.Code.wp WC WO WE WQ V LoopQ FnQ Sat Star band bor IntKind.wrap WR Code.rounds WT KO
instance : TU Try.prog 148 (.func #[37] #[] false) := ⟨Try.underlying148⟩
abbrev SBt := SB 37 68
abbrev akl (e : TEnt) (a : Option Addr) (k : Nat) (m : Msg) (w : Words) (bm bt : Nat) : List Value := [.int .i64 e.o, .int .i64 e.s.cores, .int .i64 e.s.most, .slice a e.s.ps.length k, .bool e.s.all,
  .int .i64 m.kind, .int .i64 m.line, .int .i64 m.src, .int .i64 m.dst, .int .i64 m.who, .int .i64 m.acks, .int .i64 m.own, .int .i64 m.words.w0, .int .i64 m.words.w1, .int .i64 m.words.w2, .int .i64 m.words.w3, .int .i64 m.words.w4, .int .i64 m.words.w5, .int .i64 m.words.w6, .int .i64 m.words.w7,
  .int .i64 w.w0, .int .i64 w.w1, .int .i64 w.w2, .int .i64 w.w3, .int .i64 w.w4, .int .i64 w.w5, .int .i64 w.w6, .int .i64 w.w7, .func (.func 81) #[] #[.pointer (some ⟨bm, 0, none⟩), .pointer (some ⟨bt, 0, none⟩)]]
abbrev akv (e : TEnt) (a : Option Addr) (k : Nat) (m : Msg) (w : Words) (bm bt : Nat) : Value := .agg (akl e a k m w bm bt).toArray
theorem tab_send {F : List HP} {x m : Msg} {bm bt : Nat} {l : List Msg} (hn : l.length ≤ 1000) : FnF Try.prog 81 [mv x, .pointer (some ⟨bm, 0, none⟩), .pointer (some ⟨bt, 0, none⟩)] [SBt bm bt m l] F
    (fun r L' => r = .tuple [].toArray ∧ L' = [SBt bm bt m (l ++ [{ x with line := m.line, src := m.dst }])]) := by
  refine FnF.mk' Try.func81 rfl rfl Try.ntmps81 rfl ?_
  refine SB_open fun p c => ?_
  repeat' (first | rintro _ _ ⟨rfl, rfl⟩ | rintro _ _ ⟨_, rfl, rfl⟩ | rintro _ _ ⟨_, _, rfl, rfl⟩ | intro _ | refine go ?_ | (refine is_draw ?_; apply WC_mix (id := 1) true _ (pl := .p 0 <| .p 2 <| .r 1 <| .p 4 <| .e true [(3, .e true [(5, .p 6 <| .e false [(7, .done)])]), (5, .e false [(3, .p 6 <| .e false [(7, .done)])])]); exact mixed; kernel_rfl; kernel_rfl; exact Ent.refl) | (refine is_draw ?_; refine WC_draw mixed (by kernel_rfl) ?_) | refine spl ?_ ?_ | fail)
  all_goals (apply WE_ret rfl rfl (by (repeat (first | exact ResOk.nil | (apply ResOk.tmp; rfl) | (apply resOk_cell; rfl; exact inferInstance; rfl; rfl)))))
  all_goals first | exact ⟨rfl, rfl⟩ | (((repeat (first | (with_reducible exact Ent.refl) | exact Ent.nil | (apply ent_pickE; (focus ((repeat (first | (with_reducible exact pk_here) | (apply pk_there))); done))) | (apply SB_in) | apply Ent.drop)); all_goals (first | rfl | (with_reducible assumption) | (simp [flat_append, flat_one]; done) | (simp [flat_append, flat_one]; omega) | omega | (constructor <;> (simp [flat_append, flat_one]) <;> omega))))
theorem tab_sendT {F : List HP} {m : Msg} {bm bt : Nat} {l : List Msg} (kind to who acks own : Int) (w : Words) (hn : l.length ≤ 1000) : FnF Try.prog 81 [mv ⟨kind, 0, 0, to, who, acks, own, w⟩, .pointer (some ⟨bm, 0, none⟩), .pointer (some ⟨bt, 0, none⟩)] [SBt bm bt m l] F
    (fun r L' => r = .tuple [].toArray ∧ L' = [SBt bm bt m (l ++ [msgT m kind to who acks own w])]) := tab_send hn
theorem tab_May {F : List HP} {e : TEnt} {a : Option Addr} {k : Nat} (hk : RdL F 1 (.slice a e.s.ps.length k) e.s.ps.length (flat ic e.s.ps)) (hn : e.s.ps.length ≤ 1000) : FnF Try.prog 39 [.agg (tec e a k).toArray] [] F (fun r L' => r = .bool (mayT e) ∧ L' = []) := by
  have hM := fun F (hk : RdL F 1 (.slice a e.s.ps.length k) e.s.ps.length (flat ic e.s.ps)) => shr_May (F := F) hk hn
  refine FnF.mk' Try.func39 rfl rfl Try.ntmps39 rfl ?_
  cases hm : shMay e.s with
  | true =>
    simp only [hm] at hM
    by_cases h1 : -1 ≤ e.o
    · repeat (first | rintro _ _ ⟨rfl, rfl⟩ | rintro _ _ ⟨_, rfl, rfl⟩ | rintro _ _ ⟨_, _, rfl, rfl⟩ | intro _ | refine go ?_ | (refine is_draw ?_; refine WC_draw mixed (by kernel_rfl) ?_) | refine cal @hM ?_)
      (apply WE_ret rfl rfl (by (repeat (first | exact ResOk.nil | (apply ResOk.tmp; rfl) | (apply resOk_cell; rfl; exact inferInstance; rfl; rfl)))); (first | exact ⟨rfl, rfl⟩ | exact ⟨congrArg Value.bool (by decide), rfl⟩ | exact ⟨_, rfl, rfl⟩ | exact ⟨_, _, rfl, rfl⟩ | exact ⟨by first | (simp [mayT, hm, h1]; done) | (simp [mayT, hm, h1] <;> omega), rfl⟩); (repeat (first | exact Ent.refl | exact Ent.nil | apply Ent.pick | apply Ent.drop)))
    · repeat (first | rintro _ _ ⟨rfl, rfl⟩ | rintro _ _ ⟨_, rfl, rfl⟩ | rintro _ _ ⟨_, _, rfl, rfl⟩ | intro _ | refine go ?_ | (refine is_draw ?_; refine WC_draw mixed (by kernel_rfl) ?_) | refine cal @hM ?_)
      (apply WE_ret rfl rfl (by (repeat (first | exact ResOk.nil | (apply ResOk.tmp; rfl) | (apply resOk_cell; rfl; exact inferInstance; rfl; rfl)))); (first | exact ⟨rfl, rfl⟩ | exact ⟨congrArg Value.bool (by decide), rfl⟩ | exact ⟨_, rfl, rfl⟩ | exact ⟨_, _, rfl, rfl⟩ | exact ⟨by first | (simp [mayT, hm, h1]; done) | (simp [mayT, hm, h1] <;> omega), rfl⟩); (repeat (first | exact Ent.refl | exact Ent.nil | apply Ent.pick | apply Ent.drop)))
  | false =>
    simp only [hm] at hM
    repeat (first | rintro _ _ ⟨rfl, rfl⟩ | rintro _ _ ⟨_, rfl, rfl⟩ | rintro _ _ ⟨_, _, rfl, rfl⟩ | intro _ | refine go ?_ | (refine is_draw ?_; refine WC_draw mixed (by kernel_rfl) ?_) | refine cal @hM ?_)
    (apply WE_ret rfl rfl (by (repeat (first | exact ResOk.nil | (apply ResOk.tmp; rfl) | (apply resOk_cell; rfl; exact inferInstance; rfl; rfl)))); (first | exact ⟨rfl, rfl⟩ | exact ⟨congrArg Value.bool (by decide), rfl⟩ | exact ⟨_, rfl, rfl⟩ | exact ⟨_, _, rfl, rfl⟩ | exact ⟨by first | (simp [mayT, hm]; done) | (simp [mayT, hm] <;> omega), rfl⟩); (repeat (first | exact Ent.refl | exact Ent.nil | apply Ent.pick | apply Ent.drop)))
theorem tab_sharing {F : List HP} {e : TEnt} {a : Option Addr} {k : Nat} {m : Msg} {w : Words} {bm bt : Nat} (hk : RdL F 1 (.slice a e.s.ps.length k) e.s.ps.length (flat ic e.s.ps)) (hn : e.s.ps.length ≤ 1000) :
    FnF Try.prog 117 [akv e a k m w bm bt] [] F (fun r L' => ∃ a' k', r = .agg (tec ⟨e.o, shAddS e.s m.src⟩ a' k').toArray ∧ L' = [Own 3 1 (.slice a' (shAddS e.s m.src).ps.length k') (shAddS e.s m.src).ps.length (flat ic (shAddS e.s m.src).ps)]) := by
  have hA := fun F (hk : RdL F 1 (.slice a e.s.ps.length k) e.s.ps.length (flat ic e.s.ps)) => shr_Add (F := F) (x := m.src) hk hn
  refine FnF.mk' Try.func117 rfl rfl Try.ntmps117 rfl ?_
  repeat (first | rintro _ _ ⟨rfl, rfl⟩ | rintro _ _ ⟨_, rfl, rfl⟩ | rintro _ _ ⟨_, _, rfl, rfl⟩ | intro _ | refine go ?_ | (refine is_draw ?_; refine WC_draw mixed (by kernel_rfl) ?_) | refine cal @hA ?_)
  (apply WE_ret rfl rfl (by (repeat (first | exact ResOk.nil | (apply ResOk.tmp; rfl) | (apply resOk_cell; rfl; exact inferInstance; rfl; rfl)))))
  · exact ⟨_, _, rfl, rfl⟩
  · (repeat (first | (with_reducible exact Ent.refl) | exact Ent.nil | (apply ent_pickE; (focus ((repeat (first | (with_reducible exact pk_here) | (apply pk_there))); done))) | apply Ent.drop))
theorem tab_data {F : List HP} {e : TEnt} {a : Option Addr} {k : Nat} {m : Msg} {w : Words} {bm bt : Nat} {own acks : Int} {l : List Msg} (hn : l.length ≤ 1000) :
    FnF Try.prog 119 [akv e a k m w bm bt, .int .i64 own, .int .i64 acks] [SBt bm bt m l] F (fun r L' => r = .tuple [].toArray ∧ L' = [SBt bm bt m (l ++ [msgT m 7 m.src 0 acks own w])]) := by
  have hS := fun F => tab_sendT (F := F) (m := m) (bm := bm) (bt := bt) (l := l) 7 m.src 0 acks own w hn
  refine FnF.mk' Try.func119 rfl rfl Try.ntmps119 rfl ?_
  repeat (first | rintro _ _ ⟨rfl, rfl⟩ | rintro _ _ ⟨_, rfl, rfl⟩ | rintro _ _ ⟨_, _, rfl, rfl⟩ | intro _ | refine go ?_ | (refine is_draw ?_; refine WC_draw mixed (by kernel_rfl) ?_) | refine cal @hS ?_)
  (apply WE_ret rfl rfl (by (repeat (first | exact ResOk.nil | (apply ResOk.tmp; rfl) | (apply resOk_cell; rfl; exact inferInstance; rfl; rfl)))); (first | exact ⟨rfl, rfl⟩ | exact ⟨congrArg Value.bool (by decide), rfl⟩ | exact ⟨_, rfl, rfl⟩ | exact ⟨_, _, rfl, rfl⟩ | exact ⟨by first | (simp []; done) | (simp [] <;> omega), rfl⟩); (repeat (first | exact Ent.refl | exact Ent.nil | apply Ent.pick | apply Ent.drop)))
theorem tab_read {F : List HP} {e : TEnt} {a : Option Addr} {k : Nat} {m : Msg} {w : Words} {bm bt : Nat} (hk : RdL F 1 (.slice a e.s.ps.length k) e.s.ps.length (flat ic e.s.ps)) (hm : shMay e.s = true) :
    FnF Try.prog 82 [akv e a k m w bm bt] [SBt bm bt m []] F (fun r L' => ∃ a' k', r = .tuple [.agg (tec (readT e m) a' k').toArray, .bool false, .int .i64 (if e.o = m.src then 7 else 0)].toArray
      ∧ L' = [Own 3 1 (.slice a' (readT e m).s.ps.length k') (readT e m).s.ps.length (flat ic (readT e m).s.ps), SBt bm bt m (readS e m w)]) := by
  have hn := (may_facts' hm).2.2
  have hSh := fun F (hk : RdL F 1 (.slice a e.s.ps.length k) e.s.ps.length (flat ic e.s.ps)) => tab_sharing (F := F) (e := e) (a := a) (k := k) (m := m) (w := w) (bm := bm) (bt := bt) hk (by omega)
  have hT := fun F (hk : RdL F 1 (.slice a e.s.ps.length k) e.s.ps.length (flat ic e.s.ps)) => shr_Targets (F := F) (u := .slice none 0 0) (but := []) hk hm rd_empty (by simp)
  refine FnF.mk' Try.func82 rfl rfl Try.ntmps82 rfl ?_
  by_cases h1 : e.o = m.src
  · have e1 : readT e m = .no := if_pos h1
    have e2 : readS e m w = [] := if_pos h1
    rw [e1, e2, if_pos h1]
    repeat (first | rintro _ _ ⟨rfl, rfl⟩ | rintro _ _ ⟨_, rfl, rfl⟩ | rintro _ _ ⟨_, _, rfl, rfl⟩ | intro _ | refine go ?_ | (refine is_draw ?_; apply WC_mix (id := 8) false _ (pl := .p 0 <| .p 1 <| .p 3 <| .p 4 <| .r 2 <| .r 5 <| .e true [(6, .p 7 <| .e true [(8, .p 9 <| .p 10 <| .done)])]); exact mixed; kernel_rfl; kernel_rfl; exact Ent.refl) | (refine is_draw ?_; refine WC_draw mixed (by kernel_rfl) ?_))
    (apply WE_ret rfl rfl (by (repeat (first | exact ResOk.nil | (apply ResOk.tmp; rfl) | (apply resOk_cell; rfl; exact inferInstance; rfl; rfl)))))
    · exact ⟨none, 0, rfl, rfl⟩
    · refine Ent.trans ?_ (own_empty Ent.refl)
      (repeat (first | (with_reducible exact Ent.refl) | exact Ent.nil | (apply ent_pickE; (focus ((repeat (first | (with_reducible exact pk_here) | (apply pk_there))); done))) | apply Ent.drop))
  · rw [if_neg h1]
    by_cases h2 : e.o = -1
    · by_cases h3 : (shTgt e.s [] e.s.cores.toNat).length = 0
      · have e1 : readT e m = ⟨m.src, clearS e.s⟩ := by unfold readT tgtT; rw [if_neg h1, if_neg (by omega), if_pos h3]
        have e2 : readS e m w = [msgT m 7 m.src 0 0 2 w] := by unfold readS tgtT; rw [if_neg h1, if_neg (by omega), if_pos h3]
        have hD := fun F => tab_data (F := F) (e := e) (a := a) (k := k) (m := m) (w := w) (bm := bm) (bt := bt) (own := 2) (acks := 0) (l := []) (by simp)
        simp only [List.nil_append] at hD
        rw [e1, e2]
        repeat' (first | rintro _ _ ⟨rfl, rfl⟩ | rintro _ _ ⟨_, rfl, rfl⟩ | rintro _ _ ⟨_, _, rfl, rfl⟩ | intro _ | refine go ?_ | (refine is_draw ?_; apply WC_mix (id := 8) false _ (pl := .p 0 <| .p 1 <| .p 3 <| .p 4 <| .r 2 <| .r 5 <| .e true [(6, .p 7 <| .e true [(8, .p 9 <| .p 10 <| .done)])]); exact mixed; kernel_rfl; kernel_rfl; exact Ent.refl) | (refine is_draw ?_; refine WC_draw mixed (by kernel_rfl) ?_) | refine cal @hT ?_ | refine cal @hD ?_ | refine cal @shr_Clear ?_ | refine spl ?_ ?_ | fail)
        all_goals (apply WE_ret rfl rfl (by (repeat (first | exact ResOk.nil | (apply ResOk.tmp; rfl) | (apply resOk_cell; rfl; exact inferInstance; rfl; rfl)))))
        all_goals first
        | exact ⟨none, 0, rfl, rfl⟩
        | (refine Ent.trans ?_ (own_empty Ent.refl); (repeat (first | (with_reducible exact Ent.refl) | exact Ent.nil | (apply ent_pickE; (focus ((repeat (first | (with_reducible exact pk_here) | (apply pk_there))); done))) | apply Ent.drop)))
      · have e1 : readT e m = ⟨e.o, shAddS e.s m.src⟩ := by unfold readT tgtT; rw [if_neg h1, if_neg (by omega), if_neg h3]
        have e2 : readS e m w = [msgT m 7 m.src 0 0 1 w] := by unfold readS tgtT; rw [if_neg h1, if_neg (by omega), if_neg h3]
        have hD := fun F => tab_data (F := F) (e := e) (a := a) (k := k) (m := m) (w := w) (bm := bm) (bt := bt) (own := 1) (acks := 0) (l := []) (by simp)
        simp only [List.nil_append] at hD
        rw [e1, e2]
        repeat (first | rintro _ _ ⟨rfl, rfl⟩ | rintro _ _ ⟨_, rfl, rfl⟩ | rintro _ _ ⟨_, _, rfl, rfl⟩ | intro _ | refine go ?_ | (refine is_draw ?_; apply WC_mix (id := 8) false _ (pl := .p 0 <| .p 1 <| .p 3 <| .p 4 <| .r 2 <| .r 5 <| .e true [(6, .p 7 <| .e true [(8, .p 9 <| .p 10 <| .done)])]); exact mixed; kernel_rfl; kernel_rfl; exact Ent.refl) | (refine is_draw ?_; refine WC_draw mixed (by kernel_rfl) ?_) | refine cal @hT ?_ | refine cal @hD ?_ | refine cal @hSh ?_)
        (apply WE_ret rfl rfl (by (repeat (first | exact ResOk.nil | (apply ResOk.tmp; rfl) | (apply resOk_cell; rfl; exact inferInstance; rfl; rfl)))))
        · exact ⟨_, _, rfl, rfl⟩
        · (repeat (first | (with_reducible exact Ent.refl) | exact Ent.nil | (apply ent_pickE; (focus ((repeat (first | (with_reducible exact pk_here) | (apply pk_there))); done))) | apply Ent.drop))
    · have e1 : readT e m = ⟨e.o, shAddS e.s m.src⟩ := by unfold readT tgtT; rw [if_neg h1, if_pos (by omega)]
      have e2 : readS e m w = [msgT m 4 e.o m.src 0 0 .zero] := by unfold readS tgtT; rw [if_neg h1, if_pos (by omega)]
      have hS := fun F => tab_sendT (F := F) (m := m) (bm := bm) (bt := bt) (l := []) 4 e.o m.src 0 0 .zero (by simp)
      simp only [List.nil_append] at hS
      rw [e1, e2]
      repeat (first | rintro _ _ ⟨rfl, rfl⟩ | rintro _ _ ⟨_, rfl, rfl⟩ | rintro _ _ ⟨_, _, rfl, rfl⟩ | intro _ | refine go ?_ | (refine is_draw ?_; apply WC_mix (id := 8) false _ (pl := .p 0 <| .p 1 <| .p 3 <| .p 4 <| .r 2 <| .r 5 <| .e true [(6, .p 7 <| .e true [(8, .p 9 <| .p 10 <| .done)])]); exact mixed; kernel_rfl; kernel_rfl; exact Ent.refl) | (refine is_draw ?_; refine WC_draw mixed (by kernel_rfl) ?_) | refine cal @hS ?_ | refine cal @hSh ?_)
      (apply WE_ret rfl rfl (by (repeat (first | exact ResOk.nil | (apply ResOk.tmp; rfl) | (apply resOk_cell; rfl; exact inferInstance; rfl; rfl)))))
      · exact ⟨_, _, rfl, rfl⟩
      · (repeat (first | (with_reducible exact Ent.refl) | exact Ent.nil | (apply ent_pickE; (focus ((repeat (first | (with_reducible exact pk_here) | (apply pk_there))); done))) | apply Ent.drop))
theorem tab_put {F : List HP} {e : TEnt} {a : Option Addr} {k : Nat} {m : Msg} {w : Words} {bm bt : Nat} :
    FnF Try.prog 84 [akv e a k m w bm bt] [SBt bm bt m []] F (fun r L' => r = .tuple [.agg (tec (putT e m) a k).toArray, .bool (decide (e.o = m.src)), .int .i64 0].toArray ∧ L' = [SBt bm bt m [msgT m 10 m.src 0 0 0 .zero]]) := by
  have hS := fun F => tab_sendT (F := F) (m := m) (bm := bm) (bt := bt) (l := []) 10 m.src 0 0 0 .zero (by simp)
  simp only [List.nil_append] at hS
  refine FnF.mk' Try.func84 rfl rfl Try.ntmps84 rfl ?_
  by_cases h1 : e.o = m.src
  · have e1 : putT e m = ⟨-1, e.s⟩ := if_pos h1
    rw [e1]
    repeat (first | rintro _ _ ⟨rfl, rfl⟩ | rintro _ _ ⟨_, rfl, rfl⟩ | rintro _ _ ⟨_, _, rfl, rfl⟩ | intro _ | refine go ?_ | (refine is_draw ?_; refine WC_draw mixed (by kernel_rfl) ?_) | refine cal @hS ?_)
    (apply WE_ret rfl rfl (by (repeat (first | exact ResOk.nil | (apply ResOk.tmp; rfl) | (apply resOk_cell; rfl; exact inferInstance; rfl; rfl)))); (first | exact ⟨rfl, rfl⟩ | exact ⟨congrArg Value.bool (by decide), rfl⟩ | exact ⟨_, rfl, rfl⟩ | exact ⟨_, _, rfl, rfl⟩ | exact ⟨by first | (simp [h1]; done) | (simp [h1] <;> omega), rfl⟩); (repeat (first | exact Ent.refl | exact Ent.nil | apply Ent.pick | apply Ent.drop)))
  · have e1 : putT e m = e := if_neg h1
    rw [e1]
    repeat (first | rintro _ _ ⟨rfl, rfl⟩ | rintro _ _ ⟨_, rfl, rfl⟩ | rintro _ _ ⟨_, _, rfl, rfl⟩ | intro _ | refine go ?_ | (refine is_draw ?_; refine WC_draw mixed (by kernel_rfl) ?_) | refine cal @hS ?_)
    (apply WE_ret rfl rfl (by (repeat (first | exact ResOk.nil | (apply ResOk.tmp; rfl) | (apply resOk_cell; rfl; exact inferInstance; rfl; rfl)))); (first | exact ⟨rfl, rfl⟩ | exact ⟨congrArg Value.bool (by decide), rfl⟩ | exact ⟨_, rfl, rfl⟩ | exact ⟨_, _, rfl, rfl⟩ | exact ⟨by first | (simp [h1]; done) | (simp [h1] <;> omega), rfl⟩); (repeat (first | exact Ent.refl | exact Ent.nil | apply Ent.pick | apply Ent.drop)))
theorem tab_write {F : List HP} {e : TEnt} {a : Option Addr} {k : Nat} {m : Msg} {w : Words} {bm bt : Nat} (hk : RdL F 1 (.slice a e.s.ps.length k) e.s.ps.length (flat ic e.s.ps)) (hm : shMay e.s = true) :
    FnF Try.prog 83 [akv e a k m w bm bt] [SBt bm bt m []] F (fun r L' => r = .tuple [.agg (tec ⟨m.src, clearS e.s⟩ none 0).toArray, .bool false, .int .i64 0].toArray ∧ L' = [SBt bm bt m (writeS e m w)]) := by
  have hc64 := (may_facts' hm).2.1
  have htl := tgt_len e.s [m.src, e.o] e.s.cores.toNat
  have hT := fun F (hk : RdL F 1 (.slice a e.s.ps.length k) e.s.ps.length (flat ic e.s.ps)) u (hb : RdL F 1 u 2 [.int .i64 m.src, .int .i64 e.o]) => @shr_Targets F e.s a k u [m.src, e.o] hk hm hb (by simp)
  have ho : othersT e m = shTgt e.s [m.src, e.o] e.s.cores.toNat := rfl
  have hw : writeS e m w = firstT e m w :: (othersT e m).map (invT m) := rfl
  have hf : firstT e m w = if e.o = -1 then msgT m 7 m.src 0 (othersT e m).length 4 w else if e.o = m.src then msgT m 8 m.src 0 (othersT e m).length 0 .zero else msgT m 5 e.o m.src (othersT e m).length 0 .zero := rfl
  rw [hw]
  rw [ho] at hf ⊢
  generalize shTgt e.s [m.src, e.o] e.s.cores.toNat = ot at hT htl hf ⊢
  have hD := fun F => tab_data (F := F) (e := e) (a := a) (k := k) (m := m) (w := w) (bm := bm) (bt := bt) (own := 4) (acks := ot.length) (l := []) (by simp)
  simp only [List.nil_append] at hD
  have hS8 := fun F => tab_sendT (F := F) (m := m) (bm := bm) (bt := bt) (l := []) 8 m.src 0 ot.length 0 .zero (by simp)
  simp only [List.nil_append] at hS8
  have hS5 := fun F => tab_sendT (F := F) (m := m) (bm := bm) (bt := bt) (l := []) 5 e.o m.src ot.length 0 .zero (by simp)
  simp only [List.nil_append] at hS5
  refine FnF.mk' Try.func83 rfl rfl Try.ntmps83 rfl ?_
  repeat (first | rintro _ _ ⟨rfl, rfl⟩ | rintro _ _ ⟨_, rfl, rfl⟩ | rintro _ _ ⟨_, _, rfl, rfl⟩ | intro _ | refine go ?_ | (refine is_draw ?_; apply WC_mix (id := 14) false _ (pl := .p 0 <| .p 1 <| .p 3 <| .p 4 <| .r 2 <| .r 5 <| .e true [(6, .p 7 <| .e true [(8, .p 9 <| .p 10 <| .done)])]); exact mixed; kernel_rfl; kernel_rfl; exact Ent.refl) | (refine is_draw ?_; refine WC_draw mixed (by kernel_rfl) ?_) | refine cal @hT ?_)
  rename_i b1 b2 bs p q
  apply WC_join (P := Try.prog) (fun _ : Unit => [(1, .pointer (some ⟨b1, 0, none⟩)), (2, .pointer (some ⟨b2, 0, none⟩)), (3, .bool false), (4, .int .i64 0), (54, .slice p ot.length q), (55, .int .i64 ot.length), (56, .int .i64 0)])
    (fun _ => SBt bm bt m [firstT e m w] :: Own 3 1 (.slice p ot.length q) ot.length (flat ic ot) :: Cells b2 59 [.int .i64 0, .int .i64 0, .int .i64 0, .slice none 0 0, .bool false] :: Cells b1 150 (akl e a k m w bm bt) :: F) (fun _ => True)
  · intro join
    by_cases h1 : e.o = -1
    · rw [if_pos h1] at hf
      repeat (first | rintro _ _ ⟨rfl, rfl⟩ | rintro _ _ ⟨_, rfl, rfl⟩ | rintro _ _ ⟨_, _, rfl, rfl⟩ | intro _ | refine go ?_ | (refine is_draw ?_; apply WC_mix (id := 14) false _ (pl := .p 0 <| .p 1 <| .p 3 <| .p 4 <| .r 2 <| .r 5 <| .e true [(6, .p 7 <| .e true [(8, .p 9 <| .p 10 <| .done)])]); exact mixed; kernel_rfl; kernel_rfl; exact Ent.refl) | (refine is_draw ?_; refine WC_draw mixed (by kernel_rfl) ?_) | refine cal @hD ?_)
      skip
      exact join () _ _ trivial (by (repeat (first | exact Sub.nil | (refine Sub.cons (by first | rfl | (simp only [Nat.zero_add]; rfl)) ?_)))) (by rw [hf]; (repeat (first | (with_reducible exact Ent.refl) | exact Ent.nil | (apply ent_pickE; (focus ((repeat (first | (with_reducible exact pk_here) | (apply pk_there))); done))) | apply Ent.drop)))
    · rw [if_neg h1] at hf
      by_cases h2 : e.o = m.src
      · rw [if_pos h2] at hf
        repeat (first | rintro _ _ ⟨rfl, rfl⟩ | rintro _ _ ⟨_, rfl, rfl⟩ | rintro _ _ ⟨_, _, rfl, rfl⟩ | intro _ | refine go ?_ | (refine is_draw ?_; apply WC_mix (id := 14) false _ (pl := .p 0 <| .p 1 <| .p 3 <| .p 4 <| .r 2 <| .r 5 <| .e true [(6, .p 7 <| .e true [(8, .p 9 <| .p 10 <| .done)])]); exact mixed; kernel_rfl; kernel_rfl; exact Ent.refl) | (refine is_draw ?_; refine WC_draw mixed (by kernel_rfl) ?_) | refine cal @hS8 ?_)
        skip
        exact join () _ _ trivial (by (repeat (first | exact Sub.nil | (refine Sub.cons (by first | rfl | (simp only [Nat.zero_add]; rfl)) ?_)))) (by rw [hf]; (repeat (first | (with_reducible exact Ent.refl) | exact Ent.nil | (apply ent_pickE; (focus ((repeat (first | (with_reducible exact pk_here) | (apply pk_there))); done))) | apply Ent.drop)))
      · rw [if_neg h2] at hf
        repeat (first | rintro _ _ ⟨rfl, rfl⟩ | rintro _ _ ⟨_, rfl, rfl⟩ | rintro _ _ ⟨_, _, rfl, rfl⟩ | intro _ | refine go ?_ | (refine is_draw ?_; apply WC_mix (id := 14) false _ (pl := .p 0 <| .p 1 <| .p 3 <| .p 4 <| .r 2 <| .r 5 <| .e true [(6, .p 7 <| .e true [(8, .p 9 <| .p 10 <| .done)])]); exact mixed; kernel_rfl; kernel_rfl; exact Ent.refl) | (refine is_draw ?_; refine WC_draw mixed (by kernel_rfl) ?_) | refine cal @hS5 ?_)
        skip
        exact join () _ _ trivial (by (repeat (first | exact Sub.nil | (refine Sub.cons (by first | rfl | (simp only [Nat.zero_add]; rfl)) ?_)))) (by rw [hf]; (repeat (first | (with_reducible exact Ent.refl) | exact Ent.nil | (apply ent_pickE; (focus ((repeat (first | (with_reducible exact pk_here) | (apply pk_there))); done))) | apply Ent.drop)))
  · intro _ _
    clear hf hD hS8 hS5
    generalize firstT e m w = f1
    apply WC_loopE (E0 := [(1, _), (2, _), (54, _), (55, _)]) (fun E0 (i : Nat) => (56, .int .i64 i) :: E0) (fun i => SBt bm bt m (f1 :: (ot.take i).map (invT m)) :: Own 3 1 (.slice p ot.length q) ot.length (flat ic ot) :: Cells b2 59 [.int .i64 0, .int .i64 0, .int .i64 0, .slice none 0 0, .bool false] :: Cells b1 150 (akl e a k m w bm bt) :: F) (fun i => i ≤ ot.length) (fun i => ot.length - i) 0
    · (repeat (first | exact Sub.nil | (refine Sub.cons (by first | rfl | (simp only [Nat.zero_add]; rfl)) ?_)))
    · exact Nat.zero_le _
    · simp only [List.take_zero, List.map_nil]; (repeat (first | (with_reducible exact Ent.refl) | exact Ent.nil | (apply ent_pickE; (focus ((repeat (first | (with_reducible exact pk_here) | (apply pk_there))); done))) | apply Ent.drop))
    · intro i hi
      by_cases hlt : i < ot.length
      · have hS := fun F => tab_sendT (F := F) (m := m) (bm := bm) (bt := bt) (l := f1 :: (ot.take i).map (invT m)) 6 ot[i] m.src 0 0 .zero (by simp; omega)
        have et : f1 :: (ot.take (i + 1)).map (invT m) = (f1 :: (ot.take i).map (invT m)) ++ [msgT m 6 ot[i] m.src 0 0 .zero] := by
          rw [List.take_add_one, List.getElem?_eq_getElem hlt]; simp only [List.map_append, List.cons_append, List.map_cons, List.map_nil, Option.toList_some]; rfl
        repeat (first | rintro _ _ ⟨rfl, rfl⟩ | rintro _ _ ⟨_, rfl, rfl⟩ | rintro _ _ ⟨_, _, rfl, rfl⟩ | intro _ | refine go ?_ | (refine is_draw ?_; apply WC_mix (id := 14) false _ (pl := .p 0 <| .p 1 <| .p 3 <| .p 4 <| .r 2 <| .r 5 <| .e true [(6, .p 7 <| .e true [(8, .p 9 <| .p 10 <| .done)])]); exact mixed; kernel_rfl; kernel_rfl; exact Ent.refl) | (refine is_draw ?_; refine WC_draw mixed (by kernel_rfl) ?_) | refine cal @hS ?_)
        refine WE_loop (i + 1) (by omega) (by omega) ?_ ?_
        · (repeat (first | exact Sub.nil | (refine Sub.cons (by first | rfl | (simp only [Nat.zero_add]; rfl)) ?_)))
        · rw [et]; (repeat (first | (with_reducible exact Ent.refl) | exact Ent.nil | (apply ent_pickE; (focus ((repeat (first | (with_reducible exact pk_here) | (apply pk_there))); done))) | apply Ent.drop))
      · have hil : i = ot.length := by omega
        subst hil
        rw [List.take_length]
        repeat (first | rintro _ _ ⟨rfl, rfl⟩ | rintro _ _ ⟨_, rfl, rfl⟩ | rintro _ _ ⟨_, _, rfl, rfl⟩ | intro _ | refine go ?_ | (refine is_draw ?_; apply WC_mix (id := 14) false _ (pl := .p 0 <| .p 1 <| .p 3 <| .p 4 <| .r 2 <| .r 5 <| .e true [(6, .p 7 <| .e true [(8, .p 9 <| .p 10 <| .done)])]); exact mixed; kernel_rfl; kernel_rfl; exact Ent.refl) | (refine is_draw ?_; refine WC_draw mixed (by kernel_rfl) ?_) | refine cal @shr_Clear ?_)
        (apply WE_ret rfl rfl (by (repeat (first | exact ResOk.nil | (apply ResOk.tmp; rfl) | (apply resOk_cell; rfl; exact inferInstance; rfl; rfl)))))
        · exact ⟨rfl, rfl⟩
        · (repeat (first | (with_reducible exact Ent.refl) | exact Ent.nil | (apply ent_pickE; (focus ((repeat (first | (with_reducible exact pk_here) | (apply pk_there))); done))) | apply Ent.drop))
theorem readT_len {e : TEnt} {m : Msg} (h : shMay e.s = true) : (readT e m).s.ps.length ≤ 9 := by
  have h8 := may_facts' h
  have ha := addS_len e.s m.src
  unfold readT
  split
  · simp
  · split
    · dsimp only; omega
    · split
      · simp [clearS]
      · dsimp only; omega
theorem readS_len {e : TEnt} {m : Msg} {w : Words} : (readS e m w).length ≤ 1 := by
  unfold readS; split <;> (try split) <;> (try split) <;> simp
theorem tab_Next {F : List HP} {e : TEnt} {a : Option Addr} {k : Nat} {m : Msg} {w : Words} (hk : RdL F 1 (.slice a e.s.ps.length k) e.s.ps.length (flat ic e.s.ps)) (hn : e.s.ps.length ≤ 1000) :
    FnF Try.prog 35 [.agg (tec e a k).toArray, mv m, wv w] [] F (fun r L' => ∃ a' k' p c, r = .tuple [.agg (tuc (nextT e m) a' k' p (nextS e m w).length c (nextW e m)).toArray, .int .i64 (nextE e m)].toArray
      ∧ L' = [Own 3 1 (.slice a' (nextT e m).s.ps.length k') (nextT e m).s.ps.length (flat ic (nextT e m).s.ps), Own 37 15 (.slice p (nextS e m w).length c) (nextS e m w).length (flat mc (nextS e m w))]) := by
  have hM := fun F (hk : RdL F 1 (.slice a e.s.ps.length k) e.s.ps.length (flat ic e.s.ps)) => tab_May (F := F) hk hn
  refine FnF.mk' Try.func35 rfl rfl Try.ntmps35 rfl ?_
  cases hok : okT e m with
  | false =>
    have e1 : nextE e m = 1 := by simp [nextE, hok]
    have e2 : nextT e m = .no := by simp [nextT, e1]
    have e3 : nextS e m w = [] := by simp [nextS, e1]
    have e4 : nextW e m = false := by simp [nextW, e1]
    rw [e1, e2, e3, e4]
    cases hm : mayT e with
    | false =>
      simp only [hm] at hM
      repeat (first | rintro _ _ ⟨rfl, rfl⟩ | rintro _ _ ⟨_, rfl, rfl⟩ | rintro _ _ ⟨_, _, rfl, rfl⟩ | intro _ | refine go ?_ | (refine is_draw ?_; refine WC_draw mixed (by kernel_rfl) ?_) | refine cal @hM ?_)
      (apply WE_ret rfl rfl (by (repeat (first | exact ResOk.nil | (apply ResOk.tmp; rfl) | (apply resOk_cell; rfl; exact inferInstance; rfl; rfl)))))
      · exact ⟨none, 0, none, 0, rfl, rfl⟩
      · refine own_empty (own_empty ?_)
        (repeat (first | (with_reducible exact Ent.refl) | exact Ent.nil | (apply ent_pickE; (focus ((repeat (first | (with_reducible exact pk_here) | (apply pk_there))); done))) | apply Ent.drop))
    | true =>
      simp only [hm] at hM
      have hb : ¬ (0 ≤ m.src ∧ m.src < e.s.cores) := by
        intro hh; simp [okT, hm, hh] at hok
      by_cases h0 : m.src < 0
      · repeat (first | rintro _ _ ⟨rfl, rfl⟩ | rintro _ _ ⟨_, rfl, rfl⟩ | rintro _ _ ⟨_, _, rfl, rfl⟩ | intro _ | refine go ?_ | (refine is_draw ?_; refine WC_draw mixed (by kernel_rfl) ?_) | refine cal @hM ?_)
        (apply WE_ret rfl rfl (by (repeat (first | exact ResOk.nil | (apply ResOk.tmp; rfl) | (apply resOk_cell; rfl; exact inferInstance; rfl; rfl)))))
        · exact ⟨none, 0, none, 0, rfl, rfl⟩
        · refine own_empty (own_empty ?_)
          (repeat (first | (with_reducible exact Ent.refl) | exact Ent.nil | (apply ent_pickE; (focus ((repeat (first | (with_reducible exact pk_here) | (apply pk_there))); done))) | apply Ent.drop))
      · repeat (first | rintro _ _ ⟨rfl, rfl⟩ | rintro _ _ ⟨_, rfl, rfl⟩ | rintro _ _ ⟨_, _, rfl, rfl⟩ | intro _ | refine go ?_ | (refine is_draw ?_; refine WC_draw mixed (by kernel_rfl) ?_) | refine cal @hM ?_)
        (apply WE_ret rfl rfl (by (repeat (first | exact ResOk.nil | (apply ResOk.tmp; rfl) | (apply resOk_cell; rfl; exact inferInstance; rfl; rfl)))))
        · exact ⟨none, 0, none, 0, rfl, rfl⟩
        · refine own_empty (own_empty ?_)
          (repeat (first | (with_reducible exact Ent.refl) | exact Ent.nil | (apply ent_pickE; (focus ((repeat (first | (with_reducible exact pk_here) | (apply pk_there))); done))) | apply Ent.drop))
  | true =>
    have hm : mayT e = true := by simp only [okT, Bool.and_eq_true] at hok; exact hok.1.1
    have hs : shMay e.s = true := by simp only [mayT, Bool.and_eq_true] at hm; exact hm.1.1
    have hb : 0 ≤ m.src ∧ m.src < e.s.cores := by simp only [okT, Bool.and_eq_true, decide_eq_true_eq] at hok; exact ⟨hok.1.2, hok.2⟩
    have h8 := (may_facts' hs).2.2
    simp only [hm] at hM
    obtain ⟨hb0, hb1⟩ := hb
    by_cases h1 : m.kind = 1
    · have hk3 : ¬ m.kind = 3 := by omega
      have hk2 : ¬ m.kind = 2 := by omega
      have hR := fun F (hk : RdL F 1 (.slice a e.s.ps.length k) e.s.ps.length (flat ic e.s.ps)) bm bt => tab_read (F := F) (e := e) (a := a) (k := k) (m := m) (w := w) (bm := bm) (bt := bt) hk hs
      by_cases he : e.o = m.src
      · have e1 : nextE e m = 7 := by simp [nextE, hok, h1, he]
        have e2 : nextT e m = .no := by simp [nextT, e1]
        have e3 : nextS e m w = [] := by simp [nextS, e1]
        have e4 : nextW e m = false := by simp [nextW, e1]
        rw [e1, e2, e3, e4]
        simp only [if_pos he] at hR
        repeat (first | rintro _ _ ⟨rfl, rfl⟩ | rintro _ _ ⟨_, rfl, rfl⟩ | rintro _ _ ⟨_, _, rfl, rfl⟩ | intro _ | refine go ?_ | (refine is_draw ?_; refine WC_draw mixed (by kernel_rfl) ?_) | refine cal @hM ?_)
        rename_i b3 b4 b5 b6 b8 b9
        refine WO_ent (L' := SBt b4 b8 m [] :: Cells b9 150 (akl e a k m w b4 b8) :: Cells b6 68 (tz none 0 0) :: F) (SB_in (p := none) (n := 0) (c := 0) (xs := []) (Ent.trans (own_empty (e := 37) (sz := 15) (p := none) Ent.refl) (by (repeat (first | (with_reducible exact Ent.refl) | exact Ent.nil | (apply ent_pickE; (focus ((repeat (first | (with_reducible exact pk_here) | (apply pk_there))); done))) | apply Ent.drop)))) rfl rfl) ?_
        repeat (first | rintro _ _ ⟨rfl, rfl⟩ | rintro _ _ ⟨_, rfl, rfl⟩ | rintro _ _ ⟨_, _, rfl, rfl⟩ | intro _ | refine go ?_ | (refine is_draw ?_; refine WC_draw mixed (by kernel_rfl) ?_) | refine cal @hR ?_)
        (first | refine WO_front (SBt b4 b8 m (readS e m w)) ?_ | refine WC_front (SBt b4 b8 m (readS e m w)) ?_ | refine WE_front (SBt b4 b8 m (readS e m w)) ?_)
        refine SB_openO fun p c => ?_
        repeat (first | rintro _ _ ⟨rfl, rfl⟩ | rintro _ _ ⟨_, rfl, rfl⟩ | rintro _ _ ⟨_, _, rfl, rfl⟩ | intro _ | refine go ?_ | (refine is_draw ?_; refine WC_draw mixed (by kernel_rfl) ?_))
        (apply WE_ret rfl rfl (by (repeat (first | exact ResOk.nil | (apply ResOk.tmp; rfl) | (apply resOk_cell; rfl; exact inferInstance; rfl; rfl)))))
        · exact ⟨none, 0, none, 0, rfl, rfl⟩
        · refine own_empty (own_empty ?_)
          (repeat (first | (with_reducible exact Ent.refl) | exact Ent.nil | (apply ent_pickE; (focus ((repeat (first | (with_reducible exact pk_here) | (apply pk_there))); done))) | apply Ent.drop))
      · have e1 : nextE e m = 0 := by simp [nextE, hok, h1, he]
        have e2 : nextT e m = readT e m := by simp [nextT, e1, h1]
        have e3 : nextS e m w = readS e m w := by simp [nextS, e1, h1]
        have e4 : nextW e m = false := by simp [nextW, e1, h1]
        have hl : (readT e m).s.ps.length ≤ 9 := readT_len hs
        have hl2 : (readS e m w).length ≤ 1 := readS_len
        rw [e1, e2, e3, e4]
        simp only [if_neg he] at hR
        repeat (first | rintro _ _ ⟨rfl, rfl⟩ | rintro _ _ ⟨_, rfl, rfl⟩ | rintro _ _ ⟨_, _, rfl, rfl⟩ | intro _ | refine go ?_ | (refine is_draw ?_; refine WC_draw mixed (by kernel_rfl) ?_) | refine cal @hM ?_)
        rename_i b3 b4 b5 b6 b8 b9
        refine WO_ent (L' := SBt b4 b8 m [] :: Cells b9 150 (akl e a k m w b4 b8) :: Cells b6 68 (tz none 0 0) :: F) (SB_in (p := none) (n := 0) (c := 0) (xs := []) (Ent.trans (own_empty (e := 37) (sz := 15) (p := none) Ent.refl) (by (repeat (first | (with_reducible exact Ent.refl) | exact Ent.nil | (apply ent_pickE; (focus ((repeat (first | (with_reducible exact pk_here) | (apply pk_there))); done))) | apply Ent.drop)))) rfl rfl) ?_
        repeat (first | rintro _ _ ⟨rfl, rfl⟩ | rintro _ _ ⟨_, rfl, rfl⟩ | rintro _ _ ⟨_, _, rfl, rfl⟩ | intro _ | refine go ?_ | (refine is_draw ?_; refine WC_draw mixed (by kernel_rfl) ?_) | refine cal @hR ?_)
        (first | refine WO_front (SBt b4 b8 m (readS e m w)) ?_ | refine WC_front (SBt b4 b8 m (readS e m w)) ?_ | refine WE_front (SBt b4 b8 m (readS e m w)) ?_)
        refine SB_openO fun p c => ?_
        repeat (first | rintro _ _ ⟨rfl, rfl⟩ | rintro _ _ ⟨_, rfl, rfl⟩ | rintro _ _ ⟨_, _, rfl, rfl⟩ | intro _ | refine go ?_ | (refine is_draw ?_; refine WC_draw mixed (by kernel_rfl) ?_))
        refine WO_ent (own_empty (e := 3) (sz := 1) (p := none) Ent.refl) ?_
        repeat (first | rintro _ _ ⟨rfl, rfl⟩ | rintro _ _ ⟨_, rfl, rfl⟩ | rintro _ _ ⟨_, _, rfl, rfl⟩ | intro _ | refine go ?_ | (refine is_draw ?_; refine WC_draw mixed (by kernel_rfl) ?_))
        simp only [Nat.zero_add, List.nil_append]
        (apply WE_ret rfl rfl (by (repeat (first | exact ResOk.nil | (apply ResOk.tmp; rfl) | (apply resOk_cell; rfl; exact inferInstance; rfl; rfl)))))
        · exact ⟨_, _, _, _, rfl, rfl⟩
        · (repeat (first | (with_reducible exact Ent.refl) | exact Ent.nil | (apply ent_pickE; (focus ((repeat (first | (with_reducible exact pk_here) | (apply pk_there))); done))) | apply Ent.drop))
    · by_cases h2 : m.kind = 2
      · skip
        have hk3 : ¬ m.kind = 3 := by omega
        have hR := fun F (hk : RdL F 1 (.slice a e.s.ps.length k) e.s.ps.length (flat ic e.s.ps)) bm bt => tab_write (F := F) (e := e) (a := a) (k := k) (m := m) (w := w) (bm := bm) (bt := bt) hk hs
        have e1 : nextE e m = 0 := by simp [nextE, hok, h2]
        have e2 : nextT e m = ⟨m.src, clearS e.s⟩ := by simp [nextT, e1, h2]
        have e3 : nextS e m w = writeS e m w := by simp [nextS, e1, h2]
        haveI hnil : ∀ L, RdL L 1 (.slice none (⟨m.src, clearS e.s⟩ : TEnt).s.ps.length 0) 0 [] := fun L => rd_empty
        have e4 : nextW e m = false := by simp [nextW, e1, h2]
        rw [e1, e2, e3, e4]
        repeat (first | rintro _ _ ⟨rfl, rfl⟩ | rintro _ _ ⟨_, rfl, rfl⟩ | rintro _ _ ⟨_, _, rfl, rfl⟩ | intro _ | refine go ?_ | (refine is_draw ?_; refine WC_draw mixed (by kernel_rfl) ?_) | refine cal @hM ?_)
        rename_i b3 b4 b5 b6 b8 b9
        refine WO_ent (L' := SBt b4 b8 m [] :: Cells b9 150 (akl e a k m w b4 b8) :: Cells b6 68 (tz none 0 0) :: F) (SB_in (p := none) (n := 0) (c := 0) (xs := []) (Ent.trans (own_empty (e := 37) (sz := 15) (p := none) Ent.refl) (by (repeat (first | (with_reducible exact Ent.refl) | exact Ent.nil | (apply ent_pickE; (focus ((repeat (first | (with_reducible exact pk_here) | (apply pk_there))); done))) | apply Ent.drop)))) rfl rfl) ?_
        repeat (first | rintro _ _ ⟨rfl, rfl⟩ | rintro _ _ ⟨_, rfl, rfl⟩ | rintro _ _ ⟨_, _, rfl, rfl⟩ | intro _ | refine go ?_ | (refine is_draw ?_; refine WC_draw mixed (by kernel_rfl) ?_) | refine cal @hR ?_)
        (first | refine WO_front (SBt b4 b8 m (writeS e m w)) ?_ | refine WC_front (SBt b4 b8 m (writeS e m w)) ?_ | refine WE_front (SBt b4 b8 m (writeS e m w)) ?_)
        refine SB_openO fun p c => ?_
        repeat (first | rintro _ _ ⟨rfl, rfl⟩ | rintro _ _ ⟨_, rfl, rfl⟩ | rintro _ _ ⟨_, _, rfl, rfl⟩ | intro _ | refine go ?_ | (refine is_draw ?_; refine WC_draw mixed (by kernel_rfl) ?_))
        refine WO_ent (own_empty (e := 3) (sz := 1) (p := none) Ent.refl) ?_
        repeat (first | rintro _ _ ⟨rfl, rfl⟩ | rintro _ _ ⟨_, rfl, rfl⟩ | rintro _ _ ⟨_, _, rfl, rfl⟩ | intro _ | refine go ?_ | (refine is_draw ?_; refine WC_draw mixed (by kernel_rfl) ?_))
        simp only [Nat.zero_add, List.nil_append]
        (apply WE_ret rfl rfl (by (repeat (first | exact ResOk.nil | (apply ResOk.tmp; rfl) | (apply resOk_cell; rfl; exact inferInstance; rfl; rfl)))))
        · exact ⟨_, _, _, _, rfl, rfl⟩
        · simp only [clearS, List.length_nil, flat_nil]; (repeat (first | (with_reducible exact Ent.refl) | exact Ent.nil | (apply ent_pickE; (focus ((repeat (first | (with_reducible exact pk_here) | (apply pk_there))); done))) | apply Ent.drop))
      · by_cases h3 : m.kind = 3
        · skip
          skip
          have hR := fun F bm bt => tab_put (F := F) (e := e) (a := a) (k := k) (m := m) (w := w) (bm := bm) (bt := bt)
          have e1 : nextE e m = 0 := by simp [nextE, hok, h3]
          have e2 : nextT e m = putT e m := by simp [nextT, e1, h3]
          have e3 : nextS e m w = [msgT m 10 m.src 0 0 0 .zero] := by simp [nextS, e1, h3]
          have e4 : nextW e m = decide (e.o = m.src) := by simp [nextW, e1, h3]
          have e5 : (putT e m).s = e.s := by unfold putT; split <;> rfl
          haveI hk' : RdL F 1 (.slice a (putT e m).s.ps.length k) (putT e m).s.ps.length (flat ic (putT e m).s.ps) := by rw [e5]; exact hk
          have hl : (putT e m).s.ps.length ≤ 8 := by rw [e5]; omega
          rw [e1, e2, e3, e4]
          repeat (first | rintro _ _ ⟨rfl, rfl⟩ | rintro _ _ ⟨_, rfl, rfl⟩ | rintro _ _ ⟨_, _, rfl, rfl⟩ | intro _ | refine go ?_ | (refine is_draw ?_; refine WC_draw mixed (by kernel_rfl) ?_) | refine cal @hM ?_)
          rename_i b3 b4 b5 b6 b8 b9
          refine WO_ent (L' := SBt b4 b8 m [] :: Cells b9 150 (akl e a k m w b4 b8) :: Cells b6 68 (tz none 0 0) :: F) (SB_in (p := none) (n := 0) (c := 0) (xs := []) (Ent.trans (own_empty (e := 37) (sz := 15) (p := none) Ent.refl) (by (repeat (first | (with_reducible exact Ent.refl) | exact Ent.nil | (apply ent_pickE; (focus ((repeat (first | (with_reducible exact pk_here) | (apply pk_there))); done))) | apply Ent.drop)))) rfl rfl) ?_
          repeat (first | rintro _ _ ⟨rfl, rfl⟩ | rintro _ _ ⟨_, rfl, rfl⟩ | rintro _ _ ⟨_, _, rfl, rfl⟩ | intro _ | refine go ?_ | (refine is_draw ?_; refine WC_draw mixed (by kernel_rfl) ?_) | refine cal @hR ?_)
          (first | refine WO_front (SBt b4 b8 m ([msgT m 10 m.src 0 0 0 .zero])) ?_ | refine WC_front (SBt b4 b8 m ([msgT m 10 m.src 0 0 0 .zero])) ?_ | refine WE_front (SBt b4 b8 m ([msgT m 10 m.src 0 0 0 .zero])) ?_)
          refine SB_openO fun p c => ?_
          repeat (first | rintro _ _ ⟨rfl, rfl⟩ | rintro _ _ ⟨_, rfl, rfl⟩ | rintro _ _ ⟨_, _, rfl, rfl⟩ | intro _ | refine go ?_ | (refine is_draw ?_; refine WC_draw mixed (by kernel_rfl) ?_))
          refine WO_ent (own_empty (e := 3) (sz := 1) (p := none) Ent.refl) ?_
          repeat (first | rintro _ _ ⟨rfl, rfl⟩ | rintro _ _ ⟨_, rfl, rfl⟩ | rintro _ _ ⟨_, _, rfl, rfl⟩ | intro _ | refine go ?_ | (refine is_draw ?_; refine WC_draw mixed (by kernel_rfl) ?_))
          simp only [Nat.zero_add, List.nil_append]
          (apply WE_ret rfl rfl (by (repeat (first | exact ResOk.nil | (apply ResOk.tmp; rfl) | (apply resOk_cell; rfl; exact inferInstance; rfl; rfl)))))
          · exact ⟨_, _, _, _, rfl, rfl⟩
          · (repeat (first | (with_reducible exact Ent.refl) | exact Ent.nil | (apply ent_pickE; (focus ((repeat (first | (with_reducible exact pk_here) | (apply pk_there))); done))) | apply Ent.drop))
        · have e1 : nextE e m = 1 := by simp [nextE, hok, h1, h2, h3]
          have e2 : nextT e m = .no := by simp [nextT, e1]
          have e3 : nextS e m w = [] := by simp [nextS, e1]
          have e4 : nextW e m = false := by simp [nextW, e1]
          rw [e1, e2, e3, e4]
          repeat (first | rintro _ _ ⟨rfl, rfl⟩ | rintro _ _ ⟨_, rfl, rfl⟩ | rintro _ _ ⟨_, _, rfl, rfl⟩ | intro _ | refine go ?_ | (refine is_draw ?_; refine WC_draw mixed (by kernel_rfl) ?_) | refine cal @hM ?_)
          (apply WE_ret rfl rfl (by (repeat (first | exact ResOk.nil | (apply ResOk.tmp; rfl) | (apply resOk_cell; rfl; exact inferInstance; rfl; rfl)))))
          · exact ⟨none, 0, none, 0, rfl, rfl⟩
          · refine own_empty (own_empty ?_)
            (repeat (first | (with_reducible exact Ent.refl) | exact Ent.nil | (apply ent_pickE; (focus ((repeat (first | (with_reducible exact pk_here) | (apply pk_there))); done))) | apply Ent.drop))
end Go.Sx
