/- Tab, TabLaw, TabPl: several of my texts as one. My own work. -/
import Derived.Test.YtlaohgngdaglmaaZak
import Derived.Test.YtlaohgngdaglmaaZad
/- The table: what a home's entry becomes. The program's functions. My own work. -/
namespace Go.Sx
open Go Go.Proofs
set_option linter.unusedVariables false
set_option linter.unusedSectionVars false
set_option linter.unusedSimpArgs false
structure TEnt where
  o : Int
  s : SSet
theorem TEnt.ext_iff' {a b : TEnt} : (a.o = b.o ∧ a.s = b.s) ↔ a = b := by cases a; cases b; simp
instance : DecidableEq TEnt := fun a b => decidable_of_iff _ TEnt.ext_iff'
abbrev tec (e : TEnt) (a : Option Addr) (k : Nat) : List Value := [.int .i64 e.o, .int .i64 e.s.cores, .int .i64 e.s.most, .slice a e.s.ps.length k, .bool e.s.all]
abbrev TEnt.no : TEnt := ⟨0, .no⟩
abbrev tz (p : Option Addr) (n c : Nat) : List Value := [.int .i64 0, .int .i64 0, .int .i64 0, .slice none 0 0, .bool false, .slice p n c, .bool false]
abbrev tuc (e : TEnt) (a : Option Addr) (k : Nat) (p : Option Addr) (n c : Nat) (w : Bool) : List Value := [.int .i64 e.o, .int .i64 e.s.cores, .int .i64 e.s.most, .slice a e.s.ps.length k, .bool e.s.all, .slice p n c, .bool w]
/-- A turn that is being laid: the request's box, the turn's box, what was sent. -/
def SB (T U : TypeId) (bm bt : Nat) (m : Msg) (l : List Msg) : HP := Ex fun q : Option Addr × Nat => [Cells bm T (mc m), Cells bt U (tz q.1 l.length q.2), Own T 15 (.slice q.1 l.length q.2) l.length (flat mc l)]
theorem SB_in {T U : TypeId} {bm bt : Nat} {m : Msg} {l : List Msg} {p : Option Addr} {n c : Nat} {xs : List Value} {L M : List HP} (h : Ent L (Cells bm T (mc m) :: Cells bt U (tz p n c) :: Own T 15 (.slice p n c) n xs :: M)) (hn : n = l.length) (hx : xs = flat mc l) : Ent L (SB T U bm bt m l :: M) := by
  subst hn hx
  exact Ent.trans h (ex_intro (p := fun q : Option Addr × Nat => [Cells bm T (mc m), Cells bt U (tz q.1 l.length q.2), Own T 15 (.slice q.1 l.length q.2) l.length (flat mc l)]) (p, c))
section
variable {T U : TypeId} {bm bt : Nat} {m : Msg} {l : List Msg} {P : Program} {N : Nat} {env : Env} {L : List HP} {Q : Exit → Act → World → Prop}
theorem SB_open {c : Code} (h : ∀ p c0, WC P N c env (Cells bm T (mc m) :: Cells bt U (tz p l.length c0) :: Own T 15 (.slice p l.length c0) l.length (flat mc l) :: L) Q) : WC P N c env (SB T U bm bt m l :: L) Q := by
  intro a w ha hw
  obtain ⟨⟨p, c0⟩, hx⟩ := star_ex hw
  exact h p c0 a w ha hx
theorem SB_openO {all : Array Oper} {c : List Oper} (h : ∀ p c0, WO P N all c env (Cells bm T (mc m) :: Cells bt U (tz p l.length c0) :: Own T 15 (.slice p l.length c0) l.length (flat mc l) :: L) Q) : WO P N all c env (SB T U bm bt m l :: L) Q := by
  intro a w ha hw
  obtain ⟨⟨p, c0⟩, hx⟩ := star_ex hw
  exact h p c0 a w ha hx
end

/-! ## What comes of a request -/
def mayT (e : TEnt) : Bool := shMay e.s && decide (-1 ≤ e.o) && decide (e.o < e.s.cores)
def msgT (m : Msg) (kind to who acks own : Int) (w : Words) : Msg := ⟨kind, m.line, m.dst, to, who, acks, own, w⟩
def clearS (s : SSet) : SSet := ⟨s.cores, s.most, [], false⟩
def tgtT (e : TEnt) (but : List Int) : List Int := shTgt e.s but e.s.cores.toNat
def readT (e : TEnt) (m : Msg) : TEnt := if e.o = m.src then .no else if e.o ≠ -1 then ⟨e.o, shAddS e.s m.src⟩ else if (tgtT e []).length = 0 then ⟨m.src, clearS e.s⟩ else ⟨e.o, shAddS e.s m.src⟩
def readS (e : TEnt) (m : Msg) (w : Words) : List Msg := if e.o = m.src then [] else if e.o ≠ -1 then [msgT m 4 e.o m.src 0 0 .zero] else if (tgtT e []).length = 0 then [msgT m 7 m.src 0 0 2 w] else [msgT m 7 m.src 0 0 1 w]
def othersT (e : TEnt) (m : Msg) : List Int := tgtT e [m.src, e.o]
def firstT (e : TEnt) (m : Msg) (w : Words) : Msg := if e.o = -1 then msgT m 7 m.src 0 (othersT e m).length 4 w else if e.o = m.src then msgT m 8 m.src 0 (othersT e m).length 0 .zero else msgT m 5 e.o m.src (othersT e m).length 0 .zero
def invT (m : Msg) (c : Int) : Msg := msgT m 6 c m.src 0 0 .zero
def writeS (e : TEnt) (m : Msg) (w : Words) : List Msg := firstT e m w :: (othersT e m).map (invT m)
def putT (e : TEnt) (m : Msg) : TEnt := if e.o = m.src then ⟨-1, e.s⟩ else e
def okT (e : TEnt) (m : Msg) : Bool := mayT e && decide (0 ≤ m.src) && decide (m.src < e.s.cores)
def nextE (e : TEnt) (m : Msg) : Int := if okT e m then (if m.kind = 1 then (if e.o = m.src then 7 else 0) else if m.kind = 2 then 0 else if m.kind = 3 then 0 else 1) else 1
def nextT (e : TEnt) (m : Msg) : TEnt := if nextE e m = 0 then (if m.kind = 1 then readT e m else if m.kind = 2 then ⟨m.src, clearS e.s⟩ else putT e m) else .no
def nextS (e : TEnt) (m : Msg) (w : Words) : List Msg := if nextE e m = 0 then (if m.kind = 1 then readS e m w else if m.kind = 2 then writeS e m w else [msgT m 10 m.src 0 0 0 .zero]) else []
def nextW (e : TEnt) (m : Msg) : Bool := decide (nextE e m = 0) && decide (m.kind = 3) && decide (e.o = m.src)
set_option maxRecDepth 100000
set_option maxHeartbeats 4000000
attribute [local irreducible] Go.Exit.then Go.Exit.inBlock Go.Code.wp WC WO WE WQ V LoopQ FnQ Sat Star band bor IntKind.wrap WR Code.rounds WT KO
instance : TU Try.prog 114 (.func #[59] #[] false) := ⟨Try.underlying114⟩
abbrev SBt := SB 59 70
abbrev akl (e : TEnt) (a : Option Addr) (k : Nat) (m : Msg) (w : Words) (bm bt : Nat) : List Value := [.int .i64 e.o, .int .i64 e.s.cores, .int .i64 e.s.most, .slice a e.s.ps.length k, .bool e.s.all,
  .int .i64 m.kind, .int .i64 m.line, .int .i64 m.src, .int .i64 m.dst, .int .i64 m.who, .int .i64 m.acks, .int .i64 m.own, .int .i64 m.words.w0, .int .i64 m.words.w1, .int .i64 m.words.w2, .int .i64 m.words.w3, .int .i64 m.words.w4, .int .i64 m.words.w5, .int .i64 m.words.w6, .int .i64 m.words.w7,
  .int .i64 w.w0, .int .i64 w.w1, .int .i64 w.w2, .int .i64 w.w3, .int .i64 w.w4, .int .i64 w.w5, .int .i64 w.w6, .int .i64 w.w7, .func (.func 42) #[] #[.pointer (some ⟨bm, 0, none⟩), .pointer (some ⟨bt, 0, none⟩)]]
abbrev akv (e : TEnt) (a : Option Addr) (k : Nat) (m : Msg) (w : Words) (bm bt : Nat) : Value := .agg (akl e a k m w bm bt).toArray
theorem dr_Tab_42 {Q P : Prop} (k : Q) (h : Hid Q → P := by
  intro k
  first
  | (refine is_draw ?_; apply WC_mix (id := 1) .true _ (pl := .p 0 <| .p 2 <| .r 1 <| .p 4 <| .e true [(3, .e true [(5, .p 6 <| .e false [(7, .done)])]), (5, .e false [(3, .p 6 <| .e false [(7, .done)])])]); exact mixed; kernel_rfl; kernel_rfl; exact Ent.refl; exact k.out)) : P := h ⟨k⟩
theorem tab_send {F : List HP} {x m : Msg} {bm bt : Nat} {l : List Msg} (hn : l.length ≤ 1000) : FnF Try.prog 42 [mv x, .pointer (some ⟨bm, 0, none⟩), .pointer (some ⟨bt, 0, none⟩)] [SBt bm bt m l] F
    (fun r L' => r = .tuple [].toArray ∧ L' = [SBt bm bt m (l ++ [{ x with line := m.line, src := m.dst }])]) := by
  refine FnF.mk' Try.func42 rfl rfl Try.ntmps42 rfl ?_
  refine SB_open fun p c => ?_
  repeat' (first | rintro _ _ ⟨rfl, rfl⟩ | refine exq fun _ => ?_ | intro _ | refine go ?_ | refine dr_Tab_42 ?_ | refine drq ?_ | refine spl ?_ ?_ | fail)
  all_goals (apply WE_ret rfl rfl (by (repeat (first | exact ResOk.nil | (apply ResOk.tmp; rfl) | (apply resOk_cell; rfl; exact inferInstance; rfl; rfl)))))
  all_goals first | exact ⟨rfl, rfl⟩ | (((repeat (first | (with_reducible exact Ent.refl) | exact Ent.nil | (apply ent_pickE; (focus ((repeat (first | (with_reducible exact pk_here) | (apply pk_there))); done))) | (apply SB_in) | apply Ent.drop)); all_goals (first | rfl | (with_reducible assumption) | (simp [flat_append, flat_one]; done) | (simp [flat_append, flat_one]; omega) | omega | (constructor <;> (simp [flat_append, flat_one]) <;> omega))))
theorem tab_sendT {F : List HP} {m : Msg} {bm bt : Nat} {l : List Msg} (kind to who acks own : Int) (w : Words) (hn : l.length ≤ 1000) : FnF Try.prog 42 [mv ⟨kind, 0, 0, to, who, acks, own, w⟩, .pointer (some ⟨bm, 0, none⟩), .pointer (some ⟨bt, 0, none⟩)] [SBt bm bt m l] F
    (fun r L' => r = .tuple [].toArray ∧ L' = [SBt bm bt m (l ++ [msgT m kind to who acks own w])]) := tab_send hn
theorem tab_May {F : List HP} {e : TEnt} {a : Option Addr} {k : Nat} (hk : RdL F 1 (.slice a e.s.ps.length k) e.s.ps.length (flat ic e.s.ps)) (hn : e.s.ps.length ≤ 1000) : FnF Try.prog 41 [.agg (tec e a k).toArray] [] F (fun r L' => r = .bool (mayT e) ∧ L' = []) := by
  have hM := fun F (hk : RdL F 1 (.slice a e.s.ps.length k) e.s.ps.length (flat ic e.s.ps)) => shr_May (F := F) hk hn
  refine FnF.mk' Try.func41 rfl rfl Try.ntmps41 rfl ?_
  cases hm : shMay e.s with
  | true =>
    simp only [hm] at hM
    by_cases h1 : -1 ≤ e.o
    · repeat (first | rintro _ _ ⟨rfl, rfl⟩ | refine exq fun _ => ?_ | intro _ | refine go ?_ | refine drq ?_ | refine cal @hM ?_)
      (apply WE_ret rfl rfl (by (repeat (first | exact ResOk.nil | (apply ResOk.tmp; rfl) | (apply resOk_cell; rfl; exact inferInstance; rfl; rfl)))); (first | exact ⟨rfl, rfl⟩ | exact ⟨congrArg Value.bool (by decide), rfl⟩ | exact ⟨_, rfl, rfl⟩ | exact ⟨_, _, rfl, rfl⟩ | exact ⟨by first | (simp [mayT, hm, h1]; done) | (simp [mayT, hm, h1] <;> omega), rfl⟩); (repeat (first | exact Ent.refl | exact Ent.nil | apply Ent.pick | apply Ent.drop)))
    · repeat (first | rintro _ _ ⟨rfl, rfl⟩ | refine exq fun _ => ?_ | intro _ | refine go ?_ | refine drq ?_ | refine cal @hM ?_)
      (apply WE_ret rfl rfl (by (repeat (first | exact ResOk.nil | (apply ResOk.tmp; rfl) | (apply resOk_cell; rfl; exact inferInstance; rfl; rfl)))); (first | exact ⟨rfl, rfl⟩ | exact ⟨congrArg Value.bool (by decide), rfl⟩ | exact ⟨_, rfl, rfl⟩ | exact ⟨_, _, rfl, rfl⟩ | exact ⟨by first | (simp [mayT, hm, h1]; done) | (simp [mayT, hm, h1] <;> omega), rfl⟩); (repeat (first | exact Ent.refl | exact Ent.nil | apply Ent.pick | apply Ent.drop)))
  | false =>
    simp only [hm] at hM
    repeat (first | rintro _ _ ⟨rfl, rfl⟩ | refine exq fun _ => ?_ | intro _ | refine go ?_ | refine drq ?_ | refine cal @hM ?_)
    (apply WE_ret rfl rfl (by (repeat (first | exact ResOk.nil | (apply ResOk.tmp; rfl) | (apply resOk_cell; rfl; exact inferInstance; rfl; rfl)))); (first | exact ⟨rfl, rfl⟩ | exact ⟨congrArg Value.bool (by decide), rfl⟩ | exact ⟨_, rfl, rfl⟩ | exact ⟨_, _, rfl, rfl⟩ | exact ⟨by first | (simp [mayT, hm]; done) | (simp [mayT, hm] <;> omega), rfl⟩); (repeat (first | exact Ent.refl | exact Ent.nil | apply Ent.pick | apply Ent.drop)))
theorem tab_sharing {F : List HP} {e : TEnt} {a : Option Addr} {k : Nat} {m : Msg} {w : Words} {bm bt : Nat} (hk : RdL F 1 (.slice a e.s.ps.length k) e.s.ps.length (flat ic e.s.ps)) (hn : e.s.ps.length ≤ 1000) :
    FnF Try.prog 78 [akv e a k m w bm bt] [] F (fun r L' => ∃ a' k', r = .agg (tec ⟨e.o, shAddS e.s m.src⟩ a' k').toArray ∧ L' = [Own 3 1 (.slice a' (shAddS e.s m.src).ps.length k') (shAddS e.s m.src).ps.length (flat ic (shAddS e.s m.src).ps)]) := by
  have hA := fun F (hk : RdL F 1 (.slice a e.s.ps.length k) e.s.ps.length (flat ic e.s.ps)) => shr_Add (F := F) (x := m.src) hk hn
  refine FnF.mk' Try.func78 rfl rfl Try.ntmps78 rfl ?_
  repeat (first | rintro _ _ ⟨rfl, rfl⟩ | refine exq fun _ => ?_ | intro _ | refine go ?_ | refine drq ?_ | refine cal @hA ?_)
  (apply WE_ret rfl rfl (by (repeat (first | exact ResOk.nil | (apply ResOk.tmp; rfl) | (apply resOk_cell; rfl; exact inferInstance; rfl; rfl)))))
  · exact ⟨_, _, rfl, rfl⟩
  · exact entu0
theorem tab_data {F : List HP} {e : TEnt} {a : Option Addr} {k : Nat} {m : Msg} {w : Words} {bm bt : Nat} {own acks : Int} {l : List Msg} (hn : l.length ≤ 1000) :
    FnF Try.prog 79 [akv e a k m w bm bt, .int .i64 own, .int .i64 acks] [SBt bm bt m l] F (fun r L' => r = .tuple [].toArray ∧ L' = [SBt bm bt m (l ++ [msgT m 7 m.src 0 acks own w])]) := by
  have hS := fun F => tab_sendT (F := F) (m := m) (bm := bm) (bt := bt) (l := l) 7 m.src 0 acks own w hn
  refine FnF.mk' Try.func79 rfl rfl Try.ntmps79 rfl ?_
  repeat (first | rintro _ _ ⟨rfl, rfl⟩ | refine exq fun _ => ?_ | intro _ | refine go ?_ | refine drq ?_ | refine cal @hS ?_)
  exact fin0
theorem dr_Tab_43 {Q P : Prop} (k : Q) (h : Hid Q → P := by
  intro k
  first
  | (refine is_draw ?_; apply WC_mix (id := 8) .false _ (pl := .p 0 <| .p 1 <| .p 3 <| .p 4 <| .r 2 <| .r 5 <| .e true [(6, .p 7 <| .e true [(8, .p 9 <| .p 10 <| .done)])]); exact mixed; kernel_rfl; kernel_rfl; exact Ent.refl; exact k.out)) : P := h ⟨k⟩
theorem tab_read {F : List HP} {e : TEnt} {a : Option Addr} {k : Nat} {m : Msg} {w : Words} {bm bt : Nat} (hk : RdL F 1 (.slice a e.s.ps.length k) e.s.ps.length (flat ic e.s.ps)) (hm : shMay e.s = true) :
    FnF Try.prog 43 [akv e a k m w bm bt] [SBt bm bt m []] F (fun r L' => ∃ a' k', r = .tuple [.agg (tec (readT e m) a' k').toArray, .bool false, .int .i64 (if e.o = m.src then 7 else 0)].toArray
      ∧ L' = [Own 3 1 (.slice a' (readT e m).s.ps.length k') (readT e m).s.ps.length (flat ic (readT e m).s.ps), SBt bm bt m (readS e m w)]) := by
  have hn := (may_facts' hm).2.2
  have hSh := fun F (hk : RdL F 1 (.slice a e.s.ps.length k) e.s.ps.length (flat ic e.s.ps)) => tab_sharing (F := F) (e := e) (a := a) (k := k) (m := m) (w := w) (bm := bm) (bt := bt) hk (by omega)
  have hT := fun F (hk : RdL F 1 (.slice a e.s.ps.length k) e.s.ps.length (flat ic e.s.ps)) => shr_Targets (F := F) (u := .slice none 0 0) (but := []) hk hm rd_empty (by simp)
  refine FnF.mk' Try.func43 rfl rfl Try.ntmps43 rfl ?_
  by_cases h1 : e.o = m.src
  · have e1 : readT e m = .no := if_pos h1
    have e2 : readS e m w = [] := if_pos h1
    rw [e1, e2, if_pos h1]
    repeat (first | rintro _ _ ⟨rfl, rfl⟩ | refine exq fun _ => ?_ | intro _ | refine go ?_ | refine dr_Tab_43 ?_ | refine drq ?_)
    (apply WE_ret rfl rfl (by (repeat (first | exact ResOk.nil | (apply ResOk.tmp; rfl) | (apply resOk_cell; rfl; exact inferInstance; rfl; rfl)))))
    · exact ⟨none, 0, rfl, rfl⟩
    · refine Ent.trans ?_ (own_empty Ent.refl)
      exact entu0
  · rw [if_neg h1]
    by_cases h2 : e.o = -1
    · by_cases h3 : (shTgt e.s [] e.s.cores.toNat).length = 0
      · have e1 : readT e m = ⟨m.src, clearS e.s⟩ := by unfold readT tgtT; rw [if_neg h1, if_neg (by omega), if_pos h3]
        have e2 : readS e m w = [msgT m 7 m.src 0 0 2 w] := by unfold readS tgtT; rw [if_neg h1, if_neg (by omega), if_pos h3]
        have hD := fun F => tab_data (F := F) (e := e) (a := a) (k := k) (m := m) (w := w) (bm := bm) (bt := bt) (own := 2) (acks := 0) (l := []) (by simp)
        simp only [List.nil_append] at hD
        rw [e1, e2]
        repeat' (first | rintro _ _ ⟨rfl, rfl⟩ | refine exq fun _ => ?_ | intro _ | refine go ?_ | refine dr_Tab_43 ?_ | refine drq ?_ | refine cal @hT ?_ | refine cal @hD ?_ | refine cal @shr_Clear ?_ | refine spl ?_ ?_ | fail)
        all_goals (apply WE_ret rfl rfl (by (repeat (first | exact ResOk.nil | (apply ResOk.tmp; rfl) | (apply resOk_cell; rfl; exact inferInstance; rfl; rfl)))))
        all_goals first
        | exact ⟨none, 0, rfl, rfl⟩
        | (refine Ent.trans ?_ (own_empty Ent.refl); exact entu0)
      · have e1 : readT e m = ⟨e.o, shAddS e.s m.src⟩ := by unfold readT tgtT; rw [if_neg h1, if_neg (by omega), if_neg h3]
        have e2 : readS e m w = [msgT m 7 m.src 0 0 1 w] := by unfold readS tgtT; rw [if_neg h1, if_neg (by omega), if_neg h3]
        have hD := fun F => tab_data (F := F) (e := e) (a := a) (k := k) (m := m) (w := w) (bm := bm) (bt := bt) (own := 1) (acks := 0) (l := []) (by simp)
        simp only [List.nil_append] at hD
        rw [e1, e2]
        repeat (first | rintro _ _ ⟨rfl, rfl⟩ | refine exq fun _ => ?_ | intro _ | refine go ?_ | refine dr_Tab_43 ?_ | refine drq ?_ | refine cal @hT ?_ | refine cal @hD ?_ | refine cal @hSh ?_)
        (apply WE_ret rfl rfl (by (repeat (first | exact ResOk.nil | (apply ResOk.tmp; rfl) | (apply resOk_cell; rfl; exact inferInstance; rfl; rfl)))))
        · exact ⟨_, _, rfl, rfl⟩
        · exact entu0
    · have e1 : readT e m = ⟨e.o, shAddS e.s m.src⟩ := by unfold readT tgtT; rw [if_neg h1, if_pos (by omega)]
      have e2 : readS e m w = [msgT m 4 e.o m.src 0 0 .zero] := by unfold readS tgtT; rw [if_neg h1, if_pos (by omega)]
      have hS := fun F => tab_sendT (F := F) (m := m) (bm := bm) (bt := bt) (l := []) 4 e.o m.src 0 0 .zero (by simp)
      simp only [List.nil_append] at hS
      rw [e1, e2]
      repeat (first | rintro _ _ ⟨rfl, rfl⟩ | refine exq fun _ => ?_ | intro _ | refine go ?_ | refine dr_Tab_43 ?_ | refine drq ?_ | refine cal @hS ?_ | refine cal @hSh ?_)
      (apply WE_ret rfl rfl (by (repeat (first | exact ResOk.nil | (apply ResOk.tmp; rfl) | (apply resOk_cell; rfl; exact inferInstance; rfl; rfl)))))
      · exact ⟨_, _, rfl, rfl⟩
      · exact entu0
theorem tab_put {F : List HP} {e : TEnt} {a : Option Addr} {k : Nat} {m : Msg} {w : Words} {bm bt : Nat} :
    FnF Try.prog 45 [akv e a k m w bm bt] [SBt bm bt m []] F (fun r L' => r = .tuple [.agg (tec (putT e m) a k).toArray, .bool (decide (e.o = m.src)), .int .i64 0].toArray ∧ L' = [SBt bm bt m [msgT m 10 m.src 0 0 0 .zero]]) := by
  have hS := fun F => tab_sendT (F := F) (m := m) (bm := bm) (bt := bt) (l := []) 10 m.src 0 0 0 .zero (by simp)
  simp only [List.nil_append] at hS
  refine FnF.mk' Try.func45 rfl rfl Try.ntmps45 rfl ?_
  by_cases h1 : e.o = m.src
  · have e1 : putT e m = ⟨-1, e.s⟩ := if_pos h1
    rw [e1]
    repeat (first | rintro _ _ ⟨rfl, rfl⟩ | refine exq fun _ => ?_ | intro _ | refine go ?_ | refine drq ?_ | refine cal @hS ?_)
    (apply WE_ret rfl rfl (by (repeat (first | exact ResOk.nil | (apply ResOk.tmp; rfl) | (apply resOk_cell; rfl; exact inferInstance; rfl; rfl)))); (first | exact ⟨rfl, rfl⟩ | exact ⟨congrArg Value.bool (by decide), rfl⟩ | exact ⟨_, rfl, rfl⟩ | exact ⟨_, _, rfl, rfl⟩ | exact ⟨by first | (simp [h1]; done) | (simp [h1] <;> omega), rfl⟩); (repeat (first | exact Ent.refl | exact Ent.nil | apply Ent.pick | apply Ent.drop)))
  · have e1 : putT e m = e := if_neg h1
    rw [e1]
    repeat (first | rintro _ _ ⟨rfl, rfl⟩ | refine exq fun _ => ?_ | intro _ | refine go ?_ | refine drq ?_ | refine cal @hS ?_)
    (apply WE_ret rfl rfl (by (repeat (first | exact ResOk.nil | (apply ResOk.tmp; rfl) | (apply resOk_cell; rfl; exact inferInstance; rfl; rfl)))); (first | exact ⟨rfl, rfl⟩ | exact ⟨congrArg Value.bool (by decide), rfl⟩ | exact ⟨_, rfl, rfl⟩ | exact ⟨_, _, rfl, rfl⟩ | exact ⟨by first | (simp [h1]; done) | (simp [h1] <;> omega), rfl⟩); (repeat (first | exact Ent.refl | exact Ent.nil | apply Ent.pick | apply Ent.drop)))
theorem dr_Tab_44 {Q P : Prop} (k : Q) (h : Hid Q → P := by
  intro k
  first
  | (refine is_draw ?_; apply WC_mix (id := 14) .false _ (pl := .p 0 <| .p 1 <| .p 3 <| .p 4 <| .r 2 <| .r 5 <| .e true [(6, .p 7 <| .e true [(8, .p 9 <| .p 10 <| .done)])]); exact mixed; kernel_rfl; kernel_rfl; exact Ent.refl; exact k.out)) : P := h ⟨k⟩
theorem tab_write {F : List HP} {e : TEnt} {a : Option Addr} {k : Nat} {m : Msg} {w : Words} {bm bt : Nat} (hk : RdL F 1 (.slice a e.s.ps.length k) e.s.ps.length (flat ic e.s.ps)) (hm : shMay e.s = true) :
    FnF Try.prog 44 [akv e a k m w bm bt] [SBt bm bt m []] F (fun r L' => r = .tuple [.agg (tec ⟨m.src, clearS e.s⟩ none 0).toArray, .bool false, .int .i64 0].toArray ∧ L' = [SBt bm bt m (writeS e m w)]) := by
  have hc64 := (may_facts' hm).2.1
  have htl := tgt_len e.s [m.src, e.o] e.s.cores.toNat
  have hT := fun F (hk : RdL F 1 (.slice a e.s.ps.length k) e.s.ps.length (flat ic e.s.ps)) u (hb : RdL F 1 u 2 [.int .i64 m.src, .int .i64 e.o]) => @shr_Targets F e.s a k u [m.src, e.o] hk hm hb (by simp)
  have ho : othersT e m = shTgt e.s [m.src, e.o] e.s.cores.toNat := rfl
  have hw : writeS e m w = firstT e m w :: (othersT e m).map (invT m) := rfl
  have hf : firstT e m w = if e.o = -1 then msgT m 7 m.src 0 (othersT e m).length 4 w else if e.o = m.src then msgT m 8 m.src 0 (othersT e m).length 0 .zero else msgT m 5 e.o m.src (othersT e m).length 0 .zero := rfl
  rw [hw]
  rw [ho] at hf ⊢
  generalize shTgt e.s [m.src, e.o] e.s.cores.toNat = ot at hT htl hf ⊢
  have hD := fun F => tab_data (F := F) (e := e) (a := a) (k := k) (m := m) (w := w) (bm := bm) (bt := bt) (own := 4) (acks := ot.length) (l := []) (by simp)
  simp only [List.nil_append] at hD
  have hS8 := fun F => tab_sendT (F := F) (m := m) (bm := bm) (bt := bt) (l := []) 8 m.src 0 ot.length 0 .zero (by simp)
  simp only [List.nil_append] at hS8
  have hS5 := fun F => tab_sendT (F := F) (m := m) (bm := bm) (bt := bt) (l := []) 5 e.o m.src ot.length 0 .zero (by simp)
  simp only [List.nil_append] at hS5
  refine FnF.mk' Try.func44 rfl rfl Try.ntmps44 rfl ?_
  repeat (first | rintro _ _ ⟨rfl, rfl⟩ | refine exq fun _ => ?_ | intro _ | refine go ?_ | refine dr_Tab_44 ?_ | refine drq ?_ | refine cal @hT ?_)
  rename_i b1 b2 bs p q
  apply WC_join (P := Try.prog) (fun _ : Unit => [(1, .pointer (some ⟨b1, 0, none⟩)), (2, .pointer (some ⟨b2, 0, none⟩)), (3, .bool false), (4, .int .i64 0), (54, .slice p ot.length q), (55, .int .i64 ot.length), (56, .int .i64 0)])
    (fun _ => SBt bm bt m [firstT e m w] :: Own 3 1 (.slice p ot.length q) ot.length (flat ic ot) :: Cells b2 52 [.int .i64 0, .int .i64 0, .int .i64 0, .slice none 0 0, .bool false] :: Cells b1 116 (akl e a k m w bm bt) :: F) (fun _ => True)
  · intro join
    by_cases h1 : e.o = -1
    · rw [if_pos h1] at hf
      repeat (first | rintro _ _ ⟨rfl, rfl⟩ | refine exq fun _ => ?_ | intro _ | refine go ?_ | refine dr_Tab_44 ?_ | refine drq ?_ | refine cal @hD ?_)
      skip
      exact join () _ _ trivial (by (repeat (first | exact Sub.nil | (refine Sub.cons (by first | rfl | (simp only [Nat.zero_add]; rfl)) ?_)))) (by rw [hf]; exact entu0)
    · rw [if_neg h1] at hf
      by_cases h2 : e.o = m.src
      · rw [if_pos h2] at hf
        repeat (first | rintro _ _ ⟨rfl, rfl⟩ | refine exq fun _ => ?_ | intro _ | refine go ?_ | refine dr_Tab_44 ?_ | refine drq ?_ | refine cal @hS8 ?_)
        skip
        exact join () _ _ trivial (by (repeat (first | exact Sub.nil | (refine Sub.cons (by first | rfl | (simp only [Nat.zero_add]; rfl)) ?_)))) (by rw [hf]; exact entu0)
      · rw [if_neg h2] at hf
        repeat (first | rintro _ _ ⟨rfl, rfl⟩ | refine exq fun _ => ?_ | intro _ | refine go ?_ | refine dr_Tab_44 ?_ | refine drq ?_ | refine cal @hS5 ?_)
        skip
        exact join () _ _ trivial (by (repeat (first | exact Sub.nil | (refine Sub.cons (by first | rfl | (simp only [Nat.zero_add]; rfl)) ?_)))) (by rw [hf]; exact entu0)
  · intro _ _
    clear hf hD hS8 hS5
    generalize firstT e m w = f1
    apply WC_loopE (E0 := [(1, _), (2, _), (54, _), (55, _)]) (fun E0 (i : Nat) => (56, .int .i64 i) :: E0) (fun i => SBt bm bt m (f1 :: (ot.take i).map (invT m)) :: Own 3 1 (.slice p ot.length q) ot.length (flat ic ot) :: Cells b2 52 [.int .i64 0, .int .i64 0, .int .i64 0, .slice none 0 0, .bool false] :: Cells b1 116 (akl e a k m w bm bt) :: F) (fun i => i ≤ ot.length) (fun i => ot.length - i) 0
    · (repeat (first | exact Sub.nil | (refine Sub.cons (by first | rfl | (simp only [Nat.zero_add]; rfl)) ?_)))
    · exact Nat.zero_le _
    · simp only [List.take_zero, List.map_nil]; exact entu0
    · intro i hi
      by_cases hlt : i < ot.length
      · have hS := fun F => tab_sendT (F := F) (m := m) (bm := bm) (bt := bt) (l := f1 :: (ot.take i).map (invT m)) 6 ot[i] m.src 0 0 .zero (by simp; omega)
        have et : f1 :: (ot.take (i + 1)).map (invT m) = (f1 :: (ot.take i).map (invT m)) ++ [msgT m 6 ot[i] m.src 0 0 .zero] := by
          rw [List.take_add_one, List.getElem?_eq_getElem hlt]; simp only [List.map_append, List.cons_append, List.map_cons, List.map_nil, Option.toList_some]; rfl
        repeat (first | rintro _ _ ⟨rfl, rfl⟩ | refine exq fun _ => ?_ | intro _ | refine go ?_ | refine dr_Tab_44 ?_ | refine drq ?_ | refine cal @hS ?_)
        refine WE_loop (i + 1) (by omega) (by omega) ?_ ?_
        · (repeat (first | exact Sub.nil | (refine Sub.cons (by first | rfl | (simp only [Nat.zero_add]; rfl)) ?_)))
        · rw [et]; exact entu0
      · have hil : i = ot.length := by omega
        subst hil
        rw [List.take_length]
        repeat (first | rintro _ _ ⟨rfl, rfl⟩ | refine exq fun _ => ?_ | intro _ | refine go ?_ | refine dr_Tab_44 ?_ | refine drq ?_ | refine cal @shr_Clear ?_)
        (apply WE_ret rfl rfl (by (repeat (first | exact ResOk.nil | (apply ResOk.tmp; rfl) | (apply resOk_cell; rfl; exact inferInstance; rfl; rfl)))))
        · exact ⟨rfl, rfl⟩
        · exact entu0
theorem readT_len {e : TEnt} {m : Msg} (h : shMay e.s = true) : (readT e m).s.ps.length ≤ 9 := by
  have h8 := may_facts' h
  have ha := addS_len e.s m.src
  unfold readT
  split
  · simp
  · split
    · dsimp only; omega
    · split
      · simp [clearS]
      · dsimp only; omega
theorem readS_len {e : TEnt} {m : Msg} {w : Words} : (readS e m w).length ≤ 1 := by
  unfold readS; split <;> (try split) <;> (try split) <;> simp
theorem tab_Next {F : List HP} {e : TEnt} {a : Option Addr} {k : Nat} {m : Msg} {w : Words} (hk : RdL F 1 (.slice a e.s.ps.length k) e.s.ps.length (flat ic e.s.ps)) (hn : e.s.ps.length ≤ 1000) :
    FnF Try.prog 20 [.agg (tec e a k).toArray, mv m, wv w] [] F (fun r L' => ∃ a' k' p c, r = .tuple [.agg (tuc (nextT e m) a' k' p (nextS e m w).length c (nextW e m)).toArray, .int .i64 (nextE e m)].toArray
      ∧ L' = [Own 3 1 (.slice a' (nextT e m).s.ps.length k') (nextT e m).s.ps.length (flat ic (nextT e m).s.ps), Own 59 15 (.slice p (nextS e m w).length c) (nextS e m w).length (flat mc (nextS e m w))]) := by
  have hM := fun F (hk : RdL F 1 (.slice a e.s.ps.length k) e.s.ps.length (flat ic e.s.ps)) => tab_May (F := F) hk hn
  refine FnF.mk' Try.func20 rfl rfl Try.ntmps20 rfl ?_
  cases hok : okT e m with
  | false =>
    have e1 : nextE e m = 1 := by simp [nextE, hok]
    have e2 : nextT e m = .no := by simp [nextT, e1]
    have e3 : nextS e m w = [] := by simp [nextS, e1]
    have e4 : nextW e m = false := by simp [nextW, e1]
    rw [e1, e2, e3, e4]
    cases hm : mayT e with
    | false =>
      simp only [hm] at hM
      repeat (first | rintro _ _ ⟨rfl, rfl⟩ | refine exq fun _ => ?_ | intro _ | refine go ?_ | refine drq ?_ | refine cal @hM ?_)
      (apply WE_ret rfl rfl (by (repeat (first | exact ResOk.nil | (apply ResOk.tmp; rfl) | (apply resOk_cell; rfl; exact inferInstance; rfl; rfl)))))
      · exact ⟨none, 0, none, 0, rfl, rfl⟩
      · refine own_empty (own_empty ?_)
        exact entu0
    | true =>
      simp only [hm] at hM
      have hb : ¬ (0 ≤ m.src ∧ m.src < e.s.cores) := by
        intro hh; simp [okT, hm, hh] at hok
      by_cases h0 : m.src < 0
      · repeat (first | rintro _ _ ⟨rfl, rfl⟩ | refine exq fun _ => ?_ | intro _ | refine go ?_ | refine drq ?_ | refine cal @hM ?_)
        (apply WE_ret rfl rfl (by (repeat (first | exact ResOk.nil | (apply ResOk.tmp; rfl) | (apply resOk_cell; rfl; exact inferInstance; rfl; rfl)))))
        · exact ⟨none, 0, none, 0, rfl, rfl⟩
        · refine own_empty (own_empty ?_)
          exact entu0
      · repeat (first | rintro _ _ ⟨rfl, rfl⟩ | refine exq fun _ => ?_ | intro _ | refine go ?_ | refine drq ?_ | refine cal @hM ?_)
        (apply WE_ret rfl rfl (by (repeat (first | exact ResOk.nil | (apply ResOk.tmp; rfl) | (apply resOk_cell; rfl; exact inferInstance; rfl; rfl)))))
        · exact ⟨none, 0, none, 0, rfl, rfl⟩
        · refine own_empty (own_empty ?_)
          exact entu0
  | true =>
    have hm : mayT e = true := by simp only [okT, Bool.and_eq_true] at hok; exact hok.1.1
    have hs : shMay e.s = true := by simp only [mayT, Bool.and_eq_true] at hm; exact hm.1.1
    have hb : 0 ≤ m.src ∧ m.src < e.s.cores := by simp only [okT, Bool.and_eq_true, decide_eq_true_eq] at hok; exact ⟨hok.1.2, hok.2⟩
    have h8 := (may_facts' hs).2.2
    simp only [hm] at hM
    obtain ⟨hb0, hb1⟩ := hb
    by_cases h1 : m.kind = 1
    · have hk3 : ¬ m.kind = 3 := by omega
      have hk2 : ¬ m.kind = 2 := by omega
      have hR := fun F (hk : RdL F 1 (.slice a e.s.ps.length k) e.s.ps.length (flat ic e.s.ps)) bm bt => tab_read (F := F) (e := e) (a := a) (k := k) (m := m) (w := w) (bm := bm) (bt := bt) hk hs
      by_cases he : e.o = m.src
      · have e1 : nextE e m = 7 := by simp [nextE, hok, h1, he]
        have e2 : nextT e m = .no := by simp [nextT, e1]
        have e3 : nextS e m w = [] := by simp [nextS, e1]
        have e4 : nextW e m = false := by simp [nextW, e1]
        rw [e1, e2, e3, e4]
        simp only [if_pos he] at hR
        repeat (first | rintro _ _ ⟨rfl, rfl⟩ | refine exq fun _ => ?_ | intro _ | refine go ?_ | refine drq ?_ | refine cal @hM ?_)
        rename_i b3 b4 b5 b6 b8 b9
        refine WO_ent (L' := SBt b4 b8 m [] :: Cells b9 116 (akl e a k m w b4 b8) :: Cells b6 70 (tz none 0 0) :: F) (SB_in (p := none) (n := 0) (c := 0) (xs := []) (Ent.trans (own_empty (e := 59) (sz := 15) (p := none) Ent.refl) (by exact entu0)) rfl rfl) ?_
        repeat (first | rintro _ _ ⟨rfl, rfl⟩ | refine exq fun _ => ?_ | intro _ | refine go ?_ | refine drq ?_ | refine cal @hR ?_)
        (first | refine WO_front (SBt b4 b8 m (readS e m w)) ?_ | refine WC_front (SBt b4 b8 m (readS e m w)) ?_ | refine WE_front (SBt b4 b8 m (readS e m w)) ?_)
        refine SB_openO fun p c => ?_
        repeat (first | rintro _ _ ⟨rfl, rfl⟩ | refine exq fun _ => ?_ | intro _ | refine go ?_ | refine drq ?_)
        (apply WE_ret rfl rfl (by (repeat (first | exact ResOk.nil | (apply ResOk.tmp; rfl) | (apply resOk_cell; rfl; exact inferInstance; rfl; rfl)))))
        · exact ⟨none, 0, none, 0, rfl, rfl⟩
        · refine own_empty (own_empty ?_)
          exact entu0
      · have e1 : nextE e m = 0 := by simp [nextE, hok, h1, he]
        have e2 : nextT e m = readT e m := by simp [nextT, e1, h1]
        have e3 : nextS e m w = readS e m w := by simp [nextS, e1, h1]
        have e4 : nextW e m = false := by simp [nextW, e1, h1]
        have hl : (readT e m).s.ps.length ≤ 9 := readT_len hs
        have hl2 : (readS e m w).length ≤ 1 := readS_len
        rw [e1, e2, e3, e4]
        simp only [if_neg he] at hR
        repeat (first | rintro _ _ ⟨rfl, rfl⟩ | refine exq fun _ => ?_ | intro _ | refine go ?_ | refine drq ?_ | refine cal @hM ?_)
        rename_i b3 b4 b5 b6 b8 b9
        refine WO_ent (L' := SBt b4 b8 m [] :: Cells b9 116 (akl e a k m w b4 b8) :: Cells b6 70 (tz none 0 0) :: F) (SB_in (p := none) (n := 0) (c := 0) (xs := []) (Ent.trans (own_empty (e := 59) (sz := 15) (p := none) Ent.refl) (by exact entu0)) rfl rfl) ?_
        repeat (first | rintro _ _ ⟨rfl, rfl⟩ | refine exq fun _ => ?_ | intro _ | refine go ?_ | refine drq ?_ | refine cal @hR ?_)
        (first | refine WO_front (SBt b4 b8 m (readS e m w)) ?_ | refine WC_front (SBt b4 b8 m (readS e m w)) ?_ | refine WE_front (SBt b4 b8 m (readS e m w)) ?_)
        refine SB_openO fun p c => ?_
        repeat (first | rintro _ _ ⟨rfl, rfl⟩ | refine exq fun _ => ?_ | intro _ | refine go ?_ | refine drq ?_)
        refine WO_ent (own_empty (e := 3) (sz := 1) (p := none) Ent.refl) ?_
        repeat (first | rintro _ _ ⟨rfl, rfl⟩ | refine exq fun _ => ?_ | intro _ | refine go ?_ | refine drq ?_)
        simp only [Nat.zero_add, List.nil_append]
        (apply WE_ret rfl rfl (by (repeat (first | exact ResOk.nil | (apply ResOk.tmp; rfl) | (apply resOk_cell; rfl; exact inferInstance; rfl; rfl)))))
        · exact ⟨_, _, _, _, rfl, rfl⟩
        · exact entu0
    · by_cases h2 : m.kind = 2
      · skip
        have hk3 : ¬ m.kind = 3 := by omega
        have hR := fun F (hk : RdL F 1 (.slice a e.s.ps.length k) e.s.ps.length (flat ic e.s.ps)) bm bt => tab_write (F := F) (e := e) (a := a) (k := k) (m := m) (w := w) (bm := bm) (bt := bt) hk hs
        have e1 : nextE e m = 0 := by simp [nextE, hok, h2]
        have e2 : nextT e m = ⟨m.src, clearS e.s⟩ := by simp [nextT, e1, h2]
        have e3 : nextS e m w = writeS e m w := by simp [nextS, e1, h2]
        haveI hnil : ∀ L, RdL L 1 (.slice none (⟨m.src, clearS e.s⟩ : TEnt).s.ps.length 0) 0 [] := fun L => rd_empty
        have e4 : nextW e m = false := by simp [nextW, e1, h2]
        rw [e1, e2, e3, e4]
        repeat (first | rintro _ _ ⟨rfl, rfl⟩ | refine exq fun _ => ?_ | intro _ | refine go ?_ | refine drq ?_ | refine cal @hM ?_)
        rename_i b3 b4 b5 b6 b8 b9
        refine WO_ent (L' := SBt b4 b8 m [] :: Cells b9 116 (akl e a k m w b4 b8) :: Cells b6 70 (tz none 0 0) :: F) (SB_in (p := none) (n := 0) (c := 0) (xs := []) (Ent.trans (own_empty (e := 59) (sz := 15) (p := none) Ent.refl) (by exact entu0)) rfl rfl) ?_
        repeat (first | rintro _ _ ⟨rfl, rfl⟩ | refine exq fun _ => ?_ | intro _ | refine go ?_ | refine drq ?_ | refine cal @hR ?_)
        (first | refine WO_front (SBt b4 b8 m (writeS e m w)) ?_ | refine WC_front (SBt b4 b8 m (writeS e m w)) ?_ | refine WE_front (SBt b4 b8 m (writeS e m w)) ?_)
        refine SB_openO fun p c => ?_
        repeat (first | rintro _ _ ⟨rfl, rfl⟩ | refine exq fun _ => ?_ | intro _ | refine go ?_ | refine drq ?_)
        refine WO_ent (own_empty (e := 3) (sz := 1) (p := none) Ent.refl) ?_
        repeat (first | rintro _ _ ⟨rfl, rfl⟩ | refine exq fun _ => ?_ | intro _ | refine go ?_ | refine drq ?_)
        simp only [Nat.zero_add, List.nil_append]
        (apply WE_ret rfl rfl (by (repeat (first | exact ResOk.nil | (apply ResOk.tmp; rfl) | (apply resOk_cell; rfl; exact inferInstance; rfl; rfl)))))
        · exact ⟨_, _, _, _, rfl, rfl⟩
        · simp only [clearS, List.length_nil, flat_nil]; exact entu0
      · by_cases h3 : m.kind = 3
        · skip
          skip
          have hR := fun F bm bt => tab_put (F := F) (e := e) (a := a) (k := k) (m := m) (w := w) (bm := bm) (bt := bt)
          have e1 : nextE e m = 0 := by simp [nextE, hok, h3]
          have e2 : nextT e m = putT e m := by simp [nextT, e1, h3]
          have e3 : nextS e m w = [msgT m 10 m.src 0 0 0 .zero] := by simp [nextS, e1, h3]
          have e4 : nextW e m = decide (e.o = m.src) := by simp [nextW, e1, h3]
          have e5 : (putT e m).s = e.s := by unfold putT; split <;> rfl
          haveI hk' : RdL F 1 (.slice a (putT e m).s.ps.length k) (putT e m).s.ps.length (flat ic (putT e m).s.ps) := by rw [e5]; exact hk
          have hl : (putT e m).s.ps.length ≤ 8 := by rw [e5]; omega
          rw [e1, e2, e3, e4]
          repeat (first | rintro _ _ ⟨rfl, rfl⟩ | refine exq fun _ => ?_ | intro _ | refine go ?_ | refine drq ?_ | refine cal @hM ?_)
          rename_i b3 b4 b5 b6 b8 b9
          refine WO_ent (L' := SBt b4 b8 m [] :: Cells b9 116 (akl e a k m w b4 b8) :: Cells b6 70 (tz none 0 0) :: F) (SB_in (p := none) (n := 0) (c := 0) (xs := []) (Ent.trans (own_empty (e := 59) (sz := 15) (p := none) Ent.refl) (by exact entu0)) rfl rfl) ?_
          repeat (first | rintro _ _ ⟨rfl, rfl⟩ | refine exq fun _ => ?_ | intro _ | refine go ?_ | refine drq ?_ | refine cal @hR ?_)
          (first | refine WO_front (SBt b4 b8 m ([msgT m 10 m.src 0 0 0 .zero])) ?_ | refine WC_front (SBt b4 b8 m ([msgT m 10 m.src 0 0 0 .zero])) ?_ | refine WE_front (SBt b4 b8 m ([msgT m 10 m.src 0 0 0 .zero])) ?_)
          refine SB_openO fun p c => ?_
          repeat (first | rintro _ _ ⟨rfl, rfl⟩ | refine exq fun _ => ?_ | intro _ | refine go ?_ | refine drq ?_)
          refine WO_ent (own_empty (e := 3) (sz := 1) (p := none) Ent.refl) ?_
          repeat (first | rintro _ _ ⟨rfl, rfl⟩ | refine exq fun _ => ?_ | intro _ | refine go ?_ | refine drq ?_)
          simp only [Nat.zero_add, List.nil_append]
          (apply WE_ret rfl rfl (by (repeat (first | exact ResOk.nil | (apply ResOk.tmp; rfl) | (apply resOk_cell; rfl; exact inferInstance; rfl; rfl)))))
          · exact ⟨_, _, _, _, rfl, rfl⟩
          · exact entu0
        · have e1 : nextE e m = 1 := by simp [nextE, hok, h1, h2, h3]
          have e2 : nextT e m = .no := by simp [nextT, e1]
          have e3 : nextS e m w = [] := by simp [nextS, e1]
          have e4 : nextW e m = false := by simp [nextW, e1]
          rw [e1, e2, e3, e4]
          repeat (first | rintro _ _ ⟨rfl, rfl⟩ | refine exq fun _ => ?_ | intro _ | refine go ?_ | refine drq ?_ | refine cal @hM ?_)
          (apply WE_ret rfl rfl (by (repeat (first | exact ResOk.nil | (apply ResOk.tmp; rfl) | (apply resOk_cell; rfl; exact inferInstance; rfl; rfl)))))
          · exact ⟨none, 0, none, 0, rfl, rfl⟩
          · refine own_empty (own_empty ?_)
            exact entu0
end Go.Sx

/- The laws of the table. My own work. -/
namespace Go.Sx
open Go Go.Proofs
set_option linter.unusedVariables false
set_option linter.unusedSectionVars false
set_option linter.unusedSimpArgs false
def x13 : TEnt := ⟨2, ⟨4, 2, [0, 1], false⟩⟩
def e13 : TEnt := ⟨-1, ⟨4, 2, [], false⟩⟩
set_option maxRecDepth 100000
set_option maxHeartbeats 4000000
attribute [local irreducible] Go.Exit.then Go.Exit.inBlock Go.Code.wp WC WO WE WQ V LoopQ FnQ Sat Star band bor IntKind.wrap WR Code.rounds WT KO
theorem tab_New {F : List HP} {cores most : Int} : FnF Try.prog 38 [.int .i64 cores, .int .i64 most] [] F
    (fun r L' => r = .tuple [.agg (tec (if shMay ⟨cores, most, [], false⟩ then ⟨-1, ⟨cores, most, [], false⟩⟩ else .no) none 0).toArray, .int .i64 (if shMay ⟨cores, most, [], false⟩ then 0 else 1)].toArray ∧ L' = []) := by
  have hN := fun F => shr_New (F := F) (cores := cores) (most := most)
  cases e : shMay ⟨cores, most, [], false⟩ with
  | true =>
    simp only [e, if_true] at hN ⊢
    refine FnF.mk' Try.func38 rfl rfl Try.ntmps38 rfl ?_
    repeat (first | rintro _ _ ⟨rfl, rfl⟩ | refine exq fun _ => ?_ | intro _ | refine go ?_ | refine drq ?_ | refine cal @hN ?_)
    exact fin0
  | false =>
    simp only [e, Bool.false_eq_true, if_false] at hN ⊢
    refine FnF.mk' Try.func38 rfl rfl Try.ntmps38 rfl ?_
    repeat (first | rintro _ _ ⟨rfl, rfl⟩ | refine exq fun _ => ?_ | intro _ | refine go ?_ | refine drq ?_ | refine cal @hN ?_)
    exact fin0
end Go.Sx

/- The table, in plain words. My own work. -/
namespace Go.Sx
open Go Go.Proofs
set_option linter.unusedVariables false
set_option linter.unusedSectionVars false
set_option linter.unusedSimpArgs false
theorem may_mk' {s : SSet} (h1 : 1 ≤ s.cores) (h2 : s.cores ≤ 64) (h3 : 0 ≤ s.most) (h4 : s.most ≤ 8) (h5 : (s.ps.length : Int) ≤ s.most) (h6 : s.all = true → s.ps = []) (h7 : s.ps.Pairwise (· < ·)) (h8 : ∀ c ∈ s.ps, 0 ≤ c ∧ c < s.cores) : shMay s = true := by
  have h9 : risingB s.cores (-1) s.ps = true := rising_of h7 fun c hc => by have := h8 c hc; exact ⟨by omega, this.2⟩
  have h10 : (!(s.all && decide (0 < s.ps.length))) = true := by
    cases ha : s.all with
    | false => rfl
    | true => rw [h6 ha]; rfl
  simp only [shMay, h1, h2, h3, h4, h5, h9, h10, decide_true, Bool.and_true]
theorem may_add' {s : SSet} {x : Int} (h : shMay s = true) (hx0 : 0 ≤ x) (hx1 : x < s.cores) : shMay (shAddS s x) = true ∧ (shAddS s x).cores = s.cores ∧ (shAddS s x).most = s.most := by
  obtain ⟨m1, m2, m3, m4, m5, m6, m7, m8⟩ := may_facts' h
  have e1 : shAddE s x = 0 := by simp only [shAddE, h, if_true]; rw [if_neg (by omega)]
  unfold shAddS
  rw [if_pos e1]
  cases hh : shHas s x with
  | true => exact ⟨h, rfl, rfl⟩
  | false =>
    rw [if_neg Bool.false_ne_true]
    by_cases hf : (s.ps.length : Int) = s.most
    · rw [if_pos hf]
      exact ⟨may_mk' m1 m2 m3 m4 (by simpa using m3) (fun _ => rfl) List.Pairwise.nil (fun c hc => by cases hc), rfl, rfl⟩
    · rw [if_neg hf]
      have hal := not_has_all hx0 hx1 hh
      have hx : ¬ x ∈ s.ps := by simpa [shHas, hal] using hh
      refine ⟨may_mk' m1 m2 m3 m4 ?_ ?_ (insL_sorted m7 hx) ?_, rfl, rfl⟩
      · simp only [insL_len]; omega
      · intro h; dsimp only at h; rw [hal] at h; cases h
      · intro c hc
        rcases (insL_mem x c s.ps).1 hc with rfl | hc
        · exact ⟨hx0, hx1⟩
        · exact m8 c hc
theorem has_rng {s : SSet} {c : Int} (h : shMay s = true) (hh : shHas s c = true) : 0 ≤ c ∧ c < s.cores := by
  obtain ⟨_, _, _, _, _, _, _, m8⟩ := may_facts' h
  unfold shHas at hh
  cases ha : s.all with
  | true => rw [ha, if_pos rfl] at hh; simpa using hh
  | false => rw [ha, if_neg Bool.false_ne_true] at hh; exact m8 c (of_decide_eq_true hh)
theorem tgt_mem {s : SSet} {but : List Int} {c : Int} (h : shMay s = true) : c ∈ shTgt s but s.cores.toNat ↔ shHas s c = true ∧ ¬ c ∈ but := by
  unfold shTgt
  rw [List.mem_filter, upto_mem]
  simp only [Bool.and_eq_true, Bool.not_eq_true', decide_eq_false_iff_not]
  constructor
  · exact fun h => h.2
  · intro hh
    have := has_rng h hh.1
    exact ⟨by omega, hh⟩
theorem tgt_sorted (s : SSet) (but : List Int) (n : Nat) : (shTgt s but n).Pairwise (· < ·) := (upto_sorted n).filter _
theorem add_has {s : SSet} {x c : Int} (h : shMay s = true) (h0 : 0 ≤ x) (h1 : x < s.cores) (hc : shHas s c = true ∨ c = x) : shHas (shAddS s x) c = true := by
  have e1 : shAddE s x = 0 := by simp only [shAddE, h, if_true]; rw [if_neg (by omega)]
  unfold shAddS
  rw [if_pos e1]
  cases hh : shHas s x with
  | true =>
    rw [if_pos rfl]
    rcases hc with hc | rfl
    · exact hc
    · exact hh
  | false =>
    rw [if_neg Bool.false_ne_true]
    have hr : 0 ≤ c ∧ c < s.cores := by
      rcases hc with hc | rfl
      · exact has_rng h hc
      · exact ⟨h0, h1⟩
    split
    · simp [shHas, hr]
    · have hal := not_has_all h0 h1 hh
      simp only [shHas, hal, Bool.false_eq_true, if_false, decide_eq_true_eq]
      rw [insL_mem]
      rcases hc with hc | hc
      · right; simpa [shHas, hal] using hc
      · exact .inl hc
theorem nextE_ok {e : TEnt} {m : Msg} (h : nextE e m = 0) : okT e m = true ∧ (m.kind = 1 ∧ ¬ e.o = m.src ∨ m.kind = 2 ∨ m.kind = 3) := by
  unfold nextE at h
  split at h
  · rename_i hk
    refine ⟨hk, ?_⟩
    split at h
    · split at h
      · cases h
      · exact .inl ⟨by assumption, by assumption⟩
    · split at h
      · exact .inr (.inl (by assumption))
      · split at h
        · exact .inr (.inr (by assumption))
        · cases h
  · cases h
theorem okT_facts {e : TEnt} {m : Msg} (h : okT e m = true) : shMay e.s = true ∧ -1 ≤ e.o ∧ e.o < e.s.cores ∧ 0 ≤ m.src ∧ m.src < e.s.cores := by
  simp only [okT, mayT, Bool.and_eq_true, decide_eq_true_eq] at h
  exact ⟨h.1.1.1.1, h.1.1.1.2, h.1.1.2, h.1.2, h.2⟩
theorem mayT_mk {e : TEnt} (h1 : shMay e.s = true) (h2 : -1 ≤ e.o) (h3 : e.o < e.s.cores) : mayT e = true := by simp [mayT, h1, h2, h3]
theorem may_clear {s : SSet} (h : shMay s = true) : shMay (clearS s) = true := by
  obtain ⟨m1, m2, m3, m4, m5, m6, m7, m8⟩ := may_facts' h
  exact may_mk' m1 m2 m3 m4 (by simpa [clearS] using m3) (fun _ => rfl) List.Pairwise.nil (fun c hc => by cases hc)
theorem next_may {e : TEnt} {m : Msg} (h : nextE e m = 0) : mayT (nextT e m) = true := by
  obtain ⟨hok, hk⟩ := nextE_ok h
  obtain ⟨h1, h2, h3, h4, h5⟩ := okT_facts hok
  obtain ⟨a1, a2, _⟩ := may_add' h1 h4 h5
  unfold nextT
  rw [if_pos h]
  rcases hk with ⟨k, ho⟩ | k | k
  · rw [if_pos k]
    unfold readT
    rw [if_neg ho]
    split
    · exact mayT_mk a1 h2 (by rw [a2]; exact h3)
    · split
      · exact mayT_mk (may_clear h1) (by dsimp only; omega) h5
      · exact mayT_mk a1 h2 (by rw [a2]; exact h3)
  · rw [if_neg (by omega), if_pos k]
    exact mayT_mk (may_clear h1) (by dsimp only; omega) h5
  · rw [if_neg (by omega), if_neg (by omega)]
    unfold putT
    split
    · exact mayT_mk h1 (by simp) (by dsimp only; have := (may_facts' h1).1; omega)
    · exact mayT_mk h1 h2 h3
/-- What is sent: a first one, and invalidations. -/
theorem next_sent {e : TEnt} {m : Msg} (w : Words) (h : nextE e m = 0) : ∃ f : Msg, ∃ ot : List Int, nextS e m w = f :: ot.map (invT m) ∧ f.kind ≠ 6 ∧ f.line = m.line ∧ f.src = m.dst ∧ f.acks = (ot.length : Nat) ∧ (f.dst = m.src ∨ f.who = m.src ∧ f.dst = e.o) ∧
    ot.Pairwise (· < ·) ∧ ot.length ≤ 64 ∧ ∀ c ∈ ot, 0 ≤ c ∧ c ≠ m.src ∧ c ≠ e.o ∧ shHas e.s c = true := by
  obtain ⟨hok, hk⟩ := nextE_ok h
  obtain ⟨h1, h2, h3, h4, h5⟩ := okT_facts hok
  unfold nextS
  rw [if_pos h]
  rcases hk with ⟨k, ho⟩ | k | k
  · rw [if_pos k]
    unfold readS
    rw [if_neg ho]
    split
    · exact ⟨_, [], rfl, by simp [msgT], rfl, rfl, rfl, .inr ⟨rfl, rfl⟩, List.Pairwise.nil, by simp, fun c hc => by cases hc⟩
    · split
      · exact ⟨_, [], rfl, by simp [msgT], rfl, rfl, rfl, .inl rfl, List.Pairwise.nil, by simp, fun c hc => by cases hc⟩
      · exact ⟨_, [], rfl, by simp [msgT], rfl, rfl, rfl, .inl rfl, List.Pairwise.nil, by simp, fun c hc => by cases hc⟩
  · rw [if_neg (by omega), if_pos k]
    have hot : ∀ c ∈ othersT e m, 0 ≤ c ∧ c ≠ m.src ∧ c ≠ e.o ∧ shHas e.s c = true := fun c hc => by
      obtain ⟨g1, g2⟩ := (tgt_mem h1).1 hc
      simp only [List.mem_cons, List.not_mem_nil, or_false, not_or] at g2
      exact ⟨(has_rng h1 g1).1, g2.1, g2.2, g1⟩
    refine ⟨firstT e m w, othersT e m, rfl, ?_, ?_, ?_, ?_, ?_, tgt_sorted _ _ _, (by have := tgt_len e.s [m.src, e.o] e.s.cores.toNat; have h64 := (may_facts' h1).2.1; have hd : othersT e m = shTgt e.s [m.src, e.o] e.s.cores.toNat := rfl; rw [hd]; omega), hot⟩
    all_goals (unfold firstT; split)
    all_goals first
    | (simp [msgT]; done)
    | rfl
    | exact .inl rfl
    | (split <;> first | (simp [msgT]; done) | rfl | exact .inl rfl | exact .inr ⟨rfl, rfl⟩)
  · rw [if_neg (by omega), if_neg (by omega)]
    exact ⟨_, [], rfl, by simp [msgT], rfl, rfl, rfl, .inl rfl, List.Pairwise.nil, by simp, fun c hc => by cases hc⟩
/-- What is told last, ahead of a place. -/
def lastN (S : List Msg) (i : Nat) : Int := if i ≤ 1 then -1 else (S.getD (i - 1) .zero).dst
theorem sent_facts {e : TEnt} {m : Msg} {w : Words} (h : nextE e m = 0) : 0 < (nextS e m w).length ∧ (nextS e m w).length ≤ 1000 ∧
    (∀ i (hi : i < (nextS e m w).length), (nextS e m w)[i].line = m.line ∧ (nextS e m w)[i].src = m.dst ∧ ((nextS e m w)[i].kind = 6 ↔ 0 < i)) ∧
    (∀ (hi : 0 < (nextS e m w).length), (nextS e m w)[0].acks = ((nextS e m w).length : Int) - 1 ∧ ((nextS e m w)[0].dst = m.src ∨ (nextS e m w)[0].who = m.src ∧ (nextS e m w)[0].dst = e.o)) ∧
    ∀ i (hi : i < (nextS e m w).length), 0 < i → lastN (nextS e m w) i < (nextS e m w)[i].dst ∧ (nextS e m w)[i].dst ≠ m.src ∧ (nextS e m w)[i].dst ≠ e.o ∧ (nextS e m w)[i].who = m.src ∧ shHas e.s (nextS e m w)[i].dst = true := by
  obtain ⟨hok, _⟩ := nextE_ok h
  obtain ⟨hm, _⟩ := okT_facts hok
  obtain ⟨f, ot, hS, f1, f2, f3, f4, f5, f6, hl, f7⟩ := next_sent w h
  rw [hS]
  refine ⟨by simp, by simp; omega, ?_, ?_, ?_⟩
  · intro i hi
    cases i with
    | zero => exact ⟨f2, f3, by simpa using f1⟩
    | succ i => simp [invT, msgT]
  · intro _
    exact ⟨by simp [f4], f5⟩
  · intro i hi hi0
    obtain ⟨j, rfl⟩ : ∃ j, i = j + 1 := ⟨i - 1, by omega⟩
    have hj : j < ot.length := by simpa using hi
    have h7 := f7 _ (List.getElem_mem hj)
    have e1 : (f :: ot.map (invT m))[j + 1] = invT m ot[j] := by simp
    rw [e1]
    refine ⟨?_, h7.2.1, h7.2.2.1, rfl, h7.2.2.2⟩
    show lastN _ _ < ot[j]
    unfold lastN
    split
    · omega
    · obtain ⟨k, rfl⟩ : ∃ k, j = k + 1 := ⟨j - 1, by omega⟩
      have e2 : (f :: ot.map (invT m)).getD (k + 1 + 1 - 1) .zero = invT m ot[k] := by
        simp [List.getD_eq_getElem?_getD, show k < ot.length by omega]
      rw [e2]
      exact List.pairwise_iff_getElem.1 f6 k (k + 1) (by omega) hj (by omega)
end Go.Sx
