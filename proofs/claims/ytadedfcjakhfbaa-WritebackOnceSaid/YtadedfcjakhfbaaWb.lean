/- What write-back buffers do, the program's. My own work. -/
import Derived.Test.YtadedfcjakhfbaaBagR
namespace Go.Sx
open Go Go.Proofs
set_option linter.unusedVariables false
set_option linter.unusedSectionVars false
set_option maxRecDepth 100000
set_option maxHeartbeats 4000000
attribute [local irreducible] Go.Exit.then Go.Exit.inBlock Go.Code.wp WC WO WE WQ V LoopQ FnQ Sat Star band bor IntKind.wrap WR Code.rounds WT KO


/-! ## What they do, told of lists -/
def wbPlace (l : List WbE) (line : Int) : Int := indexBy (fun e => decide (e.line = line)) l
def wbAt (l : List WbE) (line : Int) : WbE := l.getD (wbPlace l line).toNat ⟨0, .zero, false⟩
def wbIn (l : List WbE) (line : Int) : Bool := decide (0 ≤ wbPlace l line)
def wbPutE (room : Int) (l : List WbE) (line : Int) : Int := if wbIn l line then 6 else if (l.length : Int) = room then 4 else 0
def wbPutL (room : Int) (l : List WbE) (line : Int) (w : Words) : List WbE := if wbIn l line then l else if (l.length : Int) = room then l else l ++ [⟨line, w, true⟩]
def wbTellE (l : List WbE) (line : Int) : Int := if wbIn l line then (if (wbAt l line).live then 0 else 7) else 5
def wbTellW (l : List WbE) (line : Int) : Words := if wbIn l line && (wbAt l line).live then (wbAt l line).words else .zero
def wbGiveL (l : List WbE) (line : Int) : List WbE := if wbIn l line && (wbAt l line).live then l.set (wbPlace l line).toNat { wbAt l line with live := false } else l
def wbDropE (l : List WbE) (line : Int) : Int := if wbIn l line then 0 else 5
def wbDropL (l : List WbE) (line : Int) : List WbE := if wbIn l line then l.eraseIdx (wbPlace l line).toNat else l
def wbGet (l : List WbE) (line : Int) : WbE := if wbIn l line then wbAt l line else ⟨0, .zero, false⟩

theorem wbIn_t {l : List WbE} {line : Int} (h : wbIn l line = true) : ∃ i : Nat, ∃ hi : i < l.length, wbPlace l line = i ∧ wbAt l line = l[i] ∧ l[i].line = line := by
  obtain ⟨i, hi, h1, h2, _⟩ := indexBy_nat (of_decide_eq_true h)
  refine ⟨i, hi, h1, ?_, by simpa using h2⟩
  unfold wbAt wbPlace
  rw [h1]; simp [hi]
theorem wbIn_f {l : List WbE} {line : Int} (h : wbIn l line = false) : wbPlace l line = -1 := (indexBy_neg (of_decide_eq_false h)).1

abbrev Wb (b : Nat) (room : Int) (l : List WbE) : HP := RL 166 80 10 bc b room l

theorem wb_New {F : List HP} {room : Int} (h : 1 ≤ room ∧ room ≤ 8) : FnF Try.prog 34 [.int .i64 room] [] F (fun r L' => ∃ b, r = .tuple [.pointer (some ⟨b, 0, none⟩), .int .i64 0].toArray ∧ L' = [Wb b room []]) := by
  refine FnF.mk' Try.func34 rfl rfl Try.ntmps34 rfl ?_
  repeat (first | rintro _ _ ⟨rfl, rfl⟩ | rintro _ _ ⟨_, rfl, rfl⟩ | rintro _ _ ⟨_, _, rfl, rfl⟩ | intro _ | refine go ?_ | (refine is_draw ?_; refine WC_draw mixed (by kernel_rfl) ?_))
  (apply WE_ret rfl rfl (by (repeat (first | exact ResOk.nil | (apply ResOk.tmp; rfl) | (apply resOk_cell; rfl; exact inferInstance; rfl; rfl)))))
  · exact ⟨_, rfl, rfl⟩
  · exact RL_in (l := []) (Ent.cons (own_empty Ent.refl)) rfl rfl (by simp; omega)
theorem wb_New_no {F : List HP} {room : Int} (h : ¬ (1 ≤ room ∧ room ≤ 8)) : FnF Try.prog 34 [.int .i64 room] [] F (fun r L' => r = .tuple [.pointer none, .int .i64 1].toArray ∧ L' = []) := by
  refine FnF.mk' Try.func34 rfl rfl Try.ntmps34 rfl ?_
  repeat' (first | rintro _ _ ⟨rfl, rfl⟩ | rintro _ _ ⟨_, rfl, rfl⟩ | rintro _ _ ⟨_, _, rfl, rfl⟩ | intro _ | refine go ?_ | (refine is_draw ?_; refine WC_draw mixed (by kernel_rfl) ?_) | refine spl ?_ ?_ | fail)
  all_goals first | omega | (apply WE_ret rfl rfl (by (repeat (first | exact ResOk.nil | (apply ResOk.tmp; rfl) | (apply resOk_cell; rfl; exact inferInstance; rfl; rfl)))); (first | exact ⟨rfl, rfl⟩ | exact ⟨congrArg Value.bool (by decide), rfl⟩ | exact ⟨_, rfl, rfl⟩ | exact ⟨_, _, rfl, rfl⟩ | exact ⟨by first | (simp []; done) | (simp [] <;> omega), rfl⟩); (repeat (first | exact Ent.refl | exact Ent.nil | apply Ent.pick | apply Ent.drop)))

theorem wb_at1 {F : List HP} {b : Nat} {line : Int} {T : TypeId} {C : List Value → List HP} {e : WbE} (k : CellsAt b F T [.int .i64 line] C) :
    FnF Try.prog 125 [bv e, .pointer (some ⟨b, 0, none⟩)] [] F (fun r L' => r = .bool (decide (e.line = line)) ∧ L' = []) := by
  refine FnF.mk' Try.func125 rfl rfl Try.ntmps125 rfl ?_
  repeat (first | rintro _ _ ⟨rfl, rfl⟩ | rintro _ _ ⟨_, rfl, rfl⟩ | rintro _ _ ⟨_, _, rfl, rfl⟩ | intro _ | refine go ?_ | (refine is_draw ?_; refine WC_draw mixed (by kernel_rfl) ?_))
  (apply WE_ret rfl rfl (by (repeat (first | exact ResOk.nil | (apply ResOk.tmp; rfl) | (apply resOk_cell; rfl; exact inferInstance; rfl; rfl)))); (first | exact ⟨rfl, rfl⟩ | exact ⟨congrArg Value.bool (by decide), rfl⟩ | exact ⟨_, rfl, rfl⟩ | exact ⟨_, _, rfl, rfl⟩ | exact ⟨by first | (simp []; done) | (simp [] <;> omega), rfl⟩); (repeat (first | exact Ent.refl | exact Ent.nil | apply Ent.pick | apply Ent.drop)))

theorem wb_idx {F : List HP} {b : Nat} {line : Int} {T : TypeId} {C : List Value → List HP} {v : Value} {l : List WbE} (k1 : CellsAt b F T [.int .i64 line] C) (k : RdL F 10 v l.length (flat bc l)) (hn : l.length ≤ 1099511627776) :
    FnF Try.prog 124 [v, .func (.func 125) [].toArray [.pointer (some ⟨b, 0, none⟩)].toArray] [] F (fun r L' => r = .int .i64 (wbPlace l line) ∧ L' = []) :=
  sl_IndexFunc_wbe (first := []) (p := fun e => decide (e.line = line)) k hn (fun x _ => wb_at1 k1)

theorem wb_at {F : List HP} {b : Nat} {room : Int} {l : List WbE} {line : Int} : FnF Try.prog 98 [.pointer (some ⟨b, 0, none⟩), .int .i64 line] [Wb b room l] F (fun r L' => r = .int .i64 (wbPlace l line) ∧ L' = [Wb b room l]) := by
  refine FnF.mk' Try.func98 rfl rfl Try.ntmps98 rfl ?_
  refine RL_open fun p c hl => ?_
  repeat (first | rintro _ _ ⟨rfl, rfl⟩ | rintro _ _ ⟨_, rfl, rfl⟩ | rintro _ _ ⟨_, _, rfl, rfl⟩ | intro _ | refine go ?_ | (refine is_draw ?_; refine WC_draw mixed (by kernel_rfl) ?_) | refine cal @wb_idx ?_)
  (apply WE_ret rfl rfl (by (repeat (first | exact ResOk.nil | (apply ResOk.tmp; rfl) | (apply resOk_cell; rfl; exact inferInstance; rfl; rfl)))))
  · exact ⟨rfl, rfl⟩
  · (apply RL_in; (focus ((repeat (first | (with_reducible exact Ent.refl) | exact Ent.nil | (apply ent_pickE; (focus ((repeat (first | (with_reducible exact pk_here) | (apply pk_there))); done))) | apply Ent.drop)); done)); all_goals (first | rfl | (with_reducible assumption) | (simp; done) | (simp; omega) | omega | (constructor <;> (simp) <;> omega)))

theorem wb_Left {F : List HP} {b : Nat} {room : Int} {l : List WbE} : FnF Try.prog 42 [.pointer (some ⟨b, 0, none⟩)] [Wb b room l] F (fun r L' => r = .int .i64 (room - l.length) ∧ L' = [Wb b room l]) := by
  refine FnF.mk' Try.func42 rfl rfl Try.ntmps42 rfl ?_
  refine RL_open fun p c hl => ?_
  repeat (first | rintro _ _ ⟨rfl, rfl⟩ | rintro _ _ ⟨_, rfl, rfl⟩ | rintro _ _ ⟨_, _, rfl, rfl⟩ | intro _ | refine go ?_ | (refine is_draw ?_; refine WC_draw mixed (by kernel_rfl) ?_))
  (apply WE_ret rfl rfl (by (repeat (first | exact ResOk.nil | (apply ResOk.tmp; rfl) | (apply resOk_cell; rfl; exact inferInstance; rfl; rfl)))))
  · exact ⟨rfl, rfl⟩
  · (apply RL_in; (focus ((repeat (first | (with_reducible exact Ent.refl) | exact Ent.nil | (apply ent_pickE; (focus ((repeat (first | (with_reducible exact pk_here) | (apply pk_there))); done))) | apply Ent.drop)); done)); all_goals (first | rfl | (with_reducible assumption) | (simp; done) | (simp; omega) | omega | (constructor <;> (simp) <;> omega)))

theorem wb_Put {F : List HP} {b : Nat} {room : Int} {l : List WbE} {line : Int} {w : Words} : FnF Try.prog 93 [.pointer (some ⟨b, 0, none⟩), .int .i64 line, wv w] [Wb b room l] F (fun r L' => r = .int .i64 (wbPutE room l line) ∧ L' = [Wb b room (wbPutL room l line w)]) := by
  refine FnF.mk' Try.func93 rfl rfl Try.ntmps93 rfl ?_
  cases e : wbIn l line with
  | true =>
    have h0 : 0 ≤ wbPlace l line := of_decide_eq_true e
    repeat (first | rintro _ _ ⟨rfl, rfl⟩ | rintro _ _ ⟨_, rfl, rfl⟩ | rintro _ _ ⟨_, _, rfl, rfl⟩ | intro _ | refine go ?_ | (refine is_draw ?_; apply WC_mix (id := 5) true _ (pl := .p 0 <| .p 1 <| .p 2 <| .p 3 <| .p 5 <| .r 4 <| .r 6 <| .p 7 <| .e true [(8, .e true [(9, .p 10 <| .p 11 <| .e false [(12, .done)])])]); exact mixed; kernel_rfl; kernel_rfl; exact Ent.refl) | (refine is_draw ?_; refine WC_draw mixed (by kernel_rfl) ?_) | refine cal @wb_at ?_)
    (apply WE_ret rfl rfl (by (repeat (first | exact ResOk.nil | (apply ResOk.tmp; rfl) | (apply resOk_cell; rfl; exact inferInstance; rfl; rfl)))))
    · exact ⟨by simp [wbPutE, e], rfl⟩
    · simp only [wbPutL, e, if_true]; (repeat (first | (with_reducible exact Ent.refl) | exact Ent.nil | (apply ent_pickE; (focus ((repeat (first | (with_reducible exact pk_here) | (apply pk_there))); done))) | apply Ent.drop))
  | false =>
    have h0 := wbIn_f e
    by_cases hf : (l.length : Int) = room
    · repeat (first | rintro _ _ ⟨rfl, rfl⟩ | rintro _ _ ⟨_, rfl, rfl⟩ | rintro _ _ ⟨_, _, rfl, rfl⟩ | intro _ | refine go ?_ | (refine is_draw ?_; apply WC_mix (id := 5) true _ (pl := .p 0 <| .p 1 <| .p 2 <| .p 3 <| .p 5 <| .r 4 <| .r 6 <| .p 7 <| .e true [(8, .e true [(9, .p 10 <| .p 11 <| .e false [(12, .done)])])]); exact mixed; kernel_rfl; kernel_rfl; exact Ent.refl) | (refine is_draw ?_; refine WC_draw mixed (by kernel_rfl) ?_) | refine cal @wb_at ?_ | refine cal @wb_Left ?_)
      (apply WE_ret rfl rfl (by (repeat (first | exact ResOk.nil | (apply ResOk.tmp; rfl) | (apply resOk_cell; rfl; exact inferInstance; rfl; rfl)))))
      · exact ⟨by simp [wbPutE, e, hf], rfl⟩
      · simp only [wbPutL, e, hf, Bool.false_eq_true, if_false, if_true]; (repeat (first | (with_reducible exact Ent.refl) | exact Ent.nil | (apply ent_pickE; (focus ((repeat (first | (with_reducible exact pk_here) | (apply pk_there))); done))) | apply Ent.drop))
    · repeat (first | rintro _ _ ⟨rfl, rfl⟩ | rintro _ _ ⟨_, rfl, rfl⟩ | rintro _ _ ⟨_, _, rfl, rfl⟩ | intro _ | refine go ?_ | refine cal @wb_at ?_ | refine cal @wb_Left ?_)
      (first | refine WO_front (Wb b room l) ?_ | refine WC_front (Wb b room l) ?_ | refine WE_front (Wb b room l) ?_)
      refine RL_open fun p c hl => ?_
      repeat (first | rintro _ _ ⟨rfl, rfl⟩ | rintro _ _ ⟨_, rfl, rfl⟩ | rintro _ _ ⟨_, _, rfl, rfl⟩ | intro _ | refine go ?_ | (refine is_draw ?_; apply WC_mix (id := 5) true _ (pl := .p 0 <| .p 1 <| .p 2 <| .p 3 <| .p 5 <| .r 4 <| .r 6 <| .p 7 <| .e true [(8, .e true [(9, .p 10 <| .p 11 <| .e false [(12, .done)])])]); exact mixed; kernel_rfl; kernel_rfl; exact Ent.refl) | (refine is_draw ?_; refine WC_draw mixed (by kernel_rfl) ?_))
      (apply WE_ret rfl rfl (by (repeat (first | exact ResOk.nil | (apply ResOk.tmp; rfl) | (apply resOk_cell; rfl; exact inferInstance; rfl; rfl)))))
      · exact ⟨by simp [wbPutE, e, hf], rfl⟩
      · simp only [wbPutL, e, hf, Bool.false_eq_true, if_false]
        (apply RL_in; (focus ((repeat (first | (with_reducible exact Ent.refl) | exact Ent.nil | (apply ent_pickE; (focus ((repeat (first | (with_reducible exact pk_here) | (apply pk_there))); done))) | apply Ent.drop)); done)); all_goals (first | rfl | (with_reducible assumption) | (simp; done) | (simp; omega) | omega | (constructor <;> (simp) <;> omega)))

theorem wb_Share1 {F : List HP} {v : Value} : FnF Try.prog 121 [v] [] F (fun r L' => r = .tuple [].toArray ∧ L' = []) := by
  refine FnF.mk' Try.func121 rfl rfl Try.ntmps121 rfl ?_
  repeat (first | rintro _ _ ⟨rfl, rfl⟩ | rintro _ _ ⟨_, rfl, rfl⟩ | rintro _ _ ⟨_, _, rfl, rfl⟩ | intro _ | refine go ?_ | (refine is_draw ?_; refine WC_draw mixed (by kernel_rfl) ?_))
  (apply WE_ret rfl rfl (by (repeat (first | exact ResOk.nil | (apply ResOk.tmp; rfl) | (apply resOk_cell; rfl; exact inferInstance; rfl; rfl)))); (first | exact ⟨rfl, rfl⟩ | exact ⟨congrArg Value.bool (by decide), rfl⟩ | exact ⟨_, rfl, rfl⟩ | exact ⟨_, _, rfl, rfl⟩ | exact ⟨by first | (simp []; done) | (simp [] <;> omega), rfl⟩); (repeat (first | exact Ent.refl | exact Ent.nil | apply Ent.pick | apply Ent.drop)))

theorem wb_Give1 {F : List HP} {v : Value} {l : List WbE} {i : Nat} (hi : i < l.length) :
    FnF Try.prog 122 [.pointer (some ⟨pb v, po v + i * 10, none⟩)] [Own 80 10 v l.length (flat bc l)] F (fun r L' => r = .tuple [].toArray ∧ L' = [Own 80 10 v l.length (flat bc (l.set i { l[i] with live := false }))]) := by
  refine FnF.mk' Try.func122 rfl rfl Try.ntmps122 rfl ?_
  repeat (first | rintro _ _ ⟨rfl, rfl⟩ | rintro _ _ ⟨_, rfl, rfl⟩ | rintro _ _ ⟨_, _, rfl, rfl⟩ | intro _ | refine go ?_ | (refine is_draw ?_; refine WC_draw mixed (by kernel_rfl) ?_))
  rw [splice_flatJ (enc := bc) (n := 10) (fun _ => rfl) l i hi (x := { l[i] with live := false }) (by simp) rfl]
  (apply WE_ret rfl rfl (by (repeat (first | exact ResOk.nil | (apply ResOk.tmp; rfl) | (apply resOk_cell; rfl; exact inferInstance; rfl; rfl)))); (first | exact ⟨rfl, rfl⟩ | exact ⟨congrArg Value.bool (by decide), rfl⟩ | exact ⟨_, rfl, rfl⟩ | exact ⟨_, _, rfl, rfl⟩ | exact ⟨by first | (simp []; done) | (simp [] <;> omega), rfl⟩); (repeat (first | exact Ent.refl | exact Ent.nil | apply Ent.pick | apply Ent.drop)))

theorem wb_tell {F : List HP} {b : Nat} {room : Int} {l : List WbE} {line : Int} {fk : FuncId} {g : WbE → WbE}
    (H : ∀ (F : List HP) (v : Value) (i : Nat) (hi : i < l.length), l[i].live = true → FnF Try.prog fk [.pointer (some ⟨pb v, po v + i * 10, none⟩)] [Own 80 10 v l.length (flat bc l)] F (fun r L' => r = .tuple [].toArray ∧ L' = [Own 80 10 v l.length (flat bc (l.set i (g l[i])))]))
    (hg : ∀ e, (g e).words = e.words) :
    FnF Try.prog 120 [.pointer (some ⟨b, 0, none⟩), .int .i64 line, .func (.func fk) [].toArray [].toArray] [Wb b room l] F
      (fun r L' => r = .tuple [wv (wbTellW l line), .int .i64 (wbTellE l line)].toArray ∧ L' = [Wb b room (if wbIn l line && (wbAt l line).live then l.set (wbPlace l line).toNat (g (wbAt l line)) else l)]) := by
  refine FnF.mk' Try.func120 rfl rfl Try.ntmps120 rfl ?_
  cases e : wbIn l line with
  | false =>
    have h0 := wbIn_f e
    repeat (first | rintro _ _ ⟨rfl, rfl⟩ | rintro _ _ ⟨_, rfl, rfl⟩ | rintro _ _ ⟨_, _, rfl, rfl⟩ | intro _ | refine go ?_ | (refine is_draw ?_; refine WC_draw mixed (by kernel_rfl) ?_) | refine cal @wb_at ?_)
    (apply WE_ret rfl rfl (by (repeat (first | exact ResOk.nil | (apply ResOk.tmp; rfl) | (apply resOk_cell; rfl; exact inferInstance; rfl; rfl)))))
    · exact ⟨by simp [wbTellE, wbTellW, e, Words.zero], rfl⟩
    · simp only [Bool.false_and, Bool.false_eq_true, if_false]; (repeat (first | (with_reducible exact Ent.refl) | exact Ent.nil | (apply ent_pickE; (focus ((repeat (first | (with_reducible exact pk_here) | (apply pk_there))); done))) | apply Ent.drop))
  | true =>
    obtain ⟨i, hi, h1, h2, h3⟩ := wbIn_t e
    have hA := fun F => wb_at (F := F) (b := b) (room := room) (l := l) (line := line)
    simp only [h1] at hA
    rw [h1, h2]
    have hn : (i : Int).toNat = i := by omega
    cases hl : l[i].live with
    | false =>
      repeat (first | rintro _ _ ⟨rfl, rfl⟩ | rintro _ _ ⟨_, rfl, rfl⟩ | rintro _ _ ⟨_, _, rfl, rfl⟩ | intro _ | refine go ?_ | (refine is_draw ?_; refine WC_draw mixed (by kernel_rfl) ?_) | refine cal @hA ?_)
      (first | refine WO_front (Wb b room l) ?_ | refine WC_front (Wb b room l) ?_ | refine WE_front (Wb b room l) ?_)
      refine RL_openO fun p c hl0 => ?_
      repeat (first | rintro _ _ ⟨rfl, rfl⟩ | rintro _ _ ⟨_, rfl, rfl⟩ | rintro _ _ ⟨_, _, rfl, rfl⟩ | intro _ | refine go ?_ | (refine is_draw ?_; refine WC_draw mixed (by kernel_rfl) ?_))
      (apply WE_ret rfl rfl (by (repeat (first | exact ResOk.nil | (apply ResOk.tmp; rfl) | (apply resOk_cell; rfl; exact inferInstance; rfl; rfl)))))
      · exact ⟨by simp [wbTellE, wbTellW, e, h2, hl, Words.zero], rfl⟩
      · simp only [Bool.and_false, Bool.false_eq_true, if_false]; ((repeat (first | (with_reducible exact Ent.refl) | exact Ent.nil | (apply ent_pickE; (focus ((repeat (first | (with_reducible exact pk_here) | (apply pk_there))); done))) | (apply RL_in) | apply Ent.drop)); all_goals (first | rfl | (with_reducible assumption) | (simp; done) | (simp; omega) | omega | (constructor <;> (simp) <;> omega)))
    | true =>
      have hls : (l.set i (g l[i])).length = l.length := List.length_set
      have hget : (l.set i (g l[i]))[i]'(by omega) = g l[i] := by simp
      have hH := fun F v => H F v i hi hl
      repeat (first | rintro _ _ ⟨rfl, rfl⟩ | rintro _ _ ⟨_, rfl, rfl⟩ | rintro _ _ ⟨_, _, rfl, rfl⟩ | intro _ | refine go ?_ | (refine is_draw ?_; refine WC_draw mixed (by kernel_rfl) ?_) | refine cal @hA ?_)
      (first | refine WO_front (Wb b room l) ?_ | refine WC_front (Wb b room l) ?_ | refine WE_front (Wb b room l) ?_)
      refine RL_openO fun p c hl0 => ?_
      (first | (refine WO_some (.slice p l.length c) inferInstance (by omega) ?_; intro _) | (refine WC_some (.slice p l.length c) inferInstance (by omega) ?_; intro _))
      repeat (first | rintro _ _ ⟨rfl, rfl⟩ | rintro _ _ ⟨_, rfl, rfl⟩ | rintro _ _ ⟨_, _, rfl, rfl⟩ | intro _ | refine go ?_ | (refine is_draw ?_; refine WC_draw mixed (by kernel_rfl) ?_) | refine cal @hH ?_)
      rw [hget, hg]
      (apply WE_ret rfl rfl (by (repeat (first | exact ResOk.nil | (apply ResOk.tmp; rfl) | (apply resOk_cell; rfl; exact inferInstance; rfl; rfl)))))
      · exact ⟨by simp [wbTellE, wbTellW, e, h2, hl], rfl⟩
      · simp only [Bool.and_true, if_true, hn]
        ((repeat (first | (with_reducible exact Ent.refl) | exact Ent.nil | (apply ent_pickE; (focus ((repeat (first | (with_reducible exact pk_here) | (apply pk_there))); done))) | (apply RL_in) | apply Ent.drop)); all_goals (first | rfl | (with_reducible assumption) | (simp; done) | (simp; omega) | omega | (constructor <;> (simp) <;> omega)))

theorem wb_Share {F : List HP} {b : Nat} {room : Int} {l : List WbE} {line : Int} : FnF Try.prog 94 [.pointer (some ⟨b, 0, none⟩), .int .i64 line] [Wb b room l] F (fun r L' => r = .tuple [wv (wbTellW l line), .int .i64 (wbTellE l line)].toArray ∧ L' = [Wb b room l]) := by
  have hT := fun F => wb_tell (F := F) (b := b) (room := room) (l := l) (line := line) (fk := 121) (g := fun e => e) (fun F v i hi hl => by
    rw [List.set_getElem_self]; exact wb_Share1.pure) (fun _ => rfl)
  have hs : (if (wbIn l line && (wbAt l line).live) = true then l.set (wbPlace l line).toNat (wbAt l line) else l) = l := by
    split
    · rename_i h
      obtain ⟨i, hi, h1, h2, h3⟩ := wbIn_t (Bool.and_eq_true_iff.1 h).1
      rw [h1, h2]; simp
    · rfl
  simp only [hs] at hT
  refine FnF.mk' Try.func94 rfl rfl Try.ntmps94 rfl ?_
  repeat (first | rintro _ _ ⟨rfl, rfl⟩ | rintro _ _ ⟨_, rfl, rfl⟩ | rintro _ _ ⟨_, _, rfl, rfl⟩ | intro _ | refine go ?_ | (refine is_draw ?_; refine WC_draw mixed (by kernel_rfl) ?_) | refine cal @hT ?_)
  (apply WE_ret rfl rfl (by (repeat (first | exact ResOk.nil | (apply ResOk.tmp; rfl) | (apply resOk_cell; rfl; exact inferInstance; rfl; rfl)))))
  · exact ⟨rfl, rfl⟩
  · (repeat (first | (with_reducible exact Ent.refl) | exact Ent.nil | (apply ent_pickE; (focus ((repeat (first | (with_reducible exact pk_here) | (apply pk_there))); done))) | apply Ent.drop))

theorem wb_Give {F : List HP} {b : Nat} {room : Int} {l : List WbE} {line : Int} : FnF Try.prog 95 [.pointer (some ⟨b, 0, none⟩), .int .i64 line] [Wb b room l] F (fun r L' => r = .tuple [wv (wbTellW l line), .int .i64 (wbTellE l line)].toArray ∧ L' = [Wb b room (wbGiveL l line)]) := by
  have hT := fun F => wb_tell (F := F) (b := b) (room := room) (l := l) (line := line) (fk := 122) (g := fun e => { e with live := false }) (fun F v i hi hl => wb_Give1 hi) (fun _ => rfl)
  refine FnF.mk' Try.func95 rfl rfl Try.ntmps95 rfl ?_
  repeat (first | rintro _ _ ⟨rfl, rfl⟩ | rintro _ _ ⟨_, rfl, rfl⟩ | rintro _ _ ⟨_, _, rfl, rfl⟩ | intro _ | refine go ?_ | (refine is_draw ?_; refine WC_draw mixed (by kernel_rfl) ?_) | refine cal @hT ?_)
  (apply WE_ret rfl rfl (by (repeat (first | exact ResOk.nil | (apply ResOk.tmp; rfl) | (apply resOk_cell; rfl; exact inferInstance; rfl; rfl)))))
  · exact ⟨rfl, rfl⟩
  · unfold wbGiveL; (repeat (first | (with_reducible exact Ent.refl) | exact Ent.nil | (apply ent_pickE; (focus ((repeat (first | (with_reducible exact pk_here) | (apply pk_there))); done))) | apply Ent.drop))

theorem wb_Drop {F : List HP} {b : Nat} {room : Int} {l : List WbE} {line : Int} : FnF Try.prog 96 [.pointer (some ⟨b, 0, none⟩), .int .i64 line] [Wb b room l] F (fun r L' => r = .int .i64 (wbDropE l line) ∧ L' = [Wb b room (wbDropL l line)]) := by
  refine FnF.mk' Try.func96 rfl rfl Try.ntmps96 rfl ?_
  cases e : wbIn l line with
  | false =>
    have h0 := wbIn_f e
    repeat (first | rintro _ _ ⟨rfl, rfl⟩ | rintro _ _ ⟨_, rfl, rfl⟩ | rintro _ _ ⟨_, _, rfl, rfl⟩ | intro _ | refine go ?_ | (refine is_draw ?_; refine WC_draw mixed (by kernel_rfl) ?_) | refine cal @wb_at ?_)
    (apply WE_ret rfl rfl (by (repeat (first | exact ResOk.nil | (apply ResOk.tmp; rfl) | (apply resOk_cell; rfl; exact inferInstance; rfl; rfl)))))
    · exact ⟨by simp [wbDropE, e], rfl⟩
    · simp only [wbDropL, e, Bool.false_eq_true, if_false]; (repeat (first | (with_reducible exact Ent.refl) | exact Ent.nil | (apply ent_pickE; (focus ((repeat (first | (with_reducible exact pk_here) | (apply pk_there))); done))) | apply Ent.drop))
  | true =>
    obtain ⟨i, hi, h1, h2, h3⟩ := wbIn_t e
    have hA := fun F => wb_at (F := F) (b := b) (room := room) (l := l) (line := line)
    simp only [h1] at hA
    repeat (first | rintro _ _ ⟨rfl, rfl⟩ | rintro _ _ ⟨_, rfl, rfl⟩ | rintro _ _ ⟨_, _, rfl, rfl⟩ | intro _ | refine go ?_ | (refine is_draw ?_; refine WC_draw mixed (by kernel_rfl) ?_) | refine cal @hA ?_)
    (first | refine WO_front (Wb b room l) ?_ | refine WC_front (Wb b room l) ?_ | refine WE_front (Wb b room l) ?_)
    refine RL_openO fun p c hl0 => ?_
    repeat (first | rintro _ _ ⟨rfl, rfl⟩ | rintro _ _ ⟨_, rfl, rfl⟩ | rintro _ _ ⟨_, _, rfl, rfl⟩ | intro _ | refine go ?_ | (refine is_draw ?_; refine WC_draw mixed (by kernel_rfl) ?_))
    refine cal (@sl_Delete_wbe (i := i) (j := i + 1)) ?_
    repeat (first | rintro _ _ ⟨rfl, rfl⟩ | rintro _ _ ⟨_, rfl, rfl⟩ | rintro _ _ ⟨_, _, rfl, rfl⟩ | intro _ | refine go ?_ | (refine is_draw ?_; refine WC_draw mixed (by kernel_rfl) ?_))
    (apply WE_ret rfl rfl (by (repeat (first | exact ResOk.nil | (apply ResOk.tmp; rfl) | (apply resOk_cell; rfl; exact inferInstance; rfl; rfl)))))
    · exact ⟨by simp [wbDropE, e], rfl⟩
    · simp only [wbDropL, e, if_true, h1]
      apply RL_in
      · (repeat (first | (with_reducible exact Ent.refl) | exact Ent.nil | (apply ent_pickE; (focus ((repeat (first | (with_reducible exact pk_here) | (apply pk_there))); done))) | apply Ent.drop))
      · simp only [List.length_eraseIdx, Int.toNat_natCast]; split <;> omega
      · rw [flat_take (enc := bc) (n := 10) (fun _ => rfl), flat_drop (enc := bc) (n := 10) (fun _ => rfl)]
        simp [List.eraseIdx_eq_take_drop_succ]
      · have := List.length_eraseIdx_le l i
        simp only [Int.toNat_natCast]
        omega

theorem wb_Get {F : List HP} {b : Nat} {room : Int} {l : List WbE} {line : Int} : FnF Try.prog 43 [.pointer (some ⟨b, 0, none⟩), .int .i64 line] [Wb b room l] F (fun r L' => r = .tuple [bv (wbGet l line), .bool (wbIn l line)].toArray ∧ L' = [Wb b room l]) := by
  refine FnF.mk' Try.func43 rfl rfl Try.ntmps43 rfl ?_
  cases e : wbIn l line with
  | false =>
    have h0 := wbIn_f e
    repeat (first | rintro _ _ ⟨rfl, rfl⟩ | rintro _ _ ⟨_, rfl, rfl⟩ | rintro _ _ ⟨_, _, rfl, rfl⟩ | intro _ | refine go ?_ | (refine is_draw ?_; refine WC_draw mixed (by kernel_rfl) ?_) | refine cal @wb_at ?_)
    (apply WE_ret rfl rfl (by (repeat (first | exact ResOk.nil | (apply ResOk.tmp; rfl) | (apply resOk_cell; rfl; exact inferInstance; rfl; rfl)))))
    · exact ⟨by simp [wbGet, e, Words.zero], rfl⟩
    · (repeat (first | (with_reducible exact Ent.refl) | exact Ent.nil | (apply ent_pickE; (focus ((repeat (first | (with_reducible exact pk_here) | (apply pk_there))); done))) | apply Ent.drop))
  | true =>
    obtain ⟨i, hi, h1, h2, h3⟩ := wbIn_t e
    have hA := fun F => wb_at (F := F) (b := b) (room := room) (l := l) (line := line)
    simp only [h1] at hA
    repeat (first | rintro _ _ ⟨rfl, rfl⟩ | rintro _ _ ⟨_, rfl, rfl⟩ | rintro _ _ ⟨_, _, rfl, rfl⟩ | intro _ | refine go ?_ | (refine is_draw ?_; refine WC_draw mixed (by kernel_rfl) ?_) | refine cal @hA ?_)
    (first | refine WO_front (Wb b room l) ?_ | refine WC_front (Wb b room l) ?_ | refine WE_front (Wb b room l) ?_)
    refine RL_openO fun p c hl0 => ?_
    repeat (first | rintro _ _ ⟨rfl, rfl⟩ | rintro _ _ ⟨_, rfl, rfl⟩ | rintro _ _ ⟨_, _, rfl, rfl⟩ | intro _ | refine go ?_ | (refine is_draw ?_; refine WC_draw mixed (by kernel_rfl) ?_))
    (apply WE_ret rfl rfl (by (repeat (first | exact ResOk.nil | (apply ResOk.tmp; rfl) | (apply resOk_cell; rfl; exact inferInstance; rfl; rfl)))))
    · exact ⟨by simp [wbGet, e, h2], rfl⟩
    · ((repeat (first | (with_reducible exact Ent.refl) | exact Ent.nil | (apply ent_pickE; (focus ((repeat (first | (with_reducible exact pk_here) | (apply pk_there))); done))) | (apply RL_in) | apply Ent.drop)); all_goals (first | rfl | (with_reducible assumption) | (simp; done) | (simp; omega) | omega | (constructor <;> (simp) <;> omega)))

theorem wb_List {F : List HP} {b : Nat} {room : Int} {l : List WbE} : FnF Try.prog 41 [.pointer (some ⟨b, 0, none⟩)] [Wb b room l] F (fun r L' => ∃ p c, r = .slice p l.length c ∧ L' = [Own 80 10 (.slice p l.length c) l.length (flat bc l), Wb b room l]) := by
  refine FnF.mk' Try.func41 rfl rfl Try.ntmps41 rfl ?_
  refine RL_open fun p c hl => ?_
  repeat (first | rintro _ _ ⟨rfl, rfl⟩ | rintro _ _ ⟨_, rfl, rfl⟩ | rintro _ _ ⟨_, _, rfl, rfl⟩ | intro _ | refine go ?_ | (refine is_draw ?_; refine WC_draw mixed (by kernel_rfl) ?_) | refine cal @sl_Clone_wbe ?_)
  (apply WE_ret rfl rfl (by (repeat (first | exact ResOk.nil | (apply ResOk.tmp; rfl) | (apply resOk_cell; rfl; exact inferInstance; rfl; rfl)))))
  · exact ⟨_, _, rfl, rfl⟩
  · refine Ent.cons ?_
    (apply RL_in; (focus ((repeat (first | (with_reducible exact Ent.refl) | exact Ent.nil | (apply ent_pickE; (focus ((repeat (first | (with_reducible exact pk_here) | (apply pk_there))); done))) | apply Ent.drop)); done)); all_goals (first | rfl | (with_reducible assumption) | (simp; done) | (simp; omega) | omega | (constructor <;> (simp) <;> omega)))
end Go.Sx
