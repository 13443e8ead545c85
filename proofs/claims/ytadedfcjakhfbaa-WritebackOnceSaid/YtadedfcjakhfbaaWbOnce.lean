/- A line is in a write-back buffer once. My own work. -/
import Derived.Test.YtadedfcjakhfbaaWbLaw
namespace Go.Sx
open Go Go.Proofs
set_option linter.unusedVariables false
set_option linter.unusedSectionVars false
set_option linter.unusedSimpArgs false
set_option maxRecDepth 100000
set_option maxHeartbeats 4000000
attribute [local irreducible] Go.Exit.then Go.Exit.inBlock Go.Code.wp WC WO WE WQ V LoopQ FnQ Sat Star band bor IntKind.wrap WR Code.rounds WT KO
instance : MapT Try.prog 84 wv Words.zero := ⟨_, _, _, _, _, Try.underlying84, Try.underlying3, TZ.pf⟩
instance : MapT Try.prog 85 blv false := ⟨_, _, _, _, _, Try.underlying85, Try.underlying3, TZ.pf⟩

/-! ## What the two maps tell of a buffer -/
abbrev mwL (l : List WbE) : List (Int × Words) := l.map fun e => (e.line, e.words)
theorem mwL_len (l : List WbE) : (mwL l).length = l.length := List.length_map ..
def lv (l : List WbE) (k : Int) : Bool := wbIn l k && (wbAt l k).live

theorem mget_of {β : Type} (f : WbE → β) (l : List WbE) (k : Int) : mget (l.map fun e => (e.line, f e)) k = if wbIn l k then some (f (wbAt l k)) else none := by
  cases e : wbIn l k with
  | true =>
    obtain ⟨i, hi, h1, h2, h3⟩ := indexBy_nat (of_decide_eq_true e)
    have h0 : wbAt l k = l[i] := by unfold wbAt wbPlace; rw [h1]; simp [hi]
    rw [if_pos rfl, h0]
    unfold mget
    rw [List.find?_map]
    have : l.find? ((fun p => decide (p.1 = k)) ∘ fun e => (e.line, f e)) = some l[i] := by
      rw [List.find?_eq_some_iff_getElem]
      refine ⟨by simpa using h2, i, hi, rfl, fun j hj => ?_⟩
      have := h3 j (by omega) hj
      simpa using this
    rw [this]; rfl
  | false =>
    have h1 := (indexBy_neg (of_decide_eq_false e)).2
    simp only [Bool.false_eq_true, if_false]
    rw [mget_none]
    intro hm
    simp only [mkeys, List.map_map, List.mem_map, Function.comp] at hm
    obtain ⟨x, hx, hk⟩ := hm
    have := h1 x hx
    simp [hk] at this
theorem mset_out {α : Type} {l : List (Int × α)} {k : Int} {x : α} (h : mget l k = none) : mset l k x = l ++ [(k, x)] := by
  induction l with
  | nil => rfl
  | cons p r ih =>
    rw [mget_cons] at h
    by_cases hp : p.1 = k
    · simp [hp] at h
    · rw [if_neg hp] at h
      simp only [mset, hp, if_false, ih h, List.cons_append]
theorem set_mset {α : Type} {k : Int} {x : α} : ∀ {l : List (Int × α)} {i : Nat} (hi : i < l.length), l[i].1 = k → (∀ j (hj : j < l.length), j < i → l[j].1 ≠ k) → l.set i (k, x) = mset l k x
  | p :: r, 0, hi, h1, h2 => by simp at h1; simp [mset, h1]
  | p :: r, i + 1, hi, h1, h2 => by
    have h0 := h2 0 (by simp) (by omega)
    simp only [List.getElem_cons_zero] at h0
    simp only [mset, h0, if_false, List.set_cons_succ, List.cons.injEq, true_and]
    exact set_mset (by simpa using hi) (by simpa using h1) fun j hj hji => by
      have := h2 (j + 1) (by simpa using hj) (by omega)
      simpa using this
theorem lv_eq (l : List WbE) (k : Int) : lv l k = (mget (l.map fun e => (e.line, e.live)) k).getD false := by
  rw [mget_of (fun e => e.live)]
  unfold lv
  cases wbIn l k <;> simp
theorem mw_in {l : List WbE} {k : Int} (h : wbIn l k = true) : mget (mwL l) k = some (wbAt l k).words := by rw [mget_of (fun e => e.words), h]; rfl
theorem mw_out {l : List WbE} {k : Int} (h : wbIn l k = false) : mget (mwL l) k = none := by rw [mget_of (fun e => e.words), h]; rfl
theorem mw_put {l : List WbE} {k : Int} {w : Words} (h : wbIn l k = false) : mset (mwL l) k w = mwL (l ++ [⟨k, w, true⟩]) := by rw [mset_out (mw_out h)]; simp
theorem lv_put {l : List WbE} {k : Int} {w : Words} (h : wbIn l k = false) (j : Int) : lv (l ++ [⟨k, w, true⟩]) j = if j = k then true else lv l j := by
  rw [lv_eq, lv_eq]
  have : mget (l.map fun e => (e.line, e.live)) k = none := by rw [mget_of (fun e => e.live), h]; rfl
  have e : (l ++ [(⟨k, w, true⟩ : WbE)]).map (fun e : WbE => (e.line, e.live)) = mset (l.map fun e => (e.line, e.live)) k true := by rw [mset_out this]; simp
  rw [e, mget_mset]; split <;> rfl
theorem mw_give (l : List WbE) (k : Int) : mwL (wbGiveL l k) = mwL l := by
  unfold wbGiveL
  split
  · rename_i h
    obtain ⟨i, hi, h1, h2, h3⟩ := wbIn_t (Bool.and_eq_true_iff.1 h).1
    rw [h1, h2]
    unfold mwL
    rw [List.map_set, Int.toNat_natCast]
    exact List.ext_getElem (by simp) fun j h1 h2 => by
      simp only [List.getElem_set, List.getElem_map]
      split
      · rename_i e; subst e; rfl
      · rfl
  · rfl
theorem lv_give (l : List WbE) (k j : Int) : lv (wbGiveL l k) j = if j = k then false else lv l j := by
  unfold wbGiveL
  split
  · rename_i h
    obtain ⟨i, hi, h1, h2, h3⟩ := indexBy_nat (of_decide_eq_true (Bool.and_eq_true_iff.1 h).1)
    have h0 : wbAt l k = l[i] := by unfold wbAt wbPlace; rw [h1]; simp [hi]
    have hk : l[i].line = k := by simpa using h2
    rw [lv_eq, lv_eq]
    unfold wbPlace
    rw [h1, h0, List.map_set, Int.toNat_natCast]
    have := set_mset (l := l.map fun e => (e.line, e.live)) (k := k) (x := false) (i := i) (by simpa using hi) (by simpa using hk) (fun j hj hji => by
      have := h3 j (by simpa using hj) hji
      simpa using this)
    simp only [hk]
    rw [this, mget_mset]; split <;> rfl
  · rename_i h
    split
    · rename_i e; subst e; simpa [lv] using h
    · rfl
theorem md_drop {β : Type} (f : WbE → β) (l : List WbE) (k : Int) : mdel (l.map fun e => (e.line, f e)) k = (wbDropL l k).map fun e => (e.line, f e) := by
  unfold mdel wbDropL wbIn wbPlace indexBy
  rw [List.eraseP_map, List.eraseP_eq_eraseIdx]
  have : ((fun p : Int × β => decide (p.1 = k)) ∘ fun e : WbE => (e.line, f e)) = fun e => decide (e.line = k) := by funext e; rfl
  rw [this]
  cases l.findIdx? fun e => decide (e.line = k) with
  | none => rfl
  | some i => simp
theorem lv_drop {l : List WbE} (hn : (mkeys (mwL l)).Nodup) (k j : Int) : lv (wbDropL l k) j = if j = k then false else lv l j := by
  rw [lv_eq, lv_eq, ← md_drop (fun e => e.live), mget_mdel (by have e : mkeys (l.map fun e => (e.line, e.live)) = mkeys (mwL l) := by { simp only [mkeys, mwL, List.map_map]; rfl }; rw [e]; exact hn)]
  split <;> rfl

theorem law11_WritebackOnce {W : World} {F : List HP} {room : Int} (hr : I64 room) {v : Value} {ops : List WOp} (hw : ∀ o ∈ ops, o.wf) (hl : ops.length ≤ 9223372036854775807) (k : ROld W 10 v ops.length (flat woc ops)) :
    FnF Try.prog 7 [.int .i64 room, v] [Old W] F (fun r L' => r = .bool true ∧ L' = [Old W]) := by
  unfold I64 at hr
  refine FnF.mk' Try.func7 rfl rfl Try.ntmps7 rfl ?_
  by_cases hm : 60 < ops.length
  · repeat (first | rintro _ _ ⟨rfl, rfl⟩ | rintro _ _ ⟨_, rfl, rfl⟩ | rintro _ _ ⟨_, _, rfl, rfl⟩ | intro _ | refine go ?_ | (refine is_draw ?_; apply WC_mix (id := 25) true _ (pl := .p 0 <| .p 1 <| .p 3 <| .p 4 <| .p 6 <| .r 2 <| .r 7 <| .e true [(5, .e true [(8, .e false [(9, .done)])]), (8, .e false [(5, .e false [(9, .done)])])]); exact mixed; kernel_rfl; kernel_rfl; exact Ent.refl) | (refine is_draw ?_; refine WC_draw mixed (by kernel_rfl) ?_) | refine cal @law11_awake ?_)
    (apply WE_ret rfl rfl (by (repeat (first | exact ResOk.nil | (apply ResOk.tmp; rfl) | (apply resOk_cell; rfl; exact inferInstance; rfl; rfl)))); (first | exact ⟨rfl, rfl⟩ | exact ⟨congrArg Value.bool (by decide), rfl⟩ | exact ⟨_, rfl, rfl⟩ | exact ⟨_, _, rfl, rfl⟩ | exact ⟨by first | (simp []; done) | (simp [] <;> omega), rfl⟩); (repeat (first | exact Ent.refl | exact Ent.nil | apply Ent.pick | apply Ent.drop)))
  · by_cases h1 : 1 ≤ room ∧ room ≤ 8
    · repeat (first | rintro _ _ ⟨rfl, rfl⟩ | rintro _ _ ⟨_, rfl, rfl⟩ | rintro _ _ ⟨_, _, rfl, rfl⟩ | intro _ | refine go ?_ | (refine is_draw ?_; apply WC_mix (id := 25) true _ (pl := .p 0 <| .p 1 <| .p 3 <| .p 4 <| .p 6 <| .r 2 <| .r 7 <| .e true [(5, .e true [(8, .e false [(9, .done)])]), (8, .e false [(5, .e false [(9, .done)])])]); exact mixed; kernel_rfl; kernel_rfl; exact Ent.refl) | (refine is_draw ?_; refine WC_draw mixed (by kernel_rfl) ?_) | refine cal @law11_awake ?_ | refine cal @wb_New ?_)
      rename_i b bm bl
      apply WC_loopE (E0 := [(0, _), (5, _), (7, _), (8, _), (30, _), (31, _)]) (fun E0 (q : Nat × List WbE × List (Int × Bool)) => (32, .int .i64 q.1) :: E0)
        (fun q => Wb b room q.2.1 :: MapAt bm wv (mwL q.2.1) :: MapAt bl blv q.2.2 :: Old W :: F) (fun q => q.1 ≤ ops.length ∧ ∀ k, (mget q.2.2 k).getD false = lv q.2.1 k) (fun q => ops.length - q.1) (0, [], [])
      · (repeat (first | exact Sub.nil | (refine Sub.cons (by first | rfl | (simp only [Nat.zero_add]; rfl)) ?_)))
      · exact ⟨Nat.zero_le _, fun k => rfl⟩
      · dsimp only; rw [show mwL [] = [] from rfl]; (repeat (first | (with_reducible exact Ent.refl) | exact Ent.nil | (apply ent_pickE; (focus ((repeat (first | (with_reducible exact pk_here) | (apply pk_there))); done))) | apply Ent.drop))
      · rintro ⟨i, m, ml⟩ ⟨hi, hc⟩
        dsimp only at hi hc ⊢
        by_cases hlt : i < ops.length
        · have hD := fun F => law11_do (F := F) (b := b) (room := room) (l := m) (x := ops[i])
          repeat (first | rintro _ _ ⟨rfl, rfl⟩ | rintro _ _ ⟨_, rfl, rfl⟩ | rintro _ _ ⟨_, _, rfl, rfl⟩ | intro _ | refine go ?_ | (refine is_draw ?_; apply WC_mix (id := 25) true _ (pl := .p 0 <| .p 1 <| .p 3 <| .p 4 <| .p 6 <| .r 2 <| .r 7 <| .e true [(5, .e true [(8, .e false [(9, .done)])]), (8, .e false [(5, .e false [(9, .done)])])]); exact mixed; kernel_rfl; kernel_rfl; exact Ent.refl) | (refine is_draw ?_; refine WC_draw mixed (by kernel_rfl) ?_))
          (first | refine WO_front (MapAt bl blv ml) ?_ | refine WC_front (MapAt bl blv ml) ?_ | refine WE_front (MapAt bl blv ml) ?_)
          refine WO_mapnd fun hnl => ?_
          (first | refine WO_front (MapAt bm wv (mwL m)) ?_ | refine WC_front (MapAt bm wv (mwL m)) ?_ | refine WE_front (MapAt bm wv (mwL m)) ?_)
          refine WO_mapnd fun hnw => ?_
          have hcl := hc ops[i].line
          by_cases g0 : ops[i].d = 0
          · simp only [wbDoL, wbDoW, wbDoE, if_pos g0] at hD
            cases e : wbIn m ops[i].line with
            | true =>
              have hg := mw_in e
              simp only [hg, Option.isSome_some, Option.getD_some, Option.isSome_none, Option.getD_none, mwL_len]
              have hP : wbPutL room m ops[i].line ops[i].words = m := by simp [wbPutL, e]
              simp only [wbPutE, e, hP, if_true] at hD
              repeat (first | rintro _ _ ⟨rfl, rfl⟩ | rintro _ _ ⟨_, rfl, rfl⟩ | rintro _ _ ⟨_, _, rfl, rfl⟩ | intro _ | refine go ?_ | (refine is_draw ?_; apply WC_mix (id := 25) true _ (pl := .p 0 <| .p 1 <| .p 3 <| .p 4 <| .p 6 <| .r 2 <| .r 7 <| .e true [(5, .e true [(8, .e false [(9, .done)])]), (8, .e false [(5, .e false [(9, .done)])])]); exact mixed; kernel_rfl; kernel_rfl; exact Ent.refl) | (refine is_draw ?_; refine WC_draw mixed (by kernel_rfl) ?_) | refine cal @hD ?_)
              refine WE_loop (i + 1, m, ml) (by dsimp only; omega) ⟨by dsimp only; omega, hc⟩ ?_ ?_
              · (repeat (first | exact Sub.nil | (refine Sub.cons (by first | rfl | (simp only [Nat.zero_add]; rfl)) ?_)))
              · dsimp only; (repeat (first | (with_reducible exact Ent.refl) | exact Ent.nil | (apply ent_pickE; (focus ((repeat (first | (with_reducible exact pk_here) | (apply pk_there))); done))) | apply Ent.drop))
            | false =>
              have hg := mw_out e
              simp only [hg, Option.isSome_some, Option.getD_some, Option.isSome_none, Option.getD_none, mwL_len]
              by_cases hf : (m.length : Int) = room
              · have hP : wbPutL room m ops[i].line ops[i].words = m := by simp [wbPutL, e, hf]
                simp only [wbPutE, e, hf, hP, if_true, if_false, Bool.false_eq_true] at hD
                repeat (first | rintro _ _ ⟨rfl, rfl⟩ | rintro _ _ ⟨_, rfl, rfl⟩ | rintro _ _ ⟨_, _, rfl, rfl⟩ | intro _ | refine go ?_ | (refine is_draw ?_; apply WC_mix (id := 25) true _ (pl := .p 0 <| .p 1 <| .p 3 <| .p 4 <| .p 6 <| .r 2 <| .r 7 <| .e true [(5, .e true [(8, .e false [(9, .done)])]), (8, .e false [(5, .e false [(9, .done)])])]); exact mixed; kernel_rfl; kernel_rfl; exact Ent.refl) | (refine is_draw ?_; refine WC_draw mixed (by kernel_rfl) ?_) | refine cal @hD ?_)
                refine WE_loop (i + 1, m, ml) (by dsimp only; omega) ⟨by dsimp only; omega, hc⟩ ?_ ?_
                · (repeat (first | exact Sub.nil | (refine Sub.cons (by first | rfl | (simp only [Nat.zero_add]; rfl)) ?_)))
                · dsimp only; (repeat (first | (with_reducible exact Ent.refl) | exact Ent.nil | (apply ent_pickE; (focus ((repeat (first | (with_reducible exact pk_here) | (apply pk_there))); done))) | apply Ent.drop))
              · have hP : wbPutL room m ops[i].line ops[i].words = m ++ [⟨ops[i].line, ops[i].words, true⟩] := by simp [wbPutL, e, hf]
                simp only [wbPutE, e, hf, hP, if_true, if_false, Bool.false_eq_true] at hD
                repeat' (first | rintro _ _ ⟨rfl, rfl⟩ | rintro _ _ ⟨_, rfl, rfl⟩ | rintro _ _ ⟨_, _, rfl, rfl⟩ | intro _ | refine go ?_ | (refine is_draw ?_; apply WC_mix (id := 25) true _ (pl := .p 0 <| .p 1 <| .p 3 <| .p 4 <| .p 6 <| .r 2 <| .r 7 <| .e true [(5, .e true [(8, .e false [(9, .done)])]), (8, .e false [(5, .e false [(9, .done)])])]); exact mixed; kernel_rfl; kernel_rfl; exact Ent.refl) | (refine is_draw ?_; refine WC_draw mixed (by kernel_rfl) ?_) | refine cal @hD ?_ | refine spl ?_ ?_ | fail)
                all_goals (refine WE_loop (i + 1, m ++ [⟨ops[i].line, ops[i].words, true⟩], mset ml ops[i].line true) (by dsimp only; omega) ⟨by dsimp only; omega, fun k => ?_⟩ ?_ ?_)
                all_goals first
                  | (dsimp only; rw [lv_put e, mget_mset, ← hc]; split <;> rfl)
                  | (dsimp only; rw [← mw_put e]; (repeat (first | (with_reducible exact Ent.refl) | exact Ent.nil | (apply ent_pickE; (focus ((repeat (first | (with_reducible exact pk_here) | (apply pk_there))); done))) | apply Ent.drop)))
                  | ((repeat (first | exact Sub.nil | (refine Sub.cons (by first | rfl | (simp only [Nat.zero_add]; rfl)) ?_))))
          · have hT : wbTellE m ops[i].line = if lv m ops[i].line then 0 else if wbIn m ops[i].line then 7 else 5 := by
              unfold wbTellE lv
              cases wbIn m ops[i].line <;> cases (wbAt m ops[i].line).live <;> rfl
            by_cases g1 : ops[i].d = 1
            · simp only [wbDoL, wbDoW, wbDoE, if_neg g0, if_pos g1, hT] at hD
              cases hlv : lv m ops[i].line with
              | true =>
                have e : wbIn m ops[i].line = true := (Bool.and_eq_true_iff.1 hlv).1
                have hW : wbTellW m ops[i].line = (wbAt m ops[i].line).words := by unfold wbTellW; unfold lv at hlv; rw [hlv]; rfl
                have hg := mw_in e
                have hne : ¬ (wc (wbAt m ops[i].line).words ≠ wc ((mget (mwL m) ops[i].line).getD Words.zero)) := by rw [hg]; exact fun h => h rfl
                rw [hlv] at hcl
                simp only [hlv, hW, if_true] at hD
                simp only [hg, Option.isSome_some, Option.getD_some, mwL_len]
                repeat (first | rintro _ _ ⟨rfl, rfl⟩ | rintro _ _ ⟨_, rfl, rfl⟩ | rintro _ _ ⟨_, _, rfl, rfl⟩ | intro _ | refine go ?_ | (refine is_draw ?_; apply WC_mix (id := 25) true _ (pl := .p 0 <| .p 1 <| .p 3 <| .p 4 <| .p 6 <| .r 2 <| .r 7 <| .e true [(5, .e true [(8, .e false [(9, .done)])]), (8, .e false [(5, .e false [(9, .done)])])]); exact mixed; kernel_rfl; kernel_rfl; exact Ent.refl) | (refine is_draw ?_; refine WC_draw mixed (by kernel_rfl) ?_) | refine cal @hD ?_)
                simp only [hcl]
                repeat (first | rintro _ _ ⟨rfl, rfl⟩ | rintro _ _ ⟨_, rfl, rfl⟩ | rintro _ _ ⟨_, _, rfl, rfl⟩ | intro _ | refine go ?_ | (refine is_draw ?_; apply WC_mix (id := 25) true _ (pl := .p 0 <| .p 1 <| .p 3 <| .p 4 <| .p 6 <| .r 2 <| .r 7 <| .e true [(5, .e true [(8, .e false [(9, .done)])]), (8, .e false [(5, .e false [(9, .done)])])]); exact mixed; kernel_rfl; kernel_rfl; exact Ent.refl) | (refine is_draw ?_; refine WC_draw mixed (by kernel_rfl) ?_))
                refine WE_loop (i + 1, m, ml) (by dsimp only; omega) ⟨by dsimp only; omega, hc⟩ ?_ ?_
                · (repeat (first | exact Sub.nil | (refine Sub.cons (by first | rfl | (simp only [Nat.zero_add]; rfl)) ?_)))
                · dsimp only; (repeat (first | (with_reducible exact Ent.refl) | exact Ent.nil | (apply ent_pickE; (focus ((repeat (first | (with_reducible exact pk_here) | (apply pk_there))); done))) | apply Ent.drop))
              | false =>
                rw [hlv] at hcl
                simp only [hlv, Bool.false_eq_true, if_false] at hD
                cases e : wbIn m ops[i].line with
                | true =>
                  simp only [e, if_true] at hD
                  repeat (first | rintro _ _ ⟨rfl, rfl⟩ | rintro _ _ ⟨_, rfl, rfl⟩ | rintro _ _ ⟨_, _, rfl, rfl⟩ | intro _ | refine go ?_ | (refine is_draw ?_; apply WC_mix (id := 25) true _ (pl := .p 0 <| .p 1 <| .p 3 <| .p 4 <| .p 6 <| .r 2 <| .r 7 <| .e true [(5, .e true [(8, .e false [(9, .done)])]), (8, .e false [(5, .e false [(9, .done)])])]); exact mixed; kernel_rfl; kernel_rfl; exact Ent.refl) | (refine is_draw ?_; refine WC_draw mixed (by kernel_rfl) ?_) | refine cal @hD ?_)
                  simp only [hcl]
                  repeat (first | rintro _ _ ⟨rfl, rfl⟩ | rintro _ _ ⟨_, rfl, rfl⟩ | rintro _ _ ⟨_, _, rfl, rfl⟩ | intro _ | refine go ?_ | (refine is_draw ?_; apply WC_mix (id := 25) true _ (pl := .p 0 <| .p 1 <| .p 3 <| .p 4 <| .p 6 <| .r 2 <| .r 7 <| .e true [(5, .e true [(8, .e false [(9, .done)])]), (8, .e false [(5, .e false [(9, .done)])])]); exact mixed; kernel_rfl; kernel_rfl; exact Ent.refl) | (refine is_draw ?_; refine WC_draw mixed (by kernel_rfl) ?_))
                  refine WE_loop (i + 1, m, ml) (by dsimp only; omega) ⟨by dsimp only; omega, hc⟩ ?_ ?_
                  · (repeat (first | exact Sub.nil | (refine Sub.cons (by first | rfl | (simp only [Nat.zero_add]; rfl)) ?_)))
                  · dsimp only; (repeat (first | (with_reducible exact Ent.refl) | exact Ent.nil | (apply ent_pickE; (focus ((repeat (first | (with_reducible exact pk_here) | (apply pk_there))); done))) | apply Ent.drop))
                | false =>
                  simp only [e, if_false, Bool.false_eq_true] at hD
                  repeat (first | rintro _ _ ⟨rfl, rfl⟩ | rintro _ _ ⟨_, rfl, rfl⟩ | rintro _ _ ⟨_, _, rfl, rfl⟩ | intro _ | refine go ?_ | (refine is_draw ?_; apply WC_mix (id := 25) true _ (pl := .p 0 <| .p 1 <| .p 3 <| .p 4 <| .p 6 <| .r 2 <| .r 7 <| .e true [(5, .e true [(8, .e false [(9, .done)])]), (8, .e false [(5, .e false [(9, .done)])])]); exact mixed; kernel_rfl; kernel_rfl; exact Ent.refl) | (refine is_draw ?_; refine WC_draw mixed (by kernel_rfl) ?_) | refine cal @hD ?_)
                  simp only [hcl]
                  repeat (first | rintro _ _ ⟨rfl, rfl⟩ | rintro _ _ ⟨_, rfl, rfl⟩ | rintro _ _ ⟨_, _, rfl, rfl⟩ | intro _ | refine go ?_ | (refine is_draw ?_; apply WC_mix (id := 25) true _ (pl := .p 0 <| .p 1 <| .p 3 <| .p 4 <| .p 6 <| .r 2 <| .r 7 <| .e true [(5, .e true [(8, .e false [(9, .done)])]), (8, .e false [(5, .e false [(9, .done)])])]); exact mixed; kernel_rfl; kernel_rfl; exact Ent.refl) | (refine is_draw ?_; refine WC_draw mixed (by kernel_rfl) ?_))
                  refine WE_loop (i + 1, m, ml) (by dsimp only; omega) ⟨by dsimp only; omega, hc⟩ ?_ ?_
                  · (repeat (first | exact Sub.nil | (refine Sub.cons (by first | rfl | (simp only [Nat.zero_add]; rfl)) ?_)))
                  · dsimp only; (repeat (first | (with_reducible exact Ent.refl) | exact Ent.nil | (apply ent_pickE; (focus ((repeat (first | (with_reducible exact pk_here) | (apply pk_there))); done))) | apply Ent.drop))
            · by_cases g2 : ops[i].d = 2
              · simp only [wbDoL, wbDoW, wbDoE, if_neg g0, if_neg g1, if_pos g2, hT] at hD
                have hI : ∀ k, (mget (mset ml ops[i].line false) k).getD false = lv (wbGiveL m ops[i].line) k := fun k => by rw [lv_give, mget_mset, ← hc]; split <;> rfl
                cases hlv : lv m ops[i].line with
                | true =>
                  have e : wbIn m ops[i].line = true := (Bool.and_eq_true_iff.1 hlv).1
                  have hW : wbTellW m ops[i].line = (wbAt m ops[i].line).words := by unfold wbTellW; unfold lv at hlv; rw [hlv]; rfl
                  have hg := mw_in e
                  have hne : ¬ (wc (wbAt m ops[i].line).words ≠ wc ((mget (mwL m) ops[i].line).getD Words.zero)) := by rw [hg]; exact fun h => h rfl
                  rw [hlv] at hcl
                  simp only [hlv, hW, if_true] at hD
                  simp only [hg, Option.isSome_some, Option.getD_some, mwL_len]
                  repeat (first | rintro _ _ ⟨rfl, rfl⟩ | rintro _ _ ⟨_, rfl, rfl⟩ | rintro _ _ ⟨_, _, rfl, rfl⟩ | intro _ | refine go ?_ | (refine is_draw ?_; apply WC_mix (id := 25) true _ (pl := .p 0 <| .p 1 <| .p 3 <| .p 4 <| .p 6 <| .r 2 <| .r 7 <| .e true [(5, .e true [(8, .e false [(9, .done)])]), (8, .e false [(5, .e false [(9, .done)])])]); exact mixed; kernel_rfl; kernel_rfl; exact Ent.refl) | (refine is_draw ?_; refine WC_draw mixed (by kernel_rfl) ?_) | refine cal @hD ?_)
                  simp only [hcl]
                  repeat (first | rintro _ _ ⟨rfl, rfl⟩ | rintro _ _ ⟨_, rfl, rfl⟩ | rintro _ _ ⟨_, _, rfl, rfl⟩ | intro _ | refine go ?_ | (refine is_draw ?_; apply WC_mix (id := 25) true _ (pl := .p 0 <| .p 1 <| .p 3 <| .p 4 <| .p 6 <| .r 2 <| .r 7 <| .e true [(5, .e true [(8, .e false [(9, .done)])]), (8, .e false [(5, .e false [(9, .done)])])]); exact mixed; kernel_rfl; kernel_rfl; exact Ent.refl) | (refine is_draw ?_; refine WC_draw mixed (by kernel_rfl) ?_))
                  refine WE_loop (i + 1, wbGiveL m ops[i].line, mset ml ops[i].line false) (by dsimp only; omega) ⟨by dsimp only; omega, hI⟩ ?_ ?_
                  · (repeat (first | exact Sub.nil | (refine Sub.cons (by first | rfl | (simp only [Nat.zero_add]; rfl)) ?_)))
                  · dsimp only; rw [mw_give]; (repeat (first | (with_reducible exact Ent.refl) | exact Ent.nil | (apply ent_pickE; (focus ((repeat (first | (with_reducible exact pk_here) | (apply pk_there))); done))) | apply Ent.drop))
                | false =>
                  rw [hlv] at hcl
                  simp only [hlv, Bool.false_eq_true, if_false] at hD
                  cases e : wbIn m ops[i].line with
                  | true =>
                    simp only [e, if_true] at hD
                    repeat (first | rintro _ _ ⟨rfl, rfl⟩ | rintro _ _ ⟨_, rfl, rfl⟩ | rintro _ _ ⟨_, _, rfl, rfl⟩ | intro _ | refine go ?_ | (refine is_draw ?_; apply WC_mix (id := 25) true _ (pl := .p 0 <| .p 1 <| .p 3 <| .p 4 <| .p 6 <| .r 2 <| .r 7 <| .e true [(5, .e true [(8, .e false [(9, .done)])]), (8, .e false [(5, .e false [(9, .done)])])]); exact mixed; kernel_rfl; kernel_rfl; exact Ent.refl) | (refine is_draw ?_; refine WC_draw mixed (by kernel_rfl) ?_) | refine cal @hD ?_)
                    simp only [hcl]
                    repeat (first | rintro _ _ ⟨rfl, rfl⟩ | rintro _ _ ⟨_, rfl, rfl⟩ | rintro _ _ ⟨_, _, rfl, rfl⟩ | intro _ | refine go ?_ | (refine is_draw ?_; apply WC_mix (id := 25) true _ (pl := .p 0 <| .p 1 <| .p 3 <| .p 4 <| .p 6 <| .r 2 <| .r 7 <| .e true [(5, .e true [(8, .e false [(9, .done)])]), (8, .e false [(5, .e false [(9, .done)])])]); exact mixed; kernel_rfl; kernel_rfl; exact Ent.refl) | (refine is_draw ?_; refine WC_draw mixed (by kernel_rfl) ?_))
                    refine WE_loop (i + 1, wbGiveL m ops[i].line, mset ml ops[i].line false) (by dsimp only; omega) ⟨by dsimp only; omega, hI⟩ ?_ ?_
                    · (repeat (first | exact Sub.nil | (refine Sub.cons (by first | rfl | (simp only [Nat.zero_add]; rfl)) ?_)))
                    · dsimp only; rw [mw_give]; (repeat (first | (with_reducible exact Ent.refl) | exact Ent.nil | (apply ent_pickE; (focus ((repeat (first | (with_reducible exact pk_here) | (apply pk_there))); done))) | apply Ent.drop))
                  | false =>
                    simp only [e, if_false, Bool.false_eq_true] at hD
                    repeat (first | rintro _ _ ⟨rfl, rfl⟩ | rintro _ _ ⟨_, rfl, rfl⟩ | rintro _ _ ⟨_, _, rfl, rfl⟩ | intro _ | refine go ?_ | (refine is_draw ?_; apply WC_mix (id := 25) true _ (pl := .p 0 <| .p 1 <| .p 3 <| .p 4 <| .p 6 <| .r 2 <| .r 7 <| .e true [(5, .e true [(8, .e false [(9, .done)])]), (8, .e false [(5, .e false [(9, .done)])])]); exact mixed; kernel_rfl; kernel_rfl; exact Ent.refl) | (refine is_draw ?_; refine WC_draw mixed (by kernel_rfl) ?_) | refine cal @hD ?_)
                    simp only [hcl]
                    repeat (first | rintro _ _ ⟨rfl, rfl⟩ | rintro _ _ ⟨_, rfl, rfl⟩ | rintro _ _ ⟨_, _, rfl, rfl⟩ | intro _ | refine go ?_ | (refine is_draw ?_; apply WC_mix (id := 25) true _ (pl := .p 0 <| .p 1 <| .p 3 <| .p 4 <| .p 6 <| .r 2 <| .r 7 <| .e true [(5, .e true [(8, .e false [(9, .done)])]), (8, .e false [(5, .e false [(9, .done)])])]); exact mixed; kernel_rfl; kernel_rfl; exact Ent.refl) | (refine is_draw ?_; refine WC_draw mixed (by kernel_rfl) ?_))
                    refine WE_loop (i + 1, wbGiveL m ops[i].line, mset ml ops[i].line false) (by dsimp only; omega) ⟨by dsimp only; omega, hI⟩ ?_ ?_
                    · (repeat (first | exact Sub.nil | (refine Sub.cons (by first | rfl | (simp only [Nat.zero_add]; rfl)) ?_)))
                    · dsimp only; rw [mw_give]; (repeat (first | (with_reducible exact Ent.refl) | exact Ent.nil | (apply ent_pickE; (focus ((repeat (first | (with_reducible exact pk_here) | (apply pk_there))); done))) | apply Ent.drop))
              · simp only [wbDoL, wbDoW, wbDoE, if_neg g0, if_neg g1, if_neg g2, wbDropE] at hD
                have hI : ∀ k, (mget (mdel ml ops[i].line) k).getD false = lv (wbDropL m ops[i].line) k := fun k => by rw [lv_drop hnw, mget_mdel hnl, ← hc]; split <;> rfl
                have hM := md_drop (fun e => e.words) m ops[i].line
                cases e : wbIn m ops[i].line with
                | true =>
                  have hg := mw_in e
                  simp only [hg, Option.isSome_some, Option.getD_some, mwL_len]
                  simp only [e, if_true] at hD
                  repeat (first | rintro _ _ ⟨rfl, rfl⟩ | rintro _ _ ⟨_, rfl, rfl⟩ | rintro _ _ ⟨_, _, rfl, rfl⟩ | intro _ | refine go ?_ | (refine is_draw ?_; apply WC_mix (id := 25) true _ (pl := .p 0 <| .p 1 <| .p 3 <| .p 4 <| .p 6 <| .r 2 <| .r 7 <| .e true [(5, .e true [(8, .e false [(9, .done)])]), (8, .e false [(5, .e false [(9, .done)])])]); exact mixed; kernel_rfl; kernel_rfl; exact Ent.refl) | (refine is_draw ?_; refine WC_draw mixed (by kernel_rfl) ?_) | refine cal @hD ?_)
                  refine WE_loop (i + 1, wbDropL m ops[i].line, mdel ml ops[i].line) (by dsimp only; omega) ⟨by dsimp only; omega, hI⟩ ?_ ?_
                  · (repeat (first | exact Sub.nil | (refine Sub.cons (by first | rfl | (simp only [Nat.zero_add]; rfl)) ?_)))
                  · dsimp only; unfold mwL; rw [← hM]; (repeat (first | (with_reducible exact Ent.refl) | exact Ent.nil | (apply ent_pickE; (focus ((repeat (first | (with_reducible exact pk_here) | (apply pk_there))); done))) | apply Ent.drop))
                | false =>
                  have hg := mw_out e
                  simp only [hg, Option.isSome_none, Option.getD_none, mwL_len]
                  simp only [e, if_false, Bool.false_eq_true] at hD
                  repeat (first | rintro _ _ ⟨rfl, rfl⟩ | rintro _ _ ⟨_, rfl, rfl⟩ | rintro _ _ ⟨_, _, rfl, rfl⟩ | intro _ | refine go ?_ | (refine is_draw ?_; apply WC_mix (id := 25) true _ (pl := .p 0 <| .p 1 <| .p 3 <| .p 4 <| .p 6 <| .r 2 <| .r 7 <| .e true [(5, .e true [(8, .e false [(9, .done)])]), (8, .e false [(5, .e false [(9, .done)])])]); exact mixed; kernel_rfl; kernel_rfl; exact Ent.refl) | (refine is_draw ?_; refine WC_draw mixed (by kernel_rfl) ?_) | refine cal @hD ?_)
                  refine WE_loop (i + 1, wbDropL m ops[i].line, mdel ml ops[i].line) (by dsimp only; omega) ⟨by dsimp only; omega, hI⟩ ?_ ?_
                  · (repeat (first | exact Sub.nil | (refine Sub.cons (by first | rfl | (simp only [Nat.zero_add]; rfl)) ?_)))
                  · dsimp only; unfold mwL; rw [← hM]; (repeat (first | (with_reducible exact Ent.refl) | exact Ent.nil | (apply ent_pickE; (focus ((repeat (first | (with_reducible exact pk_here) | (apply pk_there))); done))) | apply Ent.drop))
        · repeat (first | rintro _ _ ⟨rfl, rfl⟩ | rintro _ _ ⟨_, rfl, rfl⟩ | rintro _ _ ⟨_, _, rfl, rfl⟩ | intro _ | refine go ?_ | (refine is_draw ?_; apply WC_mix (id := 25) true _ (pl := .p 0 <| .p 1 <| .p 3 <| .p 4 <| .p 6 <| .r 2 <| .r 7 <| .e true [(5, .e true [(8, .e false [(9, .done)])]), (8, .e false [(5, .e false [(9, .done)])])]); exact mixed; kernel_rfl; kernel_rfl; exact Ent.refl) | (refine is_draw ?_; refine WC_draw mixed (by kernel_rfl) ?_) | refine cal @wb_List ?_)
          (apply WE_ret rfl rfl (by (repeat (first | exact ResOk.nil | (apply ResOk.tmp; rfl) | (apply resOk_cell; rfl; exact inferInstance; rfl; rfl)))); (first | exact ⟨rfl, rfl⟩ | exact ⟨congrArg Value.bool (by decide), rfl⟩ | exact ⟨_, rfl, rfl⟩ | exact ⟨_, _, rfl, rfl⟩ | exact ⟨by first | (simp []; done) | (simp [] <;> omega), rfl⟩); (repeat (first | exact Ent.refl | exact Ent.nil | apply Ent.pick | apply Ent.drop)))
    · repeat (first | rintro _ _ ⟨rfl, rfl⟩ | rintro _ _ ⟨_, rfl, rfl⟩ | rintro _ _ ⟨_, _, rfl, rfl⟩ | intro _ | refine go ?_ | (refine is_draw ?_; apply WC_mix (id := 25) true _ (pl := .p 0 <| .p 1 <| .p 3 <| .p 4 <| .p 6 <| .r 2 <| .r 7 <| .e true [(5, .e true [(8, .e false [(9, .done)])]), (8, .e false [(5, .e false [(9, .done)])])]); exact mixed; kernel_rfl; kernel_rfl; exact Ent.refl) | (refine is_draw ?_; refine WC_draw mixed (by kernel_rfl) ?_) | refine cal @law11_awake ?_ | refine cal @wb_New_no ?_)
      (apply WE_ret rfl rfl (by (repeat (first | exact ResOk.nil | (apply ResOk.tmp; rfl) | (apply resOk_cell; rfl; exact inferInstance; rfl; rfl)))); (first | exact ⟨rfl, rfl⟩ | exact ⟨congrArg Value.bool (by decide), rfl⟩ | exact ⟨_, rfl, rfl⟩ | exact ⟨_, _, rfl, rfl⟩ | exact ⟨by first | (simp []; done) | (simp [] <;> omega), rfl⟩); (repeat (first | exact Ent.refl | exact Ent.nil | apply Ent.pick | apply Ent.drop)))
end Go.Sx
