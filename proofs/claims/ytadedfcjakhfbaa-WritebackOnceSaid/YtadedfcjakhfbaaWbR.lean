/- What the document's write-back buffer does. My own work. -/
import Derived.Test.YtadedfcjakhfbaaWb
namespace Go.Sx
open Go Go.Proofs
set_option linter.unusedVariables false
set_option linter.unusedSectionVars false
set_option maxRecDepth 100000
set_option maxHeartbeats 4000000
attribute [local irreducible] Go.Exit.then Go.Exit.inBlock Go.Code.wp WC WO WE WQ V LoopQ FnQ Sat Star band bor IntKind.wrap WR Code.rounds WT KO
abbrev RWb (b : Nat) (room : Int) (l : List WbE) : HP := RL 77 79 10 bc b room l

theorem ref11_New {F : List HP} {room : Int} (h : 1 ≤ room ∧ room ≤ 8) : FnF Try.prog 35 [.int .i64 room] [] F (fun r L' => ∃ b, r = .tuple [.pointer (some ⟨b, 0, none⟩), .int .i64 0].toArray ∧ L' = [RWb b room []]) := by
  refine FnF.mk' Try.func35 rfl rfl Try.ntmps35 rfl ?_
  repeat (first | rintro _ _ ⟨rfl, rfl⟩ | rintro _ _ ⟨_, rfl, rfl⟩ | rintro _ _ ⟨_, _, rfl, rfl⟩ | intro _ | refine go ?_ | (refine is_draw ?_; refine WC_draw mixed (by kernel_rfl) ?_))
  (apply WE_ret rfl rfl (by (repeat (first | exact ResOk.nil | (apply ResOk.tmp; rfl) | (apply resOk_cell; rfl; exact inferInstance; rfl; rfl)))))
  · exact ⟨_, rfl, rfl⟩
  · exact RL_in (l := []) (Ent.cons (own_empty Ent.refl)) rfl rfl (by simp; omega)
theorem ref11_New_no {F : List HP} {room : Int} (h : ¬ (1 ≤ room ∧ room ≤ 8)) : FnF Try.prog 35 [.int .i64 room] [] F (fun r L' => r = .tuple [.pointer none, .int .i64 1].toArray ∧ L' = []) := by
  refine FnF.mk' Try.func35 rfl rfl Try.ntmps35 rfl ?_
  repeat' (first | rintro _ _ ⟨rfl, rfl⟩ | rintro _ _ ⟨_, rfl, rfl⟩ | rintro _ _ ⟨_, _, rfl, rfl⟩ | intro _ | refine go ?_ | (refine is_draw ?_; refine WC_draw mixed (by kernel_rfl) ?_) | refine spl ?_ ?_ | fail)
  all_goals first | omega | (apply WE_ret rfl rfl (by (repeat (first | exact ResOk.nil | (apply ResOk.tmp; rfl) | (apply resOk_cell; rfl; exact inferInstance; rfl; rfl)))); (first | exact ⟨rfl, rfl⟩ | exact ⟨congrArg Value.bool (by decide), rfl⟩ | exact ⟨_, rfl, rfl⟩ | exact ⟨_, _, rfl, rfl⟩ | exact ⟨by first | (simp []; done) | (simp [] <;> omega), rfl⟩); (repeat (first | exact Ent.refl | exact Ent.nil | apply Ent.pick | apply Ent.drop)))

theorem ref11_PlaceO {F : List HP} {b : Nat} {room : Int} {l : List WbE} {line : Int} {p : Option Addr} {c : Nat} (hl : (l.length : Int) ≤ room ∧ room ≤ 4096) :
    FnF Try.prog 44 [.pointer (some ⟨b, 0, none⟩), .int .i64 line] [Cells b 77 [.int .i64 room, .slice p l.length c], Own 79 10 (.slice p l.length c) l.length (flat bc l)] F
      (fun r L' => r = .int .i64 (wbPlace l line) ∧ L' = [Cells b 77 [.int .i64 room, .slice p l.length c], Own 79 10 (.slice p l.length c) l.length (flat bc l)]) := by
  refine FnF.mk' Try.func44 rfl rfl Try.ntmps44 rfl ?_
  repeat (first | rintro _ _ ⟨rfl, rfl⟩ | rintro _ _ ⟨_, rfl, rfl⟩ | rintro _ _ ⟨_, _, rfl, rfl⟩ | intro _ | refine go ?_ | (refine is_draw ?_; refine WC_draw mixed (by kernel_rfl) ?_))
  apply WC_loopE (E0 := [(0, _), (1, _)]) (fun E0 (i : Nat) => (5, .int .i64 i) :: E0) (fun _ => Cells b 77 [.int .i64 room, .slice p l.length c] :: Own 79 10 (.slice p l.length c) l.length (flat bc l) :: F) (fun i => i ≤ l.length ∧ ∀ j (h : j < l.length), j < i → decide (l[j].line = line) = false) (fun i => l.length - i) 0
  · (repeat (first | exact Sub.nil | (refine Sub.cons (by first | rfl | (simp only [Nat.zero_add]; rfl)) ?_)))
  · exact ⟨Nat.zero_le _, fun j _ hj => by omega⟩
  · exact Ent.refl
  · rintro i ⟨hi, h1⟩
    by_cases hlt : i < l.length
    · by_cases he : l[i].line = line
      · repeat (first | rintro _ _ ⟨rfl, rfl⟩ | rintro _ _ ⟨_, rfl, rfl⟩ | rintro _ _ ⟨_, _, rfl, rfl⟩ | intro _ | refine go ?_ | (refine is_draw ?_; refine WC_draw mixed (by kernel_rfl) ?_))
        (apply WE_ret rfl rfl (by (repeat (first | exact ResOk.nil | (apply ResOk.tmp; rfl) | (apply resOk_cell; rfl; exact inferInstance; rfl; rfl)))))
        · exact ⟨by rw [wbPlace, indexBy_at hlt h1 (by simp [he])]; rfl, rfl⟩
        · exact Ent.refl
      · repeat (first | rintro _ _ ⟨rfl, rfl⟩ | rintro _ _ ⟨_, rfl, rfl⟩ | rintro _ _ ⟨_, _, rfl, rfl⟩ | intro _ | refine go ?_ | (refine is_draw ?_; refine WC_draw mixed (by kernel_rfl) ?_))
        refine WE_loop (i + 1) (by omega) ⟨by omega, fun j hj hji => ?_⟩ ?_ Ent.refl
        · by_cases e : j = i
          · subst e; simpa using he
          · exact h1 j hj (by omega)
        · (repeat (first | exact Sub.nil | (refine Sub.cons (by first | rfl | (simp only [Nat.zero_add]; rfl)) ?_)))
    · have e : i = l.length := by omega
      subst e
      repeat (first | rintro _ _ ⟨rfl, rfl⟩ | rintro _ _ ⟨_, rfl, rfl⟩ | rintro _ _ ⟨_, _, rfl, rfl⟩ | intro _ | refine go ?_ | (refine is_draw ?_; refine WC_draw mixed (by kernel_rfl) ?_))
      (apply WE_ret rfl rfl (by (repeat (first | exact ResOk.nil | (apply ResOk.tmp; rfl) | (apply resOk_cell; rfl; exact inferInstance; rfl; rfl)))))
      · exact ⟨by rw [wbPlace, indexBy_none h1]; rfl, rfl⟩
      · exact Ent.refl
theorem ref11_Place {F : List HP} {b : Nat} {room : Int} {l : List WbE} {line : Int} : FnF Try.prog 44 [.pointer (some ⟨b, 0, none⟩), .int .i64 line] [RWb b room l] F (fun r L' => r = .int .i64 (wbPlace l line) ∧ L' = [RWb b room l]) :=
  RL_ro (fun p c hl => ref11_PlaceO hl) (enters_of Try.func44 rfl rfl)

theorem ref11_Put {F : List HP} {b : Nat} {room : Int} {l : List WbE} {line : Int} {w : Words} : FnF Try.prog 37 [.pointer (some ⟨b, 0, none⟩), .int .i64 line, wv w] [RWb b room l] F (fun r L' => r = .int .i64 (wbPutE room l line) ∧ L' = [RWb b room (wbPutL room l line w)]) := by
  refine FnF.mk' Try.func37 rfl rfl Try.ntmps37 rfl ?_
  refine RL_open fun p c hl => ?_
  cases e : wbIn l line with
  | true =>
    have h0 : 0 ≤ wbPlace l line := of_decide_eq_true e
    repeat (first | rintro _ _ ⟨rfl, rfl⟩ | rintro _ _ ⟨_, rfl, rfl⟩ | rintro _ _ ⟨_, _, rfl, rfl⟩ | intro _ | refine go ?_ | (refine is_draw ?_; apply WC_mix (id := 5) false _ (pl := .p 0 <| .p 2 <| .p 3 <| .p 4 <| .p 7 <| .r 5 <| .r 8 <| .p 9 <| .e true [(1, .e true [(6, .e true [(10, .e true [(11, .p 12 <| .p 13 <| .e true [(14, .done)])])]), (10, .e true [(6, .e true [(11, .p 12 <| .p 13 <| .e true [(14, .done)])])])]), (10, .e true [(1, .e true [(6, .e true [(11, .p 12 <| .p 13 <| .e true [(14, .done)])])])])]); exact mixed; kernel_rfl; kernel_rfl; exact Ent.refl) | (refine is_draw ?_; refine WC_draw mixed (by kernel_rfl) ?_) | refine cal @ref11_PlaceO ?_)
    (apply WE_ret rfl rfl (by (repeat (first | exact ResOk.nil | (apply ResOk.tmp; rfl) | (apply resOk_cell; rfl; exact inferInstance; rfl; rfl)))))
    · exact ⟨by simp [wbPutE, e], rfl⟩
    · simp only [wbPutL, e, if_true]; ((repeat (first | (with_reducible exact Ent.refl) | exact Ent.nil | (apply ent_pickE; (focus ((repeat (first | (with_reducible exact pk_here) | (apply pk_there))); done))) | (apply RL_in) | apply Ent.drop)); all_goals (first | rfl | (with_reducible assumption) | (simp; done) | (simp; omega) | omega | (constructor <;> (simp) <;> omega)))
  | false =>
    have h0 := wbIn_f e
    by_cases hf : (l.length : Int) = room
    · repeat (first | rintro _ _ ⟨rfl, rfl⟩ | rintro _ _ ⟨_, rfl, rfl⟩ | rintro _ _ ⟨_, _, rfl, rfl⟩ | intro _ | refine go ?_ | (refine is_draw ?_; apply WC_mix (id := 5) false _ (pl := .p 0 <| .p 2 <| .p 3 <| .p 4 <| .p 7 <| .r 5 <| .r 8 <| .p 9 <| .e true [(1, .e true [(6, .e true [(10, .e true [(11, .p 12 <| .p 13 <| .e true [(14, .done)])])]), (10, .e true [(6, .e true [(11, .p 12 <| .p 13 <| .e true [(14, .done)])])])]), (10, .e true [(1, .e true [(6, .e true [(11, .p 12 <| .p 13 <| .e true [(14, .done)])])])])]); exact mixed; kernel_rfl; kernel_rfl; exact Ent.refl) | (refine is_draw ?_; refine WC_draw mixed (by kernel_rfl) ?_) | refine cal @ref11_PlaceO ?_)
      (apply WE_ret rfl rfl (by (repeat (first | exact ResOk.nil | (apply ResOk.tmp; rfl) | (apply resOk_cell; rfl; exact inferInstance; rfl; rfl)))))
      · exact ⟨by simp [wbPutE, e, hf], rfl⟩
      · simp only [wbPutL, e, hf, Bool.false_eq_true, if_false, if_true]; ((repeat (first | (with_reducible exact Ent.refl) | exact Ent.nil | (apply ent_pickE; (focus ((repeat (first | (with_reducible exact pk_here) | (apply pk_there))); done))) | (apply RL_in) | apply Ent.drop)); all_goals (first | rfl | (with_reducible assumption) | (simp; done) | (simp; omega) | omega | (constructor <;> (simp) <;> omega)))
    · repeat' (first | rintro _ _ ⟨rfl, rfl⟩ | rintro _ _ ⟨_, rfl, rfl⟩ | rintro _ _ ⟨_, _, rfl, rfl⟩ | intro _ | refine go ?_ | (refine is_draw ?_; apply WC_mix (id := 5) false _ (pl := .p 0 <| .p 2 <| .p 3 <| .p 4 <| .p 7 <| .r 5 <| .r 8 <| .p 9 <| .e true [(1, .e true [(6, .e true [(10, .e true [(11, .p 12 <| .p 13 <| .e true [(14, .done)])])]), (10, .e true [(6, .e true [(11, .p 12 <| .p 13 <| .e true [(14, .done)])])])]), (10, .e true [(1, .e true [(6, .e true [(11, .p 12 <| .p 13 <| .e true [(14, .done)])])])])]); exact mixed; kernel_rfl; kernel_rfl; exact Ent.refl) | (refine is_draw ?_; refine WC_draw mixed (by kernel_rfl) ?_) | refine cal @ref11_PlaceO ?_ | refine spl ?_ ?_ | fail)
      all_goals (apply WE_ret rfl rfl (by (repeat (first | exact ResOk.nil | (apply ResOk.tmp; rfl) | (apply resOk_cell; rfl; exact inferInstance; rfl; rfl)))))
      all_goals first | exact ⟨by simp [wbPutE, e, hf], rfl⟩ | (simp only [wbPutL, e, hf, Bool.false_eq_true, if_false]; ((repeat (first | (with_reducible exact Ent.refl) | exact Ent.nil | (apply ent_pickE; (focus ((repeat (first | (with_reducible exact pk_here) | (apply pk_there))); done))) | (apply RL_in) | apply Ent.drop)); all_goals (first | rfl | (with_reducible assumption) | (simp; done) | (simp; omega) | omega | (constructor <;> (simp) <;> omega))))

theorem ref11_Share {F : List HP} {b : Nat} {room : Int} {l : List WbE} {line : Int} : FnF Try.prog 38 [.pointer (some ⟨b, 0, none⟩), .int .i64 line] [RWb b room l] F (fun r L' => r = .tuple [wv (wbTellW l line), .int .i64 (wbTellE l line)].toArray ∧ L' = [RWb b room l]) := by
  refine FnF.mk' Try.func38 rfl rfl Try.ntmps38 rfl ?_
  refine RL_open fun p c hl => ?_
  cases e : wbIn l line with
  | false =>
    have h0 := wbIn_f e
    repeat (first | rintro _ _ ⟨rfl, rfl⟩ | rintro _ _ ⟨_, rfl, rfl⟩ | rintro _ _ ⟨_, _, rfl, rfl⟩ | intro _ | refine go ?_ | (refine is_draw ?_; refine WC_draw mixed (by kernel_rfl) ?_) | refine cal @ref11_PlaceO ?_)
    (apply WE_ret rfl rfl (by (repeat (first | exact ResOk.nil | (apply ResOk.tmp; rfl) | (apply resOk_cell; rfl; exact inferInstance; rfl; rfl)))))
    · exact ⟨by simp [wbTellE, wbTellW, e, Words.zero], rfl⟩
    · ((repeat (first | (with_reducible exact Ent.refl) | exact Ent.nil | (apply ent_pickE; (focus ((repeat (first | (with_reducible exact pk_here) | (apply pk_there))); done))) | (apply RL_in) | apply Ent.drop)); all_goals (first | rfl | (with_reducible assumption) | (simp; done) | (simp; omega) | omega | (constructor <;> (simp) <;> omega)))
  | true =>
    obtain ⟨i, hi, h1, h2, h3⟩ := wbIn_t e
    have hA := fun F => ref11_PlaceO (F := F) (b := b) (room := room) (l := l) (line := line) (p := p) (c := c) hl
    simp only [h1] at hA
    cases hv : l[i].live with
    | false =>
      repeat (first | rintro _ _ ⟨rfl, rfl⟩ | rintro _ _ ⟨_, rfl, rfl⟩ | rintro _ _ ⟨_, _, rfl, rfl⟩ | intro _ | refine go ?_ | (refine is_draw ?_; refine WC_draw mixed (by kernel_rfl) ?_) | refine cal @hA ?_)
      (apply WE_ret rfl rfl (by (repeat (first | exact ResOk.nil | (apply ResOk.tmp; rfl) | (apply resOk_cell; rfl; exact inferInstance; rfl; rfl)))))
      · exact ⟨by simp [wbTellE, wbTellW, e, h2, hv, Words.zero], rfl⟩
      · ((repeat (first | (with_reducible exact Ent.refl) | exact Ent.nil | (apply ent_pickE; (focus ((repeat (first | (with_reducible exact pk_here) | (apply pk_there))); done))) | (apply RL_in) | apply Ent.drop)); all_goals (first | rfl | (with_reducible assumption) | (simp; done) | (simp; omega) | omega | (constructor <;> (simp) <;> omega)))
    | true =>
      repeat (first | rintro _ _ ⟨rfl, rfl⟩ | rintro _ _ ⟨_, rfl, rfl⟩ | rintro _ _ ⟨_, _, rfl, rfl⟩ | intro _ | refine go ?_ | (refine is_draw ?_; refine WC_draw mixed (by kernel_rfl) ?_) | refine cal @hA ?_)
      (apply WE_ret rfl rfl (by (repeat (first | exact ResOk.nil | (apply ResOk.tmp; rfl) | (apply resOk_cell; rfl; exact inferInstance; rfl; rfl)))))
      · exact ⟨by simp [wbTellE, wbTellW, e, h2, hv], rfl⟩
      · ((repeat (first | (with_reducible exact Ent.refl) | exact Ent.nil | (apply ent_pickE; (focus ((repeat (first | (with_reducible exact pk_here) | (apply pk_there))); done))) | (apply RL_in) | apply Ent.drop)); all_goals (first | rfl | (with_reducible assumption) | (simp; done) | (simp; omega) | omega | (constructor <;> (simp) <;> omega)))

theorem ref11_Give {F : List HP} {b : Nat} {room : Int} {l : List WbE} {line : Int} : FnF Try.prog 39 [.pointer (some ⟨b, 0, none⟩), .int .i64 line] [RWb b room l] F (fun r L' => r = .tuple [wv (wbTellW l line), .int .i64 (wbTellE l line)].toArray ∧ L' = [RWb b room (wbGiveL l line)]) := by
  refine FnF.mk' Try.func39 rfl rfl Try.ntmps39 rfl ?_
  by_cases h0 : wbTellE l line = 0
  · have e : wbIn l line = true ∧ (wbAt l line).live = true := by
      unfold wbTellE at h0
      split at h0
      · rename_i h; split at h0
        · rename_i h2; exact ⟨h, h2⟩
        · simp at h0
      · simp at h0
    obtain ⟨i, hi, h1, h2, h3⟩ := wbIn_t e.1
    repeat (first | rintro _ _ ⟨rfl, rfl⟩ | rintro _ _ ⟨_, rfl, rfl⟩ | rintro _ _ ⟨_, _, rfl, rfl⟩ | intro _ | refine go ?_ | refine cal @ref11_Share ?_)
    (first | refine WO_front (RWb b room l) ?_ | refine WC_front (RWb b room l) ?_ | refine WE_front (RWb b room l) ?_)
    refine RL_open fun p c hl => ?_
    have hA := fun F => ref11_PlaceO (F := F) (b := b) (room := room) (l := l) (line := line) (p := p) (c := c) hl
    simp only [h1] at hA
    (first | (refine WO_some (.slice p l.length c) inferInstance (by omega) ?_; intro _) | (refine WC_some (.slice p l.length c) inferInstance (by omega) ?_; intro _))
    repeat (first | rintro _ _ ⟨rfl, rfl⟩ | rintro _ _ ⟨_, rfl, rfl⟩ | rintro _ _ ⟨_, _, rfl, rfl⟩ | intro _ | refine go ?_ | (refine is_draw ?_; apply WC_mix (id := 3) false _ (pl := .p 0 <| .p 1 <| .p 2 <| .p 4 <| .p 5 <| .r 3 <| .e true [(6, .p 7 <| .p 8 <| .e true [(9, .done)])]); exact mixed; kernel_rfl; kernel_rfl; exact Ent.refl) | (refine is_draw ?_; refine WC_draw mixed (by kernel_rfl) ?_) | refine cal @hA ?_)
    rw [splice_flatJ (enc := bc) (n := 10) (fun _ => rfl) l i hi (x := { l[i] with live := false }) (by simp) rfl]
    (apply WE_ret rfl rfl (by (repeat (first | exact ResOk.nil | (apply ResOk.tmp; rfl) | (apply resOk_cell; rfl; exact inferInstance; rfl; rfl)))))
    · exact ⟨rfl, rfl⟩
    · have e2 := e.2
      rw [h2] at e2
      simp only [wbGiveL, e.1, h1, h2, e2, Bool.and_self, if_true, Int.toNat_natCast]
      ((repeat (first | (with_reducible exact Ent.refl) | exact Ent.nil | (apply ent_pickE; (focus ((repeat (first | (with_reducible exact pk_here) | (apply pk_there))); done))) | (apply RL_in) | apply Ent.drop)); all_goals (first | rfl | (with_reducible assumption) | (simp; done) | (simp; omega) | omega | (constructor <;> (simp) <;> omega)))
  · have e : (wbIn l line && (wbAt l line).live) = false := by
      unfold wbTellE at h0
      cases h : wbIn l line <;> cases h2 : (wbAt l line).live <;> simp_all
    repeat (first | rintro _ _ ⟨rfl, rfl⟩ | rintro _ _ ⟨_, rfl, rfl⟩ | rintro _ _ ⟨_, _, rfl, rfl⟩ | intro _ | refine go ?_ | (refine is_draw ?_; apply WC_mix (id := 3) false _ (pl := .p 0 <| .p 1 <| .p 2 <| .p 4 <| .p 5 <| .r 3 <| .e true [(6, .p 7 <| .p 8 <| .e true [(9, .done)])]); exact mixed; kernel_rfl; kernel_rfl; exact Ent.refl) | (refine is_draw ?_; refine WC_draw mixed (by kernel_rfl) ?_) | refine cal @ref11_Share ?_)
    (apply WE_ret rfl rfl (by (repeat (first | exact ResOk.nil | (apply ResOk.tmp; rfl) | (apply resOk_cell; rfl; exact inferInstance; rfl; rfl)))))
    · exact ⟨rfl, rfl⟩
    · simp only [wbGiveL, e, Bool.false_eq_true, if_false]; (repeat (first | (with_reducible exact Ent.refl) | exact Ent.nil | (apply ent_pickE; (focus ((repeat (first | (with_reducible exact pk_here) | (apply pk_there))); done))) | apply Ent.drop))

theorem ref11_Drop {F : List HP} {b : Nat} {room : Int} {l : List WbE} {line : Int} : FnF Try.prog 40 [.pointer (some ⟨b, 0, none⟩), .int .i64 line] [RWb b room l] F (fun r L' => r = .int .i64 (wbDropE l line) ∧ L' = [RWb b room (wbDropL l line)]) := by
  refine FnF.mk' Try.func40 rfl rfl Try.ntmps40 rfl ?_
  refine RL_open fun p c hl => ?_
  cases e : wbIn l line with
  | false =>
    have h0 := wbIn_f e
    repeat (first | rintro _ _ ⟨rfl, rfl⟩ | rintro _ _ ⟨_, rfl, rfl⟩ | rintro _ _ ⟨_, _, rfl, rfl⟩ | intro _ | refine go ?_ | (refine is_draw ?_; refine WC_draw mixed (by kernel_rfl) ?_) | refine cal @ref11_PlaceO ?_)
    (apply WE_ret rfl rfl (by (repeat (first | exact ResOk.nil | (apply ResOk.tmp; rfl) | (apply resOk_cell; rfl; exact inferInstance; rfl; rfl)))))
    · exact ⟨by simp [wbDropE, e], rfl⟩
    · simp only [wbDropL, e, Bool.false_eq_true, if_false]; ((repeat (first | (with_reducible exact Ent.refl) | exact Ent.nil | (apply ent_pickE; (focus ((repeat (first | (with_reducible exact pk_here) | (apply pk_there))); done))) | (apply RL_in) | apply Ent.drop)); all_goals (first | rfl | (with_reducible assumption) | (simp; done) | (simp; omega) | omega | (constructor <;> (simp) <;> omega)))
  | true =>
    obtain ⟨n, hn, h1, h2, h3⟩ := wbIn_t e
    have hA := fun F => ref11_PlaceO (F := F) (b := b) (room := room) (l := l) (line := line) (p := p) (c := c) hl
    simp only [h1] at hA
    repeat (first | rintro _ _ ⟨rfl, rfl⟩ | rintro _ _ ⟨_, rfl, rfl⟩ | rintro _ _ ⟨_, _, rfl, rfl⟩ | intro _ | refine go ?_ | (refine is_draw ?_; refine WC_draw mixed (by kernel_rfl) ?_) | refine cal @hA ?_)
    rename_i b0
    apply WC_loopE (E0 := [(0, _), (5, _)]) (fun E0 (q : Nat × Option Addr × Nat) => (7, .int .i64 q.1) :: (6, .slice q.2.1 ((l.take q.1).eraseIdx n).length q.2.2) :: E0)
      (fun q => Own 79 10 (.slice q.2.1 ((l.take q.1).eraseIdx n).length q.2.2) ((l.take q.1).eraseIdx n).length (flat bc ((l.take q.1).eraseIdx n)) :: Cells b 77 [.int .i64 room, .slice p l.length c] :: Own 79 10 (.slice p l.length c) l.length (flat bc l) :: F) (fun q => q.1 ≤ l.length) (fun q => l.length - q.1) (0, some ⟨b0, 0, none⟩, 0)
    · (repeat (first | exact Sub.nil | (refine Sub.cons (by first | rfl | (simp only [Nat.zero_add]; rfl)) ?_)))
    · exact Nat.zero_le _
    · dsimp only; simp only [List.take_zero, List.eraseIdx_nil, List.length_nil, flat_nil]; (repeat (first | (with_reducible exact Ent.refl) | exact Ent.nil | (apply ent_pickE; (focus ((repeat (first | (with_reducible exact pk_here) | (apply pk_there))); done))) | apply Ent.drop))
    · rintro ⟨i, p', c'⟩ hi
      dsimp only at hi ⊢
      have hlen := erase_len (l.take i) n
      rw [List.length_take] at hlen
      by_cases hlt : i < l.length
      · by_cases he : i = n
        · repeat (first | rintro _ _ ⟨rfl, rfl⟩ | rintro _ _ ⟨_, rfl, rfl⟩ | rintro _ _ ⟨_, _, rfl, rfl⟩ | intro _ | refine go ?_ | (refine is_draw ?_; refine WC_draw mixed (by kernel_rfl) ?_))
          refine WE_loop (i + 1, p', c') (by dsimp only; omega) (by dsimp only; omega) ?_ ?_
          · dsimp only; rw [take_erase l n i hlt, if_pos he]; (repeat (first | exact Sub.nil | (refine Sub.cons (by first | rfl | (simp only [Nat.zero_add]; rfl)) ?_)))
          · dsimp only; rw [take_erase l n i hlt, if_pos he]; exact Ent.refl
        · repeat (first | rintro _ _ ⟨rfl, rfl⟩ | rintro _ _ ⟨_, rfl, rfl⟩ | rintro _ _ ⟨_, _, rfl, rfl⟩ | intro _ | refine go ?_ | (refine is_draw ?_; refine WC_draw mixed (by kernel_rfl) ?_))
          rename_i p2 c2
          refine WE_loop (i + 1, p2, c2) (by dsimp only; omega) (by dsimp only; omega) ?_ ?_
          · dsimp only; rw [take_erase l n i hlt, if_neg he]
            rw [List.length_append, List.length_singleton]
            (repeat (first | exact Sub.nil | (refine Sub.cons (by first | rfl | (simp only [Nat.zero_add]; rfl)) ?_)))
          · dsimp only; rw [take_erase l n i hlt, if_neg he]
            rw [List.length_append, List.length_singleton, flat_append, flat_one]
            (repeat (first | (with_reducible exact Ent.refl) | exact Ent.nil | (apply ent_pickE; (focus ((repeat (first | (with_reducible exact pk_here) | (apply pk_there))); done))) | apply Ent.drop))
      · repeat (first | rintro _ _ ⟨rfl, rfl⟩ | rintro _ _ ⟨_, rfl, rfl⟩ | rintro _ _ ⟨_, _, rfl, rfl⟩ | intro _ | refine go ?_ | (refine is_draw ?_; refine WC_draw mixed (by kernel_rfl) ?_))
        have hil : i = l.length := by omega
        subst hil
        rw [List.take_length]
        (apply WE_ret rfl rfl (by (repeat (first | exact ResOk.nil | (apply ResOk.tmp; rfl) | (apply resOk_cell; rfl; exact inferInstance; rfl; rfl)))))
        · exact ⟨by simp [wbDropE, e], rfl⟩
        · simp only [wbDropL, e, if_true, h1, Int.toNat_natCast]
          have hlen := erase_len l n
          ((repeat (first | (with_reducible exact Ent.refl) | exact Ent.nil | (apply ent_pickE; (focus ((repeat (first | (with_reducible exact pk_here) | (apply pk_there))); done))) | (apply RL_in) | apply Ent.drop)); all_goals (first | rfl | (with_reducible assumption) | (simp; done) | (simp; omega) | omega | (constructor <;> (simp) <;> omega)))
end Go.Sx
