/- MemR, WbR, MsgR: several of my texts as one. My own work. -/
import Derived.Test.YtlaohgngdaglmaaGreatZag
import Derived.Test.YtlaohgngdaglmaaGreatZba
import Derived.Test.YtlaohgngdaglmaaGreatZae
import Derived.Test.YtlaohgngdaglmaaGreatZai
/- What the document's memories do: what is applied. My own work. -/
namespace Go.Sx
open Go Go.Proofs
set_option linter.unusedVariables false
set_option linter.unusedSectionVars false
set_option linter.unusedSimpArgs false
theorem words_of_list (w : Words) : Words.of w.list = w := rfl
theorem splice_w {w : Words} {i : Nat} (hi : i < 8) (v : Int) : splice (wc w) (0 + ((i : Nat) : Int).toNat * 1) [.int .i64 v] = wc (Words.of (w.list.set i v)) := by
  rw [Nat.zero_add, Nat.mul_one, Int.toNat_natCast]
  rw [show wc w = flat ic w.list from rfl, splice_ic (ms := w.list) hi, flat_of (by rw [List.length_set]; rfl)]
set_option maxRecDepth 100000
set_option maxHeartbeats 4000000
attribute [local irreducible] Go.Exit.then Go.Exit.inBlock Go.Code.wp WC WO WE WQ V LoopQ FnQ Sat Star band bor IntKind.wrap WR Code.rounds WT KO
theorem ref12_Apply {F : List HP} {c : Cfg} {w : Words} {x : Op3} (hc : c.wf) (hx : x.wf) : FnF Tryz.prog 141 [c.val, wv w, ov x] [] F (fun r L' => r = .tuple [wv (apW c w x), .int .i64 (apV c w x), .int .i64 (apE c x)].toArray ∧ L' = []) := by
  have hC := fun F => ref01_Check (F := F) hc
  have hM := fun F => ref03_May (F := F) (x := x)
  cases e0 : checkB c with
  | false =>
    have ha : apOk c x = false := by simp [apOk, okAddr, e0]
    simp only [checkE, e0, Bool.false_eq_true, if_false] at hC
    refine FnF.mk' Tryz.func141 rfl rfl Tryz.ntmps141 rfl ?_
    repeat (first | rintro _ _ ⟨rfl, rfl⟩ | refine exq fun _ => ?_ | intro _ | refine go ?_ | refine drq ?_ | refine cal @hC ?_)
    (apply WE_ret rfl rfl (by (repeat (first | exact ResOk.nil | (apply ResOk.tmp; rfl) | (apply resOk_cell; rfl; exact inferInstance; rfl; rfl)))))
    · exact ⟨by simp [apW, apV, apE, ha, Words.zero], rfl⟩
    · exact entu0
  | true =>
    simp only [checkE, e0, if_true] at hC
    cases e2 : mayB x with
    | false =>
      have ha : apOk c x = false := by simp [apOk, e2]
      simp only [e2] at hM
      refine FnF.mk' Tryz.func141 rfl rfl Tryz.ntmps141 rfl ?_
      repeat (first | rintro _ _ ⟨rfl, rfl⟩ | refine exq fun _ => ?_ | intro _ | refine go ?_ | refine drq ?_ | refine cal @hC ?_ | refine cal @hM ?_)
      (apply WE_ret rfl rfl (by (repeat (first | exact ResOk.nil | (apply ResOk.tmp; rfl) | (apply resOk_cell; rfl; exact inferInstance; rfl; rfl)))))
      · exact ⟨by simp [apW, apV, apE, ha, Words.zero], rfl⟩
      · exact entu0
    | true =>
      simp only [e2] at hM
      have hmf := may_facts e2
      by_cases e3 : x.kind = 4
      · have ha : apOk c x = false := by simp [apOk, e3]
        refine FnF.mk' Tryz.func141 rfl rfl Tryz.ntmps141 rfl ?_
        repeat (first | rintro _ _ ⟨rfl, rfl⟩ | refine exq fun _ => ?_ | intro _ | refine go ?_ | refine drq ?_ | refine cal @hC ?_ | refine cal @hM ?_)
        (apply WE_ret rfl rfl (by (repeat (first | exact ResOk.nil | (apply ResOk.tmp; rfl) | (apply resOk_cell; rfl; exact inferInstance; rfl; rfl)))))
        · exact ⟨by simp [apW, apV, apE, ha, Words.zero], rfl⟩
        · exact entu0
      · have hw := check_words e0
        have hm := mul_bd (m := 8) (n := 1024) (a := c.words) (b := c.lines) (by omega) (by omega) (by omega) (by omega) (by omega)
        simp only [Int.reduceMul] at hm
        by_cases e4 : x.addr ≥ c.words * c.lines
        · have ha : apOk c x = false := by simp only [apOk, okAddr, decide_eq_false (show ¬ (0 ≤ x.addr ∧ x.addr < c.words * c.lines) by omega), Bool.and_false, Bool.false_and]
          refine FnF.mk' Tryz.func141 rfl rfl Tryz.ntmps141 rfl ?_
          repeat (first | rintro _ _ ⟨rfl, rfl⟩ | refine exq fun _ => ?_ | intro _ | refine go ?_ | refine drq ?_ | refine cal @hC ?_ | refine cal @hM ?_)
          (apply WE_ret rfl rfl (by (repeat (first | exact ResOk.nil | (apply ResOk.tmp; rfl) | (apply resOk_cell; rfl; exact inferInstance; rfl; rfl)))))
          · exact ⟨by simp [apW, apV, apE, ha, Words.zero], rfl⟩
          · exact entu0
        · have hok : okAddr c x.addr = true := by simp [okAddr, e0]; omega
          have ha : apOk c x = true := by simp [apOk, hok, e2, e3]
          have e5 : addrW c x.addr = x.addr % c.words := if_pos hok
          obtain ⟨i, hi⟩ : ∃ i : Nat, x.addr % c.words = i := ⟨(x.addr % c.words).toNat, by have := Int.emod_nonneg x.addr (show c.words ≠ 0 by omega); omega⟩
          have hi8 : i < 8 := by have := Int.emod_lt_of_pos x.addr (show 0 < c.words by omega); omega
          have hti : x.addr.tmod c.words = i := by rw [tmod_nn (by omega), hi]
          have hg := wcell w i hi8
          have e6 : apV c w x = touchE w.list i x := by unfold apV; rw [if_pos ha, e5, hi, Int.toNat_natCast]
          have e7 : apW c w x = Words.of (touchL w.list i x) := by unfold apW; rw [if_pos ha, e5, hi, Int.toNat_natCast]
          have e8 : apE c x = 0 := if_pos ha
          have hle : Nat.ble (0 + ((i : Nat) : Int).toNat * 1 + 1) (wc w).length = true := by
            apply Nat.ble_eq_true_of_le
            simp; omega
          rw [e6, e7, e8]
          refine FnF.mk' Tryz.func141 rfl rfl Tryz.ntmps141 rfl ?_
          rcases hmf.1 with k1 | k1 | k1 | k1
          · repeat (first | rintro _ _ ⟨rfl, rfl⟩ | refine exq fun _ => ?_ | intro _ | refine go ?_ | refine drq ?_ | refine cal @hC ?_ | refine cal @hM ?_)
            rw [hti]
            repeat (first | rintro _ _ ⟨rfl, rfl⟩ | refine exq fun _ => ?_ | intro _ | refine go ?_ | refine drq ?_)
            (apply WE_ret rfl rfl (by (repeat (first | exact ResOk.nil | (apply ResOk.tmp; rfl) | (apply resOk_cell; rfl; exact inferInstance; rfl; rfl)))))
            · exact ⟨by simp [touchE, touchL, k1, words_of_list], rfl⟩
            · exact entu0
          · repeat (first | rintro _ _ ⟨rfl, rfl⟩ | refine exq fun _ => ?_ | intro _ | refine go ?_ | refine drq ?_ | refine cal @hC ?_ | refine cal @hM ?_)
            rw [hti]
            repeat (first | rintro _ _ ⟨rfl, rfl⟩ | refine exq fun _ => ?_ | intro _ | refine go ?_ | refine drq ?_)
            refine WO_k rfl (K_store (cs := [.int .i64 x.value]) rfl rfl inferInstance rfl rfl rfl hle) (same_intro ?_)
            rw [splice_w hi8]
            repeat (first | rintro _ _ ⟨rfl, rfl⟩ | refine exq fun _ => ?_ | intro _ | refine go ?_ | refine drq ?_)
            (apply WE_ret rfl rfl (by (repeat (first | exact ResOk.nil | (apply ResOk.tmp; rfl) | (apply resOk_cell; rfl; exact inferInstance; rfl; rfl)))))
            · exact ⟨by simp [touchE, touchL, k1], rfl⟩
            · exact entu0
          · repeat (first | rintro _ _ ⟨rfl, rfl⟩ | refine exq fun _ => ?_ | intro _ | refine go ?_ | refine drq ?_ | refine cal @hC ?_ | refine cal @hM ?_)
            rw [hti]
            repeat (first | rintro _ _ ⟨rfl, rfl⟩ | refine exq fun _ => ?_ | intro _ | refine go ?_ | refine drq ?_)
            refine WO_k rfl (K_store (cs := [.int .i64 x.value]) rfl rfl inferInstance rfl rfl rfl hle) (same_intro ?_)
            rw [splice_w hi8]
            repeat (first | rintro _ _ ⟨rfl, rfl⟩ | refine exq fun _ => ?_ | intro _ | refine go ?_ | refine drq ?_)
            (apply WE_ret rfl rfl (by (repeat (first | exact ResOk.nil | (apply ResOk.tmp; rfl) | (apply resOk_cell; rfl; exact inferInstance; rfl; rfl)))))
            · exact ⟨by simp [touchE, touchL, k1], rfl⟩
            · exact entu0
          · exact absurd k1 e3
end Go.Sx

/- What the document's write-back buffer does. My own work. -/
namespace Go.Sx
open Go Go.Proofs
set_option linter.unusedVariables false
set_option linter.unusedSectionVars false
set_option maxRecDepth 100000
set_option maxHeartbeats 4000000
attribute [local irreducible] Go.Exit.then Go.Exit.inBlock Go.Code.wp WC WO WE WQ V LoopQ FnQ Sat Star band bor IntKind.wrap WR Code.rounds WT KO
abbrev RWb (b : Nat) (room : Int) (l : List WbE) : HP := RL 64 77 10 bc b room l

theorem ref11_New {F : List HP} {room : Int} (h : 1 ≤ room ∧ room ≤ 8) : FnF Tryz.prog 53 [.int .i64 room] [] F (fun r L' => ∃ b, r = .tuple [.pointer (some ⟨b, 0, none⟩), .int .i64 0].toArray ∧ L' = [RWb b room []]) := by
  refine FnF.mk' Tryz.func53 rfl rfl Tryz.ntmps53 rfl ?_
  repeat (first | rintro _ _ ⟨rfl, rfl⟩ | refine exq fun _ => ?_ | intro _ | refine go ?_ | refine drq ?_)
  (apply WE_ret rfl rfl (by (repeat (first | exact ResOk.nil | (apply ResOk.tmp; rfl) | (apply resOk_cell; rfl; exact inferInstance; rfl; rfl)))))
  · exact ⟨_, rfl, rfl⟩
  · exact RL_in (l := []) (Ent.cons (own_empty Ent.refl)) rfl rfl (by simp; omega)
theorem ref11_New_no {F : List HP} {room : Int} (h : ¬ (1 ≤ room ∧ room ≤ 8)) : FnF Tryz.prog 53 [.int .i64 room] [] F (fun r L' => r = .tuple [.pointer none, .int .i64 1].toArray ∧ L' = []) := by
  refine FnF.mk' Tryz.func53 rfl rfl Tryz.ntmps53 rfl ?_
  repeat' (first | rintro _ _ ⟨rfl, rfl⟩ | refine exq fun _ => ?_ | intro _ | refine go ?_ | refine drq ?_ | refine spl ?_ ?_ | fail)
  all_goals first | omega | exact fin0

theorem ref11_PlaceO {F : List HP} {b : Nat} {room : Int} {l : List WbE} {line : Int} {p : Option Addr} {c : Nat} (hl : (l.length : Int) ≤ room ∧ room ≤ 4096) :
    FnF Tryz.prog 123 [.pointer (some ⟨b, 0, none⟩), .int .i64 line] [Cells b 64 [.int .i64 room, .slice p l.length c], Own 77 10 (.slice p l.length c) l.length (flat bc l)] F
      (fun r L' => r = .int .i64 (wbPlace l line) ∧ L' = [Cells b 64 [.int .i64 room, .slice p l.length c], Own 77 10 (.slice p l.length c) l.length (flat bc l)]) := by
  refine FnF.mk' Tryz.func123 rfl rfl Tryz.ntmps123 rfl ?_
  repeat (first | rintro _ _ ⟨rfl, rfl⟩ | refine exq fun _ => ?_ | intro _ | refine go ?_ | refine drq ?_)
  apply WC_loopE (E0 := [(0, _), (1, _)]) (fun E0 (i : Nat) => (5, .int .i64 i) :: E0) (fun _ => Cells b 64 [.int .i64 room, .slice p l.length c] :: Own 77 10 (.slice p l.length c) l.length (flat bc l) :: F) (fun i => i ≤ l.length ∧ ∀ j (h : j < l.length), j < i → decide (l[j].line = line) = false) (fun i => l.length - i) 0
  · (repeat (first | exact Sub.nil | (refine Sub.cons (by first | rfl | (simp only [Nat.zero_add]; rfl)) ?_)))
  · exact ⟨Nat.zero_le _, fun j _ hj => by omega⟩
  · exact Ent.refl
  · rintro i ⟨hi, h1⟩
    by_cases hlt : i < l.length
    · by_cases he : l[i].line = line
      · repeat (first | rintro _ _ ⟨rfl, rfl⟩ | refine exq fun _ => ?_ | intro _ | refine go ?_ | refine drq ?_)
        (apply WE_ret rfl rfl (by (repeat (first | exact ResOk.nil | (apply ResOk.tmp; rfl) | (apply resOk_cell; rfl; exact inferInstance; rfl; rfl)))))
        · exact ⟨by rw [wbPlace, indexBy_at hlt h1 (by simp [he])]; rfl, rfl⟩
        · exact Ent.refl
      · repeat (first | rintro _ _ ⟨rfl, rfl⟩ | refine exq fun _ => ?_ | intro _ | refine go ?_ | refine drq ?_)
        refine WE_loop (i + 1) (by omega) ⟨by omega, fun j hj hji => ?_⟩ ?_ Ent.refl
        · by_cases e : j = i
          · subst e; simpa using he
          · exact h1 j hj (by omega)
        · (repeat (first | exact Sub.nil | (refine Sub.cons (by first | rfl | (simp only [Nat.zero_add]; rfl)) ?_)))
    · have e : i = l.length := by omega
      subst e
      repeat (first | rintro _ _ ⟨rfl, rfl⟩ | refine exq fun _ => ?_ | intro _ | refine go ?_ | refine drq ?_)
      (apply WE_ret rfl rfl (by (repeat (first | exact ResOk.nil | (apply ResOk.tmp; rfl) | (apply resOk_cell; rfl; exact inferInstance; rfl; rfl)))))
      · exact ⟨by rw [wbPlace, indexBy_none h1]; rfl, rfl⟩
      · exact Ent.refl
theorem ref11_Place {F : List HP} {b : Nat} {room : Int} {l : List WbE} {line : Int} : FnF Tryz.prog 123 [.pointer (some ⟨b, 0, none⟩), .int .i64 line] [RWb b room l] F (fun r L' => r = .int .i64 (wbPlace l line) ∧ L' = [RWb b room l]) :=
  RL_ro (fun p c hl => ref11_PlaceO hl) (enters_of Tryz.func123 rfl rfl)

theorem dr_WbR_130 {Q P : Prop} (k : Q) (h : Hid Q → P := by
  intro k
  first
  | (refine is_draw ?_; apply WC_mix (id := 5) .false _ (pl := .p 0 <| .p 2 <| .p 3 <| .p 4 <| .p 7 <| .r 5 <| .r 8 <| .p 9 <| .e true [(1, .e true [(6, .e true [(10, .e true [(11, .p 12 <| .p 13 <| .e true [(14, .done)])])]), (10, .e true [(6, .e true [(11, .p 12 <| .p 13 <| .e true [(14, .done)])])])]), (10, .e true [(1, .e true [(6, .e true [(11, .p 12 <| .p 13 <| .e true [(14, .done)])])])])]); exact mixed; kernel_rfl; kernel_rfl; exact Ent.refl; exact k.out)) : P := h ⟨k⟩
theorem ref11_Put {F : List HP} {b : Nat} {room : Int} {l : List WbE} {line : Int} {w : Words} : FnF Tryz.prog 130 [.pointer (some ⟨b, 0, none⟩), .int .i64 line, wv w] [RWb b room l] F (fun r L' => r = .int .i64 (wbPutE room l line) ∧ L' = [RWb b room (wbPutL room l line w)]) := by
  refine FnF.mk' Tryz.func130 rfl rfl Tryz.ntmps130 rfl ?_
  refine RL_open fun p c hl => ?_
  cases e : wbIn l line with
  | true =>
    have h0 : 0 ≤ wbPlace l line := of_decide_eq_true e
    repeat (first | rintro _ _ ⟨rfl, rfl⟩ | refine exq fun _ => ?_ | intro _ | refine go ?_ | refine dr_WbR_130 ?_ | refine drq ?_ | refine cal @ref11_PlaceO ?_)
    (apply WE_ret rfl rfl (by (repeat (first | exact ResOk.nil | (apply ResOk.tmp; rfl) | (apply resOk_cell; rfl; exact inferInstance; rfl; rfl)))))
    · exact ⟨by simp [wbPutE, e], rfl⟩
    · simp only [wbPutL, e, if_true]; ((repeat (first | (with_reducible exact Ent.refl) | exact Ent.nil | (apply ent_pickE; (focus ((repeat (first | (with_reducible exact pk_here) | (apply pk_there))); done))) | (apply RL_in) | apply Ent.drop)); all_goals (first | rfl | (with_reducible assumption) | (simp; done) | (simp; omega) | omega | (constructor <;> (simp) <;> omega)))
  | false =>
    have h0 := wbIn_f e
    by_cases hf : (l.length : Int) = room
    · repeat (first | rintro _ _ ⟨rfl, rfl⟩ | refine exq fun _ => ?_ | intro _ | refine go ?_ | refine dr_WbR_130 ?_ | refine drq ?_ | refine cal @ref11_PlaceO ?_)
      (apply WE_ret rfl rfl (by (repeat (first | exact ResOk.nil | (apply ResOk.tmp; rfl) | (apply resOk_cell; rfl; exact inferInstance; rfl; rfl)))))
      · exact ⟨by simp [wbPutE, e, hf], rfl⟩
      · simp only [wbPutL, e, hf, Bool.false_eq_true, if_false, if_true]; ((repeat (first | (with_reducible exact Ent.refl) | exact Ent.nil | (apply ent_pickE; (focus ((repeat (first | (with_reducible exact pk_here) | (apply pk_there))); done))) | (apply RL_in) | apply Ent.drop)); all_goals (first | rfl | (with_reducible assumption) | (simp; done) | (simp; omega) | omega | (constructor <;> (simp) <;> omega)))
    · repeat' (first | rintro _ _ ⟨rfl, rfl⟩ | refine exq fun _ => ?_ | intro _ | refine go ?_ | refine dr_WbR_130 ?_ | refine drq ?_ | refine cal @ref11_PlaceO ?_ | refine spl ?_ ?_ | fail)
      all_goals (apply WE_ret rfl rfl (by (repeat (first | exact ResOk.nil | (apply ResOk.tmp; rfl) | (apply resOk_cell; rfl; exact inferInstance; rfl; rfl)))))
      all_goals first | exact ⟨by simp [wbPutE, e, hf], rfl⟩ | (simp only [wbPutL, e, hf, Bool.false_eq_true, if_false]; ((repeat (first | (with_reducible exact Ent.refl) | exact Ent.nil | (apply ent_pickE; (focus ((repeat (first | (with_reducible exact pk_here) | (apply pk_there))); done))) | (apply RL_in) | apply Ent.drop)); all_goals (first | rfl | (with_reducible assumption) | (simp; done) | (simp; omega) | omega | (constructor <;> (simp) <;> omega))))

theorem ref11_Share {F : List HP} {b : Nat} {room : Int} {l : List WbE} {line : Int} : FnF Tryz.prog 194 [.pointer (some ⟨b, 0, none⟩), .int .i64 line] [RWb b room l] F (fun r L' => r = .tuple [wv (wbTellW l line), .int .i64 (wbTellE l line)].toArray ∧ L' = [RWb b room l]) := by
  refine FnF.mk' Tryz.func194 rfl rfl Tryz.ntmps194 rfl ?_
  refine RL_open fun p c hl => ?_
  cases e : wbIn l line with
  | false =>
    have h0 := wbIn_f e
    repeat (first | rintro _ _ ⟨rfl, rfl⟩ | refine exq fun _ => ?_ | intro _ | refine go ?_ | refine drq ?_ | refine cal @ref11_PlaceO ?_)
    (apply WE_ret rfl rfl (by (repeat (first | exact ResOk.nil | (apply ResOk.tmp; rfl) | (apply resOk_cell; rfl; exact inferInstance; rfl; rfl)))))
    · exact ⟨by simp [wbTellE, wbTellW, e, Words.zero], rfl⟩
    · ((repeat (first | (with_reducible exact Ent.refl) | exact Ent.nil | (apply ent_pickE; (focus ((repeat (first | (with_reducible exact pk_here) | (apply pk_there))); done))) | (apply RL_in) | apply Ent.drop)); all_goals (first | rfl | (with_reducible assumption) | (simp; done) | (simp; omega) | omega | (constructor <;> (simp) <;> omega)))
  | true =>
    obtain ⟨i, hi, h1, h2, h3⟩ := wbIn_t e
    have hA := fun F => ref11_PlaceO (F := F) (b := b) (room := room) (l := l) (line := line) (p := p) (c := c) hl
    simp only [h1] at hA
    cases hv : l[i].live with
    | false =>
      repeat (first | rintro _ _ ⟨rfl, rfl⟩ | refine exq fun _ => ?_ | intro _ | refine go ?_ | refine drq ?_ | refine cal @hA ?_)
      (apply WE_ret rfl rfl (by (repeat (first | exact ResOk.nil | (apply ResOk.tmp; rfl) | (apply resOk_cell; rfl; exact inferInstance; rfl; rfl)))))
      · exact ⟨by simp [wbTellE, wbTellW, e, h2, hv, Words.zero], rfl⟩
      · ((repeat (first | (with_reducible exact Ent.refl) | exact Ent.nil | (apply ent_pickE; (focus ((repeat (first | (with_reducible exact pk_here) | (apply pk_there))); done))) | (apply RL_in) | apply Ent.drop)); all_goals (first | rfl | (with_reducible assumption) | (simp; done) | (simp; omega) | omega | (constructor <;> (simp) <;> omega)))
    | true =>
      repeat (first | rintro _ _ ⟨rfl, rfl⟩ | refine exq fun _ => ?_ | intro _ | refine go ?_ | refine drq ?_ | refine cal @hA ?_)
      (apply WE_ret rfl rfl (by (repeat (first | exact ResOk.nil | (apply ResOk.tmp; rfl) | (apply resOk_cell; rfl; exact inferInstance; rfl; rfl)))))
      · exact ⟨by simp [wbTellE, wbTellW, e, h2, hv], rfl⟩
      · ((repeat (first | (with_reducible exact Ent.refl) | exact Ent.nil | (apply ent_pickE; (focus ((repeat (first | (with_reducible exact pk_here) | (apply pk_there))); done))) | (apply RL_in) | apply Ent.drop)); all_goals (first | rfl | (with_reducible assumption) | (simp; done) | (simp; omega) | omega | (constructor <;> (simp) <;> omega)))

theorem dr_WbR_195 {Q P : Prop} (k : Q) (h : Hid Q → P := by
  intro k
  first
  | (refine is_draw ?_; apply WC_mix (id := 3) .false _ (pl := .p 0 <| .p 1 <| .p 2 <| .p 4 <| .p 5 <| .r 3 <| .e true [(6, .p 7 <| .p 8 <| .e true [(9, .done)])]); exact mixed; kernel_rfl; kernel_rfl; exact Ent.refl; exact k.out)) : P := h ⟨k⟩
theorem ref11_Give {F : List HP} {b : Nat} {room : Int} {l : List WbE} {line : Int} : FnF Tryz.prog 195 [.pointer (some ⟨b, 0, none⟩), .int .i64 line] [RWb b room l] F (fun r L' => r = .tuple [wv (wbTellW l line), .int .i64 (wbTellE l line)].toArray ∧ L' = [RWb b room (wbGiveL l line)]) := by
  refine FnF.mk' Tryz.func195 rfl rfl Tryz.ntmps195 rfl ?_
  by_cases h0 : wbTellE l line = 0
  · have e : wbIn l line = true ∧ (wbAt l line).live = true := by
      unfold wbTellE at h0
      split at h0
      · rename_i h; split at h0
        · rename_i h2; exact ⟨h, h2⟩
        · simp at h0
      · simp at h0
    obtain ⟨i, hi, h1, h2, h3⟩ := wbIn_t e.1
    repeat (first | rintro _ _ ⟨rfl, rfl⟩ | refine exq fun _ => ?_ | intro _ | refine go ?_ | refine cal @ref11_Share ?_)
    (first | refine WO_front (RWb b room l) ?_ | refine WC_front (RWb b room l) ?_ | refine WE_front (RWb b room l) ?_)
    refine RL_open fun p c hl => ?_
    have hA := fun F => ref11_PlaceO (F := F) (b := b) (room := room) (l := l) (line := line) (p := p) (c := c) hl
    simp only [h1] at hA
    (first | (refine WO_some (.slice p l.length c) inferInstance (by omega) ?_; intro _) | (refine WC_some (.slice p l.length c) inferInstance (by omega) ?_; intro _))
    repeat (first | rintro _ _ ⟨rfl, rfl⟩ | refine exq fun _ => ?_ | intro _ | refine go ?_ | refine dr_WbR_195 ?_ | refine drq ?_ | refine cal @hA ?_)
    rw [splice_flatJ (enc := bc) (n := 10) (fun _ => rfl) l i hi (x := { l[i] with live := false }) (by simp) rfl]
    (apply WE_ret rfl rfl (by (repeat (first | exact ResOk.nil | (apply ResOk.tmp; rfl) | (apply resOk_cell; rfl; exact inferInstance; rfl; rfl)))))
    · exact ⟨rfl, rfl⟩
    · have e2 := e.2
      rw [h2] at e2
      simp only [wbGiveL, e.1, h1, h2, e2, Bool.and_self, if_true, Int.toNat_natCast]
      ((repeat (first | (with_reducible exact Ent.refl) | exact Ent.nil | (apply ent_pickE; (focus ((repeat (first | (with_reducible exact pk_here) | (apply pk_there))); done))) | (apply RL_in) | apply Ent.drop)); all_goals (first | rfl | (with_reducible assumption) | (simp; done) | (simp; omega) | omega | (constructor <;> (simp) <;> omega)))
  · have e : (wbIn l line && (wbAt l line).live) = false := by
      unfold wbTellE at h0
      cases h : wbIn l line <;> cases h2 : (wbAt l line).live <;> simp_all
    repeat (first | rintro _ _ ⟨rfl, rfl⟩ | refine exq fun _ => ?_ | intro _ | refine go ?_ | refine dr_WbR_195 ?_ | refine drq ?_ | refine cal @ref11_Share ?_)
    (apply WE_ret rfl rfl (by (repeat (first | exact ResOk.nil | (apply ResOk.tmp; rfl) | (apply resOk_cell; rfl; exact inferInstance; rfl; rfl)))))
    · exact ⟨rfl, rfl⟩
    · simp only [wbGiveL, e, Bool.false_eq_true, if_false]; exact entu0

theorem ref11_Drop {F : List HP} {b : Nat} {room : Int} {l : List WbE} {line : Int} : FnF Tryz.prog 137 [.pointer (some ⟨b, 0, none⟩), .int .i64 line] [RWb b room l] F (fun r L' => r = .int .i64 (wbDropE l line) ∧ L' = [RWb b room (wbDropL l line)]) := by
  refine FnF.mk' Tryz.func137 rfl rfl Tryz.ntmps137 rfl ?_
  refine RL_open fun p c hl => ?_
  cases e : wbIn l line with
  | false =>
    have h0 := wbIn_f e
    repeat (first | rintro _ _ ⟨rfl, rfl⟩ | refine exq fun _ => ?_ | intro _ | refine go ?_ | refine drq ?_ | refine cal @ref11_PlaceO ?_)
    (apply WE_ret rfl rfl (by (repeat (first | exact ResOk.nil | (apply ResOk.tmp; rfl) | (apply resOk_cell; rfl; exact inferInstance; rfl; rfl)))))
    · exact ⟨by simp [wbDropE, e], rfl⟩
    · simp only [wbDropL, e, Bool.false_eq_true, if_false]; ((repeat (first | (with_reducible exact Ent.refl) | exact Ent.nil | (apply ent_pickE; (focus ((repeat (first | (with_reducible exact pk_here) | (apply pk_there))); done))) | (apply RL_in) | apply Ent.drop)); all_goals (first | rfl | (with_reducible assumption) | (simp; done) | (simp; omega) | omega | (constructor <;> (simp) <;> omega)))
  | true =>
    obtain ⟨n, hn, h1, h2, h3⟩ := wbIn_t e
    have hA := fun F => ref11_PlaceO (F := F) (b := b) (room := room) (l := l) (line := line) (p := p) (c := c) hl
    simp only [h1] at hA
    repeat (first | rintro _ _ ⟨rfl, rfl⟩ | refine exq fun _ => ?_ | intro _ | refine go ?_ | refine drq ?_ | refine cal @hA ?_)
    rename_i b0
    apply WC_loopE (E0 := [(0, _), (5, _)]) (fun E0 (q : Nat × Option Addr × Nat) => (7, .int .i64 q.1) :: (6, .slice q.2.1 ((l.take q.1).eraseIdx n).length q.2.2) :: E0)
      (fun q => Own 77 10 (.slice q.2.1 ((l.take q.1).eraseIdx n).length q.2.2) ((l.take q.1).eraseIdx n).length (flat bc ((l.take q.1).eraseIdx n)) :: Cells b 64 [.int .i64 room, .slice p l.length c] :: Own 77 10 (.slice p l.length c) l.length (flat bc l) :: F) (fun q => q.1 ≤ l.length) (fun q => l.length - q.1) (0, some ⟨b0, 0, none⟩, 0)
    · (repeat (first | exact Sub.nil | (refine Sub.cons (by first | rfl | (simp only [Nat.zero_add]; rfl)) ?_)))
    · exact Nat.zero_le _
    · dsimp only; simp only [List.take_zero, List.eraseIdx_nil, List.length_nil, flat_nil]; exact entu0
    · rintro ⟨i, p', c'⟩ hi
      dsimp only at hi ⊢
      have hlen := erase_len (l.take i) n
      rw [List.length_take] at hlen
      by_cases hlt : i < l.length
      · by_cases he : i = n
        · repeat (first | rintro _ _ ⟨rfl, rfl⟩ | refine exq fun _ => ?_ | intro _ | refine go ?_ | refine drq ?_)
          refine WE_loop (i + 1, p', c') (by dsimp only; omega) (by dsimp only; omega) ?_ ?_
          · dsimp only; rw [take_erase l n i hlt, if_pos he]; (repeat (first | exact Sub.nil | (refine Sub.cons (by first | rfl | (simp only [Nat.zero_add]; rfl)) ?_)))
          · dsimp only; rw [take_erase l n i hlt, if_pos he]; exact Ent.refl
        · repeat (first | rintro _ _ ⟨rfl, rfl⟩ | refine exq fun _ => ?_ | intro _ | refine go ?_ | refine drq ?_)
          rename_i p2 c2
          refine WE_loop (i + 1, p2, c2) (by dsimp only; omega) (by dsimp only; omega) ?_ ?_
          · dsimp only; rw [take_erase l n i hlt, if_neg he]
            rw [List.length_append, List.length_singleton]
            (repeat (first | exact Sub.nil | (refine Sub.cons (by first | rfl | (simp only [Nat.zero_add]; rfl)) ?_)))
          · dsimp only; rw [take_erase l n i hlt, if_neg he]
            rw [List.length_append, List.length_singleton, flat_append, flat_one]
            exact entu0
      · repeat (first | rintro _ _ ⟨rfl, rfl⟩ | refine exq fun _ => ?_ | intro _ | refine go ?_ | refine drq ?_)
        have hil : i = l.length := by omega
        subst hil
        rw [List.take_length]
        (apply WE_ret rfl rfl (by (repeat (first | exact ResOk.nil | (apply ResOk.tmp; rfl) | (apply resOk_cell; rfl; exact inferInstance; rfl; rfl)))))
        · exact ⟨by simp [wbDropE, e], rfl⟩
        · simp only [wbDropL, e, if_true, h1, Int.toNat_natCast]
          have hlen := erase_len l n
          ((repeat (first | (with_reducible exact Ent.refl) | exact Ent.nil | (apply ent_pickE; (focus ((repeat (first | (with_reducible exact pk_here) | (apply pk_there))); done))) | (apply RL_in) | apply Ent.drop)); all_goals (first | rfl | (with_reducible assumption) | (simp; done) | (simp; omega) | omega | (constructor <;> (simp) <;> omega)))
end Go.Sx

/- The document's messages: kinds, homes, cores, May. My own work. -/
namespace Go.Sx
open Go Go.Proofs
set_option linter.unusedVariables false
set_option linter.unusedSectionVars false
set_option linter.unusedSimpArgs false
set_option maxRecDepth 100000
set_option maxHeartbeats 4000000
attribute [local irreducible] Go.Exit.then Go.Exit.inBlock Go.Code.wp WC WO WE WQ V LoopQ FnQ Sat Star band bor IntKind.wrap WR Code.rounds WT KO
theorem ref05_core {F : List HP} {c : Cfg} {n : Int} : FnF Tryz.prog 178 [c.val, .int .i64 n] [] F (fun r L' => r = .bool (decide (InP n c.cores)) ∧ L' = []) := by
  refine FnF.mk' Tryz.func178 rfl rfl Tryz.ntmps178 rfl ?_
  repeat' (first | rintro _ _ ⟨rfl, rfl⟩ | refine exq fun _ => ?_ | intro _ | refine go ?_ | refine drq ?_ | refine spl ?_ ?_ | fail)
  all_goals (apply WE_ret rfl rfl (by (repeat (first | exact ResOk.nil | (apply ResOk.tmp; rfl) | (apply resOk_cell; rfl; exact inferInstance; rfl; rfl)))); (refine ⟨congrArg Value.bool ?_, rfl⟩; (first | (refine decide_eq_decide.2 ?_) | (refine (decide_eq_true ?_).symm) | (refine (decide_eq_false ?_).symm)); (first | omega | (simp only [InP]; omega))); (repeat (first | exact Ent.refl | exact Ent.nil | apply Ent.pick | apply Ent.drop)))
theorem ref05_Home {F : List HP} {k : Int} : FnF Tryz.prog 131 [.int .i64 k] [] F (fun r L' => r = .bool (decide (HomeP k)) ∧ L' = []) := by
  refine FnF.mk' Tryz.func131 rfl rfl Tryz.ntmps131 rfl ?_
  repeat' (first | rintro _ _ ⟨rfl, rfl⟩ | refine exq fun _ => ?_ | intro _ | refine go ?_ | refine drq ?_ | refine spl ?_ ?_ | fail)
  all_goals (apply WE_ret rfl rfl (by (repeat (first | exact ResOk.nil | (apply ResOk.tmp; rfl) | (apply resOk_cell; rfl; exact inferInstance; rfl; rfl)))); (refine ⟨congrArg Value.bool ?_, rfl⟩; (first | (refine decide_eq_decide.2 ?_) | (refine (decide_eq_true ?_).symm) | (refine (decide_eq_false ?_).symm)); (first | omega | (simp only [HomeP]; omega))); (repeat (first | exact Ent.refl | exact Ent.nil | apply Ent.pick | apply Ent.drop)))
theorem ref05_Net {F : List HP} {k : Int} : FnF Tryz.prog 109 [.int .i64 k] [] F (fun r L' => r = .int .i64 (netK k) ∧ L' = []) := by
  by_cases hk : 1 ≤ k ∧ k ≤ 11
  · have hcase : k = 1 ∨ k = 2 ∨ k = 3 ∨ k = 4 ∨ k = 5 ∨ k = 6 ∨ k = 7 ∨ k = 8 ∨ k = 9 ∨ k = 10 ∨ k = 11 := by omega
    refine FnF.mk' Tryz.func109 rfl rfl Tryz.ntmps109 rfl ?_
    rcases hcase with rfl | rfl | rfl | rfl | rfl | rfl | rfl | rfl | rfl | rfl | rfl
    all_goals (repeat (first | rintro _ _ ⟨rfl, rfl⟩ | refine exq fun _ => ?_ | intro _ | refine go ?_ | refine drq ?_); skip)
    all_goals (apply WE_ret rfl rfl (by (repeat (first | exact ResOk.nil | (apply ResOk.tmp; rfl) | (apply resOk_cell; rfl; exact inferInstance; rfl; rfl)))); (first | exact ⟨rfl, rfl⟩ | exact ⟨congrArg Value.bool (by decide), rfl⟩ | exact ⟨_, rfl, rfl⟩ | exact ⟨_, _, rfl, rfl⟩ | exact ⟨by first | (simp [netK]; done) | (simp [netK] <;> omega), rfl⟩); (repeat (first | exact Ent.refl | exact Ent.nil | apply Ent.pick | apply Ent.drop)))
  · have hnk : netK k = -1 := by unfold netK; rw [if_neg (by omega), if_neg (by omega), if_neg (by omega)]
    refine FnF.mk' Tryz.func109 rfl rfl Tryz.ntmps109 rfl ?_
    repeat' (first | rintro _ _ ⟨rfl, rfl⟩ | refine exq fun _ => ?_ | intro _ | refine go ?_ | refine drq ?_ | refine spl ?_ ?_ | fail)
    all_goals first | omega | (apply WE_ret rfl rfl (by (repeat (first | exact ResOk.nil | (apply ResOk.tmp; rfl) | (apply resOk_cell; rfl; exact inferInstance; rfl; rfl)))); (first | exact ⟨rfl, rfl⟩ | exact ⟨congrArg Value.bool (by decide), rfl⟩ | exact ⟨_, rfl, rfl⟩ | exact ⟨_, _, rfl, rfl⟩ | exact ⟨by first | (simp [hnk]; done) | (simp [hnk] <;> omega), rfl⟩); (repeat (first | exact Ent.refl | exact Ent.nil | apply Ent.pick | apply Ent.drop)))
/-- What a word must be like, of a kind. -/
def Ok2 (c : Cfg) (k : Int) (w : Words) (i : Nat) : Prop := -2147483648 ≤ w.at i ∧ w.at i ≤ 2147483647 ∧ (w.at i ≠ 0 → i < c.words ∧ (k = 3 ∨ k = 7))
theorem ok2_wordy {c : Cfg} {k : Int} {w : Words} (h : k = 3 ∨ k = 7) : ValsP c w ↔ ∀ i, i < 8 → Ok2 c k w i := by
  unfold ValsP OkAt Ok2
  constructor
  · intro hv i hi
    have := hv i hi
    refine ⟨this.1, this.2.1, fun hn => ⟨?_, h⟩⟩
    have := this.2.2
    omega
  · intro hv i hi
    have := hv i hi
    exact ⟨this.1, this.2.1, fun hn => Classical.byContradiction fun h0 => by have := (this.2.2 h0).1; omega⟩
theorem ok2_plain {c : Cfg} {k : Int} {w : Words} (h : ¬ (k = 3 ∨ k = 7)) : w = .zero ↔ ∀ i, i < 8 → Ok2 c k w i := by
  constructor
  · rintro rfl i hi
    have : Words.zero.at i = 0 := by
      have hcase : i = 0 ∨ i = 1 ∨ i = 2 ∨ i = 3 ∨ i = 4 ∨ i = 5 ∨ i = 6 ∨ i = 7 := by omega
      rcases hcase with rfl | rfl | rfl | rfl | rfl | rfl | rfl | rfl <;> rfl
    unfold Ok2
    rw [this]
    exact ⟨by omega, by omega, fun h => absurd rfl h⟩
  · intro hv
    have hz : ∀ i, i < 8 → w.at i = 0 := fun i hi => Classical.byContradiction fun h0 => h ((hv i hi).2.2 h0).2
    obtain ⟨w0, w1, w2, w3, w4, w5, w6, w7⟩ := w
    have a0 : w0 = 0 := hz 0 (by omega)
    have a1 : w1 = 0 := hz 1 (by omega)
    have a2 : w2 = 0 := hz 2 (by omega)
    have a3 : w3 = 0 := hz 3 (by omega)
    have a4 : w4 = 0 := hz 4 (by omega)
    have a5 : w5 = 0 := hz 5 (by omega)
    have a6 : w6 = 0 := hz 6 (by omega)
    have a7 : w7 = 0 := hz 7 (by omega)
    rw [a0, a1, a2, a3, a4, a5, a6, a7]
theorem words_cell (m : Msg) (i : Nat) (h : i < 8) : (mc m)[7 + ((i : Nat) : Int).toNat * 1]? = some (.int .i64 (m.words.at i)) := by
  have hcase : i = 0 ∨ i = 1 ∨ i = 2 ∨ i = 3 ∨ i = 4 ∨ i = 5 ∨ i = 6 ∨ i = 7 := by omega
  rcases hcase with rfl | rfl | rfl | rfl | rfl | rfl | rfl | rfl <;> rfl
theorem cfg_bnd' {c : Cfg} (h : checkB c = true) : (1 ≤ c.cores ∧ c.cores ≤ 64) ∧ (1 ≤ c.homes ∧ c.homes ≤ 16) ∧ (1 ≤ c.words ∧ c.words ≤ 8) ∧ (1 ≤ c.lines ∧ c.lines ≤ 1024) := by
  simp only [checkB, fitsB, Bool.and_eq_true, decide_eq_true_eq] at h
  omega
end Go.Sx
