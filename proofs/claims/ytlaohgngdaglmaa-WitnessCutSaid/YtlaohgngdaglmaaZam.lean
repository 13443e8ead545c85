/- Qu2, Qu3, Hom: several of my texts as one. My own work. -/
import Derived.Test.YtlaohgngdaglmaaZad
import Derived.Test.YtlaohgngdaglmaaZaa
import Derived.Test.YtlaohgngdaglmaaZal
import Derived.Test.YtlaohgngdaglmaaZaf
import Derived.Test.YtlaohgngdaglmaaZai
/- What queues do: the program's functions. My own work. -/
namespace Go.Sx
open Go Go.Proofs
set_option linter.unusedVariables false
set_option linter.unusedSectionVars false
set_option linter.unusedSimpArgs false
set_option maxRecDepth 100000
set_option maxHeartbeats 4000000
attribute [local irreducible] Go.Exit.then Go.Exit.inBlock Go.Code.wp WC WO WE WQ V LoopQ FnQ Sat Star band bor IntKind.wrap WR Code.rounds WT KO
abbrev QuP := QuB 168 68

theorem qu_New {F : List HP} {room : Int} (h : 1 ≤ room ∧ room ≤ 16) : FnF Try.prog 36 [.int .i64 room] [] F (fun r L' => ∃ b, r = .tuple [.pointer (some ⟨b, 0, none⟩), .int .i64 0].toArray ∧ L' = [QuP b room []]) := by
  refine FnF.mk' Try.func36 rfl rfl Try.ntmps36 rfl ?_
  repeat (first | rintro _ _ ⟨rfl, rfl⟩ | refine exq fun _ => ?_ | intro _ | refine go ?_ | refine drq ?_)
  (apply WE_ret rfl rfl (by (repeat (first | exact ResOk.nil | (apply ResOk.tmp; rfl) | (apply resOk_cell; rfl; exact inferInstance; rfl; rfl)))))
  · exact ⟨_, rfl, rfl⟩
  · exact qu_in (ps := []) (Ent.cons (own_empty all_nil)) rfl rfl rfl (by simp; omega) h.2 (by simp)
theorem qu_New_no {F : List HP} {room : Int} (h : ¬ (1 ≤ room ∧ room ≤ 16)) : FnF Try.prog 36 [.int .i64 room] [] F (fun r L' => r = .tuple [.pointer none, .int .i64 1].toArray ∧ L' = []) := by
  refine FnF.mk' Try.func36 rfl rfl Try.ntmps36 rfl ?_
  repeat' (first | rintro _ _ ⟨rfl, rfl⟩ | refine exq fun _ => ?_ | intro _ | refine go ?_ | refine drq ?_ | refine spl ?_ ?_ | fail)
  all_goals first | omega | exact fin0

theorem qu_Left {F : List HP} {b : Nat} {room : Int} {l : List QE} : FnF Try.prog 98 [.pointer (some ⟨b, 0, none⟩)] [QuP b room l] F (fun r L' => r = .int .i64 (room - l.length) ∧ L' = [QuP b room l]) := by
  refine FnF.mk' Try.func98 rfl rfl Try.ntmps98 rfl ?_
  refine qu_open fun p c ps hf => ?_
  obtain ⟨rfl, h1, h2, h3, hcp⟩ := hf
  repeat (first | rintro _ _ ⟨rfl, rfl⟩ | refine exq fun _ => ?_ | intro _ | refine go ?_ | refine drq ?_)
  (apply WE_ret rfl rfl (by (repeat (first | exact ResOk.nil | (apply ResOk.tmp; rfl) | (apply resOk_cell; rfl; exact inferInstance; rfl; rfl)))))
  · exact ⟨by rw [List.length_map]; rfl, rfl⟩
  · ((repeat (first | (with_reducible exact Ent.refl) | exact Ent.nil | (apply ent_pickE; (focus ((repeat (first | (with_reducible exact pk_here) | (apply pk_there))); done))) | (apply qu_in) | apply Ent.drop)); all_goals (first | rfl | (with_reducible assumption) | (simp; done) | (simp; omega) | omega | (constructor <;> (simp) <;> omega)))

theorem qu_has {F : List HP} {b : Nat} {room : Int} {l : List QE} {n : Int} : FnF Try.prog 99 [.pointer (some ⟨b, 0, none⟩), .int .i64 n] [QuP b room l] F (fun r L' => r = .bool (qin l n) ∧ L' = [QuP b room l]) := by
  refine FnF.mk' Try.func99 rfl rfl Try.ntmps99 rfl ?_
  refine qu_open fun p c ps hf => ?_
  obtain ⟨rfl, h1, h2, h3, hcp⟩ := hf
  by_cases h : 0 ≤ n
  · repeat (first | rintro _ _ ⟨rfl, rfl⟩ | refine exq fun _ => ?_ | intro _ | refine go ?_ | refine drq ?_)
    (apply WE_ret rfl rfl (by (repeat (first | exact ResOk.nil | (apply ResOk.tmp; rfl) | (apply resOk_cell; rfl; exact inferInstance; rfl; rfl)))))
    · exact ⟨by simp [qin, h], rfl⟩
    · ((repeat (first | (with_reducible exact Ent.refl) | exact Ent.nil | (apply ent_pickE; (focus ((repeat (first | (with_reducible exact pk_here) | (apply pk_there))); done))) | (apply qu_in) | apply Ent.drop)); all_goals (first | rfl | (with_reducible assumption) | (simp; done) | (simp; omega) | omega | (constructor <;> (simp) <;> omega)))
  · repeat (first | rintro _ _ ⟨rfl, rfl⟩ | refine exq fun _ => ?_ | intro _ | refine go ?_ | refine drq ?_)
    (apply WE_ret rfl rfl (by (repeat (first | exact ResOk.nil | (apply ResOk.tmp; rfl) | (apply resOk_cell; rfl; exact inferInstance; rfl; rfl)))))
    · exact ⟨by simp [qin, h], rfl⟩
    · ((repeat (first | (with_reducible exact Ent.refl) | exact Ent.nil | (apply ent_pickE; (focus ((repeat (first | (with_reducible exact pk_here) | (apply pk_there))); done))) | (apply qu_in) | apply Ent.drop)); all_goals (first | rfl | (with_reducible assumption) | (simp; done) | (simp; omega) | omega | (constructor <;> (simp) <;> omega)))

theorem qu_Ready1 {F : List HP} {b : Nat} {line : Int} {T : TypeId} {C : List Value → List HP} {e : QP} (k : CellsAt b F T [.int .i64 line] C) :
    FnF Try.prog 101 [qv e, .pointer (some ⟨b, 0, none⟩)] [] F (fun r L' => r = .bool (decide (e.1.m.line = line)) ∧ L' = []) := by
  refine FnF.mk' Try.func101 rfl rfl Try.ntmps101 rfl ?_
  repeat (first | rintro _ _ ⟨rfl, rfl⟩ | refine exq fun _ => ?_ | intro _ | refine go ?_ | refine drq ?_)
  exact fin0
theorem qu_contains {F : List HP} {b : Nat} {line : Int} {T : TypeId} {C : List Value → List HP} {v : Value} {l : List QP} (k1 : CellsAt b F T [.int .i64 line] C) (k : RdL F 17 v l.length (flat qc l)) (hn : l.length ≤ 1099511627776) :
    FnF Try.prog 100 [v, .func (.func 101) [].toArray [.pointer (some ⟨b, 0, none⟩)].toArray] [] F (fun r L' => r = .bool (decide (0 ≤ indexBy (fun e : QP => decide (e.1.m.line = line)) l)) ∧ L' = []) := by
  have hI := sl_IndexFunc_qe (F := F) (first := []) (cap := [.pointer (some ⟨b, 0, none⟩)]) (fk := 101) (p := fun e => decide (e.1.m.line = line)) k hn (fun x _ => qu_Ready1 k1)
  refine FnF.mk' Try.func100 rfl rfl Try.ntmps100 rfl ?_
  repeat (first | rintro _ _ ⟨rfl, rfl⟩ | refine exq fun _ => ?_ | intro _ | refine go ?_ | refine drq ?_ | refine cal @hI ?_)
  exact fin0
theorem qfree_ix {ps : List QP} {n : Nat} {line : Int} : qfree (ps.map (·.1)) n line = decide (indexBy (fun e : QP => decide (e.1.m.line = line)) (ps.take n) < 0) := by
  rcases Int.lt_or_le (indexBy (fun e : QP => decide (e.1.m.line = line)) (ps.take n)) 0 with h | h
  · obtain ⟨h1, h2⟩ := indexBy_neg (p := fun e : QP => decide (e.1.m.line = line)) (l := ps.take n) (by omega)
    have : qfree (ps.map (·.1)) n line = true := by
      simp only [qfree, ← List.map_take, List.all_map, List.all_eq_true]
      intro x hx
      have := h2 x hx
      simpa using this
    rw [this, dec_t h]
  · obtain ⟨i, hi, h1, h2, h3⟩ := indexBy_nat h
    have : qfree (ps.map (·.1)) n line = false := by
      simp only [qfree, ← List.map_take, List.all_map, List.all_eq_false]
      exact ⟨_, List.getElem_mem hi, by simpa using h2⟩
    rw [this, dec_f (by omega)]

theorem qu_Ready {F : List HP} {b : Nat} {room : Int} {l : List QE} {n : Int} : FnF Try.prog 67 [.pointer (some ⟨b, 0, none⟩), .int .i64 n] [QuP b room l] F (fun r L' => r = .bool (qready l n) ∧ L' = [QuP b room l]) := by
  have hH := fun F => qu_has (F := F) (b := b) (room := room) (l := l) (n := n)
  cases e : qin l n with
  | false =>
    rw [e] at hH
    refine FnF.mk' Try.func67 rfl rfl Try.ntmps67 rfl ?_
    repeat (first | rintro _ _ ⟨rfl, rfl⟩ | refine exq fun _ => ?_ | intro _ | refine go ?_ | refine drq ?_ | refine cal @hH ?_)
    (apply WE_ret rfl rfl (by (repeat (first | exact ResOk.nil | (apply ResOk.tmp; rfl) | (apply resOk_cell; rfl; exact inferInstance; rfl; rfl)))))
    · exact ⟨by simp [qready, e], rfl⟩
    · exact entu0
  | true =>
    rw [e] at hH
    obtain ⟨i, hi, rfl, ea⟩ := qin_t e
    refine FnF.mk' Try.func67 rfl rfl Try.ntmps67 rfl ?_
    repeat (first | rintro _ _ ⟨rfl, rfl⟩ | refine exq fun _ => ?_ | intro _ | refine go ?_ | refine cal @hH ?_)
    (first | refine WO_front (QuP b room l) ?_ | refine WC_front (QuP b room l) ?_ | refine WE_front (QuP b room l) ?_)
    refine qu_openO fun p c ps hf => ?_
    obtain ⟨rfl, h1, h2, h3, hcp⟩ := hf
    have hi' : i < ps.length := by simpa using hi
    have hst : (ps.map (·.1))[i] = ps[i].1 := by simp
    rw [hst] at ea
    cases es : ps[i].1.st with
    | true =>
      repeat (first | rintro _ _ ⟨rfl, rfl⟩ | refine exq fun _ => ?_ | intro _ | refine go ?_ | refine drq ?_)
      (apply WE_ret rfl rfl (by (repeat (first | exact ResOk.nil | (apply ResOk.tmp; rfl) | (apply resOk_cell; rfl; exact inferInstance; rfl; rfl)))))
      · exact ⟨by simp [qready, ea, es], rfl⟩
      · ((repeat (first | (with_reducible exact Ent.refl) | exact Ent.nil | (apply ent_pickE; (focus ((repeat (first | (with_reducible exact pk_here) | (apply pk_there))); done))) | (apply qu_in) | apply Ent.drop)); all_goals (first | rfl | (with_reducible assumption) | (simp; done) | (simp; omega) | omega | (constructor <;> (simp) <;> omega)))
    | false =>
      have htl : (ps.take i).length = i := by rw [List.length_take]; omega
      haveI kr := fun L => rd_low (T := 68) (p := p) (c := c) (i := i) (ps := ps) (by omega) hcp L
      repeat (first | rintro _ _ ⟨rfl, rfl⟩ | refine exq fun _ => ?_ | intro _ | refine go ?_ | refine drq ?_ | refine cal @qu_contains ?_)
      (apply WE_ret rfl rfl (by (repeat (first | exact ResOk.nil | (apply ResOk.tmp; rfl) | (apply resOk_cell; rfl; exact inferInstance; rfl; rfl)))))
      · exact ⟨by simp [qready, ea, es, e, qfree_ix], rfl⟩
      · ((repeat (first | (with_reducible exact Ent.refl) | exact Ent.nil | (apply ent_pickE; (focus ((repeat (first | (with_reducible exact pk_here) | (apply pk_there))); done))) | (apply qu_in) | apply Ent.drop)); all_goals (first | rfl | (with_reducible assumption) | (simp; done) | (simp; omega) | omega | (constructor <;> (simp) <;> omega)))

theorem splice_st {ps : List QP} {i : Nat} (hi : i < ps.length) (b : Bool) : splice (flat qc ps) (i * 17 + 15) [.bool b] = flat qc (ps.set i ((⟨ps[i].1.m, b, ps[i].1.sends⟩ : QE), ps[i].2)) :=
  splice_flatJ (enc := qc) (n := 17) (fun _ => rfl) ps i hi (j := 15) (cs := [.bool b]) (x := ((⟨ps[i].1.m, b, ps[i].1.sends⟩ : QE), ps[i].2)) (by simp) rfl
theorem splice_sd {ps : List QP} {i : Nat} (hi : i < ps.length) (s : List Msg) (a : Option Addr) (c : Nat) : splice (flat qc ps) (i * 17 + 16) [.slice a s.length c] = flat qc (ps.set i ((⟨ps[i].1.m, ps[i].1.st, s⟩ : QE), (a, c))) :=
  splice_flatJ (enc := qc) (n := 17) (fun _ => rfl) ps i hi (j := 16) (cs := [.slice a s.length c]) (x := ((⟨ps[i].1.m, ps[i].1.st, s⟩ : QE), (a, c))) (by simp) rfl

theorem dr_Qu2_65 {Q P : Prop} (k : Q) (h : Hid Q → P := by
  intro k
  first
  | (refine is_draw ?_; apply WC_mix (id := 5) .true _ (pl := .p 0 <| .p 1 <| .p 2 <| .p 3 <| .r 4 <| .r 5 <| .p 6 <| .e true [(7, .e true [(8, .p 9 <| .p 10 <| .e false [(11, .done)])])]); exact mixed; kernel_rfl; kernel_rfl; exact Ent.refl; exact k.out)) : P := h ⟨k⟩
theorem qu_Add {F : List HP} {b : Nat} {room : Int} {l : List QE} {m : Msg} : FnF Try.prog 65 [.pointer (some ⟨b, 0, none⟩), mv m] [QuP b room l] F (fun r L' => r = .int .i64 (qaddE room l m) ∧ L' = [QuP b room (qaddL room l m)]) := by
  refine FnF.mk' Try.func65 rfl rfl Try.ntmps65 rfl ?_
  by_cases hk : m.kind < 1 ∨ m.kind > 3
  · have e : qaddE room l m = 1 := by simp only [qaddE, if_pos hk]
    have e2 : qaddL room l m = l := by simp [qaddL, e]
    rw [e, e2]
    by_cases h1 : m.kind < 1
    · repeat (first | rintro _ _ ⟨rfl, rfl⟩ | refine exq fun _ => ?_ | intro _ | refine go ?_ | refine dr_Qu2_65 ?_ | refine drq ?_)
      exact fin0
    · repeat (first | rintro _ _ ⟨rfl, rfl⟩ | refine exq fun _ => ?_ | intro _ | refine go ?_ | refine dr_Qu2_65 ?_ | refine drq ?_)
      exact fin0
  · by_cases hf : (l.length : Int) = room
    · have e : qaddE room l m = 4 := by simp only [qaddE, if_neg hk, if_pos hf]
      have e2 : qaddL room l m = l := by simp [qaddL, e]
      rw [e, e2]
      repeat (first | rintro _ _ ⟨rfl, rfl⟩ | refine exq fun _ => ?_ | intro _ | refine go ?_ | refine dr_Qu2_65 ?_ | refine drq ?_ | refine cal @qu_Left ?_)
      exact fin0
    · have e : qaddE room l m = 0 := by simp only [qaddE, if_neg hk, if_neg hf]
      have e2 : qaddL room l m = l ++ [⟨m, false, []⟩] := by simp [qaddL, e]
      rw [e, e2]
      repeat (first | rintro _ _ ⟨rfl, rfl⟩ | refine exq fun _ => ?_ | intro _ | refine go ?_ | refine cal @qu_Left ?_)
      (first | refine WO_front (QuP b room l) ?_ | refine WC_front (QuP b room l) ?_ | refine WE_front (QuP b room l) ?_)
      refine qu_open fun p c ps hf => ?_
      obtain ⟨rfl, h1, h2, h3, hcp⟩ := hf
      repeat (first | rintro _ _ ⟨rfl, rfl⟩ | refine exq fun _ => ?_ | intro _ | refine go ?_ | refine dr_Qu2_65 ?_ | refine drq ?_)
      (apply WE_ret rfl rfl (by (repeat (first | exact ResOk.nil | (apply ResOk.tmp; rfl) | (apply resOk_cell; rfl; exact inferInstance; rfl; rfl)))))
      · exact ⟨rfl, rfl⟩
      · rw [List.length_map] at hf
        apply qu_in (ps := ps ++ [((⟨m, false, []⟩ : QE), (none, 0))])
        · ((repeat (first | (with_reducible exact Ent.refl) | exact Ent.nil | (apply ent_pickE; (focus ((repeat (first | (with_reducible exact pk_here) | (apply pk_there))); done))) | (apply all_add0) | apply Ent.drop)); all_goals (first | rfl | (with_reducible assumption) | (simp; done) | (simp; omega) | omega | (constructor <;> (simp) <;> omega)))
        · simp
        · simp
        · rw [flat_append, flat_one]; rfl
        · simp; omega
        · exact h2
        · intro p hp
          rcases List.mem_append.1 hp with h | h
          · exact h3 p h
          · rw [List.mem_singleton.1 h]; simp

theorem headD_at {l : List Msg} {z : Msg} (h : 0 < l.length) : l.headD z = l[(0 : Int).toNat]'h := by
  cases l with
  | nil => simp at h
  | cons a r => rfl
theorem map_erase {α β : Type} (f : α → β) (l : List α) (i : Nat) : (l.eraseIdx i).map f = (l.map f).eraseIdx i := by
  induction l generalizing i with
  | nil => rfl
  | cons a r ih => cases i with
    | zero => rfl
    | succ i => simp [ih]
theorem qset_map {ps : List QP} {i : Nat} {x : QP} : (ps.set i x).map (·.1) = (ps.map (·.1)).set i x.1 := by rw [List.map_set]
theorem qcap_set {ps : List QP} {i : Nat} {x : QP} (h3 : ∀ p ∈ ps, p.1.sends.length ≤ p.2.2 ∧ p.1.sends.length ≤ 1000) (hx : x.1.sends.length ≤ x.2.2 ∧ x.1.sends.length ≤ 1000) : ∀ p ∈ ps.set i x, p.1.sends.length ≤ p.2.2 ∧ p.1.sends.length ≤ 1000 := by
  intro p hp
  rcases List.mem_or_eq_of_mem_set hp with h | h
  · exact h3 p h
  · rw [h]; exact hx

theorem dr_Qu2_102 {Q P : Prop} (k : Q) (h : Hid Q → P := by
  intro k
  first
  | (refine is_draw ?_; apply WC_mix (id := 5) .false _ (pl := .p 0 <| .p 1 <| .p 2 <| .p 4 <| .p 5 <| .p 6 <| .p 7 <| .p 9 <| .p 10 <| .r 3 <| .r 8 <| .e true [(11, .p 12 <| .p 13 <| .e true [(14, .p 15 <| .p 16 <| .e false [(17, .done)])])]); exact mixed; kernel_rfl; kernel_rfl; exact Ent.refl; exact k.out)) : P := h ⟨k⟩
theorem qu_Start {F : List HP} {b : Nat} {room : Int} {l : List QE} {n : Int} {u : Value} {s : List Msg} (k : RdL F 15 u s.length (flat mc s)) (hs : s.length ≤ 1000) :
    FnF Try.prog 102 [.pointer (some ⟨b, 0, none⟩), .int .i64 n, u] [QuP b room l] F (fun r L' => r = .int .i64 (qstartE l n s) ∧ L' = [QuP b room (qstartL l n s)]) := by
  have hH := fun F => qu_has (F := F) (b := b) (room := room) (l := l) (n := n)
  have hR := fun F => qu_Ready (F := F) (b := b) (room := room) (l := l) (n := n)
  cases e : qin l n with
  | false =>
    have e1 : qstartE l n s = 5 := by simp [qstartE, e]
    have e2 : qstartL l n s = l := by simp [qstartL, e1]
    rw [e1, e2]
    rw [e] at hH
    refine FnF.mk' Try.func102 rfl rfl Try.ntmps102 rfl ?_
    repeat (first | rintro _ _ ⟨rfl, rfl⟩ | refine exq fun _ => ?_ | intro _ | refine go ?_ | refine dr_Qu2_102 ?_ | refine drq ?_ | refine cal @hH ?_)
    exact fin0
  | true =>
    rw [e] at hH
    cases er : qready l n with
    | false =>
      have e1 : qstartE l n s = 7 := by simp [qstartE, e, er]
      have e2 : qstartL l n s = l := by simp [qstartL, e1]
      rw [e1, e2]
      rw [er] at hR
      refine FnF.mk' Try.func102 rfl rfl Try.ntmps102 rfl ?_
      repeat (first | rintro _ _ ⟨rfl, rfl⟩ | refine exq fun _ => ?_ | intro _ | refine go ?_ | refine dr_Qu2_102 ?_ | refine drq ?_ | refine cal @hH ?_ | refine cal @hR ?_)
      exact fin0
    | true =>
      rw [er] at hR
      by_cases hz : s.length = 0
      · have e1 : qstartE l n s = 7 := by simp [qstartE, e, er, hz]
        have e2 : qstartL l n s = l := by simp [qstartL, e1]
        rw [e1, e2]
        refine FnF.mk' Try.func102 rfl rfl Try.ntmps102 rfl ?_
        repeat (first | rintro _ _ ⟨rfl, rfl⟩ | refine exq fun _ => ?_ | intro _ | refine go ?_ | refine dr_Qu2_102 ?_ | refine drq ?_ | refine cal @hH ?_ | refine cal @hR ?_)
        exact fin0
      · have e1 : qstartE l n s = 0 := by simp [qstartE, e, er, hz]
        obtain ⟨i, hi, rfl, ea⟩ := qin_t e
        have e2 : qstartL l i s = l.set i { l[i] with st := true, sends := s } := by simp [qstartL, e1, ea]
        rw [e1, e2]
        refine FnF.mk' Try.func102 rfl rfl Try.ntmps102 rfl ?_
        repeat (first | rintro _ _ ⟨rfl, rfl⟩ | refine exq fun _ => ?_ | intro _ | refine go ?_ | refine cal @hH ?_ | refine cal @hR ?_)
        (first | refine WO_front (QuP b room l) ?_ | refine WC_front (QuP b room l) ?_ | refine WE_front (QuP b room l) ?_)
        refine qu_open fun p c ps hf => ?_
        obtain ⟨rfl, h1, h2, h3, hcp⟩ := hf
        have hi' : i < ps.length := by simpa using hi
        (first | (refine WO_some (.slice p ps.length c) inferInstance (by omega) ?_; intro _) | (refine WC_some (.slice p ps.length c) inferInstance (by omega) ?_; intro _))
        repeat (first | rintro _ _ ⟨rfl, rfl⟩ | refine exq fun _ => ?_ | intro _ | refine go ?_ | refine dr_Qu2_102 ?_ | refine drq ?_ | refine cal @sl_Clone_msg ?_)
        rename_i p' c'
        have hi2 : i < (ps.set i ((⟨ps[i].1.m, true, ps[i].1.sends⟩ : QE), ps[i].2)).length := by simpa using hi'
        rw [splice_st hi' true, splice_sd hi2]
        simp only [List.getElem_set_self, List.set_set]
        have hset := fun L M => @all_set ps i hi' ((⟨ps[i].1.m, true, s⟩ : QE), (p', c')) 59 L M
        (first | refine WO_front (Own 59 15 (.slice p' s.length c') s.length (flat mc s)) ?_ | refine WC_front (Own 59 15 (.slice p' s.length c') s.length (flat mc s)) ?_ | refine WE_front (Own 59 15 (.slice p' s.length c') s.length (flat mc s)) ?_)
        refine WE_owncap fun hc' => ?_
        (apply WE_ret rfl rfl (by (repeat (first | exact ResOk.nil | (apply ResOk.tmp; rfl) | (apply resOk_cell; rfl; exact inferInstance; rfl; rfl)))))
        · exact ⟨rfl, rfl⟩
        · apply qu_in (ps := ps.set i ((⟨ps[i].1.m, true, s⟩ : QE), (p', c')))
          · ((repeat (first | (with_reducible exact Ent.refl) | exact Ent.nil | (apply ent_pickE; (focus ((repeat (first | (with_reducible exact pk_here) | (apply pk_there))); done))) | (apply hset) | apply Ent.drop)); all_goals (first | rfl | (with_reducible assumption) | (simp; done) | (simp; omega) | omega | (constructor <;> (simp) <;> omega)))
          · rw [qset_map]; simp
          · simp
          · rfl
          · simpa using h1
          · exact h2
          · exact qcap_set h3 ⟨hc', hs⟩

theorem qu_Next {F : List HP} {b : Nat} {room : Int} {l : List QE} {n : Int} : FnF Try.prog 69 [.pointer (some ⟨b, 0, none⟩), .int .i64 n] [QuP b room l] F (fun r L' => r = .tuple [mv (qnextM l n), .bool (qnextB l n)].toArray ∧ L' = [QuP b room l]) := by
  have hH := fun F => qu_has (F := F) (b := b) (room := room) (l := l) (n := n)
  cases e : qin l n with
  | false =>
    have e1 : qnextB l n = false := by simp [qnextB, e]
    rw [e] at hH
    refine FnF.mk' Try.func69 rfl rfl Try.ntmps69 rfl ?_
    repeat (first | rintro _ _ ⟨rfl, rfl⟩ | refine exq fun _ => ?_ | intro _ | refine go ?_ | refine drq ?_ | refine cal @hH ?_)
    (apply WE_ret rfl rfl (by (repeat (first | exact ResOk.nil | (apply ResOk.tmp; rfl) | (apply resOk_cell; rfl; exact inferInstance; rfl; rfl)))))
    · exact ⟨by simp [qnextM, e1, Msg.zero, Words.zero], rfl⟩
    · exact entu0
  | true =>
    rw [e] at hH
    obtain ⟨i, hi, rfl, ea⟩ := qin_t e
    refine FnF.mk' Try.func69 rfl rfl Try.ntmps69 rfl ?_
    repeat (first | rintro _ _ ⟨rfl, rfl⟩ | refine exq fun _ => ?_ | intro _ | refine go ?_ | refine cal @hH ?_)
    (first | refine WO_front (QuP b room l) ?_ | refine WC_front (QuP b room l) ?_ | refine WE_front (QuP b room l) ?_)
    refine qu_openO fun p c ps hf => ?_
    obtain ⟨rfl, h1, h2, h3, hcp⟩ := hf
    have hi' : i < ps.length := by simpa using hi
    have hst : (ps.map (·.1))[i] = ps[i].1 := by simp
    rw [hst] at ea
    by_cases hz : ps[i].1.sends.length = 0
    · have e1 : qnextB (ps.map (·.1)) i = false := by simp [qnextB, ea, hz]
      repeat (first | rintro _ _ ⟨rfl, rfl⟩ | refine exq fun _ => ?_ | intro _ | refine go ?_ | refine drq ?_)
      (apply WE_ret rfl rfl (by (repeat (first | exact ResOk.nil | (apply ResOk.tmp; rfl) | (apply resOk_cell; rfl; exact inferInstance; rfl; rfl)))))
      · exact ⟨by simp [qnextM, e1, Msg.zero, Words.zero], rfl⟩
      · ((repeat (first | (with_reducible exact Ent.refl) | exact Ent.nil | (apply ent_pickE; (focus ((repeat (first | (with_reducible exact pk_here) | (apply pk_there))); done))) | (apply qu_in) | apply Ent.drop)); all_goals (first | rfl | (with_reducible assumption) | (simp; done) | (simp; omega) | omega | (constructor <;> (simp) <;> omega)))
    · have e1 : qnextB (ps.map (·.1)) i = true := by simp [qnextB, ea, hz, e]
      haveI kr := fun L => rd_all (ps := ps) (p := ps[i]) (List.getElem_mem hi') (L := L)
      have hq : qnextM (ps.map (·.1)) i = ps[i].1.sends[Int.toNat 0] := by simp only [qnextM, e1, if_true, ea]; exact headD_at (by omega)
      repeat (first | rintro _ _ ⟨rfl, rfl⟩ | refine exq fun _ => ?_ | intro _ | refine go ?_ | refine drq ?_)
      (apply WE_ret rfl rfl (by (repeat (first | exact ResOk.nil | (apply ResOk.tmp; rfl) | (apply resOk_cell; rfl; exact inferInstance; rfl; rfl)))))
      · exact ⟨by rw [hq, e1]; rfl, rfl⟩
      · ((repeat (first | (with_reducible exact Ent.refl) | exact Ent.nil | (apply ent_pickE; (focus ((repeat (first | (with_reducible exact pk_here) | (apply pk_there))); done))) | (apply qu_in) | apply Ent.drop)); all_goals (first | rfl | (with_reducible assumption) | (simp; done) | (simp; omega) | omega | (constructor <;> (simp) <;> omega)))

theorem qu_Sent {F : List HP} {b : Nat} {room : Int} {l : List QE} {n : Int} : FnF Try.prog 71 [.pointer (some ⟨b, 0, none⟩), .int .i64 n] [QuP b room l] F (fun r L' => r = .int .i64 (qsentE l n) ∧ L' = [QuP b room (qsentL l n)]) := by
  have hH := fun F => qu_has (F := F) (b := b) (room := room) (l := l) (n := n)
  cases e : qin l n with
  | false =>
    have e1 : qsentE l n = 5 := by simp [qsentE, e]
    have e2 : qsentL l n = l := by simp [qsentL, e1]
    rw [e1, e2]
    rw [e] at hH
    refine FnF.mk' Try.func71 rfl rfl Try.ntmps71 rfl ?_
    repeat (first | rintro _ _ ⟨rfl, rfl⟩ | refine exq fun _ => ?_ | intro _ | refine go ?_ | refine drq ?_ | refine cal @hH ?_)
    exact fin0
  | true =>
    rw [e] at hH
    obtain ⟨i, hi, rfl, ea⟩ := qin_t e
    by_cases hz : l[i].sends.length = 0
    · have e1 : qsentE l i = 7 := by simp [qsentE, e, ea, hz]
      have e2 : qsentL l i = l := by simp [qsentL, e1]
      rw [e1, e2]
      refine FnF.mk' Try.func71 rfl rfl Try.ntmps71 rfl ?_
      repeat (first | rintro _ _ ⟨rfl, rfl⟩ | refine exq fun _ => ?_ | intro _ | refine go ?_ | refine cal @hH ?_)
      (first | refine WO_front (QuP b room l) ?_ | refine WC_front (QuP b room l) ?_ | refine WE_front (QuP b room l) ?_)
      refine qu_openO fun p c ps hf => ?_
      obtain ⟨rfl, h1, h2, h3, hcp⟩ := hf
      have hi' : i < ps.length := by simpa using hi
      rw [List.getElem_map] at hz
      repeat (first | rintro _ _ ⟨rfl, rfl⟩ | refine exq fun _ => ?_ | intro _ | refine go ?_ | refine drq ?_)
      (apply WE_ret rfl rfl (by (repeat (first | exact ResOk.nil | (apply ResOk.tmp; rfl) | (apply resOk_cell; rfl; exact inferInstance; rfl; rfl)))))
      · exact ⟨rfl, rfl⟩
      · ((repeat (first | (with_reducible exact Ent.refl) | exact Ent.nil | (apply ent_pickE; (focus ((repeat (first | (with_reducible exact pk_here) | (apply pk_there))); done))) | (apply qu_in) | apply Ent.drop)); all_goals (first | rfl | (with_reducible assumption) | (simp; done) | (simp; omega) | omega | (constructor <;> (simp) <;> omega)))
    · have e1 : qsentE l i = 0 := by simp [qsentE, e, ea, hz]
      have e2 : qsentL l i = if l[i].sends.length = 1 ∧ l[i].m.kind = 3 then l.eraseIdx i else l.set i { l[i] with sends := l[i].sends.drop 1 } := by simp [qsentL, e1, ea]
      rw [e1, e2]
      refine FnF.mk' Try.func71 rfl rfl Try.ntmps71 rfl ?_
      repeat (first | rintro _ _ ⟨rfl, rfl⟩ | refine exq fun _ => ?_ | intro _ | refine go ?_ | refine cal @hH ?_)
      (first | refine WO_front (QuP b room l) ?_ | refine WC_front (QuP b room l) ?_ | refine WE_front (QuP b room l) ?_)
      refine qu_openO fun p c ps hf => ?_
      obtain ⟨rfl, h1, h2, h3, hcp⟩ := hf
      have hi' : i < ps.length := by simpa using hi
      rw [List.getElem_map] at hz ⊢
      have hcx := h3 _ (List.getElem_mem hi')
      have hx : cut (.slice ps[i].2.1 ps[i].1.sends.length ps[i].2.2) (Int.toNat 1) ps[i].1.sends.length ps[i].1.sends.length 15 = .slice (if ps[i].1.sends.length = 1 then ps[i].2.1 else ps[i].2.1.map (·.add (1 * 15))) (ps[i].1.sends.drop 1).length (ps[i].1.sends.length - 1) := by
        rw [List.length_drop]; rfl
      have hsp := splice_sd hi' (ps[i].1.sends.drop 1) (if ps[i].1.sends.length = 1 then ps[i].2.1 else ps[i].2.1.map (·.add (1 * 15))) (ps[i].1.sends.length - 1)
      have htl := fun L M => @all_tail ps i hi' ((⟨ps[i].1.m, ps[i].1.st, ps[i].1.sends.drop 1⟩ : QE), (if ps[i].1.sends.length = 1 then ps[i].2.1 else ps[i].2.1.map (·.add (1 * 15)), ps[i].1.sends.length - 1)) L M (by omega) hcx.1 rfl hx.symm
      (first | (refine WO_some (.slice p ps.length c) inferInstance (by omega) ?_; intro _) | (refine WC_some (.slice p ps.length c) inferInstance (by omega) ?_; intro _))
      repeat (first | rintro _ _ ⟨rfl, rfl⟩ | refine exq fun _ => ?_ | intro _ | refine go ?_ | refine drq ?_)
      refine WO_v (v_slice rfl (Bnd.some rfl (by omega)) (bnd_nat rfl) (bnd_nat rfl) (fun h => h) (by omega) (by omega) (by omega)) rfl ?_
      rw [hx]
      repeat (first | rintro _ _ ⟨rfl, rfl⟩ | refine exq fun _ => ?_ | intro _ | refine go ?_ | refine drq ?_)
      rw [hsp]
      generalize hX : (⟨ps[i].1.m, ps[i].1.st, ps[i].1.sends.drop 1⟩ : QE) = X at htl ⊢
      generalize hY : ((if ps[i].1.sends.length = 1 then ps[i].2.1 else ps[i].2.1.map (·.add (1 * 15)), ps[i].1.sends.length - 1) : Option Addr × Nat) = Y at htl ⊢
      have hi2 : i < (ps.set i (X, Y)).length := by simpa using hi'
      have hk2 : (ps.set i (X, Y))[i].1.m.kind = ps[i].1.m.kind := by simp [← hX]
      have hln : (ps.set i (X, Y)).length = ps.length := by simp
      have hc2 := qcap_set (i := i) (x := (X, Y)) h3 (by rw [← hX, ← hY]; simp; omega)
      by_cases hd : ps[i].1.sends.length = 1 ∧ ps[i].1.m.kind = 3
      · obtain ⟨hd1, hd2⟩ := hd
        have hk3 : (ps.set i (X, Y))[i].1.m.kind = 3 := by rw [hk2]; exact hd2
        rw [if_pos (show ps[i].1.sends.length = 1 ∧ ps[i].1.m.kind = 3 from ⟨hd1, hd2⟩)]
        repeat (first | rintro _ _ ⟨rfl, rfl⟩ | refine exq fun _ => ?_ | intro _ | refine go ?_ | refine drq ?_)
        refine cal (@sl_Delete_qe (i := i) (j := i + 1)) ?_
        repeat (first | rintro _ _ ⟨rfl, rfl⟩ | refine exq fun _ => ?_ | intro _ | refine go ?_ | refine drq ?_)
        (apply WE_ret rfl rfl (by (repeat (first | exact ResOk.nil | (apply ResOk.tmp; rfl) | (apply resOk_cell; rfl; exact inferInstance; rfl; rfl)))))
        · exact ⟨rfl, rfl⟩
        · apply qu_in (ps := (ps.set i (X, Y)).eraseIdx i)
          · rw [List.eraseIdx_set_eq]
            ((repeat (first | (with_reducible exact Ent.refl) | exact Ent.nil | (apply ent_pickE; (focus ((repeat (first | (with_reducible exact pk_here) | (apply pk_there))); done))) | (apply all_era) | apply Ent.drop)); all_goals (first | rfl | (with_reducible assumption) | (simp; done) | (simp; omega) | omega | (constructor <;> (simp) <;> omega)))
          · rw [List.eraseIdx_set_eq, map_erase]
          · rw [List.length_eraseIdx, hln]; split <;> omega
          · rw [flat_take (enc := qc) (n := 17) (fun _ => rfl), flat_drop (enc := qc) (n := 17) (fun _ => rfl)]
            simp [List.eraseIdx_eq_take_drop_succ]
          · rw [List.length_eraseIdx, hln]; split <;> omega
          · exact h2
          · exact fun p hp => hc2 p (List.mem_of_mem_eraseIdx hp)
      · rw [if_neg hd]
        have hend : ∀ {L M : List HP} {p : Option Addr} {c : Nat}, Ent L (Cells b 168 [.int .i64 room, .slice p ps.length c] :: Own 68 17 (.slice p ps.length c) ps.length (flat qc (ps.set i (X, Y))) :: All ((ps.set i (X, Y)).map qrd) :: M) → Ent L (QuP b room ((ps.map (·.1)).set i X) :: M) := fun h =>
          qu_in (ps := ps.set i (X, Y)) h (by rw [qset_map]) (by rw [hln]) rfl (by rw [hln]; exact h1) h2 hc2
        by_cases hd1 : ps[i].1.sends.length = 1
        · have hk3 : (ps.set i (X, Y))[i].1.m.kind ≠ 3 := by rw [hk2]; exact fun h => hd ⟨hd1, h⟩
          repeat (first | rintro _ _ ⟨rfl, rfl⟩ | refine exq fun _ => ?_ | intro _ | refine go ?_ | refine drq ?_)
          (apply WE_ret rfl rfl (by (repeat (first | exact ResOk.nil | (apply ResOk.tmp; rfl) | (apply resOk_cell; rfl; exact inferInstance; rfl; rfl)))))
          · exact ⟨rfl, rfl⟩
          · ((repeat (first | (with_reducible exact Ent.refl) | exact Ent.nil | (apply ent_pickE; (focus ((repeat (first | (with_reducible exact pk_here) | (apply pk_there))); done))) | (apply hend) | (apply htl) | apply Ent.drop)); all_goals (first | rfl | (with_reducible assumption) | (simp; done) | (simp; omega) | omega | (constructor <;> (simp) <;> omega)))
        · repeat (first | rintro _ _ ⟨rfl, rfl⟩ | refine exq fun _ => ?_ | intro _ | refine go ?_ | refine drq ?_)
          (apply WE_ret rfl rfl (by (repeat (first | exact ResOk.nil | (apply ResOk.tmp; rfl) | (apply resOk_cell; rfl; exact inferInstance; rfl; rfl)))))
          · exact ⟨rfl, rfl⟩
          · ((repeat (first | (with_reducible exact Ent.refl) | exact Ent.nil | (apply ent_pickE; (focus ((repeat (first | (with_reducible exact pk_here) | (apply pk_there))); done))) | (apply hend) | (apply htl) | apply Ent.drop)); all_goals (first | rfl | (with_reducible assumption) | (simp; done) | (simp; omega) | omega | (constructor <;> (simp) <;> omega)))
theorem index_map {α β : Type} (f : α → β) (p : β → Bool) (l : List α) : indexBy p (l.map f) = indexBy (fun x => p (f x)) l := by
  unfold indexBy
  rw [List.findIdx?_map]
  rfl
theorem qu_Finish1 {F : List HP} {b1 b2 : Nat} {line src : Int} {T1 T2 : TypeId} {C1 C2 : List Value → List HP} {e : QP} (k1 : CellsAt b1 F T1 [.int .i64 line] C1) (k2 : CellsAt b2 F T2 [.int .i64 src] C2) :
    FnF Try.prog 106 [qv e, .pointer (some ⟨b1, 0, none⟩), .pointer (some ⟨b2, 0, none⟩)] [] F (fun r L' => r = .bool (qgone line src e.1) ∧ L' = []) := by
  refine FnF.mk' Try.func106 rfl rfl Try.ntmps106 rfl ?_
  cases h1 : e.1.st with
  | false =>
    repeat (first | rintro _ _ ⟨rfl, rfl⟩ | refine exq fun _ => ?_ | intro _ | refine go ?_ | refine drq ?_)
    (apply WE_ret rfl rfl (by (repeat (first | exact ResOk.nil | (apply ResOk.tmp; rfl) | (apply resOk_cell; rfl; exact inferInstance; rfl; rfl)))); (first | exact ⟨rfl, rfl⟩ | exact ⟨congrArg Value.bool (by decide), rfl⟩ | exact ⟨_, rfl, rfl⟩ | exact ⟨_, _, rfl, rfl⟩ | exact ⟨by first | (simp [qgone, h1]; done) | (simp [qgone, h1] <;> omega), rfl⟩); (repeat (first | exact Ent.refl | exact Ent.nil | apply Ent.pick | apply Ent.drop)))
  | true =>
    by_cases h2 : e.1.m.line = line
    · by_cases h3 : e.1.m.src = src
      · by_cases h4 : e.1.m.kind = 3
        · repeat (first | rintro _ _ ⟨rfl, rfl⟩ | refine exq fun _ => ?_ | intro _ | refine go ?_ | refine drq ?_)
          (apply WE_ret rfl rfl (by (repeat (first | exact ResOk.nil | (apply ResOk.tmp; rfl) | (apply resOk_cell; rfl; exact inferInstance; rfl; rfl)))); (first | exact ⟨rfl, rfl⟩ | exact ⟨congrArg Value.bool (by decide), rfl⟩ | exact ⟨_, rfl, rfl⟩ | exact ⟨_, _, rfl, rfl⟩ | exact ⟨by first | (simp [qgone, h1, h2, h3, h4]; done) | (simp [qgone, h1, h2, h3, h4] <;> omega), rfl⟩); (repeat (first | exact Ent.refl | exact Ent.nil | apply Ent.pick | apply Ent.drop)))
        · repeat (first | rintro _ _ ⟨rfl, rfl⟩ | refine exq fun _ => ?_ | intro _ | refine go ?_ | refine drq ?_)
          (apply WE_ret rfl rfl (by (repeat (first | exact ResOk.nil | (apply ResOk.tmp; rfl) | (apply resOk_cell; rfl; exact inferInstance; rfl; rfl)))); (first | exact ⟨rfl, rfl⟩ | exact ⟨congrArg Value.bool (by decide), rfl⟩ | exact ⟨_, rfl, rfl⟩ | exact ⟨_, _, rfl, rfl⟩ | exact ⟨by first | (simp [qgone, h1, h2, h3, h4]; done) | (simp [qgone, h1, h2, h3, h4] <;> omega), rfl⟩); (repeat (first | exact Ent.refl | exact Ent.nil | apply Ent.pick | apply Ent.drop)))
      · repeat (first | rintro _ _ ⟨rfl, rfl⟩ | refine exq fun _ => ?_ | intro _ | refine go ?_ | refine drq ?_)
        (apply WE_ret rfl rfl (by (repeat (first | exact ResOk.nil | (apply ResOk.tmp; rfl) | (apply resOk_cell; rfl; exact inferInstance; rfl; rfl)))); (first | exact ⟨rfl, rfl⟩ | exact ⟨congrArg Value.bool (by decide), rfl⟩ | exact ⟨_, rfl, rfl⟩ | exact ⟨_, _, rfl, rfl⟩ | exact ⟨by first | (simp [qgone, h1, h2, h3]; done) | (simp [qgone, h1, h2, h3] <;> omega), rfl⟩); (repeat (first | exact Ent.refl | exact Ent.nil | apply Ent.pick | apply Ent.drop)))
    · repeat (first | rintro _ _ ⟨rfl, rfl⟩ | refine exq fun _ => ?_ | intro _ | refine go ?_ | refine drq ?_)
      (apply WE_ret rfl rfl (by (repeat (first | exact ResOk.nil | (apply ResOk.tmp; rfl) | (apply resOk_cell; rfl; exact inferInstance; rfl; rfl)))); (first | exact ⟨rfl, rfl⟩ | exact ⟨congrArg Value.bool (by decide), rfl⟩ | exact ⟨_, rfl, rfl⟩ | exact ⟨_, _, rfl, rfl⟩ | exact ⟨by first | (simp [qgone, h1, h2]; done) | (simp [qgone, h1, h2] <;> omega), rfl⟩); (repeat (first | exact Ent.refl | exact Ent.nil | apply Ent.pick | apply Ent.drop)))
theorem qu_fidx {F : List HP} {b1 b2 : Nat} {line src : Int} {T1 T2 : TypeId} {C1 C2 : List Value → List HP} {v : Value} {l : List QP} (k1 : CellsAt b1 F T1 [.int .i64 line] C1) (k2 : CellsAt b2 F T2 [.int .i64 src] C2) (k : RdL F 17 v l.length (flat qc l)) (hn : l.length ≤ 1099511627776) :
    FnF Try.prog 105 [v, .func (.func 106) [].toArray [.pointer (some ⟨b1, 0, none⟩), .pointer (some ⟨b2, 0, none⟩)].toArray] [] F (fun r L' => r = .int .i64 (indexBy (qgone line src) (l.map (·.1))) ∧ L' = []) := by
  rw [index_map]
  exact sl_IndexFunc_qe (first := []) (p := fun e => qgone line src e.1) k hn (fun x _ => qu_Finish1 k1 k2)

theorem qu_Finish {F : List HP} {b : Nat} {room : Int} {l : List QE} {line src : Int} : FnF Try.prog 72 [.pointer (some ⟨b, 0, none⟩), .int .i64 line, .int .i64 src] [QuP b room l] F (fun r L' => r = .int .i64 (qfinE l line src) ∧ L' = [QuP b room (qfinL l line src)]) := by
  refine FnF.mk' Try.func72 rfl rfl Try.ntmps72 rfl ?_
  refine qu_open fun p c ps hf => ?_
  obtain ⟨rfl, h1, h2, h3, hcp⟩ := hf
  by_cases h : indexBy (qgone line src) (ps.map (·.1)) < 0
  · have e1 : qfinE (ps.map (·.1)) line src = 7 := by simp [qfinE, h]
    have e2 : qfinL (ps.map (·.1)) line src = ps.map (·.1) := by simp [qfinL, h]
    rw [e1, e2]
    repeat (first | rintro _ _ ⟨rfl, rfl⟩ | refine exq fun _ => ?_ | intro _ | refine go ?_ | refine drq ?_ | refine cal @qu_fidx ?_)
    (apply WE_ret rfl rfl (by (repeat (first | exact ResOk.nil | (apply ResOk.tmp; rfl) | (apply resOk_cell; rfl; exact inferInstance; rfl; rfl)))))
    · exact ⟨rfl, rfl⟩
    · ((repeat (first | (with_reducible exact Ent.refl) | exact Ent.nil | (apply ent_pickE; (focus ((repeat (first | (with_reducible exact pk_here) | (apply pk_there))); done))) | (apply qu_in) | apply Ent.drop)); all_goals (first | rfl | (with_reducible assumption) | (simp; done) | (simp; omega) | omega | (constructor <;> (simp) <;> omega)))
  · have e1 : qfinE (ps.map (·.1)) line src = 0 := by simp [qfinE, h]
    have e2 : qfinL (ps.map (·.1)) line src = (ps.map (·.1)).eraseIdx (indexBy (qgone line src) (ps.map (·.1))).toNat := by simp [qfinL, h]
    rw [e1, e2]
    obtain ⟨i, hi, g1, g2, g3⟩ := indexBy_nat (p := qgone line src) (l := ps.map (·.1)) (by omega)
    have hi' : i < ps.length := by simpa using hi
    have hI := fun F b1 b2 v T1 T2 C1 C2 => qu_fidx (F := F) (b1 := b1) (b2 := b2) (v := v) (T1 := T1) (T2 := T2) (C1 := C1) (C2 := C2) (line := line) (src := src) (l := ps)
    simp only [g1] at hI
    rw [g1]
    repeat (first | rintro _ _ ⟨rfl, rfl⟩ | refine exq fun _ => ?_ | intro _ | refine go ?_ | refine drq ?_ | refine cal @hI ?_)
    refine cal (@sl_Delete_qe (i := i) (j := i + 1)) ?_
    repeat (first | rintro _ _ ⟨rfl, rfl⟩ | refine exq fun _ => ?_ | intro _ | refine go ?_ | refine drq ?_)
    (apply WE_ret rfl rfl (by (repeat (first | exact ResOk.nil | (apply ResOk.tmp; rfl) | (apply resOk_cell; rfl; exact inferInstance; rfl; rfl)))))
    · exact ⟨rfl, rfl⟩
    · apply qu_in (ps := ps.eraseIdx i)
      · ((repeat (first | (with_reducible exact Ent.refl) | exact Ent.nil | (apply ent_pickE; (focus ((repeat (first | (with_reducible exact pk_here) | (apply pk_there))); done))) | (apply all_era) | apply Ent.drop)); all_goals (first | rfl | (with_reducible assumption) | (simp; done) | (simp; omega) | omega | (constructor <;> (simp) <;> omega)))
      · rw [map_erase]; simp
      · rw [List.length_eraseIdx]; split <;> omega
      · rw [flat_take (enc := qc) (n := 17) (fun _ => rfl), flat_drop (enc := qc) (n := 17) (fun _ => rfl)]
        simp [List.eraseIdx_eq_take_drop_succ]
      · rw [List.length_eraseIdx]; split <;> omega
      · exact h2
      · exact fun p hp => h3 p (List.mem_of_mem_eraseIdx hp)
end Go.Sx

/- What queues do: what is told of all. My own work. -/
namespace Go.Sx
open Go Go.Proofs
set_option linter.unusedVariables false
set_option linter.unusedSectionVars false
set_option linter.unusedSimpArgs false

/-- A slice of requests of its own, each with what is to be sent. -/
def QuL (e : TypeId) (v : Value) (l : List QE) : HP := Ex fun qs : List QP => [Own e 17 v qs.length (flat qc qs), All (qs.map qrd), Fact (qs.map (·.1) = l)]
section
variable {e : TypeId} {v : Value} {l : List QE}
theorem ql_in {qs : List QP} {n : Nat} {xs : List Value} {L M : List HP} (h : Ent L (Own e 17 v n xs :: All (qs.map qrd) :: M)) (hl : qs.map (·.1) = l) (hn : n = qs.length) (hx : xs = flat qc qs) : Ent L (QuL e v l :: M) := by
  subst hn hx
  refine Ent.trans h (Ent.trans ?_ (ex_intro (p := fun qs : List QP => [Own e 17 v qs.length (flat qc qs), All (qs.map qrd), Fact (qs.map (·.1) = l)]) qs))
  exact Ent.cons (Ent.cons (star_fact_mk hl))
theorem ql_sat {L : List HP} {w : World} (h : Sat (QuL e v l :: L) w) : ∃ qs : List QP, qs.map (·.1) = l ∧ Sat (Own e 17 v qs.length (flat qc qs) :: All (qs.map qrd) :: L) w := by
  obtain ⟨qs, hx⟩ := star_ex h
  simp only [app] at hx
  have hf := fact_of (star_drop (star_drop hx))
  exact ⟨qs, hf, (Ent.cons (Ent.cons (Ent.drop Ent.refl))) _ hx⟩
variable {P : Program} {N : Nat} {env : Env} {L : List HP} {Q : Exit → Act → World → Prop}
theorem ql_open {c : Code} (h : ∀ qs : List QP, qs.map (·.1) = l → WC P N c env (Own e 17 v qs.length (flat qc qs) :: All (qs.map qrd) :: L) Q) : WC P N c env (QuL e v l :: L) Q := by
  intro a w ha hw
  obtain ⟨qs, hf, hx⟩ := ql_sat hw
  exact h qs hf a w ha hx
theorem ql_openO {all : Array Oper} {c : List Oper} (h : ∀ qs : List QP, qs.map (·.1) = l → WO P N all c env (Own e 17 v qs.length (flat qc qs) :: All (qs.map qrd) :: L) Q) : WO P N all c env (QuL e v l :: L) Q := by
  intro a w ha hw
  obtain ⟨qs, hf, hx⟩ := ql_sat hw
  exact h qs hf a w ha hx
end
theorem all_more {qs : List QP} {x : QP} {T : TypeId} {L M : List HP} (h : Ent L (Own T 15 (.slice x.2.1 x.1.sends.length x.2.2) x.1.sends.length (flat mc x.1.sends) :: All (qs.map qrd) :: M)) : Ent L (All ((qs ++ [x]).map qrd) :: M) :=
  Ent.trans h (Ent.trans own_rds (all_add (f := qrd) x))
set_option maxRecDepth 100000
set_option maxHeartbeats 4000000
attribute [local irreducible] Go.Exit.then Go.Exit.inBlock Go.Code.wp WC WO WE WQ V LoopQ FnQ Sat Star band bor IntKind.wrap WR Code.rounds WT KO
theorem qu_copied {F : List HP} {p : QP} (k : RdL F 15 (.slice p.2.1 p.1.sends.length p.2.2) p.1.sends.length (flat mc p.1.sends)) (hn : p.1.sends.length ≤ 1099511627776) :
    FnF Try.prog 76 [qv p] [] F (fun r L' => ∃ a c, r = qv (p.1, (a, c)) ∧ L' = [Own 59 15 (.slice a p.1.sends.length c) p.1.sends.length (flat mc p.1.sends)]) := by
  refine FnF.mk' Try.func76 rfl rfl Try.ntmps76 rfl ?_
  repeat (first | rintro _ _ ⟨rfl, rfl⟩ | refine exq fun _ => ?_ | intro _ | refine go ?_ | refine drq ?_ | refine cal @sl_Clone_msg ?_)
  rename_i a' c'
  (apply WE_ret rfl rfl (by (repeat (first | exact ResOk.nil | (apply ResOk.tmp; rfl) | (apply resOk_cell; rfl; exact inferInstance; rfl; rfl)))))
  · exact ⟨a', c', rfl, rfl⟩
  · exact entu0

theorem qu_Get {F : List HP} {b : Nat} {room : Int} {l : List QE} {n : Int} (h : qin l n = true) (hn : (qat l n).sends.length ≤ 1099511627776) : FnF Try.prog 66 [.pointer (some ⟨b, 0, none⟩), .int .i64 n] [QuP b room l] F
    (fun r L' => ∃ a c, r = .tuple [qv (qat l n, (a, c)), .bool true].toArray ∧ L' = [Own 59 15 (.slice a (qat l n).sends.length c) (qat l n).sends.length (flat mc (qat l n).sends), QuP b room l]) := by
  have hH := fun F => qu_has (F := F) (b := b) (room := room) (l := l) (n := n)
  rw [h] at hH
  obtain ⟨i, hi, rfl, ea⟩ := qin_t h
  rw [ea] at hn ⊢
  refine FnF.mk' Try.func66 rfl rfl Try.ntmps66 rfl ?_
  repeat (first | rintro _ _ ⟨rfl, rfl⟩ | refine exq fun _ => ?_ | intro _ | refine go ?_ | refine cal @hH ?_)
  (first | refine WO_front (QuP b room l) ?_ | refine WC_front (QuP b room l) ?_ | refine WE_front (QuP b room l) ?_)
  refine qu_openO fun p c ps hf => ?_
  obtain ⟨rfl, h1, h2, h3, hcp⟩ := hf
  have hi' : i < ps.length := by simpa using hi
  rw [List.getElem_map] at hn ⊢
  haveI kr := fun L => rd_all (ps := ps) (p := ps[i]) (List.getElem_mem hi') (L := L)
  have hb := (h3 _ (List.getElem_mem hi')).2
  repeat (first | rintro _ _ ⟨rfl, rfl⟩ | refine exq fun _ => ?_ | intro _ | refine go ?_ | refine drq ?_ | refine cal @qu_copied ?_)
  (apply WE_ret rfl rfl (by (repeat (first | exact ResOk.nil | (apply ResOk.tmp; rfl) | (apply resOk_cell; rfl; exact inferInstance; rfl; rfl)))))
  · exact ⟨_, _, rfl, rfl⟩
  · ((repeat (first | (with_reducible exact Ent.refl) | exact Ent.nil | (apply ent_pickE; (focus ((repeat (first | (with_reducible exact pk_here) | (apply pk_there))); done))) | (apply qu_in) | apply Ent.drop)); all_goals (first | rfl | (with_reducible assumption) | (simp; done) | (simp; omega) | omega | (constructor <;> (simp) <;> omega)))
theorem qu_Get_no {F : List HP} {b : Nat} {room : Int} {l : List QE} {n : Int} (h : qin l n = false) : FnF Try.prog 66 [.pointer (some ⟨b, 0, none⟩), .int .i64 n] [QuP b room l] F
    (fun r L' => r = .tuple [qv ((⟨.zero, false, []⟩ : QE), (none, 0)), .bool false].toArray ∧ L' = [QuP b room l]) := by
  have hH := fun F => qu_has (F := F) (b := b) (room := room) (l := l) (n := n)
  rw [h] at hH
  refine FnF.mk' Try.func66 rfl rfl Try.ntmps66 rfl ?_
  repeat (first | rintro _ _ ⟨rfl, rfl⟩ | refine exq fun _ => ?_ | intro _ | refine go ?_ | refine drq ?_ | refine cal @hH ?_)
  exact fin0

theorem qu_List {F : List HP} {b : Nat} {room : Int} {l : List QE} : FnF Try.prog 40 [.pointer (some ⟨b, 0, none⟩)] [QuP b room l] F (fun r L' => ∃ p c, r = .slice p l.length c ∧ L' = [QuL 68 (.slice p l.length c) l, QuP b room l]) := by
  refine FnF.mk' Try.func40 rfl rfl Try.ntmps40 rfl ?_
  refine qu_open fun p c ps hf => ?_
  obtain ⟨rfl, h1, h2, h3, hcp⟩ := hf
  repeat (first | rintro _ _ ⟨rfl, rfl⟩ | refine exq fun _ => ?_ | intro _ | refine go ?_ | refine drq ?_)
  apply WC_loopE (E0 := [(9, _), (10, _)]) (fun E0 (q : Nat × Option Addr × Nat × List QP) => (11, .int .i64 q.1) :: (3, .slice q.2.1 q.2.2.2.length q.2.2.1) :: E0)
    (fun q => Own 68 17 (.slice q.2.1 q.2.2.2.length q.2.2.1) q.2.2.2.length (flat qc q.2.2.2) :: All (q.2.2.2.map qrd) :: Cells b 168 [.int .i64 room, .slice p ps.length c] :: Own 68 17 (.slice p ps.length c) ps.length (flat qc ps) :: All (ps.map qrd) :: F)
    (fun q => q.1 ≤ ps.length ∧ q.2.2.2.map (·.1) = (ps.take q.1).map (·.1)) (fun q => ps.length - q.1) (0, none, 0, [])
  · (repeat (first | exact Sub.nil | (refine Sub.cons (by first | rfl | (simp only [Nat.zero_add]; rfl)) ?_)))
  · exact ⟨Nat.zero_le _, by simp⟩
  · refine Ent.trans ?_ (own_empty all_nil)
    exact entu0
  · rintro ⟨i, p', c', qs⟩ ⟨hi, hqs⟩
    dsimp only at hi hqs ⊢
    have hlq : qs.length = min i ps.length := by have := congrArg List.length hqs; simpa using this
    by_cases hlt : i < ps.length
    · haveI kr := fun L => rd_all (ps := ps) (p := ps[i]) (List.getElem_mem hlt) (L := L)
      have hb := (h3 _ (List.getElem_mem hlt)).2
      repeat (first | rintro _ _ ⟨rfl, rfl⟩ | refine exq fun _ => ?_ | intro _ | refine go ?_ | refine drq ?_ | refine cal @qu_copied ?_)
      rename_i b1 a1 c1 b2 p2 c2
      refine WE_loop (i + 1, p2, c2, qs ++ [(ps[i].1, (a1, c1))]) (by dsimp only; omega) ⟨by dsimp only; omega, ?_⟩ ?_ ?_
      · dsimp only; rw [List.map_append, hqs, List.map_take, List.map_take, List.take_add_one]; simp [hlt]
      · dsimp only; rw [List.length_append, List.length_singleton]; (repeat (first | exact Sub.nil | (refine Sub.cons (by first | rfl | (simp only [Nat.zero_add]; rfl)) ?_)))
      · dsimp only; rw [List.length_append, List.length_singleton, flat_append, flat_one]
        ((repeat (first | (with_reducible exact Ent.refl) | exact Ent.nil | (apply ent_pickE; (focus ((repeat (first | (with_reducible exact pk_here) | (apply pk_there))); done))) | (apply all_more) | apply Ent.drop)); all_goals (first | rfl | (with_reducible assumption) | (simp; done) | (simp; omega) | omega | (constructor <;> (simp) <;> omega)))
    · have hil : i = ps.length := by omega
      subst hil
      rw [List.take_length] at hqs
      have hlq : qs.length = ps.length := by have := congrArg List.length hqs; simpa using this
      repeat (first | rintro _ _ ⟨rfl, rfl⟩ | refine exq fun _ => ?_ | intro _ | refine go ?_ | refine drq ?_)
      (apply WE_ret rfl rfl (by (repeat (first | exact ResOk.nil | (apply ResOk.tmp; rfl) | (apply resOk_cell; rfl; exact inferInstance; rfl; rfl)))))
      · exact ⟨p', c', by rw [List.length_map, hlq]; rfl, rfl⟩
      · rw [List.length_map, ← hlq]
        ((repeat (first | (with_reducible exact Ent.refl) | exact Ent.nil | (apply ent_pickE; (focus ((repeat (first | (with_reducible exact pk_here) | (apply pk_there))); done))) | (apply ql_in) | (apply qu_in) | apply Ent.drop)); all_goals (first | rfl | (with_reducible assumption) | (simp; done) | (simp; omega) | omega | (constructor <;> (simp) <;> omega)))
end Go.Sx

/- What homes do: their place in memory, and the short ones of the program's functions. My own work. -/
namespace Go.Sx
open Go Go.Proofs
set_option linter.unusedVariables false
set_option linter.unusedSectionVars false
set_option linter.unusedSimpArgs false
/-- What a home is: its lines' entries, its memory's words, its requests, how many were odd. -/
structure HomS where
  es : List (Int × TEnt)
  ms : List Int
  q : List QE
  odd : Int
abbrev HRd := TEnt × Option Addr × Nat
abbrev hrv (x : HRd) : Value := .slice x.2.1 x.1.s.ps.length x.2.2
abbrev hrc (x : HRd) : Value := .agg (tec x.1 x.2.1 x.2.2).toArray
abbrev hrd (x : HRd) : HP := Rds 1 (hrv x) x.1.s.ps.length (flat ic x.1.s.ps)
abbrev hrs (ps : List (Int × HRd)) : List HP := ps.map fun p => hrd p.2
abbrev hes (ps : List (Int × HRd)) : List (Int × TEnt) := ps.map fun p => (p.1, p.2.1)
abbrev hz : HRd := (.no, none, 0)
theorem hes_get (ps : List (Int × HRd)) (k : Int) : mget (hes ps) k = (mget ps k).map (·.1) := by
  induction ps with
  | nil => rfl
  | cons p r ih =>
    show mget ((p.1, p.2.1) :: hes r) k = _
    rw [mget_cons, mget_cons, ih]
    split <;> rfl
theorem hes_getD (ps : List (Int × HRd)) (k : Int) : ((mget ps k).getD hz).1 = (mget (hes ps) k).getD .no := by
  rw [hes_get]; cases mget ps k <;> rfl
theorem hes_mset (ps : List (Int × HRd)) (k : Int) (x : HRd) : hes (mset ps k x) = mset (hes ps) k x.1 := by
  induction ps with
  | nil => rfl
  | cons p r ih =>
    show hes (if p.1 = k then (k, x) :: r else p :: mset r k x) = if p.1 = k then (k, x.1) :: hes r else (p.1, p.2.1) :: mset (hes r) k x.1
    split
    · rfl
    · show (p.1, p.2.1) :: hes (mset r k x) = _
      rw [ih]
theorem hrs_mset {L : List HP} (ps : List (Int × HRd)) (k : Int) (x : HRd) : Ent (hrd x :: All (hrs ps) :: L) (All (hrs (mset ps k x)) :: L) := by
  have h : ∀ ps : List (Int × HRd), Ent (hrd x :: (hrs ps ++ L)) (hrs (mset ps k x) ++ L) := by
    intro ps
    induction ps with
    | nil => exact Ent.refl
    | cons p r ih =>
      show Ent (hrd x :: hrd p.2 :: (hrs r ++ L)) (hrs (if p.1 = k then (k, x) :: r else p :: mset r k x) ++ L)
      split
      · exact Ent.cons (Ent.drop Ent.refl)
      · exact Ent.trans (ent_perm (List.Perm.swap _ _ _)) (Ent.cons ih)
  exact Ent.trans (Ent.cons all_open) (Ent.trans (h ps) all_close)
theorem hrs_put {L M : List HP} {T : TypeId} {ps : List (Int × HRd)} {k : Int} {x : HRd} (h : Ent L (Own T 1 (hrv x) x.1.s.ps.length (flat ic x.1.s.ps) :: All (hrs ps) :: M)) : Ent L (All (hrs (mset ps k x)) :: M) :=
  Ent.trans h (Ent.trans own_rds (hrs_mset ps k x))
theorem rd_hrs {L : List HP} (ps : List (Int × HRd)) (k : Int) : RdL (All (hrs ps) :: L) 1 (hrv ((mget ps k).getD hz)) ((mget ps k).getD hz).1.s.ps.length (flat ic ((mget ps k).getD hz).1.s.ps) := by
  cases e : mget ps k with
  | none => exact rd_empty
  | some x =>
    obtain ⟨i, hi, h⟩ := List.getElem_of_mem (mget_mem e)
    have hx : ps[i].2 = x := by rw [h]
    have k : RdL (hrd ps[i].2 :: All ((ps.eraseIdx i).map fun p => hrd p.2) :: L) 1 (hrv ps[i].2) ps[i].2.1.s.ps.length (flat ic ps[i].2.1.s.ps) := RdL.rds
    have e := all_take (f := fun p : Int × HRd => hrd p.2) (L := L) i hi
    rw [hx] at k
    rw [hx] at e
    exact ⟨fun w h => k.len w (e.sat (by simpa using h)), fun w h => k.ones w (e.sat (by simpa using h)), fun w h => k.pf w (e.sat (by simpa using h))⟩
/-! ## A home in memory -/
abbrev hmc (c : Cfg) (num : Int) (bm be bq : Nat) (odd : Int) : List Value := [.int .i64 c.cores, .int .i64 c.homes, .int .i64 c.sets, .int .i64 c.ways, .int .i64 c.words, .int .i64 c.lines, .int .i64 c.pointers, .int .i64 c.mshrs, .int .i64 c.buffer, .int .i64 c.writebacks, .int .i64 c.r0, .int .i64 c.r1, .int .i64 c.r2, .int .i64 num, .map (some bm), .pointer (some ⟨be, 0, none⟩), .pointer (some ⟨bq, 0, none⟩), .int .i64 odd]
def HomP (b : Nat) (c : Cfg) (num : Int) (s : HomS) : HP := Ex fun x : (Nat × Nat × Nat) × List (Int × HRd) => [Cells b 108 (hmc c num x.1.1 x.1.2.1 x.1.2.2 s.odd), MapAt x.1.1 hrc x.2, All (hrs x.2), MemB x.1.2.1 c s.ms, QuB 168 68 x.1.2.2 c.buffer s.q, Fact (hes x.2 = s.es)]
theorem hm_in {b bm be bq : Nat} {c : Cfg} {num odd : Int} {ps : List (Int × HRd)} {es : List (Int × TEnt)} {ms : List Int} {q : List QE} {L M : List HP}
    (h : Ent L (Cells b 108 (hmc c num bm be bq odd) :: MapAt bm hrc ps :: All (hrs ps) :: MemB be c ms :: QuB 168 68 bq c.buffer q :: M)) (he : hes ps = es) : Ent L (HomP b c num ⟨es, ms, q, odd⟩ :: M) := by
  refine Ent.trans h (Ent.trans ?_ (ex_intro (p := fun x : (Nat × Nat × Nat) × List (Int × HRd) => [Cells b 108 (hmc c num x.1.1 x.1.2.1 x.1.2.2 odd), MapAt x.1.1 hrc x.2, All (hrs x.2), MemB x.1.2.1 c ms, QuB 168 68 x.1.2.2 c.buffer q, Fact (hes x.2 = es)]) ((bm, be, bq), ps)))
  exact Ent.cons (Ent.cons (Ent.cons (Ent.cons (Ent.cons (star_fact_mk he)))))
theorem hm_sat {b : Nat} {c : Cfg} {num : Int} {s : HomS} {L : List HP} {w : World} (h : Sat (HomP b c num s :: L) w) : ∃ bm be bq, ∃ ps : List (Int × HRd), hes ps = s.es ∧
    Sat (Cells b 108 (hmc c num bm be bq s.odd) :: MapAt bm hrc ps :: All (hrs ps) :: MemB be c s.ms :: QuB 168 68 bq c.buffer s.q :: L) w := by
  obtain ⟨⟨⟨bm, be, bq⟩, ps⟩, hx⟩ := star_ex h
  simp only [app] at hx
  exact ⟨bm, be, bq, ps, fact_of (star_drop (star_drop (star_drop (star_drop (star_drop hx))))), (Ent.cons (Ent.cons (Ent.cons (Ent.cons (Ent.cons (Ent.drop Ent.refl)))))) _ hx⟩
section
variable {b : Nat} {c : Cfg} {num : Int} {s : HomS} {P : Program} {N : Nat} {env : Env} {L : List HP} {Q : Exit → Act → World → Prop}
theorem hm_open {co : Code} (h : ∀ bm be bq, ∀ ps : List (Int × HRd), hes ps = s.es → WC P N co env (Cells b 108 (hmc c num bm be bq s.odd) :: MapAt bm hrc ps :: All (hrs ps) :: MemB be c s.ms :: QuB 168 68 bq c.buffer s.q :: L) Q) : WC P N co env (HomP b c num s :: L) Q := by
  intro a w ha hw
  obtain ⟨bm, be, bq, ps, he, hx⟩ := hm_sat hw
  exact h bm be bq ps he a w ha hx
theorem hm_openO {all : Array Oper} {o : List Oper} (h : ∀ bm be bq, ∀ ps : List (Int × HRd), hes ps = s.es → WO P N all o env (Cells b 108 (hmc c num bm be bq s.odd) :: MapAt bm hrc ps :: All (hrs ps) :: MemB be c s.ms :: QuB 168 68 bq c.buffer s.q :: L) Q) : WO P N all o env (HomP b c num s :: L) Q := by
  intro a w ha hw
  obtain ⟨bm, be, bq, ps, he, hx⟩ := hm_sat hw
  exact h bm be bq ps he a w ha hx
end
/-! ## What they do, told of lists -/
def mineB (c : Cfg) (num : Int) (m : Msg) (net : Int) : Bool := decide (MayP c m) && decide (netK m.kind = net) && decide (HomeP m.kind) && decide (m.dst = num)
def hmAccE (c : Cfg) (num : Int) (s : HomS) (m : Msg) : Int := if mineB c num m 0 then qaddE c.buffer s.q m else 1
def hmAccS (c : Cfg) (num : Int) (s : HomS) (m : Msg) : HomS := if mineB c num m 0 then { s with q := qaddL c.buffer s.q m } else s
def hmDoneE (c : Cfg) (num : Int) (s : HomS) (m : Msg) : Int := if mineB c num m 2 then qfinE s.q m.line m.src else 1
def hmDoneS (c : Cfg) (num : Int) (s : HomS) (m : Msg) : HomS := if mineB c num m 2 then { s with q := qfinL s.q m.line m.src } else s
def hmEnt (s : HomS) (line : Int) : TEnt := (mget s.es line).getD .no
def hmOwn (s : HomS) (line : Int) : Bool := (mget s.es line).isSome
def hmLine (c : Cfg) (s : HomS) (line : Int) : Words := if hmOwn s line then lineWo c s.ms line else .zero
set_option maxRecDepth 100000
set_option maxHeartbeats 4000000
attribute [local irreducible] Go.Exit.then Go.Exit.inBlock Go.Code.wp WC WO WE WQ V LoopQ FnQ Sat Star band bor IntKind.wrap WR Code.rounds WT KO
instance : MapT Try.prog 106 hrc hz := ⟨_, _, _, _, _, Try.underlying106, Try.underlying3, TZ.pf⟩
theorem hm_mine {F : List HP} {b : Nat} {c : Cfg} {num : Int} {s : HomS} {m : Msg} {net : Int} (hc : c.wf) : FnF Try.prog 64 [.pointer (some ⟨b, 0, none⟩), mv m, .int .i64 net] [HomP b c num s] F (fun r L' => r = .bool (mineB c num m net) ∧ L' = [HomP b c num s]) := by
  have hM := fun F => msg_May (F := F) (c := c) (m := m) hc
  have hH := fun F => msg_Home (F := F) (k := m.kind)
  obtain ⟨es, ms, q, odd⟩ := s
  refine FnF.mk' Try.func64 rfl rfl Try.ntmps64 rfl ?_
  refine hm_open fun bm be bq ps he => ?_
  by_cases h1 : MayP c m
  · simp only [decide_eq_true h1] at hM
    by_cases h2 : netK m.kind = net
    · by_cases h3 : HomeP m.kind
      · simp only [decide_eq_true h3] at hH
        repeat (first | rintro _ _ ⟨rfl, rfl⟩ | refine exq fun _ => ?_ | intro _ | refine go ?_ | refine drq ?_ | refine cal @hM ?_ | refine cal @msg_Net ?_ | refine cal @hH ?_)
        (apply WE_ret rfl rfl (by (repeat (first | exact ResOk.nil | (apply ResOk.tmp; rfl) | (apply resOk_cell; rfl; exact inferInstance; rfl; rfl)))))
        · exact ⟨by simp [mineB, h1, h2, h3], rfl⟩
        · ((repeat (first | (with_reducible exact Ent.refl) | exact Ent.nil | (apply ent_pickE; (focus ((repeat (first | (with_reducible exact pk_here) | (apply pk_there))); done))) | (apply hm_in) | apply Ent.drop)); all_goals (first | rfl | (with_reducible assumption) | (simp; done) | (simp; omega) | omega | (constructor <;> (simp) <;> omega)))
      · simp only [decide_eq_false h3] at hH
        repeat (first | rintro _ _ ⟨rfl, rfl⟩ | refine exq fun _ => ?_ | intro _ | refine go ?_ | refine drq ?_ | refine cal @hM ?_ | refine cal @msg_Net ?_ | refine cal @hH ?_)
        (apply WE_ret rfl rfl (by (repeat (first | exact ResOk.nil | (apply ResOk.tmp; rfl) | (apply resOk_cell; rfl; exact inferInstance; rfl; rfl)))))
        · exact ⟨by simp [mineB, h1, h2, h3], rfl⟩
        · ((repeat (first | (with_reducible exact Ent.refl) | exact Ent.nil | (apply ent_pickE; (focus ((repeat (first | (with_reducible exact pk_here) | (apply pk_there))); done))) | (apply hm_in) | apply Ent.drop)); all_goals (first | rfl | (with_reducible assumption) | (simp; done) | (simp; omega) | omega | (constructor <;> (simp) <;> omega)))
    · repeat (first | rintro _ _ ⟨rfl, rfl⟩ | refine exq fun _ => ?_ | intro _ | refine go ?_ | refine drq ?_ | refine cal @hM ?_ | refine cal @msg_Net ?_ | refine cal @hH ?_)
      (apply WE_ret rfl rfl (by (repeat (first | exact ResOk.nil | (apply ResOk.tmp; rfl) | (apply resOk_cell; rfl; exact inferInstance; rfl; rfl)))))
      · exact ⟨by simp [mineB, h1, h2], rfl⟩
      · ((repeat (first | (with_reducible exact Ent.refl) | exact Ent.nil | (apply ent_pickE; (focus ((repeat (first | (with_reducible exact pk_here) | (apply pk_there))); done))) | (apply hm_in) | apply Ent.drop)); all_goals (first | rfl | (with_reducible assumption) | (simp; done) | (simp; omega) | omega | (constructor <;> (simp) <;> omega)))
  · simp only [decide_eq_false h1] at hM
    repeat (first | rintro _ _ ⟨rfl, rfl⟩ | refine exq fun _ => ?_ | intro _ | refine go ?_ | refine drq ?_ | refine cal @hM ?_ | refine cal @msg_Net ?_ | refine cal @hH ?_)
    (apply WE_ret rfl rfl (by (repeat (first | exact ResOk.nil | (apply ResOk.tmp; rfl) | (apply resOk_cell; rfl; exact inferInstance; rfl; rfl)))))
    · exact ⟨by simp [mineB, h1], rfl⟩
    · ((repeat (first | (with_reducible exact Ent.refl) | exact Ent.nil | (apply ent_pickE; (focus ((repeat (first | (with_reducible exact pk_here) | (apply pk_there))); done))) | (apply hm_in) | apply Ent.drop)); all_goals (first | rfl | (with_reducible assumption) | (simp; done) | (simp; omega) | omega | (constructor <;> (simp) <;> omega)))
end Go.Sx
