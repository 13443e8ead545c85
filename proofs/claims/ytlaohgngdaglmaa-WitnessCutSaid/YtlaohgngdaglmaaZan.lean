/- Hom2, HomPl, Net: several of my texts as one. My own work. -/
import Derived.Test.YtlaohgngdaglmaaZam
import Derived.Test.YtlaohgngdaglmaaZak
import Derived.Test.YtlaohgngdaglmaaZai
import Derived.Test.YtlaohgngdaglmaaZaa
/- What homes do: the short ones of the program's functions. My own work. -/
namespace Go.Sx
open Go Go.Proofs
set_option linter.unusedVariables false
set_option linter.unusedSectionVars false
set_option linter.unusedSimpArgs false
theorem tgt_all {s : SSet} (h : shMay s = true) (ha : s.all = false) : shTgt s [] s.cores.toNat = s.ps := by
  obtain ⟨m1, m2, m3, m4, m5, m6, m7, m8⟩ := may_facts' h
  refine sorted_same (tgt_sorted _ _ _) m7 fun c => ?_
  rw [tgt_mem h]
  simp [shHas, ha]
set_option maxRecDepth 100000
set_option maxHeartbeats 4000000
attribute [local irreducible] Go.Exit.then Go.Exit.inBlock Go.Code.wp WC WO WE WQ V LoopQ FnQ Sat Star band bor IntKind.wrap WR Code.rounds WT KO
theorem dr_Hom2_33 {Q P : Prop} (k : Q) (h : Hid Q → P := by
  intro k
  first
  | (refine is_draw ?_; apply WC_mix (id := 3) .true _ (pl := .p 0 <| .p 1 <| .p 2 <| .r 3 <| .r 4 <| .e true [(5, .p 6 <| .done)]); exact mixed; kernel_rfl; kernel_rfl; exact Ent.refl; exact k.out)) : P := h ⟨k⟩
theorem hm_Accept {F : List HP} {b : Nat} {c : Cfg} {num : Int} {s : HomS} {m : Msg} (hc : c.wf) : FnF Try.prog 33 [.pointer (some ⟨b, 0, none⟩), mv m] [HomP b c num s] F (fun r L' => r = .int .i64 (hmAccE c num s m) ∧ L' = [HomP b c num (hmAccS c num s m)]) := by
  have hM := fun F => hm_mine (F := F) (b := b) (num := num) (s := s) (m := m) (net := 0) hc
  cases e : mineB c num m 0 with
  | true =>
    simp only [e] at hM
    have e1 : hmAccE c num s m = qaddE c.buffer s.q m := by simp [hmAccE, e]
    have e2 : hmAccS c num s m = ⟨s.es, s.ms, qaddL c.buffer s.q m, s.odd⟩ := by simp [hmAccS, e]
    rw [e1, e2]
    refine FnF.mk' Try.func33 rfl rfl Try.ntmps33 rfl ?_
    repeat (first | rintro _ _ ⟨rfl, rfl⟩ | refine exq fun _ => ?_ | intro _ | refine go ?_ | refine cal @hM ?_)
    (first | refine WO_front (HomP b c num s) ?_ | refine WC_front (HomP b c num s) ?_ | refine WE_front (HomP b c num s) ?_)
    refine hm_open fun bm be bq ps he => ?_
    repeat (first | rintro _ _ ⟨rfl, rfl⟩ | refine exq fun _ => ?_ | intro _ | refine go ?_ | refine dr_Hom2_33 ?_ | refine drq ?_ | refine cal @qu_Add ?_)
    (apply WE_ret rfl rfl (by (repeat (first | exact ResOk.nil | (apply ResOk.tmp; rfl) | (apply resOk_cell; rfl; exact inferInstance; rfl; rfl)))))
    · exact ⟨rfl, rfl⟩
    · ((repeat (first | (with_reducible exact Ent.refl) | exact Ent.nil | (apply ent_pickE; (focus ((repeat (first | (with_reducible exact pk_here) | (apply pk_there))); done))) | (apply hm_in) | apply Ent.drop)); all_goals (first | rfl | (with_reducible assumption) | (simp; done) | (simp; omega) | omega | (constructor <;> (simp) <;> omega)))
  | false =>
    simp only [e] at hM
    have e1 : hmAccE c num s m = 1 := by simp [hmAccE, e]
    have e2 : hmAccS c num s m = s := by simp [hmAccS, e]
    rw [e1, e2]
    refine FnF.mk' Try.func33 rfl rfl Try.ntmps33 rfl ?_
    repeat (first | rintro _ _ ⟨rfl, rfl⟩ | refine exq fun _ => ?_ | intro _ | refine go ?_ | refine dr_Hom2_33 ?_ | refine drq ?_ | refine cal @hM ?_)
    exact fin0
theorem dr_Hom2_35 {Q P : Prop} (k : Q) (h : Hid Q → P := by
  intro k
  first
  | (refine is_draw ?_; apply WC_mix (id := 3) .true _ (pl := .p 0 <| .p 1 <| .p 2 <| .p 4 <| .p 6 <| .r 3 <| .r 5 <| .r 7 <| .e true [(8, .p 9 <| .done)]); exact mixed; kernel_rfl; kernel_rfl; exact Ent.refl; exact k.out)) : P := h ⟨k⟩
theorem hm_Done {F : List HP} {b : Nat} {c : Cfg} {num : Int} {s : HomS} {m : Msg} (hc : c.wf) : FnF Try.prog 35 [.pointer (some ⟨b, 0, none⟩), mv m] [HomP b c num s] F (fun r L' => r = .int .i64 (hmDoneE c num s m) ∧ L' = [HomP b c num (hmDoneS c num s m)]) := by
  have hM := fun F => hm_mine (F := F) (b := b) (num := num) (s := s) (m := m) (net := 2) hc
  cases e : mineB c num m 2 with
  | true =>
    simp only [e] at hM
    have e1 : hmDoneE c num s m = qfinE s.q m.line m.src := by simp [hmDoneE, e]
    have e2 : hmDoneS c num s m = ⟨s.es, s.ms, qfinL s.q m.line m.src, s.odd⟩ := by simp [hmDoneS, e]
    rw [e1, e2]
    refine FnF.mk' Try.func35 rfl rfl Try.ntmps35 rfl ?_
    repeat (first | rintro _ _ ⟨rfl, rfl⟩ | refine exq fun _ => ?_ | intro _ | refine go ?_ | refine cal @hM ?_)
    (first | refine WO_front (HomP b c num s) ?_ | refine WC_front (HomP b c num s) ?_ | refine WE_front (HomP b c num s) ?_)
    refine hm_open fun bm be bq ps he => ?_
    repeat (first | rintro _ _ ⟨rfl, rfl⟩ | refine exq fun _ => ?_ | intro _ | refine go ?_ | refine dr_Hom2_35 ?_ | refine drq ?_ | refine cal @qu_Finish ?_)
    (apply WE_ret rfl rfl (by (repeat (first | exact ResOk.nil | (apply ResOk.tmp; rfl) | (apply resOk_cell; rfl; exact inferInstance; rfl; rfl)))))
    · exact ⟨rfl, rfl⟩
    · ((repeat (first | (with_reducible exact Ent.refl) | exact Ent.nil | (apply ent_pickE; (focus ((repeat (first | (with_reducible exact pk_here) | (apply pk_there))); done))) | (apply hm_in) | apply Ent.drop)); all_goals (first | rfl | (with_reducible assumption) | (simp; done) | (simp; omega) | omega | (constructor <;> (simp) <;> omega)))
  | false =>
    simp only [e] at hM
    have e1 : hmDoneE c num s m = 1 := by simp [hmDoneE, e]
    have e2 : hmDoneS c num s m = s := by simp [hmDoneS, e]
    rw [e1, e2]
    refine FnF.mk' Try.func35 rfl rfl Try.ntmps35 rfl ?_
    repeat (first | rintro _ _ ⟨rfl, rfl⟩ | refine exq fun _ => ?_ | intro _ | refine go ?_ | refine dr_Hom2_35 ?_ | refine drq ?_ | refine cal @hM ?_)
    exact fin0
theorem hm_Odd {F : List HP} {b : Nat} {c : Cfg} {num : Int} {s : HomS} : FnF Try.prog 21 [.pointer (some ⟨b, 0, none⟩)] [HomP b c num s] F (fun r L' => r = .int .i64 s.odd ∧ L' = [HomP b c num s]) := by
  obtain ⟨es, ms, q, odd⟩ := s
  refine FnF.mk' Try.func21 rfl rfl Try.ntmps21 rfl ?_
  refine hm_open fun bm be bq ps he => ?_
  repeat (first | rintro _ _ ⟨rfl, rfl⟩ | refine exq fun _ => ?_ | intro _ | refine go ?_ | refine drq ?_)
  (apply WE_ret rfl rfl (by (repeat (first | exact ResOk.nil | (apply ResOk.tmp; rfl) | (apply resOk_cell; rfl; exact inferInstance; rfl; rfl)))))
  · exact ⟨rfl, rfl⟩
  · ((repeat (first | (with_reducible exact Ent.refl) | exact Ent.nil | (apply ent_pickE; (focus ((repeat (first | (with_reducible exact pk_here) | (apply pk_there))); done))) | (apply hm_in) | apply Ent.drop)); all_goals (first | rfl | (with_reducible assumption) | (simp; done) | (simp; omega) | omega | (constructor <;> (simp) <;> omega)))
theorem hm_Queue {F : List HP} {b : Nat} {c : Cfg} {num : Int} {s : HomS} : FnF Try.prog 19 [.pointer (some ⟨b, 0, none⟩)] [HomP b c num s] F (fun r L' => ∃ p k, r = .slice p s.q.length k ∧ L' = [QuL 68 (.slice p s.q.length k) s.q, HomP b c num s]) := by
  obtain ⟨es, ms, q, odd⟩ := s
  refine FnF.mk' Try.func19 rfl rfl Try.ntmps19 rfl ?_
  refine hm_open fun bm be bq ps he => ?_
  repeat (first | rintro _ _ ⟨rfl, rfl⟩ | refine exq fun _ => ?_ | intro _ | refine go ?_ | refine drq ?_ | refine cal @qu_List ?_)
  (apply WE_ret rfl rfl (by (repeat (first | exact ResOk.nil | (apply ResOk.tmp; rfl) | (apply resOk_cell; rfl; exact inferInstance; rfl; rfl)))))
  · exact ⟨_, _, rfl, rfl⟩
  · ((repeat (first | (with_reducible exact Ent.refl) | exact Ent.nil | (apply ent_pickE; (focus ((repeat (first | (with_reducible exact pk_here) | (apply pk_there))); done))) | (apply hm_in) | apply Ent.drop)); all_goals (first | rfl | (with_reducible assumption) | (simp; done) | (simp; omega) | omega | (constructor <;> (simp) <;> omega)))
theorem hm_Line {F : List HP} {b : Nat} {c : Cfg} {num : Int} {s : HomS} {line : Int} (hc : c.wf) (hl : I64 line) : FnF Try.prog 22 [.pointer (some ⟨b, 0, none⟩), .int .i64 line] [HomP b c num s] F (fun r L' => r = .tuple [wv (hmLine c s line), .bool (hmOwn s line)].toArray ∧ L' = [HomP b c num s]) := by
  obtain ⟨es, ms, q, odd⟩ := s
  have hL := fun F b => mem_Line (F := F) (b := b) (c := c) (ms := ms) hc hl
  refine FnF.mk' Try.func22 rfl rfl Try.ntmps22 rfl ?_
  refine hm_open fun bm be bq ps he => ?_
  subst he
  have hg := hes_get ps line
  cases e : mget ps line with
  | none =>
    have e1 : hmOwn ⟨hes ps, ms, q, odd⟩ line = false := by simp [hmOwn, hg, e]
    have e2 : hmLine c ⟨hes ps, ms, q, odd⟩ line = .zero := by simp [hmLine, e1]
    repeat (first | rintro _ _ ⟨rfl, rfl⟩ | refine exq fun _ => ?_ | intro _ | refine go ?_)
    simp only [e, Option.isSome_none]
    repeat (first | rintro _ _ ⟨rfl, rfl⟩ | refine exq fun _ => ?_ | intro _ | refine go ?_ | refine drq ?_)
    (apply WE_ret rfl rfl (by (repeat (first | exact ResOk.nil | (apply ResOk.tmp; rfl) | (apply resOk_cell; rfl; exact inferInstance; rfl; rfl)))))
    · exact ⟨by rw [e1, e2]; rfl, rfl⟩
    · ((repeat (first | (with_reducible exact Ent.refl) | exact Ent.nil | (apply ent_pickE; (focus ((repeat (first | (with_reducible exact pk_here) | (apply pk_there))); done))) | (apply hm_in) | apply Ent.drop)); all_goals (first | rfl | (with_reducible assumption) | (simp; done) | (simp; omega) | omega | (constructor <;> (simp) <;> omega)))
  | some x =>
    have e1 : hmOwn ⟨hes ps, ms, q, odd⟩ line = true := by simp [hmOwn, hg, e]
    have e2 : hmLine c ⟨hes ps, ms, q, odd⟩ line = lineWo c ms line := by simp [hmLine, e1]
    repeat (first | rintro _ _ ⟨rfl, rfl⟩ | refine exq fun _ => ?_ | intro _ | refine go ?_)
    simp only [e, Option.isSome_some]
    repeat (first | rintro _ _ ⟨rfl, rfl⟩ | refine exq fun _ => ?_ | intro _ | refine go ?_ | refine drq ?_ | refine cal @hL ?_)
    (apply WE_ret rfl rfl (by (repeat (first | exact ResOk.nil | (apply ResOk.tmp; rfl) | (apply resOk_cell; rfl; exact inferInstance; rfl; rfl)))))
    · exact ⟨by rw [e1, e2]; rfl, rfl⟩
    · ((repeat (first | (with_reducible exact Ent.refl) | exact Ent.nil | (apply ent_pickE; (focus ((repeat (first | (with_reducible exact pk_here) | (apply pk_there))); done))) | (apply hm_in) | apply Ent.drop)); all_goals (first | rfl | (with_reducible assumption) | (simp; done) | (simp; omega) | omega | (constructor <;> (simp) <;> omega)))
theorem rd_hrs_some {ps : List (Int × HRd)} {k : Int} {x : HRd} (e : mget ps k = some x) (L : List HP) : RdL (All (hrs ps) :: L) 1 (.slice x.2.1 x.1.s.ps.length x.2.2) x.1.s.ps.length (flat ic x.1.s.ps) := by
  have := rd_hrs (L := L) ps k
  rw [e] at this
  exact this
theorem hm_Entry {F : List HP} {b : Nat} {c : Cfg} {num : Int} {s : HomS} {line : Int} (hE : ∀ e, mget s.es line = some e → mayT e = true) : FnF Try.prog 17 [.pointer (some ⟨b, 0, none⟩), .int .i64 line] [HomP b c num s] F
    (fun r L' => ∃ a k, r = .tuple [.agg (tec (hmEnt s line) a k).toArray, .bool (hmOwn s line)].toArray ∧ L' = [Own 3 1 (.slice a (hmEnt s line).s.ps.length k) (hmEnt s line).s.ps.length (flat ic (hmEnt s line).s.ps), HomP b c num s]) := by
  obtain ⟨es, ms, q, odd⟩ := s
  refine FnF.mk' Try.func17 rfl rfl Try.ntmps17 rfl ?_
  refine hm_open fun bm be bq ps he => ?_
  subst he
  have hg := hes_get ps line
  cases e : mget ps line with
  | none =>
    have e1 : hmOwn ⟨hes ps, ms, q, odd⟩ line = false := by simp [hmOwn, hg, e]
    have e2 : hmEnt ⟨hes ps, ms, q, odd⟩ line = .no := by simp [hmEnt, hg, e]
    rw [e1, e2]
    repeat (first | rintro _ _ ⟨rfl, rfl⟩ | refine exq fun _ => ?_ | intro _ | refine go ?_)
    simp only [e, Option.isSome_none]
    repeat (first | rintro _ _ ⟨rfl, rfl⟩ | refine exq fun _ => ?_ | intro _ | refine go ?_ | refine drq ?_)
    (apply WE_ret rfl rfl (by (repeat (first | exact ResOk.nil | (apply ResOk.tmp; rfl) | (apply resOk_cell; rfl; exact inferInstance; rfl; rfl)))))
    · exact ⟨none, 0, rfl, rfl⟩
    · refine own_empty ?_
      ((repeat (first | (with_reducible exact Ent.refl) | exact Ent.nil | (apply ent_pickE; (focus ((repeat (first | (with_reducible exact pk_here) | (apply pk_there))); done))) | (apply hm_in) | apply Ent.drop)); all_goals (first | rfl | (with_reducible assumption) | (simp; done) | (simp; omega) | omega | (constructor <;> (simp) <;> omega)))
  | some x =>
    obtain ⟨en, a, k⟩ := x
    have e1 : hmOwn ⟨hes ps, ms, q, odd⟩ line = true := by simp [hmOwn, hg, e]
    have e2 : hmEnt ⟨hes ps, ms, q, odd⟩ line = en := by simp [hmEnt, hg, e]
    have hm := hE en (by simp [hg, e])
    have hs : shMay en.s = true := by simp only [mayT, Bool.and_eq_true] at hm; exact hm.1.1
    haveI kr := fun L => rd_hrs_some e L
    have hT := fun F (hk : RdL F 1 (.slice a en.s.ps.length k) en.s.ps.length (flat ic en.s.ps)) => shr_Targets (F := F) (u := .slice none 0 0) (but := []) hk hs rd_empty (by simp)
    rw [e1, e2]
    repeat (first | rintro _ _ ⟨rfl, rfl⟩ | refine exq fun _ => ?_ | intro _ | refine go ?_)
    simp only [e, Option.isSome_some, Option.getD_some]
    cases ha : en.s.all with
    | true =>
      have hp : en.s.ps = [] := (may_facts' hs).2.2.2.2.2.1 ha
      repeat (first | rintro _ _ ⟨rfl, rfl⟩ | refine exq fun _ => ?_ | intro _ | refine go ?_ | refine drq ?_ | refine cal @hT ?_)
      (apply WE_ret rfl rfl (by (repeat (first | exact ResOk.nil | (apply ResOk.tmp; rfl) | (apply resOk_cell; rfl; exact inferInstance; rfl; rfl)))))
      · exact ⟨none, 0, by simp only [tec, hp, List.length_nil]; rfl, rfl⟩
      · rw [hp]
        refine own_empty ?_
        ((repeat (first | (with_reducible exact Ent.refl) | exact Ent.nil | (apply ent_pickE; (focus ((repeat (first | (with_reducible exact pk_here) | (apply pk_there))); done))) | (apply hm_in) | apply Ent.drop)); all_goals (first | rfl | (with_reducible assumption) | (simp; done) | (simp; omega) | omega | (constructor <;> (simp) <;> omega)))
    | false =>
      have hp := tgt_all hs ha
      simp only [hp] at hT
      repeat (first | rintro _ _ ⟨rfl, rfl⟩ | refine exq fun _ => ?_ | intro _ | refine go ?_ | refine drq ?_ | refine cal @hT ?_)
      (apply WE_ret rfl rfl (by (repeat (first | exact ResOk.nil | (apply ResOk.tmp; rfl) | (apply resOk_cell; rfl; exact inferInstance; rfl; rfl)))))
      · exact ⟨_, _, rfl, rfl⟩
      · ((repeat (first | (with_reducible exact Ent.refl) | exact Ent.nil | (apply ent_pickE; (focus ((repeat (first | (with_reducible exact pk_here) | (apply pk_there))); done))) | (apply hm_in) | apply Ent.drop)); all_goals (first | rfl | (with_reducible assumption) | (simp; done) | (simp; omega) | omega | (constructor <;> (simp) <;> omega)))
end Go.Sx

/- What homes do, told of lists: the invariant, and a request's start. My own work. -/
namespace Go.Sx
open Go Go.Proofs
set_option linter.unusedVariables false
set_option linter.unusedSimpArgs false
def ownL (c : Cfg) (num k : Int) : Prop := 0 ≤ k ∧ k < c.lines ∧ k % c.homes = num
instance (c : Cfg) (num k : Int) : Decidable (ownL c num k) := by unfold ownL; infer_instance
/-- What is so of a home, whatever comes. -/
structure HmI (c : Cfg) (num : Int) (s : HomS) : Prop where
  ok : checkB c = true
  nm : 0 ≤ num ∧ num < c.homes
  own : ∀ k, hmOwn s k = decide (ownL c num k)
  may : ∀ k e, mget s.es k = some e → mayT e = true ∧ e.s.cores = c.cores ∧ e.s.most = c.pointers
  req : ∀ x ∈ s.q, mineB c num x.m 0 = true
  snd : ∀ x ∈ s.q, ∀ y ∈ x.sends, (4 ≤ y.kind ∧ y.kind ≤ 10) ∧ y.line = x.m.line ∧ y.src = num
  len : (s.q.length : Int) ≤ c.buffer
theorem cfg_wf' {c : Cfg} (h : checkB c = true) : c.wf := by
  simp only [checkB, fitsB, Bool.and_eq_true, decide_eq_true_eq] at h
  unfold Cfg.wf I64
  omega
theorem cfg_room' {c : Cfg} (h : checkB c = true) : 1 ≤ c.buffer ∧ c.buffer ≤ 16 := by
  simp only [checkB, fitsB, Bool.and_eq_true, decide_eq_true_eq] at h
  omega
theorem mine_facts {c : Cfg} {num : Int} {m : Msg} (hc : checkB c = true) (h : mineB c num m 0 = true) : MayP c m ∧ (1 ≤ m.kind ∧ m.kind ≤ 3) ∧ ownL c num m.line ∧ (0 ≤ m.src ∧ m.src < c.cores) ∧ m.dst = num := by
  simp only [mineB, Bool.and_eq_true, decide_eq_true_eq] at h
  obtain ⟨⟨⟨h1, h2⟩, h3⟩, h4⟩ := h
  have hk : 1 ≤ m.kind ∧ m.kind ≤ 3 := by
    unfold netK at h2
    split at h2
    · assumption
    · split at h2
      · omega
      · split at h2 <;> omega
  obtain ⟨g1, g2, g3, g4, g5⟩ := h1
  have hu : UpP c m := by unfold FormP at g4; rw [if_pos h3] at g4; exact g4
  obtain ⟨u1, u2, u3⟩ := hu
  have hh := (cfg_bnd hc).2.1
  refine ⟨⟨g1, g2, g3, g4, g5⟩, hk, ⟨g3.1, g3.2, ?_⟩, u1, h4⟩
  rw [← h4, u2]
  unfold homeN
  rw [Int.tmod_eq_emod_of_nonneg g3.1]
theorem hmEnt_own {c : Cfg} {num : Int} {s : HomS} (h : HmI c num s) {k : Int} (ho : ownL c num k) : mget s.es k = some (hmEnt s k) ∧ mayT (hmEnt s k) = true ∧ (hmEnt s k).s.cores = c.cores ∧ (hmEnt s k).s.most = c.pointers := by
  have h1 := h.own k
  rw [decide_eq_true ho] at h1
  unfold hmOwn at h1
  cases e : mget s.es k with
  | none => rw [e] at h1; cases h1
  | some x =>
    have e2 : hmEnt s k = x := by unfold hmEnt; rw [e]; rfl
    rw [e2]
    exact ⟨rfl, h.may k x e⟩
/-! ## What can be done for one -/
def hmX (s : HomS) (at' : Int) : Msg := (qat s.q at').m
def hmOddS (s : HomS) (at' : Int) : HomS := ⟨s.es, s.ms, s.q.eraseIdx at'.toNat, s.odd + 1⟩
def hmTurnS (c : Cfg) (s : HomS) (at' : Int) : HomS :=
  ⟨mset s.es (hmX s at').line (nextT (hmEnt s (hmX s at').line) (hmX s at')), if nextW (hmEnt s (hmX s at').line) (hmX s at') then wrL c s.ms (hmX s at').line (hmX s at').words else s.ms,
    qstartL s.q at' (nextS (hmEnt s (hmX s at').line) (hmX s at') (lineWo c s.ms (hmX s at').line)), s.odd⟩
def hmStartS (c : Cfg) (s : HomS) (at' : Int) : HomS := if nextE (hmEnt s (hmX s at').line) (hmX s at') = 0 then hmTurnS c s at' else hmOddS s at'
/-- How much room a network has. -/
abbrev L3 := Int × Int × Int
abbrev l3c (l : L3) : List Value := [.int .i64 l.1, .int .i64 l.2.1, .int .i64 l.2.2]
def l3at (l : L3) (n : Int) : Int := if n = 0 then l.1 else if n = 1 then l.2.1 else l.2.2
def hmGoes (s : HomS) (at' : Int) (l : L3) : Bool := qnextB s.q at' && decide (0 < l3at l (netK (qnextM s.q at').kind))
def hmWorkS (c : Cfg) (s : HomS) (at' : Int) (l : L3) : HomS := if qready s.q at' then hmStartS c s at' else if hmGoes s at' l then { s with q := qsentL s.q at' } else s
def hmWorkM (s : HomS) (at' : Int) (l : L3) : Msg := if qready s.q at' then .zero else if hmGoes s at' l then qnextM s.q at' else .zero
def hmWorkB (s : HomS) (at' : Int) (l : L3) : Bool := if qready s.q at' then false else hmGoes s at' l
def hmDid (s : HomS) (at' : Int) (l : L3) : Bool := if qready s.q at' then true else hmGoes s at' l
theorem nextE_cases {c : Cfg} {num : Int} {s : HomS} (h : HmI c num s) {m : Msg} (hm : mineB c num m 0 = true) : (nextE (hmEnt s m.line) m = 7 ∧ m.kind = 1 ∧ (hmEnt s m.line).o = m.src) ∨ nextE (hmEnt s m.line) m = 0 := by
  obtain ⟨f1, f2, f3, f4, f5⟩ := mine_facts h.ok hm
  obtain ⟨g1, g2, g3, _⟩ := hmEnt_own h f3
  have hok : okT (hmEnt s m.line) m = true := by
    simp only [okT, g2, Bool.true_and, Bool.and_eq_true, decide_eq_true_eq]
    omega
  unfold nextE
  rw [if_pos hok]
  by_cases k1 : m.kind = 1
  · rw [if_pos k1]
    split
    · exact .inl ⟨rfl, k1, by assumption⟩
    · exact .inr rfl
  · rw [if_neg k1]
    right
    split
    · rfl
    · rw [if_pos (by omega)]
/-- One that is odd is gone, as it came. -/
theorem odd_out {q : List QE} {n : Int} {m : Msg} (hr : qready q n = true) (hm : (qat q n).m = m) (hk : m.kind ≠ 3) : qfinL (qsentL (qstartL q n [m]) n) m.line m.src = q.eraseIdx n.toNat := by
  have hr0 := hr
  obtain ⟨i, hi, rfl, ea, hs, hf⟩ := qready_t hr
  have hin : qin q (i : Int) = true := by simp only [qin, decide_eq_true_eq]; omega
  have e1 : qstartL q i [m] = q.set i { q[i] with st := true, sends := [m] } := by simp [qstartL, qstartE, hin, hr0, ea]
  rw [e1]
  have hm' : q[i].m = m := by rw [← ea]; exact hm
  generalize hx : ({ q[i] with st := true, sends := [m] } : QE) = x
  have x1 : x.m = m := by rw [← hx]; exact hm'
  have x2 : x.st = true := by rw [← hx]
  have x3 : x.sends = [m] := by rw [← hx]
  have hin2 : qin (q.set i x) (i : Int) = true := by simp only [qin, decide_eq_true_eq, List.length_set]; omega
  have ea2 : qat (q.set i x) i = x := by simp [qat, hin2, hi]
  have e2 : qsentL (q.set i x) i = q.set i { x with sends := [] } := by
    simp [qsentL, qsentE, hin2, ea2, x3, x1, hk]
  rw [e2]
  generalize hy : ({ x with sends := [] } : QE) = y
  have y1 : y.m = m := by rw [← hy]; exact x1
  have y2 : y.st = true := by rw [← hy]; exact x2
  have y3 : y.sends = [] := by rw [← hy]
  have hix : indexBy (qgone m.line m.src) (q.set i y) = i := by
    refine indexBy_at (by simpa using hi) ?_ ?_
    · intro j hj hji
      have hj' : j < q.length := by simpa using hj
      rw [List.getElem_set_ne (by omega)]
      have := hf j hj' hji
      rw [hm'] at this
      simp [qgone, this]
    · simp [qgone, y1, y2, y3, hk]
  unfold qfinL
  rw [hix, if_neg (by omega), Int.toNat_natCast, List.eraseIdx_set_eq]
end Go.Sx

/- What nets do: three bags of messages. The program's. My own work. -/
namespace Go.Sx
open Go Go.Proofs
set_option linter.unusedVariables false
set_option linter.unusedSectionVars false
set_option linter.unusedSimpArgs false

/-! ## Three networks -/
structure Nets where
  l0 : List Msg
  l1 : List Msg
  l2 : List Msg
abbrev Nets.no : Nets := ⟨[], [], []⟩
def hasN (k : Int) : Bool := decide (0 ≤ k ∧ k < 3)
def nget (n : Nets) (k : Int) : List Msg := if k = 0 then n.l0 else if k = 1 then n.l1 else if k = 2 then n.l2 else []
def nset (n : Nets) (k : Int) (l : List Msg) : Nets := if k = 0 then ⟨l, n.l1, n.l2⟩ else if k = 1 then ⟨n.l0, l, n.l2⟩ else if k = 2 then ⟨n.l0, n.l1, l⟩ else n
def nroom (c : Cfg) (k : Int) : Int := if k = 0 then c.r0 else if k = 1 then c.r1 else if k = 2 then c.r2 else 0
def nleft (c : Cfg) (n : Nets) (k : Int) : Int := nroom c k - (nget n k).length
def natM (n : Nets) (k i : Int) : Msg := atL .zero (nget n k) i
def natB (n : Nets) (k i : Int) : Bool := inL (nget n k) i
def ntakeE (n : Nets) (k i : Int) : Int := takeE (nget n k) i
def ntakeN (n : Nets) (k i : Int) : Nets := nset n k (takeL (nget n k) i)
def nsendE (c : Cfg) (n : Nets) (m : Msg) : Int := if MayP c m then putE (nroom c (netK m.kind)) (nget n (netK m.kind)) else 1
def nsendN (c : Cfg) (n : Nets) (m : Msg) : Nets := if MayP c m then nset n (netK m.kind) (putL (nroom c (netK m.kind)) (nget n (netK m.kind)) m) else n
def nall (n : Nets) : List Msg := n.l0 ++ n.l1 ++ n.l2
def nofL (n : Nets) (line : Int) : List Msg := (nall n).filter fun m => decide (m.line = line)
theorem hasN_case {k : Int} (h : hasN k = true) : k = 0 ∨ k = 1 ∨ k = 2 := by simp [hasN] at h; omega
theorem nget_no {n : Nets} {k : Int} (h : hasN k = false) : nget n k = [] := by
  simp only [hasN, decide_eq_false_iff_not] at h
  unfold nget; rw [if_neg (by omega), if_neg (by omega), if_neg (by omega)]
theorem nroom_no {c : Cfg} {k : Int} (h : hasN k = false) : nroom c k = 0 := by
  simp only [hasN, decide_eq_false_iff_not] at h
  unfold nroom; rw [if_neg (by omega), if_neg (by omega), if_neg (by omega)]
theorem nset_no {n : Nets} {k : Int} {l : List Msg} (h : hasN k = false) : nset n k l = n := by
  simp only [hasN, decide_eq_false_iff_not] at h
  unfold nset; rw [if_neg (by omega), if_neg (by omega), if_neg (by omega)]
theorem netK_may {c : Cfg} {m : Msg} (h : MayP c m) : netK m.kind = 0 ∨ netK m.kind = 1 ∨ netK m.kind = 2 := by
  have := h.2.1
  unfold netK; split <;> (try split) <;> (try split) <;> omega

abbrev ncells (c : Cfg) (b0 b1 b2 : Nat) : List Value := [.int .i64 c.cores, .int .i64 c.homes, .int .i64 c.sets, .int .i64 c.ways, .int .i64 c.words, .int .i64 c.lines, .int .i64 c.pointers, .int .i64 c.mshrs, .int .i64 c.buffer, .int .i64 c.writebacks, .int .i64 c.r0, .int .i64 c.r1, .int .i64 c.r2, .pointer (some ⟨b0, 0, none⟩), .pointer (some ⟨b1, 0, none⟩), .pointer (some ⟨b2, 0, none⟩)]
theorem RL_len {α : Type} {T e : TypeId} {sz : Nat} {enc : α → List Value} {b : Nat} {room : Int} {l : List α} {L : List HP} {w : World} (h : Sat (RL T e sz enc b room l :: L) w) : (l.length : Int) ≤ room ∧ room ≤ 4096 := by
  obtain ⟨⟨p, c0⟩, hx⟩ := star_ex h
  simp only [app] at hx
  exact fact_of (star_drop (star_drop hx))
def NetB (T TB TM : TypeId) (b : Nat) (c : Cfg) (n : Nets) : HP :=
  Ex fun q : Nat × Nat × Nat => [Cells b T (ncells c q.1 q.2.1 q.2.2), RL TB TM 15 mc q.1 c.r0 n.l0, RL TB TM 15 mc q.2.1 c.r1 n.l1, RL TB TM 15 mc q.2.2 c.r2 n.l2, Fact (checkB c = true)]
theorem net_in {T TB TM : TypeId} {b : Nat} {c : Cfg} {n : Nets} {b0 b1 b2 : Nat} {L M : List HP}
    (h : Ent L (Cells b T (ncells c b0 b1 b2) :: RL TB TM 15 mc b0 c.r0 n.l0 :: RL TB TM 15 mc b1 c.r1 n.l1 :: RL TB TM 15 mc b2 c.r2 n.l2 :: M)) (hc : checkB c = true) : Ent L (NetB T TB TM b c n :: M) := by
  refine Ent.trans h (Ent.trans ?_ (ex_intro (p := fun q : Nat × Nat × Nat => [Cells b T (ncells c q.1 q.2.1 q.2.2), RL TB TM 15 mc q.1 c.r0 n.l0, RL TB TM 15 mc q.2.1 c.r1 n.l1, RL TB TM 15 mc q.2.2 c.r2 n.l2, Fact (checkB c = true)]) (b0, b1, b2)))
  exact Ent.cons (Ent.cons (Ent.cons (Ent.cons (star_fact_mk hc))))
theorem net_sat {T TB TM : TypeId} {b : Nat} {c : Cfg} {n : Nets} {L : List HP} {w : World} (h : Sat (NetB T TB TM b c n :: L) w) : ∃ b0 b1 b2, (checkB c = true ∧ (n.l0.length : Int) ≤ c.r0 ∧ (n.l1.length : Int) ≤ c.r1 ∧ (n.l2.length : Int) ≤ c.r2) ∧
    Sat (Cells b T (ncells c b0 b1 b2) :: RL TB TM 15 mc b0 c.r0 n.l0 :: RL TB TM 15 mc b1 c.r1 n.l1 :: RL TB TM 15 mc b2 c.r2 n.l2 :: L) w := by
  obtain ⟨⟨b0, b1, b2⟩, hx⟩ := star_ex h
  simp only [app] at hx
  have hf := fact_of (star_drop (star_drop (star_drop (star_drop hx))))
  have h2 : Sat (Cells b T (ncells c b0 b1 b2) :: RL TB TM 15 mc b0 c.r0 n.l0 :: RL TB TM 15 mc b1 c.r1 n.l1 :: RL TB TM 15 mc b2 c.r2 n.l2 :: L) w := (Ent.cons (Ent.cons (Ent.cons (Ent.cons (Ent.drop Ent.refl))))) _ hx
  exact ⟨b0, b1, b2, ⟨hf, (RL_len ((Ent.drop Ent.refl).sat h2)).1, (RL_len ((Ent.drop (Ent.drop Ent.refl)).sat h2)).1, (RL_len ((Ent.drop (Ent.drop (Ent.drop Ent.refl))).sat h2)).1⟩, h2⟩
section
variable {T TB TM : TypeId} {b : Nat} {c : Cfg} {n : Nets} {P : Program} {N : Nat} {env : Env} {L : List HP} {Q : Exit → Act → World → Prop}
theorem net_open {co : Code} (h : ∀ b0 b1 b2, (checkB c = true ∧ (n.l0.length : Int) ≤ c.r0 ∧ (n.l1.length : Int) ≤ c.r1 ∧ (n.l2.length : Int) ≤ c.r2) → WC P N co env (Cells b T (ncells c b0 b1 b2) :: RL TB TM 15 mc b0 c.r0 n.l0 :: RL TB TM 15 mc b1 c.r1 n.l1 :: RL TB TM 15 mc b2 c.r2 n.l2 :: L) Q) : WC P N co env (NetB T TB TM b c n :: L) Q := by
  intro a w ha hw
  obtain ⟨b0, b1, b2, hf, hx⟩ := net_sat hw
  exact h b0 b1 b2 hf a w ha hx
theorem net_openO {all : Array Oper} {o : List Oper} (h : ∀ b0 b1 b2, (checkB c = true ∧ (n.l0.length : Int) ≤ c.r0 ∧ (n.l1.length : Int) ≤ c.r1 ∧ (n.l2.length : Int) ≤ c.r2) → WO P N all o env (Cells b T (ncells c b0 b1 b2) :: RL TB TM 15 mc b0 c.r0 n.l0 :: RL TB TM 15 mc b1 c.r1 n.l1 :: RL TB TM 15 mc b2 c.r2 n.l2 :: L) Q) : WO P N all o env (NetB T TB TM b c n :: L) Q := by
  intro a w ha hw
  obtain ⟨b0, b1, b2, hf, hx⟩ := net_sat hw
  exact h b0 b1 b2 hf a w ha hx
end
set_option maxRecDepth 100000
set_option maxHeartbeats 4000000
attribute [local irreducible] Go.Exit.then Go.Exit.inBlock Go.Code.wp WC WO WE WQ V LoopQ FnQ Sat Star band bor IntKind.wrap WR Code.rounds WT KO
abbrev NetP := NetB 182 227 59

theorem dr_Net_48 {Q P : Prop} (k : Q) (h : Hid Q → P := by
  intro k
  first
  | (refine is_draw ?_; apply WC_mix (id := 8) .true [] (pl := .p 0 <| .p 1 <| .p 2 <| .p 7 <| .p 8 <| .e true [(3, .p 4 <| .p 5 <| .p 6 <| .p 9 <| .e false [(10, .done)])]); exact mixed; kernel_rfl; kernel_rfl; exact Ent.nil; exact k.out)) : P := h ⟨k⟩
theorem net_New {F : List HP} {c : Cfg} (hw : c.wf) (hc : checkB c = true) : FnF Try.prog 48 [c.val] [] F (fun r L' => ∃ b, r = .tuple [.pointer (some ⟨b, 0, none⟩), .int .i64 0].toArray ∧ L' = [NetP b c .no]) := by
  have hC := fun F => shape_Check (F := F) hw
  simp only [checkE, hc, if_true] at hC
  have hr : (1 ≤ c.r0 ∧ c.r0 ≤ 4096) ∧ (1 ≤ c.r1 ∧ c.r1 ≤ 4096) ∧ (1 ≤ c.r2 ∧ c.r2 ≤ 4096) := by
    simp only [checkB, fitsB, Bool.and_eq_true, decide_eq_true_eq] at hc
    omega
  obtain ⟨h0, h1, h2⟩ := hr
  have hB0 := fun F => bag_New_msg (F := F) h0
  have hB1 := fun F => bag_New_msg (F := F) h1
  have hB2 := fun F => bag_New_msg (F := F) h2
  refine FnF.mk' Try.func48 rfl rfl Try.ntmps48 rfl ?_
  repeat (first | rintro _ _ ⟨rfl, rfl⟩ | refine exq fun _ => ?_ | intro _ | refine go ?_ | refine dr_Net_48 ?_ | refine drq ?_ | refine cal @hC ?_)
  refine WC_rounds 4 ?_
  repeat (first | rintro _ _ ⟨rfl, rfl⟩ | refine exq fun _ => ?_ | intro _ | refine go ?_ | refine dr_Net_48 ?_ | refine drq ?_ | refine cal @hB0 ?_ | refine cal @hB1 ?_ | refine cal @hB2 ?_)
  (apply WE_ret rfl rfl (by (repeat (first | exact ResOk.nil | (apply ResOk.tmp; rfl) | (apply resOk_cell; rfl; exact inferInstance; rfl; rfl)))))
  · exact ⟨_, rfl, rfl⟩
  · rename_i bc b w2 w1 w0
    change Ent (Bag_msg w0 c.r2 [] :: Bag_msg w1 c.r1 [] :: Bag_msg w2 c.r0 [] :: Cells b 182 (ncells c w2 w1 w0) :: _) _
    (apply net_in; (focus (exact entu0)); all_goals (first | rfl | (with_reducible assumption) | (simp; done) | (simp; omega) | omega | (constructor <;> (simp) <;> omega)))
theorem net_New_no {F : List HP} {c : Cfg} (hw : c.wf) (hc : checkB c = false) : FnF Try.prog 48 [c.val] [] F (fun r L' => r = .tuple [.pointer none, .int .i64 1].toArray ∧ L' = []) := by
  have hC := fun F => shape_Check (F := F) hw
  simp only [checkE, hc, Bool.false_eq_true, if_false] at hC
  refine FnF.mk' Try.func48 rfl rfl Try.ntmps48 rfl ?_
  repeat (first | rintro _ _ ⟨rfl, rfl⟩ | refine exq fun _ => ?_ | intro _ | refine go ?_ | refine dr_Net_48 ?_ | refine drq ?_ | refine cal @hC ?_)
  exact fin0
end Go.Sx
