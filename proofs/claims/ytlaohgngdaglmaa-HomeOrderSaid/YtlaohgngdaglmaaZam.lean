/- Hom, Hom2, HomPl: several of my texts as one. My own work. -/
import Derived.Test.YtlaohgngdaglmaaZaf
import Derived.Test.YtlaohgngdaglmaaZag
import Derived.Test.YtlaohgngdaglmaaZac
import Derived.Test.YtlaohgngdaglmaaZai
import Derived.Test.YtlaohgngdaglmaaZal
import Derived.Test.YtlaohgngdaglmaaZae
/- What homes do: their place in memory, and the short ones of the program's functions. My own work. -/
namespace Go.Sx
open Go Go.Proofs
set_option linter.unusedVariables false
set_option linter.unusedSectionVars false
set_option linter.unusedSimpArgs false
/-- What a home is: its lines' entries, its memory's words, its requests, how many were odd. -/
structure HomS where
  es : List (Int × TEnt)
  ms : List Int
  q : List QE
  odd : Int
abbrev HRd := TEnt × Option Addr × Nat
abbrev hrv (x : HRd) : Value := .slice x.2.1 x.1.s.ps.length x.2.2
abbrev hrc (x : HRd) : Value := .agg (tec x.1 x.2.1 x.2.2).toArray
abbrev hrd (x : HRd) : HP := Rds 1 (hrv x) x.1.s.ps.length (flat ic x.1.s.ps)
abbrev hrs (ps : List (Int × HRd)) : List HP := ps.map fun p => hrd p.2
abbrev hes (ps : List (Int × HRd)) : List (Int × TEnt) := ps.map fun p => (p.1, p.2.1)
abbrev hz : HRd := (.no, none, 0)
theorem hes_get (ps : List (Int × HRd)) (k : Int) : mget (hes ps) k = (mget ps k).map (·.1) := by
  induction ps with
  | nil => rfl
  | cons p r ih =>
    show mget ((p.1, p.2.1) :: hes r) k = _
    rw [mget_cons, mget_cons, ih]
    split <;> rfl
theorem hes_getD (ps : List (Int × HRd)) (k : Int) : ((mget ps k).getD hz).1 = (mget (hes ps) k).getD .no := by
  rw [hes_get]; cases mget ps k <;> rfl
theorem hes_mset (ps : List (Int × HRd)) (k : Int) (x : HRd) : hes (mset ps k x) = mset (hes ps) k x.1 := by
  induction ps with
  | nil => rfl
  | cons p r ih =>
    show hes (if p.1 = k then (k, x) :: r else p :: mset r k x) = if p.1 = k then (k, x.1) :: hes r else (p.1, p.2.1) :: mset (hes r) k x.1
    split
    · rfl
    · show (p.1, p.2.1) :: hes (mset r k x) = _
      rw [ih]
theorem hrs_mset {L : List HP} (ps : List (Int × HRd)) (k : Int) (x : HRd) : Ent (hrd x :: All (hrs ps) :: L) (All (hrs (mset ps k x)) :: L) := by
  have h : ∀ ps : List (Int × HRd), Ent (hrd x :: (hrs ps ++ L)) (hrs (mset ps k x) ++ L) := by
    intro ps
    induction ps with
    | nil => exact Ent.refl
    | cons p r ih =>
      show Ent (hrd x :: hrd p.2 :: (hrs r ++ L)) (hrs (if p.1 = k then (k, x) :: r else p :: mset r k x) ++ L)
      split
      · exact Ent.cons (Ent.drop Ent.refl)
      · exact Ent.trans (ent_perm (List.Perm.swap _ _ _)) (Ent.cons ih)
  exact Ent.trans (Ent.cons all_open) (Ent.trans (h ps) all_close)
theorem hrs_put {L M : List HP} {T : TypeId} {ps : List (Int × HRd)} {k : Int} {x : HRd} (h : Ent L (Own T 1 (hrv x) x.1.s.ps.length (flat ic x.1.s.ps) :: All (hrs ps) :: M)) : Ent L (All (hrs (mset ps k x)) :: M) :=
  Ent.trans h (Ent.trans own_rds (hrs_mset ps k x))
theorem rd_hrs {L : List HP} (ps : List (Int × HRd)) (k : Int) : RdL (All (hrs ps) :: L) 1 (hrv ((mget ps k).getD hz)) ((mget ps k).getD hz).1.s.ps.length (flat ic ((mget ps k).getD hz).1.s.ps) := by
  cases e : mget ps k with
  | none => exact rd_empty
  | some x =>
    obtain ⟨i, hi, h⟩ := List.getElem_of_mem (mget_mem e)
    have hx : ps[i].2 = x := by rw [h]
    have k : RdL (hrd ps[i].2 :: All ((ps.eraseIdx i).map fun p => hrd p.2) :: L) 1 (hrv ps[i].2) ps[i].2.1.s.ps.length (flat ic ps[i].2.1.s.ps) := RdL.rds
    have e := all_take (f := fun p : Int × HRd => hrd p.2) (L := L) i hi
    rw [hx] at k
    rw [hx] at e
    exact ⟨fun w h => k.len w (e.sat (by simpa using h)), fun w h => k.ones w (e.sat (by simpa using h)), fun w h => k.pf w (e.sat (by simpa using h))⟩
/-! ## A home in memory -/
abbrev hmc (c : Cfg) (num : Int) (bm be bq : Nat) (odd : Int) : List Value := [.int .i64 c.cores, .int .i64 c.homes, .int .i64 c.sets, .int .i64 c.ways, .int .i64 c.words, .int .i64 c.lines, .int .i64 c.pointers, .int .i64 c.mshrs, .int .i64 c.buffer, .int .i64 c.writebacks, .int .i64 c.r0, .int .i64 c.r1, .int .i64 c.r2, .int .i64 num, .map (some bm), .pointer (some ⟨be, 0, none⟩), .pointer (some ⟨bq, 0, none⟩), .int .i64 odd]
def HomP (b : Nat) (c : Cfg) (num : Int) (s : HomS) : HP := Ex fun x : (Nat × Nat × Nat) × List (Int × HRd) => [Cells b 108 (hmc c num x.1.1 x.1.2.1 x.1.2.2 s.odd), MapAt x.1.1 hrc x.2, All (hrs x.2), MemB x.1.2.1 c s.ms, QuB 168 68 x.1.2.2 c.buffer s.q, Fact (hes x.2 = s.es)]
theorem hm_in {b bm be bq : Nat} {c : Cfg} {num odd : Int} {ps : List (Int × HRd)} {es : List (Int × TEnt)} {ms : List Int} {q : List QE} {L M : List HP}
    (h : Ent L (Cells b 108 (hmc c num bm be bq odd) :: MapAt bm hrc ps :: All (hrs ps) :: MemB be c ms :: QuB 168 68 bq c.buffer q :: M)) (he : hes ps = es) : Ent L (HomP b c num ⟨es, ms, q, odd⟩ :: M) := by
  refine Ent.trans h (Ent.trans ?_ (ex_intro (p := fun x : (Nat × Nat × Nat) × List (Int × HRd) => [Cells b 108 (hmc c num x.1.1 x.1.2.1 x.1.2.2 odd), MapAt x.1.1 hrc x.2, All (hrs x.2), MemB x.1.2.1 c ms, QuB 168 68 x.1.2.2 c.buffer q, Fact (hes x.2 = es)]) ((bm, be, bq), ps)))
  exact Ent.cons (Ent.cons (Ent.cons (Ent.cons (Ent.cons (star_fact_mk he)))))
theorem hm_sat {b : Nat} {c : Cfg} {num : Int} {s : HomS} {L : List HP} {w : World} (h : Sat (HomP b c num s :: L) w) : ∃ bm be bq, ∃ ps : List (Int × HRd), hes ps = s.es ∧
    Sat (Cells b 108 (hmc c num bm be bq s.odd) :: MapAt bm hrc ps :: All (hrs ps) :: MemB be c s.ms :: QuB 168 68 bq c.buffer s.q :: L) w := by
  obtain ⟨⟨⟨bm, be, bq⟩, ps⟩, hx⟩ := star_ex h
  simp only [app] at hx
  exact ⟨bm, be, bq, ps, fact_of (star_drop (star_drop (star_drop (star_drop (star_drop hx))))), (Ent.cons (Ent.cons (Ent.cons (Ent.cons (Ent.cons (Ent.drop Ent.refl)))))) _ hx⟩
section
variable {b : Nat} {c : Cfg} {num : Int} {s : HomS} {P : Program} {N : Nat} {env : Env} {L : List HP} {Q : Exit → Act → World → Prop}
theorem hm_open {co : Code} (h : ∀ bm be bq, ∀ ps : List (Int × HRd), hes ps = s.es → WC P N co env (Cells b 108 (hmc c num bm be bq s.odd) :: MapAt bm hrc ps :: All (hrs ps) :: MemB be c s.ms :: QuB 168 68 bq c.buffer s.q :: L) Q) : WC P N co env (HomP b c num s :: L) Q := by
  intro a w ha hw
  obtain ⟨bm, be, bq, ps, he, hx⟩ := hm_sat hw
  exact h bm be bq ps he a w ha hx
theorem hm_openO {all : Array Oper} {o : List Oper} (h : ∀ bm be bq, ∀ ps : List (Int × HRd), hes ps = s.es → WO P N all o env (Cells b 108 (hmc c num bm be bq s.odd) :: MapAt bm hrc ps :: All (hrs ps) :: MemB be c s.ms :: QuB 168 68 bq c.buffer s.q :: L) Q) : WO P N all o env (HomP b c num s :: L) Q := by
  intro a w ha hw
  obtain ⟨bm, be, bq, ps, he, hx⟩ := hm_sat hw
  exact h bm be bq ps he a w ha hx
end
/-! ## What they do, told of lists -/
def mineB (c : Cfg) (num : Int) (m : Msg) (net : Int) : Bool := decide (MayP c m) && decide (netK m.kind = net) && decide (HomeP m.kind) && decide (m.dst = num)
def hmAccE (c : Cfg) (num : Int) (s : HomS) (m : Msg) : Int := if mineB c num m 0 then qaddE c.buffer s.q m else 1
def hmAccS (c : Cfg) (num : Int) (s : HomS) (m : Msg) : HomS := if mineB c num m 0 then { s with q := qaddL c.buffer s.q m } else s
def hmDoneE (c : Cfg) (num : Int) (s : HomS) (m : Msg) : Int := if mineB c num m 2 then qfinE s.q m.line m.src else 1
def hmDoneS (c : Cfg) (num : Int) (s : HomS) (m : Msg) : HomS := if mineB c num m 2 then { s with q := qfinL s.q m.line m.src } else s
def hmEnt (s : HomS) (line : Int) : TEnt := (mget s.es line).getD .no
def hmOwn (s : HomS) (line : Int) : Bool := (mget s.es line).isSome
def hmLine (c : Cfg) (s : HomS) (line : Int) : Words := if hmOwn s line then lineWo c s.ms line else .zero
set_option maxRecDepth 100000
set_option maxHeartbeats 4000000
attribute [local irreducible] Go.Exit.then Go.Exit.inBlock Go.Code.wp WC WO WE WQ V LoopQ FnQ Sat Star band bor IntKind.wrap WR Code.rounds WT KO
instance : MapT Try.prog 106 hrc hz := ⟨_, _, _, _, _, Try.underlying106, Try.underlying3, TZ.pf⟩
theorem hm_mine {F : List HP} {b : Nat} {c : Cfg} {num : Int} {s : HomS} {m : Msg} {net : Int} (hc : c.wf) : FnF Try.prog 64 [.pointer (some ⟨b, 0, none⟩), mv m, .int .i64 net] [HomP b c num s] F (fun r L' => r = .bool (mineB c num m net) ∧ L' = [HomP b c num s]) := by
  have hM := fun F => msg_May (F := F) (c := c) (m := m) hc
  have hH := fun F => msg_Home (F := F) (k := m.kind)
  obtain ⟨es, ms, q, odd⟩ := s
  refine FnF.mk' Try.func64 rfl rfl Try.ntmps64 rfl ?_
  refine hm_open fun bm be bq ps he => ?_
  by_cases h1 : MayP c m
  · simp only [decide_eq_true h1] at hM
    by_cases h2 : netK m.kind = net
    · by_cases h3 : HomeP m.kind
      · simp only [decide_eq_true h3] at hH
        repeat (first | rintro _ _ ⟨rfl, rfl⟩ | refine exq fun _ => ?_ | intro _ | refine go ?_ | refine drq ?_ | refine cal @hM ?_ | refine cal @msg_Net ?_ | refine cal @hH ?_)
        (apply WE_ret rfl rfl (by (repeat (first | exact ResOk.nil | (apply ResOk.tmp; rfl) | (apply resOk_cell; rfl; exact inferInstance; rfl; rfl)))))
        · exact ⟨by simp [mineB, h1, h2, h3], rfl⟩
        · ((repeat (first | (with_reducible exact Ent.refl) | exact Ent.nil | (apply ent_pickE; (focus ((repeat (first | (with_reducible exact pk_here) | (apply pk_there))); done))) | (apply hm_in) | apply Ent.drop)); all_goals (first | rfl | (with_reducible assumption) | (simp; done) | (simp; omega) | omega | (constructor <;> (simp) <;> omega)))
      · simp only [decide_eq_false h3] at hH
        repeat (first | rintro _ _ ⟨rfl, rfl⟩ | refine exq fun _ => ?_ | intro _ | refine go ?_ | refine drq ?_ | refine cal @hM ?_ | refine cal @msg_Net ?_ | refine cal @hH ?_)
        (apply WE_ret rfl rfl (by (repeat (first | exact ResOk.nil | (apply ResOk.tmp; rfl) | (apply resOk_cell; rfl; exact inferInstance; rfl; rfl)))))
        · exact ⟨by simp [mineB, h1, h2, h3], rfl⟩
        · ((repeat (first | (with_reducible exact Ent.refl) | exact Ent.nil | (apply ent_pickE; (focus ((repeat (first | (with_reducible exact pk_here) | (apply pk_there))); done))) | (apply hm_in) | apply Ent.drop)); all_goals (first | rfl | (with_reducible assumption) | (simp; done) | (simp; omega) | omega | (constructor <;> (simp) <;> omega)))
    · repeat (first | rintro _ _ ⟨rfl, rfl⟩ | refine exq fun _ => ?_ | intro _ | refine go ?_ | refine drq ?_ | refine cal @hM ?_ | refine cal @msg_Net ?_ | refine cal @hH ?_)
      (apply WE_ret rfl rfl (by (repeat (first | exact ResOk.nil | (apply ResOk.tmp; rfl) | (apply resOk_cell; rfl; exact inferInstance; rfl; rfl)))))
      · exact ⟨by simp [mineB, h1, h2], rfl⟩
      · ((repeat (first | (with_reducible exact Ent.refl) | exact Ent.nil | (apply ent_pickE; (focus ((repeat (first | (with_reducible exact pk_here) | (apply pk_there))); done))) | (apply hm_in) | apply Ent.drop)); all_goals (first | rfl | (with_reducible assumption) | (simp; done) | (simp; omega) | omega | (constructor <;> (simp) <;> omega)))
  · simp only [decide_eq_false h1] at hM
    repeat (first | rintro _ _ ⟨rfl, rfl⟩ | refine exq fun _ => ?_ | intro _ | refine go ?_ | refine drq ?_ | refine cal @hM ?_ | refine cal @msg_Net ?_ | refine cal @hH ?_)
    (apply WE_ret rfl rfl (by (repeat (first | exact ResOk.nil | (apply ResOk.tmp; rfl) | (apply resOk_cell; rfl; exact inferInstance; rfl; rfl)))))
    · exact ⟨by simp [mineB, h1], rfl⟩
    · ((repeat (first | (with_reducible exact Ent.refl) | exact Ent.nil | (apply ent_pickE; (focus ((repeat (first | (with_reducible exact pk_here) | (apply pk_there))); done))) | (apply hm_in) | apply Ent.drop)); all_goals (first | rfl | (with_reducible assumption) | (simp; done) | (simp; omega) | omega | (constructor <;> (simp) <;> omega)))
end Go.Sx

/- What homes do: the short ones of the program's functions. My own work. -/
namespace Go.Sx
open Go Go.Proofs
set_option linter.unusedVariables false
set_option linter.unusedSectionVars false
set_option linter.unusedSimpArgs false
theorem tgt_all {s : SSet} (h : shMay s = true) (ha : s.all = false) : shTgt s [] s.cores.toNat = s.ps := by
  obtain ⟨m1, m2, m3, m4, m5, m6, m7, m8⟩ := may_facts' h
  refine sorted_same (tgt_sorted _ _ _) m7 fun c => ?_
  rw [tgt_mem h]
  simp [shHas, ha]
set_option maxRecDepth 100000
set_option maxHeartbeats 4000000
attribute [local irreducible] Go.Exit.then Go.Exit.inBlock Go.Code.wp WC WO WE WQ V LoopQ FnQ Sat Star band bor IntKind.wrap WR Code.rounds WT KO
theorem dr_Hom2_33 {Q P : Prop} (k : Q) (h : Hid Q → P := by
  intro k
  first
  | (refine is_draw ?_; apply WC_mix (id := 3) .true _ (pl := .p 0 <| .p 1 <| .p 2 <| .r 3 <| .r 4 <| .e true [(5, .p 6 <| .done)]); exact mixed; kernel_rfl; kernel_rfl; exact Ent.refl; exact k.out)) : P := h ⟨k⟩
theorem hm_Accept {F : List HP} {b : Nat} {c : Cfg} {num : Int} {s : HomS} {m : Msg} (hc : c.wf) : FnF Try.prog 33 [.pointer (some ⟨b, 0, none⟩), mv m] [HomP b c num s] F (fun r L' => r = .int .i64 (hmAccE c num s m) ∧ L' = [HomP b c num (hmAccS c num s m)]) := by
  have hM := fun F => hm_mine (F := F) (b := b) (num := num) (s := s) (m := m) (net := 0) hc
  cases e : mineB c num m 0 with
  | true =>
    simp only [e] at hM
    have e1 : hmAccE c num s m = qaddE c.buffer s.q m := by simp [hmAccE, e]
    have e2 : hmAccS c num s m = ⟨s.es, s.ms, qaddL c.buffer s.q m, s.odd⟩ := by simp [hmAccS, e]
    rw [e1, e2]
    refine FnF.mk' Try.func33 rfl rfl Try.ntmps33 rfl ?_
    repeat (first | rintro _ _ ⟨rfl, rfl⟩ | refine exq fun _ => ?_ | intro _ | refine go ?_ | refine cal @hM ?_)
    (first | refine WO_front (HomP b c num s) ?_ | refine WC_front (HomP b c num s) ?_ | refine WE_front (HomP b c num s) ?_)
    refine hm_open fun bm be bq ps he => ?_
    repeat (first | rintro _ _ ⟨rfl, rfl⟩ | refine exq fun _ => ?_ | intro _ | refine go ?_ | refine dr_Hom2_33 ?_ | refine drq ?_ | refine cal @qu_Add ?_)
    (apply WE_ret rfl rfl (by (repeat (first | exact ResOk.nil | (apply ResOk.tmp; rfl) | (apply resOk_cell; rfl; exact inferInstance; rfl; rfl)))))
    · exact ⟨rfl, rfl⟩
    · ((repeat (first | (with_reducible exact Ent.refl) | exact Ent.nil | (apply ent_pickE; (focus ((repeat (first | (with_reducible exact pk_here) | (apply pk_there))); done))) | (apply hm_in) | apply Ent.drop)); all_goals (first | rfl | (with_reducible assumption) | (simp; done) | (simp; omega) | omega | (constructor <;> (simp) <;> omega)))
  | false =>
    simp only [e] at hM
    have e1 : hmAccE c num s m = 1 := by simp [hmAccE, e]
    have e2 : hmAccS c num s m = s := by simp [hmAccS, e]
    rw [e1, e2]
    refine FnF.mk' Try.func33 rfl rfl Try.ntmps33 rfl ?_
    repeat (first | rintro _ _ ⟨rfl, rfl⟩ | refine exq fun _ => ?_ | intro _ | refine go ?_ | refine dr_Hom2_33 ?_ | refine drq ?_ | refine cal @hM ?_)
    exact fin0
theorem dr_Hom2_35 {Q P : Prop} (k : Q) (h : Hid Q → P := by
  intro k
  first
  | (refine is_draw ?_; apply WC_mix (id := 3) .true _ (pl := .p 0 <| .p 1 <| .p 2 <| .p 4 <| .p 6 <| .r 3 <| .r 5 <| .r 7 <| .e true [(8, .p 9 <| .done)]); exact mixed; kernel_rfl; kernel_rfl; exact Ent.refl; exact k.out)) : P := h ⟨k⟩
theorem hm_Done {F : List HP} {b : Nat} {c : Cfg} {num : Int} {s : HomS} {m : Msg} (hc : c.wf) : FnF Try.prog 35 [.pointer (some ⟨b, 0, none⟩), mv m] [HomP b c num s] F (fun r L' => r = .int .i64 (hmDoneE c num s m) ∧ L' = [HomP b c num (hmDoneS c num s m)]) := by
  have hM := fun F => hm_mine (F := F) (b := b) (num := num) (s := s) (m := m) (net := 2) hc
  cases e : mineB c num m 2 with
  | true =>
    simp only [e] at hM
    have e1 : hmDoneE c num s m = qfinE s.q m.line m.src := by simp [hmDoneE, e]
    have e2 : hmDoneS c num s m = ⟨s.es, s.ms, qfinL s.q m.line m.src, s.odd⟩ := by simp [hmDoneS, e]
    rw [e1, e2]
    refine FnF.mk' Try.func35 rfl rfl Try.ntmps35 rfl ?_
    repeat (first | rintro _ _ ⟨rfl, rfl⟩ | refine exq fun _ => ?_ | intro _ | refine go ?_ | refine cal @hM ?_)
    (first | refine WO_front (HomP b c num s) ?_ | refine WC_front (HomP b c num s) ?_ | refine WE_front (HomP b c num s) ?_)
    refine hm_open fun bm be bq ps he => ?_
    repeat (first | rintro _ _ ⟨rfl, rfl⟩ | refine exq fun _ => ?_ | intro _ | refine go ?_ | refine dr_Hom2_35 ?_ | refine drq ?_ | refine cal @qu_Finish ?_)
    (apply WE_ret rfl rfl (by (repeat (first | exact ResOk.nil | (apply ResOk.tmp; rfl) | (apply resOk_cell; rfl; exact inferInstance; rfl; rfl)))))
    · exact ⟨rfl, rfl⟩
    · ((repeat (first | (with_reducible exact Ent.refl) | exact Ent.nil | (apply ent_pickE; (focus ((repeat (first | (with_reducible exact pk_here) | (apply pk_there))); done))) | (apply hm_in) | apply Ent.drop)); all_goals (first | rfl | (with_reducible assumption) | (simp; done) | (simp; omega) | omega | (constructor <;> (simp) <;> omega)))
  | false =>
    simp only [e] at hM
    have e1 : hmDoneE c num s m = 1 := by simp [hmDoneE, e]
    have e2 : hmDoneS c num s m = s := by simp [hmDoneS, e]
    rw [e1, e2]
    refine FnF.mk' Try.func35 rfl rfl Try.ntmps35 rfl ?_
    repeat (first | rintro _ _ ⟨rfl, rfl⟩ | refine exq fun _ => ?_ | intro _ | refine go ?_ | refine dr_Hom2_35 ?_ | refine drq ?_ | refine cal @hM ?_)
    exact fin0
theorem hm_Odd {F : List HP} {b : Nat} {c : Cfg} {num : Int} {s : HomS} : FnF Try.prog 21 [.pointer (some ⟨b, 0, none⟩)] [HomP b c num s] F (fun r L' => r = .int .i64 s.odd ∧ L' = [HomP b c num s]) := by
  obtain ⟨es, ms, q, odd⟩ := s
  refine FnF.mk' Try.func21 rfl rfl Try.ntmps21 rfl ?_
  refine hm_open fun bm be bq ps he => ?_
  repeat (first | rintro _ _ ⟨rfl, rfl⟩ | refine exq fun _ => ?_ | intro _ | refine go ?_ | refine drq ?_)
  (apply WE_ret rfl rfl (by (repeat (first | exact ResOk.nil | (apply ResOk.tmp; rfl) | (apply resOk_cell; rfl; exact inferInstance; rfl; rfl)))))
  · exact ⟨rfl, rfl⟩
  · ((repeat (first | (with_reducible exact Ent.refl) | exact Ent.nil | (apply ent_pickE; (focus ((repeat (first | (with_reducible exact pk_here) | (apply pk_there))); done))) | (apply hm_in) | apply Ent.drop)); all_goals (first | rfl | (with_reducible assumption) | (simp; done) | (simp; omega) | omega | (constructor <;> (simp) <;> omega)))
theorem hm_Queue {F : List HP} {b : Nat} {c : Cfg} {num : Int} {s : HomS} : FnF Try.prog 19 [.pointer (some ⟨b, 0, none⟩)] [HomP b c num s] F (fun r L' => ∃ p k, r = .slice p s.q.length k ∧ L' = [QuL 68 (.slice p s.q.length k) s.q, HomP b c num s]) := by
  obtain ⟨es, ms, q, odd⟩ := s
  refine FnF.mk' Try.func19 rfl rfl Try.ntmps19 rfl ?_
  refine hm_open fun bm be bq ps he => ?_
  repeat (first | rintro _ _ ⟨rfl, rfl⟩ | refine exq fun _ => ?_ | intro _ | refine go ?_ | refine drq ?_ | refine cal @qu_List ?_)
  (apply WE_ret rfl rfl (by (repeat (first | exact ResOk.nil | (apply ResOk.tmp; rfl) | (apply resOk_cell; rfl; exact inferInstance; rfl; rfl)))))
  · exact ⟨_, _, rfl, rfl⟩
  · ((repeat (first | (with_reducible exact Ent.refl) | exact Ent.nil | (apply ent_pickE; (focus ((repeat (first | (with_reducible exact pk_here) | (apply pk_there))); done))) | (apply hm_in) | apply Ent.drop)); all_goals (first | rfl | (with_reducible assumption) | (simp; done) | (simp; omega) | omega | (constructor <;> (simp) <;> omega)))
theorem hm_Line {F : List HP} {b : Nat} {c : Cfg} {num : Int} {s : HomS} {line : Int} (hc : c.wf) (hl : I64 line) : FnF Try.prog 22 [.pointer (some ⟨b, 0, none⟩), .int .i64 line] [HomP b c num s] F (fun r L' => r = .tuple [wv (hmLine c s line), .bool (hmOwn s line)].toArray ∧ L' = [HomP b c num s]) := by
  obtain ⟨es, ms, q, odd⟩ := s
  have hL := fun F b => mem_Line (F := F) (b := b) (c := c) (ms := ms) hc hl
  refine FnF.mk' Try.func22 rfl rfl Try.ntmps22 rfl ?_
  refine hm_open fun bm be bq ps he => ?_
  subst he
  have hg := hes_get ps line
  cases e : mget ps line with
  | none =>
    have e1 : hmOwn ⟨hes ps, ms, q, odd⟩ line = false := by simp [hmOwn, hg, e]
    have e2 : hmLine c ⟨hes ps, ms, q, odd⟩ line = .zero := by simp [hmLine, e1]
    repeat (first | rintro _ _ ⟨rfl, rfl⟩ | refine exq fun _ => ?_ | intro _ | refine go ?_)
    simp only [e, Option.isSome_none]
    repeat (first | rintro _ _ ⟨rfl, rfl⟩ | refine exq fun _ => ?_ | intro _ | refine go ?_ | refine drq ?_)
    (apply WE_ret rfl rfl (by (repeat (first | exact ResOk.nil | (apply ResOk.tmp; rfl) | (apply resOk_cell; rfl; exact inferInstance; rfl; rfl)))))
    · exact ⟨by rw [e1, e2]; rfl, rfl⟩
    · ((repeat (first | (with_reducible exact Ent.refl) | exact Ent.nil | (apply ent_pickE; (focus ((repeat (first | (with_reducible exact pk_here) | (apply pk_there))); done))) | (apply hm_in) | apply Ent.drop)); all_goals (first | rfl | (with_reducible assumption) | (simp; done) | (simp; omega) | omega | (constructor <;> (simp) <;> omega)))
  | some x =>
    have e1 : hmOwn ⟨hes ps, ms, q, odd⟩ line = true := by simp [hmOwn, hg, e]
    have e2 : hmLine c ⟨hes ps, ms, q, odd⟩ line = lineWo c ms line := by simp [hmLine, e1]
    repeat (first | rintro _ _ ⟨rfl, rfl⟩ | refine exq fun _ => ?_ | intro _ | refine go ?_)
    simp only [e, Option.isSome_some]
    repeat (first | rintro _ _ ⟨rfl, rfl⟩ | refine exq fun _ => ?_ | intro _ | refine go ?_ | refine drq ?_ | refine cal @hL ?_)
    (apply WE_ret rfl rfl (by (repeat (first | exact ResOk.nil | (apply ResOk.tmp; rfl) | (apply resOk_cell; rfl; exact inferInstance; rfl; rfl)))))
    · exact ⟨by rw [e1, e2]; rfl, rfl⟩
    · ((repeat (first | (with_reducible exact Ent.refl) | exact Ent.nil | (apply ent_pickE; (focus ((repeat (first | (with_reducible exact pk_here) | (apply pk_there))); done))) | (apply hm_in) | apply Ent.drop)); all_goals (first | rfl | (with_reducible assumption) | (simp; done) | (simp; omega) | omega | (constructor <;> (simp) <;> omega)))
theorem rd_hrs_some {ps : List (Int × HRd)} {k : Int} {x : HRd} (e : mget ps k = some x) (L : List HP) : RdL (All (hrs ps) :: L) 1 (.slice x.2.1 x.1.s.ps.length x.2.2) x.1.s.ps.length (flat ic x.1.s.ps) := by
  have := rd_hrs (L := L) ps k
  rw [e] at this
  exact this
theorem hm_Entry {F : List HP} {b : Nat} {c : Cfg} {num : Int} {s : HomS} {line : Int} (hE : ∀ e, mget s.es line = some e → mayT e = true) : FnF Try.prog 17 [.pointer (some ⟨b, 0, none⟩), .int .i64 line] [HomP b c num s] F
    (fun r L' => ∃ a k, r = .tuple [.agg (tec (hmEnt s line) a k).toArray, .bool (hmOwn s line)].toArray ∧ L' = [Own 3 1 (.slice a (hmEnt s line).s.ps.length k) (hmEnt s line).s.ps.length (flat ic (hmEnt s line).s.ps), HomP b c num s]) := by
  obtain ⟨es, ms, q, odd⟩ := s
  refine FnF.mk' Try.func17 rfl rfl Try.ntmps17 rfl ?_
  refine hm_open fun bm be bq ps he => ?_
  subst he
  have hg := hes_get ps line
  cases e : mget ps line with
  | none =>
    have e1 : hmOwn ⟨hes ps, ms, q, odd⟩ line = false := by simp [hmOwn, hg, e]
    have e2 : hmEnt ⟨hes ps, ms, q, odd⟩ line = .no := by simp [hmEnt, hg, e]
    rw [e1, e2]
    repeat (first | rintro _ _ ⟨rfl, rfl⟩ | refine exq fun _ => ?_ | intro _ | refine go ?_)
    simp only [e, Option.isSome_none]
    repeat (first | rintro _ _ ⟨rfl, rfl⟩ | refine exq fun _ => ?_ | intro _ | refine go ?_ | refine drq ?_)
    (apply WE_ret rfl rfl (by (repeat (first | exact ResOk.nil | (apply ResOk.tmp; rfl) | (apply resOk_cell; rfl; exact inferInstance; rfl; rfl)))))
    · exact ⟨none, 0, rfl, rfl⟩
    · refine own_empty ?_
      ((repeat (first | (with_reducible exact Ent.refl) | exact Ent.nil | (apply ent_pickE; (focus ((repeat (first | (with_reducible exact pk_here) | (apply pk_there))); done))) | (apply hm_in) | apply Ent.drop)); all_goals (first | rfl | (with_reducible assumption) | (simp; done) | (simp; omega) | omega | (constructor <;> (simp) <;> omega)))
  | some x =>
    obtain ⟨en, a, k⟩ := x
    have e1 : hmOwn ⟨hes ps, ms, q, odd⟩ line = true := by simp [hmOwn, hg, e]
    have e2 : hmEnt ⟨hes ps, ms, q, odd⟩ line = en := by simp [hmEnt, hg, e]
    have hm := hE en (by simp [hg, e])
    have hs : shMay en.s = true := by simp only [mayT, Bool.and_eq_true] at hm; exact hm.1.1
    haveI kr := fun L => rd_hrs_some e L
    have hT := fun F (hk : RdL F 1 (.slice a en.s.ps.length k) en.s.ps.length (flat ic en.s.ps)) => shr_Targets (F := F) (u := .slice none 0 0) (but := []) hk hs rd_empty (by simp)
    rw [e1, e2]
    repeat (first | rintro _ _ ⟨rfl, rfl⟩ | refine exq fun _ => ?_ | intro _ | refine go ?_)
    simp only [e, Option.isSome_some, Option.getD_some]
    cases ha : en.s.all with
    | true =>
      have hp : en.s.ps = [] := (may_facts' hs).2.2.2.2.2.1 ha
      repeat (first | rintro _ _ ⟨rfl, rfl⟩ | refine exq fun _ => ?_ | intro _ | refine go ?_ | refine drq ?_ | refine cal @hT ?_)
      (apply WE_ret rfl rfl (by (repeat (first | exact ResOk.nil | (apply ResOk.tmp; rfl) | (apply resOk_cell; rfl; exact inferInstance; rfl; rfl)))))
      · exact ⟨none, 0, by simp only [tec, hp, List.length_nil]; rfl, rfl⟩
      · rw [hp]
        refine own_empty ?_
        ((repeat (first | (with_reducible exact Ent.refl) | exact Ent.nil | (apply ent_pickE; (focus ((repeat (first | (with_reducible exact pk_here) | (apply pk_there))); done))) | (apply hm_in) | apply Ent.drop)); all_goals (first | rfl | (with_reducible assumption) | (simp; done) | (simp; omega) | omega | (constructor <;> (simp) <;> omega)))
    | false =>
      have hp := tgt_all hs ha
      simp only [hp] at hT
      repeat (first | rintro _ _ ⟨rfl, rfl⟩ | refine exq fun _ => ?_ | intro _ | refine go ?_ | refine drq ?_ | refine cal @hT ?_)
      (apply WE_ret rfl rfl (by (repeat (first | exact ResOk.nil | (apply ResOk.tmp; rfl) | (apply resOk_cell; rfl; exact inferInstance; rfl; rfl)))))
      · exact ⟨_, _, rfl, rfl⟩
      · ((repeat (first | (with_reducible exact Ent.refl) | exact Ent.nil | (apply ent_pickE; (focus ((repeat (first | (with_reducible exact pk_here) | (apply pk_there))); done))) | (apply hm_in) | apply Ent.drop)); all_goals (first | rfl | (with_reducible assumption) | (simp; done) | (simp; omega) | omega | (constructor <;> (simp) <;> omega)))
end Go.Sx

/- What homes do, told of lists: the invariant, and a request's start. My own work. -/
namespace Go.Sx
open Go Go.Proofs
set_option linter.unusedVariables false
set_option linter.unusedSimpArgs false
def ownL (c : Cfg) (num k : Int) : Prop := 0 ≤ k ∧ k < c.lines ∧ k % c.homes = num
instance (c : Cfg) (num k : Int) : Decidable (ownL c num k) := by unfold ownL; infer_instance
/-- What is so of a home, whatever comes. -/
structure HmI (c : Cfg) (num : Int) (s : HomS) : Prop where
  ok : checkB c = true
  nm : 0 ≤ num ∧ num < c.homes
  own : ∀ k, hmOwn s k = decide (ownL c num k)
  may : ∀ k e, mget s.es k = some e → mayT e = true ∧ e.s.cores = c.cores ∧ e.s.most = c.pointers
  req : ∀ x ∈ s.q, mineB c num x.m 0 = true
  snd : ∀ x ∈ s.q, ∀ y ∈ x.sends, (4 ≤ y.kind ∧ y.kind ≤ 10) ∧ y.line = x.m.line ∧ y.src = num
  len : (s.q.length : Int) ≤ c.buffer
theorem cfg_wf' {c : Cfg} (h : checkB c = true) : c.wf := by
  simp only [checkB, fitsB, Bool.and_eq_true, decide_eq_true_eq] at h
  unfold Cfg.wf I64
  omega
theorem cfg_room' {c : Cfg} (h : checkB c = true) : 1 ≤ c.buffer ∧ c.buffer ≤ 16 := by
  simp only [checkB, fitsB, Bool.and_eq_true, decide_eq_true_eq] at h
  omega
theorem mine_facts {c : Cfg} {num : Int} {m : Msg} (hc : checkB c = true) (h : mineB c num m 0 = true) : MayP c m ∧ (1 ≤ m.kind ∧ m.kind ≤ 3) ∧ ownL c num m.line ∧ (0 ≤ m.src ∧ m.src < c.cores) ∧ m.dst = num := by
  simp only [mineB, Bool.and_eq_true, decide_eq_true_eq] at h
  obtain ⟨⟨⟨h1, h2⟩, h3⟩, h4⟩ := h
  have hk : 1 ≤ m.kind ∧ m.kind ≤ 3 := by
    unfold netK at h2
    split at h2
    · assumption
    · split at h2
      · omega
      · split at h2 <;> omega
  obtain ⟨g1, g2, g3, g4, g5⟩ := h1
  have hu : UpP c m := by unfold FormP at g4; rw [if_pos h3] at g4; exact g4
  obtain ⟨u1, u2, u3⟩ := hu
  have hh := (cfg_bnd hc).2.1
  refine ⟨⟨g1, g2, g3, g4, g5⟩, hk, ⟨g3.1, g3.2, ?_⟩, u1, h4⟩
  rw [← h4, u2]
  unfold homeN
  rw [Int.tmod_eq_emod_of_nonneg g3.1]
theorem hmEnt_own {c : Cfg} {num : Int} {s : HomS} (h : HmI c num s) {k : Int} (ho : ownL c num k) : mget s.es k = some (hmEnt s k) ∧ mayT (hmEnt s k) = true ∧ (hmEnt s k).s.cores = c.cores ∧ (hmEnt s k).s.most = c.pointers := by
  have h1 := h.own k
  rw [decide_eq_true ho] at h1
  unfold hmOwn at h1
  cases e : mget s.es k with
  | none => rw [e] at h1; cases h1
  | some x =>
    have e2 : hmEnt s k = x := by unfold hmEnt; rw [e]; rfl
    rw [e2]
    exact ⟨rfl, h.may k x e⟩
/-! ## What can be done for one -/
def hmX (s : HomS) (at' : Int) : Msg := (qat s.q at').m
def hmOddS (s : HomS) (at' : Int) : HomS := ⟨s.es, s.ms, s.q.eraseIdx at'.toNat, s.odd + 1⟩
def hmTurnS (c : Cfg) (s : HomS) (at' : Int) : HomS :=
  ⟨mset s.es (hmX s at').line (nextT (hmEnt s (hmX s at').line) (hmX s at')), if nextW (hmEnt s (hmX s at').line) (hmX s at') then wrL c s.ms (hmX s at').line (hmX s at').words else s.ms,
    qstartL s.q at' (nextS (hmEnt s (hmX s at').line) (hmX s at') (lineWo c s.ms (hmX s at').line)), s.odd⟩
def hmStartS (c : Cfg) (s : HomS) (at' : Int) : HomS := if nextE (hmEnt s (hmX s at').line) (hmX s at') = 0 then hmTurnS c s at' else hmOddS s at'
/-- How much room a network has. -/
abbrev L3 := Int × Int × Int
abbrev l3c (l : L3) : List Value := [.int .i64 l.1, .int .i64 l.2.1, .int .i64 l.2.2]
def l3at (l : L3) (n : Int) : Int := if n = 0 then l.1 else if n = 1 then l.2.1 else l.2.2
def hmGoes (s : HomS) (at' : Int) (l : L3) : Bool := qnextB s.q at' && decide (0 < l3at l (netK (qnextM s.q at').kind))
def hmWorkS (c : Cfg) (s : HomS) (at' : Int) (l : L3) : HomS := if qready s.q at' then hmStartS c s at' else if hmGoes s at' l then { s with q := qsentL s.q at' } else s
def hmWorkM (s : HomS) (at' : Int) (l : L3) : Msg := if qready s.q at' then .zero else if hmGoes s at' l then qnextM s.q at' else .zero
def hmWorkB (s : HomS) (at' : Int) (l : L3) : Bool := if qready s.q at' then false else hmGoes s at' l
def hmDid (s : HomS) (at' : Int) (l : L3) : Bool := if qready s.q at' then true else hmGoes s at' l
theorem nextE_cases {c : Cfg} {num : Int} {s : HomS} (h : HmI c num s) {m : Msg} (hm : mineB c num m 0 = true) : (nextE (hmEnt s m.line) m = 7 ∧ m.kind = 1 ∧ (hmEnt s m.line).o = m.src) ∨ nextE (hmEnt s m.line) m = 0 := by
  obtain ⟨f1, f2, f3, f4, f5⟩ := mine_facts h.ok hm
  obtain ⟨g1, g2, g3, _⟩ := hmEnt_own h f3
  have hok : okT (hmEnt s m.line) m = true := by
    simp only [okT, g2, Bool.true_and, Bool.and_eq_true, decide_eq_true_eq]
    omega
  unfold nextE
  rw [if_pos hok]
  by_cases k1 : m.kind = 1
  · rw [if_pos k1]
    split
    · exact .inl ⟨rfl, k1, by assumption⟩
    · exact .inr rfl
  · rw [if_neg k1]
    right
    split
    · rfl
    · rw [if_pos (by omega)]
/-- One that is odd is gone, as it came. -/
theorem odd_out {q : List QE} {n : Int} {m : Msg} (hr : qready q n = true) (hm : (qat q n).m = m) (hk : m.kind ≠ 3) : qfinL (qsentL (qstartL q n [m]) n) m.line m.src = q.eraseIdx n.toNat := by
  have hr0 := hr
  obtain ⟨i, hi, rfl, ea, hs, hf⟩ := qready_t hr
  have hin : qin q (i : Int) = true := by simp only [qin, decide_eq_true_eq]; omega
  have e1 : qstartL q i [m] = q.set i { q[i] with st := true, sends := [m] } := by simp [qstartL, qstartE, hin, hr0, ea]
  rw [e1]
  have hm' : q[i].m = m := by rw [← ea]; exact hm
  generalize hx : ({ q[i] with st := true, sends := [m] } : QE) = x
  have x1 : x.m = m := by rw [← hx]; exact hm'
  have x2 : x.st = true := by rw [← hx]
  have x3 : x.sends = [m] := by rw [← hx]
  have hin2 : qin (q.set i x) (i : Int) = true := by simp only [qin, decide_eq_true_eq, List.length_set]; omega
  have ea2 : qat (q.set i x) i = x := by simp [qat, hin2, hi]
  have e2 : qsentL (q.set i x) i = q.set i { x with sends := [] } := by
    simp [qsentL, qsentE, hin2, ea2, x3, x1, hk]
  rw [e2]
  generalize hy : ({ x with sends := [] } : QE) = y
  have y1 : y.m = m := by rw [← hy]; exact x1
  have y2 : y.st = true := by rw [← hy]; exact x2
  have y3 : y.sends = [] := by rw [← hy]
  have hix : indexBy (qgone m.line m.src) (q.set i y) = i := by
    refine indexBy_at (by simpa using hi) ?_ ?_
    · intro j hj hji
      have hj' : j < q.length := by simpa using hj
      rw [List.getElem_set_ne (by omega)]
      have := hf j hj' hji
      rw [hm'] at this
      simp [qgone, this]
    · simp [qgone, y1, y2, y3, hk]
  unfold qfinL
  rw [hix, if_neg (by omega), Int.toNat_natCast, List.eraseIdx_set_eq]
end Go.Sx
