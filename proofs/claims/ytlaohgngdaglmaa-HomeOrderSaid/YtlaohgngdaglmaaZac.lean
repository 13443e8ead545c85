/- Bag, BagR, Queue, QuPl: several of my texts as one. My own work. -/
import Derived.Test.YtlaohgngdaglmaaZaa
/- What bags do, the program's and the document's. My own work. -/
namespace Go.Sx
open Go Go.Proofs
set_option linter.unusedVariables false
set_option linter.unusedSectionVars false
set_option maxRecDepth 100000
set_option maxHeartbeats 4000000
attribute [local irreducible] Go.Exit.then Go.Exit.inBlock Go.Code.wp WC WO WE WQ V LoopQ FnQ Sat Star band bor IntKind.wrap WR Code.rounds WT KO

/-! ## What a bag does, told of lists -/
def putE {α : Type} (room : Int) (l : List α) : Int := if (l.length : Int) = room then 4 else 0
def putL {α : Type} (room : Int) (l : List α) (x : α) : List α := if (l.length : Int) = room then l else l ++ [x]
def inL {α : Type} (l : List α) (n : Int) : Bool := decide (0 ≤ n ∧ n < l.length)
def takeL {α : Type} (l : List α) (n : Int) : List α := if inL l n then l.eraseIdx n.toNat else l
def takeE {α : Type} (l : List α) (n : Int) : Int := if inL l n then 0 else 5
def atL {α : Type} (z : α) (l : List α) (n : Int) : α := if inL l n then l.getD n.toNat z else z

theorem putL_le {α : Type} {room : Int} {l : List α} {x : α} (h : (l.length : Int) ≤ room) : ((putL room l x).length : Int) ≤ room := by
  unfold putL; split
  · exact h
  · simp; omega
theorem takeL_le {α : Type} {l : List α} {n : Int} : (takeL l n).length ≤ l.length := by
  unfold takeL; split
  · exact List.length_eraseIdx_le _ _
  · exact Nat.le_refl _
theorem inL_iff {α : Type} {l : List α} {n : Int} : inL l n = true ↔ (0 ≤ n ∧ n < l.length) := by simp [inL]
theorem inL_not {α : Type} {l : List α} {n : Int} : inL l n = false ↔ ¬ (0 ≤ n ∧ n < l.length) := by rw [← Bool.not_eq_true, inL_iff]

abbrev Bag_msg (b : Nat) (room : Int) (l : List Msg) : HP := RL 227 59 15 mc b room l

theorem bag_New_msg {F : List HP} {room : Int} (h : 1 ≤ room ∧ room ≤ 4096) : FnF Try.prog 82 [.int .i64 room] [] F (fun r L' => ∃ b, r = .tuple [.pointer (some ⟨b, 0, none⟩), .int .i64 0].toArray ∧ L' = [Bag_msg b room []]) := by
  refine FnF.mk' Try.func82 rfl rfl Try.ntmps82 rfl ?_
  repeat (first | rintro _ _ ⟨rfl, rfl⟩ | refine exq fun _ => ?_ | intro _ | refine go ?_ | refine drq ?_)
  (apply WE_ret rfl rfl (by (repeat (first | exact ResOk.nil | (apply ResOk.tmp; rfl) | (apply resOk_cell; rfl; exact inferInstance; rfl; rfl)))))
  · exact ⟨_, rfl, rfl⟩
  · exact RL_in (l := []) (Ent.cons (own_empty Ent.refl)) rfl rfl (by simp; omega)
theorem bag_New_no_msg {F : List HP} {room : Int} (h : ¬ (1 ≤ room ∧ room ≤ 4096)) : FnF Try.prog 82 [.int .i64 room] [] F (fun r L' => r = .tuple [.pointer none, .int .i64 1].toArray ∧ L' = []) := by
  refine FnF.mk' Try.func82 rfl rfl Try.ntmps82 rfl ?_
  repeat' (first | rintro _ _ ⟨rfl, rfl⟩ | refine exq fun _ => ?_ | intro _ | refine go ?_ | refine drq ?_ | refine spl ?_ ?_ | fail)
  all_goals first | omega | exact fin0


end Go.Sx

/- What the document's bag does. My own work. -/
namespace Go.Sx
open Go Go.Proofs
set_option linter.unusedVariables false
set_option linter.unusedSectionVars false
set_option maxRecDepth 100000
set_option maxHeartbeats 4000000
attribute [local irreducible] Go.Exit.then Go.Exit.inBlock Go.Code.wp WC WO WE WQ V LoopQ FnQ Sat Star band bor IntKind.wrap WR Code.rounds WT KO

theorem take_erase {α : Type} (l : List α) (n i : Nat) (hi : i < l.length) : (l.take (i + 1)).eraseIdx n = if i = n then (l.take i).eraseIdx n else (l.take i).eraseIdx n ++ [l[i]] := by
  have hti : (l.take i).length = i := by rw [List.length_take]; omega
  rw [List.take_add_one]
  simp only [hi, List.getElem?_eq_getElem, Option.toList_some]
  split
  · rename_i h; subst h
    rw [List.eraseIdx_append_of_length_le (by omega), hti, List.eraseIdx_of_length_le (l := l.take i) (k := i) (by omega)]
    simp
  · rename_i h
    by_cases h1 : n < i
    · rw [List.eraseIdx_append_of_lt_length (by omega)]
    · rw [List.eraseIdx_of_length_le (by simp; omega), List.eraseIdx_of_length_le (by omega)]
theorem erase_len {α : Type} (l : List α) (i : Nat) : (l.eraseIdx i).length ≤ l.length := List.length_eraseIdx_le _ _

end Go.Sx

/- What queues do, the program's. My own work. -/
namespace Go.Sx
open Go Go.Proofs
set_option linter.unusedVariables false
set_option linter.unusedSectionVars false
set_option linter.unusedSimpArgs false

/-! ## A queue -/
abbrev qrd (p : QP) : HP := Rds 15 (.slice p.2.1 p.1.sends.length p.2.2) p.1.sends.length (flat mc p.1.sends)
/-- A block with a room, and a slice of requests of its own, each with what is to be sent. -/
def QuB (T e : TypeId) (b : Nat) (room : Int) (l : List QE) : HP :=
  Ex fun q : (Option Addr × Nat) × List QP => [Cells b T [.int .i64 room, .slice q.1.1 q.2.length q.1.2], Own e 17 (.slice q.1.1 q.2.length q.1.2) q.2.length (flat qc q.2), All (q.2.map qrd), Fact (q.2.map (·.1) = l ∧ (q.2.length : Int) ≤ room ∧ room ≤ 16 ∧ ∀ p ∈ q.2, p.1.sends.length ≤ p.2.2 ∧ p.1.sends.length ≤ 1000)]
section
variable {T e : TypeId} {b : Nat} {room : Int} {l : List QE}
theorem qu_in {n : Nat} {p : Option Addr} {c : Nat} {xs : List Value} {ps : List QP} {L M : List HP}
    (h : Ent L (Cells b T [.int .i64 room, .slice p n c] :: Own e 17 (.slice p n c) n xs :: All (ps.map qrd) :: M)) (hl : ps.map (·.1) = l) (hn : n = ps.length) (hx : xs = flat qc ps) (h1 : (ps.length : Int) ≤ room) (h2 : room ≤ 16) (h3 : ∀ p ∈ ps, p.1.sends.length ≤ p.2.2 ∧ p.1.sends.length ≤ 1000) : Ent L (QuB T e b room l :: M) := by
  subst hn hx
  refine Ent.trans h (Ent.trans ?_ (ex_intro (p := fun q : (Option Addr × Nat) × List QP => [Cells b T [.int .i64 room, .slice q.1.1 q.2.length q.1.2], Own e 17 (.slice q.1.1 q.2.length q.1.2) q.2.length (flat qc q.2), All (q.2.map qrd), Fact (q.2.map (·.1) = l ∧ (q.2.length : Int) ≤ room ∧ room ≤ 16 ∧ ∀ p ∈ q.2, p.1.sends.length ≤ p.2.2 ∧ p.1.sends.length ≤ 1000)]) ((p, c), ps)))
  exact Ent.cons (Ent.cons (Ent.cons (star_fact_mk ⟨hl, h1, h2, h3⟩)))
theorem own_cap {T : TypeId} {sz n c : Nat} {p : Option Addr} {xs : List Value} {L : List HP} {w : World} (h : Sat (Own T sz (.slice p n c) n xs :: L) w) : n ≤ c := by
  rcases (sat_own h).2.2 with ⟨q, h1, h2⟩ | ⟨g, cap, cur, h1, _, h3, _⟩
  · omega
  · cases h1; exact h3
theorem qu_sat {L : List HP} {w : World} (h : Sat (QuB T e b room l :: L) w) : ∃ p c, ∃ ps : List QP, (ps.map (·.1) = l ∧ (ps.length : Int) ≤ room ∧ room ≤ 16 ∧ (∀ p ∈ ps, p.1.sends.length ≤ p.2.2 ∧ p.1.sends.length ≤ 1000) ∧ ps.length ≤ c) ∧
    Sat (Cells b T [.int .i64 room, .slice p ps.length c] :: Own e 17 (.slice p ps.length c) ps.length (flat qc ps) :: All (ps.map qrd) :: L) w := by
  obtain ⟨⟨⟨p, c⟩, ps⟩, hx⟩ := star_ex h
  simp only [app] at hx
  have hf := fact_of (star_drop (star_drop (star_drop hx)))
  have hx2 : Sat (Cells b T [.int .i64 room, .slice p ps.length c] :: Own e 17 (.slice p ps.length c) ps.length (flat qc ps) :: All (ps.map qrd) :: L) w := (Ent.cons (Ent.cons (Ent.cons (Ent.drop Ent.refl)))) _ hx
  exact ⟨p, c, ps, ⟨hf.1, hf.2.1, hf.2.2.1, hf.2.2.2, own_cap (sat_tail hx2)⟩, hx2⟩
variable {P : Program} {N : Nat} {env : Env} {L : List HP} {Q : Exit → Act → World → Prop}
theorem qu_open {c : Code} (h : ∀ p c0, ∀ ps : List QP, (ps.map (·.1) = l ∧ (ps.length : Int) ≤ room ∧ room ≤ 16 ∧ (∀ p ∈ ps, p.1.sends.length ≤ p.2.2 ∧ p.1.sends.length ≤ 1000) ∧ ps.length ≤ c0) → WC P N c env (Cells b T [.int .i64 room, .slice p ps.length c0] :: Own e 17 (.slice p ps.length c0) ps.length (flat qc ps) :: All (ps.map qrd) :: L) Q) : WC P N c env (QuB T e b room l :: L) Q := by
  intro a w ha hw
  obtain ⟨p, c0, ps, hf, hx⟩ := qu_sat hw
  exact h p c0 ps hf a w ha hx
theorem qu_openO {all : Array Oper} {c : List Oper} (h : ∀ p c0, ∀ ps : List QP, (ps.map (·.1) = l ∧ (ps.length : Int) ≤ room ∧ room ≤ 16 ∧ (∀ p ∈ ps, p.1.sends.length ≤ p.2.2 ∧ p.1.sends.length ≤ 1000) ∧ ps.length ≤ c0) → WO P N all c env (Cells b T [.int .i64 room, .slice p ps.length c0] :: Own e 17 (.slice p ps.length c0) ps.length (flat qc ps) :: All (ps.map qrd) :: L) Q) : WO P N all c env (QuB T e b room l :: L) Q := by
  intro a w ha hw
  obtain ⟨p, c0, ps, hf, hx⟩ := qu_sat hw
  exact h p c0 ps hf a w ha hx
end
theorem all_add0 {ps : List QP} {m : Msg} {st : Bool} {a : Option Addr} {c : Nat} {L M : List HP} (h : Ent L (All (ps.map qrd) :: M)) : Ent L (All ((ps ++ [((⟨m, st, []⟩ : QE), (a, c))]).map qrd) :: M) :=
  Ent.trans h (Ent.trans rds_nil (all_add (f := qrd) ((⟨m, st, []⟩ : QE), (a, c))))
/-- One is changed, and has other things to send. -/
theorem all_set {ps : List QP} {i : Nat} (hi : i < ps.length) {x : QP} {T : TypeId} {L M : List HP} (h : Ent L (Own T 15 (.slice x.2.1 x.1.sends.length x.2.2) x.1.sends.length (flat mc x.1.sends) :: All (ps.map qrd) :: M)) : Ent L (All ((ps.set i x).map qrd) :: M) :=
  Ent.trans h (Ent.trans own_rds (Ent.trans (Ent.cons (all_erase i)) (all_put (f := qrd) i hi x)))
theorem all_era {ps : List QP} {i : Nat} {L M : List HP} (h : Ent L (All (ps.map qrd) :: M)) : Ent L (All ((ps.eraseIdx i).map qrd) :: M) := Ent.trans h (all_erase i)
/-- The first one of what one has to send is sent. -/
theorem all_tail {ps : List QP} {i : Nat} (hi : i < ps.length) {x : QP} {L M : List HP} (hn : 0 < ps[i].1.sends.length) (hc : ps[i].1.sends.length ≤ ps[i].2.2) (h1 : x.1.sends = ps[i].1.sends.drop 1)
    (h2 : qsl x = cut (qsl ps[i]) 1 ps[i].1.sends.length ps[i].1.sends.length 15) (h : Ent L (All (ps.map qrd) :: M)) : Ent L (All ((ps.set i x).map qrd) :: M) := by
  refine Ent.trans h (Ent.trans (all_take (f := qrd) i hi) (Ent.trans (rds_cut (l := 1) (h := ps[i].1.sends.length) (m := ps[i].1.sends.length) (by omega) (Nat.le_refl _) (Nat.le_refl _)) (Ent.trans ?_ (all_put (f := qrd) i hi x))))
  have e1 : ((flat mc ps[i].1.sends).drop (1 * 15)).take ((ps[i].1.sends.length - 1) * 15) = flat mc x.1.sends := by
    rw [flat_drop (enc := mc) (n := 15) (fun _ => rfl), flat_take (enc := mc) (n := 15) (fun _ => rfl), h1, List.take_of_length_le (by simp)]
  have e2 : x.1.sends.length = ps[i].1.sends.length - 1 := by rw [h1]; simp
  rw [e1]
  unfold qrd
  have h2' : Value.slice x.2.1 x.1.sends.length x.2.2 = cut (qsl ps[i]) 1 ps[i].1.sends.length ps[i].1.sends.length 15 := h2
  rw [h2', e2]
  exact Ent.refl
theorem qadd_in {T e : TypeId} {b : Nat} {room : Int} {ps : List QP} {m : Msg} {n : Nat} {p : Option Addr} {c : Nat} {xs : List Value} {L M : List HP}
    (h : Ent L (Cells b T [.int .i64 room, .slice p n c] :: Own e 17 (.slice p n c) n xs :: All (ps.map qrd) :: M)) (hn : n = ps.length + 1) (hx : xs = flat qc ps ++ qc ((⟨m, false, []⟩ : QE), (none, 0))) (h1 : (ps.length : Int) ≤ room) (h0 : ¬ (ps.length : Int) = room) (h2 : room ≤ 16) (h3 : ∀ p ∈ ps, p.1.sends.length ≤ p.2.2 ∧ p.1.sends.length ≤ 1000) :
    Ent L (QuB T e b room (ps.map (·.1) ++ [⟨m, false, []⟩]) :: M) := by
  refine qu_in (ps := ps ++ [((⟨m, false, []⟩ : QE), (none, 0))]) (Ent.trans h (Ent.cons (Ent.cons (all_add0 Ent.refl)))) (by simp) (by simp [hn]) (by rw [hx, flat_append, flat_one]) (by simp; omega) h2 ?_
  intro p hp
  rcases List.mem_append.1 hp with h | h
  · exact h3 p h
  · rw [List.mem_singleton.1 h]; simp
/-- The first ones of what is owned can be read. -/
theorem rd_low {T : TypeId} {p : Option Addr} {c i : Nat} {ps : List QP} (hi : i ≤ ps.length) (hc : ps.length ≤ c) (L : List HP) : RdL (Own T 17 (.slice p ps.length c) ps.length (flat qc ps) :: L) 17 (cut (.slice p ps.length c) 0 i c 17) (ps.take i).length (flat qc (ps.take i)) := by
  have k0 : RdL (Own T 17 (.slice p ps.length c) ps.length (flat qc ps) :: L) 17 (.slice p ps.length c) ps.length (flat qc ps) := RdL.own
  have k := RdL.cut (m := c) k0 (Nat.zero_le i) hi (by omega)
  have e : ((flat qc ps).drop (0 * 17)).take ((i - 0) * 17) = flat qc (ps.take i) := by
    rw [Nat.zero_mul, List.drop_zero, Nat.sub_zero, flat_take (enc := qc) (n := 17) (fun _ => rfl)]
  rw [e] at k
  have e2 : (ps.take i).length = i - 0 := by rw [List.length_take]; omega
  rw [e2]; exact k
theorem WE_owncap {T : TypeId} {sz n c : Nat} {p : Option Addr} {xs : List Value} {N : Nat} {x : Exit} {env : Env} {L : List HP} {Q : Exit → Act → World → Prop} (h : n ≤ c → WE N x env (Own T sz (.slice p n c) n xs :: L) Q) : WE N x env (Own T sz (.slice p n c) n xs :: L) Q :=
  fun a w ha hw => h (own_cap hw) a w ha hw
theorem WO_owncap {T : TypeId} {sz n c : Nat} {p : Option Addr} {xs : List Value} {P : Program} {N : Nat} {all : Array Oper} {o : List Oper} {env : Env} {L : List HP} {Q : Exit → Act → World → Prop} (h : n ≤ c → WO P N all o env (Own T sz (.slice p n c) n xs :: L) Q) : WO P N all o env (Own T sz (.slice p n c) n xs :: L) Q :=
  fun a w ha hw => h (own_cap hw) a w ha hw
/-- What can be read of one of many. -/
theorem rd_all {ps : List QP} {p : QP} (hp : p ∈ ps) {L : List HP} : RdL (All (ps.map qrd) :: L) 15 (qsl p) p.1.sends.length (flat mc p.1.sends) := by
  obtain ⟨i, hi, rfl⟩ := List.getElem_of_mem hp
  have k : RdL (qrd ps[i] :: All ((ps.eraseIdx i).map qrd) :: L) 15 (qsl ps[i]) ps[i].1.sends.length (flat mc ps[i].1.sends) := RdL.rds
  have e := all_take (f := qrd) (L := L) i hi
  exact ⟨fun w h => k.len w (e.sat h), fun w h => k.ones w (e.sat h), fun w h => k.pf w (e.sat h)⟩

/-- What each has to send can be read. -/
class RdAll (L : List HP) (ps : List QP) : Prop where
  pf : ∀ p ∈ ps, RdL L 15 (qsl p) p.1.sends.length (flat mc p.1.sends)
instance (priority := high) RdAll.here {ps : List QP} {L : List HP} : RdAll (All (ps.map qrd) :: L) ps := ⟨fun p hp => rd_all hp⟩
instance RdAll.there {ps : List QP} {q : HP} {L : List HP} [k : RdAll L ps] : RdAll (q :: L) ps := ⟨fun p hp => by haveI := k.pf p hp; exact RdL.there⟩

/-! ## What they do, told of lists -/
def qinit : List QE := []
def qaddE (room : Int) (l : List QE) (m : Msg) : Int := if m.kind < 1 ∨ m.kind > 3 then 1 else if (l.length : Int) = room then 4 else 0
def qaddL (room : Int) (l : List QE) (m : Msg) : List QE := if qaddE room l m = 0 then l ++ [⟨m, false, []⟩] else l
def qin (l : List QE) (n : Int) : Bool := decide (0 ≤ n ∧ n < l.length)
def qat (l : List QE) (n : Int) : QE := if qin l n then l.getD n.toNat ⟨.zero, false, []⟩ else ⟨.zero, false, []⟩
def qfree (l : List QE) (n : Nat) (line : Int) : Bool := (l.take n).all fun e => !decide (e.m.line = line)
def qready (l : List QE) (n : Int) : Bool := qin l n && !(qat l n).st && qfree l n.toNat (qat l n).m.line
def qstartE (l : List QE) (n : Int) (s : List Msg) : Int := if qin l n then (if qready l n && decide (s.length ≠ 0) then 0 else 7) else 5
def qstartL (l : List QE) (n : Int) (s : List Msg) : List QE := if qstartE l n s = 0 then l.set n.toNat { qat l n with st := true, sends := s } else l
def qnextB (l : List QE) (n : Int) : Bool := qin l n && decide ((qat l n).sends.length ≠ 0)
def qnextM (l : List QE) (n : Int) : Msg := if qnextB l n then (qat l n).sends.headD .zero else .zero
def qsentE (l : List QE) (n : Int) : Int := if qin l n then (if (qat l n).sends.length = 0 then 7 else 0) else 5
def qsentL (l : List QE) (n : Int) : List QE :=
  if qsentE l n = 0 then (if (qat l n).sends.length = 1 ∧ (qat l n).m.kind = 3 then l.eraseIdx n.toNat else l.set n.toNat { qat l n with sends := (qat l n).sends.drop 1 }) else l
def qgone (line src : Int) (e : QE) : Bool := e.st && decide (e.m.line = line) && decide (e.m.src = src) && !decide (e.m.kind = 3) && decide (e.sends.length = 0)
def qfinE (l : List QE) (line src : Int) : Int := if indexBy (qgone line src) l < 0 then 7 else 0
def qfinL (l : List QE) (line src : Int) : List QE := if indexBy (qgone line src) l < 0 then l else l.eraseIdx (indexBy (qgone line src) l).toNat
end Go.Sx

/- Queues as lists: what holds of them whatever is done. My own work; names no program. -/
namespace Go.Sx
open Go Go.Proofs
set_option linter.unusedVariables false
set_option linter.unusedSimpArgs false

/-! ## What is done -/
structure QIn where
  d : Int
  n : Int
  m : Msg
  sends : List Msg
def qdoL (room : Int) (l : List QE) (x : QOp) : List QE := if x.d = 0 then qaddL room l x.m else if x.d = 1 then qstartL l x.n x.sends else if x.d = 2 then qsentL l x.n else qfinL l x.m.line x.m.src
def qdoM (l : List QE) (x : QOp) : Msg := if x.d = 0 then .zero else if x.d = 1 then .zero else if x.d = 2 then qnextM l x.n else .zero
def qdoB (l : List QE) (x : QOp) : Bool := if x.d = 0 then false else if x.d = 1 then false else if x.d = 2 then qnextB l x.n else false
def qdoE (room : Int) (l : List QE) (x : QOp) : Int := if x.d = 0 then qaddE room l x.m else if x.d = 1 then qstartE l x.n x.sends else if x.d = 2 then qsentE l x.n else qfinE l x.m.line x.m.src

/-- What holds of a queue's entries: one that is started is the first one of its line; one that isn't has nothing to send. -/
def QInv (l : List QE) : Prop := (∀ i j (hi : i < l.length) (hj : j < l.length), i < j → l[i].m.line = l[j].m.line → l[j].st = false) ∧ ∀ e ∈ l, e.st = false → e.sends = []

theorem qinv_nil : QInv [] := ⟨fun i j hi => by simp at hi, fun e he => by simp at he⟩
theorem qinv_add {l : List QE} {m : Msg} (h : QInv l) : QInv (l ++ [⟨m, false, []⟩]) := by
  refine ⟨fun i j hi hj hij he => ?_, fun e he hs => ?_⟩
  · by_cases hjl : j < l.length
    · have hil : i < l.length := by omega
      rw [List.getElem_append_left hil, List.getElem_append_left hjl] at he
      rw [List.getElem_append_left hjl]
      exact h.1 i j hil hjl hij he
    · rw [List.getElem_append_right (by omega)]
      simp
  · rcases List.mem_append.1 he with h1 | h1
    · exact h.2 e h1 hs
    · rw [List.mem_singleton.1 h1]
theorem getElem_eraseIdx' {l : List QE} {k i : Nat} (hi : i < (l.eraseIdx k).length) : ∃ h : (if i < k then i else i + 1) < l.length, (l.eraseIdx k)[i] = l[if i < k then i else i + 1] := by
  have hlen := List.length_eraseIdx (l := l) (i := k)
  refine ⟨?_, ?_⟩
  · split at hlen <;> split <;> omega
  · rw [List.getElem_eraseIdx]; split <;> rename_i h <;> simp [h]
theorem qinv_erase {l : List QE} {k : Nat} (h : QInv l) : QInv (l.eraseIdx k) := by
  refine ⟨fun i j hi hj hij he => ?_, fun e he hs => h.2 e (List.mem_of_mem_eraseIdx he) hs⟩
  obtain ⟨a, ea⟩ := getElem_eraseIdx' hi
  obtain ⟨b, eb⟩ := getElem_eraseIdx' hj
  rw [ea, eb] at he
  rw [eb]
  refine h.1 _ _ a b ?_ he
  split <;> split <;> omega
/-- One entry is changed: its message stays; it is started, and the first one of its line. -/
theorem qinv_set {l : List QE} {k : Nat} {e : QE} (hk : k < l.length) (h : QInv l) (hm : e.m = l[k].m) (hs : e.st = true) (hf : ∀ i (hi : i < l.length), i < k → l[i].m.line ≠ l[k].m.line)
    (ho : ∀ j (hj : j < l.length), k < j → l[j].m.line = l[k].m.line → l[j].st = false) : QInv (l.set k e) := by
  have hmm : ∀ i (hi : i < (l.set k e).length), (l.set k e)[i].m = (l[i]'(by simpa using hi)).m := by
    intro i hi
    rw [List.getElem_set]; split
    · rename_i h; subst h; exact hm
    · rfl
  refine ⟨fun i j hi hj hij he => ?_, fun x hx hxs => ?_⟩
  · have hi' : i < l.length := by simpa using hi
    have hj' : j < l.length := by simpa using hj
    rw [hmm i hi, hmm j hj] at he
    rw [List.getElem_set]
    split
    · rename_i hkj; subst hkj
      exact absurd he (hf i hi' hij)
    · exact h.1 i j hi' hj' hij he
  · rcases List.mem_or_eq_of_mem_set hx with h1 | h1
    · exact h.2 x h1 hxs
    · subst h1; rw [hs] at hxs; cases hxs

theorem qin_t {l : List QE} {n : Int} (h : qin l n = true) : ∃ i : Nat, ∃ hi : i < l.length, n = i ∧ qat l n = l[i] := by
  have h0 := of_decide_eq_true h
  refine ⟨n.toNat, by omega, by omega, ?_⟩
  have hi : n.toNat < l.length := by omega
  simp [qat, h, hi]
theorem qready_t {l : List QE} {n : Int} (h : qready l n = true) : ∃ i : Nat, ∃ hi : i < l.length, n = i ∧ qat l n = l[i] ∧ l[i].st = false ∧ ∀ j (hj : j < l.length), j < i → l[j].m.line ≠ l[i].m.line := by
  simp only [qready, Bool.and_eq_true, Bool.not_eq_true'] at h
  obtain ⟨⟨h1, h2⟩, h3⟩ := h
  obtain ⟨i, hi, rfl, e⟩ := qin_t h1
  rw [e] at h2 h3
  refine ⟨i, hi, rfl, e, h2, fun j hj hji => ?_⟩
  simp only [qfree, Int.toNat_natCast, List.all_eq_true] at h3
  have := h3 l[j] (by rw [List.mem_iff_getElem]; exact ⟨j, by simp; omega, by simp⟩)
  simpa using this

theorem qinv_do {room : Int} {l : List QE} {x : QOp} (h : QInv l) : QInv (qdoL room l x) := by
  unfold qdoL
  split
  · unfold qaddL; split
    · exact qinv_add h
    · exact h
  · split
    · unfold qstartL; split
      · rename_i hs
        unfold qstartE at hs
        split at hs
        · split at hs
          · rename_i hr
            obtain ⟨hr, _⟩ := Bool.and_eq_true_iff.1 hr
            obtain ⟨i, hi, e1, e2, e3, e4⟩ := qready_t hr
            rw [e2, e1, Int.toNat_natCast]
            exact qinv_set hi h rfl rfl e4 fun j hj hij he => h.1 i j hi hj hij he.symm
          · cases hs
        · cases hs
      · exact h
    · split
      · unfold qsentL; split
        · rename_i hs
          unfold qsentE at hs
          split at hs
          · rename_i hin
            obtain ⟨i, hi, e1, e2⟩ := qin_t hin
            split at hs
            · cases hs
            · rename_i hn
              rw [e2] at hn ⊢
              split
              · exact qinv_erase h
              · rw [e1, Int.toNat_natCast]
                have hst : l[i].st = true := by
                  cases hc : l[i].st with
                  | true => rfl
                  | false => exact absurd (by rw [h.2 _ (List.getElem_mem hi) hc]; rfl) hn
                refine qinv_set hi h rfl hst (fun j hj hji he => ?_) fun j hj hij he => h.1 i j hi hj hij he.symm
                have := h.1 j i hj hi hji he
                rw [hst] at this; cases this
          · cases hs
        · exact h
      · unfold qfinL; split
        · exact h
        · exact qinv_erase h

theorem qroom_do {room : Int} {l : List QE} {x : QOp} (h : (l.length : Int) ≤ room) : ((qdoL room l x).length : Int) ≤ room := by
  unfold qdoL
  split
  · unfold qaddL; split
    · rename_i hs
      unfold qaddE at hs
      split at hs
      · cases hs
      · split at hs
        · cases hs
        · simp; omega
    · exact h
  · split
    · unfold qstartL; split <;> simp [h]
    · split
      · unfold qsentL; split
        · split
          · have := List.length_eraseIdx_le l x.n.toNat; omega
          · simpa using h
        · exact h
      · unfold qfinL; split
        · exact h
        · have := List.length_eraseIdx_le l (indexBy (qgone x.m.line x.m.src) l).toNat; omega
end Go.Sx
