/- What queues do, the program's. My own work. -/
import Derived.Test.YtadedfcjakhfbaaBagR
import Derived.Test.YtadedfcjakhfbaaAll
namespace Go.Sx
open Go Go.Proofs
set_option linter.unusedVariables false
set_option linter.unusedSectionVars false
set_option linter.unusedSimpArgs false

/-! ## A queue -/
abbrev qrd (p : QP) : HP := Rds 15 (.slice p.2.1 p.1.sends.length p.2.2) p.1.sends.length (flat mc p.1.sends)
/-- A block with a room, and a slice of requests of its own, each with what is to be sent. -/
def QuB (T e : TypeId) (b : Nat) (room : Int) (l : List QE) : HP :=
  Ex fun q : (Option Addr × Nat) × List QP => [Cells b T [.int .i64 room, .slice q.1.1 q.2.length q.1.2], Own e 17 (.slice q.1.1 q.2.length q.1.2) q.2.length (flat qc q.2), All (q.2.map qrd), Fact (q.2.map (·.1) = l ∧ (q.2.length : Int) ≤ room ∧ room ≤ 16 ∧ ∀ p ∈ q.2, p.1.sends.length ≤ p.2.2 ∧ p.1.sends.length ≤ 1000)]
section
variable {T e : TypeId} {b : Nat} {room : Int} {l : List QE}
theorem qu_in {n : Nat} {p : Option Addr} {c : Nat} {xs : List Value} {ps : List QP} {L M : List HP}
    (h : Ent L (Cells b T [.int .i64 room, .slice p n c] :: Own e 17 (.slice p n c) n xs :: All (ps.map qrd) :: M)) (hl : ps.map (·.1) = l) (hn : n = ps.length) (hx : xs = flat qc ps) (h1 : (ps.length : Int) ≤ room) (h2 : room ≤ 16) (h3 : ∀ p ∈ ps, p.1.sends.length ≤ p.2.2 ∧ p.1.sends.length ≤ 1000) : Ent L (QuB T e b room l :: M) := by
  subst hn hx
  refine Ent.trans h (Ent.trans ?_ (ex_intro (p := fun q : (Option Addr × Nat) × List QP => [Cells b T [.int .i64 room, .slice q.1.1 q.2.length q.1.2], Own e 17 (.slice q.1.1 q.2.length q.1.2) q.2.length (flat qc q.2), All (q.2.map qrd), Fact (q.2.map (·.1) = l ∧ (q.2.length : Int) ≤ room ∧ room ≤ 16 ∧ ∀ p ∈ q.2, p.1.sends.length ≤ p.2.2 ∧ p.1.sends.length ≤ 1000)]) ((p, c), ps)))
  exact Ent.cons (Ent.cons (Ent.cons (star_fact_mk ⟨hl, h1, h2, h3⟩)))
theorem own_cap {T : TypeId} {sz n c : Nat} {p : Option Addr} {xs : List Value} {L : List HP} {w : World} (h : Sat (Own T sz (.slice p n c) n xs :: L) w) : n ≤ c := by
  rcases (sat_own h).2.2 with ⟨q, h1, h2⟩ | ⟨g, cap, cur, h1, _, h3, _⟩
  · omega
  · cases h1; exact h3
theorem qu_sat {L : List HP} {w : World} (h : Sat (QuB T e b room l :: L) w) : ∃ p c, ∃ ps : List QP, (ps.map (·.1) = l ∧ (ps.length : Int) ≤ room ∧ room ≤ 16 ∧ (∀ p ∈ ps, p.1.sends.length ≤ p.2.2 ∧ p.1.sends.length ≤ 1000) ∧ ps.length ≤ c) ∧
    Sat (Cells b T [.int .i64 room, .slice p ps.length c] :: Own e 17 (.slice p ps.length c) ps.length (flat qc ps) :: All (ps.map qrd) :: L) w := by
  obtain ⟨⟨⟨p, c⟩, ps⟩, hx⟩ := star_ex h
  simp only [app] at hx
  have hf := fact_of (star_drop (star_drop (star_drop hx)))
  have hx2 : Sat (Cells b T [.int .i64 room, .slice p ps.length c] :: Own e 17 (.slice p ps.length c) ps.length (flat qc ps) :: All (ps.map qrd) :: L) w := (Ent.cons (Ent.cons (Ent.cons (Ent.drop Ent.refl)))) _ hx
  exact ⟨p, c, ps, ⟨hf.1, hf.2.1, hf.2.2.1, hf.2.2.2, own_cap (sat_tail hx2)⟩, hx2⟩
variable {P : Program} {N : Nat} {env : Env} {L : List HP} {Q : Exit → Act → World → Prop}
theorem qu_open {c : Code} (h : ∀ p c0, ∀ ps : List QP, (ps.map (·.1) = l ∧ (ps.length : Int) ≤ room ∧ room ≤ 16 ∧ (∀ p ∈ ps, p.1.sends.length ≤ p.2.2 ∧ p.1.sends.length ≤ 1000) ∧ ps.length ≤ c0) → WC P N c env (Cells b T [.int .i64 room, .slice p ps.length c0] :: Own e 17 (.slice p ps.length c0) ps.length (flat qc ps) :: All (ps.map qrd) :: L) Q) : WC P N c env (QuB T e b room l :: L) Q := by
  intro a w ha hw
  obtain ⟨p, c0, ps, hf, hx⟩ := qu_sat hw
  exact h p c0 ps hf a w ha hx
theorem qu_openO {all : Array Oper} {c : List Oper} (h : ∀ p c0, ∀ ps : List QP, (ps.map (·.1) = l ∧ (ps.length : Int) ≤ room ∧ room ≤ 16 ∧ (∀ p ∈ ps, p.1.sends.length ≤ p.2.2 ∧ p.1.sends.length ≤ 1000) ∧ ps.length ≤ c0) → WO P N all c env (Cells b T [.int .i64 room, .slice p ps.length c0] :: Own e 17 (.slice p ps.length c0) ps.length (flat qc ps) :: All (ps.map qrd) :: L) Q) : WO P N all c env (QuB T e b room l :: L) Q := by
  intro a w ha hw
  obtain ⟨p, c0, ps, hf, hx⟩ := qu_sat hw
  exact h p c0 ps hf a w ha hx
end
theorem all_add0 {ps : List QP} {m : Msg} {st : Bool} {a : Option Addr} {c : Nat} {L M : List HP} (h : Ent L (All (ps.map qrd) :: M)) : Ent L (All ((ps ++ [((⟨m, st, []⟩ : QE), (a, c))]).map qrd) :: M) :=
  Ent.trans h (Ent.trans rds_nil (all_add (f := qrd) ((⟨m, st, []⟩ : QE), (a, c))))
/-- One is changed, and has other things to send. -/
theorem all_set {ps : List QP} {i : Nat} (hi : i < ps.length) {x : QP} {T : TypeId} {L M : List HP} (h : Ent L (Own T 15 (.slice x.2.1 x.1.sends.length x.2.2) x.1.sends.length (flat mc x.1.sends) :: All (ps.map qrd) :: M)) : Ent L (All ((ps.set i x).map qrd) :: M) :=
  Ent.trans h (Ent.trans own_rds (Ent.trans (Ent.cons (all_erase i)) (all_put (f := qrd) i hi x)))
theorem all_era {ps : List QP} {i : Nat} {L M : List HP} (h : Ent L (All (ps.map qrd) :: M)) : Ent L (All ((ps.eraseIdx i).map qrd) :: M) := Ent.trans h (all_erase i)
/-- The first one of what one has to send is sent. -/
theorem all_tail {ps : List QP} {i : Nat} (hi : i < ps.length) {x : QP} {L M : List HP} (hn : 0 < ps[i].1.sends.length) (hc : ps[i].1.sends.length ≤ ps[i].2.2) (h1 : x.1.sends = ps[i].1.sends.drop 1)
    (h2 : qsl x = cut (qsl ps[i]) 1 ps[i].1.sends.length ps[i].1.sends.length 15) (h : Ent L (All (ps.map qrd) :: M)) : Ent L (All ((ps.set i x).map qrd) :: M) := by
  refine Ent.trans h (Ent.trans (all_take (f := qrd) i hi) (Ent.trans (rds_cut (l := 1) (h := ps[i].1.sends.length) (m := ps[i].1.sends.length) (by omega) (Nat.le_refl _) (Nat.le_refl _)) (Ent.trans ?_ (all_put (f := qrd) i hi x))))
  have e1 : ((flat mc ps[i].1.sends).drop (1 * 15)).take ((ps[i].1.sends.length - 1) * 15) = flat mc x.1.sends := by
    rw [flat_drop (enc := mc) (n := 15) (fun _ => rfl), flat_take (enc := mc) (n := 15) (fun _ => rfl), h1, List.take_of_length_le (by simp)]
  have e2 : x.1.sends.length = ps[i].1.sends.length - 1 := by rw [h1]; simp
  rw [e1]
  unfold qrd
  have h2' : Value.slice x.2.1 x.1.sends.length x.2.2 = cut (qsl ps[i]) 1 ps[i].1.sends.length ps[i].1.sends.length 15 := h2
  rw [h2', e2]
  exact Ent.refl
theorem qadd_in {T e : TypeId} {b : Nat} {room : Int} {ps : List QP} {m : Msg} {n : Nat} {p : Option Addr} {c : Nat} {xs : List Value} {L M : List HP}
    (h : Ent L (Cells b T [.int .i64 room, .slice p n c] :: Own e 17 (.slice p n c) n xs :: All (ps.map qrd) :: M)) (hn : n = ps.length + 1) (hx : xs = flat qc ps ++ qc ((⟨m, false, []⟩ : QE), (none, 0))) (h1 : (ps.length : Int) ≤ room) (h0 : ¬ (ps.length : Int) = room) (h2 : room ≤ 16) (h3 : ∀ p ∈ ps, p.1.sends.length ≤ p.2.2 ∧ p.1.sends.length ≤ 1000) :
    Ent L (QuB T e b room (ps.map (·.1) ++ [⟨m, false, []⟩]) :: M) := by
  refine qu_in (ps := ps ++ [((⟨m, false, []⟩ : QE), (none, 0))]) (Ent.trans h (Ent.cons (Ent.cons (all_add0 Ent.refl)))) (by simp) (by simp [hn]) (by rw [hx, flat_append, flat_one]) (by simp; omega) h2 ?_
  intro p hp
  rcases List.mem_append.1 hp with h | h
  · exact h3 p h
  · rw [List.mem_singleton.1 h]; simp
/-- The first ones of what is owned can be read. -/
theorem rd_low {T : TypeId} {p : Option Addr} {c i : Nat} {ps : List QP} (hi : i ≤ ps.length) (hc : ps.length ≤ c) (L : List HP) : RdL (Own T 17 (.slice p ps.length c) ps.length (flat qc ps) :: L) 17 (cut (.slice p ps.length c) 0 i c 17) (ps.take i).length (flat qc (ps.take i)) := by
  have k0 : RdL (Own T 17 (.slice p ps.length c) ps.length (flat qc ps) :: L) 17 (.slice p ps.length c) ps.length (flat qc ps) := RdL.own
  have k := RdL.cut (m := c) k0 (Nat.zero_le i) hi (by omega)
  have e : ((flat qc ps).drop (0 * 17)).take ((i - 0) * 17) = flat qc (ps.take i) := by
    rw [Nat.zero_mul, List.drop_zero, Nat.sub_zero, flat_take (enc := qc) (n := 17) (fun _ => rfl)]
  rw [e] at k
  have e2 : (ps.take i).length = i - 0 := by rw [List.length_take]; omega
  rw [e2]; exact k
theorem WE_owncap {T : TypeId} {sz n c : Nat} {p : Option Addr} {xs : List Value} {N : Nat} {x : Exit} {env : Env} {L : List HP} {Q : Exit → Act → World → Prop} (h : n ≤ c → WE N x env (Own T sz (.slice p n c) n xs :: L) Q) : WE N x env (Own T sz (.slice p n c) n xs :: L) Q :=
  fun a w ha hw => h (own_cap hw) a w ha hw
theorem WO_owncap {T : TypeId} {sz n c : Nat} {p : Option Addr} {xs : List Value} {P : Program} {N : Nat} {all : Array Oper} {o : List Oper} {env : Env} {L : List HP} {Q : Exit → Act → World → Prop} (h : n ≤ c → WO P N all o env (Own T sz (.slice p n c) n xs :: L) Q) : WO P N all o env (Own T sz (.slice p n c) n xs :: L) Q :=
  fun a w ha hw => h (own_cap hw) a w ha hw
/-- What can be read of one of many. -/
theorem rd_all {ps : List QP} {p : QP} (hp : p ∈ ps) {L : List HP} : RdL (All (ps.map qrd) :: L) 15 (qsl p) p.1.sends.length (flat mc p.1.sends) := by
  obtain ⟨i, hi, rfl⟩ := List.getElem_of_mem hp
  have k : RdL (qrd ps[i] :: All ((ps.eraseIdx i).map qrd) :: L) 15 (qsl ps[i]) ps[i].1.sends.length (flat mc ps[i].1.sends) := RdL.rds
  have e := all_take (f := qrd) (L := L) i hi
  exact ⟨fun w h => k.len w (e.sat h), fun w h => k.ones w (e.sat h), fun w h => k.pf w (e.sat h)⟩

/-- What each has to send can be read. -/
class RdAll (L : List HP) (ps : List QP) : Prop where
  pf : ∀ p ∈ ps, RdL L 15 (qsl p) p.1.sends.length (flat mc p.1.sends)
instance (priority := high) RdAll.here {ps : List QP} {L : List HP} : RdAll (All (ps.map qrd) :: L) ps := ⟨fun p hp => rd_all hp⟩
instance RdAll.there {ps : List QP} {q : HP} {L : List HP} [k : RdAll L ps] : RdAll (q :: L) ps := ⟨fun p hp => by haveI := k.pf p hp; exact RdL.there⟩

/-! ## What they do, told of lists -/
def qinit : List QE := []
def qaddE (room : Int) (l : List QE) (m : Msg) : Int := if m.kind < 1 ∨ m.kind > 3 then 1 else if (l.length : Int) = room then 4 else 0
def qaddL (room : Int) (l : List QE) (m : Msg) : List QE := if qaddE room l m = 0 then l ++ [⟨m, false, []⟩] else l
def qin (l : List QE) (n : Int) : Bool := decide (0 ≤ n ∧ n < l.length)
def qat (l : List QE) (n : Int) : QE := if qin l n then l.getD n.toNat ⟨.zero, false, []⟩ else ⟨.zero, false, []⟩
def qfree (l : List QE) (n : Nat) (line : Int) : Bool := (l.take n).all fun e => !decide (e.m.line = line)
def qready (l : List QE) (n : Int) : Bool := qin l n && !(qat l n).st && qfree l n.toNat (qat l n).m.line
def qstartE (l : List QE) (n : Int) (s : List Msg) : Int := if qin l n then (if qready l n && decide (s.length ≠ 0) then 0 else 7) else 5
def qstartL (l : List QE) (n : Int) (s : List Msg) : List QE := if qstartE l n s = 0 then l.set n.toNat { qat l n with st := true, sends := s } else l
def qnextB (l : List QE) (n : Int) : Bool := qin l n && decide ((qat l n).sends.length ≠ 0)
def qnextM (l : List QE) (n : Int) : Msg := if qnextB l n then (qat l n).sends.headD .zero else .zero
def qsentE (l : List QE) (n : Int) : Int := if qin l n then (if (qat l n).sends.length = 0 then 7 else 0) else 5
def qsentL (l : List QE) (n : Int) : List QE :=
  if qsentE l n = 0 then (if (qat l n).sends.length = 1 ∧ (qat l n).m.kind = 3 then l.eraseIdx n.toNat else l.set n.toNat { qat l n with sends := (qat l n).sends.drop 1 }) else l
def qgone (line src : Int) (e : QE) : Bool := e.st && decide (e.m.line = line) && decide (e.m.src = src) && !decide (e.m.kind = 3) && decide (e.sends.length = 0)
def qfinE (l : List QE) (line src : Int) : Int := if indexBy (qgone line src) l < 0 then 7 else 0
def qfinL (l : List QE) (line src : Int) : List QE := if indexBy (qgone line src) l < 0 then l else l.eraseIdx (indexBy (qgone line src) l).toNat
end Go.Sx
