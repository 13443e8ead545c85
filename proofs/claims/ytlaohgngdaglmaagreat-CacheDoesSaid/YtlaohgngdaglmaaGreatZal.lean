/- CaPl, CaInv, CaRead: several of my texts as one. My own work. -/
import Derived.Test.YtlaohgngdaglmaaGreatZak
import Derived.Test.YtlaohgngdaglmaaGreatZag
import Derived.Test.YtlaohgngdaglmaaGreatZaa
/- Caches told of lists: what is so of them, plain. My own work. -/
namespace Go.Sx
open Go Go.Proofs
set_option linter.unusedVariables false
set_option linter.unusedSimpArgs false
theorem WT_ent' {P : Program} {N : Nat} {st : St} {ops : Array Oper} {LS L L' : List HP} {pl : Plan} {env : Env} {Q : Exit → Act → World → Prop} (e : Ent L L') (h : WT st P N ops LS pl env L' Q) : WT st P N ops LS pl env L Q := fun a w ha hw => h a w ha (e.sat hw)
/-- Where a line was laid. -/
theorem lay_at {c : Cfg} {l : List Way} {line : Int} {i : Nat} (hI : ArrInv c l) (hi : arrFree c l line = i) (hno : findB c l line = false) :
    ∃ h : arrF c line + i < l.length, layE c l line i = 0 ∧ layL c l line i = l.set (arrF c line + i) ⟨0, line, .zero, true⟩ ∧ arrP c (layL c l line i) line = i ∧ findW c (layL c l line i) line = ⟨0, line, .zero, true⟩ := by
  have hn : arrP c l line = -1 := by
    have := arrP_lt c l line
    simp [findB] at hno; omega
  obtain ⟨j, hj, e, h1, h2⟩ := indexBy_nat (show 0 ≤ indexBy (fun w => !thereB w) (waysOf c l line) by unfold arrFree at hi; omega)
  have hji : j = i := by unfold arrFree at hi; omega
  subst hji
  have hok : okLine c line = true := by
    cases h : okLine c line with
    | true => rfl
    | false => rw [waysOf_no h] at hj; simp at hj
  obtain ⟨hb, eg⟩ := ways_get hok hj
  have hlw : j < c.ways.toNat := by rw [waysOf_ok hok, List.length_take] at hj; omega
  have h3 : thereB ((waysOf c l line).getD j .zero) = false := by rw [← getD_at hj]; simpa using h1
  have e1 : layE c l line j = 0 := by
    unfold layE
    rw [if_pos ⟨by omega, by omega⟩, if_pos hn, Int.toNat_natCast, h3]; rfl
  have e2 : layL c l line j = l.set (arrF c line + j) ⟨0, line, .zero, true⟩ := by unfold layL; rw [if_pos e1, Int.toNat_natCast]
  have hI2 : ArrInv c (layL c l line j) := layL_inv hI
  have hb2 : arrF c line + j < (layL c l line j).length := by rw [layL_len]; exact hb
  have e3 : (layL c l line j)[arrF c line + j] = ⟨0, line, .zero, true⟩ := by simp only [e2]; rw [List.getElem_set_self]
  have h4 := find_at (line := line) hI2 hb2 (by rw [e3]; simp [pHas, thereB])
  have e4 : arrP c (layL c l line j) line = j := by rw [h4.2]; omega
  exact ⟨hb, e1, e2, e4, by rw [findW_at e4 hb2, e3]⟩
theorem lay_lock {c : Cfg} {l : List Way} {line : Int} (hI : ArrInv c l) (hf : ¬ arrFree c l line < 0) (hno : findB c l line = false) : lockL c (layL c l line (arrFree c l line)) line true = layL c l line (arrFree c l line) := by
  obtain ⟨i, hi⟩ : ∃ i : Nat, arrFree c l line = i := ⟨(arrFree c l line).toNat, by omega⟩
  obtain ⟨hb, _, e2, e3, e4⟩ := lay_at hI hi hno
  rw [hi]
  unfold lockL
  have e5 : lockE c (layL c l line i) line = 0 := by unfold lockE; rw [e3, if_neg (by omega)]
  rw [if_pos e5, e3, e4, Int.toNat_natCast, e2, List.set_set]
theorem can_ref {c : Cfg} {k : CaS} {line kind : Int} (hk : kind = 1 ∨ kind = 2) : caCan c k line kind = decide (kind = 1 ∧ (findW c k.ways line).st ≠ 0 ∨ kind = 2 ∧ ((findW c k.ways line).st = 2 ∨ (findW c k.ways line).st = 4)) := by
  unfold caCan
  rcases hk with h | h
  · subst h; rw [if_pos rfl]; apply decide_eq_decide.2; omega
  · subst h; rw [if_neg (by omega)]; apply decide_eq_decide.2; omega
theorem ok_tmod {c : Cfg} {line : Int} (h : okLine c line = true) : line.tmod c.homes = lineH c line := by
  have h0 := (line_big h).2.1
  unfold lineH; rw [if_pos h, tmod_nn h0]
theorem homes_pos {c : Cfg} (h : checkB c = true) : 1 ≤ c.homes ∧ c.homes ≤ 16 := by
  obtain ⟨_, ⟨k, hk, e⟩, _⟩ := check_facts h
  have := pow_bd hk
  rw [e]; exact ⟨this.1, by have := this.2; simpa using this⟩
theorem set_all {α : Type} {P : α → Prop} {l : List α} {i : Nat} {x : α} (h : ∀ m ∈ l, P m) (hx : P x) : ∀ m ∈ l.set i x, P m := fun m hm => by
  rcases List.mem_or_eq_of_mem_set hm with g | g
  · exact h m g
  · rw [g]; exact hx
theorem misAt_all {P : Miss → Prop} {l : List Miss} {line : Int} (h : ∀ m ∈ l, P m) (hz : P .zero) : P (misAt l line) := by
  unfold misAt
  by_cases g : (misP l line).toNat < l.length
  · rw [← getD_at g]; exact h _ (List.getElem_mem g)
  · rw [List.getD_eq_getElem?_getD, List.getElem?_eq_none (by omega)]; exact hz
theorem data_got {l : List Miss} {line acks own : Int} {w : Words} (h : ∀ m ∈ l, 0 ≤ m.got) : ∀ m ∈ dataL l line acks own w, 0 ≤ m.got := by
  unfold dataL
  split
  · exact set_all h (misAt_all (P := fun m => 0 ≤ m.got) h (by decide))
  · exact h
theorem grant_got {l : List Miss} {line acks : Int} (h : ∀ m ∈ l, 0 ≤ m.got) : ∀ m ∈ grantL l line acks, 0 ≤ m.got := by
  unfold grantL
  split
  · exact set_all h (misAt_all (P := fun m => 0 ≤ m.got) h (by decide))
  · exact h
theorem ack_got {l : List Miss} {line : Int} (h : ∀ m ∈ l, 0 ≤ m.got) : ∀ m ∈ ackL l line, 0 ≤ m.got := by
  unfold ackL
  split
  · exact set_all h (by have := misAt_all (P := fun m => 0 ≤ m.got) (line := line) h (by decide); dsimp only; omega)
  · exact h
end Go.Sx

/- Caches told of lists: what stays so, whatever is asked, evicted, taken and done. My own work. -/
namespace Go.Sx
open Go Go.Proofs
set_option linter.unusedVariables false
set_option linter.unusedSimpArgs false
/-- What is so of a way, and of a miss behind n steps. -/
def StOk (x : Way) : Prop := 0 ≤ x.st ∧ x.st ≤ 4
def MsOk (c : Cfg) (n : Nat) (m : Miss) : Prop := okLine c m.line = true ∧ MisOk m ∧ m.got ≤ n
def CaInv (c : Cfg) (n : Nat) (k : CaS) : Prop := ArrInv c k.ways ∧ (∀ x ∈ k.ways, StOk x) ∧ (∀ m ∈ k.mis, MsOk c n m)
theorem ms_mono {c : Cfg} {n n' : Nat} {m : Miss} (hn : n ≤ n') (h : MsOk c n m) : MsOk c n' m := ⟨h.1, h.2.1, by have := h.2.2; omega⟩
theorem caInv_mono {c : Cfg} {n n' : Nat} {k : CaS} (hn : n ≤ n') (h : CaInv c n k) : CaInv c n' k := ⟨h.1, h.2.1, fun m hm => ms_mono hn (h.2.2 m hm)⟩
theorem caInv_new (c : Cfg) (n : Nat) (w : Nat) : CaInv c n ⟨List.replicate w .zero, [], []⟩ :=
  ⟨arr_inv_no c w, fun x hx => by rw [(List.mem_replicate.1 hx).2]; exact ⟨by decide, by decide⟩, fun m hm => by cases hm⟩
theorem findW_all {P : Way → Prop} {c : Cfg} {l : List Way} {line : Int} (h : ∀ x ∈ l, P x) (hz : P .zero) : P (findW c l line) := by
  by_cases g : arrP c l line < 0
  · unfold findW; rw [if_pos g]; exact hz
  · obtain ⟨i, hi⟩ : ∃ i : Nat, arrP c l line = i := ⟨(arrP c l line).toNat, by omega⟩
    obtain ⟨h2, _⟩ := arrP_at hi
    rw [findW_at hi h2]
    exact h _ (List.getElem_mem h2)
theorem st_zero : StOk .zero := ⟨by decide, by decide⟩
theorem lay_st {c : Cfg} {l : List Way} {line way : Int} (h : ∀ x ∈ l, StOk x) : ∀ x ∈ layL c l line way, StOk x := by
  unfold layL
  split
  · exact set_all h st_zero
  · exact h
theorem lock_st {c : Cfg} {l : List Way} {line : Int} {lk : Bool} (h : ∀ x ∈ l, StOk x) : ∀ x ∈ lockL c l line lk, StOk x := by
  unfold lockL
  split
  · exact set_all h (findW_all (P := StOk) h st_zero)
  · exact h
theorem set_st {c : Cfg} {l : List Way} {line st : Int} {w : Words} (h : ∀ x ∈ l, StOk x) : ∀ x ∈ setL c l line st w, StOk x := by
  unfold setL
  split
  · rename_i h0
    refine set_all h ?_
    unfold setE at h0
    split at h0
    · cases h0
    · split at h0
      · cases h0
      · rename_i h1 h2
        unfold StOk; dsimp only; omega
  · exact h
theorem misIn_mem {l : List Miss} {line : Int} (h : misIn l line = true) : misAt l line ∈ l ∧ (misAt l line).line = line := by
  obtain ⟨i, hi, _, e, el⟩ := misIn_t h
  rw [e]; exact ⟨List.getElem_mem hi, el⟩
theorem open_ms {c : Cfg} {n : Nat} {room line kind : Int} {l : List Miss} (hl : okLine c line = true) (h : ∀ m ∈ l, MsOk c n m) : ∀ m ∈ openL room l line kind, MsOk c n m := by
  unfold openL
  split
  · rename_i h0
    intro m hm
    rcases List.mem_append.1 hm with g | g
    · exact h m g
    · simp only [List.mem_singleton] at g
      subst g
      have hk : kind = 1 ∨ kind = 2 := by
        unfold openE at h0
        split at h0
        · cases h0
        · omega
      exact ⟨hl, ⟨hk, by dsimp only; omega, by dsimp only; omega, fun g => by dsimp only at g; omega⟩, by dsimp only; omega⟩
  · exact h
theorem dataE_in {l : List Miss} {line acks own : Int} (h : dataE l line acks own = 0) : misIn l line = true ∧ fitsM (misAt l line) acks own = true := by
  unfold dataE at h
  split at h
  · rename_i h1
    split at h
    · rename_i h2; exact ⟨h1, h2⟩
    · cases h
  · cases h
theorem fits_needs {m : Miss} {acks own : Int} (h : fitsM m acks own = true) : m.needs = -1 ∧ m.got ≤ acks := by
  unfold fitsM at h
  rw [Bool.and_eq_true, decide_eq_true_eq] at h
  exact h.1
theorem data_ms {c : Cfg} {n : Nat} {l : List Miss} {line acks own : Int} {w : Words} (h : ∀ m ∈ l, MsOk c n m) : ∀ m ∈ dataL l line acks own w, MsOk c n m := by
  unfold dataL
  split
  · rename_i h0
    obtain ⟨h1, h2⟩ := dataE_in h0
    obtain ⟨g1, g2⟩ := fits_needs h2
    obtain ⟨a1, a2, a3⟩ := h _ (misIn_mem h1).1
    obtain ⟨b1, b2, b3, b4⟩ := a2
    exact set_all h ⟨a1, ⟨b1, by dsimp only; omega, b3, fun _ => by dsimp only; omega⟩, a3⟩
  · exact h
theorem grant_ms {c : Cfg} {n : Nat} {l : List Miss} {line acks : Int} (h : ∀ m ∈ l, MsOk c n m) : ∀ m ∈ grantL l line acks, MsOk c n m := by
  unfold grantL
  split
  · rename_i h0
    obtain ⟨h1, h2⟩ := dataE_in h0
    obtain ⟨g1, g2⟩ := fits_needs h2
    obtain ⟨a1, a2, a3⟩ := h _ (misIn_mem h1).1
    obtain ⟨b1, b2, b3, b4⟩ := a2
    exact set_all h ⟨a1, ⟨b1, by dsimp only; omega, b3, fun _ => by dsimp only; omega⟩, a3⟩
  · exact h
theorem ackE_in {l : List Miss} {line : Int} (h : ackE l line = 0) : misIn l line = true ∧ (misAt l line).kind ≠ 1 ∧ (misAt l line).needs ≠ (misAt l line).got := by
  unfold ackE at h
  split at h
  · rename_i h1
    split at h
    · cases h
    · rename_i h2; exact ⟨h1, fun g => h2 (.inl g), fun g => h2 (.inr g)⟩
  · cases h
theorem ack_ms {c : Cfg} {n : Nat} {l : List Miss} {line : Int} (h : ∀ m ∈ l, MsOk c n m) : ∀ m ∈ ackL l line, MsOk c (n + 1) m := by
  unfold ackL
  split
  · rename_i h0
    obtain ⟨h1, h2, h3⟩ := ackE_in h0
    obtain ⟨a1, a2, a3⟩ := h _ (misIn_mem h1).1
    obtain ⟨b1, b2, b3, b4⟩ := a2
    exact set_all (fun m hm => ms_mono (by omega) (h m hm)) ⟨a1, ⟨b1, b2, by dsimp only; omega, fun g => by have := b4 g; dsimp only at g ⊢; omega⟩, by dsimp only; omega⟩
  · exact fun m hm => ms_mono (by omega) (h m hm)
theorem owe_ms {c : Cfg} {n : Nat} {l : List Miss} {line : Int} (h : ∀ m ∈ l, MsOk c n m) : ∀ m ∈ oweL l line, MsOk c n m := by
  unfold oweL
  split
  · rename_i h0
    have h1 : misIn l line = true := by
      unfold oweB at h0; simp only [Bool.and_eq_true] at h0; exact h0.1.1
    obtain ⟨a1, a2, a3⟩ := h _ (misIn_mem h1).1
    exact set_all h ⟨a1, a2, a3⟩
  · exact h
theorem close_ms {c : Cfg} {n : Nat} {l : List Miss} {line : Int} (h : ∀ m ∈ l, MsOk c n m) : ∀ m ∈ closeL l line, MsOk c n m := by
  unfold closeL
  split
  · exact fun m hm => h m (List.mem_of_mem_eraseIdx hm)
  · exact h
theorem fill_inv {c : Cfg} {n : Nat} {k : CaS} {line : Int} (h : CaInv c n k) : CaInv c n (caFill c k line) := by
  unfold caFill
  split
  · exact ⟨setL_inv h.1, set_st h.2.1, owe_ms h.2.2⟩
  · exact h
theorem ask_ok {c : Cfg} {k : CaS} {line kind : Int} (h : caAskE c k line kind = 0) : okLine c line = true := by
  unfold caAskE at h
  split at h
  · cases h
  · rename_i h1
    cases g : okLine c line with
    | true => rfl
    | false => exact absurd (.inl g) h1
theorem ask_inv {c : Cfg} {n : Nat} {k : CaS} {line kind : Int} (h : CaInv c n k) : CaInv c n (caAskK c k line kind) := by
  unfold caAskK
  split
  · rename_i h0
    refine ⟨?_, ?_, open_ms (ask_ok h0) h.2.2⟩
    · dsimp only; split
      · exact lockL_inv h.1
      · exact layL_inv h.1
    · dsimp only; split
      · exact lock_st h.2.1
      · exact lay_st h.2.1
  · exact h
theorem ev_inv {c : Cfg} {n : Nat} {k : CaS} {s w : Int} (h : CaInv c n k) : CaInv c n (caEvK c k s w) := by
  unfold caEvK
  split
  · exact ⟨setL_inv h.1, set_st h.2.1, h.2.2⟩
  · exact h
theorem tell_inv {c : Cfg} {n : Nat} {k : CaS} {line st : Int} {g : Bool} (h : CaInv c n k) : CaInv c n (caTellK c k line st g) := by
  unfold caTellK
  split
  · exact ⟨setL_inv h.1, set_st h.2.1, h.2.2⟩
  · split
    · exact ⟨h.1, h.2.1, h.2.2⟩
    · exact h
theorem take_inv {c : Cfg} {n : Nat} {core : Int} {k : CaS} {m : Msg} (h : CaInv c n k) : CaInv c (n + 1) (caTakeK c core k m) := by
  have h' : CaInv c (n + 1) k := caInv_mono (by omega) h
  unfold caTakeK
  split
  · split
    · exact tell_inv h'
    · split
      · exact tell_inv h'
      · split
        · split
          · unfold caInvK
            split
            · exact ⟨setL_inv h'.1, set_st h'.2.1, h'.2.2⟩
            · exact h'
          · exact h'
        · split
          · unfold caDataK
            split
            · exact fill_inv ⟨h'.1, h'.2.1, data_ms h'.2.2⟩
            · exact h'
          · split
            · unfold caGrK
              split
              · exact fill_inv ⟨h'.1, h'.2.1, grant_ms h'.2.2⟩
              · exact h'
            · split
              · unfold caAckK
                split
                · exact fill_inv ⟨h'.1, h'.2.1, ack_ms h.2.2⟩
                · exact h'
              · exact ⟨h'.1, h'.2.1, h'.2.2⟩
  · exact h'
theorem fin_inv {c : Cfg} {n : Nat} {k : CaS} (h : CaInv c n k) : CaInv c n (caFinK c k) := by
  unfold caFinK
  split
  · exact ⟨lockL_inv h.1, lock_st h.2.1, close_ms h.2.2⟩
  · exact h
theorem do_inv {c : Cfg} {n : Nat} {k : CaS} {x : Op3} (h : CaInv c n k) : CaInv c n (caDoK c k x) := by
  unfold caDoK
  split
  · exact ⟨setL_inv h.1, set_st h.2.1, h.2.2⟩
  · exact h
/-! ## Steps -/
/-- A step of a law of caches. -/
structure CStep where
  d : Int
  a : Int
  b : Int
  m : Msg
  x : Op3
abbrev csc (s : CStep) : List Value := [.int .i64 s.d, .int .i64 s.a, .int .i64 s.b, .int .i64 s.m.kind, .int .i64 s.m.line, .int .i64 s.m.src, .int .i64 s.m.dst, .int .i64 s.m.who, .int .i64 s.m.acks, .int .i64 s.m.own, .int .i64 s.m.words.w0, .int .i64 s.m.words.w1, .int .i64 s.m.words.w2, .int .i64 s.m.words.w3, .int .i64 s.m.words.w4, .int .i64 s.m.words.w5, .int .i64 s.m.words.w6, .int .i64 s.m.words.w7, .int .i64 s.x.kind, .int .i64 s.x.addr, .int .i64 s.x.value]
abbrev csv (s : CStep) : Value := .agg (csc s).toArray
def CStep.wf (s : CStep) : Prop := I64 s.d ∧ I64 s.a ∧ I64 s.b ∧ s.m.wf ∧ s.x.wf
abbrev rpc (m : Msg) (i : Bool) (n e : Int) : List Value := [.int .i64 m.kind, .int .i64 m.line, .int .i64 m.src, .int .i64 m.dst, .int .i64 m.who, .int .i64 m.acks, .int .i64 m.own, .int .i64 m.words.w0, .int .i64 m.words.w1, .int .i64 m.words.w2, .int .i64 m.words.w3, .int .i64 m.words.w4, .int .i64 m.words.w5, .int .i64 m.words.w6, .int .i64 m.words.w7, .bool i, .int .i64 n, .int .i64 e]
abbrev rpv (m : Msg) (i : Bool) (n e : Int) : Value := .agg (rpc m i n e).toArray
def stM (c : Cfg) (core : Int) (k : CaS) (s : CStep) : Msg := if s.d = 0 then caAskM c core k s.a s.b else if s.d = 1 then caEvM c core k s.a s.b else if s.d = 2 then caTakeM c core k s.m else if s.d = 3 then caFinM c core k else .zero
def stB (c : Cfg) (core : Int) (k : CaS) (s : CStep) : Bool := if s.d = 0 then false else if s.d = 1 then caEvB c k s.a s.b else if s.d = 2 then caTakeB c core k s.m else if s.d = 3 then caFinB k else false
def stN (c : Cfg) (k : CaS) (s : CStep) : Int := if s.d = 0 ∨ s.d = 1 ∨ s.d = 2 ∨ s.d = 3 then 0 else caDoV c k s.x
def stE (c : Cfg) (core : Int) (k : CaS) (s : CStep) : Int := if s.d = 0 then caAskE c k s.a s.b else if s.d = 1 then caEvE c k s.a s.b else if s.d = 2 then caTakeE c core k s.m else if s.d = 3 then 0 else caDoE c k s.x
def stK (c : Cfg) (core : Int) (k : CaS) (s : CStep) : CaS := if s.d = 0 then caAskK c k s.a s.b else if s.d = 1 then caEvK c k s.a s.b else if s.d = 2 then caTakeK c core k s.m else if s.d = 3 then caFinK c k else caDoK c k s.x
theorem step_inv {c : Cfg} {n : Nat} {core : Int} {k : CaS} {s : CStep} (h : CaInv c n k) : CaInv c (n + 1) (stK c core k s) := by
  have h' : CaInv c (n + 1) k := caInv_mono (by omega) h
  unfold stK
  split
  · exact ask_inv h'
  · split
    · exact ev_inv h'
    · split
      · exact take_inv h
      · split
        · exact fin_inv h'
        · exact do_inv h'
/-- Behind steps. -/
def stKs (c : Cfg) (core : Int) (k : CaS) (l : List CStep) : CaS := l.foldl (stK c core) k
theorem stKs_succ {c : Cfg} {core : Int} {k : CaS} {l : List CStep} {i : Nat} (hi : i < l.length) : stKs c core k (l.take (i + 1)) = stK c core (stKs c core k (l.take i)) l[i] := by
  unfold stKs
  rw [List.take_succ_eq_append_getElem hi, List.foldl_append]; rfl
theorem stKs_inv {c : Cfg} {core : Int} {k : CaS} {l : List CStep} (h : CaInv c 0 k) : ∀ i, i ≤ l.length → CaInv c i (stKs c core k (l.take i)) := by
  intro i
  induction i with
  | zero => intro _; rw [List.take_zero]; exact h
  | succ i ih =>
    intro hi
    rw [stKs_succ (show i < l.length by omega)]
    exact step_inv (ih (by omega))
theorem ca_pre {c : Cfg} {n : Nat} {k : CaS} (h : CaInv c n k) (hn : n ≤ 1000000) : (∀ m ∈ k.mis, -9223372036854775808 ≤ m.got ∧ m.got ≤ 9223372036854775806) ∧ (∀ m ∈ k.mis, MisOk m ∧ m.got ≤ 9223372036854775806) ∧ (∀ m ∈ k.mis, okLine c m.line = true) ∧ (∀ x ∈ k.ways, 0 ≤ x.st) :=
  ⟨fun m hm => by obtain ⟨_, ⟨_, _, h1, _⟩, h2⟩ := h.2.2 m hm; omega, fun m hm => by obtain ⟨_, h1, h2⟩ := h.2.2 m hm; exact ⟨h1, by omega⟩, fun m hm => (h.2.2 m hm).1, fun x hx => (h.2.1 x hx).1⟩
end Go.Sx

/- Steps of the laws of caches, read. My own work. -/
namespace Go.Sx
open Go Go.Proofs Go.ChangeShapes Go.WideShapes
set_option linter.unusedVariables false
section
variable {H : Type} (enc : TypeId × Value → H) (P : Program) (W : World)
theorem rd_CStep {cs : List Value} (h : LeafsOk enc P W (List.replicate 21 (.int .i64)) cs) : ∃ x : CStep, x.wf ∧ cs = csc x ∧ (csc x).all one = true := by
  obtain ⟨l, h1, h2, rfl⟩ := leafs_ints enc P W _ _ h
  match l, h1 with
  | [d, a, b, b0, b1, b2, b3, b4, b5, b6, a0, a1, a2, a3, a4, a5, a6, a7, k, x, v], _ =>
    exact ⟨⟨d, a, b, ⟨b0, b1, b2, b3, b4, b5, b6, ⟨a0, a1, a2, a3, a4, a5, a6, a7⟩⟩, ⟨k, x, v⟩⟩, ⟨h2 _ (by simp), h2 _ (by simp), h2 _ (by simp), ⟨h2 _ (by simp), h2 _ (by simp), h2 _ (by simp), h2 _ (by simp), h2 _ (by simp), h2 _ (by simp), h2 _ (by simp), fun y hy => h2 y (by
      simp only [Words.list, List.mem_cons, List.not_mem_nil, or_false] at hy
      rcases hy with g | g | g | g | g | g | g | g <;> (subst g; simp))⟩, ⟨h2 _ (by simp), h2 _ (by simp), h2 _ (by simp)⟩⟩, rfl, rfl⟩
end
end Go.Sx
