/- CaPl, CaInv, Vw, CaInv2, CaLetP: several of my texts as one. My own work. -/
import Derived.Test.YtlaohgngdaglmaaGreatZCacheLocksaf
import Derived.Test.YtlaohgngdaglmaaGreatZCacheLocksag
import Derived.Test.YtlaohgngdaglmaaGreatZCacheLocksah
/- Caches told of lists: what is so of them, plain. My own work. -/
namespace Go.Sx
open Go Go.Proofs
set_option linter.unusedVariables false
set_option linter.unusedSimpArgs false
theorem WT_ent' {P : Program} {N : Nat} {st : St} {ops : Array Oper} {LS L L' : List HP} {pl : Plan} {env : Env} {Q : Exit → Act → World → Prop} (e : Ent L L') (h : WT st P N ops LS pl env L' Q) : WT st P N ops LS pl env L Q := fun a w ha hw => h a w ha (e.sat hw)
/-- Where a line was laid. -/
theorem lay_at {c : Cfg} {l : List Way} {line : Int} {i : Nat} (hI : ArrInv c l) (hi : arrFree c l line = i) (hno : findB c l line = false) :
    ∃ h : arrF c line + i < l.length, layE c l line i = 0 ∧ layL c l line i = l.set (arrF c line + i) ⟨0, line, .zero, true⟩ ∧ arrP c (layL c l line i) line = i ∧ findW c (layL c l line i) line = ⟨0, line, .zero, true⟩ := by
  have hn : arrP c l line = -1 := by
    have := arrP_lt c l line
    simp [findB] at hno; omega
  obtain ⟨j, hj, e, h1, h2⟩ := indexBy_nat (show 0 ≤ indexBy (fun w => !thereB w) (waysOf c l line) by unfold arrFree at hi; omega)
  have hji : j = i := by unfold arrFree at hi; omega
  subst hji
  have hok : okLine c line = true := by
    cases h : okLine c line with
    | true => rfl
    | false => rw [waysOf_no h] at hj; simp at hj
  obtain ⟨hb, eg⟩ := ways_get hok hj
  have hlw : j < c.ways.toNat := by rw [waysOf_ok hok, List.length_take] at hj; omega
  have h3 : thereB ((waysOf c l line).getD j .zero) = false := by rw [← getD_at hj]; simpa using h1
  have e1 : layE c l line j = 0 := by
    unfold layE
    rw [if_pos ⟨by omega, by omega⟩, if_pos hn, Int.toNat_natCast, h3]; rfl
  have e2 : layL c l line j = l.set (arrF c line + j) ⟨0, line, .zero, true⟩ := by unfold layL; rw [if_pos e1, Int.toNat_natCast]
  have hI2 : ArrInv c (layL c l line j) := layL_inv hI
  have hb2 : arrF c line + j < (layL c l line j).length := by rw [layL_len]; exact hb
  have e3 : (layL c l line j)[arrF c line + j] = ⟨0, line, .zero, true⟩ := by simp only [e2]; rw [List.getElem_set_self]
  have h4 := find_at (line := line) hI2 hb2 (by rw [e3]; simp [pHas, thereB])
  have e4 : arrP c (layL c l line j) line = j := by rw [h4.2]; omega
  exact ⟨hb, e1, e2, e4, by rw [findW_at e4 hb2, e3]⟩
theorem lay_lock {c : Cfg} {l : List Way} {line : Int} (hI : ArrInv c l) (hf : ¬ arrFree c l line < 0) (hno : findB c l line = false) : lockL c (layL c l line (arrFree c l line)) line true = layL c l line (arrFree c l line) := by
  obtain ⟨i, hi⟩ : ∃ i : Nat, arrFree c l line = i := ⟨(arrFree c l line).toNat, by omega⟩
  obtain ⟨hb, _, e2, e3, e4⟩ := lay_at hI hi hno
  rw [hi]
  unfold lockL
  have e5 : lockE c (layL c l line i) line = 0 := by unfold lockE; rw [e3, if_neg (by omega)]
  rw [if_pos e5, e3, e4, Int.toNat_natCast, e2, List.set_set]
theorem can_ref {c : Cfg} {k : CaS} {line kind : Int} (hk : kind = 1 ∨ kind = 2) : caCan c k line kind = decide (kind = 1 ∧ (findW c k.ways line).st ≠ 0 ∨ kind = 2 ∧ ((findW c k.ways line).st = 2 ∨ (findW c k.ways line).st = 4)) := by
  unfold caCan
  rcases hk with h | h
  · subst h; rw [if_pos rfl]; apply decide_eq_decide.2; omega
  · subst h; rw [if_neg (by omega)]; apply decide_eq_decide.2; omega
theorem ok_tmod {c : Cfg} {line : Int} (h : okLine c line = true) : line.tmod c.homes = lineH c line := by
  have h0 := (line_big h).2.1
  unfold lineH; rw [if_pos h, tmod_nn h0]
theorem homes_pos {c : Cfg} (h : checkB c = true) : 1 ≤ c.homes ∧ c.homes ≤ 16 := by
  obtain ⟨_, ⟨k, hk, e⟩, _⟩ := check_facts h
  have := pow_bd hk
  rw [e]; exact ⟨this.1, by have := this.2; simpa using this⟩
theorem set_all {α : Type} {P : α → Prop} {l : List α} {i : Nat} {x : α} (h : ∀ m ∈ l, P m) (hx : P x) : ∀ m ∈ l.set i x, P m := fun m hm => by
  rcases List.mem_or_eq_of_mem_set hm with g | g
  · exact h m g
  · rw [g]; exact hx
theorem misAt_all {P : Miss → Prop} {l : List Miss} {line : Int} (h : ∀ m ∈ l, P m) (hz : P .zero) : P (misAt l line) := by
  unfold misAt
  by_cases g : (misP l line).toNat < l.length
  · rw [← getD_at g]; exact h _ (List.getElem_mem g)
  · rw [List.getD_eq_getElem?_getD, List.getElem?_eq_none (by omega)]; exact hz
theorem data_got {l : List Miss} {line acks own : Int} {w : Words} (h : ∀ m ∈ l, 0 ≤ m.got) : ∀ m ∈ dataL l line acks own w, 0 ≤ m.got := by
  unfold dataL
  split
  · exact set_all h (misAt_all (P := fun m => 0 ≤ m.got) h (by decide))
  · exact h
theorem grant_got {l : List Miss} {line acks : Int} (h : ∀ m ∈ l, 0 ≤ m.got) : ∀ m ∈ grantL l line acks, 0 ≤ m.got := by
  unfold grantL
  split
  · exact set_all h (misAt_all (P := fun m => 0 ≤ m.got) h (by decide))
  · exact h
theorem ack_got {l : List Miss} {line : Int} (h : ∀ m ∈ l, 0 ≤ m.got) : ∀ m ∈ ackL l line, 0 ≤ m.got := by
  unfold ackL
  split
  · exact set_all h (by have := misAt_all (P := fun m => 0 ≤ m.got) (line := line) h (by decide); dsimp only; omega)
  · exact h
end Go.Sx

/- Caches told of lists: what stays so, whatever is asked, evicted, taken and done. My own work. -/
namespace Go.Sx
open Go Go.Proofs
set_option linter.unusedVariables false
set_option linter.unusedSimpArgs false
/-- What is so of a way, and of a miss behind n steps. -/
def StOk (x : Way) : Prop := 0 ≤ x.st ∧ x.st ≤ 4
def MsOk (c : Cfg) (n : Nat) (m : Miss) : Prop := okLine c m.line = true ∧ MisOk m ∧ m.got ≤ n
def CaInv (c : Cfg) (n : Nat) (k : CaS) : Prop := ArrInv c k.ways ∧ (∀ x ∈ k.ways, StOk x) ∧ (∀ m ∈ k.mis, MsOk c n m)
theorem ms_mono {c : Cfg} {n n' : Nat} {m : Miss} (hn : n ≤ n') (h : MsOk c n m) : MsOk c n' m := ⟨h.1, h.2.1, by have := h.2.2; omega⟩
theorem caInv_mono {c : Cfg} {n n' : Nat} {k : CaS} (hn : n ≤ n') (h : CaInv c n k) : CaInv c n' k := ⟨h.1, h.2.1, fun m hm => ms_mono hn (h.2.2 m hm)⟩
theorem caInv_new (c : Cfg) (n : Nat) (w : Nat) : CaInv c n ⟨List.replicate w .zero, [], []⟩ :=
  ⟨arr_inv_no c w, fun x hx => by rw [(List.mem_replicate.1 hx).2]; exact ⟨by decide, by decide⟩, fun m hm => by cases hm⟩
theorem findW_all {P : Way → Prop} {c : Cfg} {l : List Way} {line : Int} (h : ∀ x ∈ l, P x) (hz : P .zero) : P (findW c l line) := by
  by_cases g : arrP c l line < 0
  · unfold findW; rw [if_pos g]; exact hz
  · obtain ⟨i, hi⟩ : ∃ i : Nat, arrP c l line = i := ⟨(arrP c l line).toNat, by omega⟩
    obtain ⟨h2, _⟩ := arrP_at hi
    rw [findW_at hi h2]
    exact h _ (List.getElem_mem h2)
theorem st_zero : StOk .zero := ⟨by decide, by decide⟩
theorem lay_st {c : Cfg} {l : List Way} {line way : Int} (h : ∀ x ∈ l, StOk x) : ∀ x ∈ layL c l line way, StOk x := by
  unfold layL
  split
  · exact set_all h st_zero
  · exact h
theorem lock_st {c : Cfg} {l : List Way} {line : Int} {lk : Bool} (h : ∀ x ∈ l, StOk x) : ∀ x ∈ lockL c l line lk, StOk x := by
  unfold lockL
  split
  · exact set_all h (findW_all (P := StOk) h st_zero)
  · exact h
theorem set_st {c : Cfg} {l : List Way} {line st : Int} {w : Words} (h : ∀ x ∈ l, StOk x) : ∀ x ∈ setL c l line st w, StOk x := by
  unfold setL
  split
  · rename_i h0
    refine set_all h ?_
    unfold setE at h0
    split at h0
    · cases h0
    · split at h0
      · cases h0
      · rename_i h1 h2
        unfold StOk; dsimp only; omega
  · exact h
theorem misIn_mem {l : List Miss} {line : Int} (h : misIn l line = true) : misAt l line ∈ l ∧ (misAt l line).line = line := by
  obtain ⟨i, hi, _, e, el⟩ := misIn_t h
  rw [e]; exact ⟨List.getElem_mem hi, el⟩
theorem open_ms {c : Cfg} {n : Nat} {room line kind : Int} {l : List Miss} (hl : okLine c line = true) (h : ∀ m ∈ l, MsOk c n m) : ∀ m ∈ openL room l line kind, MsOk c n m := by
  unfold openL
  split
  · rename_i h0
    intro m hm
    rcases List.mem_append.1 hm with g | g
    · exact h m g
    · simp only [List.mem_singleton] at g
      subst g
      have hk : kind = 1 ∨ kind = 2 := by
        unfold openE at h0
        split at h0
        · cases h0
        · omega
      exact ⟨hl, ⟨hk, by dsimp only; omega, by dsimp only; omega, fun g => by dsimp only at g; omega⟩, by dsimp only; omega⟩
  · exact h
theorem dataE_in {l : List Miss} {line acks own : Int} (h : dataE l line acks own = 0) : misIn l line = true ∧ fitsM (misAt l line) acks own = true := by
  unfold dataE at h
  split at h
  · rename_i h1
    split at h
    · rename_i h2; exact ⟨h1, h2⟩
    · cases h
  · cases h
theorem fits_needs {m : Miss} {acks own : Int} (h : fitsM m acks own = true) : m.needs = -1 ∧ m.got ≤ acks := by
  unfold fitsM at h
  rw [Bool.and_eq_true, decide_eq_true_eq] at h
  exact h.1
theorem data_ms {c : Cfg} {n : Nat} {l : List Miss} {line acks own : Int} {w : Words} (h : ∀ m ∈ l, MsOk c n m) : ∀ m ∈ dataL l line acks own w, MsOk c n m := by
  unfold dataL
  split
  · rename_i h0
    obtain ⟨h1, h2⟩ := dataE_in h0
    obtain ⟨g1, g2⟩ := fits_needs h2
    obtain ⟨a1, a2, a3⟩ := h _ (misIn_mem h1).1
    obtain ⟨b1, b2, b3, b4⟩ := a2
    exact set_all h ⟨a1, ⟨b1, by dsimp only; omega, b3, fun _ => by dsimp only; omega⟩, a3⟩
  · exact h
theorem grant_ms {c : Cfg} {n : Nat} {l : List Miss} {line acks : Int} (h : ∀ m ∈ l, MsOk c n m) : ∀ m ∈ grantL l line acks, MsOk c n m := by
  unfold grantL
  split
  · rename_i h0
    obtain ⟨h1, h2⟩ := dataE_in h0
    obtain ⟨g1, g2⟩ := fits_needs h2
    obtain ⟨a1, a2, a3⟩ := h _ (misIn_mem h1).1
    obtain ⟨b1, b2, b3, b4⟩ := a2
    exact set_all h ⟨a1, ⟨b1, by dsimp only; omega, b3, fun _ => by dsimp only; omega⟩, a3⟩
  · exact h
theorem ackE_in {l : List Miss} {line : Int} (h : ackE l line = 0) : misIn l line = true ∧ (misAt l line).kind ≠ 1 ∧ (misAt l line).needs ≠ (misAt l line).got := by
  unfold ackE at h
  split at h
  · rename_i h1
    split at h
    · cases h
    · rename_i h2; exact ⟨h1, fun g => h2 (.inl g), fun g => h2 (.inr g)⟩
  · cases h
theorem ack_ms {c : Cfg} {n : Nat} {l : List Miss} {line : Int} (h : ∀ m ∈ l, MsOk c n m) : ∀ m ∈ ackL l line, MsOk c (n + 1) m := by
  unfold ackL
  split
  · rename_i h0
    obtain ⟨h1, h2, h3⟩ := ackE_in h0
    obtain ⟨a1, a2, a3⟩ := h _ (misIn_mem h1).1
    obtain ⟨b1, b2, b3, b4⟩ := a2
    exact set_all (fun m hm => ms_mono (by omega) (h m hm)) ⟨a1, ⟨b1, b2, by dsimp only; omega, fun g => by have := b4 g; dsimp only at g ⊢; omega⟩, by dsimp only; omega⟩
  · exact fun m hm => ms_mono (by omega) (h m hm)
theorem owe_ms {c : Cfg} {n : Nat} {l : List Miss} {line : Int} (h : ∀ m ∈ l, MsOk c n m) : ∀ m ∈ oweL l line, MsOk c n m := by
  unfold oweL
  split
  · rename_i h0
    have h1 : misIn l line = true := by
      unfold oweB at h0; simp only [Bool.and_eq_true] at h0; exact h0.1.1
    obtain ⟨a1, a2, a3⟩ := h _ (misIn_mem h1).1
    exact set_all h ⟨a1, a2, a3⟩
  · exact h
theorem close_ms {c : Cfg} {n : Nat} {l : List Miss} {line : Int} (h : ∀ m ∈ l, MsOk c n m) : ∀ m ∈ closeL l line, MsOk c n m := by
  unfold closeL
  split
  · exact fun m hm => h m (List.mem_of_mem_eraseIdx hm)
  · exact h
theorem fill_inv {c : Cfg} {n : Nat} {k : CaS} {line : Int} (h : CaInv c n k) : CaInv c n (caFill c k line) := by
  unfold caFill
  split
  · exact ⟨setL_inv h.1, set_st h.2.1, owe_ms h.2.2⟩
  · exact h
theorem ask_ok {c : Cfg} {k : CaS} {line kind : Int} (h : caAskE c k line kind = 0) : okLine c line = true := by
  unfold caAskE at h
  split at h
  · cases h
  · rename_i h1
    cases g : okLine c line with
    | true => rfl
    | false => exact absurd (.inl g) h1
theorem ask_inv {c : Cfg} {n : Nat} {k : CaS} {line kind : Int} (h : CaInv c n k) : CaInv c n (caAskK c k line kind) := by
  unfold caAskK
  split
  · rename_i h0
    refine ⟨?_, ?_, open_ms (ask_ok h0) h.2.2⟩
    · dsimp only; split
      · exact lockL_inv h.1
      · exact layL_inv h.1
    · dsimp only; split
      · exact lock_st h.2.1
      · exact lay_st h.2.1
  · exact h
theorem ev_inv {c : Cfg} {n : Nat} {k : CaS} {s w : Int} (h : CaInv c n k) : CaInv c n (caEvK c k s w) := by
  unfold caEvK
  split
  · exact ⟨setL_inv h.1, set_st h.2.1, h.2.2⟩
  · exact h
theorem tell_inv {c : Cfg} {n : Nat} {k : CaS} {line st : Int} {g : Bool} (h : CaInv c n k) : CaInv c n (caTellK c k line st g) := by
  unfold caTellK
  split
  · exact ⟨setL_inv h.1, set_st h.2.1, h.2.2⟩
  · split
    · exact ⟨h.1, h.2.1, h.2.2⟩
    · exact h
theorem take_inv {c : Cfg} {n : Nat} {core : Int} {k : CaS} {m : Msg} (h : CaInv c n k) : CaInv c (n + 1) (caTakeK c core k m) := by
  have h' : CaInv c (n + 1) k := caInv_mono (by omega) h
  unfold caTakeK
  split
  · split
    · exact tell_inv h'
    · split
      · exact tell_inv h'
      · split
        · split
          · unfold caInvK
            split
            · exact ⟨setL_inv h'.1, set_st h'.2.1, h'.2.2⟩
            · exact h'
          · exact h'
        · split
          · unfold caDataK
            split
            · exact fill_inv ⟨h'.1, h'.2.1, data_ms h'.2.2⟩
            · exact h'
          · split
            · unfold caGrK
              split
              · exact fill_inv ⟨h'.1, h'.2.1, grant_ms h'.2.2⟩
              · exact h'
            · split
              · unfold caAckK
                split
                · exact fill_inv ⟨h'.1, h'.2.1, ack_ms h.2.2⟩
                · exact h'
              · exact ⟨h'.1, h'.2.1, h'.2.2⟩
  · exact h'
theorem fin_inv {c : Cfg} {n : Nat} {k : CaS} (h : CaInv c n k) : CaInv c n (caFinK c k) := by
  unfold caFinK
  split
  · exact ⟨lockL_inv h.1, lock_st h.2.1, close_ms h.2.2⟩
  · exact h
theorem do_inv {c : Cfg} {n : Nat} {k : CaS} {x : Op3} (h : CaInv c n k) : CaInv c n (caDoK c k x) := by
  unfold caDoK
  split
  · exact ⟨setL_inv h.1, set_st h.2.1, h.2.2⟩
  · exact h
/-! ## Steps -/
/-- A step of a law of caches. -/
structure CStep where
  d : Int
  a : Int
  b : Int
  m : Msg
  x : Op3
abbrev csc (s : CStep) : List Value := [.int .i64 s.d, .int .i64 s.a, .int .i64 s.b, .int .i64 s.m.kind, .int .i64 s.m.line, .int .i64 s.m.src, .int .i64 s.m.dst, .int .i64 s.m.who, .int .i64 s.m.acks, .int .i64 s.m.own, .int .i64 s.m.words.w0, .int .i64 s.m.words.w1, .int .i64 s.m.words.w2, .int .i64 s.m.words.w3, .int .i64 s.m.words.w4, .int .i64 s.m.words.w5, .int .i64 s.m.words.w6, .int .i64 s.m.words.w7, .int .i64 s.x.kind, .int .i64 s.x.addr, .int .i64 s.x.value]
abbrev csv (s : CStep) : Value := .agg (csc s).toArray
def CStep.wf (s : CStep) : Prop := I64 s.d ∧ I64 s.a ∧ I64 s.b ∧ s.m.wf ∧ s.x.wf
abbrev rpc (m : Msg) (i : Bool) (n e : Int) : List Value := [.int .i64 m.kind, .int .i64 m.line, .int .i64 m.src, .int .i64 m.dst, .int .i64 m.who, .int .i64 m.acks, .int .i64 m.own, .int .i64 m.words.w0, .int .i64 m.words.w1, .int .i64 m.words.w2, .int .i64 m.words.w3, .int .i64 m.words.w4, .int .i64 m.words.w5, .int .i64 m.words.w6, .int .i64 m.words.w7, .bool i, .int .i64 n, .int .i64 e]
abbrev rpv (m : Msg) (i : Bool) (n e : Int) : Value := .agg (rpc m i n e).toArray
def stM (c : Cfg) (core : Int) (k : CaS) (s : CStep) : Msg := if s.d = 0 then caAskM c core k s.a s.b else if s.d = 1 then caEvM c core k s.a s.b else if s.d = 2 then caTakeM c core k s.m else if s.d = 3 then caFinM c core k else .zero
def stB (c : Cfg) (core : Int) (k : CaS) (s : CStep) : Bool := if s.d = 0 then false else if s.d = 1 then caEvB c k s.a s.b else if s.d = 2 then caTakeB c core k s.m else if s.d = 3 then caFinB k else false
def stN (c : Cfg) (k : CaS) (s : CStep) : Int := if s.d = 0 ∨ s.d = 1 ∨ s.d = 2 ∨ s.d = 3 then 0 else caDoV c k s.x
def stE (c : Cfg) (core : Int) (k : CaS) (s : CStep) : Int := if s.d = 0 then caAskE c k s.a s.b else if s.d = 1 then caEvE c k s.a s.b else if s.d = 2 then caTakeE c core k s.m else if s.d = 3 then 0 else caDoE c k s.x
def stK (c : Cfg) (core : Int) (k : CaS) (s : CStep) : CaS := if s.d = 0 then caAskK c k s.a s.b else if s.d = 1 then caEvK c k s.a s.b else if s.d = 2 then caTakeK c core k s.m else if s.d = 3 then caFinK c k else caDoK c k s.x
theorem step_inv {c : Cfg} {n : Nat} {core : Int} {k : CaS} {s : CStep} (h : CaInv c n k) : CaInv c (n + 1) (stK c core k s) := by
  have h' : CaInv c (n + 1) k := caInv_mono (by omega) h
  unfold stK
  split
  · exact ask_inv h'
  · split
    · exact ev_inv h'
    · split
      · exact take_inv h
      · split
        · exact fin_inv h'
        · exact do_inv h'
/-- Behind steps. -/
def stKs (c : Cfg) (core : Int) (k : CaS) (l : List CStep) : CaS := l.foldl (stK c core) k
theorem stKs_succ {c : Cfg} {core : Int} {k : CaS} {l : List CStep} {i : Nat} (hi : i < l.length) : stKs c core k (l.take (i + 1)) = stK c core (stKs c core k (l.take i)) l[i] := by
  unfold stKs
  rw [List.take_succ_eq_append_getElem hi, List.foldl_append]; rfl
theorem stKs_inv {c : Cfg} {core : Int} {k : CaS} {l : List CStep} (h : CaInv c 0 k) : ∀ i, i ≤ l.length → CaInv c i (stKs c core k (l.take i)) := by
  intro i
  induction i with
  | zero => intro _; rw [List.take_zero]; exact h
  | succ i ih =>
    intro hi
    rw [stKs_succ (show i < l.length by omega)]
    exact step_inv (ih (by omega))
theorem ca_pre {c : Cfg} {n : Nat} {k : CaS} (h : CaInv c n k) (hn : n ≤ 1000000) : (∀ m ∈ k.mis, -9223372036854775808 ≤ m.got ∧ m.got ≤ 9223372036854775806) ∧ (∀ m ∈ k.mis, MisOk m ∧ m.got ≤ 9223372036854775806) ∧ (∀ m ∈ k.mis, okLine c m.line = true) ∧ (∀ x ∈ k.ways, 0 ≤ x.st) :=
  ⟨fun m hm => by obtain ⟨_, ⟨_, _, h1, _⟩, h2⟩ := h.2.2 m hm; omega, fun m hm => by obtain ⟨_, h1, h2⟩ := h.2.2 m hm; exact ⟨h1, by omega⟩, fun m hm => (h.2.2 m hm).1, fun x hx => (h.2.1 x hx).1⟩
end Go.Sx

/- An array of ways, seen line by line. My own work. -/
namespace Go.Sx
open Go Go.Proofs
set_option linter.unusedVariables false
set_option linter.unusedSimpArgs false
/-- The way that has a line. -/
def vw (c : Cfg) (l : List Way) (line : Int) : Option Way := if arrP c l line < 0 then none else some (findW c l line)
theorem vw_none {c : Cfg} {l : List Way} {line : Int} (h : arrP c l line = -1) : vw c l line = none := by unfold vw; rw [h]; rfl
theorem vw_at {c : Cfg} {l : List Way} {line : Int} {i : Nat} (h : arrP c l line = i) : vw c l line = some (findW c l line) := by unfold vw; rw [if_neg (by omega)]
theorem arrP_or {c : Cfg} {l : List Way} {line : Int} : arrP c l line = -1 ∨ ∃ i : Nat, arrP c l line = i := by
  have := arrP_lt c l line
  by_cases h : arrP c l line = -1
  · exact .inl h
  · exact .inr ⟨(arrP c l line).toNat, by omega⟩
theorem vw_findB {c : Cfg} {l : List Way} {line : Int} : findB c l line = (vw c l line).isSome := by
  rcases arrP_or (c := c) (l := l) (line := line) with h | ⟨i, h⟩
  · rw [(find_isnt h).1, vw_none h]; rfl
  · rw [(find_is h).1, vw_at h]; rfl
theorem vw_findW {c : Cfg} {l : List Way} {line : Int} : findW c l line = (vw c l line).getD .zero := by
  rcases arrP_or (c := c) (l := l) (line := line) with h | ⟨i, h⟩
  · rw [(find_isnt h).2.2, vw_none h]; rfl
  · rw [vw_at h]; rfl
theorem vw_some {c : Cfg} {l : List Way} {line : Int} {w : Way} (h : vw c l line = some w) : w.line = line ∧ thereB w = true ∧ w ∈ l ∧ okLine c line = true ∧ findW c l line = w := by
  rcases arrP_or (c := c) (l := l) (line := line) with g | ⟨i, g⟩
  · rw [vw_none g] at h; cases h
  · rw [vw_at g] at h
    cases h
    obtain ⟨b1, b2, b3, _⟩ := arrP_at g
    have e := findW_at g b1
    exact ⟨find_line g, by rw [e]; exact (pHas_iff.1 b3).1, by rw [e]; exact List.getElem_mem b1, b2, rfl⟩
theorem vw_mem {c : Cfg} {l : List Way} {w : Way} (hI : ArrInv c l) (hw : w ∈ l) (ht : thereB w = true) : vw c l w.line = some w := by
  obtain ⟨i, hi, rfl⟩ := List.getElem_of_mem hw
  obtain ⟨h1, h2⟩ := find_at (line := l[i].line) hI hi (by simp [pHas, ht])
  rw [vw_at h2, findW_at h2 (by omega)]
  congr 2; omega
theorem setE_vw {c : Cfg} {l : List Way} {line st : Int} {w : Words} : setE c l line st w = if (vw c l line).isNone then 5 else if st < 0 ∨ st > 4 ∨ oddW c w = true then 1 else 0 := by
  unfold setE
  rcases arrP_or (c := c) (l := l) (line := line) with h | ⟨i, h⟩
  · rw [vw_none h, if_pos h]; rfl
  · rw [vw_at h, if_neg (by omega)]; rfl
theorem vw_set {c : Cfg} {l : List Way} {line st : Int} {w : Words} (hI : ArrInv c l) (x : Int) : vw c (setL c l line st w) x =
    if x = line ∧ setE c l line st w = 0 then (match vw c l line with | some y => if y.lk = true ∨ st ≠ 0 then some ⟨st, line, if st = 0 then .zero else w, y.lk⟩ else none | none => none) else vw c l x := by
  by_cases hx : x = line
  · subst hx
    by_cases he : setE c l x st w = 0
    · rw [if_pos ⟨rfl, he⟩]
      obtain ⟨h1, h2, h3⟩ := set_self hI he
      have e := vw_findB (c := c) (l := l) (line := x)
      rw [h1] at e
      cases hv : vw c l x with
      | none => rw [hv] at e; cases e
      | some y =>
        have hy := (vw_some hv).2.2.2.2
        rw [hy] at h2 h3
        dsimp only
        by_cases hlk : y.lk = true ∨ st ≠ 0
        · rw [if_pos hlk]
          obtain ⟨g1, _, g3⟩ := h2 hlk
          have e2 := vw_findB (c := c) (l := setL c l x st w) (line := x)
          rw [g1] at e2
          cases hv2 : vw c (setL c l x st w) x with
          | none => rw [hv2] at e2; cases e2
          | some z => rw [← g3, (vw_some hv2).2.2.2.2]
        · rw [if_neg hlk]
          obtain ⟨g1, _, _⟩ := h3 ⟨by cases hl : y.lk with | false => rfl | true => exact absurd (.inl hl) hlk, Decidable.byContradiction fun g => hlk (.inr g)⟩
          have e2 := vw_findB (c := c) (l := setL c l x st w) (line := x)
          rw [g1] at e2
          cases hv2 : vw c (setL c l x st w) x with
          | none => rfl
          | some z => rw [hv2] at e2; cases e2
    · rw [if_neg (fun h => he h.2)]
      have : setL c l x st w = l := if_neg he
      rw [this]
  · rw [if_neg (fun h => hx h.1)]
    obtain ⟨h1, h2⟩ := set_other (st := st) (w := w) hI (Ne.symm hx)
    unfold vw; rw [h1, h2]
theorem vw_lock {c : Cfg} {l : List Way} {line : Int} {lk : Bool} (hI : ArrInv c l) (x : Int) : vw c (lockL c l line lk) x =
    if x = line then (match vw c l line with | some y => if lk = true ∨ y.st ≠ 0 then some ⟨y.st, line, y.words, lk⟩ else none | none => none) else vw c l x := by
  by_cases hx : x = line
  · subst hx
    rw [if_pos rfl]
    rcases arrP_or (c := c) (l := l) (line := x) with h | ⟨i, h⟩
    · have : lockL c l x lk = l := by unfold lockL lockE; rw [if_pos h]; rfl
      rw [this, vw_none h]
    · have hl := find_line h
      have he : lockE c l x = 0 := if_neg (by omega)
      have e1 : lockL c l x lk = l.set (arrF c x + i) { findW c l x with lk := lk } := by unfold lockL; rw [if_pos he, h, Int.toNat_natCast]
      obtain ⟨t1, t2⟩ := turn_self (w := { findW c l x with lk := lk }) hI h hl
      rw [e1, vw_at h]
      dsimp only
      by_cases hc : lk = true ∨ (findW c l x).st ≠ 0
      · rw [if_pos hc]
        have ht : thereB { findW c l x with lk := lk } = true := by
          unfold thereB; dsimp only
          rcases hc with g | g
          · rw [g]; simp
          · simp [g]
        obtain ⟨g1, g2⟩ := t1 ht
        rw [vw_at g1, g2]
        simp only [hl]
      · rw [if_neg hc]
        have ht : thereB { findW c l x with lk := lk } = false := by
          unfold thereB; dsimp only
          cases lk with
          | true => exact absurd (.inl rfl) hc
          | false => simp; exact Decidable.byContradiction fun g => hc (.inr g)
        exact vw_none (t2 ht)
  · rw [if_neg hx]
    obtain ⟨h1, h2⟩ := lock_other (lk := lk) hI (Ne.symm hx)
    unfold vw; rw [h1, h2]
theorem vw_lay {c : Cfg} {l : List Way} {line : Int} (hI : ArrInv c l) (hf : ¬ arrFree c l line < 0) (hno : vw c l line = none) (x : Int) : vw c (layL c l line (arrFree c l line)) x = if x = line then some ⟨0, line, .zero, true⟩ else vw c l x := by
  by_cases hx : x = line
  · subst hx
    rw [if_pos rfl]
    obtain ⟨i, hi⟩ : ∃ i : Nat, arrFree c l x = i := ⟨(arrFree c l x).toNat, by omega⟩
    obtain ⟨_, _, _, h4, h5⟩ := lay_at hI hi (by rw [vw_findB, hno]; rfl)
    rw [hi, vw_at h4, h5]
  · rw [if_neg hx]
    obtain ⟨h1, h2⟩ := lay_other (way := arrFree c l line) hI (Ne.symm hx)
    unfold vw; rw [h1, h2]
end Go.Sx

/- Caches told of lists: locks, misses and what was evicted. My own work. -/
namespace Go.Sx
open Go Go.Proofs
set_option linter.unusedVariables false
set_option linter.unusedSimpArgs false
def misLs (k : CaS) : List Int := k.mis.map (·.line)
def bufLs (k : CaS) : List Int := k.buf.map (·.line)
structure CaI2 (c : Cfg) (ways : List Way) (M B : List Int) : Prop where
  wd : ∀ x w, vw c ways x = some w → oddW c w.words = false ∧ (w.st = 0 → w.words = .zero)
  ml : ∀ x ∈ M, ∃ w, vw c ways x = some w ∧ w.lk = true
  lm : ∀ x w, vw c ways x = some w → w.lk = true → x ∈ M
  bn : ∀ x ∈ B, vw c ways x = none
  nd : M.Nodup
  bd : B.Nodup
theorem odd_zero (c : Cfg) : oddW c .zero = false := by
  unfold oddW
  rw [indexBy_none]
  · decide
  · intro j hj _
    have : (Words.zero.list.drop c.words.toNat)[j] = 0 := by
      have hm : (Words.zero.list.drop c.words.toNat)[j] ∈ Words.zero.list := List.mem_of_mem_drop (List.getElem_mem hj)
      have hz : ∀ y ∈ Words.zero.list, y = 0 := by decide
      exact hz _ hm
    rw [this]; rfl
theorem setE_ok {c : Cfg} {l : List Way} {line st : Int} {w : Words} (h : setE c l line st w = 0) : (∃ y, vw c l line = some y) ∧ 0 ≤ st ∧ st ≤ 4 ∧ oddW c w = false := by
  rw [setE_vw] at h
  cases hv : vw c l line with
  | none => rw [hv] at h; cases h
  | some y =>
    rw [hv] at h
    simp only [Option.isNone_some, Bool.false_eq_true, if_false] at h
    split at h
    · cases h
    · rename_i h1
      refine ⟨⟨y, rfl⟩, by omega, by omega, ?_⟩
      cases g : oddW c w with
      | false => rfl
      | true => exact absurd (.inr (.inr g)) h1
theorem i2_set {c : Cfg} {ways : List Way} {M B : List Int} {line st : Int} {w : Words} (hI : ArrInv c ways) (h : CaI2 c ways M B) : CaI2 c (setL c ways line st w) M B := by
  have hv := vw_set (line := line) (st := st) (w := w) hI
  by_cases he : setE c ways line st w = 0
  · obtain ⟨⟨y, hy⟩, h0, h4, ho⟩ := setE_ok he
    have hl : vw c (setL c ways line st w) line = if y.lk = true ∨ st ≠ 0 then some ⟨st, line, if st = 0 then .zero else w, y.lk⟩ else none := by rw [hv, if_pos ⟨rfl, he⟩, hy]
    have hx : ∀ x, x ≠ line → vw c (setL c ways line st w) x = vw c ways x := fun x g => by rw [hv, if_neg (fun g2 => g g2.1)]
    refine ⟨fun x z hz => ?_, fun x hm => ?_, fun x z hz hk => ?_, fun x hb => ?_, h.nd, h.bd⟩
    · by_cases g : x = line
      · subst g
        rw [hl] at hz
        split at hz
        · cases hz
          dsimp only
          refine ⟨?_, fun g0 => by rw [if_pos g0]⟩
          split
          · exact odd_zero c
          · exact ho
        · cases hz
      · rw [hx x g] at hz; exact h.wd x z hz
    · by_cases g : x = line
      · subst g
        obtain ⟨z, hz, hk⟩ := h.ml x hm
        rw [hy] at hz; cases hz
        exact ⟨⟨st, x, if st = 0 then .zero else w, y.lk⟩, by rw [hl, if_pos (.inl hk)], hk⟩
      · rw [hx x g]; exact h.ml x hm
    · by_cases g : x = line
      · subst g
        rw [hl] at hz
        split at hz
        · cases hz; exact h.lm x y hy hk
        · cases hz
      · rw [hx x g] at hz; exact h.lm x z hz hk
    · by_cases g : x = line
      · subst g
        have := h.bn x hb
        rw [hy] at this; cases this
      · rw [hx x g]; exact h.bn x hb
  · have : setL c ways line st w = ways := if_neg he
    rw [this]; exact h
theorem misIn_iff {l : List Miss} {line : Int} : misIn l line = true ↔ line ∈ l.map (·.line) := by
  constructor
  · intro h
    obtain ⟨h1, h2⟩ := misIn_mem h
    exact List.mem_map.2 ⟨_, h1, h2⟩
  · intro h
    obtain ⟨m, hm, e⟩ := List.mem_map.1 h
    cases g : misIn l line with
    | true => rfl
    | false =>
      have := (indexBy_neg (of_decide_eq_false g)).2 m hm
      simp [e] at this
theorem wbIn_iff {l : List WbE} {line : Int} : wbIn l line = true ↔ line ∈ l.map (·.line) := by
  constructor
  · intro h
    obtain ⟨i, hi, _, _, e⟩ := wbIn_t h
    exact List.mem_map.2 ⟨_, List.getElem_mem hi, e⟩
  · intro h
    obtain ⟨m, hm, e⟩ := List.mem_map.1 h
    cases g : wbIn l line with
    | true => rfl
    | false =>
      have := (indexBy_neg (of_decide_eq_false g)).2 m hm
      simp [e] at this
/-- A miss is turned, and keeps its line. -/
theorem turn_ls {l : List Miss} {line : Int} {x : Miss} (h : misIn l line = true) (hx : x.line = (misAt l line).line) : (l.set (misP l line).toNat x).map (·.line) = l.map (·.line) := by
  obtain ⟨i, hi, e0, ea, el⟩ := misIn_t h
  rw [e0, Int.toNat_natCast, List.map_set, hx, ea]
  have : (l.map (·.line)).set i l[i].line = l.map (·.line) := by
    have e : l[i].line = (l.map (·.line))[i]'(by simpa using hi) := by simp
    rw [e, List.set_getElem_self]
  exact this
theorem data_ls {l : List Miss} {line acks own : Int} {w : Words} : (dataL l line acks own w).map (·.line) = l.map (·.line) := by
  unfold dataL
  split
  · rename_i h; exact turn_ls (dataE_in h).1 rfl
  · rfl
theorem grant_ls {l : List Miss} {line acks : Int} : (grantL l line acks).map (·.line) = l.map (·.line) := by
  unfold grantL
  split
  · rename_i h; exact turn_ls (dataE_in h).1 rfl
  · rfl
theorem ack_ls {l : List Miss} {line : Int} : (ackL l line).map (·.line) = l.map (·.line) := by
  unfold ackL
  split
  · rename_i h; exact turn_ls (ackE_in h).1 rfl
  · rfl
theorem owe_in {l : List Miss} {line : Int} (h : oweB l line = true) : misIn l line = true := by
  unfold oweB at h; simp only [Bool.and_eq_true] at h; exact h.1.1
theorem owe_ls {l : List Miss} {line : Int} : (oweL l line).map (·.line) = l.map (·.line) := by
  unfold oweL
  split
  · rename_i h; exact turn_ls (owe_in h) rfl
  · rfl
abbrev CaJ (c : Cfg) (k : CaS) : Prop := CaI2 c k.ways (misLs k) (bufLs k)
theorem j_fill {c : Cfg} {k : CaS} {line : Int} (hI : ArrInv c k.ways) (h : CaJ c k) : CaJ c (caFill c k line) := by
  unfold caFill
  split
  · unfold CaJ misLs bufLs
    rw [owe_ls]
    exact i2_set hI h
  · exact h
theorem j_ask {c : Cfg} {k : CaS} {line kind : Int} (hI : ArrInv c k.ways) (h : CaJ c k) : CaJ c (caAskK c k line kind) := by
  unfold caAskK
  split
  · rename_i h0
    unfold caAskE at h0
    split at h0
    · cases h0
    · rename_i hb
      split at h0
      · cases h0
      · rename_i h6
        split at h0
        · cases h0
        · rename_i h4
          split at h0
          · cases h0
          · rename_i h5
            have hm : misIn k.mis line = false := by cases g : misIn k.mis line with | false => rfl | true => exact absurd (.inl g) h6
            have hw : wbIn k.buf line = false := by cases g : wbIn k.buf line with | false => rfl | true => exact absurd (.inr (.inl g)) h6
            have hM : line ∉ misLs k := fun g => by rw [misIn_iff.2 g] at hm; cases hm
            have hB : line ∉ bufLs k := fun g => by rw [wbIn_iff.2 g] at hw; cases hw
            have hkd : ¬ (kind ≠ 1 ∧ kind ≠ 2) := fun g => hb (.inr g)
            have hop : openL c.mshrs k.mis line kind = k.mis ++ [⟨line, kind, -1, 0, 0, .zero, false, false⟩] := by
              have : openE c.mshrs k.mis line kind = 0 := by
                unfold openE
                rw [if_neg hkd, hm, if_neg Bool.false_ne_true, if_neg h4]
              unfold openL; rw [if_pos this]
            have eM : misLs ⟨if findB c k.ways line then lockL c k.ways line true else layL c k.ways line (arrFree c k.ways line), openL c.mshrs k.mis line kind, k.buf⟩ = misLs k ++ [line] := by
              unfold misLs; dsimp only; rw [hop, List.map_append]; rfl
            -- the line is locked there, with words that are fine; others are as they were
            obtain ⟨y, hy, hyk, hyo⟩ : ∃ y : Way, (∀ x, vw c (if findB c k.ways line then lockL c k.ways line true else layL c k.ways line (arrFree c k.ways line)) x = if x = line then some y else vw c k.ways x) ∧ y.lk = true ∧ (oddW c y.words = false ∧ (y.st = 0 → y.words = .zero)) := by
              cases hf : vw c k.ways line with
              | none =>
                have hfb : findB c k.ways line = false := by rw [vw_findB, hf]; rfl
                rw [hfb, if_neg Bool.false_ne_true]
                exact ⟨⟨0, line, .zero, true⟩, vw_lay hI (fun g => h5 ⟨hfb, g⟩) hf, rfl, odd_zero c, fun _ => rfl⟩
              | some z =>
                have hfb : findB c k.ways line = true := by rw [vw_findB, hf]; rfl
                rw [hfb, if_pos rfl]
                exact ⟨⟨z.st, line, z.words, true⟩, fun x => by rw [vw_lock hI, hf]; simp, rfl, h.wd line z hf⟩
            unfold CaJ
            rw [eM]
            refine ⟨fun x w hx => ?_, fun x hx => ?_, fun x w hx hk => ?_, fun x hx => ?_, ?_, h.bd⟩
            · dsimp only at hx
              rw [hy] at hx
              split at hx
              · cases hx; exact hyo
              · exact h.wd x w hx
            · dsimp only
              rw [hy]
              split
              · exact ⟨y, rfl, hyk⟩
              · rename_i g
                rcases List.mem_append.1 hx with g2 | g2
                · exact h.ml x g2
                · exact absurd (by simpa using g2) g
            · dsimp only at hx
              rw [hy] at hx
              split at hx
              · rename_i g; exact List.mem_append.2 (.inr (by simp [g]))
              · exact List.mem_append.2 (.inl (h.lm x w hx hk))
            · dsimp only
              have hne : x ≠ line := fun g => by subst g; exact hB hx
              rw [hy, if_neg hne]
              exact h.bn x hx
            · rw [List.nodup_append]
              exact ⟨h.nd, by simp, fun a ha b hb2 => by simp at hb2; subst hb2; exact fun g => hM (g ▸ ha)⟩
  · exact h
theorem atW_mem {c : Cfg} {l : List Way} {s k : Int} (h : (atW c l s k).st ≠ 0) : atW c l s k ∈ l := by
  unfold atW at h ⊢
  by_cases h1 : inWay c s k = true
  · rw [if_pos h1] at h ⊢
    by_cases h2 : s.toNat * c.ways.toNat + k.toNat < l.length
    · rw [← getD_at h2]; exact List.getElem_mem h2
    · rw [List.getD_eq_getElem?_getD, List.getElem?_eq_none (by omega)] at h
      exact absurd rfl h
  · rw [if_neg h1] at h
    exact absurd rfl h
theorem j_ev {c : Cfg} {k : CaS} {s w : Int} (hI : ArrInv c k.ways) (h : CaJ c k) : CaJ c (caEvK c k s w) := by
  unfold caEvK
  split
  · rename_i h0
    unfold caEvE at h0
    split at h0
    · cases h0
    · rename_i h1
      split at h0
      · cases h0
      · rename_i h2
        split at h0
        · cases h0
        · rename_i h3
          have hst : (atW c k.ways s w).st ≠ 0 := fun g => h1 (.inr g)
          have hmem := atW_mem hst
          have hlk : (atW c k.ways s w).lk = false := by cases g : (atW c k.ways s w).lk with | false => rfl | true => exact absurd g h2
          generalize atW c k.ways s w = x at *
          have hvx := vw_mem hI hmem (by simp [thereB, hst])
          have hset : setE c k.ways x.line 0 .zero = 0 := by rw [setE_vw, hvx]; simp [odd_zero]
          have h' := i2_set (line := x.line) (st := 0) (w := .zero) hI h
          have hgone : vw c (setL c k.ways x.line 0 .zero) x.line = none := by rw [vw_set hI, if_pos ⟨rfl, hset⟩, hvx]; simp [hlk]
          refine ⟨h'.wd, h'.ml, h'.lm, fun z hz => ?_, h'.nd, ?_⟩
          · unfold bufLs at hz
            dsimp only at hz ⊢
            split at hz
            · unfold wbPutL at hz
              split at hz
              · exact h'.bn z hz
              · split at hz
                · exact h'.bn z hz
                · rw [List.map_append] at hz
                  rcases List.mem_append.1 hz with g | g
                  · exact h'.bn z g
                  · simp at g; subst g; exact hgone
            · exact h'.bn z hz
          · unfold bufLs
            dsimp only
            split
            · unfold wbPutL
              split
              · exact h.bd
              · split
                · exact h.bd
                · rename_i g1 g2
                  rw [List.map_append, List.nodup_append]
                  exact ⟨h.bd, by simp, fun a ha b hb2 => by simp at hb2; subst hb2; exact fun g => g1 (wbIn_iff.2 (g ▸ ha))⟩
            · exact h.bd
  · exact h
theorem give_ls {l : List WbE} {line : Int} : (wbGiveL l line).map (·.line) = l.map (·.line) := by
  unfold wbGiveL
  split
  · rename_i h
    simp only [Bool.and_eq_true] at h
    obtain ⟨i, hi, e0, ea, el⟩ := wbIn_t h.1
    rw [e0, Int.toNat_natCast, List.map_set, ea]
    have e : l[i].line = (l.map (·.line))[i]'(by simpa using hi) := by simp
    dsimp only
    rw [e, List.set_getElem_self]
  · rfl
theorem j_tell {c : Cfg} {k : CaS} {line st : Int} {g : Bool} (hI : ArrInv c k.ways) (h : CaJ c k) : CaJ c (caTellK c k line st g) := by
  unfold caTellK
  split
  · exact i2_set hI h
  · split
    · unfold CaJ bufLs; dsimp only; rw [give_ls]; exact h
    · exact h
theorem nodup_sub {α : Type} {l m : List α} (h : l.Sublist m) (hn : m.Nodup) : l.Nodup := List.Nodup.sublist h hn
theorem j_drop {c : Cfg} {k : CaS} {line : Int} (h : CaJ c k) : CaJ c (caPaK k line) := by
  have hs : ((wbDropL k.buf line).map (·.line)).Sublist (k.buf.map (·.line)) := by
    unfold wbDropL
    split
    · exact (List.eraseIdx_sublist _ _).map _
    · exact List.Sublist.refl _
  exact ⟨h.wd, h.ml, h.lm, fun x hx => h.bn x (hs.mem hx), h.nd, nodup_sub hs h.bd⟩
theorem j_take {c : Cfg} {core : Int} {k : CaS} {m : Msg} (hI : ArrInv c k.ways) (h : CaJ c k) : CaJ c (caTakeK c core k m) := by
  have ms : ∀ mis' : List Miss, mis'.map (·.line) = k.mis.map (·.line) → CaJ c ⟨k.ways, mis', k.buf⟩ := fun mis' e => by
    unfold CaJ misLs; dsimp only; rw [e]; exact h
  unfold caTakeK
  split
  · split
    · exact j_tell hI h
    · split
      · exact j_tell hI h
      · split
        · split
          · unfold caInvK
            split
            · exact i2_set hI h
            · exact h
          · exact h
        · split
          · unfold caDataK
            split
            · exact j_fill hI (ms _ data_ls)
            · exact h
          · split
            · unfold caGrK
              split
              · exact j_fill hI (ms _ grant_ls)
              · exact h
            · split
              · unfold caAckK
                split
                · exact j_fill hI (ms _ ack_ls)
                · exact h
              · exact j_drop h
  · exact h
theorem nodup_at {l : List Int} (hn : l.Nodup) {i j : Nat} (hi : i < l.length) (hj : j < l.length) (e : l[i] = l[j]) : i = j := by
  rw [List.nodup_iff_pairwise_ne, List.pairwise_iff_getElem] at hn
  rcases Nat.lt_trichotomy i j with g | g | g
  · exact absurd e (hn i j hi hj g)
  · exact g
  · exact absurd e.symm (hn j i hj hi g)
theorem nodup_erase {l : List Int} (hn : l.Nodup) {i : Nat} (hi : i < l.length) (x : Int) : x ∈ l.eraseIdx i ↔ x ∈ l ∧ x ≠ l[i] := by
  constructor
  · intro h
    obtain ⟨j, hj, hne, e⟩ := List.mem_eraseIdx_iff_getElem.1 h
    exact ⟨e ▸ List.getElem_mem hj, fun g => hne (nodup_at hn hj hi (by rw [e, g]))⟩
  · rintro ⟨h, hne⟩
    obtain ⟨j, hj, e⟩ := List.getElem_of_mem h
    exact List.mem_eraseIdx_iff_getElem.2 ⟨j, hj, fun g => hne (by subst g; exact e.symm), e⟩
theorem er_map {α β : Type} {f : α → β} {l : List α} {i : Nat} : (l.eraseIdx i).map f = (l.map f).eraseIdx i := by
  simp [List.eraseIdx_eq_take_drop_succ, List.map_take, List.map_drop]
/-- The miss that owes is the one of its line. -/
theorem fin_close {k : CaS} (hn : (misLs k).Nodup) (h : caFinB k = true) : closeE k.mis (caFinL k) = 0 ∧ ∃ i, ∃ hi : i < k.mis.length, misP k.mis (caFinL k) = i ∧ caFinL k = k.mis[i].line ∧ k.mis[i].owes = true := by
  have h' : 0 ≤ owingP k.mis := of_decide_eq_true h
  obtain ⟨i, hi, e0, ho, _⟩ := indexBy_nat h'
  have e0' : owingP k.mis = i := e0
  have el : caFinL k = k.mis[i].line := by unfold caFinL; rw [if_pos h', e0', Int.toNat_natCast, ← getD_at hi]
  have hin : misIn k.mis (caFinL k) = true := misIn_iff.2 (List.mem_map.2 ⟨_, List.getElem_mem hi, el.symm⟩)
  obtain ⟨j, hj, e1, ea, ej⟩ := misIn_t hin
  have hij : j = i := nodup_at hn (by simpa [misLs] using hj) (by simpa [misLs] using hi) (by simp [misLs, ej, el])
  subst hij
  refine ⟨?_, j, hi, e1, el, ho⟩
  unfold closeE
  rw [if_pos hin, ea, ho]; rfl
theorem j_fin {c : Cfg} {k : CaS} (hI : ArrInv c k.ways) (h : CaJ c k) : CaJ c (caFinK c k) := by
  unfold caFinK
  split
  · rename_i h0
    obtain ⟨he, i, hi, ep, el, _⟩ := fin_close h.nd h0
    have hcl : closeL k.mis (caFinL k) = k.mis.eraseIdx i := by unfold closeL; rw [if_pos he, ep, Int.toNat_natCast]
    have eM : misLs ⟨lockL c k.ways (caFinL k) false, closeL k.mis (caFinL k), k.buf⟩ = (misLs k).eraseIdx i := by
      unfold misLs; dsimp only; rw [hcl, er_map]
    have hi' : i < (misLs k).length := by simpa [misLs] using hi
    have ei : (misLs k)[i] = caFinL k := by rw [el]; simp [misLs]
    have hmem := nodup_erase h.nd hi'
    rw [ei] at hmem
    obtain ⟨y, hy, hyk⟩ := h.ml (caFinL k) (by rw [← ei]; exact List.getElem_mem hi')
    have hv := vw_lock (line := caFinL k) (lk := false) hI
    rw [hy] at hv
    unfold CaJ
    rw [eM]
    refine ⟨fun x w hx => ?_, fun x hx => ?_, fun x w hx hk => ?_, fun x hx => ?_, nodup_sub (List.eraseIdx_sublist _ _) h.nd, h.bd⟩
    · dsimp only at hx
      rw [hv] at hx
      split at hx
      · dsimp only at hx
        split at hx
        · cases hx; exact h.wd _ y hy
        · cases hx
      · exact h.wd x w hx
    · obtain ⟨g1, g2⟩ := (hmem x).1 hx
      dsimp only
      rw [hv, if_neg g2]
      exact h.ml x g1
    · dsimp only at hx
      rw [hv] at hx
      split at hx
      · dsimp only at hx
        split at hx
        · cases hx; cases hk
        · cases hx
      · rename_i g
        exact (hmem x).2 ⟨h.lm x w hx hk, g⟩
    · dsimp only
      rw [hv]
      have hb := h.bn x hx
      split
      · rename_i g
        rw [g, hy] at hb; cases hb
      · exact hb
  · exact h
theorem j_do {c : Cfg} {k : CaS} {x : Op3} (hI : ArrInv c k.ways) (h : CaJ c k) : CaJ c (caDoK c k x) := by
  unfold caDoK
  split
  · exact i2_set hI h
  · exact h
theorem j_step {c : Cfg} {core : Int} {k : CaS} {s : CStep} (hI : ArrInv c k.ways) (h : CaJ c k) : CaJ c (stK c core k s) := by
  unfold stK
  split
  · exact j_ask hI h
  · split
    · exact j_ev hI h
    · split
      · exact j_take hI h
      · split
        · exact j_fin hI h
        · exact j_do hI h
theorem j_new (c : Cfg) (n : Nat) : CaJ c ⟨List.replicate n .zero, [], []⟩ := by
  have hv : ∀ x, vw c (List.replicate n .zero) x = none := fun x => vw_none (find_no fun k hk => by
    rw [List.getElem_replicate]; rfl)
  exact ⟨fun x w h => (by dsimp only at h; rw [hv] at h; cases h), fun x h => (by cases h), fun x w h => (by dsimp only at h; rw [hv] at h; cases h), fun x h => (by cases h), List.nodup_nil, List.nodup_nil⟩
theorem stKs_j {c : Cfg} {core : Int} {k : CaS} {l : List CStep} (h : CaInv c 0 k) (hj : CaJ c k) : ∀ i, i ≤ l.length → CaJ c (stKs c core k (l.take i)) := by
  intro i
  induction i with
  | zero => intro _; rw [List.take_zero]; exact hj
  | succ i ih =>
    intro hi
    rw [stKs_succ (show i < l.length by omega)]
    exact j_step (stKs_inv h i (by omega)).1 (ih (by omega))
end Go.Sx

/- Caches told of lists: a line that is let go can't be read. My own work. -/
namespace Go.Sx
open Go Go.Proofs
set_option linter.unusedVariables false
set_option linter.unusedSimpArgs false
/-- What has an error changes nothing. -/
theorem tell_err {c : Cfg} {k : CaS} {line st : Int} {g : Bool} (h : caTellE c k line ≠ 0) : caTellK c k line st g = k := by
  unfold caTellE at h
  split at h
  · exact absurd rfl h
  · rename_i h2
    split at h
    · exact absurd rfl h
    · rename_i h3
      have e4 : wbGiveL k.buf line = k.buf := by
        unfold wbGiveL
        unfold wbTellE at h3
        cases g1 : wbIn k.buf line with
        | false => rfl
        | true =>
          cases g2 : (wbAt k.buf line).live with
          | false => rfl
          | true => rw [g1, if_pos rfl, g2, if_pos rfl] at h3; exact absurd rfl h3
      unfold caTellK
      rw [if_neg h2, e4]
      cases g <;> rfl
theorem err7_ne {e : Int} (h : err7 e ≠ 0) : e ≠ 0 := fun g => h (by rw [g]; rfl)
theorem drop_err {l : List WbE} {line : Int} (h : wbDropE l line ≠ 0) : wbDropL l line = l := by
  unfold wbDropE at h
  unfold wbDropL
  cases g : wbIn l line with
  | false => rfl
  | true => rw [g] at h; exact absurd rfl h
theorem take_err {c : Cfg} {core : Int} {k : CaS} {m : Msg} (h : caTakeE c core k m ≠ 0) : caTakeK c core k m = k ∧ caTakeM c core k m = .zero ∧ caTakeB c core k m = false := by
  have hB : caTakeB c core k m = false := by unfold caTakeB; simp [h]
  refine ⟨?_, ?_, hB⟩
  · unfold caTakeE at h
    unfold caTakeK
    split
    · rename_i hk
      rw [if_pos hk] at h
      split
      · rename_i g; rw [if_pos (.inl g)] at h; exact tell_err h
      · rename_i g4
        split
        · rename_i g; rw [if_pos (.inr g)] at h; exact tell_err h
        · rename_i g5
          rw [if_neg (by omega)] at h
          split
          · rename_i g; rw [if_pos g] at h; rw [if_neg h]
          · rename_i g6
            rw [if_neg g6] at h
            split
            · rename_i g; rw [if_pos g] at h; exact if_neg (err7_ne h)
            · rename_i g7
              rw [if_neg g7] at h
              split
              · rename_i g; rw [if_pos g] at h; exact if_neg h
              · rename_i g8
                rw [if_neg g8] at h
                split
                · rename_i g; rw [if_pos g] at h; exact if_neg (err7_ne h)
                · rename_i g9
                  rw [if_neg g9] at h
                  unfold caPaK; rw [drop_err (err7_ne h)]
    · rfl
  · unfold caTakeE at h
    unfold caTakeM
    split
    · rename_i hk
      rw [if_pos hk] at h
      split
      · rename_i g; rw [if_pos (.inl g)] at h; exact if_neg h
      · rename_i g4
        split
        · rename_i g; rw [if_pos (.inr g)] at h; exact if_neg h
        · rename_i g5
          rw [if_neg (by omega)] at h
          split
          · rename_i g; rw [if_pos g] at h; exact if_neg h
          · rfl
    · rfl
theorem step_err {c : Cfg} {core : Int} {k : CaS} {s : CStep} (h : stE c core k s ≠ 0) : stK c core k s = k ∧ stM c core k s = .zero ∧ stB c core k s = false ∧ stN c k s = 0 := by
  unfold stE at h
  unfold stK stM stB stN
  by_cases g0 : s.d = 0
  · simp only [g0, if_true, true_or] at h ⊢
    exact ⟨if_neg h, if_neg h, trivial, trivial⟩
  · by_cases g1 : s.d = 1
    · simp only [g1, Int.reduceEq, if_true, if_false, true_or, or_true] at h ⊢
      have hb : caEvB c k s.a s.b = false := by unfold caEvB; simp [h]
      exact ⟨if_neg h, by unfold caEvM; rw [hb]; rfl, hb, trivial⟩
    · by_cases g2 : s.d = 2
      · simp only [g2, Int.reduceEq, if_true, if_false, true_or, or_true] at h ⊢
        obtain ⟨a1, a2, a3⟩ := take_err h
        exact ⟨a1, a2, a3, trivial⟩
      · by_cases g3 : s.d = 3
        · simp only [g3, Int.reduceEq, if_true, if_false, ne_eq, not_true_eq_false] at h
        · simp only [g0, g1, g2, g3, if_false, or_false] at h ⊢
          exact ⟨if_neg (fun g => h g.1), trivial, trivial, if_neg h⟩
theorem can_vw {c : Cfg} {k : CaS} {line kind : Int} : caCan c k line kind = if kind = 1 then decide (((vw c k.ways line).getD .zero).st ≠ 0) else decide (((vw c k.ways line).getD .zero).st = 2 ∨ ((vw c k.ways line).getD .zero).st = 4) := by
  unfold caCan; rw [vw_findW]
/-- The first word's address of a line. -/
theorem join_addr {c : Cfg} {line : Int} (h : okJoin c line 0 = true) : okAddr c (joinN c line 0) = true ∧ addrL c (joinN c line 0) = line ∧ 0 ≤ joinN c line 0 ∧ joinN c line 0 ≤ 8191 ∧ joinN c line 0 = line * c.words ∧ addrW c (joinN c line 0) = 0 := by
  have h' := h
  simp only [okJoin, Bool.and_eq_true, decide_eq_true_eq] at h'
  obtain ⟨hc, h0, h1, _, _⟩ := h'
  have hw := check_words hc
  have hm := mul_bd (m := 8) (n := 1024) (a := c.words) (b := c.lines) (by omega) (by omega) (by omega) (by omega) (by omega)
  simp only [Int.reduceMul] at hm
  have e : joinN c line 0 = line * c.words := by unfold joinN; rw [if_pos h]; omega
  have h2 : 0 ≤ line * c.words := Int.mul_nonneg h0 (by omega)
  have h3 : line * c.words + c.words ≤ c.words * c.lines := by
    have : (line + 1) * c.words ≤ c.lines * c.words := Int.mul_le_mul_of_nonneg_right (by omega) (by omega)
    rw [Int.add_mul, Int.one_mul, Int.mul_comm c.lines] at this
    exact this
  have hok : okAddr c (line * c.words) = true := by
    simp only [okAddr, hc, Bool.true_and, decide_eq_true_eq]; omega
  refine ⟨by rw [e]; exact hok, ?_, by omega, by omega, e, ?_⟩
  · rw [e]; unfold addrL; rw [if_pos hok, Int.mul_ediv_cancel _ (by omega)]
  · rw [e]; unfold addrW; rw [if_pos hok, Int.mul_emod_left]
theorem ap_load {c : Cfg} {a : Int} (h : okAddr c a = true) (h1 : 0 ≤ a) (h2 : a ≤ 8191) : apE c ⟨1, a, 0⟩ = 0 := by
  unfold apE apOk; simp [h, mayB, h1, h2]
theorem ap_swap {c : Cfg} {a v : Int} (h : okAddr c a = true) (h1 : 0 ≤ a) (h2 : a ≤ 8191) (h3 : -2147483648 ≤ v ∧ v ≤ 2147483647) : apE c ⟨3, a, v⟩ = 0 := by
  unfold apE apOk; simp [h, mayB, h1, h2, h3]
theorem lets_tell {c : Cfg} {k : CaS} {line st : Int} {g : Bool} (hI : ArrInv c k.ways) (hj : CaJ c k) (h0 : 0 ≤ st) (h4 : st ≤ 4) (he : caTellE c k line = 0) :
    (∃ y, vw c k.ways line = some y ∧ 2 ≤ y.st ∧ vw c (caTellK c k line st g).ways line = if y.lk = true ∨ st ≠ 0 then some ⟨st, line, if st = 0 then .zero else y.words, y.lk⟩ else none) ∨
    (vw c k.ways line = none ∧ (caTellK c k line st g).ways = k.ways) := by
  unfold caTellE at he
  by_cases h2 : 2 ≤ (findW c k.ways line).st
  · left
    cases hv : vw c k.ways line with
    | none => rw [vw_findW, hv] at h2; simp [Way.zero] at h2
    | some y =>
      have hy := (vw_some hv).2.2.2.2
      rw [hy] at h2
      refine ⟨y, rfl, h2, ?_⟩
      have hset : setE c k.ways line st y.words = 0 := by
        rw [setE_vw, hv]
        simp [(hj.wd _ _ hv).1]; omega
      unfold caTellK
      rw [hy, if_pos h2]
      dsimp only
      rw [vw_set hI, if_pos ⟨rfl, hset⟩, hv]
  · right
    rw [if_neg h2] at he
    have hin : wbIn k.buf line = true := by
      cases q : wbIn k.buf line with
      | true => rfl
      | false => unfold wbTellE at he; rw [q] at he; simp at he
    refine ⟨hj.bn line (wbIn_iff.1 hin), ?_⟩
    unfold caTellK
    rw [if_neg h2]
    split <;> rfl
theorem lets_gone5 {c : Cfg} {k : CaS} {line : Int} (hI : ArrInv c k.ways) (hj : CaJ c k) (he : caTellE c k line = 0) : caCan c (caTellK c k line 0 true) line 1 = false := by
  rw [can_vw, if_pos rfl]
  rcases lets_tell (st := 0) (g := true) hI hj (by omega) (by omega) he with ⟨y, h1, h2, h3⟩ | ⟨h1, h2⟩
  · rw [h3]
    split <;> rfl
  · rw [h2, h1]; rfl
theorem lets_gone6 {c : Cfg} {k : CaS} {line : Int} (hI : ArrInv c k.ways) (hst : ∀ x ∈ k.ways, StOk x) (hj : CaJ c k) (he : caInvE c k line = 0) : caCan c (caInvK c k line) line 1 = false := by
  rw [can_vw, if_pos rfl]
  have h2 : ¬ 2 ≤ (findW c k.ways line).st := fun g => by unfold caInvE at he; rw [if_pos g] at he; cases he
  have h0 := findW_all (P := StOk) (line := line) (c := c) hst st_zero
  unfold caInvK
  by_cases h1 : (findW c k.ways line).st = 1
  · rw [if_pos h1]
    cases hv : vw c k.ways line with
    | none => rw [vw_findW, hv] at h1; cases h1
    | some y =>
      have hset : setE c k.ways line 0 .zero = 0 := by rw [setE_vw, hv]; simp [odd_zero]
      dsimp only
      rw [vw_set hI, if_pos ⟨rfl, hset⟩, hv]
      dsimp only
      split <;> rfl
  · rw [if_neg h1]
    have : (findW c k.ways line).st = 0 := by unfold StOk at h0; omega
    rw [vw_findW] at this
    rw [this]; rfl
theorem lets_kept {c : Cfg} {k : CaS} {line : Int} (hI : ArrInv c k.ways) (hj : CaJ c k) (he : caTellE c k line = 0) : caCan c (caTellK c k line 3 false) line 1 = caCan c k line 1 ∧ caCan c (caTellK c k line 3 false) line 2 = false ∧
    (caCan c k line 1 = true → findW c (caTellK c k line 3 false).ways line = ⟨3, line, (findW c k.ways line).words, (findW c k.ways line).lk⟩) := by
  rw [can_vw, can_vw, can_vw]
  simp only [if_pos, Int.reduceEq, if_false]
  rcases lets_tell (st := 3) (g := false) hI hj (by omega) (by omega) he with ⟨y, h1, h2, h3⟩ | ⟨h1, h2⟩
  · rw [if_pos (.inr (by decide))] at h3
    rw [h3, h1]
    simp only [Option.getD_some, Int.reduceEq, if_false]
    refine ⟨?_, by decide, fun _ => ?_⟩
    · rw [decide_eq_true (by decide), decide_eq_true (by omega)]
    · rw [vw_findW, h3, vw_findW, h1]; rfl
  · rw [h2, h1]
    exact ⟨rfl, by decide, fun g => by simp [Way.zero] at g⟩
end Go.Sx
