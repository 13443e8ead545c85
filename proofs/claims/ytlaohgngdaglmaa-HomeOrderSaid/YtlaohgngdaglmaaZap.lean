/- HomB, HomO, HomRead: several of my texts as one. My own work. -/
import Derived.Test.YtlaohgngdaglmaaZao
import Derived.Test.YtlaohgngdaglmaaZai
import Derived.Test.YtlaohgngdaglmaaZaa
/- What homes do, told of lists: one line's requests leave the others' entries and words as they are. My own work. -/
namespace Go.Sx
open Go Go.Proofs
set_option linter.unusedVariables false
set_option linter.unusedSimpArgs false
theorem line_wr_ne {c : Cfg} {ms : List Int} {k line : Int} {w : Words} (hn : (ms.length : Int) = c.words * c.lines) (h : line ≠ k) : lineWo c (wrL c ms k w) line = lineWo c ms line := by
  unfold lineWo
  split
  · rename_i hj
    congr 1
    unfold wrL
    split
    · rename_i hw
      have hk : okJoin c k 0 = true := by simp only [wrOk, Bool.and_eq_true] at hw; exact hw.1
      obtain ⟨a1, a2, a3, _⟩ := line_rd hn hk
      obtain ⟨_, l0, l1, w0, w8, _⟩ := join_facts hj hn
      obtain ⟨_, k0, k1, _⟩ := join_facts hk hn
      obtain ⟨W, eW⟩ : ∃ n : Nat, c.words = n := ⟨c.words.toNat, by omega⟩
      obtain ⟨L, rfl⟩ : ∃ n : Nat, line = n := ⟨line.toNat, by omega⟩
      obtain ⟨K, rfl⟩ : ∃ n : Nat, k = n := ⟨k.toNat, by omega⟩
      have fL : lineF c (L : Int) = L * W := by unfold lineF; rw [eW]; exact_mod_cast Int.toNat_natCast (L * W)
      have fK : lineF c (K : Int) = K * W := by unfold lineF; rw [eW]; exact_mod_cast Int.toNat_natCast (K * W)
      have fW : c.words.toNat = W := by rw [eW]; rfl
      unfold lineL
      rw [fW] at a1 a3
      rw [fK] at a1
      rw [fL, fK, fW]
      have hwl : w.list.length = 8 := rfl
      apply List.ext_getElem?
      intro i
      rw [List.getElem?_take, List.getElem?_take]
      split
      · rename_i hi
        rw [List.getElem?_drop, List.getElem?_drop, List.append_assoc]
        have ht : (ms.take (K * W)).length = K * W := by rw [List.length_take]; omega
        have hu : (w.list.take W).length = W := by rw [List.length_take, hwl]; omega
        rcases Nat.lt_or_gt_of_ne (show L ≠ K by omega) with hlt | hgt
        · have : (L + 1) * W ≤ K * W := Nat.mul_le_mul_right W hlt
          rw [Nat.add_mul, Nat.one_mul] at this
          rw [List.getElem?_append_left (by omega), List.getElem?_take, if_pos (by omega)]
        · have : (K + 1) * W ≤ L * W := Nat.mul_le_mul_right W hgt
          rw [Nat.add_mul, Nat.one_mul] at this
          rw [List.getElem?_append_right (by omega), List.getElem?_append_right (by omega), List.getElem?_drop]
          congr 1
          omega
      · rfl
    · rfl
  · rfl
/-- Of which line a step's request is; below 0: of none. -/
def hsOf (s : HomS) (x : HStep) : Int := if x.d = 1 ∧ 0 ≤ x.n ∧ x.n < s.q.length then (qat s.q x.n).m.line else -1
theorem hms_other {c : Cfg} {num : Int} {s : HomS} {x : HStep} {line : Int} (hn : (s.ms.length : Int) = c.words * c.lines) (h : HmI c num s) (hof : line ≠ hsOf s x) : hmEnt (hsS c num s x) line = hmEnt s line ∧ hmLine c (hsS c num s x) line = hmLine c s line := by
  unfold hsS
  split
  · unfold hmAccS; split <;> exact ⟨rfl, rfl⟩
  · rename_i h0
    split
    · rename_i h1
      unfold hmWorkS
      split
      · rename_i hr
        have hq := qready_in hr
        have hq' := of_decide_eq_true hq
        have e : hsOf s x = (hmX s x.n).line := by unfold hsOf hmX; rw [if_pos ⟨h1, hq'.1, hq'.2⟩]
        rw [e] at hof
        unfold hmStartS
        split
        · have hg : mget (mset s.es (hmX s x.n).line (nextT (hmEnt s (hmX s x.n).line) (hmX s x.n))) line = mget s.es line := by rw [mget_mset, if_neg hof]
          refine ⟨by unfold hmEnt hmTurnS; dsimp only; rw [hg], ?_⟩
          unfold hmLine hmOwn hmTurnS
          dsimp only
          rw [hg]
          split
          · split
            · exact line_wr_ne hn hof
            · rfl
          · rfl
        · exact ⟨rfl, rfl⟩
      · split <;> exact ⟨rfl, rfl⟩
    · unfold hmDoneS; split <;> exact ⟨rfl, rfl⟩
/-- What a step sends. -/
theorem hms_sent {c : Cfg} {num : Int} {s : HomS} {x : HStep} (h : HmI c num s) : (hsB s x = true → hsD s x = true ∧ x.d = 1 ∧ (hsM s x).line = hsOf s x ∧ (hsM s x).src = num ∧ 0 < l3at x.l (netK (hsM s x).kind) ∧ (4 ≤ (hsM s x).kind ∧ (hsM s x).kind ≤ 10)) ∧ (hsB s x = false → hsM s x = .zero) := by
  unfold hsB hsD hsM
  by_cases h0 : x.d = 0
  · simp [h0]
  · by_cases h1 : x.d = 1
    · simp only [h1, if_true, if_neg (show ¬ (1 : Int) = 0 by omega)]
      unfold hmWorkB hmDid hmWorkM
      cases hr : qready s.q x.n with
      | true => simp
      | false =>
        cases hg : hmGoes s x.n x.l with
        | false => simp
        | true =>
          have hg' := hg
          simp only [hmGoes, Bool.and_eq_true, decide_eq_true_eq] at hg'
          obtain ⟨k1, k2, k3, k4⟩ := next_kind h hg'.1
          have hin : qin s.q x.n = true := by have := hg'.1; simp only [qnextB, Bool.and_eq_true] at this; exact this.1
          have hq' := of_decide_eq_true hin
          refine ⟨fun _ => ⟨rfl, trivial, ?_, k4, hg'.2, k2⟩, fun h => by cases h⟩
          show (qnextM s.q x.n).line = _
          unfold hsOf
          rw [if_pos ⟨h1, hq'.1, hq'.2⟩, k3]
    · simp [h0, h1]
end Go.Sx

/- What homes do, told of lists: of one line, in the order in which its requests came. My own work. -/
namespace Go.Sx
open Go Go.Proofs
set_option linter.unusedVariables false
set_option linter.unusedSimpArgs false
/-- A line's requests that aren't started; and what is still to be sent for it. -/
def oC (line : Int) (q : List QE) : List Msg := (q.filter fun e => decide (e.m.line = line) && !e.st).map (·.m)
def oP (line : Int) (q : List QE) : List Msg := (q.filter fun e => decide (e.m.line = line)).flatMap (·.sends)
theorem oC_app (line : Int) (a b : List QE) : oC line (a ++ b) = oC line a ++ oC line b := by simp [oC]
theorem oP_app (line : Int) (a b : List QE) : oP line (a ++ b) = oP line a ++ oP line b := by simp [oP]
theorem oC_cons (line : Int) (e : QE) (b : List QE) : oC line (e :: b) = (if e.m.line = line ∧ e.st = false then [e.m] else []) ++ oC line b := by
  unfold oC
  rw [List.filter_cons]
  by_cases h : e.m.line = line <;> cases hs : e.st <;> simp [h, hs]
theorem oP_cons (line : Int) (e : QE) (b : List QE) : oP line (e :: b) = (if e.m.line = line then e.sends else []) ++ oP line b := by
  unfold oP
  rw [List.filter_cons]
  by_cases h : e.m.line = line <;> simp [h]
theorem oP_none {line : Int} {q : List QE} (h : ∀ e ∈ q, e.m.line = line → e.sends = []) : oP line q = [] := by
  induction q with
  | nil => rfl
  | cons e r ih =>
    rw [oP_cons, ih fun x hx => h x (List.mem_cons_of_mem _ hx)]
    split
    · rename_i he; rw [h e (List.mem_cons_self ..) he]; rfl
    · rfl
theorem oC_none {line : Int} {q : List QE} (h : ∀ e ∈ q, e.m.line ≠ line) : oC line q = [] := by
  induction q with
  | nil => rfl
  | cons e r ih => rw [oC_cons, ih fun x hx => h x (List.mem_cons_of_mem _ hx), if_neg (fun g => h e (List.mem_cons_self ..) g.1)]; rfl
theorem q_cut {q : List QE} {i : Nat} (hi : i < q.length) : q = q.take i ++ q[i] :: q.drop (i + 1) ∧ (∀ x, q.set i x = q.take i ++ x :: q.drop (i + 1)) ∧ q.eraseIdx i = q.take i ++ q.drop (i + 1) := by
  refine ⟨?_, fun x => ?_, List.eraseIdx_eq_take_drop_succ q i⟩
  · rw [← List.drop_eq_getElem_cons hi, List.take_append_drop]
  · rw [List.set_eq_take_append_cons_drop, if_pos hi]
/-- Behind a request of a line none of it is started; nothing is to be sent for them. -/
theorem q_tail {q : List QE} (h : QInv q) {i : Nat} (hi : i < q.length) : ∀ e ∈ q.drop (i + 1), e.m.line = q[i].m.line → e.st = false ∧ e.sends = [] := by
  intro e he hl
  obtain ⟨j, hj, rfl⟩ := List.getElem_of_mem he
  rw [List.getElem_drop] at hl ⊢
  have hj' : i + 1 + j < q.length := by simp at hj; omega
  have hs := h.1 i (i + 1 + j) hi hj' (by omega) hl.symm
  exact ⟨hs, h.2 _ (List.getElem_mem _) hs⟩
theorem q_head {q : List QE} (h : QInv q) {i : Nat} (hi : i < q.length) (hs : q[i].st = true) : ∀ e ∈ q.take i, e.m.line ≠ q[i].m.line := by
  intro e he hl
  obtain ⟨j, hj, rfl⟩ := List.getElem_of_mem he
  rw [List.getElem_take] at hl
  have hj' : j < i := by simp at hj; omega
  have := h.1 j i (by omega) hi hj' hl
  rw [hs] at this; cases this
def oC1 (c : Cfg) (num : Int) (s : HomS) (x : HStep) (line : Int) : List Msg := if x.d = 0 ∧ hsE c num s x = 0 ∧ x.m.line = line then oC line s.q ++ [x.m] else oC line s.q
def oS1 (s : HomS) (x : HStep) (line : Int) (sent : List Msg) : List Msg := if hsB s x = true ∧ (hsM s x).line = line then sent ++ [hsM s x] else sent
/-- What a step makes of a line: nothing; or its next request is started; or that is odd. -/
def OStep (c : Cfg) (num : Int) (s : HomS) (x : HStep) (line : Int) : Prop :=
  (oC1 c num s x line = oC line (hsS c num s x).q ∧ hmEnt (hsS c num s x) line = hmEnt s line ∧ hmLine c (hsS c num s x) line = hmLine c s line ∧ ∀ sent, sent ++ oP line s.q = oS1 s x line sent ++ oP line (hsS c num s x).q)
  ∨ (∃ m, oC1 c num s x line = m :: oC line (hsS c num s x).q ∧ nextE (hmEnt s line) m = 0 ∧ hmEnt (hsS c num s x) line = nextT (hmEnt s line) m ∧ hmLine c (hsS c num s x) line = (if nextW (hmEnt s line) m = true then m.words else hmLine c s line)
      ∧ oP line s.q = [] ∧ oP line (hsS c num s x).q = nextS (hmEnt s line) m (hmLine c s line) ∧ ∀ sent, oS1 s x line sent = sent)
  ∨ (∃ m, oC1 c num s x line = m :: oC line (hsS c num s x).q ∧ nextE (hmEnt s line) m = 7 ∧ 0 < (hsS c num s x).odd)
theorem order_acc {c : Cfg} {num : Int} {s : HomS} {x : HStep} {line : Int} (h0 : x.d = 0) : OStep c num s x line := by
  have e1 : hsS c num s x = hmAccS c num s x.m := if_pos h0
  have e2 : hsE c num s x = hmAccE c num s x.m := if_pos h0
  have e3 : hsB s x = false := by unfold hsB; rw [if_pos h0]
  left
  unfold oC1 oS1
  rw [e1, e2, e3]
  unfold hmAccS hmAccE
  by_cases hm : mineB c num x.m 0 = true
  · simp only [hm, if_true]
    unfold qaddL
    by_cases he : qaddE c.buffer s.q x.m = 0
    · rw [if_pos he, oC_app, oP_app, oC_cons, oP_cons]
      refine ⟨?_, rfl, rfl, fun sent => by simp [oP]⟩
      by_cases hl : x.m.line = line <;> simp [h0, he, hl, oC]
    · rw [if_neg he, if_neg (by omega)]
      exact ⟨rfl, rfl, rfl, fun sent => by simp⟩
  · simp only [hm]
    exact ⟨by simp, rfl, rfl, fun sent => by simp⟩
theorem order_done {c : Cfg} {num : Int} {s : HomS} {x : HStep} {line : Int} (hQ : QInv s.q) (h0 : x.d ≠ 0) (h1 : x.d ≠ 1) : OStep c num s x line := by
  have e1 : hsS c num s x = hmDoneS c num s x.m := by unfold hsS; rw [if_neg h0, if_neg h1]
  have e3 : hsB s x = false := by unfold hsB; rw [if_neg h0, if_neg h1]
  left
  unfold oC1 oS1
  rw [e1, e3]
  rw [if_neg (fun h => h0 h.1)]
  unfold hmDoneS
  by_cases hm : mineB c num x.m 2 = true
  · rw [if_pos hm]
    refine ⟨?_, rfl, rfl, fun sent => ?_⟩
    · dsimp only
      unfold qfinL
      by_cases hx : indexBy (qgone x.m.line x.m.src) s.q < 0
      · rw [if_pos hx]
      · rw [if_neg hx]
        obtain ⟨i, hi, e, hp, _⟩ := indexBy_nat (p := qgone x.m.line x.m.src) (l := s.q) (by omega)
        rw [e, Int.toNat_natCast]
        obtain ⟨c1, _, c3⟩ := q_cut hi
        simp only [qgone, Bool.and_eq_true, decide_eq_true_eq] at hp
        have hs := hp.1.1.1.1
        rw [c3]; conv => lhs; rw [c1]
        rw [oC_app, oC_app, oC_cons, if_neg (by rw [hs]; simp)]
        rfl
    · rw [if_neg (by simp)]
      congr 1
      dsimp only
      unfold qfinL
      by_cases hx : indexBy (qgone x.m.line x.m.src) s.q < 0
      · rw [if_pos hx]
      · rw [if_neg hx]
        obtain ⟨i, hi, e, hp, _⟩ := indexBy_nat (p := qgone x.m.line x.m.src) (l := s.q) (by omega)
        rw [e, Int.toNat_natCast]
        obtain ⟨c1, _, c3⟩ := q_cut hi
        simp only [qgone, Bool.and_eq_true, decide_eq_true_eq] at hp
        have hn : s.q[i].sends = [] := List.eq_nil_of_length_eq_zero hp.2
        rw [c3]; conv => lhs; rw [c1]
        rw [oP_app, oP_app, oP_cons, hn]
        split <;> rfl
  · rw [if_neg hm]
    exact ⟨rfl, rfl, rfl, fun sent => by simp⟩
theorem line_wr_self {c : Cfg} {ms : List Int} {line : Int} {w : Words} (hn : (ms.length : Int) = c.words * c.lines) (h : wrOk c line w = true) : lineWo c (wrL c ms line w) line = w := by
  have hk : okJoin c line 0 = true := by simp only [wrOk, Bool.and_eq_true] at h; exact h.1
  have ht : tailZ c w = true := by simp only [wrOk, Bool.and_eq_true] at h; exact h.2
  obtain ⟨a1, a2, a3, _⟩ := line_rd hn hk
  unfold lineWo wrL
  rw [if_pos hk, if_pos h]
  have hwl : w.list.length = 8 := rfl
  have e : lineL c (ms.take (lineF c line) ++ w.list.take c.words.toNat ++ ms.drop (lineF c line + c.words.toNat)) line = w.list.take c.words.toNat := by
    unfold lineL
    have h1 : (ms.take (lineF c line)).length = lineF c line := by rw [List.length_take]; omega
    have h2 : (w.list.take c.words.toNat).length = c.words.toNat := by rw [List.length_take, hwl]; omega
    rw [List.append_assoc, List.drop_append_of_le_length (by omega), List.drop_of_length_le (by omega), List.nil_append, List.take_append_of_le_length (by omega), List.take_of_length_le (by omega)]
  rw [e]
  have hz : ∀ i, c.words.toNat ≤ i → i < 8 → w.list.getD i 0 = 0 := by
    intro i h1 h2
    unfold tailZ at ht
    rw [List.all_eq_true] at ht
    have hi : i < w.list.length := by rw [hwl]; exact h2
    have := ht w.list[i] (List.mem_iff_getElem.2 ⟨i - c.words.toNat, by simp [hwl]; omega, by rw [List.getElem_drop]; congr 1; omega⟩)
    simpa [hi] using this
  have hg : ∀ i, i < 8 → (w.list.take c.words.toNat).getD i 0 = w.list.getD i 0 := by
    intro i hi
    by_cases h1 : i < c.words.toNat
    · simp [List.getD_eq_getElem?_getD, List.getElem?_take, h1]
    · rw [hz i (by omega) hi]
      simp [List.getD_eq_getElem?_getD, List.getElem?_take, h1]
  obtain ⟨w0, w1, w2, w3, w4, w5, w6, w7⟩ := w
  unfold Words.of
  simp only [hg 0 (by omega), hg 1 (by omega), hg 2 (by omega), hg 3 (by omega), hg 4 (by omega), hg 5 (by omega), hg 6 (by omega), hg 7 (by omega)]
  rfl
theorem may_tail {c : Cfg} {m : Msg} (h : MayP c m) : tailZ c m.words = true := by
  have hw := h.2.2.2.2
  unfold WordsP at hw
  have hv : ∀ i : Nat, i < 8 → c.words ≤ i → m.words.list.getD i 0 = 0 := by
    intro i hi hc
    split at hw
    · exact (hw i hi).2.2 hc
    · rw [hw]
      match i, hi with
      | 0, _ => rfl | 1, _ => rfl | 2, _ => rfl | 3, _ => rfl | 4, _ => rfl | 5, _ => rfl | 6, _ => rfl | 7, _ => rfl
  unfold tailZ
  rw [List.all_eq_true]
  intro n hn
  obtain ⟨j, hj, rfl⟩ := List.getElem_of_mem hn
  have hl : m.words.list.length = 8 := rfl
  have hj' : c.words.toNat + j < 8 := by simp [hl] at hj; omega
  have := hv (c.words.toNat + j) hj' (by omega)
  rw [List.getElem_drop]
  have h3 : c.words.toNat + j < m.words.list.length := by omega
  simpa [h3] using this
theorem order_work {c : Cfg} {num : Int} {s : HomS} {x : HStep} {line : Int} (hI : HmI c num s) (hQ : QInv s.q) (ho : 0 ≤ s.odd) (hml : (s.ms.length : Int) = c.words * c.lines) (hown : ownL c num line) (h1 : x.d = 1) : OStep c num s x line := by
  have h0 : x.d ≠ 0 := by omega
  have e1 : hsS c num s x = hmWorkS c s x.n x.l := by unfold hsS; rw [if_neg h0, if_pos h1]
  have e3 : hsB s x = hmWorkB s x.n x.l := by unfold hsB; rw [if_neg h0, if_pos h1]
  have e4 : hsM s x = hmWorkM s x.n x.l := by unfold hsM; rw [if_neg h0, if_pos h1]
  have hoc : oC1 c num s x line = oC line s.q := if_neg fun h => h0 h.1
  unfold OStep
  rw [hoc, e1]
  unfold oS1
  rw [e3, e4]
  cases hr : qready s.q x.n with
  | true =>
    have hb : hmWorkB s x.n x.l = false := by simp [hmWorkB, hr]
    have hs : hmWorkS c s x.n x.l = hmStartS c s x.n := by simp [hmWorkS, hr]
    rw [hb, hs]
    obtain ⟨i, hi, en, ea, es0, hf⟩ := qready_t hr
    have hx : hmX s x.n = s.q[i].m := by unfold hmX; rw [ea]
    have hmine := hI.req _ (List.getElem_mem hi)
    have hse := hQ.2 _ (List.getElem_mem hi) es0
    obtain ⟨c1, c2, c3⟩ := q_cut hi
    have hA : ∀ e ∈ s.q.take i, e.m.line ≠ s.q[i].m.line := by
      intro e he
      obtain ⟨j, hj, rfl⟩ := List.getElem_of_mem he
      rw [List.getElem_take]
      exact hf j (by simp at hj; omega) (by simp at hj; omega)
    have hB := q_tail hQ hi
    have gA : s.q[i].m.line = line → oC line (s.q.take i) = [] := fun hl => oC_none fun e he => hl ▸ hA e he
    unfold hmStartS
    rw [hx]
    by_cases hl : s.q[i].m.line = line
    · have hoC : oC line s.q = s.q[i].m :: oC line (s.q.drop (i + 1)) := by
        conv => lhs; rw [c1]
        rw [oC_app, oC_cons, if_pos ⟨hl, es0⟩, gA hl]
        rfl
      have hoP : oP line s.q = [] := by
        conv => lhs; rw [c1]
        rw [oP_app, oP_cons, hse, oP_none fun e he h => absurd h (hl ▸ hA e he), oP_none fun e he h => (hB e he (h.trans hl.symm)).2]
        split <;> rfl
      rw [hl]
      by_cases hE : nextE (hmEnt s line) s.q[i].m = 0
      · rw [if_pos hE]
        have hsl : (nextS (hmEnt s line) s.q[i].m (hmLine c s line)).length ≠ 0 := by have := (sent_facts (w := hmLine c s line) hE).1; omega
        have hLm : hmLine c s line = lineWo c s.ms line := by
          unfold hmLine; rw [hI.own line, decide_eq_true hown]; rfl
        have hq2 : (hmTurnS c s x.n).q = s.q.take i ++ { s.q[i] with st := true, sends := nextS (hmEnt s line) s.q[i].m (hmLine c s line) } :: s.q.drop (i + 1) := by
          have hin : qin s.q (i : Int) = true := by simp only [qin, decide_eq_true_eq]; omega
          have hr2 : qready s.q (i : Int) = true := by rw [← en]; exact hr
          have ea2 : qat s.q (i : Int) = s.q[i] := by rw [← en]; exact ea
          show qstartL s.q x.n (nextS (hmEnt s (hmX s x.n).line) (hmX s x.n) (lineWo c s.ms (hmX s x.n).line)) = _
          rw [hx, hl, ← hLm, en, qstartL, if_pos (by unfold qstartE; rw [if_pos hin, hr2, decide_eq_true hsl]; rfl), ea2, Int.toNat_natCast, c2]
        right; left
        refine ⟨s.q[i].m, ?_, hE, ?_, ?_, hoP, ?_, fun sent => by simp⟩
        · rw [hoC, hq2, oC_app, oC_cons, if_neg (by simp), gA hl]
          rfl
        · unfold hmEnt hmTurnS
          dsimp only
          rw [hx, hl, mget_mset, if_pos rfl]
          rfl
        · have hg : hmOwn (hmTurnS c s x.n) line = true := by
            unfold hmOwn hmTurnS
            dsimp only
            rw [hx, hl, mget_mset, if_pos rfl]; rfl
          unfold hmLine
          rw [hg, hI.own line, decide_eq_true hown]
          simp only [if_true]
          unfold hmTurnS
          dsimp only
          rw [hx, hl]
          split
          · have hwo : wrOk c line s.q[i].m.words = true := by
              unfold wrOk
              rw [Bool.and_eq_true]
              refine ⟨?_, may_tail (mine_facts hI.ok hmine).1⟩
              unfold okJoin
              have hb := (cfg_bnd hI.ok)
              have := hown.1; have := hown.2.1
              simp [hI.ok]
              have := (check_words hI.ok)
              omega
            exact line_wr_self hml hwo
          · rfl
        · rw [hq2, oP_app, oP_cons, if_pos hl, oP_none fun e he h => absurd h (hl ▸ hA e he), oP_none fun e he h => (hB e he (h.trans hl.symm)).2]
          simp
      · rw [if_neg hE]
        right; right
        refine ⟨s.q[i].m, ?_, ?_, by show 0 < s.odd + 1; omega⟩
        · show _ = _ :: oC line (s.q.eraseIdx x.n.toNat)
          rw [hoC, en, Int.toNat_natCast, c3, oC_app, gA hl]
          rfl
        · rcases nextE_cases hI hmine with h | h
          · rw [hl] at h; exact h.1
          · rw [hl] at h; exact absurd h hE
    · left
      have hof : line ≠ hsOf s x := by
        have hq' := of_decide_eq_true (qready_in hr)
        unfold hsOf
        rw [if_pos ⟨h1, hq'.1, hq'.2⟩, ea]
        exact fun h => hl h.symm
      have hoth := hms_other hml hI hof
      rw [e1, hs] at hoth
      unfold hmStartS at hoth
      rw [hx] at hoth
      refine ⟨?_, hoth.1, hoth.2, fun sent => ?_⟩
      · split
        · show _ = oC line (qstartL s.q x.n _)
          unfold qstartL
          split
          · rw [en, Int.toNat_natCast, c2]
            conv => lhs; rw [c1]
            rw [oC_app, oC_app, oC_cons, oC_cons, if_neg (fun h => hl h.1), if_neg]
            rintro ⟨g, _⟩
            dsimp only at g
            rw [← en, ea] at g
            exact hl g
          · rfl
        · show _ = oC line (s.q.eraseIdx x.n.toNat)
          rw [en, Int.toNat_natCast, c3]
          conv => lhs; rw [c1]
          rw [oC_app, oC_app, oC_cons, if_neg (fun h => hl h.1)]
          rfl
      · rw [if_neg (by simp)]
        congr 1
        split
        · show _ = oP line (qstartL s.q x.n _)
          unfold qstartL
          split
          · rw [en, Int.toNat_natCast, c2]
            conv => lhs; rw [c1]
            rw [oP_app, oP_app, oP_cons, oP_cons, if_neg hl, if_neg]
            intro g
            dsimp only at g
            rw [← en, ea] at g
            exact hl g
          · rfl
        · show _ = oP line (s.q.eraseIdx x.n.toNat)
          rw [en, Int.toNat_natCast, c3]
          conv => lhs; rw [c1]
          rw [oP_app, oP_app, oP_cons, if_neg hl]
          rfl
  | false =>
    left
    cases hg : hmGoes s x.n x.l with
    | false =>
      have hb : hmWorkB s x.n x.l = false := by simp [hmWorkB, hr, hg]
      have hs : hmWorkS c s x.n x.l = s := by simp [hmWorkS, hr, hg]
      rw [hb, hs]
      exact ⟨rfl, rfl, rfl, fun sent => by simp⟩
    | true =>
      have hb : hmWorkB s x.n x.l = true := by simp [hmWorkB, hr, hg]
      have hm : hmWorkM s x.n x.l = qnextM s.q x.n := by simp [hmWorkM, hr, hg]
      have hs : hmWorkS c s x.n x.l = { s with q := qsentL s.q x.n } := by simp [hmWorkS, hr, hg]
      rw [hb, hs, hm]
      have hg' := hg
      simp only [hmGoes, Bool.and_eq_true, decide_eq_true_eq] at hg'
      have hnb := hg'.1
      obtain ⟨_, _, k3, _⟩ := next_kind hI hnb
      have hnb' := hnb
      simp only [qnextB, Bool.and_eq_true, decide_eq_true_eq] at hnb'
      obtain ⟨i, hi, en, ea⟩ := qin_t hnb'.1
      rw [ea] at hnb' k3
      have hst : s.q[i].st = true := by
        cases hc : s.q[i].st with
        | true => rfl
        | false => exact absurd (by rw [hQ.2 _ (List.getElem_mem hi) hc]; rfl) hnb'.2
      obtain ⟨y, ys, hys⟩ : ∃ y ys, s.q[i].sends = y :: ys := by
        cases h : s.q[i].sends with
        | nil => rw [h] at hnb'; exact absurd rfl hnb'.2
        | cons y ys => exact ⟨y, ys, rfl⟩
      have hy : qnextM s.q x.n = y := by unfold qnextM; rw [if_pos hnb, ea, hys]; rfl
      obtain ⟨c1, c2, c3⟩ := q_cut hi
      have hA := q_head hQ hi hst
      have hB := q_tail hQ hi
      rw [hy] at k3 ⊢
      have hsE : qsentE s.q x.n = 0 := by unfold qsentE; rw [if_pos hnb'.1, ea, if_neg hnb'.2]
      have hq2 : qsentL s.q x.n = s.q.take i ++ (if ys.length = 0 ∧ s.q[i].m.kind = 3 then [] else [{ s.q[i] with sends := ys }]) ++ s.q.drop (i + 1) := by
        unfold qsentL
        rw [if_pos hsE, ea, en, Int.toNat_natCast, hys]
        by_cases hp : ys.length = 0 ∧ s.q[i].m.kind = 3
        · have hp' : (y :: ys).length = 1 ∧ s.q[i].m.kind = 3 := ⟨by rw [List.length_cons]; omega, hp.2⟩
          rw [if_pos hp, if_pos hp', c3]
          simp
        · have hp' : ¬ ((y :: ys).length = 1 ∧ s.q[i].m.kind = 3) := fun h => hp ⟨by have := h.1; rw [List.length_cons] at this; omega, h.2⟩
          rw [if_neg hp, if_neg hp', c2]
          simp
      refine ⟨?_, rfl, rfl, fun sent => ?_⟩
      · show oC line s.q = oC line (qsentL s.q x.n)
        rw [hq2]
        conv => lhs; rw [c1]
        rw [oC_app, oC_app, oC_app, oC_cons, if_neg (by rw [hst]; simp)]
        split
        · simp [oC]
        · rw [oC_cons, if_neg (by dsimp only; rw [hst]; simp)]; simp [oC]
      · show sent ++ oP line s.q = _ ++ oP line (qsentL s.q x.n)
        rw [hq2]
        conv => lhs; rw [c1]
        by_cases hl : s.q[i].m.line = line
        · rw [if_pos ⟨rfl, by rw [k3]; exact hl⟩]
          have g1 : oP line (s.q.take i) = [] := oP_none fun e he h => absurd (h.trans hl.symm) (hA e he)
          have g2 : oP line (s.q.drop (i + 1)) = [] := oP_none fun e he h => (hB e he (h.trans hl.symm)).2
          rw [oP_app, oP_app, oP_app, oP_cons, if_pos hl, g1, g2, hys]
          split
          · rename_i hp
            rw [List.eq_nil_of_length_eq_zero hp.1]
            simp [oP]
          · rw [oP_cons]
            simp [hl, oP]
        · rw [if_neg (fun h => hl (k3 ▸ h.2))]
          rw [oP_app, oP_app, oP_app, oP_cons, if_neg hl]
          split
          · simp [oP]
          · rw [oP_cons]
            simp [hl, oP]
theorem order_step {c : Cfg} {num : Int} {s : HomS} {line : Int} (hI : HmI c num s) (hQ : QInv s.q) (ho : 0 ≤ s.odd) (hml : (s.ms.length : Int) = c.words * c.lines) (hown : ownL c num line) (x : HStep) : OStep c num s x line := by
  by_cases h0 : x.d = 0
  · exact order_acc h0
  · by_cases h1 : x.d = 1
    · exact order_work hI hQ ho hml hown h1
    · exact order_done hQ h0 h1
end Go.Sx

/- Steps of the laws of homes, read. My own work. -/
namespace Go.Sx
open Go Go.Proofs Go.ChangeShapes Go.WideShapes
set_option linter.unusedVariables false
section
variable {H : Type} (enc : TypeId × Value → H) (P : Program) (W : World)
theorem rd_HStep {cs : List Value} (h : LeafsOk enc P W (List.replicate 20 (.int .i64)) cs) : ∃ x : HStep, x.wf ∧ cs = hsc x ∧ (hsc x).all one = true := by
  obtain ⟨l, h1, h2, rfl⟩ := leafs_ints enc P W _ _ h
  match l, h1 with
  | [d, n, l0, l1, l2, b0, b1, b2, b3, b4, b5, b6, a0, a1, a2, a3, a4, a5, a6, a7], _ =>
    exact ⟨⟨d, n, l0, l1, l2, ⟨b0, b1, b2, b3, b4, b5, b6, ⟨a0, a1, a2, a3, a4, a5, a6, a7⟩⟩⟩, ⟨h2 _ (by simp), h2 _ (by simp), ⟨h2 _ (by simp), h2 _ (by simp), h2 _ (by simp)⟩, ⟨h2 _ (by simp), h2 _ (by simp), h2 _ (by simp), h2 _ (by simp), h2 _ (by simp), h2 _ (by simp), h2 _ (by simp), fun y hy => h2 y (by
      simp only [Words.list, List.mem_cons, List.not_mem_nil, or_false] at hy
      rcases hy with g | g | g | g | g | g | g | g <;> (subst g; simp))⟩⟩, rfl, rfl⟩
end
end Go.Sx
