/- Messages: what bytes tell, there and back. Plain. My own work. -/
import Derived.Test.YtadedfcjakhfbabMsgPut
namespace Go.Sx
open Go Go.Proofs
set_option linter.unusedVariables false
set_option linter.unusedSectionVars false
set_option linter.unusedSimpArgs false
def sgn32 (n : Int) : Int := if 2147483647 < n then n - 4294967296 else n
def wordAt (s : ByteArray) (k : Nat) : Int := sgn32 (bat s k * 16777216 + bat s (k + 1) * 65536 + bat s (k + 2) * 256 + bat s (k + 3))
def Words.fn (f : Nat → Int) : Words := ⟨f 0, f 1, f 2, f 3, f 4, f 5, f 6, f 7⟩
def headM (s : ByteArray) (w : Words) : Msg := ⟨bat s 0, bat s 1 * 256 + bat s 2, bat s 3, bat s 4, bat s 5, bat s 6, bat s 7, w⟩
def parN (s : ByteArray) (n : Nat) : Msg := headM s (Words.fn fun j => if j < n then wordAt s (8 + 4 * j) else 0)
def nP (c : Cfg) (s : ByteArray) : Nat := if Wordy (bat s 0) then min (min c.words.toNat 8) ((s.size - 8) / 4) else 0
def nR (s : ByteArray) : Nat := min 8 ((s.size - 8) / 4)
theorem of_at {f : Nat → Int} {w : Words} (h : ∀ j, j < 8 → f j = w.at j) : Words.fn f = w := by
  obtain ⟨w0, w1, w2, w3, w4, w5, w6, w7⟩ := w
  unfold Words.fn
  rw [h 0 (by omega), h 1 (by omega), h 2 (by omega), h 3 (by omega), h 4 (by omega), h 5 (by omega), h 6 (by omega), h 7 (by omega)]
  rfl
theorem wordsB_len (w : Words) : ∀ n, (wordsB w n).length = 4 * n
  | 0 => rfl
  | n + 1 => by simp only [wordsB, List.length_append, wordsB_len w n, wordB, List.length_cons, List.length_nil]; omega
theorem wordsB_at (w : Words) : ∀ (n j t : Nat), j < n → t < 4 → (wordsB w n)[4 * j + t]? = (wordB (w.at j))[t]?
  | 0, j, t, h, _ => by omega
  | n + 1, j, t, h, ht => by
    have hl := wordsB_len w n
    rw [wordsB, List.getElem?_append]
    by_cases hj : j < n
    · rw [if_pos (by omega)]; exact wordsB_at w n j t hj ht
    · have hj' : j = n := by omega
      subst hj'
      rw [if_neg (by omega), hl]
      congr 1; omega
theorem putB_len (c : Cfg) (m : Msg) : (putB c m).length = 8 + 4 * (if Wordy m.kind then c.words.toNat else 0) := by
  unfold putB
  rw [List.length_append]
  split
  · rw [wordsB_len]; rfl
  · rfl
theorem putB_byte (c : Cfg) (m : Msg) : ∀ n ∈ putB c m, 0 ≤ n ∧ n < 256 := by
  have hw : ∀ k, ∀ n ∈ wordsB m.words k, 0 ≤ n ∧ n < 256 := fun k => by
    induction k with
    | zero => intro n h; cases h
    | succ k ih =>
      intro n h
      rw [wordsB, List.mem_append] at h
      rcases h with h | h
      · exact ih n h
      · simp only [wordB, List.mem_cons, List.not_mem_nil, or_false] at h
        rcases h with rfl | rfl | rfl | rfl <;> omega
  intro n h
  unfold putB at h
  rw [List.mem_append] at h
  rcases h with h | h
  · simp only [headB, List.mem_cons, List.not_mem_nil, or_false] at h
    rcases h with rfl | rfl | rfl | rfl | rfl | rfl | rfl | rfl <;> omega
  · split at h
    · exact hw _ n h
    · cases h
theorem bat_put {c : Cfg} {m : Msg} {i : Nat} {v : Int} (h : (putB c m)[i]? = some v) : bat (bstr (putB c m)) i = v := by
  obtain ⟨hi, rfl⟩ := List.getElem?_eq_some_iff.1 h
  exact bat_bstr (putB_byte c m) i hi
theorem home_bd {c : Cfg} {m : Msg} (h : checkB c = true) (hl : 0 ≤ m.line) : 0 ≤ homeN c m ∧ homeN c m < 16 := by
  obtain ⟨b1, b2, b3, b4⟩ := cfg_bnd h
  unfold homeN
  rw [Int.tmod_eq_emod_of_nonneg hl]
  have h1 := Int.emod_nonneg m.line (show c.homes ≠ 0 by omega)
  have h2 := Int.emod_lt_of_pos m.line (show 0 < c.homes by omega)
  omega
theorem may_bytes {c : Cfg} {m : Msg} (h : MayP c m) : (0 ≤ m.src ∧ m.src < 256) ∧ (0 ≤ m.dst ∧ m.dst < 256) ∧ (0 ≤ m.who ∧ m.who < 256) ∧ (0 ≤ m.acks ∧ m.acks < 256) ∧ (0 ≤ m.own ∧ m.own < 256) := by
  obtain ⟨h1, h2, h3, h4, h5⟩ := h
  have hb := home_bd (m := m) h1 h3.1
  have hb2 := home_bd (m := { m with who := 0 }) h1 h3.1
  have he : homeN c { m with who := 0 } = homeN c m := rfl
  obtain ⟨b1, b2, b3, b4⟩ := cfg_bnd h1
  unfold FormP at h4
  split at h4
  · simp only [UpP, PlainP, Bool.false_eq_true, if_false] at h4; omega
  · split at h4
    · simp only [ForwardP, DownP, PlainP, Bool.false_eq_true, if_false, he, true_and] at h4; omega
    · split at h4
      · simp only [ForwardP, DownP, PlainP, if_true, he, true_and] at h4; omega
      · split at h4
        · simp only [DataP] at h4; omega
        · split at h4
          · simp only [DownP, PlainP, if_true] at h4; omega
          · split at h4
            · simp only [DownP, PlainP, Bool.false_eq_true, if_false] at h4; omega
            · simp only [AcrossP, PlainP, Bool.false_eq_true, if_false] at h4; omega
theorem sgn_word {n : Int} (h0 : -2147483648 ≤ n) (h1 : n ≤ 2147483647) : sgn32 (n / 16777216 % 256 * 16777216 + n / 65536 % 256 * 65536 + n / 256 % 256 * 256 + n % 256) = n := by
  unfold sgn32
  split <;> omega
theorem par_put {c : Cfg} {m : Msg} (h : MayP c m) : 8 ≤ (putS c m).size ∧ (putS c m).size ≤ 40 ∧ parN (putS c m) (nP c (putS c m)) = m ∧ parN (putS c m) (nR (putS c m)) = m := by
  obtain ⟨k1, k2, k3, k4, k5⟩ := may_bytes h
  obtain ⟨h1, h2, h3, h4, h5⟩ := id h
  obtain ⟨b1, b2, b3, b4⟩ := cfg_bnd h1
  have es : putS c m = bstr (putB c m) := by unfold putS; rw [if_pos h]
  have hsz : (putS c m).size = 8 + 4 * (if Wordy m.kind then c.words.toNat else 0) := by rw [es, bstr_size, putB_len]
  have a0 : bat (putS c m) 0 = m.kind := by rw [es, bat_put (v := m.kind % 256) rfl]; omega
  have a1 : bat (putS c m) 1 = m.line / 256 % 256 := by rw [es, bat_put (v := m.line / 256 % 256) rfl]
  have a2 : bat (putS c m) 2 = m.line % 256 := by rw [es, bat_put (v := m.line % 256) rfl]
  have a3 : bat (putS c m) 3 = m.src := by rw [es, bat_put (v := m.src % 256) rfl]; omega
  have a4 : bat (putS c m) 4 = m.dst := by rw [es, bat_put (v := m.dst % 256) rfl]; omega
  have a5 : bat (putS c m) 5 = m.who := by rw [es, bat_put (v := m.who % 256) rfl]; omega
  have a6 : bat (putS c m) 6 = m.acks := by rw [es, bat_put (v := m.acks % 256) rfl]; omega
  have a7 : bat (putS c m) 7 = m.own := by rw [es, bat_put (v := m.own % 256) rfl]; omega
  have key : ∀ n, n = (if Wordy m.kind then c.words.toNat else 0) → parN (putS c m) n = m := by
    rintro n rfl
    have hwd : (Words.fn fun j => if j < (if Wordy m.kind then c.words.toNat else 0) then wordAt (putS c m) (8 + 4 * j) else 0) = m.words := by
      refine of_at fun j hj => ?_
      unfold WordsP at h5
      by_cases hwy : Wordy m.kind
      · rw [if_pos hwy] at h5 ⊢
        have hv := h5 j hj
        unfold OkAt at hv
        by_cases hjn : j < c.words.toNat
        · rw [if_pos hjn]
          have hat : ∀ t, t < 4 → (putB c m)[8 + 4 * j + t]? = (wordB (m.words.at j))[t]? := fun t ht => by
            unfold putB
            rw [if_pos hwy, List.getElem?_append, if_neg (by simp [headB]; omega)]
            rw [← wordsB_at m.words c.words.toNat j t hjn ht]
            congr 1
            simp only [headB, List.length_cons, List.length_nil]; omega
          unfold wordAt
          rw [es, bat_put (v := m.words.at j / 16777216 % 256) (i := 8 + 4 * j) (hat 0 (by omega)), bat_put (v := m.words.at j / 65536 % 256) (hat 1 (by omega)), bat_put (v := m.words.at j / 256 % 256) (hat 2 (by omega)), bat_put (v := m.words.at j % 256) (hat 3 (by omega))]
          exact sgn_word hv.1 hv.2.1
        · rw [if_neg hjn]
          exact (hv.2.2 (by omega)).symm
      · rw [if_neg hwy] at h5 ⊢
        rw [if_neg (by omega), h5]
        have hcase : j = 0 ∨ j = 1 ∨ j = 2 ∨ j = 3 ∨ j = 4 ∨ j = 5 ∨ j = 6 ∨ j = 7 := by omega
        rcases hcase with rfl | rfl | rfl | rfl | rfl | rfl | rfl | rfl <;> rfl
    unfold parN headM
    rw [hwd, a0, a1, a2, a3, a4, a5, a6, a7]
    have hline : m.line / 256 % 256 * 256 + m.line % 256 = m.line := by omega
    rw [hline]
  refine ⟨by omega, by split at hsz <;> omega, key _ ?_, key _ ?_⟩
  · unfold nP
    rw [a0, hsz]
    split
    · omega
    · rfl
  · unfold nR
    rw [hsz]
    split <;> omega
def OkT (c : Cfg) (s : ByteArray) : Prop := 8 ≤ s.size ∧ MayP c (parN s (nP c s)) ∧ putS c (parN s (nP c s)) = s
instance (c : Cfg) (s : ByteArray) : Decidable (OkT c s) := by unfold OkT; infer_instance
def takeM (c : Cfg) (s : ByteArray) : Msg := if OkT c s then parN s (nP c s) else .zero
def takeE' (c : Cfg) (s : ByteArray) : Int := if OkT c s then 0 else 2
theorem okT_ref {c : Cfg} {s : ByteArray} : OkT c s ↔ 8 ≤ s.size ∧ s.size ≤ 40 ∧ MayP c (parN s (nR s)) ∧ putS c (parN s (nR s)) = s := by
  constructor
  · rintro ⟨h1, h2, h3⟩
    obtain ⟨p1, p2, p3, p4⟩ := par_put h2
    rw [h3] at p2 p3 p4
    rw [p4]
    exact ⟨h1, p2, h2, h3⟩
  · rintro ⟨h1, h0, h2, h3⟩
    obtain ⟨p1, p2, p3, p4⟩ := par_put h2
    rw [h3] at p2 p3 p4
    unfold OkT
    rw [p3]
    exact ⟨h1, h2, h3⟩
theorem takeM_ref {c : Cfg} {s : ByteArray} (h : OkT c s) : takeM c s = parN s (nR s) := by
  obtain ⟨h1, h2, h3⟩ := id h
  obtain ⟨p1, p2, p3, p4⟩ := par_put h2
  rw [h3] at p4
  unfold takeM
  rw [if_pos h, p4]
theorem take_put {c : Cfg} {m : Msg} (h : MayP c m) : takeM c (putS c m) = m ∧ takeE' c (putS c m) = 0 := by
  obtain ⟨p1, p2, p3, p4⟩ := par_put h
  have ok : OkT c (putS c m) := ⟨p1, by rw [p3]; exact h, by rw [p3]⟩
  unfold takeM takeE'
  rw [if_pos ok, if_pos ok]
  exact ⟨p3, rfl⟩
theorem put_take {c : Cfg} {s : ByteArray} (h : OkT c s) : putS c (takeM c s) = s ∧ MayP c (takeM c s) := by
  unfold takeM
  rw [if_pos h]
  exact ⟨h.2.2, h.2.1⟩
end Go.Sx
