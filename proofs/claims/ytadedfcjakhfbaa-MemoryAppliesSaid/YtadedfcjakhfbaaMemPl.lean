/- Memories as lists: what was stored last is loaded; what is applied is what is done. My own work; names no program. -/
import Derived.Test.YtadedfcjakhfbaaMem
namespace Go.Sx
open Go Go.Proofs
set_option linter.unusedVariables false
set_option linter.unusedSimpArgs false

theorem word_do {ms : List Int} {x : Op3} (h : doOk ms x = true) : wordAt (memDoL ms x) x.addr = if x.kind = 2 ∨ x.kind = 3 then x.value else wordAt ms x.addr := by
  obtain ⟨h1, h2, h3, h4, h5⟩ := doOk_facts h
  have hn : x.addr.toNat < ms.length := by omega
  rcases h5 with e | e | e | e <;> simp [memDoL, h, e, touchL, wordAt, memIn, h2, h3, hn]
theorem word_ne {ms : List Int} {y : Op3} {a : Int} (hne : y.addr ≠ a) : wordAt (memDoL ms y) a = wordAt ms a := by
  unfold memDoL
  split
  · rename_i h
    obtain ⟨h1, h2, h3, h4, h5⟩ := doOk_facts h
    split
    · rfl
    · unfold touchL
      split
      · unfold wordAt memIn
        simp only [List.length_set]
        split
        · rename_i hi
          have hi := of_decide_eq_true hi
          have : y.addr.toNat ≠ a.toNat := by omega
          simp [List.getD_eq_getElem?_getD, List.getElem?_set, this]
        · rfl
      · rfl
  · rfl
theorem doV_was {ms : List Int} {x : Op3} (h : doOk ms x = true) (hk : x.kind = 1 ∨ x.kind = 3) : memDoV ms x = wordAt ms x.addr := by
  obtain ⟨h1, h2, h3, h4, h5⟩ := doOk_facts h
  rcases hk with e | e <;> simp [memDoV, h, e, touchE, wordAt, memIn, h2, h3]
theorem doOk_load {ms : List Int} {a : Int} (h : 0 ≤ a) (h1 : a < ms.length) (h2 : a ≤ 8191) : doOk ms ⟨1, a, 0⟩ = true := by
  simp [doOk, mayB, h, h1, h2]

theorem list_of_pad {l : List Int} (h : l.length ≤ 8) : (Words.of l).list = l ++ List.replicate (8 - l.length) 0 := by
  match l, h with
  | [], _ => rfl
  | [a], _ => rfl
  | [a, b], _ => rfl
  | [a, b, c], _ => rfl
  | [a, b, c, d], _ => rfl
  | [a, b, c, d, e], _ => rfl
  | [a, b, c, d, e, f], _ => rfl
  | [a, b, c, d, e, f, g], _ => rfl
  | [a, b, c, d, e, f, g, i], _ => rfl
  | a :: b :: c :: d :: e :: f :: g :: i :: j :: r, h => exact absurd h (by simp)
theorem set_mid (A L B : List Int) (i : Nat) (h : i < L.length) (v : Int) : (A ++ (L ++ B)).set (A.length + i) v = A ++ (L.set i v ++ B) := by
  rw [List.set_append_right _ _ (by omega), Nat.add_sub_cancel_left, List.set_append_left _ _ h]
theorem get_mid (A L B : List Int) (i : Nat) (h : i < L.length) : (A ++ (L ++ B)).getD (A.length + i) 0 = L.getD i 0 := by
  simp [List.getD_eq_getElem?_getD, List.getElem?_append_right, List.getElem?_append_left h]
theorem get_left (L B : List Int) (i : Nat) (h : i < L.length) : (L ++ B).getD i 0 = L.getD i 0 := by
  simp [List.getD_eq_getElem?_getD, List.getElem?_append_left h]
theorem touchL_mid (A L B : List Int) (i : Nat) (h : i < L.length) (x : Op3) : touchL (A ++ (L ++ B)) (A.length + i) x = A ++ (touchL L i x ++ B) := by
  unfold touchL; split
  · exact set_mid A L B i h _
  · rfl

theorem apply_same {c : Cfg} {ms : List Int} {x : Op3} (hn : (ms.length : Int) = c.words * c.lines) (h : apOk c x = true) :
    okJoin c (addrL c x.addr) 0 = true ∧ doOk ms x = true ∧ x.kind ≠ 4 ∧ 0 ≤ addrW c x.addr ∧ addrW c x.addr < 8 ∧ (lineWo c ms (addrL c x.addr)).list.getD (addrW c x.addr).toNat 0 = wordAt ms x.addr ∧
    wrOk c (addrL c x.addr) (apW c (lineWo c ms (addrL c x.addr)) x) = true ∧ wrL c ms (addrL c x.addr) (apW c (lineWo c ms (addrL c x.addr)) x) = memDoL ms x ∧ apV c (lineWo c ms (addrL c x.addr)) x = memDoV ms x := by
  have h0 := h
  simp only [apOk, Bool.and_eq_true, Bool.not_eq_true', decide_eq_false_iff_not] at h
  obtain ⟨⟨ha, hm⟩, h4⟩ := h
  have ha0 := ha
  simp only [okAddr, Bool.and_eq_true, decide_eq_true_eq] at ha
  obtain ⟨hck, ha1, ha2⟩ := ha
  have hw := check_words hck
  have eL : addrL c x.addr = x.addr / c.words := by simp [addrL, ha0]
  have eW : addrW c x.addr = x.addr % c.words := by simp [addrW, ha0]
  have hq := Int.ediv_mul_add_emod x.addr c.words
  have hr0 := Int.emod_nonneg x.addr (show c.words ≠ 0 by omega)
  have hr1 := Int.emod_lt_of_pos x.addr (show 0 < c.words by omega)
  rw [eL, eW]
  generalize x.addr / c.words = q at *
  generalize x.addr % c.words = r at *
  have hql : q < c.lines := by
    rcases Int.lt_or_le q c.lines with h | h
    · exact h
    · have := Int.mul_le_mul_of_nonneg_right h (show 0 ≤ c.words by omega)
      rw [Int.mul_comm c.lines] at this; omega
  have hq0 : 0 ≤ q := by
    rcases Int.lt_or_le q 0 with h | h
    · have := Int.mul_le_mul_of_nonneg_right (show q ≤ -1 by omega) (show 0 ≤ c.words by omega)
      omega
    · exact h
  have hJ : okJoin c q 0 = true := by simp [okJoin, hck, hq0, hql]; omega
  have hD : doOk ms x = true := by simp [doOk, hm]; omega
  obtain ⟨j1, j2, j3, j4, j5, j6, j7, j8⟩ := join_facts hJ hn
  have hfe : lineF c q = (q * c.words).toNat := rfl
  generalize hz : q * c.words = z at *
  have hAl : (ms.take (lineF c q)).length = lineF c q := by rw [List.length_take]; omega
  have hLl : (lineL c ms q).length = c.words.toNat := by unfold lineL; simp; omega
  have hms : ms = ms.take (lineF c q) ++ (lineL c ms q ++ ms.drop (lineF c q + c.words.toNat)) := by
    unfold lineL; rw [← List.drop_drop, List.take_append_drop, List.take_append_drop]
  have hat : x.addr.toNat = (ms.take (lineF c q)).length + r.toNat := by omega
  have hri : r.toNat < (lineL c ms q).length := by omega
  have hwl : (lineWo c ms q).list = lineL c ms q ++ List.replicate (8 - (lineL c ms q).length) 0 := by simp only [lineWo, hJ, if_true]; exact list_of_pad (by omega)
  have htl : touchL (lineWo c ms q).list r.toNat x = touchL (lineL c ms q) r.toNat x ++ List.replicate (8 - (lineL c ms q).length) 0 := by
    rw [hwl]
    have := touchL_mid [] (lineL c ms q) (List.replicate (8 - (lineL c ms q).length) 0) r.toNat hri x
    simpa using this
  have hap : (apW c (lineWo c ms q) x).list = touchL (lineL c ms q) r.toNat x ++ List.replicate (8 - (lineL c ms q).length) 0 := by
    simp only [apW, h0, if_true, eW]
    rw [Words.list_of (by rw [touchL_len]; rfl), htl]
  have hget : (lineWo c ms q).list.getD r.toNat 0 = ms.getD x.addr.toNat 0 := by
    rw [hwl, get_left _ _ _ hri, hat]
    conv => rhs; rw [hms]
    have := get_mid (ms.take (lineF c q)) (lineL c ms q) (ms.drop (lineF c q + c.words.toNat)) r.toNat hri
    rw [← this]
    congr 2
    rw [← hms]
  have hwo : wrOk c q (apW c (lineWo c ms q) x) = true := by
    simp only [wrOk, hJ, Bool.true_and, tailZ]
    rw [hap, List.drop_left' (by rw [touchL_len]; exact hLl)]
    simp
  refine ⟨hJ, hD, h4, hr0, by omega, ?_, hwo, ?_, ?_⟩
  · rw [hget]; simp [wordAt, memIn, ha1]; intro h; omega
  · simp only [wrL, hwo, if_true]
    rw [hap, List.take_left' (by rw [touchL_len]; exact hLl)]
    simp only [memDoL, hD, if_true, h4, if_false]
    rw [hat]
    conv => rhs; rw [hms]
    have := touchL_mid (ms.take (lineF c q)) (lineL c ms q) (ms.drop (lineF c q + c.words.toNat)) r.toNat hri x
    rw [List.append_assoc, ← this]
    congr 2
    rw [← hms]
  · simp only [apV, h0, if_true, eW, memDoV, hD, h4, if_false, touchE, hget]
end Go.Sx
