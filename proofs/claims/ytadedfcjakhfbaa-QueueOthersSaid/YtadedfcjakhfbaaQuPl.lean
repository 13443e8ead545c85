/- Queues as lists: what holds of them whatever is done. My own work; names no program. -/
import Derived.Test.YtadedfcjakhfbaaQueue
namespace Go.Sx
open Go Go.Proofs
set_option linter.unusedVariables false
set_option linter.unusedSimpArgs false

/-! ## What is done -/
structure QIn where
  d : Int
  n : Int
  m : Msg
  sends : List Msg
def qdoL (room : Int) (l : List QE) (x : QOp) : List QE := if x.d = 0 then qaddL room l x.m else if x.d = 1 then qstartL l x.n x.sends else if x.d = 2 then qsentL l x.n else qfinL l x.m.line x.m.src
def qdoM (l : List QE) (x : QOp) : Msg := if x.d = 0 then .zero else if x.d = 1 then .zero else if x.d = 2 then qnextM l x.n else .zero
def qdoB (l : List QE) (x : QOp) : Bool := if x.d = 0 then false else if x.d = 1 then false else if x.d = 2 then qnextB l x.n else false
def qdoE (room : Int) (l : List QE) (x : QOp) : Int := if x.d = 0 then qaddE room l x.m else if x.d = 1 then qstartE l x.n x.sends else if x.d = 2 then qsentE l x.n else qfinE l x.m.line x.m.src

/-- What holds of a queue's entries: one that is started is the first one of its line; one that isn't has nothing to send. -/
def QInv (l : List QE) : Prop := (∀ i j (hi : i < l.length) (hj : j < l.length), i < j → l[i].m.line = l[j].m.line → l[j].st = false) ∧ ∀ e ∈ l, e.st = false → e.sends = []

theorem qinv_nil : QInv [] := ⟨fun i j hi => by simp at hi, fun e he => by simp at he⟩
theorem qinv_add {l : List QE} {m : Msg} (h : QInv l) : QInv (l ++ [⟨m, false, []⟩]) := by
  refine ⟨fun i j hi hj hij he => ?_, fun e he hs => ?_⟩
  · by_cases hjl : j < l.length
    · have hil : i < l.length := by omega
      rw [List.getElem_append_left hil, List.getElem_append_left hjl] at he
      rw [List.getElem_append_left hjl]
      exact h.1 i j hil hjl hij he
    · rw [List.getElem_append_right (by omega)]
      simp
  · rcases List.mem_append.1 he with h1 | h1
    · exact h.2 e h1 hs
    · rw [List.mem_singleton.1 h1]
theorem getElem_eraseIdx' {l : List QE} {k i : Nat} (hi : i < (l.eraseIdx k).length) : ∃ h : (if i < k then i else i + 1) < l.length, (l.eraseIdx k)[i] = l[if i < k then i else i + 1] := by
  have hlen := List.length_eraseIdx (l := l) (i := k)
  refine ⟨?_, ?_⟩
  · split at hlen <;> split <;> omega
  · rw [List.getElem_eraseIdx]; split <;> rename_i h <;> simp [h]
theorem qinv_erase {l : List QE} {k : Nat} (h : QInv l) : QInv (l.eraseIdx k) := by
  refine ⟨fun i j hi hj hij he => ?_, fun e he hs => h.2 e (List.mem_of_mem_eraseIdx he) hs⟩
  obtain ⟨a, ea⟩ := getElem_eraseIdx' hi
  obtain ⟨b, eb⟩ := getElem_eraseIdx' hj
  rw [ea, eb] at he
  rw [eb]
  refine h.1 _ _ a b ?_ he
  split <;> split <;> omega
/-- One entry is changed: its message stays; it is started, and the first one of its line. -/
theorem qinv_set {l : List QE} {k : Nat} {e : QE} (hk : k < l.length) (h : QInv l) (hm : e.m = l[k].m) (hs : e.st = true) (hf : ∀ i (hi : i < l.length), i < k → l[i].m.line ≠ l[k].m.line)
    (ho : ∀ j (hj : j < l.length), k < j → l[j].m.line = l[k].m.line → l[j].st = false) : QInv (l.set k e) := by
  have hmm : ∀ i (hi : i < (l.set k e).length), (l.set k e)[i].m = (l[i]'(by simpa using hi)).m := by
    intro i hi
    rw [List.getElem_set]; split
    · rename_i h; subst h; exact hm
    · rfl
  refine ⟨fun i j hi hj hij he => ?_, fun x hx hxs => ?_⟩
  · have hi' : i < l.length := by simpa using hi
    have hj' : j < l.length := by simpa using hj
    rw [hmm i hi, hmm j hj] at he
    rw [List.getElem_set]
    split
    · rename_i hkj; subst hkj
      exact absurd he (hf i hi' hij)
    · exact h.1 i j hi' hj' hij he
  · rcases List.mem_or_eq_of_mem_set hx with h1 | h1
    · exact h.2 x h1 hxs
    · subst h1; rw [hs] at hxs; cases hxs

theorem qin_t {l : List QE} {n : Int} (h : qin l n = true) : ∃ i : Nat, ∃ hi : i < l.length, n = i ∧ qat l n = l[i] := by
  have h0 := of_decide_eq_true h
  refine ⟨n.toNat, by omega, by omega, ?_⟩
  have hi : n.toNat < l.length := by omega
  simp [qat, h, hi]
theorem qready_t {l : List QE} {n : Int} (h : qready l n = true) : ∃ i : Nat, ∃ hi : i < l.length, n = i ∧ qat l n = l[i] ∧ l[i].st = false ∧ ∀ j (hj : j < l.length), j < i → l[j].m.line ≠ l[i].m.line := by
  simp only [qready, Bool.and_eq_true, Bool.not_eq_true'] at h
  obtain ⟨⟨h1, h2⟩, h3⟩ := h
  obtain ⟨i, hi, rfl, e⟩ := qin_t h1
  rw [e] at h2 h3
  refine ⟨i, hi, rfl, e, h2, fun j hj hji => ?_⟩
  simp only [qfree, Int.toNat_natCast, List.all_eq_true] at h3
  have := h3 l[j] (by rw [List.mem_iff_getElem]; exact ⟨j, by simp; omega, by simp⟩)
  simpa using this

theorem qinv_do {room : Int} {l : List QE} {x : QOp} (h : QInv l) : QInv (qdoL room l x) := by
  unfold qdoL
  split
  · unfold qaddL; split
    · exact qinv_add h
    · exact h
  · split
    · unfold qstartL; split
      · rename_i hs
        unfold qstartE at hs
        split at hs
        · split at hs
          · rename_i hr
            obtain ⟨hr, _⟩ := Bool.and_eq_true_iff.1 hr
            obtain ⟨i, hi, e1, e2, e3, e4⟩ := qready_t hr
            rw [e2, e1, Int.toNat_natCast]
            exact qinv_set hi h rfl rfl e4 fun j hj hij he => h.1 i j hi hj hij he.symm
          · cases hs
        · cases hs
      · exact h
    · split
      · unfold qsentL; split
        · rename_i hs
          unfold qsentE at hs
          split at hs
          · rename_i hin
            obtain ⟨i, hi, e1, e2⟩ := qin_t hin
            split at hs
            · cases hs
            · rename_i hn
              rw [e2] at hn ⊢
              split
              · exact qinv_erase h
              · rw [e1, Int.toNat_natCast]
                have hst : l[i].st = true := by
                  cases hc : l[i].st with
                  | true => rfl
                  | false => exact absurd (by rw [h.2 _ (List.getElem_mem hi) hc]; rfl) hn
                refine qinv_set hi h rfl hst (fun j hj hji he => ?_) fun j hj hij he => h.1 i j hi hj hij he.symm
                have := h.1 j i hj hi hji he
                rw [hst] at this; cases this
          · cases hs
        · exact h
      · unfold qfinL; split
        · exact h
        · exact qinv_erase h

theorem qroom_do {room : Int} {l : List QE} {x : QOp} (h : (l.length : Int) ≤ room) : ((qdoL room l x).length : Int) ≤ room := by
  unfold qdoL
  split
  · unfold qaddL; split
    · rename_i hs
      unfold qaddE at hs
      split at hs
      · cases hs
      · split at hs
        · cases hs
        · simp; omega
    · exact h
  · split
    · unfold qstartL; split <;> simp [h]
    · split
      · unfold qsentL; split
        · split
          · have := List.length_eraseIdx_le l x.n.toNat; omega
          · simpa using h
        · exact h
      · unfold qfinL; split
        · exact h
        · have := List.length_eraseIdx_le l (indexBy (qgone x.m.line x.m.src) l).toNat; omega
end Go.Sx
