/- CaLocP: several of my texts as one. My own work. -/
import Derived.Test.YtlaohgngdaglmaaGreatZan
/- Caches told of lists: as many ways are locked as there are misses. My own work. -/
namespace Go.Sx
open Go Go.Proofs
set_option linter.unusedVariables false
set_option linter.unusedSimpArgs false
theorem nodup_len : ∀ {A B : List Int}, A.Nodup → (∀ x ∈ A, x ∈ B) → A.length ≤ B.length
  | [], _, _, _ => Nat.zero_le _
  | a :: r, B, hn, hs => by
    obtain ⟨h1, h2⟩ := List.nodup_cons.1 hn
    have ha := hs a (by simp)
    have := nodup_len (A := r) (B := B.erase a) h2 (fun x hx => (List.mem_erase_of_ne (show x ≠ a from fun g => h1 (g ▸ hx))).2 (hs x (by simp [hx])))
    rw [List.length_erase_of_mem ha] at this
    have hp : 0 < B.length := List.length_pos_of_mem ha
    simp only [List.length_cons]; omega
theorem lock_count {c : Cfg} {ways : List Way} {M B : List Int} (hI : ArrInv c ways) (h : CaI2 c ways M B) : (ways.filter (·.lk)).length = M.length := by
  have hA : ((ways.filter (·.lk)).map (·.line)).Nodup := by
    unfold List.Nodup
    rw [List.pairwise_map, List.pairwise_filter, List.pairwise_iff_getElem]
    intro i j hi hj hij hk1 hk2 e
    have := (hI i hi (by simp [thereB, hk1])).2.2.2 j hj (by simp [thereB, hk2]) e.symm
    omega
  have h1 := nodup_len (B := M) hA (fun x hx => by
    obtain ⟨w, hw, e⟩ := List.mem_map.1 hx
    obtain ⟨hw1, hw2⟩ := List.mem_filter.1 hw
    subst e
    exact h.lm _ w (vw_mem hI hw1 (by simp [thereB, hw2])) hw2)
  have h2 := nodup_len (A := M) (B := (ways.filter (·.lk)).map (·.line)) h.nd (fun x hx => by
    obtain ⟨w, hw, hk⟩ := h.ml x hx
    obtain ⟨e, _, hm, _⟩ := vw_some hw
    exact List.mem_map.2 ⟨w, List.mem_filter.2 ⟨hm, hk⟩, e⟩)
  rw [List.length_map] at h1 h2
  omega
theorem filter_next {l : List Way} {i : Nat} (hi : i < l.length) : ((l.take (i + 1)).filter (·.lk)).length = ((l.take i).filter (·.lk)).length + (if l[i].lk then 1 else 0) := by
  rw [List.take_succ_eq_append_getElem hi, List.filter_append, List.length_append]
  cases h : l[i].lk <;> simp [h]
theorem filter_le (l : List Way) (i : Nat) : ((l.take i).filter (·.lk)).length ≤ l.length := by
  have h1 := List.length_filter_le (fun w : Way => w.lk) (l.take i)
  have h2 : (l.take i).length ≤ l.length := List.length_take_le' ..
  omega
end Go.Sx
