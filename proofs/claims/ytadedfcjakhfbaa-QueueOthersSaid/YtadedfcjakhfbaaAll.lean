/- Many atoms as one; slices that are only read, in blocks of their own. My own work; names no program. -/
import Derived.Test.YtadedfcjakhfbaaData
namespace Go.Sx
open Go
set_option linter.unusedVariables false

theorem star_perm {L M : List HP} (p : L.Perm M) : ∀ h, Star L h → Star M h := by
  induction p with
  | nil => exact fun _ h => h
  | cons x _ ih => exact fun _ h => star_cons ih h
  | swap x y l => exact fun _ h => star_swap h
  | trans _ _ a b => exact fun h x => b h (a h x)
theorem ent_perm {L M : List HP} (p : L.Perm M) : Ent L M := star_perm p

theorem erase_perm {α : Type} : ∀ (l : List α) (i : Nat) (hi : i < l.length), (l[i] :: l.eraseIdx i).Perm l
  | a :: r, 0, _ => List.Perm.refl _
  | a :: r, i + 1, hi => (List.Perm.swap _ _ _).trans ((erase_perm r i (by simpa using hi)).cons a)
  | [], i, hi => by simp at hi
/-- Many atoms. -/
structure All (ps : List HP) (h : PH) : Prop where
  pf : Star ps h
theorem all_open {ps L : List HP} : Ent (All ps :: L) (ps ++ L) := fun h ⟨S, T, d, hp, hL⟩ => star_append_of d hp.pf hL
theorem all_close {ps L : List HP} : Ent (ps ++ L) (All ps :: L) := fun h H => by
  obtain ⟨S, T, d, h1, h2⟩ := star_split H
  exact ⟨S, T, d, ⟨h1⟩, h2⟩
theorem all_nil {L : List HP} : Ent L (All [] :: L) := all_close (ps := [])
section
variable {α : Type} {f : α → HP} {qs : List α} {L : List HP}
theorem all_take (i : Nat) (hi : i < qs.length) : Ent (All (qs.map f) :: L) (f qs[i] :: All ((qs.eraseIdx i).map f) :: L) := by
  refine Ent.trans all_open (Ent.trans (ent_perm ?_) (Ent.cons all_close))
  have := (erase_perm qs i hi).map f
  exact (this.symm.append_right L)
theorem all_put (i : Nat) (hi : i < qs.length) (x : α) : Ent (f x :: All ((qs.eraseIdx i).map f) :: L) (All ((qs.set i x).map f) :: L) := by
  refine Ent.trans (Ent.cons all_open) (Ent.trans (ent_perm ?_) all_close)
  have h2 : i < (qs.set i x).length := by simpa using hi
  have := (erase_perm (qs.set i x) i h2).map f
  simp only [List.getElem_set_self, List.eraseIdx_set_eq] at this
  exact this.append_right L
theorem all_back (i : Nat) (hi : i < qs.length) : Ent (f qs[i] :: All ((qs.eraseIdx i).map f) :: L) (All (qs.map f) :: L) := by
  have := all_put (f := f) (L := L) i hi qs[i]
  simpa using this
theorem all_add (x : α) : Ent (f x :: All (qs.map f) :: L) (All ((qs ++ [x]).map f) :: L) := by
  refine Ent.trans (Ent.cons all_open) (Ent.trans (ent_perm ?_) all_close)
  rw [List.map_append]
  exact (List.perm_append_singleton (f x) (qs.map f)).symm.append_right L
theorem all_erase (i : Nat) : Ent (All (qs.map f) :: L) (All ((qs.eraseIdx i).map f) :: L) := by
  by_cases hi : i < qs.length
  · exact Ent.trans (all_take i hi) (Ent.drop Ent.refl)
  · rw [List.eraseIdx_of_length_le (by omega)]; exact Ent.refl
end

/-- 'v' is a slice that can be read, in a block of its own. -/
structure Rds (sz : Nat) (v : Value) (n : Nat) (xs : List Value) (h : PH) : Prop where
  len : xs.length = n * sz
  ones : xs.all one = true
  pf : (∃ p c, v = .slice p 0 c ∧ n = 0) ∨ ∃ b o c cur T, v = .slice (some ⟨b, o, none⟩) n c ∧ h.c b = some (.cells cur T (0, 0)) ∧ ∀ j u, xs[j]? = some u → cur.toList[o + j]? = some u

section
variable {sz n : Nat} {v : Value} {xs : List Value} {L : List HP}
instance (priority := high) RdL.rds : RdL (Rds sz v n xs :: L) sz v n xs :=
  ⟨fun w ⟨_, _, _, hp, _⟩ => hp.len, fun w ⟨_, _, _, hp, _⟩ => hp.ones, fun w ⟨S, _, _, hp, _⟩ => by
    rcases hp.pf with h | ⟨b, o, c, cur, T, h1, h2, h3⟩
    · exact .inl h
    · refine .inr ⟨b, o, c, h1, fun j u hu => ?_⟩
      have hh : w.heap[b]? = some (.cells cur.toList.toArray T (0, 0)) := by have h4 := (res_c h2).2; simp only [ph] at h4; simpa using h4
      rw [cell_of_heap hh]
      exact h3 j u hu⟩
theorem own_rds {e : TypeId} : Ent (Own e sz v n xs :: L) (Rds sz v n xs :: L) := fun h ⟨S, T, d, hp, hL⟩ => by
  refine ⟨S, T, d, ⟨hp.len, hp.ones, ?_⟩, hL⟩
  rcases hp.pf with ⟨p, a, b⟩ | ⟨g, cap, cur, a, b, c, d1, e1, f⟩
  · exact .inl ⟨p, 0, a, b⟩
  · refine .inr ⟨g, 0, cap, cur, e, a, b, fun j u hu => ?_⟩
    rw [← f, List.getElem?_take] at hu
    split at hu
    · simpa using hu
    · simp at hu
theorem rds_nil {p : Option Addr} {c : Nat} : Ent L (Rds sz (.slice p 0 c) 0 [] :: L) := fun hh H => by
  refine ⟨fun _ => False, fun _ => True, fun _ a _ => a, ⟨by simp, rfl, .inl ⟨p, c, rfl, rfl⟩⟩, ?_⟩
  have : res hh (fun _ => True) = hh := by unfold res; simp
  rw [this]; exact H
theorem rds_cut {l h m : Nat} (h1 : l ≤ h) (h2 : h ≤ n) (h3 : h ≤ m) : Ent (Rds sz v n xs :: L) (Rds sz (cut v l h m sz) (h - l) ((xs.drop (l * sz)).take ((h - l) * sz)) :: L) := fun hh ⟨S, T, d, hp, hL⟩ => by
  refine ⟨S, T, d, ⟨?_, ?_, ?_⟩, hL⟩
  · have := hp.len
    have e : (h - l) * sz + l * sz ≤ n * sz := by rw [← Nat.add_mul]; exact Nat.mul_le_mul_right _ (by omega)
    simp; omega
  · have := hp.ones
    rw [List.all_eq_true] at this ⊢
    exact fun u hu => this u (List.mem_of_mem_drop (List.mem_of_mem_take hu))
  · by_cases hq : h = l
    · left
      subst hq
      rcases hp.pf with ⟨p, c, rfl, rfl⟩ | ⟨b, o, c, cur, T, rfl, _⟩ <;> exact ⟨_, _, by simp [Sx.cut]; exact ⟨rfl, rfl⟩, by omega⟩
    · rcases hp.pf with ⟨p, c, rfl, rfl⟩ | ⟨b, o, c, cur, T, rfl, hb, hc⟩
      · omega
      · right
        have hadd : (Addr.add ⟨b, o, none⟩ (l * sz)) = ⟨b, o + l * sz, none⟩ := by unfold Addr.add; split <;> simp_all
        refine ⟨b, o + l * sz, m - l, cur, T, ?_, hb, fun j u hj => ?_⟩
        · simp only [Sx.cut, if_neg (show ¬ m = l by omega), Option.map_some, hadd]
        · rw [List.getElem?_take] at hj
          split at hj
          · rw [List.getElem?_drop] at hj
            have := hc _ _ hj
            rwa [← Nat.add_assoc] at this
          · simp at hj
end
end Go.Sx
