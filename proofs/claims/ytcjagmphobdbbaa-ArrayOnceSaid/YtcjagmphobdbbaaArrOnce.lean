/- The law that a line is there once, in its set. My own work. -/
import Derived.Test.YtcjagmphobdbbaaArrLaw
import Derived.Test.YtcjagmphobdbbaaArrHPl
namespace Go.Sx
open Go Go.Proofs
set_option linter.unusedVariables false
set_option linter.unusedSectionVars false
set_option linter.unusedSimpArgs false
/-- Places that were looked at: those of the sets ahead, and those of this set from j on. -/
def vis (W s j p : Nat) : Prop := p < s * W ∨ (s * W + j ≤ p ∧ p < s * W + W)
def SeenAt (mp : List (Int × Bool)) (l : List Way) (W s j : Nat) : Prop :=
  ∀ x, (mget mp x = some true ∧ ∃ p, ∃ h : p < l.length, vis W s j p ∧ thereB l[p] = true ∧ l[p].line = x) ∨ (mget mp x = none ∧ ∀ p (h : p < l.length), vis W s j p → thereB l[p] = true → l[p].line ≠ x)
theorem vis_step {W s j p : Nat} (hj : j < W) : vis W s j p ↔ vis W s (j + 1) p ∨ p = s * W + j := by unfold vis; omega
theorem vis_next {W s p : Nat} : vis W s 0 p ↔ vis W (s + 1) W p := by
  unfold vis
  rw [Nat.succ_mul]
  omega
theorem seen_start (l : List Way) (W : Nat) : SeenAt [] l W 0 W := fun x => .inr ⟨rfl, fun p h hv => by unfold vis at hv; omega⟩
theorem seen_next {mp : List (Int × Bool)} {l : List Way} {W s : Nat} (h : SeenAt mp l W s 0) : SeenAt mp l W (s + 1) W := by
  intro x
  rcases h x with ⟨a, p, hp, hv, ht⟩ | ⟨a, b⟩
  · exact .inl ⟨a, p, hp, vis_next.1 hv, ht⟩
  · exact .inr ⟨a, fun p hp hv => b p hp (vis_next.2 hv)⟩
theorem seen_skip {mp : List (Int × Bool)} {l : List Way} {W s j : Nat} (hj : j < W) (hl : s * W + j < l.length) (h : SeenAt mp l W s (j + 1)) (ht : thereB l[s * W + j] = false) : SeenAt mp l W s j := by
  intro x
  rcases h x with ⟨a, p, hp, hv, h2⟩ | ⟨a, b⟩
  · exact .inl ⟨a, p, hp, (vis_step hj).2 (.inl hv), h2⟩
  · refine .inr ⟨a, fun p hp hv hp2 => ?_⟩
    rcases (vis_step hj).1 hv with h1 | rfl
    · exact b p hp h1 hp2
    · rw [ht] at hp2; cases hp2
theorem seen_new {c : Cfg} {mp : List (Int × Bool)} {l : List Way} {W s j : Nat} (hI : ArrInv c l) (hj : j < W) (hl : s * W + j < l.length) (h : SeenAt mp l W s (j + 1)) (ht : thereB l[s * W + j] = true) :
    mget mp l[s * W + j].line = none ∧ SeenAt (mset mp l[s * W + j].line true) l W s j := by
  have h0 : mget mp l[s * W + j].line = none := by
    rcases h l[s * W + j].line with ⟨a, p, hp, hv, h2, h3⟩ | ⟨a, b⟩
    · exfalso
      have := (hI _ hl ht).2.2.2 p hp h2 h3
      subst this
      unfold vis at hv; omega
    · exact a
  refine ⟨h0, fun x => ?_⟩
  rw [mget_mset]
  by_cases hx : x = l[s * W + j].line
  · rw [if_pos hx]
    exact .inl ⟨rfl, _, hl, (vis_step hj).2 (.inr rfl), ht, hx.symm⟩
  · rw [if_neg hx]
    rcases h x with ⟨a, p, hp, hv, h2⟩ | ⟨a, b⟩
    · exact .inl ⟨a, p, hp, (vis_step hj).2 (.inl hv), h2⟩
    · refine .inr ⟨a, fun p hp hv hp2 => ?_⟩
      rcases (vis_step hj).1 hv with h1 | rfl
      · exact b p hp h1 hp2
      · exact fun e => hx e.symm
theorem seen_len {c : Cfg} {mp : List (Int × Bool)} {l : List Way} {W S : Nat} (hI : ArrInv c l) (hn : (mkeys mp).Nodup) (hl : l.length = S * W) (h : SeenAt mp l W S W) : mp.length = (linesW l).length := by
  have hp := List.mergeSort_perm (linesU l) (fun x y => decide (x ≤ y))
  have hq := List.mergeSort_perm (mkeys mp) (fun x y => decide (x ≤ y))
  have e : srt (mkeys mp) = linesW l := by
    have hs : ∀ m : List Int, m.Pairwise (· ≠ ·) → (srt m).Pairwise (· < ·) := fun m hm => by
      have h1 : (srt m).Pairwise (fun x y => decide (x ≤ y) = true) := List.pairwise_mergeSort (by intro a b c; simp; omega) (by intro a b; simp; omega) _
      have h2 : (srt m).Pairwise (· ≠ ·) := ((List.mergeSort_perm m _).pairwise_iff (fun h => Ne.symm h)).2 hm
      refine (h1.and h2).imp ?_
      rintro a b ⟨h, h'⟩
      have := of_decide_eq_true h
      omega
    refine same_of_sorted (hs _ hn) (hs _ (linesU_nodup hI)) fun x => ?_
    rw [hq.mem_iff]
    show x ∈ mkeys mp ↔ x ∈ srt (linesU l)
    rw [hp.mem_iff]
    unfold linesU
    rw [List.mem_map]
    have hno := mget_none mp x
    rcases h x with ⟨a, p, hp, hv, h2, h3⟩ | ⟨a, b⟩
    · constructor
      · intro _
        exact ⟨_, List.mem_filter.2 ⟨List.getElem_mem hp, h2⟩, h3⟩
      · intro _
        apply Classical.byContradiction
        intro hx
        rw [hno.2 hx] at a; cases a
    · constructor
      · intro hx
        exact absurd hx (hno.1 a)
      · rintro ⟨w, hw, rfl⟩
        rw [List.mem_filter] at hw
        obtain ⟨p, hp, e⟩ := List.getElem_of_mem hw.1
        subst e
        exact absurd rfl (b p hp (.inl (by omega)) hw.2)
  have h1 : (srt (mkeys mp)).length = (mkeys mp).length := by simp [srt]
  rw [← e, h1]
  simp [mkeys]
/-- The least free way of those looked at. -/
def FreeAt (fr : Int) (l : List Way) (W s j : Nat) : Prop :=
  (fr = -1 ∧ ∀ k, j ≤ k → k < W → ∀ h : s * W + k < l.length, thereB l[s * W + k] = true) ∨
  ∃ f : Nat, fr = f ∧ j ≤ f ∧ f < W ∧ (∃ h : s * W + f < l.length, thereB l[s * W + f] = false) ∧ ∀ k, j ≤ k → k < f → ∀ h : s * W + k < l.length, thereB l[s * W + k] = true
theorem free_start (l : List Way) (W s : Nat) : FreeAt (-1) l W s W := .inl ⟨rfl, fun k h1 h2 => by omega⟩
theorem free_yes {fr : Int} {l : List Way} {W s j : Nat} (hj : j < W) (hl : s * W + j < l.length) (h : FreeAt fr l W s (j + 1)) (ht : thereB l[s * W + j] = false) : FreeAt j l W s j :=
  .inr ⟨j, rfl, Nat.le_refl _, hj, ⟨hl, ht⟩, fun k h1 h2 => by omega⟩
theorem free_no {fr : Int} {l : List Way} {W s j : Nat} (hj : j < W) (hl : s * W + j < l.length) (h : FreeAt fr l W s (j + 1)) (ht : thereB l[s * W + j] = true) : FreeAt fr l W s j := by
  rcases h with ⟨a, b⟩ | ⟨f, a, b, d, e, g⟩
  · refine .inl ⟨a, fun k h1 h2 hk => ?_⟩
    by_cases hkj : k = j
    · subst hkj; exact ht
    · exact b k (by omega) h2 hk
  · refine .inr ⟨f, a, by omega, d, e, fun k h1 h2 hk => ?_⟩
    by_cases hkj : k = j
    · subst hkj; exact ht
    · exact g k (by omega) h2 hk
theorem set_ways {c : Cfg} {l : List Way} {s : Nat} (hc : checkB c = true) (hn : (l.length : Int) = c.sets * c.ways) (hs : (s : Int) < c.sets) (hsl : (s : Int) < c.lines) : okLine c s = true ∧ arrF c s = s * c.ways.toNat := by
  have hok : okLine c s = true := (okLine_iff hc).2 ⟨by omega, hsl⟩
  obtain ⟨s0, s1, s2, s3, s4⟩ := ok_set' hok
  refine ⟨hok, ?_⟩
  unfold arrF
  rw [s2, Int.emod_eq_of_lt (by omega) hs, Int.toNat_natCast]
theorem free_end {c : Cfg} {fr : Int} {l : List Way} {s : Nat} (hc : checkB c = true) (hn : (l.length : Int) = c.sets * c.ways) (hs : (s : Int) < c.sets) (hsl : (s : Int) < c.lines) (h : FreeAt fr l c.ways.toNat s 0) : arrFree c l s = fr := by
  obtain ⟨hok, hF⟩ := set_ways hc hn hs hsl
  obtain ⟨k1, k2⟩ := ways_len hc hn hok
  unfold arrFree
  rcases h with ⟨a, b⟩ | ⟨f, a, b, d, ⟨e1, e2⟩, g⟩
  · rw [a]
    refine indexBy_none fun j hj _ => ?_
    obtain ⟨h2, e⟩ := ways_get hok hj
    rw [e]
    simp only [hF] at h2 ⊢
    rw [b j (by omega) (by omega) h2]; rfl
  · rw [a]
    have hfl : f < (waysOf c l s).length := by omega
    refine indexBy_at hfl (fun j hj hlt => ?_) ?_
    · obtain ⟨h2, e⟩ := ways_get hok hj
      rw [e]
      simp only [hF] at h2 ⊢
      rw [g j (by omega) hlt h2]; rfl
    · obtain ⟨h2, e⟩ := ways_get hok hfl
      rw [e]
      simp only [hF] at h2 ⊢
      rw [e2]; rfl
/-- A line that is there is told where it is, and is of that set. -/
theorem once_at {c : Cfg} {l : List Way} {s m : Nat} (hI : ArrInv c l) (hc : checkB c = true) (hn : (l.length : Int) = c.sets * c.ways) (hs : (s : Int) < c.sets) (hm : m < c.ways.toNat) (hl : s * c.ways.toNat + m < l.length) (ht : thereB l[s * c.ways.toNat + m] = true) :
    arrP c l l[s * c.ways.toNat + m].line = m ∧ findW c l l[s * c.ways.toNat + m].line = l[s * c.ways.toNat + m] ∧ l[s * c.ways.toNat + m].line.tmod c.sets = s := by
  obtain ⟨a1, a2, a3, a4⟩ := hI _ hl ht
  obtain ⟨s0, s1, s2, s3, s4⟩ := ok_set' a1
  have hd : ∀ q k : Nat, k < c.ways.toNat → (q * c.ways.toNat + k) / c.ways.toNat = q := fun q k hk => by
    rw [Nat.mul_comm, Nat.mul_add_div (by omega), Nat.div_eq_of_lt hk, Nat.add_zero]
  have hS : (lineS c l[s * c.ways.toNat + m].line).toNat = s := by
    have h1 := hd s m hm
    have h2 := hd (lineS c l[s * c.ways.toNat + m].line).toNat (s * c.ways.toNat + m - arrF c l[s * c.ways.toNat + m].line) (by omega)
    have h3 : (lineS c l[s * c.ways.toNat + m].line).toNat * c.ways.toNat = arrF c l[s * c.ways.toNat + m].line := rfl
    rw [h3, show arrF c l[s * c.ways.toNat + m].line + (s * c.ways.toNat + m - arrF c l[s * c.ways.toNat + m].line) = s * c.ways.toNat + m by omega, h1] at h2
    exact h2.symm
  have hF : arrF c l[s * c.ways.toNat + m].line = s * c.ways.toNat := by unfold arrF; rw [hS]
  have hp := (find_at hI hl (pHas_iff.2 ⟨ht, rfl⟩)).2
  rw [hF, show s * c.ways.toNat + m - s * c.ways.toNat = m by omega] at hp
  refine ⟨hp, ?_, ?_⟩
  · rw [findW_at hp (by rw [hF]; exact hl)]
    congr 1
    omega
  · rw [tmod_nn s3, ← s2]; omega
theorem at_at {c : Cfg} {l : List Way} {s m : Nat} (hc : checkB c = true) (hn : (l.length : Int) = c.sets * c.ways) (hs : (s : Int) < c.sets) (hm : m < c.ways.toNat) : ∃ hl : s * c.ways.toNat + m < l.length, atW c l s m = l[s * c.ways.toNat + m] ∧ inWay c s m = true := by
  obtain ⟨en, h4, h5, h6, h7, h8⟩ := arr_nums hc hn
  have hr := set_room (s := s) (W := c.ways.toNat) (S := c.sets.toNat) (by omega)
  have hin : inWay c s m = true := decide_eq_true ⟨by omega, hs, by omega, by omega⟩
  have hl : s * c.ways.toNat + m < l.length := by omega
  refine ⟨hl, ?_, hin⟩
  unfold atW
  rw [if_pos hin, Int.toNat_natCast, Int.toNat_natCast]
  exact (getD_at hl).symm
end Go.Sx
