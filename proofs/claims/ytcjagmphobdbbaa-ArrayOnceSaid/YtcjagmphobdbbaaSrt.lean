/- slices.Sort at []int, as a contract of the engine's. My own work. -/
import Derived.Test.YtcjagmphobdbbaaSrtT
import Derived.Test.YtcjagmphobdbbaaSlT
namespace Go.Sx
open Go Go.Proofs Go.Sort Go.Shelf
set_option linter.unusedVariables false
set_option linter.unusedSimpArgs false
abbrev srt (l : List Int) : List Int := l.mergeSort fun x y => decide (x ≤ y)
theorem sat_grow {L : List HP} {w : World} {os : Array Obj} (H : Sat L w) : Sat L (grow w os) := by
  have e : ph w = res (ph (grow w os)) (fun b => b < w.heap.size) := by
    unfold res ph grow
    simp only [PH.mk.injEq, and_true]
    funext b
    by_cases hb : b < w.heap.size
    · simp [hb, Array.getElem?_append_left]
    · simp [hb]
  unfold Sat at H
  rw [e] at H
  exact star_res H
theorem flat_ic_map (l : List Int) : flat ic l = l.map (Value.int .i64) := by
  induction l with
  | nil => rfl
  | cons a l ih => simp only [flat, List.flatMap_cons, List.map_cons] at ih ⊢; rw [ih]; rfl
theorem sat_cell {b : Nat} {T : TypeId} {l : List Value} {L : List HP} {w : World} (H : Sat (Cells b T l :: L) w) (j : Nat) : w.cell? ⟨b, j, none⟩ = l[j]? := by rw [cell_of_heap (sat_cells H)]
theorem sort_runs {P : Program} {f : FuncId} {T : TypeId} {g n cap : Nat} {l : List Int} {spare : List Value} {L : List HP} {w : World} (hn : n = l.length)
    (hc : Calls P f #[.slice (some ⟨g, 0, none⟩) l.length cap] w fun e w' => e = .returned (.tuple #[]) ∧ ∃ n os, w' = grow (putRow (Value.int .i64) (Sort.ahead w n) g 0 (srt l).toArray) os)
    (H : Sat (Cells g T (flat ic l ++ spare) :: L) w) : Calls P f #[.slice (some ⟨g, 0, none⟩) n cap] w fun e w' => e = .returned (.tuple #[]) ∧ Sat (Cells g T (flat ic (srt l) ++ spare) :: L) w' := by
  subst hn
  refine hc.mono ?_
  rintro e w' ⟨rfl, q, os, rfl⟩
  refine ⟨rfl, sat_grow ?_⟩
  have h0 := sat_cells H
  have hl : (srt l).length = l.length := by simp [srt]
  have hg : g < w.heap.size := by
    by_cases h : g < w.heap.size
    · exact h
    · rw [Array.getElem?_eq_none (by omega)] at h0; cases h0
  refine sat_upd (b := g) (o := .cells (flat ic (srt l) ++ spare).toArray T (0, 0)) (Cells g T (flat ic (srt l) ++ spare)) (p := Cells g T (flat ic l ++ spare)) (w := w) (fun h k => ⟨_, Cells.pf k⟩) (fun h k => ⟨k⟩) ?_ ?_ rfl rfl rfl H
  · unfold putRow mapBlock
    simp only [Sort.ahead, Array.getElem?_modify, if_true, h0, Option.map_some, onCells, Option.some.injEq]
    congr 1
    apply Array.ext'
    apply List.ext_getElem?
    intro j
    unfold putCells
    simp only [Array.getElem?_toList, Array.getElem?_mapIdx, Nat.zero_le, true_and, Nat.zero_add, Nat.sub_zero, List.size_toArray, List.getElem?_toArray]
    simp only [flat_ic_map]
    by_cases hj : j < l.length
    · rw [List.getElem?_append_left (by simpa using hj), List.getElem?_append_left (by rw [List.length_map, hl]; exact hj)]
      have hj2 : j < (srt l).length := by omega
      simp only [List.getElem?_map, List.getElem?_eq_getElem hj, List.getElem?_eq_getElem hj2, Option.map_some, hj2, if_true]
      congr 2
      simp [List.getElem?_eq_getElem hj2]
    · rw [List.getElem?_append_right (by simp; omega), List.getElem?_append_right (by simp; omega)]
      have hj2 : ¬ j < (srt l).length := by omega
      simp only [List.length_map, hl, hj2, if_false]
      cases spare[j - l.length]? <;> simp [hj]
  · intro k hk
    unfold putRow mapBlock
    simp only [Sort.ahead]
    rw [Array.getElem?_modify]
    simp [Ne.symm hk]
theorem sl_SortF {P : Program} {ρ : Go.Shelf.Ren} (Ly : Lays.n189 P ρ) (he : Enters P (ρ.f 189)) {F : List HP} {T : TypeId} {v : Value} {l : List Int} (hl : l.length < 4611686018427387904) :
    FnF P (ρ.f 189) [v] [Own T 1 v l.length (flat ic l)] F (fun r L' => r = .tuple [].toArray ∧ L' = [Own T 1 v l.length (flat ic (srt l))]) := by
  refine ⟨he, fun w hw => ?_⟩
  obtain ⟨h1, h2, ⟨p, rfl, h4, h5⟩ | ⟨g, cap, spare, rfl, h4, h5, h6, h7⟩⟩ := own_open hw
  · have hnil : l = [] := List.eq_nil_of_length_eq_zero h4
    subst hnil
    refine (Any.slices_Sort_int_none Ly p 0 w).mono ?_
    rintro e w' ⟨rfl, rfl⟩
    exact ⟨_, _, rfl, ⟨rfl, rfl⟩, by simpa [srt] using hw⟩
  · have h0 := sat_cells h7
    have hg : g < w.heap.size := by
      by_cases h : g < w.heap.size
      · exact h
      · rw [Array.getElem?_eq_none (by omega)] at h0; cases h0
    have hH : Holds (Value.int .i64) w g 0 l.toArray := by
      intro j hj
      have hj' : j < l.length := by simpa using hj
      refine ⟨?_, ?_⟩
      · rw [Nat.zero_add, sat_cell h7, List.getElem?_append_left (by rw [flat_ic_map]; simpa using hj'), flat_ic_map, List.getElem?_map, List.getElem?_eq_getElem hj']
        simp [hj']
      · exact frozen_of_heap h0
    refine (sort_runs (n := l.length) (spare := spare) rfl (Any.slices_Sort_int Ly g 0 cap l w hH hg hl) h7).mono ?_
    rintro e w' ⟨rfl, hs⟩
    refine ⟨_, _, rfl, ⟨rfl, rfl⟩, ?_⟩
    have hl2 : (srt l).length = l.length := by simp [srt]
    have hf : ∀ l : List Int, (flat ic l).length = l.length := fun l => by rw [flat_ic_map]; simp
    have hsp : spare.length = cap - l.length := by omega
    refine (own_close (n := l.length) (cap := cap) (xs := flat ic (srt l)) ?_ h4 h5 ?_ ?_ Ent.refl).sat hs
    · rw [List.length_append, hf, hl2, hsp]; omega
    · rw [Nat.mul_one, List.take_append_of_le_length (by rw [hf, hl2]; exact Nat.le_refl _), List.take_of_length_le (by rw [hf, hl2]; exact Nat.le_refl _)]
    · rw [List.all_eq_true]
      intro x hx
      rw [flat_ic_map] at hx
      obtain ⟨y, _, rfl⟩ := List.mem_map.1 hx
      rfl
end Go.Sx
