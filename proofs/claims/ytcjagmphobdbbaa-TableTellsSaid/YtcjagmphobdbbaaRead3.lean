/- Readings of slices whose things hold slices, with what they weigh. My own work. -/
import Derived.Test.YtcjagmphobdbbaaRead2
import Derived.SizedLaws
namespace Go.Sx
open Go Go.ChangeShapes Go.WideShapes
set_option linter.unusedVariables false
set_option linter.unusedSimpArgs false

section
variable {H : Type} (enc : TypeId × Value → H) (P : Program) (W : World)

/-- No part of a datum weighs too much. -/
def Sm (t : TypeId) (d : DataW H) : Prop := (d.weights P t).all (· ≤ reachBytes) = true
def LeafOkS : Leaf → Value → Prop
  | .int k, v => ∃ n, v = .int k n ∧ (Lit.int k n).wf = true
  | .bool, v => ∃ b, v = .bool b
  | .other t, v => ∃ fuel x, DataW.trod enc P W 0 (fun _ => true) true fuel t [v] = some x ∧ Sm P t x.1
inductive LeafsOkS : List Leaf → List Value → Prop
  | nil : LeafsOkS [] []
  | cons {k : Leaf} {c : Value} {ks : List Leaf} {cs : List Value} : LeafOkS enc P W k c → LeafsOkS ks cs → LeafsOkS (k :: ks) (c :: cs)
theorem leafsOkS_append {ks ks' : List Leaf} {cs cs' : List Value} (h : LeafsOkS enc P W ks cs) (h' : LeafsOkS enc P W ks' cs') : LeafsOkS enc P W (ks ++ ks') (cs ++ cs') := by
  induction h with
  | nil => exact h'
  | cons a _ ih => exact .cons a ih
theorem sm_each {t : TypeId} {ts : List TypeId} {d : DataW H} {r : List (DataW H)} (h : (DataW.weightsEach P (t :: ts) (d :: r)).all (· ≤ reachBytes) = true) : Sm P t d ∧ (DataW.weightsEach P ts r).all (· ≤ reachBytes) = true := by
  rw [DataW.weightsEach, List.all_append, Bool.and_eq_true] at h
  exact h
theorem sm_all {e : TypeId} : ∀ {l : List (DataW H)} {d : DataW H}, d ∈ l → (DataW.weightsAll P e l).all (· ≤ reachBytes) = true → Sm P e d
  | [], _, h, _ => by cases h
  | a :: r, d, h, hw => by
    rw [DataW.weightsAll, List.all_append, Bool.and_eq_true] at hw
    rcases List.mem_cons.1 h with h | h
    · subst h; exact hw.1
    · exact sm_all h hw.2

theorem leafsF_okS {d : Nat} (ih : ∀ t ks, leafs P d t = some ks → ∀ fuel cs x, DataW.trod enc P W 0 (fun _ => true) true fuel t cs = some x → Sm P t x.1 → LeafsOkS enc P W ks cs) (fuel : Nat) (cs : List Value) :
    ∀ (fs : List Field) (off : Nat) (ks : List Leaf) (xs : List (DataW H × List MemPlace)), leafsF P (leafs P d) fs off = some ks →
      (fs.mapM fun f => DataW.trod enc P W 0 (fun _ => true) true fuel f.type ((cs.drop f.offset).take (P.cellsOf f.type))) = some xs → (DataW.weightsEach P (fs.map (·.type)) (xs.map (·.1))).all (· ≤ reachBytes) = true → LeafsOkS enc P W ks ((cs.drop off).take ks.length)
  | [], off, ks, xs, h, _, _ => by simp [leafsF] at h; subst h; simp; exact .nil
  | fd :: r, off, ks, xs, h, hm, hw => by
    obtain ⟨x, xs', h1, h2, rfl⟩ := mapM_cons_some hm
    rw [List.map_cons, List.map_cons] at hw
    obtain ⟨hw1, hw2⟩ := sm_each P hw
    simp only [leafsF] at h
    cases hk : leafs P d fd.type with
    | none => simp [hk] at h
    | some k0 =>
      simp only [hk] at h
      split at h
      · rename_i hc
        obtain ⟨c1, c2⟩ := hc
        cases hr : leafsF P (leafs P d) r (off + k0.length) with
        | none => simp [hr] at h
        | some k1 =>
          simp [hr] at h
          subst h
          have a := ih _ _ hk _ _ _ h1 hw1
          have b := leafsF_okS ih fuel cs r _ _ _ hr h2 hw2
          rw [c1, c2] at a
          have e : (cs.drop off).take (k0 ++ k1).length = (cs.drop off).take k0.length ++ (cs.drop (off + k0.length)).take k1.length := by
            rw [List.length_append, List.take_add, List.drop_drop]
          rw [e]
          exact leafsOkS_append enc P W a b
      · simp at h

theorem leafs_rowS {e : Nat} {ks : List Leaf} {fuel : Nat} {cs : List Value} (ih : ∀ fuel cs x, DataW.trod enc P W 0 (fun _ => true) true fuel e cs = some x → Sm P e x.1 → LeafsOkS enc P W ks cs) (he : ks.length = P.cellsOf e) :
    ∀ (n k : Nat) (xs : List (DataW H × List MemPlace)), (((List.range n).map (k + ·)).mapM fun i => DataW.trod enc P W 0 (fun _ => true) true fuel e ((cs.drop (i * P.cellsOf e)).take (P.cellsOf e))) = some xs →
      (DataW.weightsAll P e (xs.map (·.1))).all (· ≤ reachBytes) = true →
      LeafsOkS enc P W (List.replicate n ks).flatten ((cs.drop (k * P.cellsOf e)).take (n * P.cellsOf e))
  | 0, k, xs, _, _ => by simp; exact .nil
  | n + 1, k, xs, h, hw => by
    have e1 : (List.range (n + 1)).map (k + ·) = k :: (List.range n).map (k + 1 + ·) := by
      rw [List.range_succ_eq_map]
      simp [Function.comp_def, Nat.add_assoc, Nat.add_comm 1]
    rw [e1] at h
    obtain ⟨x, xs', h1, h2, rfl⟩ := mapM_cons_some h
    rw [List.map_cons, DataW.weightsAll, List.all_append, Bool.and_eq_true] at hw
    have a := ih _ _ _ h1 hw.1
    have b := leafs_rowS ih he n (k + 1) xs' h2 hw.2
    have e2 : (cs.drop (k * P.cellsOf e)).take ((n + 1) * P.cellsOf e) = (cs.drop (k * P.cellsOf e)).take (P.cellsOf e) ++ (cs.drop ((k + 1) * P.cellsOf e)).take (n * P.cellsOf e) := by
      rw [Nat.succ_mul, Nat.add_comm, List.take_add, List.drop_drop, Nat.succ_mul]
    rw [e2, List.replicate_succ, List.flatten_cons]
    exact leafsOkS_append enc P W a b

theorem leafs_okS : ∀ (d : Nat) (t : TypeId) (ks : List Leaf), leafs P d t = some ks → ∀ fuel cs x, DataW.trod enc P W 0 (fun _ => true) true fuel t cs = some x → Sm P t x.1 → LeafsOkS enc P W ks cs
  | 0, _, _, h => by simp [leafs] at h
  | d + 1, t, ks, h => by
    intro fuel cs x hx hw
    have ih := leafs_okS d
    simp only [leafs] at h
    cases fuel with
    | zero => simp [DataW.trod] at hx
    | succ fuel =>
      have hx0 := hx
      cases hu : P.underlying t with
      | none => simp [hu] at h
      | some u =>
        cases u <;> simp only [hu] at h <;> try (simp at h; done)
        case bool =>
          simp at h; subst h
          have : ∃ b, cs = [.bool b] := by
            unfold DataW.trod at hx; rw [hu] at hx
            split at hx <;> simp_all
          obtain ⟨b, rfl⟩ := this
          exact .cons ⟨b, rfl⟩ .nil
        case int k =>
          simp at h; subst h
          obtain ⟨n, h1, _, h3⟩ := DataW.trod_int hu hx0
          subst h1
          exact .cons ⟨n, rfl, h3⟩ .nil
        case string =>
          simp at h; subst h
          have : ∃ v, cs = [v] := by
            unfold DataW.trod at hx; rw [hu] at hx
            split at hx <;> simp_all
          obtain ⟨v, rfl⟩ := this
          exact .cons ⟨_, _, hx0, hw⟩ .nil
        case slice e =>
          simp at h; subst h
          have : ∃ v, cs = [v] := by
            unfold DataW.trod at hx; rw [hu] at hx
            split at hx <;> simp_all
          obtain ⟨v, rfl⟩ := this
          exact .cons ⟨_, _, hx0, hw⟩ .nil
        case array n e =>
          simp only [Option.bind_eq_some_iff] at h
          obtain ⟨k0, h1, h2⟩ := h
          split at h2
          · rename_i hc
            simp at h2; subst h2
            unfold DataW.trod at hx; rw [hu] at hx
            have hx' : (if cs.length = P.cellsOf t then ((List.range n).mapM fun i => DataW.trod enc P W 0 (fun _ => true) true fuel e ((cs.drop (i * P.cellsOf e)).take (P.cellsOf e))).map fun xs => (DataW.agg (xs.map (·.1)), xs.flatMap (·.2)) else none) = some x := by
              split at hx <;> simp_all
            split at hx'
            · rename_i hl
              simp only [Option.map_eq_some_iff] at hx'
              obtain ⟨xs, hm, rfl⟩ := hx'
              have hw' : (DataW.weightsAll P e (xs.map (·.1))).all (· ≤ reachBytes) = true := by simpa [Sm, DataW.weights, hu] using hw
              have := leafs_rowS enc P W (fun fuel cs x hx hw => ih e k0 h1 fuel cs x hx hw) hc.1 n 0 xs (by simpa using hm) hw'
              simp only [Nat.zero_mul, List.drop_zero] at this
              rw [← hc.1, hc.2, ← hl, List.take_length] at this
              exact this
            · simp at hx'
          · simp at h2
        case struct fs =>
          simp only [Option.bind_eq_some_iff] at h
          obtain ⟨k0, h1, h2⟩ := h
          split at h2
          · rename_i hc
            simp at h2; subst h2
            unfold DataW.trod at hx; rw [hu] at hx
            have hx' : ∃ xs, cs.length = P.cellsOf t ∧ (fs.toList.mapM fun f => DataW.trod enc P W 0 (fun _ => true) true fuel f.type ((cs.drop f.offset).take (P.cellsOf f.type))) = some xs ∧ x.1 = DataW.agg (xs.map (·.1)) := by
              have hx2 : (if cs.length = P.cellsOf t then (fs.toList.mapM fun f => DataW.trod enc P W 0 (fun _ => true) true fuel f.type ((cs.drop f.offset).take (P.cellsOf f.type))).map fun xs => (DataW.agg (xs.map (·.1)), xs.flatMap (·.2)) else none) = some x := by
                split at hx <;> simp_all
              split at hx2
              · rename_i hl
                simp only [Option.map_eq_some_iff] at hx2
                obtain ⟨xs, hm, rfl⟩ := hx2
                exact ⟨xs, hl, hm, rfl⟩
              · simp at hx2
            obtain ⟨xs, hl, hm, hx1⟩ := hx'
            rw [hx1] at hw
            have hw' : (DataW.weightsEach P (fs.toList.map (·.type)) (xs.map (·.1))).all (· ≤ reachBytes) = true := by simpa [Sm, DataW.weights, hu] using hw
            have := leafsF_okS enc P W ih fuel cs fs.toList 0 k0 xs h1 hm hw'
            rw [hc, List.drop_zero, ← hl, List.take_length] at this
            exact this
          · simp at h2

theorem read_leafsS {d : Nat} {t : TypeId} {ks : List Leaf} {v : Value} {dt : DataW H} {p : List MemPlace} (hk : leafs P d t = some ks) (h : DataW.Trod enc P W 0 (fun _ => true) true t v dt p) (hs : Sm P t dt) : LeafsOkS enc P W ks (cellsOf v) := by
  obtain ⟨fuel, hf⟩ := h
  have := leafs_okS enc P W d t ks hk fuel _ _ hf hs
  rw [cellsOf_eq] at this
  exact this
theorem read_listS {α : Type} {encA : α → List Value} {wf : α → Prop} {d e t : Nat} {ks : List Leaf} {v : Value} {dt : DataW H} {p : List MemPlace} (hu : P.underlying t = some (.slice e)) (hk : leafs P d e = some ks) (hc : P.cellsOf e = ks.length) (h0 : 0 < ks.length)
    (hA : ∀ cs, LeafsOkS enc P W ks cs → ∃ x, wf x ∧ cs = encA x ∧ (encA x).all one = true) (hv0 : ∃ a n c, v = .slice a n c) (h : DataW.Trod enc P W 0 (fun _ => true) true t v dt p) (hs : Sm P t dt) :
    ∃ xs : List α, (∀ x ∈ xs, wf x) ∧ ROld W ks.length v xs.length (flat encA xs) ∧ xs.length ≤ 9223372036854775807 ∧ xs.length * P.bytesOf e ≤ reachBytes := by
  obtain ⟨a0, n0, c0, rfl⟩ := hv0
  obtain ⟨fuel, hf⟩ := h
  cases fuel with
  | zero => simp [DataW.trod] at hf
  | succ fuel =>
    unfold DataW.trod at hf
    rw [hu] at hf
    split at hf <;> try (simp_all; done)
    · rename_i h1 h2
      simp only [Value.cells, List.cons.injEq, Value.slice.injEq, and_true] at h2
      obtain ⟨rfl, rfl, rfl⟩ := h2
      exact ⟨[], by simp, ⟨by simp, rfl, .inl ⟨none, 0, rfl, rfl⟩⟩, by simp, by simp⟩
    · rename_i e' a len cap h1 h2
      have he : e' = e := by simp_all
      subst he
      simp only [Value.cells, List.cons.injEq, Value.slice.injEq, and_true] at h2
      obtain ⟨rfl, rfl, rfl⟩ := h2
      simp only at hf
      split at hf
      · rename_i hb
        simp only [Option.bind_eq_some_iff] at hf
        obtain ⟨elems, hm, hrest⟩ := hf
        simp only [if_true, Option.map_eq_some_iff] at hrest
        obtain ⟨rest, _, hdt⟩ := hrest
        have hdt1 : dt = .slice (elems.map (·.1)) (rest.map (·.1)) := by injection hdt with h _; exact h.symm
        subst hdt1
        have hw : (elems.length + rest.length) * P.bytesOf e' ≤ reachBytes ∧ (DataW.weightsAll P e' (elems.map (·.1))).all (· ≤ reachBytes) = true := by
          unfold Sm at hs
          rw [DataW.weights, hu] at hs
          simp only [List.all_cons, List.all_append, Bool.and_eq_true, List.length_map, decide_eq_true_eq] at hs
          exact ⟨hs.1, hs.2.1⟩
        obtain ⟨hl, hg⟩ := mapM_range_get0 hm
        have key : ∀ i, i < n0 → ∃ x : α, wf x ∧ (encA x).all one = true ∧ (encA x).length = ks.length ∧ ∀ j u, (encA x)[j]? = some u → W.cell? ((a.add (i * ks.length)).add j) = some u := by
          intro i hi
          have := hg i hi
          rw [List.getElem?_eq_getElem (by omega)] at this
          simp only [Option.bind_eq_some_iff] at this
          obtain ⟨cs, hc1, hc2⟩ := this
          rw [hc] at hc1
          obtain ⟨q1, q2⟩ := cells_read hc1
          have hmem : elems[i].1 ∈ elems.map (·.1) := List.mem_map_of_mem (List.getElem_mem _)
          obtain ⟨x, hx, rfl, ho⟩ := hA cs (leafs_okS enc P W d e' ks hk _ _ _ hc2 (sm_all P hmem hw.2))
          refine ⟨x, hx, ho, q1, fun j u hj => ?_⟩
          have hlt := (List.getElem?_eq_some_iff.1 hj).1
          rw [q2 j (by omega), hj]
        have pick : ∀ n, n ≤ n0 → ∃ xs : List α, xs.length = n ∧ (∀ x ∈ xs, wf x) ∧ (flat encA xs).all one = true ∧ (flat encA xs).length = n * ks.length ∧ ∀ j u, (flat encA xs)[j]? = some u → W.cell? (a.add j) = some u := by
          intro n
          induction n with
          | zero => intro _; exact ⟨[], rfl, by simp, rfl, by simp, by simp⟩
          | succ n ih =>
            intro hn
            obtain ⟨xs, x1, x2, x3, x4, x5⟩ := ih (by omega)
            obtain ⟨x, y1, y2, y3, y4⟩ := key n (by omega)
            refine ⟨xs ++ [x], by simp [x1], ?_, ?_, ?_, ?_⟩
            · intro z hz; rcases List.mem_append.1 hz with h | h
              · exact x2 z h
              · rw [List.mem_singleton.1 h]; exact y1
            · rw [flat_append, flat_one, List.all_append, x3, y2]; rfl
            · rw [flat_append, flat_one, List.length_append, x4, y3, Nat.succ_mul]
            · intro j u hj
              rw [flat_append, flat_one] at hj
              by_cases hlt : j < (flat encA xs).length
              · rw [List.getElem?_append_left hlt] at hj
                exact x5 j u hj
              · rw [List.getElem?_append_right (by omega)] at hj
                have := y4 _ u hj
                have e3 : (a.add (n * ks.length)).add (j - (flat encA xs).length) = a.add j := by
                  rw [add_add']; congr 1; omega
                rwa [e3] at this
        obtain ⟨xs, x1, x2, x3, x4, x5⟩ := pick n0 (Nat.le_refl _)
        have hmx : maxLen = 9223372036854775807 := by decide
        have hbx : xs.length * P.bytesOf e' ≤ reachBytes := Nat.le_trans (Nat.mul_le_mul_right _ (by omega)) hw.1
        refine ⟨xs, x2, ?_, by omega, hbx⟩
        refine ⟨by rw [x4, x1], x3, ?_⟩
        by_cases hz : n0 = 0
        · subst hz
          exact .inl ⟨some a, c0, rfl, x1⟩
        · right
          have h00 : ∃ u, (flat encA xs)[0]? = some u := by
            have : 0 < (flat encA xs).length := by
              rw [x4]; exact Nat.mul_pos (by omega) h0
            exact ⟨_, List.getElem?_eq_getElem this⟩
          obtain ⟨u0, hu0⟩ := h00
          have hc0 := x5 0 u0 hu0
          have ha0 : a.add 0 = a := by simp [Addr.add]
          rw [ha0] at hc0
          obtain ⟨s1, s2⟩ := cell_some hc0
          obtain ⟨b, o, sp⟩ := a
          simp only at s1 s2
          subst s1
          refine ⟨b, o, c0, by rw [x1], s2, fun j u hj => ?_⟩
          have := x5 j u hj
          have e4 : (Addr.add ⟨b, o, none⟩ j) = ⟨b, o + j, none⟩ := by unfold Addr.add; split <;> simp_all
          rwa [e4] at this
      · simp at hf

theorem leafsS_plain {ks : List Leaf} {cs : List Value} (h : LeafsOkS enc P W ks cs) : LeafsOk enc P W ks cs := by
  induction h with
  | nil => exact .nil
  | @cons k c ks cs a _ ih =>
    refine .cons ?_ ih
    cases k with
    | int k => exact a
    | bool => exact a
    | other t => obtain ⟨f, x, h, _⟩ := a; exact ⟨f, x, h⟩
theorem leafsS_cons {k : Leaf} {ks : List Leaf} {cs : List Value} (h : LeafsOkS enc P W (k :: ks) cs) : ∃ c cs', cs = c :: cs' ∧ LeafOkS enc P W k c ∧ LeafsOkS enc P W ks cs' := by
  cases h with
  | cons a b => exact ⟨_, _, rfl, a, b⟩
theorem leafsS_int {ks : List Leaf} {cs : List Value} (h : LeafsOkS enc P W (.int .i64 :: ks) cs) : ∃ n cs', cs = .int .i64 n :: cs' ∧ I64 n ∧ LeafsOkS enc P W ks cs' := by
  obtain ⟨c, cs', rfl, h1, h2⟩ := leafsS_cons enc P W h
  obtain ⟨n, rfl, hn⟩ := leaf_i64 enc P W (show LeafOk enc P W (.int .i64) c from h1)
  exact ⟨n, cs', rfl, hn, h2⟩
theorem leafsS_nil {cs : List Value} (h : LeafsOkS enc P W [] cs) : cs = [] := by cases h; rfl
/-- A slice within a thing. -/
theorem leafS_slice {t e : TypeId} {c : Value} (hu : P.underlying t = some (.slice e)) (h : LeafOkS enc P W (.other t) c) : ∃ a n k x p, c = .slice a n k ∧ DataW.Trod enc P W 0 (fun _ => true) true t c x p ∧ Sm P t x := by
  obtain ⟨fuel, x, h1, h2⟩ := h
  have hsh : ∃ a n k, c = .slice a n k := by
    cases fuel with
    | zero => simp [DataW.trod] at h1
    | succ fuel =>
      have h3 := h1
      unfold DataW.trod at h3; rw [hu] at h3
      split at h3 <;> simp_all
  obtain ⟨a, n, k, rfl⟩ := hsh
  exact ⟨a, n, k, x.1, x.2, rfl, ⟨fuel, by simpa [Value.cells] using h1⟩, h2⟩
end
end Go.Sx
