/- Readings of slices of flat things. My own work. -/
import Derived.Test.YtcjagmphobdbbaaRead
import Derived.Test.YtcjagmphobdbbaaData
namespace Go.Sx
open Go Go.ChangeShapes Go.WideShapes
set_option linter.unusedVariables false

section
variable {H : Type} (enc : TypeId × Value → H) (P : Program) (W : World)

theorem mapM_range_get {α : Type} {f : Nat → Option α} : ∀ (n k : Nat) (r : List α), ((List.range n).map (k + ·)).mapM f = some r → r.length = n ∧ ∀ i, i < n → f (k + i) = r[i]?
  | 0, k, r, h => by simp at h; subst h; simp
  | n + 1, k, r, h => by
    have e1 : (List.range (n + 1)).map (k + ·) = k :: (List.range n).map (k + 1 + ·) := by
      rw [List.range_succ_eq_map]
      simp [Function.comp_def, Nat.add_assoc, Nat.add_comm 1]
    rw [e1] at h
    obtain ⟨x, xs, h1, h2, rfl⟩ := mapM_cons_some h
    obtain ⟨h3, h4⟩ := mapM_range_get n (k + 1) xs h2
    refine ⟨by simp [h3], fun i hi => ?_⟩
    cases i with
    | zero => simpa using h1
    | succ i => have := h4 i (by omega); rw [List.getElem?_cons_succ, ← this]; congr 1; omega
theorem mapM_range_get0 {α : Type} {f : Nat → Option α} {n : Nat} {r : List α} (h : (List.range n).mapM f = some r) : r.length = n ∧ ∀ i, i < n → f i = r[i]? := by
  have := mapM_range_get n 0 r (by simpa using h)
  simpa using this

theorem cells_read {w : World} {a : Addr} {n : Nat} {cs : List Value} (h : w.cells? 0 a n = some cs) : cs.length = n ∧ ∀ j, j < n → w.cell? (a.add j) = cs[j]? := by
  unfold World.cells? at h
  rw [if_pos (Nat.zero_le _)] at h
  exact mapM_range_get0 h

theorem cell_some {w : World} {a : Addr} {v : Value} (h : w.cell? a = some v) : a.spot = none ∧ a.block < w.heap.size := by
  unfold World.cell? at h
  split at h
  · rename_i he
    have hb := (Array.getElem?_eq_some_iff.1 he).1
    split at h
    · simp at h
    · rename_i hs
      refine ⟨by simpa using hs, hb⟩
  · simp at h

theorem add_add' (a : Addr) (i j : Nat) : (a.add i).add j = a.add (i + j) := by
  unfold Addr.add
  by_cases hi : i = 0 <;> by_cases hj : j = 0 <;> simp [hi, hj, Nat.add_assoc]

theorem leafOk_one {k : Leaf} {v : Value} (h : LeafOk enc P W k v) (hk : match k with | .other _ => False | _ => True) : one v = true := by
  cases k with
  | int k => obtain ⟨n, rfl, _⟩ := h; rfl
  | bool => obtain ⟨b, rfl⟩ := h; rfl
  | other t => exact hk.elim

theorem read_list {α : Type} {encA : α → List Value} {wf : α → Prop} {d e t : Nat} {ks : List Leaf} {v : Value} {dt : DataW H} {p : List MemPlace} (hu : P.underlying t = some (.slice e)) (hk : leafs P d e = some ks) (hc : P.cellsOf e = ks.length) (h0 : 0 < ks.length)
    (hA : ∀ cs, LeafsOk enc P W ks cs → ∃ x, wf x ∧ cs = encA x ∧ (encA x).all one = true) (hv0 : ∃ a n c, v = .slice a n c) (h : DataW.Trod enc P W 0 (fun _ => true) true t v dt p) :
    ∃ xs : List α, (∀ x ∈ xs, wf x) ∧ ROld W ks.length v xs.length (flat encA xs) ∧ xs.length ≤ 9223372036854775807 := by
  obtain ⟨a0, n0, c0, rfl⟩ := hv0
  obtain ⟨fuel, hf⟩ := h
  cases fuel with
  | zero => simp [DataW.trod] at hf
  | succ fuel =>
    unfold DataW.trod at hf
    rw [hu] at hf
    split at hf <;> try (simp_all; done)
    · rename_i h1 h2
      simp only [Value.cells, List.cons.injEq, Value.slice.injEq, and_true] at h2
      obtain ⟨rfl, rfl, rfl⟩ := h2
      exact ⟨[], by simp, ⟨by simp, rfl, .inl ⟨none, 0, rfl, rfl⟩⟩, by simp⟩
    · rename_i e' a len cap h1 h2
      have he : e' = e := by simp_all
      subst he
      simp only [Value.cells, List.cons.injEq, Value.slice.injEq, and_true] at h2
      obtain ⟨rfl, rfl, rfl⟩ := h2
      simp only at hf
      split at hf
      · rename_i hb
        simp only [Option.bind_eq_some_iff] at hf
        obtain ⟨elems, hm, _⟩ := hf
        obtain ⟨hl, hg⟩ := mapM_range_get0 hm
        have key : ∀ i, i < n0 → ∃ x : α, wf x ∧ (encA x).all one = true ∧ (encA x).length = ks.length ∧ ∀ j u, (encA x)[j]? = some u → W.cell? ((a.add (i * ks.length)).add j) = some u := by
          intro i hi
          have := hg i hi
          rw [List.getElem?_eq_getElem (by omega)] at this
          simp only [Option.bind_eq_some_iff] at this
          obtain ⟨cs, hc1, hc2⟩ := this
          rw [hc] at hc1
          obtain ⟨q1, q2⟩ := cells_read hc1
          obtain ⟨x, hx, rfl, ho⟩ := hA cs (leafs_ok enc P W d e' ks hk _ _ _ hc2)
          refine ⟨x, hx, ho, q1, fun j u hj => ?_⟩
          have hlt := (List.getElem?_eq_some_iff.1 hj).1
          rw [q2 j (by omega), hj]
        have pick : ∀ n, n ≤ n0 → ∃ xs : List α, xs.length = n ∧ (∀ x ∈ xs, wf x) ∧ (flat encA xs).all one = true ∧ (flat encA xs).length = n * ks.length ∧ ∀ j u, (flat encA xs)[j]? = some u → W.cell? (a.add j) = some u := by
          intro n
          induction n with
          | zero => intro _; exact ⟨[], rfl, by simp, rfl, by simp, by simp⟩
          | succ n ih =>
            intro hn
            obtain ⟨xs, x1, x2, x3, x4, x5⟩ := ih (by omega)
            obtain ⟨x, y1, y2, y3, y4⟩ := key n (by omega)
            refine ⟨xs ++ [x], by simp [x1], ?_, ?_, ?_, ?_⟩
            · intro z hz; rcases List.mem_append.1 hz with h | h
              · exact x2 z h
              · rw [List.mem_singleton.1 h]; exact y1
            · rw [flat_append, flat_one, List.all_append, x3, y2]; rfl
            · rw [flat_append, flat_one, List.length_append, x4, y3, Nat.succ_mul]
            · intro j u hj
              rw [flat_append, flat_one] at hj
              by_cases hlt : j < (flat encA xs).length
              · rw [List.getElem?_append_left hlt] at hj
                exact x5 j u hj
              · rw [List.getElem?_append_right (by omega)] at hj
                have := y4 _ u hj
                have e3 : (a.add (n * ks.length)).add (j - (flat encA xs).length) = a.add j := by
                  rw [add_add']; congr 1; omega
                rwa [e3] at this
        obtain ⟨xs, x1, x2, x3, x4, x5⟩ := pick n0 (Nat.le_refl _)
        have hmx : maxLen = 9223372036854775807 := by decide
        refine ⟨xs, x2, ?_, by omega⟩
        refine ⟨by rw [x4, x1], x3, ?_⟩
        by_cases hz : n0 = 0
        · subst hz
          exact .inl ⟨some a, c0, rfl, x1⟩
        · right
          have h00 : ∃ u, (flat encA xs)[0]? = some u := by
            have : 0 < (flat encA xs).length := by
              rw [x4]; exact Nat.mul_pos (by omega) h0
            exact ⟨_, List.getElem?_eq_getElem this⟩
          obtain ⟨u0, hu0⟩ := h00
          have hc0 := x5 0 u0 hu0
          have ha0 : a.add 0 = a := by simp [Addr.add]
          rw [ha0] at hc0
          obtain ⟨s1, s2⟩ := cell_some hc0
          obtain ⟨b, o, sp⟩ := a
          simp only at s1 s2
          subst s1
          refine ⟨b, o, c0, by rw [x1], s2, fun j u hj => ?_⟩
          have := x5 j u hj
          have e4 : (Addr.add ⟨b, o, none⟩ j) = ⟨b, o + j, none⟩ := by unfold Addr.add; split <;> simp_all
          rwa [e4] at this
      · simp at hf

theorem leafs_ints : ∀ (n : Nat) (cs : List Value), LeafsOk enc P W (List.replicate n (.int .i64)) cs → ∃ l : List Int, l.length = n ∧ (∀ x ∈ l, I64 x) ∧ cs = l.map (Value.int .i64)
  | 0, cs, h => ⟨[], rfl, by simp, by rw [leafs_nil enc P W h]; rfl⟩
  | n + 1, cs, h => by
    obtain ⟨a, cs', rfl, ha, h⟩ := leafs_int enc P W h
    obtain ⟨l, h1, h2, rfl⟩ := leafs_ints n cs' h
    exact ⟨a :: l, by simp [h1], fun x hx => (List.mem_cons.1 hx).elim (fun e => e ▸ ha) (h2 x), rfl⟩
end

/-! Well-formed data -/
section
variable {H : Type} (enc : TypeId × Value → H) (P : Program) (W : World)
theorem rd_Int {cs : List Value} (h : LeafsOk enc P W (List.replicate 1 (.int .i64)) cs) : ∃ x : Int, I64 x ∧ cs = ic x ∧ (ic x).all one = true := by
  obtain ⟨l, h1, h2, rfl⟩ := leafs_ints enc P W _ _ h
  match l, h1 with
  | [a], _ => exact ⟨a, h2 a (by simp), rfl, rfl⟩
theorem rd_BOp {cs : List Value} (h : LeafsOk enc P W (List.replicate 2 (.int .i64)) cs) : ∃ x : BOp, x.wf ∧ cs = opc x ∧ (opc x).all one = true := by
  obtain ⟨l, h1, h2, rfl⟩ := leafs_ints enc P W _ _ h
  match l, h1 with
  | [a, b], _ => exact ⟨⟨a, b⟩, ⟨h2 a (by simp), h2 b (by simp)⟩, rfl, rfl⟩
theorem rd_WOp {cs : List Value} (h : LeafsOk enc P W (List.replicate 10 (.int .i64)) cs) : ∃ x : WOp, x.wf ∧ cs = woc x ∧ (woc x).all one = true := by
  obtain ⟨l, h1, h2, rfl⟩ := leafs_ints enc P W _ _ h
  match l, h1 with
  | [k, l, a0, a1, a2, a3, a4, a5, a6, a7], _ => exact ⟨⟨k, l, ⟨a0, a1, a2, a3, a4, a5, a6, a7⟩⟩, ⟨h2 _ (by simp), h2 _ (by simp), fun x hx => h2 x (List.mem_append_right [k, l] hx)⟩, rfl, rfl⟩
theorem rd_MStep {cs : List Value} (h : LeafsOk enc P W (List.replicate 13 (.int .i64)) cs) : ∃ x : MStep, x.wf ∧ cs = msc x ∧ (msc x).all one = true := by
  obtain ⟨l, h1, h2, rfl⟩ := leafs_ints enc P W _ _ h
  match l, h1 with
  | [d, n, k, a, v, a0, a1, a2, a3, a4, a5, a6, a7], _ => exact ⟨⟨d, n, ⟨k, a, v⟩, ⟨a0, a1, a2, a3, a4, a5, a6, a7⟩⟩, ⟨h2 _ (by simp), h2 _ (by simp), ⟨h2 _ (by simp), h2 _ (by simp), h2 _ (by simp)⟩, fun x hx => h2 x (List.mem_append_right [d, n, k, a, v] hx)⟩, rfl, rfl⟩
theorem rd_NOp {cs : List Value} (h : LeafsOk enc P W (List.replicate 18 (.int .i64)) cs) : ∃ x : NOp, x.wf ∧ cs = noc x ∧ (noc x).all one = true := by
  obtain ⟨l, h1, h2, rfl⟩ := leafs_ints enc P W _ _ h
  match l, h1 with
  | [d, k, i, b0, b1, b2, b3, b4, b5, b6, a0, a1, a2, a3, a4, a5, a6, a7], _ => exact ⟨⟨d, k, i, ⟨b0, b1, b2, b3, b4, b5, b6, ⟨a0, a1, a2, a3, a4, a5, a6, a7⟩⟩⟩, ⟨h2 _ (by simp), h2 _ (by simp), h2 _ (by simp), h2 _ (by simp), h2 _ (by simp), h2 _ (by simp), h2 _ (by simp), h2 _ (by simp), h2 _ (by simp), h2 _ (by simp), fun x hx => h2 x (List.mem_append_right [d, k, i, b0, b1, b2, b3, b4, b5, b6] hx)⟩, rfl, rfl⟩
theorem rd_AOp {cs : List Value} (h : LeafsOk enc P W (List.replicate 11 (.int .i64)) cs) : ∃ x : AOp, x.wf ∧ cs = aoc x ∧ (aoc x).all one = true := by
  obtain ⟨l, h1, h2, rfl⟩ := leafs_ints enc P W _ _ h
  match l, h1 with
  | [d, k, i, a0, a1, a2, a3, a4, a5, a6, a7], _ => exact ⟨⟨d, k, i, ⟨a0, a1, a2, a3, a4, a5, a6, a7⟩⟩, ⟨h2 _ (by simp), h2 _ (by simp), h2 _ (by simp), fun x hx => h2 x (List.mem_append_right [d, k, i] hx)⟩, rfl, rfl⟩
theorem rd_Op3 {cs : List Value} (h : LeafsOk enc P W (List.replicate 3 (.int .i64)) cs) : ∃ x : Op3, x.wf ∧ cs = oc x ∧ (oc x).all one = true := by
  obtain ⟨l, h1, h2, rfl⟩ := leafs_ints enc P W _ _ h
  match l, h1 with
  | [a, b, c], _ => exact ⟨⟨a, b, c⟩, ⟨h2 a (by simp), h2 b (by simp), h2 c (by simp)⟩, rfl, rfl⟩
theorem rd_Words {cs : List Value} (h : LeafsOk enc P W (List.replicate 8 (.int .i64)) cs) : ∃ x : Words, x.wf ∧ cs = wc x ∧ (wc x).all one = true := by
  obtain ⟨l, h1, h2, rfl⟩ := leafs_ints enc P W _ _ h
  match l, h1 with
  | [a, b, c, d, e, f, g, i], _ => exact ⟨⟨a, b, c, d, e, f, g, i⟩, h2, rfl, rfl⟩
theorem rd_Msg {cs : List Value} (h : LeafsOk enc P W (List.replicate 15 (.int .i64)) cs) : ∃ x : Msg, x.wf ∧ cs = mc x ∧ (mc x).all one = true := by
  obtain ⟨l, h1, h2, rfl⟩ := leafs_ints enc P W _ _ h
  match l, h1 with
  | [k, l, s, d, w, n, o, a0, a1, a2, a3, a4, a5, a6, a7], _ =>
    exact ⟨⟨k, l, s, d, w, n, o, ⟨a0, a1, a2, a3, a4, a5, a6, a7⟩⟩, ⟨h2 _ (by simp), h2 _ (by simp), h2 _ (by simp), h2 _ (by simp), h2 _ (by simp), h2 _ (by simp), h2 _ (by simp), fun x hx => h2 x (List.mem_append_right [k, l, s, d, w, n, o] hx)⟩, rfl, rfl⟩
end
end Go.Sx
