/- Read, Read2, SlT, Same7, All: several of my texts as one. My own work. -/
import Derived.Test.YtlaohgngdaglmaaNum
import Derived.WalkKit
import Derived.ProofKit
import Derived.OpenShut
import Derived.ChangeOld
import Derived.Below
import Derived.Carry
import Derived.Test.YtlaohgngdaglmaaData
/- What a law's arguments are: readings of whole numbers, structs of them, slices of these. Names no program. -/
namespace Go.Sx
open Go Go.ChangeShapes Go.WideShapes
set_option linter.unusedVariables false

inductive Leaf where
  | int (k : IntKind)
  | bool
  | other (t : TypeId)

section
variable {H : Type} (enc : TypeId × Value → H) (P : Program) (W : World)

/-- A cell is one of its kind. -/
def LeafOk : Leaf → Value → Prop
  | .int k, v => ∃ n, v = .int k n ∧ (Lit.int k n).wf = true
  | .bool, v => ∃ b, v = .bool b
  | .other t, v => ∃ fuel x, DataW.trod enc P W 0 (fun _ => true) true fuel t [v] = some x

inductive LeafsOk : List Leaf → List Value → Prop
  | nil : LeafsOk [] []
  | cons {k : Leaf} {c : Value} {ks : List Leaf} {cs : List Value} : LeafOk enc P W k c → LeafsOk ks cs → LeafsOk (k :: ks) (c :: cs)

def leafsF (f : TypeId → Option (List Leaf)) : List Field → Nat → Option (List Leaf)
  | [], _ => some []
  | fd :: r, off => match f fd.type with
    | none => none
    | some ks => if fd.offset = off ∧ P.cellsOf fd.type = ks.length then (leafsF f r (off + ks.length)).map (ks ++ ·) else none

def leafs : Nat → TypeId → Option (List Leaf)
  | 0, _ => none
  | d + 1, t => match P.underlying t with
    | some .bool => some [.bool]
    | some (.int k) => some [.int k]
    | some (.slice _) => some [.other t]
    | some .string => some [.other t]
    | some (.struct fs) => (leafsF P (leafs d) fs.toList 0).bind fun ks => if ks.length = P.cellsOf t then some ks else none
    | some (.array n e) => (leafs d e).bind fun ks => if ks.length = P.cellsOf e ∧ n * ks.length = P.cellsOf t then some (List.replicate n ks).flatten else none
    | _ => none

theorem leafsOk_append {ks ks' : List Leaf} {cs cs' : List Value} (h : LeafsOk enc P W ks cs) (h' : LeafsOk enc P W ks' cs') : LeafsOk enc P W (ks ++ ks') (cs ++ cs') := by
  induction h with
  | nil => exact h'
  | cons a _ ih => exact .cons a ih

theorem mapM_cons_some {α β : Type} {f : α → Option β} {a : α} {l : List α} {r : List β} (h : (a :: l).mapM f = some r) : ∃ b r', f a = some b ∧ l.mapM f = some r' ∧ r = b :: r' := by
  rw [List.mapM_cons] at h
  simp only [Option.bind_eq_bind, Option.bind_eq_some_iff] at h
  obtain ⟨b, h1, r', h2, h3⟩ := h
  exact ⟨b, r', h1, h2, by simpa using h3.symm⟩

theorem leafsF_ok {d : Nat} (ih : ∀ t ks, leafs P d t = some ks → ∀ fuel cs x, DataW.trod enc P W 0 (fun _ => true) true fuel t cs = some x → LeafsOk enc P W ks cs) (fuel : Nat) (cs : List Value) :
    ∀ (fs : List Field) (off : Nat) (ks : List Leaf) (xs : List (DataW H × List MemPlace)), leafsF P (leafs P d) fs off = some ks →
      (fs.mapM fun f => DataW.trod enc P W 0 (fun _ => true) true fuel f.type ((cs.drop f.offset).take (P.cellsOf f.type))) = some xs → LeafsOk enc P W ks ((cs.drop off).take ks.length)
  | [], off, ks, xs, h, _ => by simp [leafsF] at h; subst h; simp; exact .nil
  | fd :: r, off, ks, xs, h, hm => by
    obtain ⟨x, xs', h1, h2, _⟩ := mapM_cons_some hm
    simp only [leafsF] at h
    cases hk : leafs P d fd.type with
    | none => simp [hk] at h
    | some k0 =>
      simp only [hk] at h
      split at h
      · rename_i hc
        obtain ⟨c1, c2⟩ := hc
        cases hr : leafsF P (leafs P d) r (off + k0.length) with
        | none => simp [hr] at h
        | some k1 =>
          simp [hr] at h
          subst h
          have a := ih _ _ hk _ _ _ h1
          have b := leafsF_ok ih fuel cs r _ _ _ hr h2
          rw [c1, c2] at a
          have e : (cs.drop off).take (k0 ++ k1).length = (cs.drop off).take k0.length ++ (cs.drop (off + k0.length)).take k1.length := by
            rw [List.length_append, List.take_add, List.drop_drop]
          rw [e]
          exact leafsOk_append enc P W a b
      · simp at h

theorem leafs_row {e : Nat} {ks : List Leaf} {fuel : Nat} {cs : List Value} (ih : ∀ fuel cs x, DataW.trod enc P W 0 (fun _ => true) true fuel e cs = some x → LeafsOk enc P W ks cs) (he : ks.length = P.cellsOf e) :
    ∀ (n k : Nat) (xs : List (DataW H × List MemPlace)), (((List.range n).map (k + ·)).mapM fun i => DataW.trod enc P W 0 (fun _ => true) true fuel e ((cs.drop (i * P.cellsOf e)).take (P.cellsOf e))) = some xs →
      LeafsOk enc P W (List.replicate n ks).flatten ((cs.drop (k * P.cellsOf e)).take (n * P.cellsOf e))
  | 0, k, xs, _ => by simp; exact .nil
  | n + 1, k, xs, h => by
    have e1 : (List.range (n + 1)).map (k + ·) = k :: (List.range n).map (k + 1 + ·) := by
      rw [List.range_succ_eq_map]
      simp [Function.comp_def, Nat.add_assoc, Nat.add_comm 1]
    rw [e1] at h
    obtain ⟨x, xs', h1, h2, _⟩ := mapM_cons_some h
    have a := ih _ _ _ h1
    have b := leafs_row ih he n (k + 1) xs' h2
    have e2 : (cs.drop (k * P.cellsOf e)).take ((n + 1) * P.cellsOf e) = (cs.drop (k * P.cellsOf e)).take (P.cellsOf e) ++ (cs.drop ((k + 1) * P.cellsOf e)).take (n * P.cellsOf e) := by
      rw [Nat.succ_mul, Nat.add_comm, List.take_add, List.drop_drop, Nat.succ_mul]
    rw [e2, List.replicate_succ, List.flatten_cons]
    exact leafsOk_append enc P W a b

theorem leafs_ok : ∀ (d : Nat) (t : TypeId) (ks : List Leaf), leafs P d t = some ks → ∀ fuel cs x, DataW.trod enc P W 0 (fun _ => true) true fuel t cs = some x → LeafsOk enc P W ks cs
  | 0, _, _, h => by simp [leafs] at h
  | d + 1, t, ks, h => by
    intro fuel cs x hx
    have ih := leafs_ok d
    simp only [leafs] at h
    cases fuel with
    | zero => simp [DataW.trod] at hx
    | succ fuel =>
      have hx0 := hx
      cases hu : P.underlying t with
      | none => simp [hu] at h
      | some u =>
        cases u <;> simp only [hu] at h <;> try (simp at h; done)
        case bool =>
          simp at h; subst h
          have : ∃ b, cs = [.bool b] := by
            unfold DataW.trod at hx; rw [hu] at hx
            split at hx <;> simp_all
          obtain ⟨b, rfl⟩ := this
          exact .cons ⟨b, rfl⟩ .nil
        case int k =>
          simp at h; subst h
          obtain ⟨n, h1, _, h3⟩ := DataW.trod_int hu hx0
          subst h1
          exact .cons ⟨n, rfl, h3⟩ .nil
        case string =>
          simp at h; subst h
          have : ∃ v, cs = [v] := by
            unfold DataW.trod at hx; rw [hu] at hx
            split at hx <;> simp_all
          obtain ⟨v, rfl⟩ := this
          exact .cons ⟨_, _, hx0⟩ .nil
        case slice e =>
          simp at h; subst h
          have : ∃ v, cs = [v] := by
            unfold DataW.trod at hx; rw [hu] at hx
            split at hx <;> simp_all
          obtain ⟨v, rfl⟩ := this
          exact .cons ⟨_, _, hx0⟩ .nil
        case array n e =>
          simp only [Option.bind_eq_some_iff] at h
          obtain ⟨k0, h1, h2⟩ := h
          split at h2
          · rename_i hc
            simp at h2; subst h2
            unfold DataW.trod at hx; rw [hu] at hx
            have hx' : (if cs.length = P.cellsOf t then ((List.range n).mapM fun i => DataW.trod enc P W 0 (fun _ => true) true fuel e ((cs.drop (i * P.cellsOf e)).take (P.cellsOf e))).map fun xs => (DataW.agg (xs.map (·.1)), xs.flatMap (·.2)) else none) = some x := by
              split at hx <;> simp_all
            split at hx'
            · rename_i hl
              simp only [Option.map_eq_some_iff] at hx'
              obtain ⟨xs, hm, _⟩ := hx'
              have := leafs_row enc P W (fun fuel cs x hx => ih e k0 h1 fuel cs x hx) hc.1 n 0 xs (by simpa using hm)
              simp only [Nat.zero_mul, List.drop_zero] at this
              rw [← hc.1, hc.2, ← hl, List.take_length] at this
              exact this
            · simp at hx'
          · simp at h2
        case struct fs =>
          simp only [Option.bind_eq_some_iff] at h
          obtain ⟨k0, h1, h2⟩ := h
          split at h2
          · rename_i hc
            simp at h2; subst h2
            unfold DataW.trod at hx; rw [hu] at hx
            have hx' : ∃ xs, cs.length = P.cellsOf t ∧ (fs.toList.mapM fun f => DataW.trod enc P W 0 (fun _ => true) true fuel f.type ((cs.drop f.offset).take (P.cellsOf f.type))) = some xs := by
              have hx2 : (if cs.length = P.cellsOf t then (fs.toList.mapM fun f => DataW.trod enc P W 0 (fun _ => true) true fuel f.type ((cs.drop f.offset).take (P.cellsOf f.type))).map fun xs => (DataW.agg (xs.map (·.1)), xs.flatMap (·.2)) else none) = some x := by
                split at hx <;> simp_all
              split at hx2
              · rename_i hl
                simp only [Option.map_eq_some_iff] at hx2
                obtain ⟨xs, hm, _⟩ := hx2
                exact ⟨xs, hl, hm⟩
              · simp at hx2
            obtain ⟨xs, hl, hm⟩ := hx'
            have := leafsF_ok enc P W ih fuel cs fs.toList 0 k0 xs h1 hm
            rw [hc, List.drop_zero, ← hl, List.take_length] at this
            exact this
          · simp at h2

/-- A value that reads as a datum: its cells are of their kinds. -/
theorem read_leafs {d : Nat} {t : TypeId} {ks : List Leaf} {v : Value} {dt : DataW H} {p : List MemPlace} (hk : leafs P d t = some ks) (h : DataW.Trod enc P W 0 (fun _ => true) true t v dt p) : LeafsOk enc P W ks (cellsOf v) := by
  obtain ⟨fuel, hf⟩ := h
  have := leafs_ok enc P W d t ks hk fuel _ _ hf
  rw [cellsOf_eq] at this
  exact this

theorem leaf_i64 {v : Value} (h : LeafOk enc P W (.int .i64) v) : ∃ n, v = .int .i64 n ∧ I64 n := by
  obtain ⟨n, e, hw⟩ := h
  refine ⟨n, e, ?_⟩
  simp only [Lit.wf, Bool.and_eq_true, decide_eq_true_eq, IntKind.min, IntKind.max, IntKind.signed, IntKind.bits] at hw
  unfold I64
  simp at hw
  omega

theorem leafs_cons {k : Leaf} {ks : List Leaf} {cs : List Value} (h : LeafsOk enc P W (k :: ks) cs) : ∃ c cs', cs = c :: cs' ∧ LeafOk enc P W k c ∧ LeafsOk enc P W ks cs' := by
  cases h with
  | cons a b => exact ⟨_, _, rfl, a, b⟩
theorem leafs_nil {cs : List Value} (h : LeafsOk enc P W [] cs) : cs = [] := by cases h; rfl

theorem leafs_int {ks : List Leaf} {cs : List Value} (h : LeafsOk enc P W (.int .i64 :: ks) cs) : ∃ n cs', cs = .int .i64 n :: cs' ∧ I64 n ∧ LeafsOk enc P W ks cs' := by
  obtain ⟨c, cs', rfl, h1, h2⟩ := leafs_cons enc P W h
  obtain ⟨n, rfl, hn⟩ := leaf_i64 enc P W h1
  exact ⟨n, cs', rfl, hn, h2⟩
end

theorem cells_of_agg {v : Value} {cs : Array Value} (h : v = .agg cs) : v = .agg (cellsOf v).toArray := by subst h; simp [cellsOf]
end Go.Sx

/- Readings of slices of flat things. My own work. -/
namespace Go.Sx
open Go Go.ChangeShapes Go.WideShapes
set_option linter.unusedVariables false

section
variable {H : Type} (enc : TypeId × Value → H) (P : Program) (W : World)

theorem mapM_range_get {α : Type} {f : Nat → Option α} : ∀ (n k : Nat) (r : List α), ((List.range n).map (k + ·)).mapM f = some r → r.length = n ∧ ∀ i, i < n → f (k + i) = r[i]?
  | 0, k, r, h => by simp at h; subst h; simp
  | n + 1, k, r, h => by
    have e1 : (List.range (n + 1)).map (k + ·) = k :: (List.range n).map (k + 1 + ·) := by
      rw [List.range_succ_eq_map]
      simp [Function.comp_def, Nat.add_assoc, Nat.add_comm 1]
    rw [e1] at h
    obtain ⟨x, xs, h1, h2, rfl⟩ := mapM_cons_some h
    obtain ⟨h3, h4⟩ := mapM_range_get n (k + 1) xs h2
    refine ⟨by simp [h3], fun i hi => ?_⟩
    cases i with
    | zero => simpa using h1
    | succ i => have := h4 i (by omega); rw [List.getElem?_cons_succ, ← this]; congr 1; omega
theorem mapM_range_get0 {α : Type} {f : Nat → Option α} {n : Nat} {r : List α} (h : (List.range n).mapM f = some r) : r.length = n ∧ ∀ i, i < n → f i = r[i]? := by
  have := mapM_range_get n 0 r (by simpa using h)
  simpa using this

theorem cells_read {w : World} {a : Addr} {n : Nat} {cs : List Value} (h : w.cells? 0 a n = some cs) : cs.length = n ∧ ∀ j, j < n → w.cell? (a.add j) = cs[j]? := by
  unfold World.cells? at h
  rw [if_pos (Nat.zero_le _)] at h
  exact mapM_range_get0 h

theorem cell_some {w : World} {a : Addr} {v : Value} (h : w.cell? a = some v) : a.spot = none ∧ a.block < w.heap.size := by
  unfold World.cell? at h
  split at h
  · rename_i he
    have hb := (Array.getElem?_eq_some_iff.1 he).1
    split at h
    · simp at h
    · rename_i hs
      refine ⟨by simpa using hs, hb⟩
  · simp at h

theorem add_add' (a : Addr) (i j : Nat) : (a.add i).add j = a.add (i + j) := by
  unfold Addr.add
  by_cases hi : i = 0 <;> by_cases hj : j = 0 <;> simp [hi, hj, Nat.add_assoc]

theorem leafOk_one {k : Leaf} {v : Value} (h : LeafOk enc P W k v) (hk : match k with | .other _ => False | _ => True) : one v = true := by
  cases k with
  | int k => obtain ⟨n, rfl, _⟩ := h; rfl
  | bool => obtain ⟨b, rfl⟩ := h; rfl
  | other t => exact hk.elim

theorem read_list {α : Type} {encA : α → List Value} {wf : α → Prop} {d e t : Nat} {ks : List Leaf} {v : Value} {dt : DataW H} {p : List MemPlace} (hu : P.underlying t = some (.slice e)) (hk : leafs P d e = some ks) (hc : P.cellsOf e = ks.length) (h0 : 0 < ks.length)
    (hA : ∀ cs, LeafsOk enc P W ks cs → ∃ x, wf x ∧ cs = encA x ∧ (encA x).all one = true) (hv0 : ∃ a n c, v = .slice a n c) (h : DataW.Trod enc P W 0 (fun _ => true) true t v dt p) :
    ∃ xs : List α, (∀ x ∈ xs, wf x) ∧ ROld W ks.length v xs.length (flat encA xs) ∧ xs.length ≤ 9223372036854775807 := by
  obtain ⟨a0, n0, c0, rfl⟩ := hv0
  obtain ⟨fuel, hf⟩ := h
  cases fuel with
  | zero => simp [DataW.trod] at hf
  | succ fuel =>
    unfold DataW.trod at hf
    rw [hu] at hf
    split at hf <;> try (simp_all; done)
    · rename_i h1 h2
      simp only [Value.cells, List.cons.injEq, Value.slice.injEq, and_true] at h2
      obtain ⟨rfl, rfl, rfl⟩ := h2
      exact ⟨[], by simp, ⟨by simp, rfl, .inl ⟨none, 0, rfl, rfl⟩⟩, by simp⟩
    · rename_i e' a len cap h1 h2
      have he : e' = e := by simp_all
      subst he
      simp only [Value.cells, List.cons.injEq, Value.slice.injEq, and_true] at h2
      obtain ⟨rfl, rfl, rfl⟩ := h2
      simp only at hf
      split at hf
      · rename_i hb
        simp only [Option.bind_eq_some_iff] at hf
        obtain ⟨elems, hm, _⟩ := hf
        obtain ⟨hl, hg⟩ := mapM_range_get0 hm
        have key : ∀ i, i < n0 → ∃ x : α, wf x ∧ (encA x).all one = true ∧ (encA x).length = ks.length ∧ ∀ j u, (encA x)[j]? = some u → W.cell? ((a.add (i * ks.length)).add j) = some u := by
          intro i hi
          have := hg i hi
          rw [List.getElem?_eq_getElem (by omega)] at this
          simp only [Option.bind_eq_some_iff] at this
          obtain ⟨cs, hc1, hc2⟩ := this
          rw [hc] at hc1
          obtain ⟨q1, q2⟩ := cells_read hc1
          obtain ⟨x, hx, rfl, ho⟩ := hA cs (leafs_ok enc P W d e' ks hk _ _ _ hc2)
          refine ⟨x, hx, ho, q1, fun j u hj => ?_⟩
          have hlt := (List.getElem?_eq_some_iff.1 hj).1
          rw [q2 j (by omega), hj]
        have pick : ∀ n, n ≤ n0 → ∃ xs : List α, xs.length = n ∧ (∀ x ∈ xs, wf x) ∧ (flat encA xs).all one = true ∧ (flat encA xs).length = n * ks.length ∧ ∀ j u, (flat encA xs)[j]? = some u → W.cell? (a.add j) = some u := by
          intro n
          induction n with
          | zero => intro _; exact ⟨[], rfl, by simp, rfl, by simp, by simp⟩
          | succ n ih =>
            intro hn
            obtain ⟨xs, x1, x2, x3, x4, x5⟩ := ih (by omega)
            obtain ⟨x, y1, y2, y3, y4⟩ := key n (by omega)
            refine ⟨xs ++ [x], by simp [x1], ?_, ?_, ?_, ?_⟩
            · intro z hz; rcases List.mem_append.1 hz with h | h
              · exact x2 z h
              · rw [List.mem_singleton.1 h]; exact y1
            · rw [flat_append, flat_one, List.all_append, x3, y2]; rfl
            · rw [flat_append, flat_one, List.length_append, x4, y3, Nat.succ_mul]
            · intro j u hj
              rw [flat_append, flat_one] at hj
              by_cases hlt : j < (flat encA xs).length
              · rw [List.getElem?_append_left hlt] at hj
                exact x5 j u hj
              · rw [List.getElem?_append_right (by omega)] at hj
                have := y4 _ u hj
                have e3 : (a.add (n * ks.length)).add (j - (flat encA xs).length) = a.add j := by
                  rw [add_add']; congr 1; omega
                rwa [e3] at this
        obtain ⟨xs, x1, x2, x3, x4, x5⟩ := pick n0 (Nat.le_refl _)
        have hmx : maxLen = 9223372036854775807 := by decide
        refine ⟨xs, x2, ?_, by omega⟩
        refine ⟨by rw [x4, x1], x3, ?_⟩
        by_cases hz : n0 = 0
        · subst hz
          exact .inl ⟨some a, c0, rfl, x1⟩
        · right
          have h00 : ∃ u, (flat encA xs)[0]? = some u := by
            have : 0 < (flat encA xs).length := by
              rw [x4]; exact Nat.mul_pos (by omega) h0
            exact ⟨_, List.getElem?_eq_getElem this⟩
          obtain ⟨u0, hu0⟩ := h00
          have hc0 := x5 0 u0 hu0
          have ha0 : a.add 0 = a := by simp [Addr.add]
          rw [ha0] at hc0
          obtain ⟨s1, s2⟩ := cell_some hc0
          obtain ⟨b, o, sp⟩ := a
          simp only at s1 s2
          subst s1
          refine ⟨b, o, c0, by rw [x1], s2, fun j u hj => ?_⟩
          have := x5 j u hj
          have e4 : (Addr.add ⟨b, o, none⟩ j) = ⟨b, o + j, none⟩ := by unfold Addr.add; split <;> simp_all
          rwa [e4] at this
      · simp at hf

theorem leafs_ints : ∀ (n : Nat) (cs : List Value), LeafsOk enc P W (List.replicate n (.int .i64)) cs → ∃ l : List Int, l.length = n ∧ (∀ x ∈ l, I64 x) ∧ cs = l.map (Value.int .i64)
  | 0, cs, h => ⟨[], rfl, by simp, by rw [leafs_nil enc P W h]; rfl⟩
  | n + 1, cs, h => by
    obtain ⟨a, cs', rfl, ha, h⟩ := leafs_int enc P W h
    obtain ⟨l, h1, h2, rfl⟩ := leafs_ints n cs' h
    exact ⟨a :: l, by simp [h1], fun x hx => (List.mem_cons.1 hx).elim (fun e => e ▸ ha) (h2 x), rfl⟩
end

/-! Well-formed data -/
section
variable {H : Type} (enc : TypeId × Value → H) (P : Program) (W : World)
theorem rd_Int {cs : List Value} (h : LeafsOk enc P W (List.replicate 1 (.int .i64)) cs) : ∃ x : Int, I64 x ∧ cs = ic x ∧ (ic x).all one = true := by
  obtain ⟨l, h1, h2, rfl⟩ := leafs_ints enc P W _ _ h
  match l, h1 with
  | [a], _ => exact ⟨a, h2 a (by simp), rfl, rfl⟩
theorem rd_BOp {cs : List Value} (h : LeafsOk enc P W (List.replicate 2 (.int .i64)) cs) : ∃ x : BOp, x.wf ∧ cs = opc x ∧ (opc x).all one = true := by
  obtain ⟨l, h1, h2, rfl⟩ := leafs_ints enc P W _ _ h
  match l, h1 with
  | [a, b], _ => exact ⟨⟨a, b⟩, ⟨h2 a (by simp), h2 b (by simp)⟩, rfl, rfl⟩
theorem rd_WOp {cs : List Value} (h : LeafsOk enc P W (List.replicate 10 (.int .i64)) cs) : ∃ x : WOp, x.wf ∧ cs = woc x ∧ (woc x).all one = true := by
  obtain ⟨l, h1, h2, rfl⟩ := leafs_ints enc P W _ _ h
  match l, h1 with
  | [k, l, a0, a1, a2, a3, a4, a5, a6, a7], _ => exact ⟨⟨k, l, ⟨a0, a1, a2, a3, a4, a5, a6, a7⟩⟩, ⟨h2 _ (by simp), h2 _ (by simp), fun x hx => h2 x (List.mem_append_right [k, l] hx)⟩, rfl, rfl⟩
theorem rd_MStep {cs : List Value} (h : LeafsOk enc P W (List.replicate 13 (.int .i64)) cs) : ∃ x : MStep, x.wf ∧ cs = msc x ∧ (msc x).all one = true := by
  obtain ⟨l, h1, h2, rfl⟩ := leafs_ints enc P W _ _ h
  match l, h1 with
  | [d, n, k, a, v, a0, a1, a2, a3, a4, a5, a6, a7], _ => exact ⟨⟨d, n, ⟨k, a, v⟩, ⟨a0, a1, a2, a3, a4, a5, a6, a7⟩⟩, ⟨h2 _ (by simp), h2 _ (by simp), ⟨h2 _ (by simp), h2 _ (by simp), h2 _ (by simp)⟩, fun x hx => h2 x (List.mem_append_right [d, n, k, a, v] hx)⟩, rfl, rfl⟩
theorem rd_NOp {cs : List Value} (h : LeafsOk enc P W (List.replicate 18 (.int .i64)) cs) : ∃ x : NOp, x.wf ∧ cs = noc x ∧ (noc x).all one = true := by
  obtain ⟨l, h1, h2, rfl⟩ := leafs_ints enc P W _ _ h
  match l, h1 with
  | [d, k, i, b0, b1, b2, b3, b4, b5, b6, a0, a1, a2, a3, a4, a5, a6, a7], _ => exact ⟨⟨d, k, i, ⟨b0, b1, b2, b3, b4, b5, b6, ⟨a0, a1, a2, a3, a4, a5, a6, a7⟩⟩⟩, ⟨h2 _ (by simp), h2 _ (by simp), h2 _ (by simp), h2 _ (by simp), h2 _ (by simp), h2 _ (by simp), h2 _ (by simp), h2 _ (by simp), h2 _ (by simp), h2 _ (by simp), fun x hx => h2 x (List.mem_append_right [d, k, i, b0, b1, b2, b3, b4, b5, b6] hx)⟩, rfl, rfl⟩
theorem rd_AOp {cs : List Value} (h : LeafsOk enc P W (List.replicate 11 (.int .i64)) cs) : ∃ x : AOp, x.wf ∧ cs = aoc x ∧ (aoc x).all one = true := by
  obtain ⟨l, h1, h2, rfl⟩ := leafs_ints enc P W _ _ h
  match l, h1 with
  | [d, k, i, a0, a1, a2, a3, a4, a5, a6, a7], _ => exact ⟨⟨d, k, i, ⟨a0, a1, a2, a3, a4, a5, a6, a7⟩⟩, ⟨h2 _ (by simp), h2 _ (by simp), h2 _ (by simp), fun x hx => h2 x (List.mem_append_right [d, k, i] hx)⟩, rfl, rfl⟩
theorem rd_Op3 {cs : List Value} (h : LeafsOk enc P W (List.replicate 3 (.int .i64)) cs) : ∃ x : Op3, x.wf ∧ cs = oc x ∧ (oc x).all one = true := by
  obtain ⟨l, h1, h2, rfl⟩ := leafs_ints enc P W _ _ h
  match l, h1 with
  | [a, b, c], _ => exact ⟨⟨a, b, c⟩, ⟨h2 a (by simp), h2 b (by simp), h2 c (by simp)⟩, rfl, rfl⟩
theorem rd_Words {cs : List Value} (h : LeafsOk enc P W (List.replicate 8 (.int .i64)) cs) : ∃ x : Words, x.wf ∧ cs = wc x ∧ (wc x).all one = true := by
  obtain ⟨l, h1, h2, rfl⟩ := leafs_ints enc P W _ _ h
  match l, h1 with
  | [a, b, c, d, e, f, g, i], _ => exact ⟨⟨a, b, c, d, e, f, g, i⟩, h2, rfl, rfl⟩
theorem rd_Msg {cs : List Value} (h : LeafsOk enc P W (List.replicate 15 (.int .i64)) cs) : ∃ x : Msg, x.wf ∧ cs = mc x ∧ (mc x).all one = true := by
  obtain ⟨l, h1, h2, rfl⟩ := leafs_ints enc P W _ _ h
  match l, h1 with
  | [k, l, s, d, w, n, o, a0, a1, a2, a3, a4, a5, a6, a7], _ =>
    exact ⟨⟨k, l, s, d, w, n, o, ⟨a0, a1, a2, a3, a4, a5, a6, a7⟩⟩, ⟨h2 _ (by simp), h2 _ (by simp), h2 _ (by simp), h2 _ (by simp), h2 _ (by simp), h2 _ (by simp), h2 _ (by simp), fun x hx => h2 x (List.mem_append_right [k, l, s, d, w, n, o] hx)⟩, rfl, rfl⟩
end
end Go.Sx

/- The library's functions on slices of several types. My own work. -/
namespace Go.Sx
open Go Go.Proofs
set_option linter.unusedVariables false
set_option linter.unusedSectionVars false
set_option maxRecDepth 100000
set_option maxHeartbeats 4000000
attribute [local irreducible] Go.Exit.then Go.Exit.inBlock Go.Code.wp WC WO WE WQ V LoopQ FnQ Sat Star band bor IntKind.wrap WR Code.rounds WT KO

theorem del_fin {e : TypeId} {sz g n i j cap : Nat} {xs spare zs : List Value} {M : List HP} (hij : i ≤ j) (hj : j ≤ n) (q1 : xs.length = n * sz) (q2 : xs.all one = true) (h1 : n ≤ cap) (h2 : cap ≤ maxLen) (h3 : spare.length = (cap - n) * sz)
    (hz : zs.length = n * sz - (i + (n - j)) * sz) (a1 : (i + (n - j)) * sz = i * sz + (n - j) * sz) (a2 : (i + (n - j)) * sz ≤ n * sz) (a3 : j * sz ≤ n * sz) (a4 : n * sz ≤ cap * sz) (a5 : (cap - n) * sz = cap * sz - n * sz) (a6 : (n - j) * sz = n * sz - j * sz) :
    Ent (Cells g e (splice (splice (xs ++ spare) (i * sz) ((xs.drop (j * sz)).take ((n - j) * sz))) (0 + (i + (n - j)) * sz) zs) :: M)
      (Own e sz (.slice (some ⟨g, 0, none⟩) (i + (n - j)) cap) (i + (n - j)) (xs.take (i * sz) ++ xs.drop (j * sz)) :: M) := by
  have e1 : (List.drop (j * sz) xs).take ((n - j) * sz) = List.drop (j * sz) xs := List.take_of_length_le (by simp; omega)
  have e2 : (List.drop (j * sz) xs).length = (n - j) * sz := by simp; omega
  rw [e1, Nat.zero_add]
  have hl := splice_length (l := xs ++ spare) (ys := List.drop (j * sz) xs) (o := i * sz) (by simp; omega)
  refine own_close (cap := cap) ?_ (by omega) h2 ?_ ?_ Ent.refl
  · rw [splice_length, hl, List.length_append, q1, h3]
    · omega
    · rw [hl, List.length_append]; omega
  · rw [take_splice_lt (by rw [hl, List.length_append]; omega) (by omega)]
    have := take_splice (l := xs ++ spare) (ys := List.drop (j * sz) xs) (o := i * sz) (by simp; omega)
    rw [a1, ← e2, this, List.take_append_of_le_length (by omega)]
  · rw [List.all_append, List.all_eq_true.2 fun u hu => List.all_eq_true.1 q2 u (List.mem_of_mem_take hu), List.all_eq_true.2 fun u hu => List.all_eq_true.1 q2 u (List.mem_of_mem_drop hu)]
    rfl

theorem rep_len {z : List Value} {k n : Nat} (h : z.length = n) : (List.replicate k z).flatten.length = k * n := by simp [h]

theorem sl_Clone_int {F : List HP} {v : Value} {n : Nat} {xs : List Value} (k : RdL F 1 v n xs) (hn : n ≤ 1099511627776) : FnF Try.prog 120 [v] [] F (fun r L' => ∃ p c, r = .slice p n c ∧ L' = [Own 3 1 (.slice p n c) n xs]) := by
  refine FnF.mk' Try.func120 rfl rfl Try.ntmps120 rfl ?_
  refine WC_rd (v := v) k fun q1 q2 p c0 e q3 => ?_
  subst e
  cases p with
  | none =>
    obtain rfl := q3 rfl
    obtain rfl : xs = [] := List.eq_nil_of_length_eq_zero (by simpa using q1)
    repeat (first | rintro _ _ ⟨rfl, rfl⟩ | refine exq fun _ => ?_ | intro _ | refine go ?_ | refine drq ?_)
    (apply WE_ret rfl rfl (by (repeat (first | exact ResOk.nil | (apply ResOk.tmp; rfl) | (apply resOk_cell; rfl; exact inferInstance; rfl; rfl)))))
    · exact ⟨_, _, rfl, rfl⟩
    · exact own_empty Ent.refl
  | some a =>
    repeat (first | rintro _ _ ⟨rfl, rfl⟩ | refine exq fun _ => ?_ | intro _ | refine go ?_ | refine drq ?_)
    simp only [Nat.zero_add, List.nil_append]
    (apply WE_ret rfl rfl (by (repeat (first | exact ResOk.nil | (apply ResOk.tmp; rfl) | (apply resOk_cell; rfl; exact inferInstance; rfl; rfl)))))
    · exact ⟨_, _, rfl, rfl⟩
    · exact Ent.refl

theorem sl_Index_int {F : List HP} {v : Value} {l : List Int} {x : Int} (k : RdL F 1 v l.length (flat ic l)) (hn : l.length ≤ 1099511627776) : FnF Try.prog 108 [v, iv x] [] F (fun r L' => r = .int .i64 (indexBy (· = x) l) ∧ L' = []) := by
  refine FnF.mk' Try.func108 rfl rfl Try.ntmps108 rfl ?_
  repeat (first | rintro _ _ ⟨rfl, rfl⟩ | refine exq fun _ => ?_ | intro _ | refine go ?_ | refine drq ?_)
  apply WC_loopE (E0 := [(0, _), (1, _), (7, _)]) (fun E0 (i : Nat) => (8, .int .i64 i) :: E0) (fun _ => F) (fun i => i ≤ l.length ∧ ∀ j (h : j < l.length), j < i → decide (l[j] = x) = false) (fun i => l.length - i) 0
  · (repeat (first | exact Sub.nil | (refine Sub.cons (by first | rfl | (simp only [Nat.zero_add]; rfl)) ?_)))
  · exact ⟨by omega, fun j _ hj => by omega⟩
  · exact Ent.refl
  · rintro i ⟨hi, h1⟩
    by_cases hlt : i < l.length
    · by_cases he : x = l[i]
      · repeat (first | rintro _ _ ⟨rfl, rfl⟩ | refine exq fun _ => ?_ | intro _ | refine go ?_ | refine drq ?_)
        (apply WE_ret rfl rfl (by (repeat (first | exact ResOk.nil | (apply ResOk.tmp; rfl) | (apply resOk_cell; rfl; exact inferInstance; rfl; rfl)))))
        · exact ⟨by rw [indexBy_at hlt h1 (by simp [he])]; rfl, rfl⟩
        · exact Ent.refl
      · repeat (first | rintro _ _ ⟨rfl, rfl⟩ | refine exq fun _ => ?_ | intro _ | refine go ?_ | refine drq ?_)
        refine WE_loop (i + 1) (by omega) ⟨by omega, fun j hj hji => ?_⟩ ?_ Ent.refl
        · by_cases e : j = i
          · subst e; simpa using fun h => he h.symm
          · exact h1 j hj (by omega)
        · (repeat (first | exact Sub.nil | (refine Sub.cons (by first | rfl | (simp only [Nat.zero_add]; rfl)) ?_)))
    · have e : i = l.length := by omega
      subst e
      repeat (first | rintro _ _ ⟨rfl, rfl⟩ | refine exq fun _ => ?_ | intro _ | refine go ?_ | refine drq ?_)
      (apply WE_ret rfl rfl (by (repeat (first | exact ResOk.nil | (apply ResOk.tmp; rfl) | (apply resOk_cell; rfl; exact inferInstance; rfl; rfl)))))
      · exact ⟨by rw [indexBy_none h1]; rfl, rfl⟩
      · exact Ent.refl

theorem sl_Clone_msg {F : List HP} {v : Value} {n : Nat} {xs : List Value} (k : RdL F 15 v n xs) (hn : n ≤ 1099511627776) : FnF Try.prog 109 [v] [] F (fun r L' => ∃ p c, r = .slice p n c ∧ L' = [Own 59 15 (.slice p n c) n xs]) := by
  refine FnF.mk' Try.func109 rfl rfl Try.ntmps109 rfl ?_
  refine WC_rd (v := v) k fun q1 q2 p c0 e q3 => ?_
  subst e
  cases p with
  | none =>
    obtain rfl := q3 rfl
    obtain rfl : xs = [] := List.eq_nil_of_length_eq_zero (by simpa using q1)
    repeat (first | rintro _ _ ⟨rfl, rfl⟩ | refine exq fun _ => ?_ | intro _ | refine go ?_ | refine drq ?_)
    (apply WE_ret rfl rfl (by (repeat (first | exact ResOk.nil | (apply ResOk.tmp; rfl) | (apply resOk_cell; rfl; exact inferInstance; rfl; rfl)))))
    · exact ⟨_, _, rfl, rfl⟩
    · exact own_empty Ent.refl
  | some a =>
    repeat (first | rintro _ _ ⟨rfl, rfl⟩ | refine exq fun _ => ?_ | intro _ | refine go ?_ | refine drq ?_)
    simp only [Nat.zero_add, List.nil_append]
    (apply WE_ret rfl rfl (by (repeat (first | exact ResOk.nil | (apply ResOk.tmp; rfl) | (apply resOk_cell; rfl; exact inferInstance; rfl; rfl)))))
    · exact ⟨_, _, rfl, rfl⟩
    · exact Ent.refl

theorem sl_Clone_op {F : List HP} {v : Value} {n : Nat} {xs : List Value} (k : RdL F 3 v n xs) (hn : n ≤ 1099511627776) : FnF Try.prog 84 [v] [] F (fun r L' => ∃ p c, r = .slice p n c ∧ L' = [Own 39 3 (.slice p n c) n xs]) := by
  refine FnF.mk' Try.func84 rfl rfl Try.ntmps84 rfl ?_
  refine WC_rd (v := v) k fun q1 q2 p c0 e q3 => ?_
  subst e
  cases p with
  | none =>
    obtain rfl := q3 rfl
    obtain rfl : xs = [] := List.eq_nil_of_length_eq_zero (by simpa using q1)
    repeat (first | rintro _ _ ⟨rfl, rfl⟩ | refine exq fun _ => ?_ | intro _ | refine go ?_ | refine drq ?_)
    (apply WE_ret rfl rfl (by (repeat (first | exact ResOk.nil | (apply ResOk.tmp; rfl) | (apply resOk_cell; rfl; exact inferInstance; rfl; rfl)))))
    · exact ⟨_, _, rfl, rfl⟩
    · exact own_empty Ent.refl
  | some a =>
    repeat (first | rintro _ _ ⟨rfl, rfl⟩ | refine exq fun _ => ?_ | intro _ | refine go ?_ | refine drq ?_)
    simp only [Nat.zero_add, List.nil_append]
    (apply WE_ret rfl rfl (by (repeat (first | exact ResOk.nil | (apply ResOk.tmp; rfl) | (apply resOk_cell; rfl; exact inferInstance; rfl; rfl)))))
    · exact ⟨_, _, rfl, rfl⟩
    · exact Ent.refl

theorem sl_Clone_wbe {F : List HP} {v : Value} {n : Nat} {xs : List Value} (k : RdL F 10 v n xs) (hn : n ≤ 1099511627776) : FnF Try.prog 115 [v] [] F (fun r L' => ∃ p c, r = .slice p n c ∧ L' = [Own 149 10 (.slice p n c) n xs]) := by
  refine FnF.mk' Try.func115 rfl rfl Try.ntmps115 rfl ?_
  refine WC_rd (v := v) k fun q1 q2 p c0 e q3 => ?_
  subst e
  cases p with
  | none =>
    obtain rfl := q3 rfl
    obtain rfl : xs = [] := List.eq_nil_of_length_eq_zero (by simpa using q1)
    repeat (first | rintro _ _ ⟨rfl, rfl⟩ | refine exq fun _ => ?_ | intro _ | refine go ?_ | refine drq ?_)
    (apply WE_ret rfl rfl (by (repeat (first | exact ResOk.nil | (apply ResOk.tmp; rfl) | (apply resOk_cell; rfl; exact inferInstance; rfl; rfl)))))
    · exact ⟨_, _, rfl, rfl⟩
    · exact own_empty Ent.refl
  | some a =>
    repeat (first | rintro _ _ ⟨rfl, rfl⟩ | refine exq fun _ => ?_ | intro _ | refine go ?_ | refine drq ?_)
    simp only [Nat.zero_add, List.nil_append]
    (apply WE_ret rfl rfl (by (repeat (first | exact ResOk.nil | (apply ResOk.tmp; rfl) | (apply resOk_cell; rfl; exact inferInstance; rfl; rfl)))))
    · exact ⟨_, _, rfl, rfl⟩
    · exact Ent.refl

theorem dr_SlT_104 {Q P : Prop} (k : Q) (h : Hid Q → P := by
  intro k
  first
  | (refine is_draw ?_; apply WC_mix (id := 5) .true [] (pl := .p 0 <| .p 1 <| .p 2 <| .p 3 <| .p 4 <| .p 5 <| .e true [(6, .p 7 <| .done)]); exact mixed; kernel_rfl; kernel_rfl; exact Ent.nil; exact k.out)) : P := h ⟨k⟩
theorem sl_Delete_qe {F : List HP} {v : Value} {n i j : Nat} {xs : List Value} (hij : i ≤ j) (hj : j ≤ n) (hn : n ≤ 1099511627776) :
    FnF Try.prog 104 [v, .int .i64 i, .int .i64 j] [Own 68 17 v n xs] F (fun r L' => ∃ p c, r = .slice p (i + (n - j)) c ∧ L' = [Own 68 17 (.slice p (i + (n - j)) c) (i + (n - j)) (xs.take (i * 17) ++ xs.drop (j * 17))]) := by
  refine FnF.mk' Try.func104 rfl rfl Try.ntmps104 rfl ?_
  refine WC_own (fun q1 q2 p e0 e1 e2 => ?_) (fun q1 q2 g cap spare e0 h1 h2 h3 => ?_)
  · subst e0 e1 e2
    obtain rfl : i = j := by omega
    obtain rfl : i = 0 := by omega
    repeat (first | rintro _ _ ⟨rfl, rfl⟩ | refine exq fun _ => ?_ | intro _ | refine go ?_ | refine dr_SlT_104 ?_ | refine drq ?_)
    (apply WE_ret rfl rfl (by (repeat (first | exact ResOk.nil | (apply ResOk.tmp; rfl) | (apply resOk_cell; rfl; exact inferInstance; rfl; rfl)))))
    · exact ⟨_, _, rfl, rfl⟩
    · simp only [Nat.zero_sub, List.take_nil, List.drop_nil, List.append_nil]
      exact Ent.refl
  · subst e0
    by_cases he : i = j
    · subst he
      repeat (first | rintro _ _ ⟨rfl, rfl⟩ | refine exq fun _ => ?_ | intro _ | refine go ?_ | refine dr_SlT_104 ?_ | refine drq ?_)
      have e0 : i + (n - i) = n := by omega
      rw [e0]
      (apply WE_ret rfl rfl (by (repeat (first | exact ResOk.nil | (apply ResOk.tmp; rfl) | (apply resOk_cell; rfl; exact inferInstance; rfl; rfl)))))
      · exact ⟨_, _, rfl, rfl⟩
      · rw [List.take_append_drop]
        exact own_close (by simp [q1, h3]; omega) h1 h2 (by simp [q1]) q2 Ent.refl
    · repeat (first | rintro _ _ ⟨rfl, rfl⟩ | refine exq fun _ => ?_ | intro _ | refine go ?_ | refine dr_SlT_104 ?_ | refine drq ?_)
      rw [cut_low]
      apply WT_k; rfl; exact GIn.none
      apply K_append_in; rfl; rfl; exact inferInstance; exact RdL.cut (rd_open inferInstance q1 q2) hj (Nat.le_refl _) h1; omega; (simp; omega); rfl; rfl
      refine same_intro ?_
      refine ⟨After.still Ent.nil, ?_⟩
      repeat (first | rintro _ _ ⟨rfl, rfl⟩ | refine exq fun _ => ?_ | intro _ | refine go ?_ | refine dr_SlT_104 ?_ | refine drq ?_)
      rw [cut_at (by omega)]
      apply WO_k; rfl
      apply K_clear; rfl; rfl; rfl; exact inferInstance; (rw [splice_length (by simp; omega)]; simp; omega); rfl; rfl
      refine same_intro ?_
      repeat (first | rintro _ _ ⟨rfl, rfl⟩ | refine exq fun _ => ?_ | intro _ | refine go ?_ | refine dr_SlT_104 ?_ | refine drq ?_)
      (apply WE_ret rfl rfl (by (repeat (first | exact ResOk.nil | (apply ResOk.tmp; rfl) | (apply resOk_cell; rfl; exact inferInstance; rfl; rfl)))))
      · exact ⟨_, _, rfl, rfl⟩
      · exact del_fin hij hj q1 q2 h1 h2 h3 (by rw [rep_len rfl]; simp only [List.length_cons, List.length_nil]; omega) (by omega) (by omega) (by omega) (by omega) (by omega) (by omega)

theorem sl_IndexFunc_qe {F : List HP} {v : Value} {l : List QP} {fk : FuncId} {first cap : List Value} {p : QP → Bool} (k : RdL F 17 v l.length (flat qc l)) (hn : l.length ≤ 1099511627776)
    (H : ∀ x ∈ l, FnF Try.prog fk (first ++ [qv x] ++ cap) [] F (fun r L' => r = .bool (p x) ∧ L' = [])) :
    FnF Try.prog 105 [v, .func (.func fk) first.toArray cap.toArray] [] F (fun r L' => r = .int .i64 (indexBy p l) ∧ L' = []) := by
  refine FnF.mk' Try.func105 rfl rfl Try.ntmps105 rfl ?_
  repeat (first | rintro _ _ ⟨rfl, rfl⟩ | refine exq fun _ => ?_ | intro _ | refine go ?_ | refine drq ?_)
  apply WC_loopE (E0 := [(0, _), (1, _), (7, _)]) (fun E0 (i : Nat) => (8, .int .i64 i) :: E0) (fun _ => F) (fun i => i ≤ l.length ∧ ∀ j (h : j < l.length), j < i → p l[j] = false) (fun i => l.length - i) 0
  · (repeat (first | exact Sub.nil | (refine Sub.cons (by first | rfl | (simp only [Nat.zero_add]; rfl)) ?_)))
  · exact ⟨by omega, fun j _ hj => by omega⟩
  · exact Ent.refl
  · rintro i ⟨hi, h1⟩
    by_cases hlt : i < l.length
    · have hH := H l[i] (List.getElem_mem hlt)
      cases he : p l[i]
      · rw [he] at hH
        repeat (first | rintro _ _ ⟨rfl, rfl⟩ | refine exq fun _ => ?_ | intro _ | refine go ?_ | refine drq ?_ | refine cal @hH ?_)
        refine WE_loop (i + 1) (by omega) ⟨by omega, fun j hj hji => ?_⟩ ?_ Ent.refl
        · by_cases e : j = i
          · subst e; exact he
          · exact h1 j hj (by omega)
        · (repeat (first | exact Sub.nil | (refine Sub.cons (by first | rfl | (simp only [Nat.zero_add]; rfl)) ?_)))
      · rw [he] at hH
        repeat (first | rintro _ _ ⟨rfl, rfl⟩ | refine exq fun _ => ?_ | intro _ | refine go ?_ | refine drq ?_ | refine cal @hH ?_)
        (apply WE_ret rfl rfl (by (repeat (first | exact ResOk.nil | (apply ResOk.tmp; rfl) | (apply resOk_cell; rfl; exact inferInstance; rfl; rfl)))))
        · exact ⟨by rw [indexBy_at hlt h1 he]; rfl, rfl⟩
        · exact Ent.refl
    · have e : i = l.length := by omega
      subst e
      repeat (first | rintro _ _ ⟨rfl, rfl⟩ | refine exq fun _ => ?_ | intro _ | refine go ?_ | refine drq ?_)
      (apply WE_ret rfl rfl (by (repeat (first | exact ResOk.nil | (apply ResOk.tmp; rfl) | (apply resOk_cell; rfl; exact inferInstance; rfl; rfl)))))
      · exact ⟨by rw [indexBy_none h1]; rfl, rfl⟩
      · exact Ent.refl
end Go.Sx

/- Lists of messages, held against one another. My own work. -/
namespace Go.Sx
open Go Go.Proofs
set_option linter.unusedVariables false
set_option linter.unusedSectionVars false
set_option linter.unusedSimpArgs false
theorem mc_inj {a b : Msg} (h : mc a = mc b) : a = b := by
  obtain ⟨a1, a2, a3, a4, a5, a6, a7, ⟨x0, x1, x2, x3, x4, x5, x6, x7⟩⟩ := a
  obtain ⟨b1, b2, b3, b4, b5, b6, b7, ⟨y0, y1, y2, y3, y4, y5, y6, y7⟩⟩ := b
  simp only [mc, List.cons.injEq, Value.int.injEq, true_and, and_true] at h
  obtain ⟨rfl, rfl, rfl, rfl, rfl, rfl, rfl, rfl, rfl, rfl, rfl, rfl, rfl, rfl, rfl⟩ := h
  rfl
set_option maxRecDepth 100000
set_option maxHeartbeats 4000000
attribute [local irreducible] Go.Exit.then Go.Exit.inBlock Go.Code.wp WC WO WE WQ V LoopQ FnQ Sat Star band bor IntKind.wrap WR Code.rounds WT KO
theorem ref07_Same {F : List HP} {v u : Value} {l m : List Msg} (k1 : RdL F 15 v l.length (flat mc l)) (k2 : RdL F 15 u m.length (flat mc m)) (hn : l.length ≤ 1099511627776) : FnF Try.prog 24 [v, u] [] F (fun r L' => r = .bool (decide (l = m)) ∧ L' = []) := by
  refine FnF.mk' Try.func24 rfl rfl Try.ntmps24 rfl ?_
  by_cases e : l.length = m.length
  · repeat (first | rintro _ _ ⟨rfl, rfl⟩ | refine exq fun _ => ?_ | intro _ | refine go ?_ | refine drq ?_)
    apply WC_loopE (E0 := [(0, _), (1, _)]) (fun E0 (i : Nat) => (5, .int .i64 i) :: E0) (fun _ => F) (fun i => i ≤ l.length ∧ l.take i = m.take i) (fun i => l.length - i) 0
    · (repeat (first | exact Sub.nil | (refine Sub.cons (by first | rfl | (simp only [Nat.zero_add]; rfl)) ?_)))
    · exact ⟨by omega, rfl⟩
    · exact Ent.refl
    · rintro i ⟨hi, h1⟩
      by_cases hlt : i < l.length
      · have hlt' : i < m.length := by omega
        by_cases he : l[i] = m[i]
        · have he' : ¬ (mc l[i] ≠ mc m[i]) := fun h => h (by rw [he])
          repeat (first | rintro _ _ ⟨rfl, rfl⟩ | refine exq fun _ => ?_ | intro _ | refine go ?_ | refine drq ?_)
          refine WE_loop (i + 1) (by omega) ⟨by omega, ?_⟩ ?_ Ent.refl
          · rw [List.take_add_one, List.take_add_one, h1]; simp [hlt, hlt', he]
          · (repeat (first | exact Sub.nil | (refine Sub.cons (by first | rfl | (simp only [Nat.zero_add]; rfl)) ?_)))
        · have he' : mc l[i] ≠ mc m[i] := fun h => he (mc_inj h)
          repeat (first | rintro _ _ ⟨rfl, rfl⟩ | refine exq fun _ => ?_ | intro _ | refine go ?_ | refine drq ?_)
          have hne : l ≠ m := fun e => by subst e; exact he rfl
          (apply WE_ret rfl rfl (by (repeat (first | exact ResOk.nil | (apply ResOk.tmp; rfl) | (apply resOk_cell; rfl; exact inferInstance; rfl; rfl)))); (first | exact ⟨rfl, rfl⟩ | exact ⟨congrArg Value.bool (by decide), rfl⟩ | exact ⟨_, rfl, rfl⟩ | exact ⟨_, _, rfl, rfl⟩ | exact ⟨by first | (simp [hne]; done) | (simp [hne] <;> omega), rfl⟩); (repeat (first | exact Ent.refl | exact Ent.nil | apply Ent.pick | apply Ent.drop)))
      · have hil : i = l.length := by omega
        subst hil
        have : l = m := by rw [List.take_length, e, List.take_length] at h1; exact h1
        repeat (first | rintro _ _ ⟨rfl, rfl⟩ | refine exq fun _ => ?_ | intro _ | refine go ?_ | refine drq ?_)
        (apply WE_ret rfl rfl (by (repeat (first | exact ResOk.nil | (apply ResOk.tmp; rfl) | (apply resOk_cell; rfl; exact inferInstance; rfl; rfl)))); (first | exact ⟨rfl, rfl⟩ | exact ⟨congrArg Value.bool (by decide), rfl⟩ | exact ⟨_, rfl, rfl⟩ | exact ⟨_, _, rfl, rfl⟩ | exact ⟨by first | (simp [this]; done) | (simp [this] <;> omega), rfl⟩); (repeat (first | exact Ent.refl | exact Ent.nil | apply Ent.pick | apply Ent.drop)))
  · have hne : l ≠ m := fun h => e (by rw [h])
    repeat (first | rintro _ _ ⟨rfl, rfl⟩ | refine exq fun _ => ?_ | intro _ | refine go ?_ | refine drq ?_)
    (apply WE_ret rfl rfl (by (repeat (first | exact ResOk.nil | (apply ResOk.tmp; rfl) | (apply resOk_cell; rfl; exact inferInstance; rfl; rfl)))); (first | exact ⟨rfl, rfl⟩ | exact ⟨congrArg Value.bool (by decide), rfl⟩ | exact ⟨_, rfl, rfl⟩ | exact ⟨_, _, rfl, rfl⟩ | exact ⟨by first | (simp [hne]; done) | (simp [hne] <;> omega), rfl⟩); (repeat (first | exact Ent.refl | exact Ent.nil | apply Ent.pick | apply Ent.drop)))
end Go.Sx

/- Many atoms as one; slices that are only read, in blocks of their own. My own work; names no program. -/
namespace Go.Sx
open Go
set_option linter.unusedVariables false

theorem star_perm {L M : List HP} (p : L.Perm M) : ∀ h, Star L h → Star M h := by
  induction p with
  | nil => exact fun _ h => h
  | cons x _ ih => exact fun _ h => star_cons ih h
  | swap x y l => exact fun _ h => star_swap h
  | trans _ _ a b => exact fun h x => b h (a h x)
theorem ent_perm {L M : List HP} (p : L.Perm M) : Ent L M := star_perm p

theorem erase_perm {α : Type} : ∀ (l : List α) (i : Nat) (hi : i < l.length), (l[i] :: l.eraseIdx i).Perm l
  | a :: r, 0, _ => List.Perm.refl _
  | a :: r, i + 1, hi => (List.Perm.swap _ _ _).trans ((erase_perm r i (by simpa using hi)).cons a)
  | [], i, hi => by simp at hi
/-- Many atoms. -/
structure All (ps : List HP) (h : PH) : Prop where
  pf : Star ps h
theorem all_open {ps L : List HP} : Ent (All ps :: L) (ps ++ L) := fun h ⟨S, T, d, hp, hL⟩ => star_append_of d hp.pf hL
theorem all_close {ps L : List HP} : Ent (ps ++ L) (All ps :: L) := fun h H => by
  obtain ⟨S, T, d, h1, h2⟩ := star_split H
  exact ⟨S, T, d, ⟨h1⟩, h2⟩
theorem all_nil {L : List HP} : Ent L (All [] :: L) := all_close (ps := [])
section
variable {α : Type} {f : α → HP} {qs : List α} {L : List HP}
theorem all_take (i : Nat) (hi : i < qs.length) : Ent (All (qs.map f) :: L) (f qs[i] :: All ((qs.eraseIdx i).map f) :: L) := by
  refine Ent.trans all_open (Ent.trans (ent_perm ?_) (Ent.cons all_close))
  have := (erase_perm qs i hi).map f
  exact (this.symm.append_right L)
theorem all_put (i : Nat) (hi : i < qs.length) (x : α) : Ent (f x :: All ((qs.eraseIdx i).map f) :: L) (All ((qs.set i x).map f) :: L) := by
  refine Ent.trans (Ent.cons all_open) (Ent.trans (ent_perm ?_) all_close)
  have h2 : i < (qs.set i x).length := by simpa using hi
  have := (erase_perm (qs.set i x) i h2).map f
  simp only [List.getElem_set_self, List.eraseIdx_set_eq] at this
  exact this.append_right L
theorem all_back (i : Nat) (hi : i < qs.length) : Ent (f qs[i] :: All ((qs.eraseIdx i).map f) :: L) (All (qs.map f) :: L) := by
  have := all_put (f := f) (L := L) i hi qs[i]
  simpa using this
theorem all_add (x : α) : Ent (f x :: All (qs.map f) :: L) (All ((qs ++ [x]).map f) :: L) := by
  refine Ent.trans (Ent.cons all_open) (Ent.trans (ent_perm ?_) all_close)
  rw [List.map_append]
  exact (List.perm_append_singleton (f x) (qs.map f)).symm.append_right L
theorem all_erase (i : Nat) : Ent (All (qs.map f) :: L) (All ((qs.eraseIdx i).map f) :: L) := by
  by_cases hi : i < qs.length
  · exact Ent.trans (all_take i hi) (Ent.drop Ent.refl)
  · rw [List.eraseIdx_of_length_le (by omega)]; exact Ent.refl
end

/-- 'v' is a slice that can be read, in a block of its own. -/
structure Rds (sz : Nat) (v : Value) (n : Nat) (xs : List Value) (h : PH) : Prop where
  len : xs.length = n * sz
  ones : xs.all one = true
  pf : (∃ p c, v = .slice p 0 c ∧ n = 0) ∨ ∃ b o c cur T, v = .slice (some ⟨b, o, none⟩) n c ∧ h.c b = some (.cells cur T (0, 0)) ∧ ∀ j u, xs[j]? = some u → cur.toList[o + j]? = some u

section
variable {sz n : Nat} {v : Value} {xs : List Value} {L : List HP}
instance (priority := high) RdL.rds : RdL (Rds sz v n xs :: L) sz v n xs :=
  ⟨fun w ⟨_, _, _, hp, _⟩ => hp.len, fun w ⟨_, _, _, hp, _⟩ => hp.ones, fun w ⟨S, _, _, hp, _⟩ => by
    rcases hp.pf with h | ⟨b, o, c, cur, T, h1, h2, h3⟩
    · exact .inl h
    · refine .inr ⟨b, o, c, h1, fun j u hu => ?_⟩
      have hh : w.heap[b]? = some (.cells cur.toList.toArray T (0, 0)) := by have h4 := (res_c h2).2; simp only [ph] at h4; simpa using h4
      rw [cell_of_heap hh]
      exact h3 j u hu⟩
theorem own_rds {e : TypeId} : Ent (Own e sz v n xs :: L) (Rds sz v n xs :: L) := fun h ⟨S, T, d, hp, hL⟩ => by
  refine ⟨S, T, d, ⟨hp.len, hp.ones, ?_⟩, hL⟩
  rcases hp.pf with ⟨p, a, b⟩ | ⟨g, cap, cur, a, b, c, d1, e1, f⟩
  · exact .inl ⟨p, 0, a, b⟩
  · refine .inr ⟨g, 0, cap, cur, e, a, b, fun j u hu => ?_⟩
    rw [← f, List.getElem?_take] at hu
    split at hu
    · simpa using hu
    · simp at hu
theorem rds_nil {p : Option Addr} {c : Nat} : Ent L (Rds sz (.slice p 0 c) 0 [] :: L) := fun hh H => by
  refine ⟨fun _ => False, fun _ => True, fun _ a _ => a, ⟨by simp, rfl, .inl ⟨p, c, rfl, rfl⟩⟩, ?_⟩
  have : res hh (fun _ => True) = hh := by unfold res; simp
  rw [this]; exact H
theorem rds_cut {l h m : Nat} (h1 : l ≤ h) (h2 : h ≤ n) (h3 : h ≤ m) : Ent (Rds sz v n xs :: L) (Rds sz (cut v l h m sz) (h - l) ((xs.drop (l * sz)).take ((h - l) * sz)) :: L) := fun hh ⟨S, T, d, hp, hL⟩ => by
  refine ⟨S, T, d, ⟨?_, ?_, ?_⟩, hL⟩
  · have := hp.len
    have e : (h - l) * sz + l * sz ≤ n * sz := by rw [← Nat.add_mul]; exact Nat.mul_le_mul_right _ (by omega)
    simp; omega
  · have := hp.ones
    rw [List.all_eq_true] at this ⊢
    exact fun u hu => this u (List.mem_of_mem_drop (List.mem_of_mem_take hu))
  · by_cases hq : h = l
    · left
      subst hq
      rcases hp.pf with ⟨p, c, rfl, rfl⟩ | ⟨b, o, c, cur, T, rfl, _⟩ <;> exact ⟨_, _, by simp [Sx.cut]; exact ⟨rfl, rfl⟩, by omega⟩
    · rcases hp.pf with ⟨p, c, rfl, rfl⟩ | ⟨b, o, c, cur, T, rfl, hb, hc⟩
      · omega
      · right
        have hadd : (Addr.add ⟨b, o, none⟩ (l * sz)) = ⟨b, o + l * sz, none⟩ := by unfold Addr.add; split <;> simp_all
        refine ⟨b, o + l * sz, m - l, cur, T, ?_, hb, fun j u hj => ?_⟩
        · simp only [Sx.cut, if_neg (show ¬ m = l by omega), Option.map_some, hadd]
        · rw [List.getElem?_take] at hj
          split at hj
          · rw [List.getElem?_drop] at hj
            have := hc _ _ hj
            rwa [← Nat.add_assoc] at this
          · simp at hj
end
end Go.Sx
