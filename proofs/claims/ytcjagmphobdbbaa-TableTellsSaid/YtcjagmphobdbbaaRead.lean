/- What a law's arguments are: readings of whole numbers, structs of them, slices of these. Names no program. -/
import Derived.Test.YtcjagmphobdbbaaNum
import Derived.WalkKit
import Derived.ProofKit
import Derived.OpenShut
import Derived.ChangeOld
import Derived.Below
import Derived.Carry
namespace Go.Sx
open Go Go.ChangeShapes Go.WideShapes
set_option linter.unusedVariables false

inductive Leaf where
  | int (k : IntKind)
  | bool
  | other (t : TypeId)

section
variable {H : Type} (enc : TypeId × Value → H) (P : Program) (W : World)

/-- A cell is one of its kind. -/
def LeafOk : Leaf → Value → Prop
  | .int k, v => ∃ n, v = .int k n ∧ (Lit.int k n).wf = true
  | .bool, v => ∃ b, v = .bool b
  | .other t, v => ∃ fuel x, DataW.trod enc P W 0 (fun _ => true) true fuel t [v] = some x

inductive LeafsOk : List Leaf → List Value → Prop
  | nil : LeafsOk [] []
  | cons {k : Leaf} {c : Value} {ks : List Leaf} {cs : List Value} : LeafOk enc P W k c → LeafsOk ks cs → LeafsOk (k :: ks) (c :: cs)

def leafsF (f : TypeId → Option (List Leaf)) : List Field → Nat → Option (List Leaf)
  | [], _ => some []
  | fd :: r, off => match f fd.type with
    | none => none
    | some ks => if fd.offset = off ∧ P.cellsOf fd.type = ks.length then (leafsF f r (off + ks.length)).map (ks ++ ·) else none

def leafs : Nat → TypeId → Option (List Leaf)
  | 0, _ => none
  | d + 1, t => match P.underlying t with
    | some .bool => some [.bool]
    | some (.int k) => some [.int k]
    | some (.slice _) => some [.other t]
    | some .string => some [.other t]
    | some (.struct fs) => (leafsF P (leafs d) fs.toList 0).bind fun ks => if ks.length = P.cellsOf t then some ks else none
    | some (.array n e) => (leafs d e).bind fun ks => if ks.length = P.cellsOf e ∧ n * ks.length = P.cellsOf t then some (List.replicate n ks).flatten else none
    | _ => none

theorem leafsOk_append {ks ks' : List Leaf} {cs cs' : List Value} (h : LeafsOk enc P W ks cs) (h' : LeafsOk enc P W ks' cs') : LeafsOk enc P W (ks ++ ks') (cs ++ cs') := by
  induction h with
  | nil => exact h'
  | cons a _ ih => exact .cons a ih

theorem mapM_cons_some {α β : Type} {f : α → Option β} {a : α} {l : List α} {r : List β} (h : (a :: l).mapM f = some r) : ∃ b r', f a = some b ∧ l.mapM f = some r' ∧ r = b :: r' := by
  rw [List.mapM_cons] at h
  simp only [Option.bind_eq_bind, Option.bind_eq_some_iff] at h
  obtain ⟨b, h1, r', h2, h3⟩ := h
  exact ⟨b, r', h1, h2, by simpa using h3.symm⟩

theorem leafsF_ok {d : Nat} (ih : ∀ t ks, leafs P d t = some ks → ∀ fuel cs x, DataW.trod enc P W 0 (fun _ => true) true fuel t cs = some x → LeafsOk enc P W ks cs) (fuel : Nat) (cs : List Value) :
    ∀ (fs : List Field) (off : Nat) (ks : List Leaf) (xs : List (DataW H × List MemPlace)), leafsF P (leafs P d) fs off = some ks →
      (fs.mapM fun f => DataW.trod enc P W 0 (fun _ => true) true fuel f.type ((cs.drop f.offset).take (P.cellsOf f.type))) = some xs → LeafsOk enc P W ks ((cs.drop off).take ks.length)
  | [], off, ks, xs, h, _ => by simp [leafsF] at h; subst h; simp; exact .nil
  | fd :: r, off, ks, xs, h, hm => by
    obtain ⟨x, xs', h1, h2, _⟩ := mapM_cons_some hm
    simp only [leafsF] at h
    cases hk : leafs P d fd.type with
    | none => simp [hk] at h
    | some k0 =>
      simp only [hk] at h
      split at h
      · rename_i hc
        obtain ⟨c1, c2⟩ := hc
        cases hr : leafsF P (leafs P d) r (off + k0.length) with
        | none => simp [hr] at h
        | some k1 =>
          simp [hr] at h
          subst h
          have a := ih _ _ hk _ _ _ h1
          have b := leafsF_ok ih fuel cs r _ _ _ hr h2
          rw [c1, c2] at a
          have e : (cs.drop off).take (k0 ++ k1).length = (cs.drop off).take k0.length ++ (cs.drop (off + k0.length)).take k1.length := by
            rw [List.length_append, List.take_add, List.drop_drop]
          rw [e]
          exact leafsOk_append enc P W a b
      · simp at h

theorem leafs_row {e : Nat} {ks : List Leaf} {fuel : Nat} {cs : List Value} (ih : ∀ fuel cs x, DataW.trod enc P W 0 (fun _ => true) true fuel e cs = some x → LeafsOk enc P W ks cs) (he : ks.length = P.cellsOf e) :
    ∀ (n k : Nat) (xs : List (DataW H × List MemPlace)), (((List.range n).map (k + ·)).mapM fun i => DataW.trod enc P W 0 (fun _ => true) true fuel e ((cs.drop (i * P.cellsOf e)).take (P.cellsOf e))) = some xs →
      LeafsOk enc P W (List.replicate n ks).flatten ((cs.drop (k * P.cellsOf e)).take (n * P.cellsOf e))
  | 0, k, xs, _ => by simp; exact .nil
  | n + 1, k, xs, h => by
    have e1 : (List.range (n + 1)).map (k + ·) = k :: (List.range n).map (k + 1 + ·) := by
      rw [List.range_succ_eq_map]
      simp [Function.comp_def, Nat.add_assoc, Nat.add_comm 1]
    rw [e1] at h
    obtain ⟨x, xs', h1, h2, _⟩ := mapM_cons_some h
    have a := ih _ _ _ h1
    have b := leafs_row ih he n (k + 1) xs' h2
    have e2 : (cs.drop (k * P.cellsOf e)).take ((n + 1) * P.cellsOf e) = (cs.drop (k * P.cellsOf e)).take (P.cellsOf e) ++ (cs.drop ((k + 1) * P.cellsOf e)).take (n * P.cellsOf e) := by
      rw [Nat.succ_mul, Nat.add_comm, List.take_add, List.drop_drop, Nat.succ_mul]
    rw [e2, List.replicate_succ, List.flatten_cons]
    exact leafsOk_append enc P W a b

theorem leafs_ok : ∀ (d : Nat) (t : TypeId) (ks : List Leaf), leafs P d t = some ks → ∀ fuel cs x, DataW.trod enc P W 0 (fun _ => true) true fuel t cs = some x → LeafsOk enc P W ks cs
  | 0, _, _, h => by simp [leafs] at h
  | d + 1, t, ks, h => by
    intro fuel cs x hx
    have ih := leafs_ok d
    simp only [leafs] at h
    cases fuel with
    | zero => simp [DataW.trod] at hx
    | succ fuel =>
      have hx0 := hx
      cases hu : P.underlying t with
      | none => simp [hu] at h
      | some u =>
        cases u <;> simp only [hu] at h <;> try (simp at h; done)
        case bool =>
          simp at h; subst h
          have : ∃ b, cs = [.bool b] := by
            unfold DataW.trod at hx; rw [hu] at hx
            split at hx <;> simp_all
          obtain ⟨b, rfl⟩ := this
          exact .cons ⟨b, rfl⟩ .nil
        case int k =>
          simp at h; subst h
          obtain ⟨n, h1, _, h3⟩ := DataW.trod_int hu hx0
          subst h1
          exact .cons ⟨n, rfl, h3⟩ .nil
        case string =>
          simp at h; subst h
          have : ∃ v, cs = [v] := by
            unfold DataW.trod at hx; rw [hu] at hx
            split at hx <;> simp_all
          obtain ⟨v, rfl⟩ := this
          exact .cons ⟨_, _, hx0⟩ .nil
        case slice e =>
          simp at h; subst h
          have : ∃ v, cs = [v] := by
            unfold DataW.trod at hx; rw [hu] at hx
            split at hx <;> simp_all
          obtain ⟨v, rfl⟩ := this
          exact .cons ⟨_, _, hx0⟩ .nil
        case array n e =>
          simp only [Option.bind_eq_some_iff] at h
          obtain ⟨k0, h1, h2⟩ := h
          split at h2
          · rename_i hc
            simp at h2; subst h2
            unfold DataW.trod at hx; rw [hu] at hx
            have hx' : (if cs.length = P.cellsOf t then ((List.range n).mapM fun i => DataW.trod enc P W 0 (fun _ => true) true fuel e ((cs.drop (i * P.cellsOf e)).take (P.cellsOf e))).map fun xs => (DataW.agg (xs.map (·.1)), xs.flatMap (·.2)) else none) = some x := by
              split at hx <;> simp_all
            split at hx'
            · rename_i hl
              simp only [Option.map_eq_some_iff] at hx'
              obtain ⟨xs, hm, _⟩ := hx'
              have := leafs_row enc P W (fun fuel cs x hx => ih e k0 h1 fuel cs x hx) hc.1 n 0 xs (by simpa using hm)
              simp only [Nat.zero_mul, List.drop_zero] at this
              rw [← hc.1, hc.2, ← hl, List.take_length] at this
              exact this
            · simp at hx'
          · simp at h2
        case struct fs =>
          simp only [Option.bind_eq_some_iff] at h
          obtain ⟨k0, h1, h2⟩ := h
          split at h2
          · rename_i hc
            simp at h2; subst h2
            unfold DataW.trod at hx; rw [hu] at hx
            have hx' : ∃ xs, cs.length = P.cellsOf t ∧ (fs.toList.mapM fun f => DataW.trod enc P W 0 (fun _ => true) true fuel f.type ((cs.drop f.offset).take (P.cellsOf f.type))) = some xs := by
              have hx2 : (if cs.length = P.cellsOf t then (fs.toList.mapM fun f => DataW.trod enc P W 0 (fun _ => true) true fuel f.type ((cs.drop f.offset).take (P.cellsOf f.type))).map fun xs => (DataW.agg (xs.map (·.1)), xs.flatMap (·.2)) else none) = some x := by
                split at hx <;> simp_all
              split at hx2
              · rename_i hl
                simp only [Option.map_eq_some_iff] at hx2
                obtain ⟨xs, hm, _⟩ := hx2
                exact ⟨xs, hl, hm⟩
              · simp at hx2
            obtain ⟨xs, hl, hm⟩ := hx'
            have := leafsF_ok enc P W ih fuel cs fs.toList 0 k0 xs h1 hm
            rw [hc, List.drop_zero, ← hl, List.take_length] at this
            exact this
          · simp at h2

/-- A value that reads as a datum: its cells are of their kinds. -/
theorem read_leafs {d : Nat} {t : TypeId} {ks : List Leaf} {v : Value} {dt : DataW H} {p : List MemPlace} (hk : leafs P d t = some ks) (h : DataW.Trod enc P W 0 (fun _ => true) true t v dt p) : LeafsOk enc P W ks (cellsOf v) := by
  obtain ⟨fuel, hf⟩ := h
  have := leafs_ok enc P W d t ks hk fuel _ _ hf
  rw [cellsOf_eq] at this
  exact this

theorem leaf_i64 {v : Value} (h : LeafOk enc P W (.int .i64) v) : ∃ n, v = .int .i64 n ∧ I64 n := by
  obtain ⟨n, e, hw⟩ := h
  refine ⟨n, e, ?_⟩
  simp only [Lit.wf, Bool.and_eq_true, decide_eq_true_eq, IntKind.min, IntKind.max, IntKind.signed, IntKind.bits] at hw
  unfold I64
  simp at hw
  omega

theorem leafs_cons {k : Leaf} {ks : List Leaf} {cs : List Value} (h : LeafsOk enc P W (k :: ks) cs) : ∃ c cs', cs = c :: cs' ∧ LeafOk enc P W k c ∧ LeafsOk enc P W ks cs' := by
  cases h with
  | cons a b => exact ⟨_, _, rfl, a, b⟩
theorem leafs_nil {cs : List Value} (h : LeafsOk enc P W [] cs) : cs = [] := by cases h; rfl

theorem leafs_int {ks : List Leaf} {cs : List Value} (h : LeafsOk enc P W (.int .i64 :: ks) cs) : ∃ n cs', cs = .int .i64 n :: cs' ∧ I64 n ∧ LeafsOk enc P W ks cs' := by
  obtain ⟨c, cs', rfl, h1, h2⟩ := leafs_cons enc P W h
  obtain ⟨n, rfl, hn⟩ := leaf_i64 enc P W h1
  exact ⟨n, cs', rfl, hn, h2⟩
end

theorem cells_of_agg {v : Value} {cs : Array Value} (h : v = .agg cs) : v = .agg (cellsOf v).toArray := by subst h; simp [cellsOf]
end Go.Sx
