/- Arr0, Bag: several of my texts as one. My own work. -/
import Derived.Test.YtlaohgngdaglmaaGreatZaa
/- Ways and misses; slices of them; slices made of elements of several cells. My own work. -/
namespace Go.Sx
open Go Go.Proofs
set_option linter.unusedVariables false
set_option linter.unusedSectionVars false
set_option linter.unusedSimpArgs false
/-- A way of a cache's array. -/
structure Way where
  st : Int
  line : Int
  words : Words
  lk : Bool
abbrev wyc (w : Way) : List Value := [.int .i64 w.st, .int .i64 w.line, .int .i64 w.words.w0, .int .i64 w.words.w1, .int .i64 w.words.w2, .int .i64 w.words.w3, .int .i64 w.words.w4, .int .i64 w.words.w5, .int .i64 w.words.w6, .int .i64 w.words.w7, .bool w.lk]
abbrev wyv (w : Way) : Value := .agg (wyc w).toArray
abbrev Way.zero : Way := ⟨0, 0, .zero, false⟩
theorem Way.ext_iff' {a b : Way} : (a.st = b.st ∧ a.line = b.line ∧ a.words = b.words ∧ a.lk = b.lk) ↔ a = b := by cases a; cases b; simp
instance : DecidableEq Way := fun a b => decidable_of_iff _ Way.ext_iff'
/-- A miss. -/
structure Miss where
  line : Int
  kind : Int
  needs : Int
  got : Int
  own : Int
  words : Words
  granted : Bool
  owes : Bool
abbrev msc' (m : Miss) : List Value := [.int .i64 m.line, .int .i64 m.kind, .int .i64 m.needs, .int .i64 m.got, .int .i64 m.own, .int .i64 m.words.w0, .int .i64 m.words.w1, .int .i64 m.words.w2, .int .i64 m.words.w3, .int .i64 m.words.w4, .int .i64 m.words.w5, .int .i64 m.words.w6, .int .i64 m.words.w7, .bool m.granted, .bool m.owes]
abbrev msv (m : Miss) : Value := .agg (msc' m).toArray
abbrev Miss.zero : Miss := ⟨0, 0, 0, 0, 0, .zero, false, false⟩
theorem Miss.ext_iff' {a b : Miss} : (a.line = b.line ∧ a.kind = b.kind ∧ a.needs = b.needs ∧ a.got = b.got ∧ a.own = b.own ∧ a.words = b.words ∧ a.granted = b.granted ∧ a.owes = b.owes) ↔ a = b := by cases a; cases b; simp
instance : DecidableEq Miss := fun a b => decidable_of_iff _ Miss.ext_iff'

section
variable {P : Program} {N : Nat} {t ty : TypeId} {x y : Operand} {env : Env} {L : List HP}
/-- Of elements of several cells. -/
theorem K_makeSliceN {e : TypeId} {nn : Int} {z : Value} {sz bs : Nat} {zs : List Value} {pos : String} {aft : Array Edge} {d : Nat} [hT : TU P t (.slice e)] [hZ : TZ P e sz z bs] [hco : CO z zs]
    (hx : ev env x = some (.int .i64 nn)) (h0 : 0 ≤ nn) (hb : (bs : Int) * nn ≤ 140737488355328) (hm : nn ≤ 1099511627776) (hl : zs.length = sz) (hs : 0 < sz) (hd : Nat.blt d N = true) :
    KO P N ⟨some d, .makeSlice t x x, ty, pos, aft, none⟩ env L (Fresh env d (fun b => .slice (some ⟨b, 0, none⟩) nn.toNat nn.toNat) (fun b => Cells b e (List.replicate nn.toNat zs).flatten :: L)) := by
  have hz := hco.pf
  have hzc : z.cells = zs.toArray := by rw [cellsOf_eq, hz]
  have hi := hZ.pf
  cases hq : P.info? e with
  | none => simp [hq] at hi
  | some i =>
    simp only [hq, Option.map_some, Option.some.injEq, Prod.mk.injEq] at hi
    obtain ⟨hi1, hi2, hi3⟩ := hi
    have hmc : madeCells z.cells (nn.toNat * i.size) = (List.replicate nn.toNat zs).flatten.toArray := by
      apply Array.ext'
      simp only [madeCells, hzc, hi1, Array.toList_map, Array.toList_range]
      apply List.ext_getElem
      · simp [hl]
      · intro j h1 h2
        have hj : j < nn.toNat * sz := by simpa using h1
        have hmod : j % sz < zs.length := by rw [hl]; exact Nat.mod_lt _ hs
        have hrep : ∀ (k j : Nat) (hj : j < (List.replicate k zs).flatten.length), (List.replicate k zs).flatten[j] = zs[j % sz]'(by rw [hl]; exact Nat.mod_lt _ hs) := by
          intro k
          induction k with
          | zero => intro j hj; simp at hj
          | succ k ih =>
            intro j hj
            simp only [List.replicate_succ, List.flatten_cons, List.getElem_append]
            split
            · rename_i hlt
              congr 1
              rw [Nat.mod_eq_of_lt (by omega)]
            · rename_i hge
              have := ih (j - zs.length) (by simp only [List.replicate_succ, List.flatten_cons, List.length_append] at hj; omega)
              rw [this]
              congr 1
              rw [hl, Nat.mod_eq_sub_mod (a := j) (b := sz) (by omega)]
        simp only [List.getElem_map, List.getElem_range]
        rw [hrep]
        rw [getElem!_pos zs.toArray (j % zs.toArray.size) (by simp [hl]; omega)]
        simp [hl]
    refine K_new (P := P) (o := .cells (List.replicate nn.toNat zs).flatten.toArray e (0, 0)) (v := fun b => .slice (some ⟨b, 0, none⟩) nn.toNat nn.toNat) (fun b h hc => ⟨hc⟩) ?_ hd
    intro a w ha _
    have hr := run_make (P := P) w t e i z hT.pf hq hi2 .i64 .i64 nn nn h0 (Int.le_refl _) (by rw [hi3]; omega) (by omega)
    rw [hmc] at hr
    simp only [execOp, ha.ev hx, hr, Sem.run_bind, Result.andThen_ok, Sem.run_pure]
    rfl

end
set_option maxRecDepth 100000
set_option maxHeartbeats 4000000
attribute [local irreducible] Go.Exit.then Go.Exit.inBlock Go.Code.wp WC WO WE WQ V LoopQ FnQ Sat Star band bor IntKind.wrap WR Code.rounds WT KO
theorem sl_IndexFunc_way {F : List HP} {v : Value} {l : List Way} {fk : FuncId} {first cap : List Value} {p : Way → Bool} (k : RdL F 11 v l.length (flat wyc l)) (hn : l.length ≤ 1099511627776)
    (H : ∀ x ∈ l, FnF Tryz.prog fk (first ++ [wyv x] ++ cap) [] F (fun r L' => r = .bool (p x) ∧ L' = [])) :
    FnF Tryz.prog 164 [v, .func (.func fk) first.toArray cap.toArray] [] F (fun r L' => r = .int .i64 (indexBy p l) ∧ L' = []) := by
  refine FnF.mk' Tryz.func164 rfl rfl Tryz.ntmps164 rfl ?_
  repeat (first | rintro _ _ ⟨rfl, rfl⟩ | refine exq ?_ | intro _ | refine go ?_ | refine drq ?_)
  apply WC_loopE (E0 := [(0, _), (1, _), (7, _)]) (fun E0 (i : Nat) => (8, .int .i64 i) :: E0) (fun _ => F) (fun i => i ≤ l.length ∧ ∀ j (h : j < l.length), j < i → p l[j] = false) (fun i => l.length - i) 0
  · (repeat (first | exact Sub.nil | (refine Sub.cons (by first | rfl | (simp only [Nat.zero_add]; rfl)) ?_)))
  · exact ⟨by omega, fun j _ hj => by omega⟩
  · exact Ent.refl
  · rintro i ⟨hi, h1⟩
    by_cases hlt : i < l.length
    · have hH := H l[i] (List.getElem_mem hlt)
      cases he : p l[i]
      · rw [he] at hH
        repeat (first | rintro _ _ ⟨rfl, rfl⟩ | refine exq ?_ | intro _ | refine go ?_ | refine drq ?_ | refine cal @hH ?_)
        refine WE_loop (i + 1) (by omega) ⟨by omega, fun j hj hji => ?_⟩ ?_ Ent.refl
        · by_cases e : j = i
          · subst e; exact he
          · exact h1 j hj (by omega)
        · (repeat (first | exact Sub.nil | (refine Sub.cons (by first | rfl | (simp only [Nat.zero_add]; rfl)) ?_)))
      · rw [he] at hH
        repeat (first | rintro _ _ ⟨rfl, rfl⟩ | refine exq ?_ | intro _ | refine go ?_ | refine drq ?_ | refine cal @hH ?_)
        (apply WE_ret rfl rfl (by (repeat (first | exact ResOk.nil | (apply ResOk.tmp; rfl) | (apply resOk_cell; rfl; exact inferInstance; rfl; rfl)))))
        · exact ⟨by rw [indexBy_at hlt h1 he]; rfl, rfl⟩
        · exact Ent.refl
    · have e : i = l.length := by omega
      subst e
      repeat (first | rintro _ _ ⟨rfl, rfl⟩ | refine exq ?_ | intro _ | refine go ?_ | refine drq ?_)
      (apply WE_ret rfl rfl (by (repeat (first | exact ResOk.nil | (apply ResOk.tmp; rfl) | (apply resOk_cell; rfl; exact inferInstance; rfl; rfl)))))
      · exact ⟨by rw [indexBy_none h1]; rfl, rfl⟩
      · exact Ent.refl
theorem sl_Clone_miss {F : List HP} {v : Value} {n : Nat} {xs : List Value} (k : RdL F 15 v n xs) (hn : n ≤ 1099511627776) : FnF Tryz.prog 167 [v] [] F (fun r L' => ∃ p c, r = .slice p n c ∧ L' = [Own 162 15 (.slice p n c) n xs]) := by
  refine FnF.mk' Tryz.func167 rfl rfl Tryz.ntmps167 rfl ?_
  refine WC_rd (v := v) k fun q1 q2 p c0 e q3 => ?_
  subst e
  cases p with
  | none =>
    obtain rfl := q3 rfl
    obtain rfl : xs = [] := List.eq_nil_of_length_eq_zero (by simpa using q1)
    repeat (first | rintro _ _ ⟨rfl, rfl⟩ | refine exq ?_ | intro _ | refine go ?_ | refine drq ?_)
    (apply WE_ret rfl rfl (by (repeat (first | exact ResOk.nil | (apply ResOk.tmp; rfl) | (apply resOk_cell; rfl; exact inferInstance; rfl; rfl)))))
    · exact ⟨_, _, rfl, rfl⟩
    · exact own_empty Ent.refl
  | some a =>
    repeat (first | rintro _ _ ⟨rfl, rfl⟩ | refine exq ?_ | intro _ | refine go ?_ | refine drq ?_)
    simp only [Nat.zero_add, List.nil_append]
    (apply WE_ret rfl rfl (by (repeat (first | exact ResOk.nil | (apply ResOk.tmp; rfl) | (apply resOk_cell; rfl; exact inferInstance; rfl; rfl)))))
    · exact ⟨_, _, rfl, rfl⟩
    · exact Ent.refl
theorem sl_IndexFunc_miss {F : List HP} {v : Value} {l : List Miss} {fk : FuncId} {first cap : List Value} {p : Miss → Bool} (k : RdL F 15 v l.length (flat msc' l)) (hn : l.length ≤ 1099511627776)
    (H : ∀ x ∈ l, FnF Tryz.prog fk (first ++ [msv x] ++ cap) [] F (fun r L' => r = .bool (p x) ∧ L' = [])) :
    FnF Tryz.prog 226 [v, .func (.func fk) first.toArray cap.toArray] [] F (fun r L' => r = .int .i64 (indexBy p l) ∧ L' = []) := by
  refine FnF.mk' Tryz.func226 rfl rfl Tryz.ntmps226 rfl ?_
  repeat (first | rintro _ _ ⟨rfl, rfl⟩ | refine exq ?_ | intro _ | refine go ?_ | refine drq ?_)
  apply WC_loopE (E0 := [(0, _), (1, _), (7, _)]) (fun E0 (i : Nat) => (8, .int .i64 i) :: E0) (fun _ => F) (fun i => i ≤ l.length ∧ ∀ j (h : j < l.length), j < i → p l[j] = false) (fun i => l.length - i) 0
  · (repeat (first | exact Sub.nil | (refine Sub.cons (by first | rfl | (simp only [Nat.zero_add]; rfl)) ?_)))
  · exact ⟨by omega, fun j _ hj => by omega⟩
  · exact Ent.refl
  · rintro i ⟨hi, h1⟩
    by_cases hlt : i < l.length
    · have hH := H l[i] (List.getElem_mem hlt)
      cases he : p l[i]
      · rw [he] at hH
        repeat (first | rintro _ _ ⟨rfl, rfl⟩ | refine exq ?_ | intro _ | refine go ?_ | refine drq ?_ | refine cal @hH ?_)
        refine WE_loop (i + 1) (by omega) ⟨by omega, fun j hj hji => ?_⟩ ?_ Ent.refl
        · by_cases e : j = i
          · subst e; exact he
          · exact h1 j hj (by omega)
        · (repeat (first | exact Sub.nil | (refine Sub.cons (by first | rfl | (simp only [Nat.zero_add]; rfl)) ?_)))
      · rw [he] at hH
        repeat (first | rintro _ _ ⟨rfl, rfl⟩ | refine exq ?_ | intro _ | refine go ?_ | refine drq ?_ | refine cal @hH ?_)
        (apply WE_ret rfl rfl (by (repeat (first | exact ResOk.nil | (apply ResOk.tmp; rfl) | (apply resOk_cell; rfl; exact inferInstance; rfl; rfl)))))
        · exact ⟨by rw [indexBy_at hlt h1 he]; rfl, rfl⟩
        · exact Ent.refl
    · have e : i = l.length := by omega
      subst e
      repeat (first | rintro _ _ ⟨rfl, rfl⟩ | refine exq ?_ | intro _ | refine go ?_ | refine drq ?_)
      (apply WE_ret rfl rfl (by (repeat (first | exact ResOk.nil | (apply ResOk.tmp; rfl) | (apply resOk_cell; rfl; exact inferInstance; rfl; rfl)))))
      · exact ⟨by rw [indexBy_none h1]; rfl, rfl⟩
      · exact Ent.refl
theorem sl_ContainsFunc_int {F : List HP} {v : Value} {l : List Int} {fk : FuncId} {first cap : List Value} {p : Int → Bool} (k : RdL F 1 v l.length (flat ic l)) (hn : l.length ≤ 1099511627776)
    (H : ∀ x ∈ l, FnF Tryz.prog fk (first ++ [iv x] ++ cap) [] F (fun r L' => r = .bool (p x) ∧ L' = [])) :
    FnF Tryz.prog 198 [v, .func (.func fk) first.toArray cap.toArray] [] F (fun r L' => r = .bool (decide (0 ≤ indexBy p l)) ∧ L' = []) := by
  have hI := fun (k : RdL F 1 v l.length (flat ic l)) => sl_IndexFunc_int (F := F) (first := first) (cap := cap) (p := p) k hn H
  refine FnF.mk' Tryz.func198 rfl rfl Tryz.ntmps198 rfl ?_
  repeat (first | rintro _ _ ⟨rfl, rfl⟩ | refine exq ?_ | intro _ | refine go ?_ | refine drq ?_ | refine cal @hI ?_)
  exact fin0
end Go.Sx

/- What bags do, the program's and the document's. My own work. -/
namespace Go.Sx
open Go Go.Proofs
set_option linter.unusedVariables false
set_option linter.unusedSectionVars false
set_option maxRecDepth 100000
set_option maxHeartbeats 4000000
attribute [local irreducible] Go.Exit.then Go.Exit.inBlock Go.Code.wp WC WO WE WQ V LoopQ FnQ Sat Star band bor IntKind.wrap WR Code.rounds WT KO

/-! ## What a bag does, told of lists -/
def putE {α : Type} (room : Int) (l : List α) : Int := if (l.length : Int) = room then 4 else 0
def putL {α : Type} (room : Int) (l : List α) (x : α) : List α := if (l.length : Int) = room then l else l ++ [x]
def inL {α : Type} (l : List α) (n : Int) : Bool := decide (0 ≤ n ∧ n < l.length)
def takeL {α : Type} (l : List α) (n : Int) : List α := if inL l n then l.eraseIdx n.toNat else l
def takeE {α : Type} (l : List α) (n : Int) : Int := if inL l n then 0 else 5
def atL {α : Type} (z : α) (l : List α) (n : Int) : α := if inL l n then l.getD n.toNat z else z

theorem putL_le {α : Type} {room : Int} {l : List α} {x : α} (h : (l.length : Int) ≤ room) : ((putL room l x).length : Int) ≤ room := by
  unfold putL; split
  · exact h
  · simp; omega
theorem takeL_le {α : Type} {l : List α} {n : Int} : (takeL l n).length ≤ l.length := by
  unfold takeL; split
  · exact List.length_eraseIdx_le _ _
  · exact Nat.le_refl _
theorem inL_iff {α : Type} {l : List α} {n : Int} : inL l n = true ↔ (0 ≤ n ∧ n < l.length) := by simp [inL]
theorem inL_not {α : Type} {l : List α} {n : Int} : inL l n = false ↔ ¬ (0 ≤ n ∧ n < l.length) := by rw [← Bool.not_eq_true, inL_iff]

end Go.Sx
