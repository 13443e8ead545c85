/- Ins, SlI, Str: several of my texts as one. My own work. -/
import Derived.Test.YtlaohgngdaglmaaSl
import Derived.Lib.AppendZerosOnto
import Derived.Lib.Overlaps
import Derived.Laws.Externs
import Derived.Test.YtlaohgngdaglmaaZaa
import Derived.Test.YtlaohgngdaglmaaGo
import Derived.Laws.BytesString
import Derived.Laws.Strings
/- append of a make; cap; overlaps of slices in two blocks. My own work; names no program. -/
set_option linter.unusedVariables false
set_option linter.unusedSimpArgs false
namespace Go.Sx
open Go
section
variable {P : Program} {N : Nat} {t ty : TypeId} {x y : Operand} {env : Env} {L : List HP}

theorem v_cap {e : TypeId} {ats : List TypeId} {p : Option Addr} {n c : Nat} [hT : TU P t (.slice e)] (hx : ev env x = some (.slice p n c)) : V P N (.call ⟨.builtin .cap, [x].toArray, (t :: ats).toArray⟩) ty env L (.int .i64 (c : Int)) := by
  intro a w ha hw
  simp [execOp, resolve, invoke, builtin, ha.ev hx, Builtin.cap_, run_underlying hT.pf, goInt]

/-- append(s[:i], make(S, k)...), where there is no room. -/
theorem K_appendZ {e tn : TypeId} {g T i cap k bs : Nat} {kk : Int} {z z0 : Value} {l : List Value} {C : List Value → List HP} {pos : String} {aft : Array Edge} {d : Nat} [hT : TU P t (.slice e)] [hN : TU P tn (.int .i64)] [hZ : TZ P e 1 z bs] [hco : CO z [z0]]
    (hx : ev env x = some (.slice (some ⟨g, 0, none⟩) i cap)) (hy : ev env y = some (.int .i64 kk)) (hk : CellsAt g L T l C) (he : kk = (k : Int)) (h0 : 0 < k) (hg : cap < i + k) (hb : (i + k) * bs ≤ 140737488355328) (hl0 : i + k ≤ 9223372036854775807) (hi : i ≤ l.length) (ho : (l.take i).all one = true) (h1 : one z0 = true) (hd : Nat.blt d N = true) :
    KO P N ⟨some d, .call ⟨.builtin .append, [x, y].toArray, [t, tn].toArray⟩, ty, pos, aft, none⟩ env L (Gives env d (i + k) (fun v' => Own e 1 v' (i + k) (l.take i ++ List.replicate k z0) :: L)) := by
  subst he
  intro a w ha hw K Q next
  have hl : i + k ≤ maxLen := by simp only [maxLen]; omega
  obtain ⟨ti, hti, hpf⟩ := Option.map_eq_some_iff.1 hZ.pf
  simp only [Prod.mk.injEq] at hpf
  obtain ⟨hisz, hiz, hib⟩ := hpf
  have hzc : z.cells = #[z0] := by rw [cellsOf_eq, hco.pf]
  have hh := cellsAt_heap hk hw
  have hold : (Builtin.firstCells ti.size i (.slice (some ⟨g, 0, none⟩) i cap)).run P w.drew = .ok (l.take i).toArray w.drew := by
    rw [hisz]
    simp only [Builtin.firstCells]
    refine run_loadCells' (by rw [List.length_take]; omega) (fun j v hj => ?_)
    have : w.drew.cell? ⟨g, 0 + j, none⟩ = w.cell? ⟨g, 0 + j, none⟩ := rfl
    rw [this, cell_of_heap hh]
    rw [List.getElem?_take] at hj
    split at hj
    · simpa using hj
    · cases hj
  have hr := Lib.run_append_grow_zeros (P := P) w t tn ty e ti z .i64 .i64 hT.pf hN.pf hti hiz (some ⟨g, 0, none⟩) i cap (l.take i) hold k h0 (by omega) hg (by omega) (by rw [hib]; have : k * bs ≤ (i + k) * bs := Nat.mul_le_mul_right _ (by omega); omega) (growslice_fits (by omega) (by rw [hib]; exact hb))
  have hge := grownCap_ge w (i + k) cap e
  have hmap : ∀ (n : Nat), (Builtin.zeroCells #[z0] n).toList = List.replicate n z0 := fun n => by
    have := zeroCells_list [z0] n 1 rfl
    rw [this]
    induction n with
    | zero => rfl
    | succ n ih => rw [List.replicate_succ, List.flatten_cons, ih (zeroCells_list [z0] n 1 rfl), List.replicate_succ]; rfl
  obtain ⟨v', w', hrun, hsat⟩ : ∃ v' w', (Builtin.append_ #[t, tn] ty #[.slice (some ⟨g, 0, none⟩) i cap, .int .i64 k]).run P w = .ok v' w' ∧ Sat (Own e 1 v' (i + k) (l.take i ++ List.replicate k z0) :: L) w' := by
    refine ⟨_, _, hr, sat_new (w := w.drew) _ (fun h hc => ⟨?_, ?_, .inr ⟨_, _, _, rfl, hc, hge, grownCap_le_maxLen w (i + k) cap e hl, ?_, ?_⟩⟩) (sat_drawn hw)⟩
    · simp; omega
    · rw [List.all_append, ho]; simp [h1]
    · simp only [Array.size_append, List.size_toArray, zeros_size, hzc, List.length_take]
      simp; omega
    · simp only [Array.toList_append, hzc, hmap]
      rw [List.take_append_of_le_length (by simp; omega), List.take_of_length_le (by simp; omega)]
  unfold Oper.wp
  have ex := execBuiltin (P := P) (ρ := a.eval) (b := .append) (args := [x, y]) (ats := [t, tn].toArray) (ty := ty) (vs := [.slice (some ⟨g, 0, none⟩) i cap, .int .i64 k]) (by simp [ha.ev hx, ha.ev hy]) (w := w) (r := .ok (.value v') w') (fun cs => by
    simp [builtin, hrun])
  rw [execOp_plain, ex]
  obtain ⟨p', c', rfl⟩ := sat_own_slice hsat
  exact next _ _ _ _ ⟨p', c', rfl, rfl⟩ (ha.put hd _) hsat

theorem K_overlaps {f : Operand} {ats : Array TypeId} {fid : FuncId} {fn : Func} {tR e : TypeId} {ga oa la ca gb ob lb cb TA TB bs sz : Nat} {z : Value} {xa xb : List Value} {CA CB : List Value → List HP} {pos : String} {aft : Array Edge} {d : Nat}
    [hT : TU P t (.slice e)] [hZ : TZ P e sz z bs]
    (hf : ev env f = some (.func (.func fid) [].toArray [].toArray)) (hx : ev env x = some (.slice (some ⟨ga, oa, none⟩) la ca)) (hy : ev env y = some (.slice (some ⟨gb, ob, none⟩) lb cb)) (hfn : P.funcs[fid]? = some fn) (hname : (fn.name == "runtime.NumGoroutine") = false) (hbody : fn.body.isNone = true) (hnx : Extern.findNext fn = none) (hex : Extern.find fn = some (Extern.SlicesOverlaps.overlaps #[t, t] #[tR]))
    (ka : CellsAt ga L TA xa CA) (kb : CellsAt gb L TB xb CB) (hne : ga ≠ gb) (hb0 : xb.length ≠ 0) (hd : Nat.blt d N = true) :
    KO P N ⟨some d, .call ⟨.value f, [x, y].toArray, ats⟩, ty, pos, aft, none⟩ env L (Same ((d, .bool false) :: env) L) := by
  intro a w ha hw K Q next
  have h1 := cellsAt_heap ka hw
  have h2 := cellsAt_heap kb hw
  have hr := Lib.run_overlaps_apart (P := P) w t tR e hT.pf sz (run_sizeOf hZ) ⟨ga, oa, none⟩ ⟨gb, ob, none⟩ la ca lb cb hne TA TB xa.length xb.length (by simp [World.shape?, h1]) (by simp [World.shape?, h2]) hb0 (by simp [World.frozen?, h1]) (by simp [World.frozen?, h1])
  unfold Oper.wp
  have ex : (execOp a.eval ⟨none, .call ⟨.value f, [x, y].toArray, ats⟩, ty, "", #[], none⟩).run P w = .ok (.value (.bool false)) w := by
    simp only [execOp, resolve, Sem.run_bind, Deferred.ofValue, ha.ev hf, Sem.run_pure, Result.andThen_ok, invoke]
    rw [run_callFunc_extern hfn hname hbody hnx hex]
    simp [ha.ev hx, ha.ev hy, hr]
  rw [execOp_plain, ex]
  exact next _ _ _ _ ⟨rfl, rfl⟩ (ha.put hd _) hw

/-- copy, from a block into a block (it may be the same one) whose cells are known. -/
theorem K_copyP {e : TypeId} {ga oa na ca gb ob nb cb TA TB sz k bs : Nat} {z : Value} {l l2 l' : List Value} {CA CB : List Value → List HP} {pos : String} {aft : Array Edge} {d : Option Nat} {t2 : TypeId} [hT : TU P t (.slice e)] [hZ : TZ P e sz z bs]
    (hx : ev env x = some (.slice (some ⟨ga, oa, none⟩) na ca)) (hy : ev env y = some (.slice (some ⟨gb, ob, none⟩) nb cb)) (hka : CellsAt ga L TA l CA) (hkb : CellsAt gb L TB l2 CB) (hk : min nb na = k) (hfit : oa + k * sz ≤ l.length) (hfit2 : ob + k * sz ≤ l2.length) (ho : ((l2.drop ob).take (k * sz)).all one = true) (hd : dstOk N d = true) (hl : splice l oa ((l2.drop ob).take (k * sz)) = l') :
    KO P N ⟨d, .call ⟨.builtin .copy, [x, y].toArray, [t, t2].toArray⟩, ty, pos, aft, none⟩ env L (Same (putEnv env d (.int .i64 (k : Nat))) (CA l')) := by
  subst hl hk
  intro a w ha hw K Q next
  obtain ⟨R, k1, k2⟩ := hka.pf
  have hs := k1.sat hw
  have hh := sat_cells hs
  have hh2 := cellsAt_heap hkb hw
  have htl : ((l2.drop ob).take (min nb na * sz)).length = min nb na * sz := by rw [List.length_take, List.length_drop]; omega
  have hf : (Builtin.firstCells sz (min nb na) (.slice (some ⟨gb, ob, none⟩) nb cb)).run P w = .ok ((l2.drop ob).take (min nb na * sz)).toArray w := by
    simp only [Builtin.firstCells]
    refine run_loadCells' htl fun j v hj => ?_
    rw [cell_of_heap hh2]
    rw [List.getElem?_take] at hj
    split at hj
    · rwa [List.getElem?_drop] at hj
    · cases hj
  obtain ⟨w', r1, r2, r3, r4, r5, r6⟩ := run_storeCells (P := P) ga TA ((l2.drop ob).take (min nb na * sz)) l oa 0 w hh (by rw [htl]; omega) ho
  have hrun : (Builtin.copy_ #[t, t2] ty #[.slice (some ⟨ga, oa, none⟩) na ca, .slice (some ⟨gb, ob, none⟩) nb cb]).run P w = .ok (goInt (min nb na : Nat)) w' := by
    have hmn : Nat.min nb na = min nb na := rfl
    simp [Builtin.copy_, run_underlying hT.pf, run_sizeOf hZ, Builtin.lenOf, hmn, hf, r1]
  unfold Oper.wp
  have ex := execBuiltin (P := P) (ρ := a.eval) (b := .copy) (args := [x, y]) (ats := [t, t2].toArray) (ty := ty) (vs := [.slice (some ⟨ga, oa, none⟩) na ca, .slice (some ⟨gb, ob, none⟩) nb cb]) (by simp [ha.ev hx, ha.ev hy]) (w := w) (r := .ok (.value (goInt (min nb na : Nat))) w') (fun cs => by
    simp [builtin, hrun])
  rw [execOp_plain, ex]
  refine next _ _ _ _ ⟨rfl, rfl⟩ (ha.puts hd _) ((k2 _).sat ?_)
  exact sat_upd (b := ga) (Cells ga TA (splice l oa ((l2.drop ob).take (min nb na * sz)))) (fun h hp => ⟨_, hp.pf⟩) (fun h e => ⟨e⟩) (by simpa using r2) r3 r4 r5 r6 hs
/-- Two blocks are two. -/
theorem WO_two {g h T T' : Nat} {l l' : List Value} {all : Array Oper} {c : List Oper} {Q : Exit → Act → World → Prop} (k : g ≠ h → WO P N all c env (Cells g T l :: Cells h T' l' :: L) Q) : WO P N all c env (Cells g T l :: Cells h T' l' :: L) Q := by
  intro a w ha hw
  refine k ?_ a w ha hw
  obtain ⟨S, R, d, hp, A, B, d2, hq, hL⟩ := hw
  rw [res_res] at hq
  intro e
  subst e
  exact d g (res_c hp.pf).1 (res_c hq.pf).1.1
end
end Go.Sx

/- The library's searches and insertion, of slices of whole numbers. My own work. -/
namespace Go.Sx
open Go Go.Proofs
set_option linter.unusedVariables false
set_option linter.unusedSectionVars false
set_option linter.unusedSimpArgs false

/-- How many are less. -/
def lowL (l : List Int) (t : Int) : Nat := (l.takeWhile fun x => decide (x < t)).length
theorem low_of {t : Int} : ∀ {l : List Int} {i : Nat}, i ≤ l.length → (∀ k (hk : k < l.length), k < i → l[k] < t) → (∀ k (hk : k < l.length), i ≤ k → t ≤ l[k]) → lowL l t = i
  | [], i, hi, _, _ => by simp at hi; subst hi; rfl
  | a :: r, 0, _, _, h2 => by
    have := h2 0 (by simp) (Nat.le_refl _)
    simp at this
    have hn : ¬ a < t := by omega
    simp [lowL, hn]
  | a :: r, i + 1, hi, h1, h2 => by
    have h0 := h1 0 (by simp) (by omega)
    simp at h0
    have ih := low_of (t := t) (l := r) (i := i) (by simpa using hi) (fun k hk hki => h1 (k + 1) (by simpa using hk) (by omega)) (fun k hk hki => h2 (k + 1) (by simpa using hk) (by omega))
    unfold lowL at ih ⊢
    simp [h0, ih]
theorem low_le (l : List Int) (t : Int) : lowL l t ≤ l.length := by
  unfold lowL
  exact (List.takeWhile_sublist (fun x => decide (x < t)) (l := l)).length_le
theorem WC_owncap {T : TypeId} {sz n c : Nat} {p : Option Addr} {xs : List Value} {P : Program} {N : Nat} {o : Code} {env : Env} {L : List HP} {Q : Exit → Act → World → Prop} (h : n ≤ c → WC P N o env (Own T sz (.slice p n c) n xs :: L) Q) : WC P N o env (Own T sz (.slice p n c) n xs :: L) Q :=
  fun a w ha hw => h (by
    rcases (sat_own hw).2.2 with ⟨q, h1, h2⟩ | ⟨g, cap, cur, h1, _, h3, _⟩
    · omega
    · cases h1; exact h3) a w ha hw
theorem half {i j : Nat} (h : i + j ≤ 100000) : IntKind.i64.wrap ((IntKind.u64.wrap ((i : Int) + j)).fdiv (2 ^ min (Int.toNat 1) IntKind.u64.bits)) = (((i + j) / 2 : Nat) : Int) := by
  have e1 : IntKind.u64.wrap ((i : Int) + j) = (i : Int) + j := by simp [IntKind.wrap, IntKind.bits, IntKind.signed]; omega
  have e2 : (2 : Int) ^ min (Int.toNat 1) IntKind.u64.bits = 2 := rfl
  rw [e1, e2, Int.fdiv_eq_ediv_of_nonneg _ (by omega), wrap_id (by omega) (by omega)]
  omega
theorem all_ic (l : List Int) : (flat ic l).all one = true := by
  induction l with
  | nil => rfl
  | cons a r ih => simp [flat, one]
theorem WO_own {e : TypeId} {sz : Nat} {v : Value} {n : Nat} {xs : List Value} {P : Program} {N : Nat} {all : Array Oper} {c : List Oper} {env : Env} {L : List HP} {Q : Exit → Act → World → Prop} (h0 : xs.length = n * sz → xs.all one = true → ∀ p, v = .slice p 0 0 → n = 0 → xs = [] → WO P N all c env (Own e sz v n xs :: L) Q)
    (h1 : xs.length = n * sz → xs.all one = true → ∀ g cap spare, v = .slice (some ⟨g, 0, none⟩) n cap → n ≤ cap → cap ≤ maxLen → spare.length = (cap - n) * sz → WO P N all c env (Cells g e (xs ++ spare) :: L) Q) : WO P N all c env (Own e sz v n xs :: L) Q := by
  intro a w ha hw
  obtain ⟨k1, k2, ⟨p, a1, a2, a3⟩ | ⟨g, cap, spare, b1, b2, b3, b4, b5⟩⟩ := own_open hw
  · exact h0 k1 k2 p a1 a2 a3 a w ha hw
  · exact h1 k1 k2 g cap spare b1 b2 b3 b4 a w ha b5
theorem ins_take1 {M D A : List Value} {i n : Nat} {x : Value} (h1 : M.take i = A) (hi : i + 1 ≤ M.length) (hD : D.length = n - i) (hin : i ≤ n) (hn : n + 1 ≤ M.length) : (splice (splice M (0 + i * 1) [x]) (0 + (i + 1) * 1) D).take ((n + 1) * 1) = A ++ x :: D := by
  simp only [Nat.zero_add, Nat.mul_one]
  have hl : (splice M i [x]).length = M.length := splice_length (by simp; omega)
  have e := take_splice (l := splice M i [x]) (ys := D) (o := i + 1) (by omega)
  rw [hD, show i + 1 + (n - i) = n + 1 by omega] at e
  have e2 := take_splice (l := M) (ys := [x]) (o := i) (by omega)
  simp only [List.length_singleton] at e2
  rw [e, e2, h1]; simp
theorem ins_take2 {M D A : List Value} {i n : Nat} {x : Value} (h1 : M.take i = A) (hi : i + 1 ≤ M.length) (hD : D.length = n - i) (hin : i ≤ n) (hn : n + 1 ≤ M.length) : (splice (splice M (0 + (i + 1) * 1) D) (0 + i * 1) [x]).take ((n + 1) * 1) = A ++ x :: D := by
  simp only [Nat.zero_add, Nat.mul_one]
  have hl : (splice M (i + 1) D).length = M.length := splice_length (by omega)
  have e0 : (splice M (i + 1) D).take i = A := by rw [take_splice_lt (by omega) (by omega), h1]
  have e1 : (splice M (i + 1) D).drop (i + 1) = D ++ M.drop (n + 1) := by
    unfold splice
    rw [List.append_assoc, List.drop_left' (by simp; omega), hD, show i + 1 + (n - i) = n + 1 by omega]
  unfold splice at e0 e1 ⊢
  rw [e0]
  simp only [List.length_singleton]
  rw [e1]
  have hAl : A.length = i := by rw [← h1]; simp; omega
  rw [List.append_assoc, List.take_append, hAl, List.take_of_length_le (by omega)]
  congr 1
  rw [show n + 1 - i = (n - i) + 1 by omega]
  simp [hD]
theorem ins_close1 {e g i n cap : Nat} {M D A : List Value} {x : Value} {R : List HP} (h1 : M.take i = A) (hM : M.length = cap) (hn : n + 1 ≤ cap) (hin : i ≤ n) (hD : D.length = n - i) (hmx : cap ≤ maxLen) (ho : (A ++ x :: D).all one = true) :
    Ent (Cells g e (splice (splice M (0 + i * 1) [x]) (0 + (i + 1) * 1) D) :: R) (Own e 1 (.slice (some ⟨g, 0, none⟩) (n + 1) cap) (n + 1) (A ++ x :: D) :: R) := by
  have hs1 : (splice M (0 + i * 1) [x]).length = cap := by rw [splice_length (by simp; omega), hM]
  exact own_close (sz := 1) (by rw [splice_length (by omega), hs1, Nat.mul_one]) hn hmx (ins_take1 h1 (by omega) hD hin (by omega)) ho Ent.refl
theorem ins_close2 {e g i n cap : Nat} {M D A : List Value} {x : Value} {R : List HP} (h1 : M.take i = A) (hM : M.length = cap) (hn : n + 1 ≤ cap) (hin : i ≤ n) (hD : D.length = n - i) (hmx : cap ≤ maxLen) (ho : (A ++ x :: D).all one = true) :
    Ent (Cells g e (splice (splice M (0 + (i + 1) * 1) D) (0 + i * 1) [x]) :: R) (Own e 1 (.slice (some ⟨g, 0, none⟩) (n + 1) cap) (n + 1) (A ++ x :: D) :: R) := by
  have hs1 : (splice M (0 + (i + 1) * 1) D).length = cap := by rw [splice_length (by omega), hM]
  exact own_close (sz := 1) (by rw [splice_length (by rw [hs1]; simp; omega), hs1, Nat.mul_one]) hn hmx (ins_take2 h1 (by omega) hD hin (by omega)) ho Ent.refl
theorem flat_ins {l : List Int} {i : Nat} {x : Int} : flat ic (l.take i ++ x :: l.drop i) = flat ic (l.take i) ++ .int .i64 x :: flat ic (l.drop i) := by
  rw [flat_append]; rfl
set_option maxRecDepth 100000
set_option maxHeartbeats 4000000
attribute [local irreducible] Go.Exit.then Go.Exit.inBlock Go.Code.wp WC WO WE WQ V LoopQ FnQ Sat Star band bor IntKind.wrap WR Code.rounds WT KO
theorem cmp_isNaN {F : List HP} {n : Int} : FnF Try.prog 127 [.int .i64 n] [] F (fun r L' => r = .bool false ∧ L' = []) := by
  refine FnF.mk' Try.func127 rfl rfl Try.ntmps127 rfl ?_
  repeat (first | rintro _ _ ⟨rfl, rfl⟩ | refine exq fun _ => ?_ | intro _ | refine go ?_ | refine drq ?_)
  exact fin0
theorem sl_isNaN {F : List HP} {n : Int} : FnF Try.prog 119 [.int .i64 n] [] F (fun r L' => r = .bool false ∧ L' = []) := by
  refine FnF.mk' Try.func119 rfl rfl Try.ntmps119 rfl ?_
  repeat (first | rintro _ _ ⟨rfl, rfl⟩ | refine exq fun _ => ?_ | intro _ | refine go ?_ | refine drq ?_)
  exact fin0
theorem cmp_Less {F : List HP} {a b : Int} : FnF Try.prog 118 [.int .i64 a, .int .i64 b] [] F (fun r L' => r = .bool (decide (a < b)) ∧ L' = []) := by
  refine FnF.mk' Try.func118 rfl rfl Try.ntmps118 rfl ?_
  repeat (first | rintro _ _ ⟨rfl, rfl⟩ | refine exq fun _ => ?_ | intro _ | refine go ?_ | refine drq ?_ | refine cal @cmp_isNaN ?_)
  exact fin0
theorem sl_Contains_int {F : List HP} {v : Value} {l : List Int} {x : Int} (k : RdL F 1 v l.length (flat ic l)) (hn : l.length ≤ 1099511627776) : FnF Try.prog 75 [v, .int .i64 x] [] F (fun r L' => r = .bool (decide (x ∈ l)) ∧ L' = []) := by
  have hI := sl_Index_int (F := F) (x := x) k hn
  have hx : decide (0 ≤ indexBy (· = x) l) = decide (x ∈ l) := by
    rw [decide_eq_decide]
    constructor
    · intro h
      obtain ⟨i, hi, _, h2, _⟩ := indexBy_nat h
      have := of_decide_eq_true h2
      rw [← this]; exact List.getElem_mem hi
    · intro h
      rcases Int.lt_or_le (indexBy (· = x) l) 0 with h0 | h0
      · have := (indexBy_neg (p := fun y => decide (y = x)) (l := l) (by omega)).2 x h
        simp at this
      · exact h0
  refine FnF.mk' Try.func75 rfl rfl Try.ntmps75 rfl ?_
  repeat (first | rintro _ _ ⟨rfl, rfl⟩ | refine exq fun _ => ?_ | intro _ | refine go ?_ | refine drq ?_ | refine cal @hI ?_)
  rw [hx]
  exact fin0
theorem sl_BinarySearch_int {F : List HP} {v : Value} {l : List Int} {t : Int} (k : RdL F 1 v l.length (flat ic l)) (hs : l.Pairwise (· < ·)) (hn : l.length ≤ 1000) :
    FnF Try.prog 107 [v, .int .i64 t] [] F (fun r L' => r = .tuple [.int .i64 (lowL l t : Nat), .bool (decide (t ∈ l))].toArray ∧ L' = []) := by
  have hsl : ∀ a b (ha : a < l.length) (hb : b < l.length), a ≤ b → l[a] ≤ l[b] := fun a b ha hb h => by
    rcases Nat.lt_or_ge a b with h1 | h1
    · have := List.pairwise_iff_getElem.1 hs a b ha hb h1; omega
    · have : a = b := by omega
      subst this; exact Int.le_refl _
  refine FnF.mk' Try.func107 rfl rfl Try.ntmps107 rfl ?_
  repeat (first | rintro _ _ ⟨rfl, rfl⟩ | refine exq fun _ => ?_ | intro _ | refine go ?_ | refine drq ?_)
  apply WC_loopE (E0 := [(0, _), (1, _), (6, _)]) (fun E0 (q : Nat × Nat) => (7, .int .i64 q.1) :: (8, .int .i64 q.2) :: E0) (fun _ => F)
    (fun q => q.1 ≤ q.2 ∧ q.2 ≤ l.length ∧ (∀ k (hk : k < l.length), k < q.1 → l[k] < t) ∧ (∀ k (hk : k < l.length), q.2 ≤ k → t ≤ l[k])) (fun q => q.2 - q.1) (0, l.length)
  · (repeat (first | exact Sub.nil | (refine Sub.cons (by first | rfl | (simp only [Nat.zero_add]; rfl)) ?_)))
  · exact ⟨Nat.zero_le _, Nat.le_refl _, fun k hk h => by omega, fun k hk h => by omega⟩
  · exact Ent.refl
  · rintro ⟨i, j⟩ ⟨hij, hj, h1, h2⟩
    dsimp only at hij hj h1 h2 ⊢
    by_cases hlt : i < j
    · have hm : (i + j) / 2 < l.length := by omega
      have hh := half (i := i) (j := j) (by omega)
      by_cases hc : l[(i + j) / 2] < t
      · repeat (first | rintro _ _ ⟨rfl, rfl⟩ | refine exq fun _ => ?_ | intro _ | refine go ?_ | refine drq ?_)
        simp only [hh]
        repeat (first | rintro _ _ ⟨rfl, rfl⟩ | refine exq fun _ => ?_ | intro _ | refine go ?_ | refine drq ?_ | refine cal @cmp_Less ?_)
        simp only [Int.toNat_natCast]
        repeat (first | rintro _ _ ⟨rfl, rfl⟩ | refine exq fun _ => ?_ | intro _ | refine go ?_ | refine drq ?_)
        refine WE_loop ((i + j) / 2 + 1, j) (by dsimp only; omega) ⟨by dsimp only; omega, hj, fun k hk h => ?_, h2⟩ ?_ Ent.refl
        · dsimp only at h
          have := hsl k ((i + j) / 2) hk hm (by omega)
          omega
        · (repeat (first | exact Sub.nil | (refine Sub.cons (by first | rfl | (simp only [Nat.zero_add]; rfl)) ?_)))
      · repeat (first | rintro _ _ ⟨rfl, rfl⟩ | refine exq fun _ => ?_ | intro _ | refine go ?_ | refine drq ?_)
        simp only [hh]
        repeat (first | rintro _ _ ⟨rfl, rfl⟩ | refine exq fun _ => ?_ | intro _ | refine go ?_ | refine drq ?_ | refine cal @cmp_Less ?_)
        simp only [Int.toNat_natCast]
        repeat (first | rintro _ _ ⟨rfl, rfl⟩ | refine exq fun _ => ?_ | intro _ | refine go ?_ | refine drq ?_)
        refine WE_loop (i, (i + j) / 2) (by dsimp only; omega) ⟨by dsimp only; omega, by dsimp only; omega, h1, fun k hk h => ?_⟩ ?_ Ent.refl
        · dsimp only at h
          have := hsl ((i + j) / 2) k hm hk h
          omega
        · (repeat (first | exact Sub.nil | (refine Sub.cons (by first | rfl | (simp only [Nat.zero_add]; rfl)) ?_)))
    · have hij2 : i = j := by omega
      subst hij2
      have hlo := low_of hj h1 h2
      by_cases hil : i < l.length
      · by_cases he : l[i] = t
        · have hmem : t ∈ l := by rw [← he]; exact List.getElem_mem hil
          repeat (first | rintro _ _ ⟨rfl, rfl⟩ | refine exq fun _ => ?_ | intro _ | refine go ?_ | refine drq ?_ | refine cal @sl_isNaN ?_)
          (apply WE_ret rfl rfl (by (repeat (first | exact ResOk.nil | (apply ResOk.tmp; rfl) | (apply resOk_cell; rfl; exact inferInstance; rfl; rfl)))))
          · exact ⟨by rw [hlo]; simp [hmem], rfl⟩
          · exact Ent.refl
        · have hmem : ¬ t ∈ l := fun h => by
            obtain ⟨k, hk, hkt⟩ := List.getElem_of_mem h
            rcases Nat.lt_or_ge k i with hki | hki
            · have := h1 k hk hki; omega
            · have h3 := h2 i hil (Nat.le_refl _)
              have h4 := hsl i k hil hk hki
              omega
          repeat (first | rintro _ _ ⟨rfl, rfl⟩ | refine exq fun _ => ?_ | intro _ | refine go ?_ | refine drq ?_ | refine cal @sl_isNaN ?_)
          (apply WE_ret rfl rfl (by (repeat (first | exact ResOk.nil | (apply ResOk.tmp; rfl) | (apply resOk_cell; rfl; exact inferInstance; rfl; rfl)))))
          · exact ⟨by rw [hlo]; simp [hmem], rfl⟩
          · exact Ent.refl
      · have hmem : ¬ t ∈ l := fun h => by
          obtain ⟨k, hk, hkt⟩ := List.getElem_of_mem h
          have := h1 k hk (by omega); omega
        repeat (first | rintro _ _ ⟨rfl, rfl⟩ | refine exq fun _ => ?_ | intro _ | refine go ?_ | refine drq ?_)
        (apply WE_ret rfl rfl (by (repeat (first | exact ResOk.nil | (apply ResOk.tmp; rfl) | (apply resOk_cell; rfl; exact inferInstance; rfl; rfl)))))
        · exact ⟨by rw [hlo]; simp [hmem], rfl⟩
        · exact Ent.refl

theorem dr_SlI_121 {Q P : Prop} (k : Q) (h : Hid Q → P := by
  intro k
  first
  | (refine is_draw ?_; apply WC_mix (id := 11) .true [] (pl := .p 0 <| .p 1 <| .p 2 <| .p 3 <| .p 4 <| .p 5 <| .p 6 <| .p 7 <| .e true [(8, .done)]); exact mixed; kernel_rfl; kernel_rfl; exact Ent.nil; exact k.out)
  | (refine is_draw ?_; apply WC_mix (id := 15) .true [] (pl := .p 0 <| .p 1 <| .p 2 <| .p 3 <| .p 4 <| .p 5 <| .p 6 <| .p 7 <| .e true [(8, .done)]); exact mixed; kernel_rfl; kernel_rfl; exact Ent.nil; exact k.out)) : P := h ⟨k⟩
theorem sl_Insert_int {F : List HP} {p : Option Addr} {c vb i : Nat} {l : List Int} {x : Int} (hi : i ≤ l.length) (hn : l.length ≤ 1000) :
    FnF Try.prog 121 [.slice p l.length c, .int .i64 i, .slice (some ⟨vb, 0, none⟩) 1 1] [Own 3 1 (.slice p l.length c) l.length (flat ic l), Cells vb 3 [.int .i64 x]] F
      (fun r L' => ∃ p' c', r = .slice p' (l.length + 1) c' ∧ L' = [Own 3 1 (.slice p' (l.length + 1) c') (l.length + 1) (flat ic (l.take i ++ x :: l.drop i))]) := by
  refine FnF.mk' Try.func121 rfl rfl Try.ntmps121 rfl ?_
  refine WC_owncap fun hc => ?_
  by_cases he : i = l.length
  · subst he
    repeat (first | rintro _ _ ⟨rfl, rfl⟩ | refine exq fun _ => ?_ | intro _ | refine go ?_ | refine dr_SlI_121 ?_ | refine drq ?_)
    rename_i p' c'
    (apply WE_ret rfl rfl (by (repeat (first | exact ResOk.nil | (apply ResOk.tmp; rfl) | (apply resOk_cell; rfl; exact inferInstance; rfl; rfl)))))
    · exact ⟨p', c', rfl, rfl⟩
    · rw [List.take_length, List.drop_length, flat_append, flat_one]; exact entu0
  · have hil : i < l.length := by omega
    refine WC_own (fun q1 q2 p0 hv hn0 hx => by omega) fun q1 q2 g cap spare hv hcap hmx hsp => ?_
    obtain ⟨rfl, rfl⟩ : p = some ⟨g, 0, none⟩ ∧ c = cap := by injection hv with a b c; exact ⟨a, c⟩
    have hfl : (flat ic l).length = l.length := by rw [q1, Nat.mul_one]
    have hkk : (l.length : Int) + 1 - i = ((l.length + 1 - i : Nat) : Int) := by omega
    have htk : (flat ic l ++ spare).take i = flat ic (l.take i) := by
      have := flat_take (enc := ic) (n := 1) (fun _ => rfl) l i
      rw [Nat.mul_one] at this
      rw [List.take_append_of_le_length (by omega), this]
    have hti : (l.take i).length = i := by rw [List.length_take]; omega
    have hDl : (flat ic (l.drop i)).length = l.length - i := by
      have := flat_length (enc := ic) (n := 1) (fun _ => rfl) (l.drop i)
      rw [List.length_drop] at this; omega
    have hdr : List.take ((l.length - i) * 1) (List.drop (0 + i * 1) (flat ic l ++ spare)) = flat ic (l.drop i) := by
      have := flat_drop (enc := ic) (n := 1) (fun _ => rfl) l i
      rw [Nat.mul_one] at this
      rw [Nat.mul_one, Nat.mul_one, Nat.zero_add, List.drop_append_of_le_length (by omega), this, List.take_left' hDl]
    by_cases hroom : c < l.length + 1
    · repeat (first | rintro _ _ ⟨rfl, rfl⟩ | refine exq fun _ => ?_ | intro _ | refine go ?_ | refine dr_SlI_121 ?_ | refine drq ?_)
      refine WO_v (v_cap rfl) rfl ?_
      repeat (first | rintro _ _ ⟨rfl, rfl⟩ | refine exq fun _ => ?_ | intro _ | refine go ?_ | refine dr_SlI_121 ?_ | refine drq ?_)
      simp only [cut_low]
      refine WO_k rfl (K_appendZ (k := l.length + 1 - i) rfl rfl inferInstance hkk (by omega) (by omega) (by omega) (by omega) (by rw [List.length_append]; omega) (by rw [htk]; exact all_ic _) rfl rfl) (gives_intro ?_)
      intro p' c'
      rw [htk, show i + (l.length + 1 - i) = l.length + 1 by omega]
      refine WO_own (fun q1 q2 p0 hv hn0 hx => by omega) fun r1 r2 g2 cap2 spare2 hv2 hcap2 hmx2 hsp2 => ?_
      obtain ⟨rfl, rfl⟩ : p' = some ⟨g2, 0, none⟩ ∧ c' = cap2 := by injection hv2 with a b c; exact ⟨a, c⟩
      have hA : (flat ic (l.take i)).length = i := by
        have := flat_length (enc := ic) (n := 1) (fun _ => rfl) (l.take i)
        omega
      have hM : (flat ic (l.take i) ++ List.replicate (l.length + 1 - i) (Value.int .i64 0) ++ spare2).length = c' := by
        rw [List.length_append, r1, hsp2]; omega
      repeat (first | rintro _ _ ⟨rfl, rfl⟩ | refine exq fun _ => ?_ | intro _ | refine go ?_ | refine dr_SlI_121 ?_ | refine drq ?_)
      rw [cut_at (show c' ≠ i by omega)]
      refine WO_k rfl (K_copyP (k := 1) rfl rfl inferInstance inferInstance (by omega) (by simp only [List.length_append, hA, List.length_replicate]; omega) (by simp) rfl rfl rfl) (same_intro ?_)
      repeat (first | rintro _ _ ⟨rfl, rfl⟩ | refine exq fun _ => ?_ | intro _ | refine go ?_ | refine dr_SlI_121 ?_ | refine drq ?_)
      rw [cut_at (show c' ≠ i + 1 by omega), cut_at (show c ≠ i by omega)]
      refine WT_k rfl GIn.none (K_copyP (k := l.length - i) rfl rfl inferInstance inferInstance (by omega) (by rw [splice_length (by rw [hM]; simp; omega), hM]; omega) (by rw [List.length_append]; omega) (by rw [hdr]; exact all_ic _) rfl rfl) (same_intro ?_)
      repeat (first | rintro _ _ ⟨rfl, rfl⟩ | refine exq fun _ => ?_ | intro _ | refine go ?_ | refine dr_SlI_121 ?_ | refine drq ?_)
      rw [hdr, show List.take (1 * 1) (List.drop 0 [Value.int IntKind.i64 x]) = [.int .i64 x] from rfl]
      (apply WE_ret rfl rfl (by (repeat (first | exact ResOk.nil | (apply ResOk.tmp; rfl) | (apply resOk_cell; rfl; exact inferInstance; rfl; rfl)))))
      · exact ⟨_, _, rfl, rfl⟩
      · rw [flat_ins]
        refine Ent.trans (ins_close1 (A := flat ic (l.take i)) (by rw [List.append_assoc, List.take_left' hA]) hM (by omega) (by omega) hDl hmx2 (by rw [← flat_ins]; exact all_ic _)) ?_
        exact entu0
    · repeat (first | rintro _ _ ⟨rfl, rfl⟩ | refine exq fun _ => ?_ | intro _ | refine go ?_ | refine dr_SlI_121 ?_ | refine drq ?_)
      refine WO_v (v_cap rfl) rfl ?_
      repeat (first | rintro _ _ ⟨rfl, rfl⟩ | refine exq fun _ => ?_ | intro _ | refine go ?_ | refine dr_SlI_121 ?_ | refine drq ?_)
      have e0 : (if c = 0 then some (⟨g, 0, none⟩ : Addr) else Option.map (fun x : Addr => x.add (0 * 1)) (some ⟨g, 0, none⟩)) = some ⟨g, 0, none⟩ := by split <;> simp [Addr.add]
      simp only [e0, Nat.sub_zero, cut_low]
      rw [cut_at (show c ≠ i + 1 by omega)]
      (first | refine WO_front (Cells vb 3 [.int .i64 x]) ?_ | refine WC_front (Cells vb 3 [.int .i64 x]) ?_ | refine WE_front (Cells vb 3 [.int .i64 x]) ?_)
      (first | refine WO_front (Cells g 3 (flat ic l ++ spare)) ?_ | refine WC_front (Cells g 3 (flat ic l ++ spare)) ?_ | refine WE_front (Cells g 3 (flat ic l ++ spare)) ?_)
      refine WO_two fun hne => ?_
      refine WO_k rfl (K_overlaps (t := 48) (tR := 4) rfl rfl rfl Try.func128 (by kernel_rfl) (by kernel_rfl) (by kernel_rfl) (by kernel_rfl) inferInstance inferInstance (Ne.symm hne) (by rw [List.length_append]; omega) rfl) (same_intro ?_)
      repeat (first | rintro _ _ ⟨rfl, rfl⟩ | refine exq fun _ => ?_ | intro _ | refine go ?_ | refine dr_SlI_121 ?_ | refine drq ?_)
      rw [cut_at (show c ≠ i + 1 by omega), cut_at (show c ≠ i by omega)]
      refine WT_k rfl GIn.none (K_copyP (k := l.length - i) rfl rfl inferInstance inferInstance (by omega) (by rw [List.length_append]; omega) (by rw [List.length_append]; omega) (by rw [hdr]; exact all_ic _) rfl rfl) (same_intro ?_)
      repeat (first | rintro _ _ ⟨rfl, rfl⟩ | refine exq fun _ => ?_ | intro _ | refine go ?_ | refine dr_SlI_121 ?_ | refine drq ?_)
      rw [cut_at (show c ≠ i by omega), hdr]
      have hM : (flat ic l ++ spare).length = c := by rw [List.length_append, hsp]; omega
      refine WO_k rfl (K_copyP (k := 1) rfl rfl inferInstance inferInstance (by omega) (by rw [splice_length (by rw [hM, hDl]; omega), hM]; omega) (by simp) rfl rfl rfl) (same_intro ?_)
      repeat (first | rintro _ _ ⟨rfl, rfl⟩ | refine exq fun _ => ?_ | intro _ | refine go ?_ | refine dr_SlI_121 ?_ | refine drq ?_)
      rw [show List.take (1 * 1) (List.drop 0 [Value.int IntKind.i64 x]) = [.int .i64 x] from rfl]
      (apply WE_ret rfl rfl (by (repeat (first | exact ResOk.nil | (apply ResOk.tmp; rfl) | (apply resOk_cell; rfl; exact inferInstance; rfl; rfl)))))
      · exact ⟨_, _, rfl, rfl⟩
      · rw [flat_ins]
        refine Ent.trans (ins_close2 (A := flat ic (l.take i)) htk hM (by omega) (by omega) hDl hmx (by rw [← flat_ins]; exact all_ic _)) ?_
        exact entu0
end Go.Sx

/- Strings, interface values, and calls through these. My own work; names no program. -/
set_option linter.unusedVariables false
set_option linter.unusedSimpArgs false
namespace Go.Sx
open Go

/-! ## Bytes -/
/-- The string of these bytes. -/
def bstr (ns : List Int) : ByteArray := ns.foldl (fun r n => r.push (UInt8.ofNat n.toNat)) ByteArray.empty
/-- A string's byte. -/
def bat (s : ByteArray) (n : Nat) : Int := match s.data.toList[n]? with | some b => (b.toNat : Int) | none => 0
abbrev byc (n : Int) : List Value := [.int .u8 n]
theorem bfold_data : ∀ (ns : List Int) (r : ByteArray), (ns.foldl (fun r n => r.push (UInt8.ofNat n.toNat)) r).data.toList = r.data.toList ++ ns.map fun n => UInt8.ofNat n.toNat
  | [], r => by simp
  | n :: ns, r => by
    rw [List.foldl_cons, bfold_data ns]
    simp [ByteArray.push]
theorem bstr_data (ns : List Int) : (bstr ns).data.toList = ns.map fun n => UInt8.ofNat n.toNat := by
  unfold bstr
  rw [bfold_data]
  rfl
theorem bstr_size (ns : List Int) : (bstr ns).size = ns.length := by
  have := congrArg List.length (bstr_data ns)
  simpa using this
theorem bat_lt (s : ByteArray) (n : Nat) : 0 ≤ bat s n ∧ bat s n < 256 := by
  unfold bat
  split
  · rename_i b _
    have := b.toNat_lt
    omega
  · omega
theorem bat_bstr {ns : List Int} (h : ∀ n ∈ ns, 0 ≤ n ∧ n < 256) (i : Nat) (hi : i < ns.length) : bat (bstr ns) i = ns[i] := by
  unfold bat
  rw [bstr_data, List.getElem?_map, List.getElem?_eq_getElem hi]
  have := h _ (List.getElem_mem hi)
  simp only [Option.map_some]
  have e : (UInt8.ofNat ns[i].toNat).toNat = ns[i].toNat := by
    rw [UInt8.toNat_ofNat']
    exact Nat.mod_eq_of_lt (by omega)
  rw [e]; omega
theorem bytes_ext {a b : ByteArray} (h : a.size = b.size) (h2 : ∀ i, i < a.size → bat a i = bat b i) : a = b := by
  have e : a.data.toList = b.data.toList := by
    refine List.ext_getElem (by simpa using h) fun i h1 h3 => ?_
    have := h2 i (by simpa using h1)
    unfold bat at this
    rw [List.getElem?_eq_getElem h1, List.getElem?_eq_getElem h3] at this
    have this : (a.data.toList[i].toNat : Int) = b.data.toList[i].toNat := this
    exact UInt8.toNat_inj.1 (by omega)
  cases a; cases b
  simp only [Array.toList_inj] at e
  simp [e]
theorem bat_extract {s : ByteArray} {l i : Nat} (h : l ≤ s.size) : bat (s.extract l s.size) i = bat s (l + i) := by
  unfold bat
  have : (s.extract l s.size).data.toList = s.data.toList.drop l := by
    rw [ByteArray.data_extract, Array.toList_extract]
    simp only [List.extract_eq_take_drop]
    exact List.take_of_length_le (by simp)
  rw [this, List.getElem?_drop]
theorem size_extract {s : ByteArray} {l : Nat} (h : l ≤ s.size) : (s.extract l s.size).size = s.size - l := by
  rw [ByteArray.size_extract]; simp
theorem extract_extract {s : ByteArray} {l m : Nat} (h : l + m ≤ s.size) : (s.extract l s.size).extract m (s.size - l) = s.extract (l + m) s.size := by
  have e1 := size_extract (s := s) (l := l) (by omega)
  refine bytes_ext ?_ fun i hi => ?_
  · rw [← e1, size_extract (by rw [e1]; omega), size_extract h, e1]; omega
  · rw [← e1, bat_extract (by rw [e1]; omega), bat_extract (by omega), bat_extract h]; congr 1; omega
theorem extract_zero (s : ByteArray) : s.extract 0 s.size = s := by
  refine bytes_ext (by rw [size_extract (by omega)]; rfl) fun i hi => ?_
  rw [bat_extract (by omega), Nat.zero_add]

/-! ## Steps -/
section
variable {P : Program} {N : Nat} {t ty xt yt : TypeId} {x y : Operand} {env : Env} {L : List HP}
theorem v_index_string {k : IntKind} {i : Int} {s : ByteArray} [hT : TU P t .string] (hx : ev env x = some (.string s)) (hy : ev env y = some (.int k i)) (h0 : 0 ≤ i) (h1 : i < (s.size : Int)) :
    V P N (.index t x y) ty env L (.int .u8 (bat s i.toNat)) := by
  intro a w ha _
  have h2 : i.toNat < s.size := by omega
  have h3 : s[i.toNat]? = some s[i.toNat] := getElem?_pos s _ h2
  have h4 : bat s i.toNat = ((s[i.toNat]).toNat : Int) := by
    unfold bat
    rw [Array.getElem?_toList, Array.getElem?_eq_getElem (by simpa using h2)]
    rfl
  simp only [execOp, ha.ev hx, ha.ev hy, Instr.index, asIntOf, run_underlying hT.pf, Sem.run_bind, Sem.run_pure, Result.andThen_ok, if_pos h0, h3, h4]
theorem v_eq_string {a b : ByteArray} (hx : ev env x = some (.string a)) (hy : ev env y = some (.string b)) : V P N (.binOp .eql xt x y yt) ty env L (.bool (decide (a = b))) := by
  intro f w ha _
  have e : (eqGuard .eql xt x y (.string a) (.string b)).run P w = .ok () w := by unfold eqGuard; simp
  have hb : (a.toList == b.toList) = decide (a = b) := by
    rw [ByteArray.toList_eq, ByteArray.toList_eq, Bool.eq_iff_iff, beq_iff_eq, decide_eq_true_iff]
    constructor
    · intro h; cases a; cases b; simp only [Array.toList_inj] at h; simp [h]
    · intro h; rw [h]
  simp [execOp, ha.ev hx, ha.ev hy, e, binOp, Op.stringOp, hb]
theorem v_ne_string {a b : ByteArray} (hx : ev env x = some (.string a)) (hy : ev env y = some (.string b)) : V P N (.binOp .neq xt x y yt) ty env L (.bool (decide (a ≠ b))) := by
  intro f w ha _
  have e : (eqGuard .neq xt x y (.string a) (.string b)).run P w = .ok () w := by unfold eqGuard; simp
  have hb : (a.toList == b.toList) = decide (a = b) := by
    rw [ByteArray.toList_eq, ByteArray.toList_eq, Bool.eq_iff_iff, beq_iff_eq, decide_eq_true_iff]
    constructor
    · intro h; cases a; cases b; simp only [Array.toList_inj] at h; simp [h]
    · intro h; rw [h]
  simp [execOp, ha.ev hx, ha.ev hy, e, binOp, Op.stringOp, hb]
theorem v_slice_string {lo : Option Operand} {l : Nat} {s : ByteArray} [hT : TU P t .string] (hx : ev env x = some (.string s)) (hl : Bnd env lo 0 l) (h : l ≤ s.size) :
    V P N (.slice t x lo none none) ty env L (.string (s.extract l s.size)) := by
  intro a w ha hw
  have e1 : (Instr.sliceAt t (.string s) (lo.map a.eval) none none).run P w = .ok (.string (s.extract l s.size)) w := by
    cases hl with
    | none => simp [Instr.sliceAt, Instr.slice, Instr.sliceBounds, run_underlying hT.pf]
    | some q q0 => simp [Instr.sliceAt, Instr.slice, Instr.sliceBounds, run_underlying hT.pf, ha.ev q, run_bound q0 h]
  simp [execOp, ha.ev hx, e1]
theorem v_bytes {src dst e : TypeId} {v : Value} {n : Nat} {xs : List Value} {ns : List Int} [hs : TU P src (.slice e)] [he : TU P e (.int .u8)] [hd : TU P dst .string] (hx : ev env x = some v) (hr : RdL L 1 v n xs) (hn : xs = flat byc ns) :
    V P N (.convert src dst x) ty env L (.string (bstr ns)) := by
  intro a w ha hw
  have hfl : flat byc ns = ns.map (Value.int .u8) := by
    clear hn
    induction ns with
    | nil => rfl
    | cons b r ih => rw [List.map_cons, ← ih]; rfl
  have hlen := hr.len w hw
  have e1 : (convert src dst v).run P w = .ok (.string (bstr ns)) w := by
    rcases hr.pf w hw with ⟨p, c, rfl, rfl⟩ | ⟨b, o, c, rfl, hc⟩
    · rw [run_convert_bytes_string w src dst e _ _ _ hs.pf he.pf hd.pf]
      have hnil : ns = [] := by rw [hn, hfl] at hlen; exact List.eq_nil_of_length_eq_zero (by simpa using hlen)
      subst hnil
      cases p with
      | none => simp [Conv.bytesToString, bstr]
      | some p =>
        rw [run_bytesToString w p 0 c [] (by simp [loadCells, loadCellsFrom])]
        rfl
    · rw [run_convert_bytes_string w src dst e _ _ _ hs.pf he.pf hd.pf]
      rw [run_bytesToString w _ n c ns ?_]
      · rfl
      · rw [← hfl, ← hn]
        exact run_loadCells' (by omega) hc
  simp [execOp, ha.ev hx, e1]

/-! ## Interface values -/
def isIfaceD : TypeDesc → Bool
  | .interface _ => true
  | _ => false
theorem v_iface {d : TypeDesc} {u : Value} [hT : TU P t d] (hx : ev env x = some u) (hd : isIfaceD d = false) : V P N (.makeInterface t x) ty env L (.iface t u) := by
  intro a w ha _
  have e1 : (Instr.makeInterface t u).run P w = .ok (.iface t u) w := by
    cases d <;> first | (cases hd; done) | simp [Instr.makeInterface, run_underlying hT.pf]
  simp [execOp, ha.ev hx, e1]
/-- Whether a type's methods are those that another one wants. -/
def missL (want : Array (String × TypeId)) (got : Array Method) : List (String × TypeId) := want.toList.filter fun p => !got.any fun m => m.name == p.1 && m.sig == p.2
theorem miss_none {want : Array (String × TypeId)} {got : Array Method} (h : missL want got = []) : Instr.missingMethod want got = none := by
  unfold Instr.missingMethod
  unfold missL at h
  simp only [h, List.map_nil, List.partition_eq_filter_filter, List.filter_nil]
  rfl
theorem least_some {l : List String} (h : l ≠ []) : ∃ m, Instr.least l = some m := by
  cases l with
  | nil => exact absurd rfl h
  | cons a r => exact ⟨_, rfl⟩
theorem miss_some {want : Array (String × TypeId)} {got : Array Method} (h : missL want got ≠ []) : ∃ m, Instr.missingMethod want got = some m := by
  unfold Instr.missingMethod
  unfold missL at h
  simp only [List.partition_eq_filter_filter]
  generalize List.filter (fun p => !got.any fun m => m.name == p.1 && m.sig == p.2) want.toList = l at h
  by_cases h1 : List.filter (not ∘ fun x : String => x.contains '.') (List.map (fun x => x.1) l) = []
  · rw [h1]
    have h2 : List.filter (fun x : String => x.contains '.') (List.map (fun x => x.1) l) ≠ [] := fun h2 => by
      cases l with
      | nil => exact h rfl
      | cons a r =>
        have k1 := List.filter_eq_nil_iff.1 h1 a.1 (by simp)
        have k2 := List.filter_eq_nil_iff.1 h2 a.1 (by simp)
        simp only [Function.comp] at k1
        revert k1 k2
        generalize (a.1.contains '.') = b
        cases b <;> simp
    obtain ⟨m, hm⟩ := least_some (l := List.map (fun id => (String.splitOn id ".").getLastD id) (List.filter (fun x : String => x.contains '.') (List.map (fun x => x.1) l))) (by simpa using h2)
    exact ⟨m, by rw [hm]; rfl⟩
  · obtain ⟨m, hm⟩ := least_some h1
    exact ⟨m, by rw [hm]; rfl⟩
def hasO (P : Program) (t at' : TypeId) : Option Bool := match P.underlying at', P.info? t with
  | some (.interface want), some i => some (missL want i.methods).isEmpty
  | _, _ => none
class Has (P : Program) (t at' : TypeId) (b : outParam Bool) : Prop where
  pf : hasO P t at' = some b
theorem has_of {t at' : TypeId} {b : Bool} (h : hasO P t at' = some b) : ∃ want i, P.underlying at' = some (.interface want) ∧ P.info? t = some i ∧ (missL want i.methods).isEmpty = b := by
  unfold hasO at h
  split at h
  · rename_i want i h1 h2
    exact ⟨want, i, h1, h2, by simpa using h⟩
  · cases h
theorem v_assert_t {u : Value} {at' : TypeId} (hx : ev env x = some (.iface t u)) (h : Has P t at' true) : V P N (.typeAssert x xt at' true) ty env L (.tuple [.iface t u, .bool true].toArray) := by
  obtain ⟨want, i, h1, h2, h3⟩ := has_of h.pf
  intro a w ha _
  have h4 : Instr.missingMethod want i.methods = none := miss_none (by simpa using h3)
  simp [execOp, ha.ev hx, Instr.typeAssert, run_underlying h1, typeInfo, h2, h4]
theorem v_assert_f {u z : Value} {at' : TypeId} {n bs : Nat} [hZ : TZ P at' n z bs] (hx : ev env x = some (.iface t u)) (h : Has P t at' false) : V P N (.typeAssert x xt at' true) ty env L (.tuple [z, .bool false].toArray) := by
  obtain ⟨want, i, h1, h2, h3⟩ := has_of h.pf
  intro a w ha _
  obtain ⟨m, e⟩ := miss_some (want := want) (got := i.methods) (fun h => by rw [h] at h3; cases h3)
  simp [execOp, ha.ev hx, Instr.typeAssert, run_underlying h1, typeInfo, h2, e, run_zeroValue hZ]

/-- What a value's method is. -/
class Meth (P : Program) (t : TypeId) (v : Value) (name : String) (k : outParam FuncId) (r : outParam Value) : Prop where
  pf : ∀ w, (method (P.types.size + Made.depth) t v name).run P w = .ok (k, r) w
theorem execInvoke {ρ : Operand → Value} {f : Operand} {args : List Operand} {ats : Array TypeId} {k : FuncId} {tv : TypeId} {v r : Value} {name : String} {vs : List Value} (hf : ρ f = .iface tv v) (hm : Meth P tv v name k r) (ha : r :: args.map ρ = vs)
    (he : Enters P k) (w : World) : (execOp ρ ⟨none, .call ⟨.invoke f name, args.toArray, ats⟩, ty, "", #[], none⟩).run P w = .ok (.enter k vs.toArray) w := by
  have e1 : (program).run P w = .ok P w := by simp
  simp only [execOp, resolve, hf, Sem.run_bind, Sem.run_pure, Result.andThen_ok, invoke]
  have e2 : ((#[Value.iface tv v] ++ args.toArray.map ρ)[0]? : Option Value) = some (.iface tv v) := by simp
  simp only [e2, callMethod, Sem.run_bind, e1, Result.andThen_ok, hm.pf]
  rw [he]
  congr 2
  apply Array.ext'
  simp only [← ha, Array.toList_append, Array.toList_extract, List.map_toArray]
  simp [List.extract_eq_take_drop]
  exact List.take_of_length_le (by simp)
theorem K_callI {recv : Operand} {args : List Operand} {ats : Array TypeId} {k : FuncId} {tv : TypeId} {v r : Value} {name : String} {avs vs : List Value} {pre F : List HP} {post : Value → List HP → Prop}
    {pos : String} {aft : Array Edge} {d : Option Nat}
    (hf : ev env recv = some (.iface tv v)) (hm : Meth P tv v name k r) (ha : evs env args = some avs) (hv : r :: avs = vs) (hd : dstOk N d = true) (C : FnF P k vs pre F post) (hE : PickL pre L F) :
    KO P N ⟨d, .call ⟨.invoke recv name, args.toArray, ats⟩, ty, pos, aft, none⟩ env L (Called env d F post) := by
  intro a w hA hw K Q next
  unfold Oper.wp
  rw [execOp_plain, execInvoke (vs := vs) (hA.ev hf) hm (by rw [hA.evs ha]; exact hv) C.enters w]
  refine (C.runs w (hE.pf.sat hw)).mono fun e w' ⟨v, L', he, hp, hs⟩ => ?_
  subst he
  exact next _ _ _ w' ⟨v, L', hp, rfl, rfl⟩ (hA.puts hd v) hs
end
set_option maxRecDepth 100000
/-- A step with strings or interface values. -/
theorem str {Q P : Prop} (k : Q) (h : Hid Q → P := by
  intro k
  (first | (apply WO_v; (first | (apply v_index_string; rfl; rfl; omega; omega) | (apply v_eq_string; rfl; rfl) | (apply v_ne_string; rfl; rfl) | (apply v_slice_string; rfl; (first | exact Bnd.none | (apply bnd_nat; rfl) | (apply Bnd.some; rfl; omega)); omega) | (apply v_bytes; rfl; exact inferInstance; (first | rfl | (with_reducible assumption))) | (apply v_iface; rfl; rfl) | (apply v_assert_t; rfl; exact inferInstance) | (apply v_assert_f; rfl; exact inferInstance)); rfl) | (apply WT_p; rfl; (first | exact GIn.none | (apply gin_t; rfl; rfl; (first | (with_reducible rfl) | exact congrArg Value.bool (by with_reducible assumption) | exact congrArg Value.bool (dec_t (by first | (with_reducible assumption) | (with_reducible rfl) | (with_reducible exact nn_eq) | (with_reducible exact nn_ne) | omega | decide | exact rfl)))) | (apply gin_f; rfl; rfl; (first | (with_reducible rfl) | exact congrArg Value.bool (by with_reducible assumption) | exact congrArg Value.bool (dec_f (by first | (with_reducible assumption) | (with_reducible rfl) | (with_reducible exact nn_eq) | (with_reducible exact nn_ne) | omega | decide | exact rfl))))); (first | (apply v_index_string; rfl; rfl; omega; omega) | (apply v_eq_string; rfl; rfl) | (apply v_ne_string; rfl; rfl) | (apply v_slice_string; rfl; (first | exact Bnd.none | (apply bnd_nat; rfl) | (apply Bnd.some; rfl; omega)); omega) | (apply v_bytes; rfl; exact inferInstance; (first | rfl | (with_reducible assumption))) | (apply v_iface; rfl; rfl) | (apply v_assert_t; rfl; exact inferInstance) | (apply v_assert_f; rfl; exact inferInstance)); rfl) | (apply WT_r; rfl; (first | exact GIn.none | (apply gin_t; rfl; rfl; (first | (with_reducible rfl) | exact congrArg Value.bool (by with_reducible assumption) | exact congrArg Value.bool (dec_t (by first | (with_reducible assumption) | (with_reducible rfl) | (with_reducible exact nn_eq) | (with_reducible exact nn_ne) | omega | decide | exact rfl)))) | (apply gin_f; rfl; rfl; (first | (with_reducible rfl) | exact congrArg Value.bool (by with_reducible assumption) | exact congrArg Value.bool (dec_f (by first | (with_reducible assumption) | (with_reducible rfl) | (with_reducible exact nn_eq) | (with_reducible exact nn_ne) | omega | decide | exact rfl))))); (first | (apply v_index_string; rfl; rfl; omega; omega) | (apply v_eq_string; rfl; rfl) | (apply v_ne_string; rfl; rfl) | (apply v_slice_string; rfl; (first | exact Bnd.none | (apply bnd_nat; rfl) | (apply Bnd.some; rfl; omega)); omega) | (apply v_bytes; rfl; exact inferInstance; (first | rfl | (with_reducible assumption))) | (apply v_iface; rfl; rfl) | (apply v_assert_t; rfl; exact inferInstance) | (apply v_assert_f; rfl; exact inferInstance)); rfl) | (apply WT_v; rfl; (first | exact GIn.none | (apply gin_t; rfl; rfl; (first | (with_reducible rfl) | exact congrArg Value.bool (by with_reducible assumption) | exact congrArg Value.bool (dec_t (by first | (with_reducible assumption) | (with_reducible rfl) | (with_reducible exact nn_eq) | (with_reducible exact nn_ne) | omega | decide | exact rfl)))) | (apply gin_f; rfl; rfl; (first | (with_reducible rfl) | exact congrArg Value.bool (by with_reducible assumption) | exact congrArg Value.bool (dec_f (by first | (with_reducible assumption) | (with_reducible rfl) | (with_reducible exact nn_eq) | (with_reducible exact nn_ne) | omega | decide | exact rfl))))); (first | (apply v_index_string; rfl; rfl; omega; omega) | (apply v_eq_string; rfl; rfl) | (apply v_ne_string; rfl; rfl) | (apply v_slice_string; rfl; (first | exact Bnd.none | (apply bnd_nat; rfl) | (apply Bnd.some; rfl; omega)); omega) | (apply v_bytes; rfl; exact inferInstance; (first | rfl | (with_reducible assumption))) | (apply v_iface; rfl; rfl) | (apply v_assert_t; rfl; exact inferInstance) | (apply v_assert_f; rfl; exact inferInstance)); rfl) | (apply WQ_op; (first | (apply v_index_string; rfl; rfl; omega; omega) | (apply v_eq_string; rfl; rfl) | (apply v_ne_string; rfl; rfl) | (apply v_slice_string; rfl; (first | exact Bnd.none | (apply bnd_nat; rfl) | (apply Bnd.some; rfl; omega)); omega) | (apply v_bytes; rfl; exact inferInstance; (first | rfl | (with_reducible assumption))) | (apply v_iface; rfl; rfl) | (apply v_assert_t; rfl; exact inferInstance) | (apply v_assert_f; rfl; exact inferInstance)); rfl))
  exact k.out) : P := h ⟨k⟩
/-- A call through an interface value, by its contract. -/
theorem cali {C Q P : Prop} (c : C) (k : Q) (h : C → Hid Q → P := by
  intro c k
  first
  | (apply WO_k; rfl; (focus (apply K_callI; rfl; exact inferInstance; rfl; rfl; rfl; apply c; (all_goals (try (focus ((repeat (first | (with_reducible exact pl_nil) | (apply pl_cons; focus (repeat (first | (with_reducible exact pk_here) | (apply pk_there)))))); done)))); (all_goals (focus (first | (with_reducible assumption) | exact inferInstance | exact rd_lit inferInstance rfl rfl | (with_reducible rfl) | omega | (unfold I64; omega) | (constructor <;> omega) | decide))))); refine called_some ?_; exact k.out)
  | (apply WT_k; rfl; (first | exact GIn.none | (apply gin_t; rfl; rfl; (first | (with_reducible rfl) | exact congrArg Value.bool (by with_reducible assumption) | exact congrArg Value.bool (dec_t (by first | (with_reducible assumption) | (with_reducible rfl) | (with_reducible exact nn_eq) | (with_reducible exact nn_ne) | omega | decide | exact rfl)))) | (apply gin_f; rfl; rfl; (first | (with_reducible rfl) | exact congrArg Value.bool (by with_reducible assumption) | exact congrArg Value.bool (dec_f (by first | (with_reducible assumption) | (with_reducible rfl) | (with_reducible exact nn_eq) | (with_reducible exact nn_ne) | omega | decide | exact rfl))))); (focus (apply K_callI; rfl; exact inferInstance; rfl; rfl; rfl; apply c; (all_goals (try (focus ((repeat (first | (with_reducible exact pl_nil) | (apply pl_cons; focus (repeat (first | (with_reducible exact pk_here) | (apply pk_there)))))); done)))); (all_goals (focus (first | (with_reducible assumption) | exact inferInstance | exact rd_lit inferInstance rfl rfl | (with_reducible rfl) | omega | (unfold I64; omega) | (constructor <;> omega) | decide))))); refine called_some ?_; exact k.out)) : P := h c ⟨k⟩
end Go.Sx
