/- append of a make; cap; overlaps of slices in two blocks. My own work; names no program. -/
import Derived.Test.YtcjagmphobdbbaaSl
import Derived.Lib.AppendZerosOnto
import Derived.Lib.Overlaps
import Derived.Laws.Externs
set_option linter.unusedVariables false
set_option linter.unusedSimpArgs false
namespace Go.Sx
open Go
section
variable {P : Program} {N : Nat} {t ty : TypeId} {x y : Operand} {env : Env} {L : List HP}

theorem v_cap {e : TypeId} {ats : List TypeId} {p : Option Addr} {n c : Nat} [hT : TU P t (.slice e)] (hx : ev env x = some (.slice p n c)) : V P N (.call ⟨.builtin .cap, [x].toArray, (t :: ats).toArray⟩) ty env L (.int .i64 (c : Int)) := by
  intro a w ha hw
  simp [execOp, resolve, invoke, builtin, ha.ev hx, Builtin.cap_, run_underlying hT.pf, goInt]

/-- append(s[:i], make(S, k)...), where there is no room. -/
theorem K_appendZ {e tn : TypeId} {g T i cap k bs : Nat} {kk : Int} {z z0 : Value} {l : List Value} {C : List Value → List HP} {pos : String} {aft : Array Edge} {d : Nat} [hT : TU P t (.slice e)] [hN : TU P tn (.int .i64)] [hZ : TZ P e 1 z bs] [hco : CO z [z0]]
    (hx : ev env x = some (.slice (some ⟨g, 0, none⟩) i cap)) (hy : ev env y = some (.int .i64 kk)) (hk : CellsAt g L T l C) (he : kk = (k : Int)) (h0 : 0 < k) (hg : cap < i + k) (hb : (i + k) * bs ≤ 140737488355328) (hl0 : i + k ≤ 9223372036854775807) (hi : i ≤ l.length) (ho : (l.take i).all one = true) (h1 : one z0 = true) (hd : Nat.blt d N = true) :
    KO P N ⟨some d, .call ⟨.builtin .append, [x, y].toArray, [t, tn].toArray⟩, ty, pos, aft, none⟩ env L (Gives env d (i + k) (fun v' => Own e 1 v' (i + k) (l.take i ++ List.replicate k z0) :: L)) := by
  subst he
  intro a w ha hw K Q next
  have hl : i + k ≤ maxLen := by simp only [maxLen]; omega
  obtain ⟨ti, hti, hpf⟩ := Option.map_eq_some_iff.1 hZ.pf
  simp only [Prod.mk.injEq] at hpf
  obtain ⟨hisz, hiz, hib⟩ := hpf
  have hzc : z.cells = #[z0] := by rw [cellsOf_eq, hco.pf]
  have hh := cellsAt_heap hk hw
  have hold : (Builtin.firstCells ti.size i (.slice (some ⟨g, 0, none⟩) i cap)).run P w.drew = .ok (l.take i).toArray w.drew := by
    rw [hisz]
    simp only [Builtin.firstCells]
    refine run_loadCells' (by rw [List.length_take]; omega) (fun j v hj => ?_)
    have : w.drew.cell? ⟨g, 0 + j, none⟩ = w.cell? ⟨g, 0 + j, none⟩ := rfl
    rw [this, cell_of_heap hh]
    rw [List.getElem?_take] at hj
    split at hj
    · simpa using hj
    · cases hj
  have hr := Lib.run_append_grow_zeros (P := P) w t tn ty e ti z .i64 .i64 hT.pf hN.pf hti hiz (some ⟨g, 0, none⟩) i cap (l.take i) hold k h0 (by omega) hg (by omega) (by rw [hib]; have : k * bs ≤ (i + k) * bs := Nat.mul_le_mul_right _ (by omega); omega) (growslice_fits (by omega) (by rw [hib]; exact hb))
  have hge := grownCap_ge w (i + k) cap e
  have hmap : ∀ (n : Nat), (Builtin.zeroCells #[z0] n).toList = List.replicate n z0 := fun n => by
    have := zeroCells_list [z0] n 1 rfl
    rw [this]
    induction n with
    | zero => rfl
    | succ n ih => rw [List.replicate_succ, List.flatten_cons, ih (zeroCells_list [z0] n 1 rfl), List.replicate_succ]; rfl
  obtain ⟨v', w', hrun, hsat⟩ : ∃ v' w', (Builtin.append_ #[t, tn] ty #[.slice (some ⟨g, 0, none⟩) i cap, .int .i64 k]).run P w = .ok v' w' ∧ Sat (Own e 1 v' (i + k) (l.take i ++ List.replicate k z0) :: L) w' := by
    refine ⟨_, _, hr, sat_new (w := w.drew) _ (fun h hc => ⟨?_, ?_, .inr ⟨_, _, _, rfl, hc, hge, grownCap_le_maxLen w (i + k) cap e hl, ?_, ?_⟩⟩) (sat_drawn hw)⟩
    · simp; omega
    · rw [List.all_append, ho]; simp [h1]
    · simp only [Array.size_append, List.size_toArray, zeros_size, hzc, List.length_take]
      simp; omega
    · simp only [Array.toList_append, hzc, hmap]
      rw [List.take_append_of_le_length (by simp; omega), List.take_of_length_le (by simp; omega)]
  unfold Oper.wp
  have ex := execBuiltin (P := P) (ρ := a.eval) (b := .append) (args := [x, y]) (ats := [t, tn].toArray) (ty := ty) (vs := [.slice (some ⟨g, 0, none⟩) i cap, .int .i64 k]) (by simp [ha.ev hx, ha.ev hy]) (w := w) (r := .ok (.value v') w') (fun cs => by
    simp [builtin, hrun])
  rw [execOp_plain, ex]
  obtain ⟨p', c', rfl⟩ := sat_own_slice hsat
  exact next _ _ _ _ ⟨p', c', rfl, rfl⟩ (ha.put hd _) hsat

theorem K_overlaps {f : Operand} {ats : Array TypeId} {fid : FuncId} {fn : Func} {tR e : TypeId} {ga oa la ca gb ob lb cb TA TB bs sz : Nat} {z : Value} {xa xb : List Value} {CA CB : List Value → List HP} {pos : String} {aft : Array Edge} {d : Nat}
    [hT : TU P t (.slice e)] [hZ : TZ P e sz z bs]
    (hf : ev env f = some (.func (.func fid) [].toArray [].toArray)) (hx : ev env x = some (.slice (some ⟨ga, oa, none⟩) la ca)) (hy : ev env y = some (.slice (some ⟨gb, ob, none⟩) lb cb)) (hfn : P.funcs[fid]? = some fn) (hname : (fn.name == "runtime.NumGoroutine") = false) (hbody : fn.body.isNone = true) (hnx : Extern.findNext fn = none) (hex : Extern.find fn = some (Extern.SlicesOverlaps.overlaps #[t, t] #[tR]))
    (ka : CellsAt ga L TA xa CA) (kb : CellsAt gb L TB xb CB) (hne : ga ≠ gb) (hb0 : xb.length ≠ 0) (hd : Nat.blt d N = true) :
    KO P N ⟨some d, .call ⟨.value f, [x, y].toArray, ats⟩, ty, pos, aft, none⟩ env L (Same ((d, .bool false) :: env) L) := by
  intro a w ha hw K Q next
  have h1 := cellsAt_heap ka hw
  have h2 := cellsAt_heap kb hw
  have hr := Lib.run_overlaps_apart (P := P) w t tR e hT.pf sz (run_sizeOf hZ) ⟨ga, oa, none⟩ ⟨gb, ob, none⟩ la ca lb cb hne TA TB xa.length xb.length (by simp [World.shape?, h1]) (by simp [World.shape?, h2]) hb0 (by simp [World.frozen?, h1]) (by simp [World.frozen?, h1])
  unfold Oper.wp
  have ex : (execOp a.eval ⟨none, .call ⟨.value f, [x, y].toArray, ats⟩, ty, "", #[], none⟩).run P w = .ok (.value (.bool false)) w := by
    simp only [execOp, resolve, Sem.run_bind, Deferred.ofValue, ha.ev hf, Sem.run_pure, Result.andThen_ok, invoke]
    rw [run_callFunc_extern hfn hname hbody hnx hex]
    simp [ha.ev hx, ha.ev hy, hr]
  rw [execOp_plain, ex]
  exact next _ _ _ _ ⟨rfl, rfl⟩ (ha.put hd _) hw

/-- copy, from a block into a block (it may be the same one) whose cells are known. -/
theorem K_copyP {e : TypeId} {ga oa na ca gb ob nb cb TA TB sz k bs : Nat} {z : Value} {l l2 l' : List Value} {CA CB : List Value → List HP} {pos : String} {aft : Array Edge} {d : Option Nat} {t2 : TypeId} [hT : TU P t (.slice e)] [hZ : TZ P e sz z bs]
    (hx : ev env x = some (.slice (some ⟨ga, oa, none⟩) na ca)) (hy : ev env y = some (.slice (some ⟨gb, ob, none⟩) nb cb)) (hka : CellsAt ga L TA l CA) (hkb : CellsAt gb L TB l2 CB) (hk : min nb na = k) (hfit : oa + k * sz ≤ l.length) (hfit2 : ob + k * sz ≤ l2.length) (ho : ((l2.drop ob).take (k * sz)).all one = true) (hd : dstOk N d = true) (hl : splice l oa ((l2.drop ob).take (k * sz)) = l') :
    KO P N ⟨d, .call ⟨.builtin .copy, [x, y].toArray, [t, t2].toArray⟩, ty, pos, aft, none⟩ env L (Same (putEnv env d (.int .i64 (k : Nat))) (CA l')) := by
  subst hl hk
  intro a w ha hw K Q next
  obtain ⟨R, k1, k2⟩ := hka.pf
  have hs := k1.sat hw
  have hh := sat_cells hs
  have hh2 := cellsAt_heap hkb hw
  have htl : ((l2.drop ob).take (min nb na * sz)).length = min nb na * sz := by rw [List.length_take, List.length_drop]; omega
  have hf : (Builtin.firstCells sz (min nb na) (.slice (some ⟨gb, ob, none⟩) nb cb)).run P w = .ok ((l2.drop ob).take (min nb na * sz)).toArray w := by
    simp only [Builtin.firstCells]
    refine run_loadCells' htl fun j v hj => ?_
    rw [cell_of_heap hh2]
    rw [List.getElem?_take] at hj
    split at hj
    · rwa [List.getElem?_drop] at hj
    · cases hj
  obtain ⟨w', r1, r2, r3, r4, r5, r6⟩ := run_storeCells (P := P) ga TA ((l2.drop ob).take (min nb na * sz)) l oa 0 w hh (by rw [htl]; omega) ho
  have hrun : (Builtin.copy_ #[t, t2] ty #[.slice (some ⟨ga, oa, none⟩) na ca, .slice (some ⟨gb, ob, none⟩) nb cb]).run P w = .ok (goInt (min nb na : Nat)) w' := by
    have hmn : Nat.min nb na = min nb na := rfl
    simp [Builtin.copy_, run_underlying hT.pf, run_sizeOf hZ, Builtin.lenOf, hmn, hf, r1]
  unfold Oper.wp
  have ex := execBuiltin (P := P) (ρ := a.eval) (b := .copy) (args := [x, y]) (ats := [t, t2].toArray) (ty := ty) (vs := [.slice (some ⟨ga, oa, none⟩) na ca, .slice (some ⟨gb, ob, none⟩) nb cb]) (by simp [ha.ev hx, ha.ev hy]) (w := w) (r := .ok (.value (goInt (min nb na : Nat))) w') (fun cs => by
    simp [builtin, hrun])
  rw [execOp_plain, ex]
  refine next _ _ _ _ ⟨rfl, rfl⟩ (ha.puts hd _) ((k2 _).sat ?_)
  exact sat_upd (b := ga) (Cells ga TA (splice l oa ((l2.drop ob).take (min nb na * sz)))) (fun h hp => ⟨_, hp.pf⟩) (fun h e => ⟨e⟩) (by simpa using r2) r3 r4 r5 r6 hs
/-- Two blocks are two. -/
theorem WO_two {g h T T' : Nat} {l l' : List Value} {all : Array Oper} {c : List Oper} {Q : Exit → Act → World → Prop} (k : g ≠ h → WO P N all c env (Cells g T l :: Cells h T' l' :: L) Q) : WO P N all c env (Cells g T l :: Cells h T' l' :: L) Q := by
  intro a w ha hw
  refine k ?_ a w ha hw
  obtain ⟨S, R, d, hp, A, B, d2, hq, hL⟩ := hw
  rw [res_res] at hq
  intro e
  subst e
  exact d g (res_c hp.pf).1 (res_c hq.pf).1.1
end
end Go.Sx
