/- Msh6, Msh7, Ins, Msh8, Wb, Str: several of my texts as one. My own work. -/
import Derived.Test.YtlaohgngdaglmaaZab
import Derived.Test.YtlaohgngdaglmaaSl
import Derived.Lib.AppendZerosOnto
import Derived.Lib.Overlaps
import Derived.Laws.Externs
import Derived.Test.YtlaohgngdaglmaaGo
import Derived.Laws.BytesString
import Derived.Laws.Strings
/- What files of misses do, sixth part. The program's. My own work. -/
namespace Go.Sx
open Go Go.Proofs
set_option linter.unusedVariables false
set_option linter.unusedSectionVars false
set_option linter.unusedSimpArgs false
def oweB (l : List Miss) (line : Int) : Bool := misIn l line && !(misAt l line).owes && decide ((misAt l line).needs = (misAt l line).got)
def oweM (l : List Miss) (line : Int) : Miss := if oweB l line then misAt l line else .zero
def oweL (l : List Miss) (line : Int) : List Miss := if oweB l line then l.set (misP l line).toNat { misAt l line with owes := true } else l
set_option maxRecDepth 100000
set_option maxHeartbeats 4000000
attribute [local irreducible] Go.Exit.then Go.Exit.inBlock Go.Code.wp WC WO WE WQ V LoopQ FnQ Sat Star band bor IntKind.wrap WR Code.rounds WT KO
end Go.Sx

/- What files of misses do, seventh part. The program's. My own work. -/
namespace Go.Sx
open Go Go.Proofs
set_option linter.unusedVariables false
set_option linter.unusedSectionVars false
set_option linter.unusedSimpArgs false
theorem indexBy_same {α : Type} {q : α → Bool} {l : List α} {i : Nat} (hi : i < l.length) {x : α} (h : q x = q l[i]) : indexBy q (l.set i x) = indexBy q l := by
  have key : ∀ j (hj : j < l.length), ∀ hj' : j < (l.set i x).length, q (l.set i x)[j] = q l[j] := fun j hj hj' => by
    by_cases e : i = j
    · subst e; rw [List.getElem_set_self, h]
    · rw [List.getElem_set_ne e]
  by_cases hn : 0 ≤ indexBy q l
  · obtain ⟨j, hj, e, h1, h2⟩ := indexBy_nat hn
    have hj' : j < (l.set i x).length := by rw [List.length_set]; exact hj
    rw [e]
    refine indexBy_at hj' (fun k hk hlt => ?_) ?_
    · rw [List.length_set] at hk
      rw [key k hk]; exact h2 k hk hlt
    · rw [key j hj]; exact h1
  · obtain ⟨e, h1⟩ := indexBy_neg hn
    rw [e]
    refine indexBy_none fun j hj _ => ?_
    rw [List.length_set] at hj
    rw [key j hj]; exact h1 _ (List.getElem_mem hj)
def grantL (l : List Miss) (line acks : Int) : List Miss := if dataE l line acks 4 = 0 then l.set (misP l line).toNat { misAt l line with needs := acks, own := 4, words := .zero, granted := true } else l
set_option maxRecDepth 100000
set_option maxHeartbeats 4000000
attribute [local irreducible] Go.Exit.then Go.Exit.inBlock Go.Code.wp WC WO WE WQ V LoopQ FnQ Sat Star band bor IntKind.wrap WR Code.rounds WT KO
end Go.Sx

/- append of a make; cap; overlaps of slices in two blocks. My own work; names no program. -/
set_option linter.unusedVariables false
set_option linter.unusedSimpArgs false
namespace Go.Sx
open Go
section
variable {P : Program} {N : Nat} {t ty : TypeId} {x y : Operand} {env : Env} {L : List HP}

theorem v_cap {e : TypeId} {ats : List TypeId} {p : Option Addr} {n c : Nat} [hT : TU P t (.slice e)] (hx : ev env x = some (.slice p n c)) : V P N (.call ⟨.builtin .cap, [x].toArray, (t :: ats).toArray⟩) ty env L (.int .i64 (c : Int)) := by
  intro a w ha hw
  simp [execOp, resolve, invoke, builtin, ha.ev hx, Builtin.cap_, run_underlying hT.pf, goInt]

/-- append(s[:i], make(S, k)...), where there is no room. -/
theorem K_appendZ {e tn : TypeId} {g T i cap k bs : Nat} {kk : Int} {z z0 : Value} {l : List Value} {C : List Value → List HP} {pos : String} {aft : Array Edge} {d : Nat} [hT : TU P t (.slice e)] [hN : TU P tn (.int .i64)] [hZ : TZ P e 1 z bs] [hco : CO z [z0]]
    (hx : ev env x = some (.slice (some ⟨g, 0, none⟩) i cap)) (hy : ev env y = some (.int .i64 kk)) (hk : CellsAt g L T l C) (he : kk = (k : Int)) (h0 : 0 < k) (hg : cap < i + k) (hb : (i + k) * bs ≤ 140737488355328) (hl0 : i + k ≤ 9223372036854775807) (hi : i ≤ l.length) (ho : (l.take i).all one = true) (h1 : one z0 = true) (hd : Nat.blt d N = true) :
    KO P N ⟨some d, .call ⟨.builtin .append, [x, y].toArray, [t, tn].toArray⟩, ty, pos, aft, none⟩ env L (Gives env d (i + k) (fun v' => Own e 1 v' (i + k) (l.take i ++ List.replicate k z0) :: L)) := by
  subst he
  intro a w ha hw K Q next
  have hl : i + k ≤ maxLen := by simp only [maxLen]; omega
  obtain ⟨ti, hti, hpf⟩ := Option.map_eq_some_iff.1 hZ.pf
  simp only [Prod.mk.injEq] at hpf
  obtain ⟨hisz, hiz, hib⟩ := hpf
  have hzc : z.cells = #[z0] := by rw [cellsOf_eq, hco.pf]
  have hh := cellsAt_heap hk hw
  have hold : (Builtin.firstCells ti.size i (.slice (some ⟨g, 0, none⟩) i cap)).run P w.drew = .ok (l.take i).toArray w.drew := by
    rw [hisz]
    simp only [Builtin.firstCells]
    refine run_loadCells' (by rw [List.length_take]; omega) (fun j v hj => ?_)
    have : w.drew.cell? ⟨g, 0 + j, none⟩ = w.cell? ⟨g, 0 + j, none⟩ := rfl
    rw [this, cell_of_heap hh]
    rw [List.getElem?_take] at hj
    split at hj
    · simpa using hj
    · cases hj
  have hr := Lib.run_append_grow_zeros (P := P) w t tn ty e ti z .i64 .i64 hT.pf hN.pf hti hiz (some ⟨g, 0, none⟩) i cap (l.take i) hold k h0 (by omega) hg (by omega) (by rw [hib]; have : k * bs ≤ (i + k) * bs := Nat.mul_le_mul_right _ (by omega); omega) (growslice_fits (by omega) (by rw [hib]; exact hb))
  have hge := grownCap_ge w (i + k) cap e
  have hmap : ∀ (n : Nat), (Builtin.zeroCells #[z0] n).toList = List.replicate n z0 := fun n => by
    have := zeroCells_list [z0] n 1 rfl
    rw [this]
    induction n with
    | zero => rfl
    | succ n ih => rw [List.replicate_succ, List.flatten_cons, ih (zeroCells_list [z0] n 1 rfl), List.replicate_succ]; rfl
  obtain ⟨v', w', hrun, hsat⟩ : ∃ v' w', (Builtin.append_ #[t, tn] ty #[.slice (some ⟨g, 0, none⟩) i cap, .int .i64 k]).run P w = .ok v' w' ∧ Sat (Own e 1 v' (i + k) (l.take i ++ List.replicate k z0) :: L) w' := by
    refine ⟨_, _, hr, sat_new (w := w.drew) _ (fun h hc => ⟨?_, ?_, .inr ⟨_, _, _, rfl, hc, hge, grownCap_le_maxLen w (i + k) cap e hl, ?_, ?_⟩⟩) (sat_drawn hw)⟩
    · simp; omega
    · rw [List.all_append, ho]; simp [h1]
    · simp only [Array.size_append, List.size_toArray, zeros_size, hzc, List.length_take]
      simp; omega
    · simp only [Array.toList_append, hzc, hmap]
      rw [List.take_append_of_le_length (by simp; omega), List.take_of_length_le (by simp; omega)]
  unfold Oper.wp
  have ex := execBuiltin (P := P) (ρ := a.eval) (b := .append) (args := [x, y]) (ats := [t, tn].toArray) (ty := ty) (vs := [.slice (some ⟨g, 0, none⟩) i cap, .int .i64 k]) (by simp [ha.ev hx, ha.ev hy]) (w := w) (r := .ok (.value v') w') (fun cs => by
    simp [builtin, hrun])
  rw [execOp_plain, ex]
  obtain ⟨p', c', rfl⟩ := sat_own_slice hsat
  exact next _ _ _ _ ⟨p', c', rfl, rfl⟩ (ha.put hd _) hsat

theorem K_overlaps {f : Operand} {ats : Array TypeId} {fid : FuncId} {fn : Func} {tR e : TypeId} {ga oa la ca gb ob lb cb TA TB bs sz : Nat} {z : Value} {xa xb : List Value} {CA CB : List Value → List HP} {pos : String} {aft : Array Edge} {d : Nat}
    [hT : TU P t (.slice e)] [hZ : TZ P e sz z bs]
    (hf : ev env f = some (.func (.func fid) [].toArray [].toArray)) (hx : ev env x = some (.slice (some ⟨ga, oa, none⟩) la ca)) (hy : ev env y = some (.slice (some ⟨gb, ob, none⟩) lb cb)) (hfn : P.funcs[fid]? = some fn) (hname : (fn.name == "runtime.NumGoroutine") = false) (hbody : fn.body.isNone = true) (hnx : Extern.findNext fn = none) (hex : Extern.find fn = some (Extern.SlicesOverlaps.overlaps #[t, t] #[tR]))
    (ka : CellsAt ga L TA xa CA) (kb : CellsAt gb L TB xb CB) (hne : ga ≠ gb) (hb0 : xb.length ≠ 0) (hd : Nat.blt d N = true) :
    KO P N ⟨some d, .call ⟨.value f, [x, y].toArray, ats⟩, ty, pos, aft, none⟩ env L (Same ((d, .bool false) :: env) L) := by
  intro a w ha hw K Q next
  have h1 := cellsAt_heap ka hw
  have h2 := cellsAt_heap kb hw
  have hr := Lib.run_overlaps_apart (P := P) w t tR e hT.pf sz (run_sizeOf hZ) ⟨ga, oa, none⟩ ⟨gb, ob, none⟩ la ca lb cb hne TA TB xa.length xb.length (by simp [World.shape?, h1]) (by simp [World.shape?, h2]) hb0 (by simp [World.frozen?, h1]) (by simp [World.frozen?, h1])
  unfold Oper.wp
  have ex : (execOp a.eval ⟨none, .call ⟨.value f, [x, y].toArray, ats⟩, ty, "", #[], none⟩).run P w = .ok (.value (.bool false)) w := by
    simp only [execOp, resolve, Sem.run_bind, Deferred.ofValue, ha.ev hf, Sem.run_pure, Result.andThen_ok, invoke]
    rw [run_callFunc_extern hfn hname hbody hnx hex]
    simp [ha.ev hx, ha.ev hy, hr]
  rw [execOp_plain, ex]
  exact next _ _ _ _ ⟨rfl, rfl⟩ (ha.put hd _) hw

/-- copy, from a block into a block (it may be the same one) whose cells are known. -/
theorem K_copyP {e : TypeId} {ga oa na ca gb ob nb cb TA TB sz k bs : Nat} {z : Value} {l l2 l' : List Value} {CA CB : List Value → List HP} {pos : String} {aft : Array Edge} {d : Option Nat} {t2 : TypeId} [hT : TU P t (.slice e)] [hZ : TZ P e sz z bs]
    (hx : ev env x = some (.slice (some ⟨ga, oa, none⟩) na ca)) (hy : ev env y = some (.slice (some ⟨gb, ob, none⟩) nb cb)) (hka : CellsAt ga L TA l CA) (hkb : CellsAt gb L TB l2 CB) (hk : min nb na = k) (hfit : oa + k * sz ≤ l.length) (hfit2 : ob + k * sz ≤ l2.length) (ho : ((l2.drop ob).take (k * sz)).all one = true) (hd : dstOk N d = true) (hl : splice l oa ((l2.drop ob).take (k * sz)) = l') :
    KO P N ⟨d, .call ⟨.builtin .copy, [x, y].toArray, [t, t2].toArray⟩, ty, pos, aft, none⟩ env L (Same (putEnv env d (.int .i64 (k : Nat))) (CA l')) := by
  subst hl hk
  intro a w ha hw K Q next
  obtain ⟨R, k1, k2⟩ := hka.pf
  have hs := k1.sat hw
  have hh := sat_cells hs
  have hh2 := cellsAt_heap hkb hw
  have htl : ((l2.drop ob).take (min nb na * sz)).length = min nb na * sz := by rw [List.length_take, List.length_drop]; omega
  have hf : (Builtin.firstCells sz (min nb na) (.slice (some ⟨gb, ob, none⟩) nb cb)).run P w = .ok ((l2.drop ob).take (min nb na * sz)).toArray w := by
    simp only [Builtin.firstCells]
    refine run_loadCells' htl fun j v hj => ?_
    rw [cell_of_heap hh2]
    rw [List.getElem?_take] at hj
    split at hj
    · rwa [List.getElem?_drop] at hj
    · cases hj
  obtain ⟨w', r1, r2, r3, r4, r5, r6⟩ := run_storeCells (P := P) ga TA ((l2.drop ob).take (min nb na * sz)) l oa 0 w hh (by rw [htl]; omega) ho
  have hrun : (Builtin.copy_ #[t, t2] ty #[.slice (some ⟨ga, oa, none⟩) na ca, .slice (some ⟨gb, ob, none⟩) nb cb]).run P w = .ok (goInt (min nb na : Nat)) w' := by
    have hmn : Nat.min nb na = min nb na := rfl
    simp [Builtin.copy_, run_underlying hT.pf, run_sizeOf hZ, Builtin.lenOf, hmn, hf, r1]
  unfold Oper.wp
  have ex := execBuiltin (P := P) (ρ := a.eval) (b := .copy) (args := [x, y]) (ats := [t, t2].toArray) (ty := ty) (vs := [.slice (some ⟨ga, oa, none⟩) na ca, .slice (some ⟨gb, ob, none⟩) nb cb]) (by simp [ha.ev hx, ha.ev hy]) (w := w) (r := .ok (.value (goInt (min nb na : Nat))) w') (fun cs => by
    simp [builtin, hrun])
  rw [execOp_plain, ex]
  refine next _ _ _ _ ⟨rfl, rfl⟩ (ha.puts hd _) ((k2 _).sat ?_)
  exact sat_upd (b := ga) (Cells ga TA (splice l oa ((l2.drop ob).take (min nb na * sz)))) (fun h hp => ⟨_, hp.pf⟩) (fun h e => ⟨e⟩) (by simpa using r2) r3 r4 r5 r6 hs
/-- Two blocks are two. -/
theorem WO_two {g h T T' : Nat} {l l' : List Value} {all : Array Oper} {c : List Oper} {Q : Exit → Act → World → Prop} (k : g ≠ h → WO P N all c env (Cells g T l :: Cells h T' l' :: L) Q) : WO P N all c env (Cells g T l :: Cells h T' l' :: L) Q := by
  intro a w ha hw
  refine k ?_ a w ha hw
  obtain ⟨S, R, d, hp, A, B, d2, hq, hL⟩ := hw
  rw [res_res] at hq
  intro e
  subst e
  exact d g (res_c hp.pf).1 (res_c hq.pf).1.1
end
end Go.Sx

/- What files of misses do, eighth part. The program's. My own work. -/
namespace Go.Sx
open Go Go.Proofs
set_option linter.unusedVariables false
set_option linter.unusedSectionVars false
set_option linter.unusedSimpArgs false
def closeE (l : List Miss) (line : Int) : Int := if misIn l line then (if (misAt l line).owes then 0 else 7) else 5
def closeL (l : List Miss) (line : Int) : List Miss := if closeE l line = 0 then l.eraseIdx (misP l line).toNat else l
/-- One is gone: those behind it stand one place ahead. -/
theorem shift_fin {e : TypeId} {g n i cap : Nat} {xs spare : List Value} {M : List HP} (hi : i < n) (q1 : xs.length = n * 15) (q2 : xs.all one = true) (h1 : n ≤ cap) (h2 : cap ≤ maxLen) (h3 : spare.length = (cap - n) * 15) :
    Ent (Cells g e (splice (xs ++ spare) (0 + i * 15) (List.take (min (n - (i + 1)) (n - i) * 15) (List.take ((n - (i + 1)) * 15) (List.drop ((i + 1) * 15) xs)))) :: M)
      (Own e 15 (.slice (some ⟨g, 0, none⟩) (n - 1) cap) (n - 1) (xs.take (i * 15) ++ xs.drop ((i + 1) * 15)) :: M) := by
  have e1 : List.take (min (n - (i + 1)) (n - i) * 15) (List.take ((n - (i + 1)) * 15) (List.drop ((i + 1) * 15) xs)) = List.drop ((i + 1) * 15) xs := by
    rw [List.take_take, List.take_of_length_le (by rw [List.length_drop, q1]; omega)]
  have e2 : (List.drop ((i + 1) * 15) xs).length = (n - (i + 1)) * 15 := by rw [List.length_drop, q1]; omega
  rw [e1, Nat.zero_add]
  have hl := splice_length (l := xs ++ spare) (ys := List.drop ((i + 1) * 15) xs) (o := i * 15) (by rw [List.length_append, e2]; omega)
  refine own_close (cap := cap) ?_ (by omega) h2 ?_ ?_ Ent.refl
  · rw [hl, List.length_append, q1, h3]; omega
  · have := take_splice (l := xs ++ spare) (ys := List.drop ((i + 1) * 15) xs) (o := i * 15) (by rw [List.length_append]; omega)
    rw [e2, List.take_append_of_le_length (by omega)] at this
    rw [← this]; congr 1; omega
  · rw [List.all_append, List.all_eq_true.2 fun u hu => List.all_eq_true.1 q2 u (List.mem_of_mem_take hu), List.all_eq_true.2 fun u hu => List.all_eq_true.1 q2 u (List.mem_of_mem_drop hu)]
    rfl
set_option maxRecDepth 100000
set_option maxHeartbeats 4000000
attribute [local irreducible] Go.Exit.then Go.Exit.inBlock Go.Code.wp WC WO WE WQ V LoopQ FnQ Sat Star band bor IntKind.wrap WR Code.rounds WT KO
end Go.Sx

/- What write-back buffers do, the program's. My own work. -/
namespace Go.Sx
open Go Go.Proofs
set_option linter.unusedVariables false
set_option linter.unusedSectionVars false
set_option maxRecDepth 100000
set_option maxHeartbeats 4000000
attribute [local irreducible] Go.Exit.then Go.Exit.inBlock Go.Code.wp WC WO WE WQ V LoopQ FnQ Sat Star band bor IntKind.wrap WR Code.rounds WT KO


/-! ## What they do, told of lists -/
def wbPlace (l : List WbE) (line : Int) : Int := indexBy (fun e => decide (e.line = line)) l
def wbAt (l : List WbE) (line : Int) : WbE := l.getD (wbPlace l line).toNat ⟨0, .zero, false⟩
def wbIn (l : List WbE) (line : Int) : Bool := decide (0 ≤ wbPlace l line)
def wbPutE (room : Int) (l : List WbE) (line : Int) : Int := if wbIn l line then 6 else if (l.length : Int) = room then 4 else 0
def wbPutL (room : Int) (l : List WbE) (line : Int) (w : Words) : List WbE := if wbIn l line then l else if (l.length : Int) = room then l else l ++ [⟨line, w, true⟩]
def wbTellE (l : List WbE) (line : Int) : Int := if wbIn l line then (if (wbAt l line).live then 0 else 7) else 5
def wbTellW (l : List WbE) (line : Int) : Words := if wbIn l line && (wbAt l line).live then (wbAt l line).words else .zero
def wbGiveL (l : List WbE) (line : Int) : List WbE := if wbIn l line && (wbAt l line).live then l.set (wbPlace l line).toNat { wbAt l line with live := false } else l
def wbDropE (l : List WbE) (line : Int) : Int := if wbIn l line then 0 else 5
def wbDropL (l : List WbE) (line : Int) : List WbE := if wbIn l line then l.eraseIdx (wbPlace l line).toNat else l
def wbGet (l : List WbE) (line : Int) : WbE := if wbIn l line then wbAt l line else ⟨0, .zero, false⟩

theorem wbIn_t {l : List WbE} {line : Int} (h : wbIn l line = true) : ∃ i : Nat, ∃ hi : i < l.length, wbPlace l line = i ∧ wbAt l line = l[i] ∧ l[i].line = line := by
  obtain ⟨i, hi, h1, h2, _⟩ := indexBy_nat (of_decide_eq_true h)
  refine ⟨i, hi, h1, ?_, by simpa using h2⟩
  unfold wbAt wbPlace
  rw [h1]; simp [hi]
theorem wbIn_f {l : List WbE} {line : Int} (h : wbIn l line = false) : wbPlace l line = -1 := (indexBy_neg (of_decide_eq_false h)).1

abbrev Wb (b : Nat) (room : Int) (l : List WbE) : HP := RL 235 149 10 bc b room l

theorem wb_New {F : List HP} {room : Int} (h : 1 ≤ room ∧ room ≤ 8) : FnF Try.prog 87 [.int .i64 room] [] F (fun r L' => ∃ b, r = .tuple [.pointer (some ⟨b, 0, none⟩), .int .i64 0].toArray ∧ L' = [Wb b room []]) := by
  refine FnF.mk' Try.func87 rfl rfl Try.ntmps87 rfl ?_
  repeat (first | rintro _ _ ⟨rfl, rfl⟩ | refine exq fun _ => ?_ | intro _ | refine go ?_ | refine drq ?_)
  (apply WE_ret rfl rfl (by (repeat (first | exact ResOk.nil | (apply ResOk.tmp; rfl) | (apply resOk_cell; rfl; exact inferInstance; rfl; rfl)))))
  · exact ⟨_, rfl, rfl⟩
  · exact RL_in (l := []) (Ent.cons (own_empty Ent.refl)) rfl rfl (by simp; omega)
theorem wb_New_no {F : List HP} {room : Int} (h : ¬ (1 ≤ room ∧ room ≤ 8)) : FnF Try.prog 87 [.int .i64 room] [] F (fun r L' => r = .tuple [.pointer none, .int .i64 1].toArray ∧ L' = []) := by
  refine FnF.mk' Try.func87 rfl rfl Try.ntmps87 rfl ?_
  repeat' (first | rintro _ _ ⟨rfl, rfl⟩ | refine exq fun _ => ?_ | intro _ | refine go ?_ | refine drq ?_ | refine spl ?_ ?_ | fail)
  all_goals first | omega | exact fin0

theorem wb_List {F : List HP} {b : Nat} {room : Int} {l : List WbE} : FnF Try.prog 93 [.pointer (some ⟨b, 0, none⟩)] [Wb b room l] F (fun r L' => ∃ p c, r = .slice p l.length c ∧ L' = [Own 149 10 (.slice p l.length c) l.length (flat bc l), Wb b room l]) := by
  refine FnF.mk' Try.func93 rfl rfl Try.ntmps93 rfl ?_
  refine RL_open fun p c hl => ?_
  repeat (first | rintro _ _ ⟨rfl, rfl⟩ | refine exq fun _ => ?_ | intro _ | refine go ?_ | refine drq ?_ | refine cal @sl_Clone_wbe ?_)
  (apply WE_ret rfl rfl (by (repeat (first | exact ResOk.nil | (apply ResOk.tmp; rfl) | (apply resOk_cell; rfl; exact inferInstance; rfl; rfl)))))
  · exact ⟨_, _, rfl, rfl⟩
  · refine Ent.cons ?_
    (apply RL_in; (focus (exact entu0)); all_goals (first | rfl | (with_reducible assumption) | (simp; done) | (simp; omega) | omega | (constructor <;> (simp) <;> omega)))
end Go.Sx

/- Strings, interface values, and calls through these. My own work; names no program. -/
set_option linter.unusedVariables false
set_option linter.unusedSimpArgs false
namespace Go.Sx
open Go

/-! ## Bytes -/
/-- The string of these bytes. -/
def bstr (ns : List Int) : ByteArray := ns.foldl (fun r n => r.push (UInt8.ofNat n.toNat)) ByteArray.empty
/-- A string's byte. -/
def bat (s : ByteArray) (n : Nat) : Int := match s.data.toList[n]? with | some b => (b.toNat : Int) | none => 0
abbrev byc (n : Int) : List Value := [.int .u8 n]
theorem bfold_data : ∀ (ns : List Int) (r : ByteArray), (ns.foldl (fun r n => r.push (UInt8.ofNat n.toNat)) r).data.toList = r.data.toList ++ ns.map fun n => UInt8.ofNat n.toNat
  | [], r => by simp
  | n :: ns, r => by
    rw [List.foldl_cons, bfold_data ns]
    simp [ByteArray.push]
theorem bstr_data (ns : List Int) : (bstr ns).data.toList = ns.map fun n => UInt8.ofNat n.toNat := by
  unfold bstr
  rw [bfold_data]
  rfl
theorem bstr_size (ns : List Int) : (bstr ns).size = ns.length := by
  have := congrArg List.length (bstr_data ns)
  simpa using this
theorem bat_lt (s : ByteArray) (n : Nat) : 0 ≤ bat s n ∧ bat s n < 256 := by
  unfold bat
  split
  · rename_i b _
    have := b.toNat_lt
    omega
  · omega
theorem bat_bstr {ns : List Int} (h : ∀ n ∈ ns, 0 ≤ n ∧ n < 256) (i : Nat) (hi : i < ns.length) : bat (bstr ns) i = ns[i] := by
  unfold bat
  rw [bstr_data, List.getElem?_map, List.getElem?_eq_getElem hi]
  have := h _ (List.getElem_mem hi)
  simp only [Option.map_some]
  have e : (UInt8.ofNat ns[i].toNat).toNat = ns[i].toNat := by
    rw [UInt8.toNat_ofNat']
    exact Nat.mod_eq_of_lt (by omega)
  rw [e]; omega
theorem bytes_ext {a b : ByteArray} (h : a.size = b.size) (h2 : ∀ i, i < a.size → bat a i = bat b i) : a = b := by
  have e : a.data.toList = b.data.toList := by
    refine List.ext_getElem (by simpa using h) fun i h1 h3 => ?_
    have := h2 i (by simpa using h1)
    unfold bat at this
    rw [List.getElem?_eq_getElem h1, List.getElem?_eq_getElem h3] at this
    have this : (a.data.toList[i].toNat : Int) = b.data.toList[i].toNat := this
    exact UInt8.toNat_inj.1 (by omega)
  cases a; cases b
  simp only [Array.toList_inj] at e
  simp [e]
theorem bat_extract {s : ByteArray} {l i : Nat} (h : l ≤ s.size) : bat (s.extract l s.size) i = bat s (l + i) := by
  unfold bat
  have : (s.extract l s.size).data.toList = s.data.toList.drop l := by
    rw [ByteArray.data_extract, Array.toList_extract]
    simp only [List.extract_eq_take_drop]
    exact List.take_of_length_le (by simp)
  rw [this, List.getElem?_drop]
theorem size_extract {s : ByteArray} {l : Nat} (h : l ≤ s.size) : (s.extract l s.size).size = s.size - l := by
  rw [ByteArray.size_extract]; simp
theorem extract_extract {s : ByteArray} {l m : Nat} (h : l + m ≤ s.size) : (s.extract l s.size).extract m (s.size - l) = s.extract (l + m) s.size := by
  have e1 := size_extract (s := s) (l := l) (by omega)
  refine bytes_ext ?_ fun i hi => ?_
  · rw [← e1, size_extract (by rw [e1]; omega), size_extract h, e1]; omega
  · rw [← e1, bat_extract (by rw [e1]; omega), bat_extract (by omega), bat_extract h]; congr 1; omega
theorem extract_zero (s : ByteArray) : s.extract 0 s.size = s := by
  refine bytes_ext (by rw [size_extract (by omega)]; rfl) fun i hi => ?_
  rw [bat_extract (by omega), Nat.zero_add]

/-! ## Steps -/
section
variable {P : Program} {N : Nat} {t ty xt yt : TypeId} {x y : Operand} {env : Env} {L : List HP}
theorem v_index_string {k : IntKind} {i : Int} {s : ByteArray} [hT : TU P t .string] (hx : ev env x = some (.string s)) (hy : ev env y = some (.int k i)) (h0 : 0 ≤ i) (h1 : i < (s.size : Int)) :
    V P N (.index t x y) ty env L (.int .u8 (bat s i.toNat)) := by
  intro a w ha _
  have h2 : i.toNat < s.size := by omega
  have h3 : s[i.toNat]? = some s[i.toNat] := getElem?_pos s _ h2
  have h4 : bat s i.toNat = ((s[i.toNat]).toNat : Int) := by
    unfold bat
    rw [Array.getElem?_toList, Array.getElem?_eq_getElem (by simpa using h2)]
    rfl
  simp only [execOp, ha.ev hx, ha.ev hy, Instr.index, asIntOf, run_underlying hT.pf, Sem.run_bind, Sem.run_pure, Result.andThen_ok, if_pos h0, h3, h4]
theorem v_eq_string {a b : ByteArray} (hx : ev env x = some (.string a)) (hy : ev env y = some (.string b)) : V P N (.binOp .eql xt x y yt) ty env L (.bool (decide (a = b))) := by
  intro f w ha _
  have e : (eqGuard .eql xt x y (.string a) (.string b)).run P w = .ok () w := by unfold eqGuard; simp
  have hb : (a.toList == b.toList) = decide (a = b) := by
    rw [ByteArray.toList_eq, ByteArray.toList_eq, Bool.eq_iff_iff, beq_iff_eq, decide_eq_true_iff]
    constructor
    · intro h; cases a; cases b; simp only [Array.toList_inj] at h; simp [h]
    · intro h; rw [h]
  simp [execOp, ha.ev hx, ha.ev hy, e, binOp, Op.stringOp, hb]
theorem v_ne_string {a b : ByteArray} (hx : ev env x = some (.string a)) (hy : ev env y = some (.string b)) : V P N (.binOp .neq xt x y yt) ty env L (.bool (decide (a ≠ b))) := by
  intro f w ha _
  have e : (eqGuard .neq xt x y (.string a) (.string b)).run P w = .ok () w := by unfold eqGuard; simp
  have hb : (a.toList == b.toList) = decide (a = b) := by
    rw [ByteArray.toList_eq, ByteArray.toList_eq, Bool.eq_iff_iff, beq_iff_eq, decide_eq_true_iff]
    constructor
    · intro h; cases a; cases b; simp only [Array.toList_inj] at h; simp [h]
    · intro h; rw [h]
  simp [execOp, ha.ev hx, ha.ev hy, e, binOp, Op.stringOp, hb]
theorem v_slice_string {lo : Option Operand} {l : Nat} {s : ByteArray} [hT : TU P t .string] (hx : ev env x = some (.string s)) (hl : Bnd env lo 0 l) (h : l ≤ s.size) :
    V P N (.slice t x lo none none) ty env L (.string (s.extract l s.size)) := by
  intro a w ha hw
  have e1 : (Instr.sliceAt t (.string s) (lo.map a.eval) none none).run P w = .ok (.string (s.extract l s.size)) w := by
    cases hl with
    | none => simp [Instr.sliceAt, Instr.slice, Instr.sliceBounds, run_underlying hT.pf]
    | some q q0 => simp [Instr.sliceAt, Instr.slice, Instr.sliceBounds, run_underlying hT.pf, ha.ev q, run_bound q0 h]
  simp [execOp, ha.ev hx, e1]
theorem v_bytes {src dst e : TypeId} {v : Value} {n : Nat} {xs : List Value} {ns : List Int} [hs : TU P src (.slice e)] [he : TU P e (.int .u8)] [hd : TU P dst .string] (hx : ev env x = some v) (hr : RdL L 1 v n xs) (hn : xs = flat byc ns) :
    V P N (.convert src dst x) ty env L (.string (bstr ns)) := by
  intro a w ha hw
  have hfl : flat byc ns = ns.map (Value.int .u8) := by
    clear hn
    induction ns with
    | nil => rfl
    | cons b r ih => rw [List.map_cons, ← ih]; rfl
  have hlen := hr.len w hw
  have e1 : (convert src dst v).run P w = .ok (.string (bstr ns)) w := by
    rcases hr.pf w hw with ⟨p, c, rfl, rfl⟩ | ⟨b, o, c, rfl, hc⟩
    · rw [run_convert_bytes_string w src dst e _ _ _ hs.pf he.pf hd.pf]
      have hnil : ns = [] := by rw [hn, hfl] at hlen; exact List.eq_nil_of_length_eq_zero (by simpa using hlen)
      subst hnil
      cases p with
      | none => simp [Conv.bytesToString, bstr]
      | some p =>
        rw [run_bytesToString w p 0 c [] (by simp [loadCells, loadCellsFrom])]
        rfl
    · rw [run_convert_bytes_string w src dst e _ _ _ hs.pf he.pf hd.pf]
      rw [run_bytesToString w _ n c ns ?_]
      · rfl
      · rw [← hfl, ← hn]
        exact run_loadCells' (by omega) hc
  simp [execOp, ha.ev hx, e1]

/-! ## Interface values -/
def isIfaceD : TypeDesc → Bool
  | .interface _ => true
  | _ => false
theorem v_iface {d : TypeDesc} {u : Value} [hT : TU P t d] (hx : ev env x = some u) (hd : isIfaceD d = false) : V P N (.makeInterface t x) ty env L (.iface t u) := by
  intro a w ha _
  have e1 : (Instr.makeInterface t u).run P w = .ok (.iface t u) w := by
    cases d <;> first | (cases hd; done) | simp [Instr.makeInterface, run_underlying hT.pf]
  simp [execOp, ha.ev hx, e1]
/-- Whether a type's methods are those that another one wants. -/
def missL (want : Array (String × TypeId)) (got : Array Method) : List (String × TypeId) := want.toList.filter fun p => !got.any fun m => m.name == p.1 && m.sig == p.2
theorem miss_none {want : Array (String × TypeId)} {got : Array Method} (h : missL want got = []) : Instr.missingMethod want got = none := by
  unfold Instr.missingMethod
  unfold missL at h
  simp only [h, List.map_nil, List.partition_eq_filter_filter, List.filter_nil]
  rfl
theorem least_some {l : List String} (h : l ≠ []) : ∃ m, Instr.least l = some m := by
  cases l with
  | nil => exact absurd rfl h
  | cons a r => exact ⟨_, rfl⟩
theorem miss_some {want : Array (String × TypeId)} {got : Array Method} (h : missL want got ≠ []) : ∃ m, Instr.missingMethod want got = some m := by
  unfold Instr.missingMethod
  unfold missL at h
  simp only [List.partition_eq_filter_filter]
  generalize List.filter (fun p => !got.any fun m => m.name == p.1 && m.sig == p.2) want.toList = l at h
  by_cases h1 : List.filter (not ∘ fun x : String => x.contains '.') (List.map (fun x => x.1) l) = []
  · rw [h1]
    have h2 : List.filter (fun x : String => x.contains '.') (List.map (fun x => x.1) l) ≠ [] := fun h2 => by
      cases l with
      | nil => exact h rfl
      | cons a r =>
        have k1 := List.filter_eq_nil_iff.1 h1 a.1 (by simp)
        have k2 := List.filter_eq_nil_iff.1 h2 a.1 (by simp)
        simp only [Function.comp] at k1
        revert k1 k2
        generalize (a.1.contains '.') = b
        cases b <;> simp
    obtain ⟨m, hm⟩ := least_some (l := List.map (fun id => (String.splitOn id ".").getLastD id) (List.filter (fun x : String => x.contains '.') (List.map (fun x => x.1) l))) (by simpa using h2)
    exact ⟨m, by rw [hm]; rfl⟩
  · obtain ⟨m, hm⟩ := least_some h1
    exact ⟨m, by rw [hm]; rfl⟩
def hasO (P : Program) (t at' : TypeId) : Option Bool := match P.underlying at', P.info? t with
  | some (.interface want), some i => some (missL want i.methods).isEmpty
  | _, _ => none
class Has (P : Program) (t at' : TypeId) (b : outParam Bool) : Prop where
  pf : hasO P t at' = some b
theorem has_of {t at' : TypeId} {b : Bool} (h : hasO P t at' = some b) : ∃ want i, P.underlying at' = some (.interface want) ∧ P.info? t = some i ∧ (missL want i.methods).isEmpty = b := by
  unfold hasO at h
  split at h
  · rename_i want i h1 h2
    exact ⟨want, i, h1, h2, by simpa using h⟩
  · cases h
theorem v_assert_t {u : Value} {at' : TypeId} (hx : ev env x = some (.iface t u)) (h : Has P t at' true) : V P N (.typeAssert x xt at' true) ty env L (.tuple [.iface t u, .bool true].toArray) := by
  obtain ⟨want, i, h1, h2, h3⟩ := has_of h.pf
  intro a w ha _
  have h4 : Instr.missingMethod want i.methods = none := miss_none (by simpa using h3)
  simp [execOp, ha.ev hx, Instr.typeAssert, run_underlying h1, typeInfo, h2, h4]
theorem v_assert_f {u z : Value} {at' : TypeId} {n bs : Nat} [hZ : TZ P at' n z bs] (hx : ev env x = some (.iface t u)) (h : Has P t at' false) : V P N (.typeAssert x xt at' true) ty env L (.tuple [z, .bool false].toArray) := by
  obtain ⟨want, i, h1, h2, h3⟩ := has_of h.pf
  intro a w ha _
  obtain ⟨m, e⟩ := miss_some (want := want) (got := i.methods) (fun h => by rw [h] at h3; cases h3)
  simp [execOp, ha.ev hx, Instr.typeAssert, run_underlying h1, typeInfo, h2, e, run_zeroValue hZ]

/-- What a value's method is. -/
class Meth (P : Program) (t : TypeId) (v : Value) (name : String) (k : outParam FuncId) (r : outParam Value) : Prop where
  pf : ∀ w, (method (P.types.size + Made.depth) t v name).run P w = .ok (k, r) w
theorem execInvoke {ρ : Operand → Value} {f : Operand} {args : List Operand} {ats : Array TypeId} {k : FuncId} {tv : TypeId} {v r : Value} {name : String} {vs : List Value} (hf : ρ f = .iface tv v) (hm : Meth P tv v name k r) (ha : r :: args.map ρ = vs)
    (he : Enters P k) (w : World) : (execOp ρ ⟨none, .call ⟨.invoke f name, args.toArray, ats⟩, ty, "", #[], none⟩).run P w = .ok (.enter k vs.toArray) w := by
  have e1 : (program).run P w = .ok P w := by simp
  simp only [execOp, resolve, hf, Sem.run_bind, Sem.run_pure, Result.andThen_ok, invoke]
  have e2 : ((#[Value.iface tv v] ++ args.toArray.map ρ)[0]? : Option Value) = some (.iface tv v) := by simp
  simp only [e2, callMethod, Sem.run_bind, e1, Result.andThen_ok, hm.pf]
  rw [he]
  congr 2
  apply Array.ext'
  simp only [← ha, Array.toList_append, Array.toList_extract, List.map_toArray]
  simp [List.extract_eq_take_drop]
  exact List.take_of_length_le (by simp)
theorem K_callI {recv : Operand} {args : List Operand} {ats : Array TypeId} {k : FuncId} {tv : TypeId} {v r : Value} {name : String} {avs vs : List Value} {pre F : List HP} {post : Value → List HP → Prop}
    {pos : String} {aft : Array Edge} {d : Option Nat}
    (hf : ev env recv = some (.iface tv v)) (hm : Meth P tv v name k r) (ha : evs env args = some avs) (hv : r :: avs = vs) (hd : dstOk N d = true) (C : FnF P k vs pre F post) (hE : PickL pre L F) :
    KO P N ⟨d, .call ⟨.invoke recv name, args.toArray, ats⟩, ty, pos, aft, none⟩ env L (Called env d F post) := by
  intro a w hA hw K Q next
  unfold Oper.wp
  rw [execOp_plain, execInvoke (vs := vs) (hA.ev hf) hm (by rw [hA.evs ha]; exact hv) C.enters w]
  refine (C.runs w (hE.pf.sat hw)).mono fun e w' ⟨v, L', he, hp, hs⟩ => ?_
  subst he
  exact next _ _ _ w' ⟨v, L', hp, rfl, rfl⟩ (hA.puts hd v) hs
end
set_option maxRecDepth 100000
/-- A step with strings or interface values. -/
theorem str {Q P : Prop} (k : Q) (h : Hid Q → P := by
  intro k
  (first | (apply WO_v; (first | (apply v_index_string; rfl; rfl; omega; omega) | (apply v_eq_string; rfl; rfl) | (apply v_ne_string; rfl; rfl) | (apply v_slice_string; rfl; (first | exact Bnd.none | (apply bnd_nat; rfl) | (apply Bnd.some; rfl; omega)); omega) | (apply v_bytes; rfl; exact inferInstance; (first | rfl | (with_reducible assumption))) | (apply v_iface; rfl; rfl) | (apply v_assert_t; rfl; exact inferInstance) | (apply v_assert_f; rfl; exact inferInstance)); rfl) | (apply WT_p; rfl; (first | exact GIn.none | (apply gin_t; rfl; rfl; (first | (with_reducible rfl) | exact congrArg Value.bool (by with_reducible assumption) | exact congrArg Value.bool (dec_t (by first | (with_reducible assumption) | (with_reducible rfl) | (with_reducible exact nn_eq) | (with_reducible exact nn_ne) | omega | decide | exact rfl)))) | (apply gin_f; rfl; rfl; (first | (with_reducible rfl) | exact congrArg Value.bool (by with_reducible assumption) | exact congrArg Value.bool (dec_f (by first | (with_reducible assumption) | (with_reducible rfl) | (with_reducible exact nn_eq) | (with_reducible exact nn_ne) | omega | decide | exact rfl))))); (first | (apply v_index_string; rfl; rfl; omega; omega) | (apply v_eq_string; rfl; rfl) | (apply v_ne_string; rfl; rfl) | (apply v_slice_string; rfl; (first | exact Bnd.none | (apply bnd_nat; rfl) | (apply Bnd.some; rfl; omega)); omega) | (apply v_bytes; rfl; exact inferInstance; (first | rfl | (with_reducible assumption))) | (apply v_iface; rfl; rfl) | (apply v_assert_t; rfl; exact inferInstance) | (apply v_assert_f; rfl; exact inferInstance)); rfl) | (apply WT_r; rfl; (first | exact GIn.none | (apply gin_t; rfl; rfl; (first | (with_reducible rfl) | exact congrArg Value.bool (by with_reducible assumption) | exact congrArg Value.bool (dec_t (by first | (with_reducible assumption) | (with_reducible rfl) | (with_reducible exact nn_eq) | (with_reducible exact nn_ne) | omega | decide | exact rfl)))) | (apply gin_f; rfl; rfl; (first | (with_reducible rfl) | exact congrArg Value.bool (by with_reducible assumption) | exact congrArg Value.bool (dec_f (by first | (with_reducible assumption) | (with_reducible rfl) | (with_reducible exact nn_eq) | (with_reducible exact nn_ne) | omega | decide | exact rfl))))); (first | (apply v_index_string; rfl; rfl; omega; omega) | (apply v_eq_string; rfl; rfl) | (apply v_ne_string; rfl; rfl) | (apply v_slice_string; rfl; (first | exact Bnd.none | (apply bnd_nat; rfl) | (apply Bnd.some; rfl; omega)); omega) | (apply v_bytes; rfl; exact inferInstance; (first | rfl | (with_reducible assumption))) | (apply v_iface; rfl; rfl) | (apply v_assert_t; rfl; exact inferInstance) | (apply v_assert_f; rfl; exact inferInstance)); rfl) | (apply WT_v; rfl; (first | exact GIn.none | (apply gin_t; rfl; rfl; (first | (with_reducible rfl) | exact congrArg Value.bool (by with_reducible assumption) | exact congrArg Value.bool (dec_t (by first | (with_reducible assumption) | (with_reducible rfl) | (with_reducible exact nn_eq) | (with_reducible exact nn_ne) | omega | decide | exact rfl)))) | (apply gin_f; rfl; rfl; (first | (with_reducible rfl) | exact congrArg Value.bool (by with_reducible assumption) | exact congrArg Value.bool (dec_f (by first | (with_reducible assumption) | (with_reducible rfl) | (with_reducible exact nn_eq) | (with_reducible exact nn_ne) | omega | decide | exact rfl))))); (first | (apply v_index_string; rfl; rfl; omega; omega) | (apply v_eq_string; rfl; rfl) | (apply v_ne_string; rfl; rfl) | (apply v_slice_string; rfl; (first | exact Bnd.none | (apply bnd_nat; rfl) | (apply Bnd.some; rfl; omega)); omega) | (apply v_bytes; rfl; exact inferInstance; (first | rfl | (with_reducible assumption))) | (apply v_iface; rfl; rfl) | (apply v_assert_t; rfl; exact inferInstance) | (apply v_assert_f; rfl; exact inferInstance)); rfl) | (apply WQ_op; (first | (apply v_index_string; rfl; rfl; omega; omega) | (apply v_eq_string; rfl; rfl) | (apply v_ne_string; rfl; rfl) | (apply v_slice_string; rfl; (first | exact Bnd.none | (apply bnd_nat; rfl) | (apply Bnd.some; rfl; omega)); omega) | (apply v_bytes; rfl; exact inferInstance; (first | rfl | (with_reducible assumption))) | (apply v_iface; rfl; rfl) | (apply v_assert_t; rfl; exact inferInstance) | (apply v_assert_f; rfl; exact inferInstance)); rfl))
  exact k.out) : P := h ⟨k⟩
/-- A call through an interface value, by its contract. -/
theorem cali {C Q P : Prop} (c : C) (k : Q) (h : C → Hid Q → P := by
  intro c k
  first
  | (apply WO_k; rfl; (focus (apply K_callI; rfl; exact inferInstance; rfl; rfl; rfl; apply c; (all_goals (try (focus ((repeat (first | (with_reducible exact pl_nil) | (apply pl_cons; focus (repeat (first | (with_reducible exact pk_here) | (apply pk_there)))))); done)))); (all_goals (focus (first | (with_reducible assumption) | exact inferInstance | exact rd_lit inferInstance rfl rfl | (with_reducible rfl) | omega | (unfold I64; omega) | (constructor <;> omega) | decide))))); refine called_some ?_; exact k.out)
  | (apply WT_k; rfl; (first | exact GIn.none | (apply gin_t; rfl; rfl; (first | (with_reducible rfl) | exact congrArg Value.bool (by with_reducible assumption) | exact congrArg Value.bool (dec_t (by first | (with_reducible assumption) | (with_reducible rfl) | (with_reducible exact nn_eq) | (with_reducible exact nn_ne) | omega | decide | exact rfl)))) | (apply gin_f; rfl; rfl; (first | (with_reducible rfl) | exact congrArg Value.bool (by with_reducible assumption) | exact congrArg Value.bool (dec_f (by first | (with_reducible assumption) | (with_reducible rfl) | (with_reducible exact nn_eq) | (with_reducible exact nn_ne) | omega | decide | exact rfl))))); (focus (apply K_callI; rfl; exact inferInstance; rfl; rfl; rfl; apply c; (all_goals (try (focus ((repeat (first | (with_reducible exact pl_nil) | (apply pl_cons; focus (repeat (first | (with_reducible exact pk_here) | (apply pk_there)))))); done)))); (all_goals (focus (first | (with_reducible assumption) | exact inferInstance | exact rd_lit inferInstance rfl rfl | (with_reducible rfl) | omega | (unfold I64; omega) | (constructor <;> omega) | decide))))); refine called_some ?_; exact k.out)) : P := h c ⟨k⟩
end Go.Sx
