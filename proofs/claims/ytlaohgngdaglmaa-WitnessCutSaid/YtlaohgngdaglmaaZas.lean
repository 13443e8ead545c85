/- Wi2, Mem12: several of my texts as one. My own work. -/
import Derived.Test.YtlaohgngdaglmaaZar
import Derived.Test.YtlaohgngdaglmaaZaf
/- What witnesses do: a trace is told fine, or where it isn't. The program's. My own work. -/
namespace Go.Sx
open Go Go.Proofs
set_option linter.unusedVariables false
set_option linter.unusedSectionVars false
set_option linter.unusedSimpArgs false
/-- The memory behind a trace. -/
def trMs (c : Cfg) (l : List Com) : List Int := l.foldl (fun ms x => memDoL ms x.op) (List.replicate (c.words * c.lines).toNat 0)
def valV (c : Cfg) (l : List Com) (addr : Int) : Int := if checkB c then wordAt (trMs c l) addr else 0
theorem trMs_take {c : Cfg} {l : List Com} {i : Nat} (hi : i < l.length) : trMs c (l.take (i + 1)) = memDoL (trMs c (l.take i)) l[i].op := by
  unfold trMs
  rw [List.take_add_one, List.getElem?_eq_getElem hi, Option.toList_some, List.foldl_append]
  rfl
theorem trMs_len (c : Cfg) (l : List Com) : (trMs c l).length = (c.words * c.lines).toNat := by
  have : ∀ (l : List Com) (ms : List Int), (l.foldl (fun ms x => memDoL ms x.op) ms).length = ms.length := by
    intro l
    induction l with
    | nil => intro ms; rfl
    | cons a r ih => intro ms; rw [List.foldl_cons, ih, memDoL_len]
  unfold trMs; rw [this, List.length_replicate]
/-- How many commits of a core are ahead. -/
def cntC (l : List Com) (i : Nat) (k : Int) : Nat := (l.take i).countP fun y => decide (y.core = k)
def goodC (c : Cfg) (ps : List (List Op3)) (l : List Com) (i : Nat) : Bool := match l[i]? with
  | none => false
  | some x => decide (0 ≤ x.core ∧ x.core < c.cores) && decide (x.pos = cntC l i x.core) && decide (x.pos < ((ps.getD x.core.toNat []).length : Int)) && decide (x.op = (ps.getD x.core.toNat []).getD x.pos.toNat .zero)
      && decide (memDoE (trMs c (l.take i)) x.op = 0) && decide (memDoV (trMs c (l.take i)) x.op = x.res)
def chkN (c : Cfg) (ps : List (List Op3)) (l : List Com) : Nat := (List.range l.length).findIdx fun i => !goodC c ps l i
def chkOk (c : Cfg) (ps : List (List Op3)) : Bool := checkB c && decide ((ps.length : Int) = c.cores)
def chkV (c : Cfg) (ps : List (List Op3)) (l : List Com) : Int := if chkOk c ps then (chkN c ps l : Int) else 0
def chkE (c : Cfg) (ps : List (List Op3)) (l : List Com) : Int := if chkOk c ps then (if chkN c ps l = l.length then 0 else 7) else 1
theorem chkN_at {c : Cfg} {ps : List (List Op3)} {l : List Com} {i : Nat} (hi : i < l.length) (h : ∀ j, j < i → goodC c ps l j = true) (h2 : goodC c ps l i = false) : chkN c ps l = i := by
  unfold chkN
  rw [List.findIdx_eq (by simpa using hi)]
  exact ⟨by simpa using h2, fun j hj => by simpa using h j hj⟩
theorem chkN_all {c : Cfg} {ps : List (List Op3)} {l : List Com} (h : ∀ j, j < l.length → goodC c ps l j = true) : chkN c ps l = l.length := by
  unfold chkN
  rw [List.findIdx_eq_length.2, List.length_range]
  intro x hx
  have := h x (List.mem_range.1 hx)
  simp [this]
theorem cntC_succ {l : List Com} {i : Nat} (hi : i < l.length) (k : Int) : cntC l (i + 1) k = cntC l i k + if l[i].core = k then 1 else 0 := by
  unfold cntC
  rw [List.take_add_one, List.getElem?_eq_getElem hi, Option.toList_some, List.countP_append]
  simp [List.countP_cons]
theorem cntC_le (l : List Com) (i : Nat) (k : Int) : cntC l i k ≤ i := by
  unfold cntC
  exact Nat.le_trans List.countP_le_length (by rw [List.length_take]; omega)
def atC (n : Nat) (l : List Com) (i : Nat) : List Int := (List.range n).map fun (k : Nat) => (cntC l i (k : Int) : Int)
theorem atC_zero (n : Nat) (l : List Com) : atC n l 0 = List.replicate n 0 := by
  unfold atC
  apply List.ext_getElem (by simp)
  intro j h1 h2
  simp [cntC]
theorem atC_succ {n : Nat} {l : List Com} {i k : Nat} (hi : i < l.length) (hk : k < n) (h : l[i].core = k) : atC n l (i + 1) = (atC n l i).set k ((cntC l i (k : Int) : Int) + 1) := by
  unfold atC
  apply List.ext_getElem (by simp)
  intro j h1 h2
  rw [List.getElem_set]
  simp only [List.getElem_map, List.getElem_range]
  rw [cntC_succ hi]
  by_cases e : k = j
  · subst e; rw [if_pos rfl, if_pos h]; simp
  · rw [if_neg e, if_neg (by rw [h]; omega)]; simp
set_option maxRecDepth 100000
set_option maxHeartbeats 4000000
attribute [local irreducible] Go.Exit.then Go.Exit.inBlock Go.Code.wp WC WO WE WQ V LoopQ FnQ Sat Star band bor IntKind.wrap WR Code.rounds WT KO
theorem wi_Value {F : List HP} {c : Cfg} {l : List Com} {v : Value} {addr : Int} (hc : c.wf) (k : RdL F 6 v l.length (flat cmc l)) (hl : l.length ≤ 1099511627776) : FnF Try.prog 12 [c.val, v, .int .i64 addr] [] F (fun r L' => r = .int .i64 (valV c l addr) ∧ L' = []) := by
  cases hck : checkB c with
  | false =>
    have hN := fun F => mem_New_no (F := F) hc hck
    refine FnF.mk' Try.func12 rfl rfl Try.ntmps12 rfl ?_
    repeat (first | rintro _ _ ⟨rfl, rfl⟩ | refine exq fun _ => ?_ | intro _ | refine go ?_ | refine drq ?_ | refine cal @hN ?_)
    (apply WE_ret rfl rfl (by (repeat (first | exact ResOk.nil | (apply ResOk.tmp; rfl) | (apply resOk_cell; rfl; exact inferInstance; rfl; rfl)))); (first | exact ⟨rfl, rfl⟩ | exact ⟨congrArg Value.bool (by decide), rfl⟩ | exact ⟨_, rfl, rfl⟩ | exact ⟨_, _, rfl, rfl⟩ | exact ⟨by first | (simp [valV, hck]; done) | (simp [valV, hck] <;> omega), rfl⟩); (repeat (first | exact Ent.refl | exact Ent.nil | apply Ent.pick | apply Ent.drop)))
  | true =>
    have hN := fun F => mem_New (F := F) hc hck
    refine FnF.mk' Try.func12 rfl rfl Try.ntmps12 rfl ?_
    repeat (first | rintro _ _ ⟨rfl, rfl⟩ | refine exq fun _ => ?_ | intro _ | refine go ?_ | refine drq ?_ | refine cal @hN ?_)
    rename_i bm
    apply WC_loopE (E0 := [(2, _), (7, _), (18, _), (19, _)]) (fun E0 (i : Nat) => (20, .int .i64 i) :: E0) (fun i => MemB bm c (trMs c (l.take i)) :: F) (fun i => i ≤ l.length) (fun i => l.length - i) 0
    · (repeat (first | exact Sub.nil | (refine Sub.cons (by first | rfl | (simp only [Nat.zero_add]; rfl)) ?_)))
    · exact Nat.zero_le _
    · rw [show trMs c (l.take 0) = List.replicate (c.words * c.lines).toNat 0 from rfl]
      exact entu0
    · intro i hi
      by_cases hlt : i < l.length
      · have hst := trMs_take (c := c) hlt
        have hD := fun F => mem_Do (F := F) (b := bm) (c := c) (ms := trMs c (l.take i)) (x := l[i].op)
        repeat (first | rintro _ _ ⟨rfl, rfl⟩ | refine exq fun _ => ?_ | intro _ | refine go ?_ | refine drq ?_ | refine cal @hD ?_)
        refine WE_loop (i + 1) (by omega) (by omega) ?_ ?_
        · (repeat (first | exact Sub.nil | (refine Sub.cons (by first | rfl | (simp only [Nat.zero_add]; rfl)) ?_)))
        · rw [hst]; exact entu0
      · have hil : i = l.length := by omega
        subst hil
        rw [List.take_length]
        repeat (first | rintro _ _ ⟨rfl, rfl⟩ | refine exq fun _ => ?_ | intro _ | refine go ?_ | refine drq ?_ | refine cal @mem_Word ?_)
        (apply WE_ret rfl rfl (by (repeat (first | exact ResOk.nil | (apply ResOk.tmp; rfl) | (apply resOk_cell; rfl; exact inferInstance; rfl; rfl)))); (first | exact ⟨rfl, rfl⟩ | exact ⟨congrArg Value.bool (by decide), rfl⟩ | exact ⟨_, rfl, rfl⟩ | exact ⟨_, _, rfl, rfl⟩ | exact ⟨by first | (simp [valV, hck]; done) | (simp [valV, hck] <;> omega), rfl⟩); (repeat (first | exact Ent.refl | exact Ent.nil | apply Ent.pick | apply Ent.drop)))
theorem wi_Check {F : List HP} {c : Cfg} {ps : List PrQ} {u v : Value} {l : List Com} (hc : c.wf) (k : RdL F 6 v l.length (flat cmc l)) (hl : l.length ≤ 1099511627776) (kp : RdL F 1 u ps.length (flat prc ps)) (kr : RdPr F ps) :
    FnF Try.prog 9 [c.val, u, v] [] F (fun r L' => r = .tuple [.int .i64 (chkV c (ps.map (·.1)) l), .int .i64 (chkE c (ps.map (·.1)) l)].toArray ∧ L' = []) := by
  cases hck : checkB c with
  | false =>
    have hN := fun F => mem_New_no (F := F) hc hck
    refine FnF.mk' Try.func9 rfl rfl Try.ntmps9 rfl ?_
    repeat (first | rintro _ _ ⟨rfl, rfl⟩ | refine exq fun _ => ?_ | intro _ | refine go ?_ | refine drq ?_ | refine cal @hN ?_)
    (apply WE_ret rfl rfl (by (repeat (first | exact ResOk.nil | (apply ResOk.tmp; rfl) | (apply resOk_cell; rfl; exact inferInstance; rfl; rfl)))); (first | exact ⟨rfl, rfl⟩ | exact ⟨congrArg Value.bool (by decide), rfl⟩ | exact ⟨_, rfl, rfl⟩ | exact ⟨_, _, rfl, rfl⟩ | exact ⟨by first | (simp [chkV, chkE, chkOk, hck]; done) | (simp [chkV, chkE, chkOk, hck] <;> omega), rfl⟩); (repeat (first | exact Ent.refl | exact Ent.nil | apply Ent.pick | apply Ent.drop)))
  | true =>
    have hN := fun F => mem_New (F := F) hc hck
    by_cases hlen : (ps.length : Int) = c.cores
    · have hcc := (check_facts hck).1
      have e1 : chkV c (ps.map (·.1)) l = chkN c (ps.map (·.1)) l := by simp [chkV, chkOk, hck, hlen]
      have e2 : chkE c (ps.map (·.1)) l = if chkN c (ps.map (·.1)) l = l.length then 0 else 7 := by simp [chkE, chkOk, hck, hlen]
      rw [e1, e2]
      obtain ⟨n, hn⟩ : ∃ n : Nat, c.cores = n := ⟨c.cores.toNat, by omega⟩
      have hpn : ps.length = n := by omega
      refine FnF.mk' Try.func9 rfl rfl Try.ntmps9 rfl ?_
      repeat (first | rintro _ _ ⟨rfl, rfl⟩ | refine exq fun _ => ?_ | intro _ | refine go ?_ | refine drq ?_ | refine cal @hN ?_)
      rename_i b3 bm ba
      have hbad : ∀ i, i < l.length → (∀ j, j < i → goodC c (ps.map (·.1)) l j = true) → goodC c (ps.map (·.1)) l i = false → chkN c (ps.map (·.1)) l = i ∧ ¬ i = l.length := fun i hi h1 h2 => ⟨chkN_at hi h1 h2, by omega⟩
      apply WC_loopE (E0 := [(1, _), (2, _), (3, _), (8, _), (10, _), (32, _), (33, _)]) (fun E0 (i : Nat) => (34, .int .i64 i) :: E0) (fun i => Cells ba 3 (flat ic (atC n l i)) :: MemB bm c (trMs c (l.take i)) :: Cells b3 24 c.cells :: F) (fun i => i ≤ l.length ∧ ∀ j, j < i → goodC c (ps.map (·.1)) l j = true) (fun i => l.length - i) 0
      · (repeat (first | exact Sub.nil | (refine Sub.cons (by first | rfl | (simp only [Nat.zero_add]; rfl)) ?_)))
      · exact ⟨Nat.zero_le _, fun j h => absurd h (Nat.not_lt_zero _)⟩
      · rw [show trMs c (l.take 0) = List.replicate (c.words * c.lines).toNat 0 from rfl, atC_zero, ← rep_ic, hn, Int.toNat_natCast]
        exact entu0
      · rintro i ⟨hi, hgo⟩
        by_cases hlt : i < l.length
        · have hst := trMs_take (c := c) hlt
          have hbi := hbad i hlt hgo
          have hgd : goodC c (ps.map (·.1)) l i = (decide (0 ≤ l[i].core ∧ l[i].core < c.cores) && decide (l[i].pos = cntC l i l[i].core) && decide (l[i].pos < (((ps.map (·.1)).getD l[i].core.toNat []).length : Int)) && decide (l[i].op = ((ps.map (·.1)).getD l[i].core.toNat []).getD l[i].pos.toNat .zero)
              && decide (memDoE (trMs c (l.take i)) l[i].op = 0) && decide (memDoV (trMs c (l.take i)) l[i].op = l[i].res)) := by unfold goodC; rw [List.getElem?_eq_getElem hlt]
          have hD := fun F => mem_Do (F := F) (b := bm) (c := c) (ms := trMs c (l.take i)) (x := l[i].op)
          by_cases h0 : l[i].core < 0
          · obtain ⟨f1, f2⟩ := hbi (by rw [hgd]; simp [show ¬ 0 ≤ l[i].core by omega])
            repeat (first | rintro _ _ ⟨rfl, rfl⟩ | refine exq fun _ => ?_ | intro _ | refine go ?_ | refine drq ?_)
            rw [f1, if_neg f2]
            exact fin0
          · by_cases h1 : l[i].core ≥ c.cores
            · obtain ⟨f1, f2⟩ := hbi (by rw [hgd]; simp [show ¬ l[i].core < c.cores by omega])
              repeat (first | rintro _ _ ⟨rfl, rfl⟩ | refine exq fun _ => ?_ | intro _ | refine go ?_ | refine drq ?_)
              rw [f1, if_neg f2]
              exact fin0
            · obtain ⟨kc, hkc⟩ : ∃ k : Nat, l[i].core = k := ⟨l[i].core.toNat, by omega⟩
              have hkn : kc < n := by omega
              have hkp : kc < ps.length := by omega
              have hat : (flat ic (atC n l i))[0 + ((kc : Nat) : Int).toNat * 1]? = some (.int .i64 (cntC l i (kc : Int))) := by
                rw [Int.toNat_natCast, Nat.zero_add, Nat.mul_one, flat_ic_get (by simp [atC, hkn])]
                simp [atC]
              have hcn := cntC_le l i (kc : Int)
              have hpr : (ps.map (·.1)).getD kc [] = ps[kc].1 := by simp [hkp]
              rw [hkc, Int.toNat_natCast, hpr] at hgd
              haveI krk := rd_pr kr hkp
              generalize hq : cntC l i (kc : Int) = q at hat hcn hgd
              have hIn : decide (0 ≤ (kc : Int) ∧ (kc : Int) < c.cores) = true := decide_eq_true (by omega)
              generalize hxo : l[i].op = xo at hgd hst hD
              generalize hxr : l[i].res = xr at hgd
              by_cases hp : l[i].pos = q
              · have hx : l[i] = ⟨(kc : Int), (q : Int), xo, xr⟩ := by rw [← hkc, ← hp, ← hxo, ← hxr]
                by_cases hql : q < ps[kc].1.length
                · have hge : ps[kc].1.getD q .zero = ps[kc].1[q] := by simp [hql]
                  rw [hIn, hp, Int.toNat_natCast, hge, decide_eq_true rfl, decide_eq_true (show (q : Int) < (ps[kc].1.length : Int) by omega)] at hgd
                  simp only [Bool.true_and] at hgd
                  by_cases ho : xo = ps[kc].1[q]
                  · have ho' : ¬ (oc xo ≠ oc ps[kc].1[q]) := fun h => h (by rw [ho])
                    rw [decide_eq_true ho, Bool.true_and] at hgd
                    by_cases hE : memDoE (trMs c (l.take i)) xo = 0
                    · rw [decide_eq_true hE, Bool.true_and] at hgd
                      by_cases hV : memDoV (trMs c (l.take i)) xo = xr
                      · rw [decide_eq_true hV] at hgd
                        have hgo2 : ∀ j, j < i + 1 → goodC c (ps.map (·.1)) l j = true := fun j hj => by
                          by_cases e : j = i
                          · subst e; exact hgd
                          · exact hgo j (by omega)
                        have hats := atC_succ hlt hkn (by rw [hkc])
                        rw [hq] at hats
                        repeat (first | rintro _ _ ⟨rfl, rfl⟩ | refine exq fun _ => ?_ | intro _ | refine go ?_ | refine drq ?_)
                        simp only [hx]; dsimp only [cmc]
                        repeat (first | rintro _ _ ⟨rfl, rfl⟩ | refine exq fun _ => ?_ | intro _ | refine go ?_ | refine drq ?_ | refine cal @hD ?_)
                        have hal : (atC n l i).length = n := by simp [atC]
                        have hsp : splice (flat ic (atC n l i)) (0 + ((kc : Nat) : Int).toNat * 1) [.int .i64 ((q : Int) + 1)] = flat ic (atC n l (i + 1)) := by
                          rw [Int.toNat_natCast, Nat.zero_add, Nat.mul_one, splice_ic (by omega), hats]
                        have hbl : Nat.ble (0 + ((kc : Nat) : Int).toNat * 1 + 1) (flat ic (atC n l i)).length = true := by
                          rw [flat_ic_len, hal, Int.toNat_natCast, Nat.ble_eq]; omega
                        (apply WO_k; rfl; (apply K_store (cs := [.int .i64 ((q : Int) + 1)]); rfl; rfl; exact inferInstance; rfl; rfl; rfl; exact hbl); refine same_intro ?_)
                        rw [hsp]
                        repeat (first | rintro _ _ ⟨rfl, rfl⟩ | refine exq fun _ => ?_ | intro _ | refine go ?_ | refine drq ?_)
                        refine WE_loop (i + 1) (by omega) ⟨by omega, hgo2⟩ ?_ ?_
                        · (repeat (first | exact Sub.nil | (refine Sub.cons (by first | rfl | (simp only [Nat.zero_add]; rfl)) ?_)))
                        · rw [hst]; exact entu0
                      · obtain ⟨f1, f2⟩ := hbi (by rw [hgd]; exact decide_eq_false hV)
                        repeat (first | rintro _ _ ⟨rfl, rfl⟩ | refine exq fun _ => ?_ | intro _ | refine go ?_ | refine drq ?_)
                        simp only [hx]; dsimp only [cmc]
                        repeat (first | rintro _ _ ⟨rfl, rfl⟩ | refine exq fun _ => ?_ | intro _ | refine go ?_ | refine drq ?_ | refine cal @hD ?_)
                        rw [f1, if_neg f2]
                        exact fin0
                    · obtain ⟨f1, f2⟩ := hbi (by rw [hgd, decide_eq_false hE]; rfl)
                      repeat (first | rintro _ _ ⟨rfl, rfl⟩ | refine exq fun _ => ?_ | intro _ | refine go ?_ | refine drq ?_)
                      simp only [hx]; dsimp only [cmc]
                      repeat (first | rintro _ _ ⟨rfl, rfl⟩ | refine exq fun _ => ?_ | intro _ | refine go ?_ | refine drq ?_ | refine cal @hD ?_)
                      rw [f1, if_neg f2]
                      exact fin0
                  · obtain ⟨f1, f2⟩ := hbi (by rw [hgd, decide_eq_false ho]; rfl)
                    have ho' : oc xo ≠ oc ps[kc].1[q] := fun h => ho (by
                      have h1 : ∀ a b : Op3, oc a = oc b → a = b := fun ⟨a1, a2, a3⟩ ⟨b1, b2, b3⟩ h => by simp only [oc, List.cons.injEq, Value.int.injEq, true_and, and_true] at h; obtain ⟨rfl, rfl, rfl⟩ := h; rfl
                      exact h1 _ _ h)
                    repeat (first | rintro _ _ ⟨rfl, rfl⟩ | refine exq fun _ => ?_ | intro _ | refine go ?_ | refine drq ?_)
                    simp only [hx]; dsimp only [cmc]
                    repeat (first | rintro _ _ ⟨rfl, rfl⟩ | refine exq fun _ => ?_ | intro _ | refine go ?_ | refine drq ?_)
                    rw [f1, if_neg f2]
                    exact fin0
                · obtain ⟨f1, f2⟩ := hbi (by rw [hgd, hp, decide_eq_false (show ¬ (q : Int) < (ps[kc].1.length : Int) by omega)]; simp)
                  repeat (first | rintro _ _ ⟨rfl, rfl⟩ | refine exq fun _ => ?_ | intro _ | refine go ?_ | refine drq ?_)
                  simp only [hx]; dsimp only [cmc]
                  repeat (first | rintro _ _ ⟨rfl, rfl⟩ | refine exq fun _ => ?_ | intro _ | refine go ?_ | refine drq ?_)
                  rw [f1, if_neg f2]
                  exact fin0
              · obtain ⟨f1, f2⟩ := hbi (by rw [hgd, decide_eq_false hp]; simp)
                repeat (first | rintro _ _ ⟨rfl, rfl⟩ | refine exq fun _ => ?_ | intro _ | refine go ?_ | refine drq ?_)
                simp only [hkc]
                repeat (first | rintro _ _ ⟨rfl, rfl⟩ | refine exq fun _ => ?_ | intro _ | refine go ?_ | refine drq ?_)
                rw [f1, if_neg f2]
                exact fin0
        · have hil : i = l.length := by omega
          subst hil
          have f1 := chkN_all hgo
          rw [f1, if_pos rfl]
          repeat (first | rintro _ _ ⟨rfl, rfl⟩ | refine exq fun _ => ?_ | intro _ | refine go ?_ | refine drq ?_)
          exact fin0
    · refine FnF.mk' Try.func9 rfl rfl Try.ntmps9 rfl ?_
      repeat (first | rintro _ _ ⟨rfl, rfl⟩ | refine exq fun _ => ?_ | intro _ | refine go ?_ | refine drq ?_ | refine cal @hN ?_)
      (apply WE_ret rfl rfl (by (repeat (first | exact ResOk.nil | (apply ResOk.tmp; rfl) | (apply resOk_cell; rfl; exact inferInstance; rfl; rfl)))); (first | exact ⟨rfl, rfl⟩ | exact ⟨congrArg Value.bool (by decide), rfl⟩ | exact ⟨_, rfl, rfl⟩ | exact ⟨_, _, rfl, rfl⟩ | exact ⟨by first | (simp [chkV, chkE, chkOk, hck, hlen]; done) | (simp [chkV, chkE, chkOk, hck, hlen] <;> omega), rfl⟩); (repeat (first | exact Ent.refl | exact Ent.nil | apply Ent.pick | apply Ent.drop)))
end Go.Sx

/- What the document's memories do: New, Line, Write. My own work. -/
namespace Go.Sx
open Go Go.Proofs
set_option linter.unusedVariables false
set_option linter.unusedSectionVars false
set_option linter.unusedSimpArgs false
theorem w12_splice {w : Words} {i : Nat} (hi : i < 8) (v : Int) : splice (wc w) (0 + ((i : Nat) : Int).toNat * 1) [.int .i64 v] = wc (Words.of (w.list.set i v)) := by
  rw [Nat.zero_add, Nat.mul_one, Int.toNat_natCast]
  rw [show wc w = flat ic w.list from rfl, splice_ic (ms := w.list) hi, flat_of (by rw [List.length_set]; rfl)]
theorem w12_pad {l : List Int} (h : l.length ≤ 8) : (Words.of l).list = l ++ List.replicate (8 - l.length) 0 := by
  match l, h with
  | [], _ => rfl
  | [_], _ => rfl
  | [_, _], _ => rfl
  | [_, _, _], _ => rfl
  | [_, _, _, _], _ => rfl
  | [_, _, _, _, _], _ => rfl
  | [_, _, _, _, _, _], _ => rfl
  | [_, _, _, _, _, _, _], _ => rfl
  | [_, _, _, _, _, _, _, _], _ => rfl
  | _ :: _ :: _ :: _ :: _ :: _ :: _ :: _ :: _ :: l, h => simp at h
theorem w12_step {l : List Int} {i : Nat} (h : i < l.length) (h8 : l.length ≤ 8) : (Words.of (l.take i)).list.set i l[i] = (Words.of (l.take (i + 1))).list := by
  rw [w12_pad (by simp; omega), w12_pad (by simp; omega)]
  have e1 : (l.take i).length = i := by simp; omega
  have e2 : (l.take (i + 1)).length = i + 1 := by simp; omega
  rw [e1, e2, List.take_add_one, List.getElem?_eq_getElem h]
  obtain ⟨r, hr⟩ : ∃ r, 8 - i = r + 1 := ⟨7 - i, by omega⟩
  rw [hr, show 8 - (i + 1) = r by omega, List.replicate_succ]
  generalize hp : l.take i = p at e1
  subst e1
  simp [List.set_append]
theorem w12_cell (w : Words) (i : Nat) (h : i < 8) : (wc w)[0 + ((i : Nat) : Int).toNat * 1]? = some (.int .i64 (w.list.getD i 0)) := by
  rw [Nat.zero_add, Nat.mul_one, Int.toNat_natCast]
  match i, h with
  | 0, _ => rfl
  | 1, _ => rfl
  | 2, _ => rfl
  | 3, _ => rfl
  | 4, _ => rfl
  | 5, _ => rfl
  | 6, _ => rfl
  | 7, _ => rfl
/-! ## The document's memory -/
def MemRB (b : Nat) (c : Cfg) (ms : List Int) : HP :=
  Ex fun g : Nat => [Cells b 99 (c.cells ++ [.slice (some ⟨g, 0, none⟩) ms.length ms.length]), Cells g 3 (flat ic ms), Fact (checkB c = true ∧ (ms.length : Int) = c.words * c.lines ∧ ms.length ≤ 8192)]
theorem memr_in {b g n : Nat} {c : Cfg} {ms : List Int} {xs : List Value} {L M : List HP}
    (h : Ent L (Cells b 99 (c.cells ++ [.slice (some ⟨g, 0, none⟩) n n]) :: Cells g 3 xs :: M)) (hn : n = ms.length) (hx : xs = flat ic ms) (hl : checkB c = true ∧ (ms.length : Int) = c.words * c.lines ∧ ms.length ≤ 8192) : Ent L (MemRB b c ms :: M) := by
  subst hn hx
  refine Ent.trans h (Ent.trans ?_ (ex_intro (p := fun g : Nat => [Cells b 99 (c.cells ++ [.slice (some ⟨g, 0, none⟩) ms.length ms.length]), Cells g 3 (flat ic ms), Fact (checkB c = true ∧ (ms.length : Int) = c.words * c.lines ∧ ms.length ≤ 8192)]) g))
  exact Ent.cons (Ent.cons (star_fact_mk hl))
theorem memr_sat {b : Nat} {c : Cfg} {ms : List Int} {L : List HP} {w : World} (h : Sat (MemRB b c ms :: L) w) : (checkB c = true ∧ (ms.length : Int) = c.words * c.lines ∧ ms.length ≤ 8192) ∧
    ∃ g, Sat (Cells b 99 (c.cells ++ [.slice (some ⟨g, 0, none⟩) ms.length ms.length]) :: Cells g 3 (flat ic ms) :: L) w := by
  obtain ⟨g, hx⟩ := star_ex h
  simp only [app] at hx
  have hf := fact_of (star_drop (star_drop hx))
  exact ⟨hf, g, (Ent.cons (Ent.cons (Ent.drop Ent.refl))) _ hx⟩
theorem memr_open {b : Nat} {c0 : Cfg} {ms : List Int} {P : Program} {N : Nat} {c : Code} {env : Env} {L : List HP} {Q : Exit → Act → World → Prop}
    (h : ∀ g, (checkB c0 = true ∧ (ms.length : Int) = c0.words * c0.lines ∧ ms.length ≤ 8192) → WC P N c env (Cells b 99 (c0.cells ++ [.slice (some ⟨g, 0, none⟩) ms.length ms.length]) :: Cells g 3 (flat ic ms) :: L) Q) : WC P N c env (MemRB b c0 ms :: L) Q := by
  intro a w ha hw
  obtain ⟨hf, g, hx⟩ := memr_sat hw
  exact h g hf a w ha hx
set_option maxRecDepth 100000
set_option maxHeartbeats 4000000
attribute [local irreducible] Go.Exit.then Go.Exit.inBlock Go.Code.wp WC WO WE WQ V LoopQ FnQ Sat Star band bor IntKind.wrap WR Code.rounds WT KO
theorem dr_Mem12_30 {Q P : Prop} (k : Q) (h : Hid Q → P := by
  intro k
  first
  | (refine is_draw ?_; apply WC_mix (id := 3) .true _ (pl := .p 1 <| .p 3 <| .r 0 <| .r 2 <| .r 4 <| .p 5 <| .e true [(6, .p 7 <| .e true [(8, .p 9 <| .p 10 <| .done)])]); exact mixed; kernel_rfl; kernel_rfl; exact Ent.refl; exact k.out)) : P := h ⟨k⟩
theorem ref12_New_no {F : List HP} {c : Cfg} (hc : c.wf) (h : checkB c = false) : FnF Try.prog 30 [c.val] [] F (fun r L' => r = .tuple [.pointer none, .int .i64 1].toArray ∧ L' = []) := by
  have hE := fun F => ref01_Check (F := F) hc
  simp only [checkE, h, Bool.false_eq_true, if_false] at hE
  refine FnF.mk' Try.func30 rfl rfl Try.ntmps30 rfl ?_
  repeat (first | rintro _ _ ⟨rfl, rfl⟩ | refine exq fun _ => ?_ | intro _ | refine go ?_ | refine dr_Mem12_30 ?_ | refine drq ?_ | refine cal @hE ?_)
  exact fin0
theorem ref12_New {F : List HP} {c : Cfg} (hc : c.wf) (h : checkB c = true) : FnF Try.prog 30 [c.val] [] F (fun r L' => ∃ b, r = .tuple [.pointer (some ⟨b, 0, none⟩), .int .i64 0].toArray ∧ L' = [MemRB b c (List.replicate (c.words * c.lines).toNat 0)]) := by
  have hE := fun F => ref01_Check (F := F) hc
  simp only [checkE, h, if_true] at hE
  have hw := check_words h
  have hm := mul_bd (m := 8) (n := 1024) (a := c.words) (b := c.lines) (by omega) (by omega) (by omega) (by omega) (by omega)
  simp only [Int.reduceMul] at hm
  refine FnF.mk' Try.func30 rfl rfl Try.ntmps30 rfl ?_
  repeat (first | rintro _ _ ⟨rfl, rfl⟩ | refine exq fun _ => ?_ | intro _ | refine go ?_ | refine dr_Mem12_30 ?_ | refine drq ?_ | refine cal @hE ?_)
  rename_i bc bs bm
  (apply WE_ret rfl rfl (by (repeat (first | exact ResOk.nil | (apply ResOk.tmp; rfl) | (apply resOk_cell; rfl; exact inferInstance; rfl; rfl)))))
  · exact ⟨_, rfl, rfl⟩
  · rw [rep_ic]
    refine memr_in (g := bs) (n := (c.words * c.lines).toNat) (ms := List.replicate (c.words * c.lines).toNat 0) (Ent.cons (Ent.cons (Ent.drop Ent.refl))) (by simp) rfl ?_
    exact ⟨h, by simp; omega, by simp; omega⟩
/-- Words that are being written. -/
def w12L (ms : List Int) (f : Nat) (w : Words) (i : Nat) : List Int := ms.take f ++ w.list.take i ++ ms.drop (f + i)
theorem w12L_len {ms : List Int} {f i : Nat} {w : Words} (h : f + i ≤ ms.length) (h8 : i ≤ 8) : (w12L ms f w i).length = ms.length := wr_len h h8
theorem w12L_step {ms : List Int} {f i : Nat} {w : Words} (h : f + i < ms.length) (h8 : i < 8) : (w12L ms f w i).set (f + i) (w.list.getD i 0) = w12L ms f w (i + 1) := by
  unfold w12L
  have hwl : i < w.list.length := h8
  have e1 : f + i = (ms.take f ++ w.list.take i).length := by
    rw [List.length_append, List.length_take, List.length_take, Words.list_len]; omega
  have e2 : ms.take f ++ w.list.take (i + 1) = (ms.take f ++ w.list.take i) ++ [w.list.getD i 0] := by
    rw [List.take_add_one, List.getElem?_eq_getElem hwl, List.getD_eq_getElem?_getD, List.getElem?_eq_getElem hwl, List.append_assoc]; rfl
  rw [e2, List.drop_eq_getElem_cons h, ← Nat.add_assoc]
  generalize ms[f + i] = x
  generalize List.drop (f + i + 1) ms = r
  generalize ms.take f ++ w.list.take i = p at e1
  rw [e1]
  simp [List.set_append]
end Go.Sx
