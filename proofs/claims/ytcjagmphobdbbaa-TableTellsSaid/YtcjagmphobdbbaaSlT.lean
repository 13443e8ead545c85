/- The library's functions on slices of several types. My own work. -/
import Derived.Test.YtcjagmphobdbbaaData
namespace Go.Sx
open Go Go.Proofs
set_option linter.unusedVariables false
set_option linter.unusedSectionVars false
set_option maxRecDepth 100000
set_option maxHeartbeats 4000000
attribute [local irreducible] Go.Exit.then Go.Exit.inBlock Go.Code.wp WC WO WE WQ V LoopQ FnQ Sat Star band bor IntKind.wrap WR Code.rounds WT KO

theorem del_fin {e : TypeId} {sz g n i j cap : Nat} {xs spare zs : List Value} {M : List HP} (hij : i ≤ j) (hj : j ≤ n) (q1 : xs.length = n * sz) (q2 : xs.all one = true) (h1 : n ≤ cap) (h2 : cap ≤ maxLen) (h3 : spare.length = (cap - n) * sz)
    (hz : zs.length = n * sz - (i + (n - j)) * sz) (a1 : (i + (n - j)) * sz = i * sz + (n - j) * sz) (a2 : (i + (n - j)) * sz ≤ n * sz) (a3 : j * sz ≤ n * sz) (a4 : n * sz ≤ cap * sz) (a5 : (cap - n) * sz = cap * sz - n * sz) (a6 : (n - j) * sz = n * sz - j * sz) :
    Ent (Cells g e (splice (splice (xs ++ spare) (i * sz) ((xs.drop (j * sz)).take ((n - j) * sz))) (0 + (i + (n - j)) * sz) zs) :: M)
      (Own e sz (.slice (some ⟨g, 0, none⟩) (i + (n - j)) cap) (i + (n - j)) (xs.take (i * sz) ++ xs.drop (j * sz)) :: M) := by
  have e1 : (List.drop (j * sz) xs).take ((n - j) * sz) = List.drop (j * sz) xs := List.take_of_length_le (by simp; omega)
  have e2 : (List.drop (j * sz) xs).length = (n - j) * sz := by simp; omega
  rw [e1, Nat.zero_add]
  have hl := splice_length (l := xs ++ spare) (ys := List.drop (j * sz) xs) (o := i * sz) (by simp; omega)
  refine own_close (cap := cap) ?_ (by omega) h2 ?_ ?_ Ent.refl
  · rw [splice_length, hl, List.length_append, q1, h3]
    · omega
    · rw [hl, List.length_append]; omega
  · rw [take_splice_lt (by rw [hl, List.length_append]; omega) (by omega)]
    have := take_splice (l := xs ++ spare) (ys := List.drop (j * sz) xs) (o := i * sz) (by simp; omega)
    rw [a1, ← e2, this, List.take_append_of_le_length (by omega)]
  · rw [List.all_append, List.all_eq_true.2 fun u hu => List.all_eq_true.1 q2 u (List.mem_of_mem_take hu), List.all_eq_true.2 fun u hu => List.all_eq_true.1 q2 u (List.mem_of_mem_drop hu)]
    rfl

theorem rep_len {z : List Value} {k n : Nat} (h : z.length = n) : (List.replicate k z).flatten.length = k * n := by simp [h]

theorem sl_Clone_int {F : List HP} {v : Value} {n : Nat} {xs : List Value} (k : RdL F 1 v n xs) (hn : n ≤ 1099511627776) : FnF Try.prog 172 [v] [] F (fun r L' => ∃ p c, r = .slice p n c ∧ L' = [Own 3 1 (.slice p n c) n xs]) := by
  refine FnF.mk' Try.func172 rfl rfl Try.ntmps172 rfl ?_
  refine WC_rd (v := v) k fun q1 q2 p c0 e q3 => ?_
  subst e
  cases p with
  | none =>
    obtain rfl := q3 rfl
    obtain rfl : xs = [] := List.eq_nil_of_length_eq_zero (by simpa using q1)
    repeat (first | rintro _ _ ⟨rfl, rfl⟩ | rintro _ _ ⟨_, rfl, rfl⟩ | rintro _ _ ⟨_, _, rfl, rfl⟩ | intro _ | refine go ?_ | (refine is_draw ?_; refine WC_draw mixed (by kernel_rfl) ?_))
    (apply WE_ret rfl rfl (by (repeat (first | exact ResOk.nil | (apply ResOk.tmp; rfl) | (apply resOk_cell; rfl; exact inferInstance; rfl; rfl)))))
    · exact ⟨_, _, rfl, rfl⟩
    · exact own_empty Ent.refl
  | some a =>
    repeat (first | rintro _ _ ⟨rfl, rfl⟩ | rintro _ _ ⟨_, rfl, rfl⟩ | rintro _ _ ⟨_, _, rfl, rfl⟩ | intro _ | refine go ?_ | (refine is_draw ?_; refine WC_draw mixed (by kernel_rfl) ?_))
    simp only [Nat.zero_add, List.nil_append]
    (apply WE_ret rfl rfl (by (repeat (first | exact ResOk.nil | (apply ResOk.tmp; rfl) | (apply resOk_cell; rfl; exact inferInstance; rfl; rfl)))))
    · exact ⟨_, _, rfl, rfl⟩
    · exact Ent.refl

theorem sl_Index_int {F : List HP} {v : Value} {l : List Int} {x : Int} (k : RdL F 1 v l.length (flat ic l)) (hn : l.length ≤ 1099511627776) : FnF Try.prog 174 [v, iv x] [] F (fun r L' => r = .int .i64 (indexBy (· = x) l) ∧ L' = []) := by
  refine FnF.mk' Try.func174 rfl rfl Try.ntmps174 rfl ?_
  repeat (first | rintro _ _ ⟨rfl, rfl⟩ | rintro _ _ ⟨_, rfl, rfl⟩ | rintro _ _ ⟨_, _, rfl, rfl⟩ | intro _ | refine go ?_ | (refine is_draw ?_; refine WC_draw mixed (by kernel_rfl) ?_))
  apply WC_loopE (E0 := [(0, _), (1, _), (7, _)]) (fun E0 (i : Nat) => (8, .int .i64 i) :: E0) (fun _ => F) (fun i => i ≤ l.length ∧ ∀ j (h : j < l.length), j < i → decide (l[j] = x) = false) (fun i => l.length - i) 0
  · (repeat (first | exact Sub.nil | (refine Sub.cons (by first | rfl | (simp only [Nat.zero_add]; rfl)) ?_)))
  · exact ⟨by omega, fun j _ hj => by omega⟩
  · exact Ent.refl
  · rintro i ⟨hi, h1⟩
    by_cases hlt : i < l.length
    · by_cases he : x = l[i]
      · repeat (first | rintro _ _ ⟨rfl, rfl⟩ | rintro _ _ ⟨_, rfl, rfl⟩ | rintro _ _ ⟨_, _, rfl, rfl⟩ | intro _ | refine go ?_ | (refine is_draw ?_; refine WC_draw mixed (by kernel_rfl) ?_))
        (apply WE_ret rfl rfl (by (repeat (first | exact ResOk.nil | (apply ResOk.tmp; rfl) | (apply resOk_cell; rfl; exact inferInstance; rfl; rfl)))))
        · exact ⟨by rw [indexBy_at hlt h1 (by simp [he])]; rfl, rfl⟩
        · exact Ent.refl
      · repeat (first | rintro _ _ ⟨rfl, rfl⟩ | rintro _ _ ⟨_, rfl, rfl⟩ | rintro _ _ ⟨_, _, rfl, rfl⟩ | intro _ | refine go ?_ | (refine is_draw ?_; refine WC_draw mixed (by kernel_rfl) ?_))
        refine WE_loop (i + 1) (by omega) ⟨by omega, fun j hj hji => ?_⟩ ?_ Ent.refl
        · by_cases e : j = i
          · subst e; simpa using fun h => he h.symm
          · exact h1 j hj (by omega)
        · (repeat (first | exact Sub.nil | (refine Sub.cons (by first | rfl | (simp only [Nat.zero_add]; rfl)) ?_)))
    · have e : i = l.length := by omega
      subst e
      repeat (first | rintro _ _ ⟨rfl, rfl⟩ | rintro _ _ ⟨_, rfl, rfl⟩ | rintro _ _ ⟨_, _, rfl, rfl⟩ | intro _ | refine go ?_ | (refine is_draw ?_; refine WC_draw mixed (by kernel_rfl) ?_))
      (apply WE_ret rfl rfl (by (repeat (first | exact ResOk.nil | (apply ResOk.tmp; rfl) | (apply resOk_cell; rfl; exact inferInstance; rfl; rfl)))))
      · exact ⟨by rw [indexBy_none h1]; rfl, rfl⟩
      · exact Ent.refl

theorem sl_IndexFunc_int {F : List HP} {v : Value} {l : List Int} {fk : FuncId} {first cap : List Value} {p : Int → Bool} (k : RdL F 1 v l.length (flat ic l)) (hn : l.length ≤ 1099511627776)
    (H : ∀ x ∈ l, FnF Try.prog fk (first ++ [iv x] ++ cap) [] F (fun r L' => r = .bool (p x) ∧ L' = [])) :
    FnF Try.prog 162 [v, .func (.func fk) first.toArray cap.toArray] [] F (fun r L' => r = .int .i64 (indexBy p l) ∧ L' = []) := by
  refine FnF.mk' Try.func162 rfl rfl Try.ntmps162 rfl ?_
  repeat (first | rintro _ _ ⟨rfl, rfl⟩ | rintro _ _ ⟨_, rfl, rfl⟩ | rintro _ _ ⟨_, _, rfl, rfl⟩ | intro _ | refine go ?_ | (refine is_draw ?_; refine WC_draw mixed (by kernel_rfl) ?_))
  apply WC_loopE (E0 := [(0, _), (1, _), (7, _)]) (fun E0 (i : Nat) => (8, .int .i64 i) :: E0) (fun _ => F) (fun i => i ≤ l.length ∧ ∀ j (h : j < l.length), j < i → p l[j] = false) (fun i => l.length - i) 0
  · (repeat (first | exact Sub.nil | (refine Sub.cons (by first | rfl | (simp only [Nat.zero_add]; rfl)) ?_)))
  · exact ⟨by omega, fun j _ hj => by omega⟩
  · exact Ent.refl
  · rintro i ⟨hi, h1⟩
    by_cases hlt : i < l.length
    · have hH := H l[i] (List.getElem_mem hlt)
      cases he : p l[i]
      · rw [he] at hH
        repeat (first | rintro _ _ ⟨rfl, rfl⟩ | rintro _ _ ⟨_, rfl, rfl⟩ | rintro _ _ ⟨_, _, rfl, rfl⟩ | intro _ | refine go ?_ | (refine is_draw ?_; refine WC_draw mixed (by kernel_rfl) ?_) | refine cal @hH ?_)
        refine WE_loop (i + 1) (by omega) ⟨by omega, fun j hj hji => ?_⟩ ?_ Ent.refl
        · by_cases e : j = i
          · subst e; exact he
          · exact h1 j hj (by omega)
        · (repeat (first | exact Sub.nil | (refine Sub.cons (by first | rfl | (simp only [Nat.zero_add]; rfl)) ?_)))
      · rw [he] at hH
        repeat (first | rintro _ _ ⟨rfl, rfl⟩ | rintro _ _ ⟨_, rfl, rfl⟩ | rintro _ _ ⟨_, _, rfl, rfl⟩ | intro _ | refine go ?_ | (refine is_draw ?_; refine WC_draw mixed (by kernel_rfl) ?_) | refine cal @hH ?_)
        (apply WE_ret rfl rfl (by (repeat (first | exact ResOk.nil | (apply ResOk.tmp; rfl) | (apply resOk_cell; rfl; exact inferInstance; rfl; rfl)))))
        · exact ⟨by rw [indexBy_at hlt h1 he]; rfl, rfl⟩
        · exact Ent.refl
    · have e : i = l.length := by omega
      subst e
      repeat (first | rintro _ _ ⟨rfl, rfl⟩ | rintro _ _ ⟨_, rfl, rfl⟩ | rintro _ _ ⟨_, _, rfl, rfl⟩ | intro _ | refine go ?_ | (refine is_draw ?_; refine WC_draw mixed (by kernel_rfl) ?_))
      (apply WE_ret rfl rfl (by (repeat (first | exact ResOk.nil | (apply ResOk.tmp; rfl) | (apply resOk_cell; rfl; exact inferInstance; rfl; rfl)))))
      · exact ⟨by rw [indexBy_none h1]; rfl, rfl⟩
      · exact Ent.refl
theorem sl_Clone_msg {F : List HP} {v : Value} {n : Nat} {xs : List Value} (k : RdL F 15 v n xs) (hn : n ≤ 1099511627776) : FnF Try.prog 115 [v] [] F (fun r L' => ∃ p c, r = .slice p n c ∧ L' = [Own 37 15 (.slice p n c) n xs]) := by
  refine FnF.mk' Try.func115 rfl rfl Try.ntmps115 rfl ?_
  refine WC_rd (v := v) k fun q1 q2 p c0 e q3 => ?_
  subst e
  cases p with
  | none =>
    obtain rfl := q3 rfl
    obtain rfl : xs = [] := List.eq_nil_of_length_eq_zero (by simpa using q1)
    repeat (first | rintro _ _ ⟨rfl, rfl⟩ | rintro _ _ ⟨_, rfl, rfl⟩ | rintro _ _ ⟨_, _, rfl, rfl⟩ | intro _ | refine go ?_ | (refine is_draw ?_; refine WC_draw mixed (by kernel_rfl) ?_))
    (apply WE_ret rfl rfl (by (repeat (first | exact ResOk.nil | (apply ResOk.tmp; rfl) | (apply resOk_cell; rfl; exact inferInstance; rfl; rfl)))))
    · exact ⟨_, _, rfl, rfl⟩
    · exact own_empty Ent.refl
  | some a =>
    repeat (first | rintro _ _ ⟨rfl, rfl⟩ | rintro _ _ ⟨_, rfl, rfl⟩ | rintro _ _ ⟨_, _, rfl, rfl⟩ | intro _ | refine go ?_ | (refine is_draw ?_; refine WC_draw mixed (by kernel_rfl) ?_))
    simp only [Nat.zero_add, List.nil_append]
    (apply WE_ret rfl rfl (by (repeat (first | exact ResOk.nil | (apply ResOk.tmp; rfl) | (apply resOk_cell; rfl; exact inferInstance; rfl; rfl)))))
    · exact ⟨_, _, rfl, rfl⟩
    · exact Ent.refl

theorem sl_Delete_msg {F : List HP} {v : Value} {n i j : Nat} {xs : List Value} (hij : i ≤ j) (hj : j ≤ n) (hn : n ≤ 1099511627776) :
    FnF Try.prog 114 [v, .int .i64 i, .int .i64 j] [Own 37 15 v n xs] F (fun r L' => ∃ p c, r = .slice p (i + (n - j)) c ∧ L' = [Own 37 15 (.slice p (i + (n - j)) c) (i + (n - j)) (xs.take (i * 15) ++ xs.drop (j * 15))]) := by
  refine FnF.mk' Try.func114 rfl rfl Try.ntmps114 rfl ?_
  refine WC_own (fun q1 q2 p e0 e1 e2 => ?_) (fun q1 q2 g cap spare e0 h1 h2 h3 => ?_)
  · subst e0 e1 e2
    obtain rfl : i = j := by omega
    obtain rfl : i = 0 := by omega
    repeat (first | rintro _ _ ⟨rfl, rfl⟩ | rintro _ _ ⟨_, rfl, rfl⟩ | rintro _ _ ⟨_, _, rfl, rfl⟩ | intro _ | refine go ?_ | (refine is_draw ?_; apply WC_mix (id := 5) true [] (pl := .p 0 <| .p 1 <| .p 2 <| .p 3 <| .p 4 <| .p 5 <| .e true [(6, .p 7 <| .done)]); exact mixed; kernel_rfl; kernel_rfl; exact Ent.nil) | (refine is_draw ?_; refine WC_draw mixed (by kernel_rfl) ?_))
    (apply WE_ret rfl rfl (by (repeat (first | exact ResOk.nil | (apply ResOk.tmp; rfl) | (apply resOk_cell; rfl; exact inferInstance; rfl; rfl)))))
    · exact ⟨_, _, rfl, rfl⟩
    · simp only [Nat.zero_sub, List.take_nil, List.drop_nil, List.append_nil]
      exact Ent.refl
  · subst e0
    by_cases he : i = j
    · subst he
      repeat (first | rintro _ _ ⟨rfl, rfl⟩ | rintro _ _ ⟨_, rfl, rfl⟩ | rintro _ _ ⟨_, _, rfl, rfl⟩ | intro _ | refine go ?_ | (refine is_draw ?_; apply WC_mix (id := 5) true [] (pl := .p 0 <| .p 1 <| .p 2 <| .p 3 <| .p 4 <| .p 5 <| .e true [(6, .p 7 <| .done)]); exact mixed; kernel_rfl; kernel_rfl; exact Ent.nil) | (refine is_draw ?_; refine WC_draw mixed (by kernel_rfl) ?_))
      have e0 : i + (n - i) = n := by omega
      rw [e0]
      (apply WE_ret rfl rfl (by (repeat (first | exact ResOk.nil | (apply ResOk.tmp; rfl) | (apply resOk_cell; rfl; exact inferInstance; rfl; rfl)))))
      · exact ⟨_, _, rfl, rfl⟩
      · rw [List.take_append_drop]
        exact own_close (by simp [q1, h3]; omega) h1 h2 (by simp [q1]) q2 Ent.refl
    · repeat (first | rintro _ _ ⟨rfl, rfl⟩ | rintro _ _ ⟨_, rfl, rfl⟩ | rintro _ _ ⟨_, _, rfl, rfl⟩ | intro _ | refine go ?_ | (refine is_draw ?_; apply WC_mix (id := 5) true [] (pl := .p 0 <| .p 1 <| .p 2 <| .p 3 <| .p 4 <| .p 5 <| .e true [(6, .p 7 <| .done)]); exact mixed; kernel_rfl; kernel_rfl; exact Ent.nil) | (refine is_draw ?_; refine WC_draw mixed (by kernel_rfl) ?_))
      rw [cut_low]
      apply WT_k; rfl; exact GIn.none
      apply K_append_in; rfl; rfl; exact inferInstance; exact RdL.cut (rd_open inferInstance q1 q2) hj (Nat.le_refl _) h1; omega; (simp; omega); rfl; rfl
      refine same_intro ?_
      refine ⟨After.still Ent.nil, ?_⟩
      repeat (first | rintro _ _ ⟨rfl, rfl⟩ | rintro _ _ ⟨_, rfl, rfl⟩ | rintro _ _ ⟨_, _, rfl, rfl⟩ | intro _ | refine go ?_ | (refine is_draw ?_; apply WC_mix (id := 5) true [] (pl := .p 0 <| .p 1 <| .p 2 <| .p 3 <| .p 4 <| .p 5 <| .e true [(6, .p 7 <| .done)]); exact mixed; kernel_rfl; kernel_rfl; exact Ent.nil) | (refine is_draw ?_; refine WC_draw mixed (by kernel_rfl) ?_))
      rw [cut_at (by omega)]
      apply WO_k; rfl
      apply K_clear; rfl; rfl; rfl; exact inferInstance; (rw [splice_length (by simp; omega)]; simp; omega); rfl; rfl
      refine same_intro ?_
      repeat (first | rintro _ _ ⟨rfl, rfl⟩ | rintro _ _ ⟨_, rfl, rfl⟩ | rintro _ _ ⟨_, _, rfl, rfl⟩ | intro _ | refine go ?_ | (refine is_draw ?_; apply WC_mix (id := 5) true [] (pl := .p 0 <| .p 1 <| .p 2 <| .p 3 <| .p 4 <| .p 5 <| .e true [(6, .p 7 <| .done)]); exact mixed; kernel_rfl; kernel_rfl; exact Ent.nil) | (refine is_draw ?_; refine WC_draw mixed (by kernel_rfl) ?_))
      (apply WE_ret rfl rfl (by (repeat (first | exact ResOk.nil | (apply ResOk.tmp; rfl) | (apply resOk_cell; rfl; exact inferInstance; rfl; rfl)))))
      · exact ⟨_, _, rfl, rfl⟩
      · exact del_fin hij hj q1 q2 h1 h2 h3 (by rw [rep_len rfl]; simp only [List.length_cons, List.length_nil]; omega) (by omega) (by omega) (by omega) (by omega) (by omega) (by omega)

theorem sl_Clone_op {F : List HP} {v : Value} {n : Nat} {xs : List Value} (k : RdL F 3 v n xs) (hn : n ≤ 1099511627776) : FnF Try.prog 164 [v] [] F (fun r L' => ∃ p c, r = .slice p n c ∧ L' = [Own 126 3 (.slice p n c) n xs]) := by
  refine FnF.mk' Try.func164 rfl rfl Try.ntmps164 rfl ?_
  refine WC_rd (v := v) k fun q1 q2 p c0 e q3 => ?_
  subst e
  cases p with
  | none =>
    obtain rfl := q3 rfl
    obtain rfl : xs = [] := List.eq_nil_of_length_eq_zero (by simpa using q1)
    repeat (first | rintro _ _ ⟨rfl, rfl⟩ | rintro _ _ ⟨_, rfl, rfl⟩ | rintro _ _ ⟨_, _, rfl, rfl⟩ | intro _ | refine go ?_ | (refine is_draw ?_; refine WC_draw mixed (by kernel_rfl) ?_))
    (apply WE_ret rfl rfl (by (repeat (first | exact ResOk.nil | (apply ResOk.tmp; rfl) | (apply resOk_cell; rfl; exact inferInstance; rfl; rfl)))))
    · exact ⟨_, _, rfl, rfl⟩
    · exact own_empty Ent.refl
  | some a =>
    repeat (first | rintro _ _ ⟨rfl, rfl⟩ | rintro _ _ ⟨_, rfl, rfl⟩ | rintro _ _ ⟨_, _, rfl, rfl⟩ | intro _ | refine go ?_ | (refine is_draw ?_; refine WC_draw mixed (by kernel_rfl) ?_))
    simp only [Nat.zero_add, List.nil_append]
    (apply WE_ret rfl rfl (by (repeat (first | exact ResOk.nil | (apply ResOk.tmp; rfl) | (apply resOk_cell; rfl; exact inferInstance; rfl; rfl)))))
    · exact ⟨_, _, rfl, rfl⟩
    · exact Ent.refl

theorem sl_Clone_wbe {F : List HP} {v : Value} {n : Nat} {xs : List Value} (k : RdL F 10 v n xs) (hn : n ≤ 1099511627776) : FnF Try.prog 181 [v] [] F (fun r L' => ∃ p c, r = .slice p n c ∧ L' = [Own 238 10 (.slice p n c) n xs]) := by
  refine FnF.mk' Try.func181 rfl rfl Try.ntmps181 rfl ?_
  refine WC_rd (v := v) k fun q1 q2 p c0 e q3 => ?_
  subst e
  cases p with
  | none =>
    obtain rfl := q3 rfl
    obtain rfl : xs = [] := List.eq_nil_of_length_eq_zero (by simpa using q1)
    repeat (first | rintro _ _ ⟨rfl, rfl⟩ | rintro _ _ ⟨_, rfl, rfl⟩ | rintro _ _ ⟨_, _, rfl, rfl⟩ | intro _ | refine go ?_ | (refine is_draw ?_; refine WC_draw mixed (by kernel_rfl) ?_))
    (apply WE_ret rfl rfl (by (repeat (first | exact ResOk.nil | (apply ResOk.tmp; rfl) | (apply resOk_cell; rfl; exact inferInstance; rfl; rfl)))))
    · exact ⟨_, _, rfl, rfl⟩
    · exact own_empty Ent.refl
  | some a =>
    repeat (first | rintro _ _ ⟨rfl, rfl⟩ | rintro _ _ ⟨_, rfl, rfl⟩ | rintro _ _ ⟨_, _, rfl, rfl⟩ | intro _ | refine go ?_ | (refine is_draw ?_; refine WC_draw mixed (by kernel_rfl) ?_))
    simp only [Nat.zero_add, List.nil_append]
    (apply WE_ret rfl rfl (by (repeat (first | exact ResOk.nil | (apply ResOk.tmp; rfl) | (apply resOk_cell; rfl; exact inferInstance; rfl; rfl)))))
    · exact ⟨_, _, rfl, rfl⟩
    · exact Ent.refl

end Go.Sx
