/- What the document's bag does. My own work. -/
import Derived.Test.YtadedfcjakhfbaaBag
namespace Go.Sx
open Go Go.Proofs
set_option linter.unusedVariables false
set_option linter.unusedSectionVars false
set_option maxRecDepth 100000
set_option maxHeartbeats 4000000
attribute [local irreducible] Go.Exit.then Go.Exit.inBlock Go.Code.wp WC WO WE WQ V LoopQ FnQ Sat Star band bor IntKind.wrap WR Code.rounds WT KO

theorem take_erase {α : Type} (l : List α) (n i : Nat) (hi : i < l.length) : (l.take (i + 1)).eraseIdx n = if i = n then (l.take i).eraseIdx n else (l.take i).eraseIdx n ++ [l[i]] := by
  have hti : (l.take i).length = i := by rw [List.length_take]; omega
  rw [List.take_add_one]
  simp only [hi, List.getElem?_eq_getElem, Option.toList_some]
  split
  · rename_i h; subst h
    rw [List.eraseIdx_append_of_length_le (by omega), hti, List.eraseIdx_of_length_le (l := l.take i) (k := i) (by omega)]
    simp
  · rename_i h
    by_cases h1 : n < i
    · rw [List.eraseIdx_append_of_lt_length (by omega)]
    · rw [List.eraseIdx_of_length_le (by simp; omega), List.eraseIdx_of_length_le (by omega)]
theorem erase_len {α : Type} (l : List α) (i : Nat) : (l.eraseIdx i).length ≤ l.length := List.length_eraseIdx_le _ _

theorem ref02_Same {F : List HP} {v u : Value} {l m : List Int} (k1 : RdL F 1 v l.length (flat ic l)) (k2 : RdL F 1 u m.length (flat ic m)) (hn : l.length ≤ 1099511627776) : FnF Try.prog 25 [v, u] [] F (fun r L' => r = .bool (decide (l = m)) ∧ L' = []) := by
  refine FnF.mk' Try.func25 rfl rfl Try.ntmps25 rfl ?_
  by_cases e : l.length = m.length
  · repeat (first | rintro _ _ ⟨rfl, rfl⟩ | rintro _ _ ⟨_, rfl, rfl⟩ | rintro _ _ ⟨_, _, rfl, rfl⟩ | intro _ | refine go ?_ | (refine is_draw ?_; refine WC_draw mixed (by kernel_rfl) ?_))
    apply WC_loopE (E0 := [(0, _), (1, _)]) (fun E0 (i : Nat) => (5, .int .i64 i) :: E0) (fun _ => F) (fun i => i ≤ l.length ∧ l.take i = m.take i) (fun i => l.length - i) 0
    · (repeat (first | exact Sub.nil | (refine Sub.cons (by first | rfl | (simp only [Nat.zero_add]; rfl)) ?_)))
    · exact ⟨by omega, rfl⟩
    · exact Ent.refl
    · rintro i ⟨hi, h1⟩
      by_cases hlt : i < l.length
      · have hlt' : i < m.length := by omega
        by_cases he : l[i] = m[i]
        · repeat (first | rintro _ _ ⟨rfl, rfl⟩ | rintro _ _ ⟨_, rfl, rfl⟩ | rintro _ _ ⟨_, _, rfl, rfl⟩ | intro _ | refine go ?_ | (refine is_draw ?_; refine WC_draw mixed (by kernel_rfl) ?_))
          refine WE_loop (i + 1) (by omega) ⟨by omega, ?_⟩ ?_ Ent.refl
          · rw [List.take_add_one, List.take_add_one, h1]; simp [hlt, hlt', he]
          · (repeat (first | exact Sub.nil | (refine Sub.cons (by first | rfl | (simp only [Nat.zero_add]; rfl)) ?_)))
        · repeat (first | rintro _ _ ⟨rfl, rfl⟩ | rintro _ _ ⟨_, rfl, rfl⟩ | rintro _ _ ⟨_, _, rfl, rfl⟩ | intro _ | refine go ?_ | (refine is_draw ?_; refine WC_draw mixed (by kernel_rfl) ?_))
          have hne : l ≠ m := fun e => by subst e; exact he rfl
          (apply WE_ret rfl rfl (by (repeat (first | exact ResOk.nil | (apply ResOk.tmp; rfl) | (apply resOk_cell; rfl; exact inferInstance; rfl; rfl)))); (first | exact ⟨rfl, rfl⟩ | exact ⟨congrArg Value.bool (by decide), rfl⟩ | exact ⟨_, rfl, rfl⟩ | exact ⟨_, _, rfl, rfl⟩ | exact ⟨by first | (simp [hne]; done) | (simp [hne] <;> omega), rfl⟩); (repeat (first | exact Ent.refl | exact Ent.nil | apply Ent.pick | apply Ent.drop)))
      · have hil : i = l.length := by omega
        subst hil
        have : l = m := by rw [List.take_length, e, List.take_length] at h1; exact h1
        repeat (first | rintro _ _ ⟨rfl, rfl⟩ | rintro _ _ ⟨_, rfl, rfl⟩ | rintro _ _ ⟨_, _, rfl, rfl⟩ | intro _ | refine go ?_ | (refine is_draw ?_; refine WC_draw mixed (by kernel_rfl) ?_))
        (apply WE_ret rfl rfl (by (repeat (first | exact ResOk.nil | (apply ResOk.tmp; rfl) | (apply resOk_cell; rfl; exact inferInstance; rfl; rfl)))); (first | exact ⟨rfl, rfl⟩ | exact ⟨congrArg Value.bool (by decide), rfl⟩ | exact ⟨_, rfl, rfl⟩ | exact ⟨_, _, rfl, rfl⟩ | exact ⟨by first | (simp [this]; done) | (simp [this] <;> omega), rfl⟩); (repeat (first | exact Ent.refl | exact Ent.nil | apply Ent.pick | apply Ent.drop)))
  · have hne : l ≠ m := fun h => e (by rw [h])
    repeat (first | rintro _ _ ⟨rfl, rfl⟩ | rintro _ _ ⟨_, rfl, rfl⟩ | rintro _ _ ⟨_, _, rfl, rfl⟩ | intro _ | refine go ?_ | (refine is_draw ?_; refine WC_draw mixed (by kernel_rfl) ?_))
    (apply WE_ret rfl rfl (by (repeat (first | exact ResOk.nil | (apply ResOk.tmp; rfl) | (apply resOk_cell; rfl; exact inferInstance; rfl; rfl)))); (first | exact ⟨rfl, rfl⟩ | exact ⟨congrArg Value.bool (by decide), rfl⟩ | exact ⟨_, rfl, rfl⟩ | exact ⟨_, _, rfl, rfl⟩ | exact ⟨by first | (simp [hne]; done) | (simp [hne] <;> omega), rfl⟩); (repeat (first | exact Ent.refl | exact Ent.nil | apply Ent.pick | apply Ent.drop)))

abbrev RBag (b : Nat) (room : Int) (l : List Int) : HP := RL 40 3 1 ic b room l

theorem ref06_New {F : List HP} {room : Int} (h : 1 ≤ room ∧ room ≤ 4096) : FnF Try.prog 17 [.int .i64 room] [] F (fun r L' => ∃ b, r = .tuple [.pointer (some ⟨b, 0, none⟩), .int .i64 0].toArray ∧ L' = [RBag b room []]) := by
  refine FnF.mk' Try.func17 rfl rfl Try.ntmps17 rfl ?_
  repeat (first | rintro _ _ ⟨rfl, rfl⟩ | rintro _ _ ⟨_, rfl, rfl⟩ | rintro _ _ ⟨_, _, rfl, rfl⟩ | intro _ | refine go ?_ | (refine is_draw ?_; refine WC_draw mixed (by kernel_rfl) ?_))
  (apply WE_ret rfl rfl (by (repeat (first | exact ResOk.nil | (apply ResOk.tmp; rfl) | (apply resOk_cell; rfl; exact inferInstance; rfl; rfl)))))
  · exact ⟨_, rfl, rfl⟩
  · exact RL_in (l := []) (Ent.cons (own_empty Ent.refl)) rfl rfl (by simp; omega)
theorem ref06_New_no {F : List HP} {room : Int} (h : ¬ (1 ≤ room ∧ room ≤ 4096)) : FnF Try.prog 17 [.int .i64 room] [] F (fun r L' => r = .tuple [.pointer none, .int .i64 1].toArray ∧ L' = []) := by
  refine FnF.mk' Try.func17 rfl rfl Try.ntmps17 rfl ?_
  repeat' (first | rintro _ _ ⟨rfl, rfl⟩ | rintro _ _ ⟨_, rfl, rfl⟩ | rintro _ _ ⟨_, _, rfl, rfl⟩ | intro _ | refine go ?_ | (refine is_draw ?_; refine WC_draw mixed (by kernel_rfl) ?_) | refine spl ?_ ?_ | fail)
  all_goals first | omega | (apply WE_ret rfl rfl (by (repeat (first | exact ResOk.nil | (apply ResOk.tmp; rfl) | (apply resOk_cell; rfl; exact inferInstance; rfl; rfl)))); (first | exact ⟨rfl, rfl⟩ | exact ⟨congrArg Value.bool (by decide), rfl⟩ | exact ⟨_, rfl, rfl⟩ | exact ⟨_, _, rfl, rfl⟩ | exact ⟨by first | (simp []; done) | (simp [] <;> omega), rfl⟩); (repeat (first | exact Ent.refl | exact Ent.nil | apply Ent.pick | apply Ent.drop)))

theorem ref06_Put {F : List HP} {b : Nat} {room : Int} {l : List Int} {x : Int} : FnF Try.prog 19 [.pointer (some ⟨b, 0, none⟩), .int .i64 x] [RBag b room l] F (fun r L' => r = .int .i64 (putE room l) ∧ L' = [RBag b room (putL room l x)]) := by
  refine FnF.mk' Try.func19 rfl rfl Try.ntmps19 rfl ?_
  refine RL_open fun p c hl => ?_
  by_cases e : (l.length : Int) = room
  · repeat (first | rintro _ _ ⟨rfl, rfl⟩ | rintro _ _ ⟨_, rfl, rfl⟩ | rintro _ _ ⟨_, _, rfl, rfl⟩ | intro _ | refine go ?_ | (refine is_draw ?_; refine WC_draw mixed (by kernel_rfl) ?_))
    (apply WE_ret rfl rfl (by (repeat (first | exact ResOk.nil | (apply ResOk.tmp; rfl) | (apply resOk_cell; rfl; exact inferInstance; rfl; rfl)))))
    · exact ⟨by simp [putE, e], rfl⟩
    · simp only [putL, e, if_true]; (apply RL_in; (focus ((repeat (first | (with_reducible exact Ent.refl) | exact Ent.nil | (apply ent_pickE; (focus ((repeat (first | (with_reducible exact pk_here) | (apply pk_there))); done))) | apply Ent.drop)); done)); all_goals (first | rfl | (with_reducible assumption) | (simp; done) | (simp; omega) | omega | (constructor <;> (simp) <;> omega)))
  · repeat (first | rintro _ _ ⟨rfl, rfl⟩ | rintro _ _ ⟨_, rfl, rfl⟩ | rintro _ _ ⟨_, _, rfl, rfl⟩ | intro _ | refine go ?_ | (refine is_draw ?_; refine WC_draw mixed (by kernel_rfl) ?_))
    (apply WE_ret rfl rfl (by (repeat (first | exact ResOk.nil | (apply ResOk.tmp; rfl) | (apply resOk_cell; rfl; exact inferInstance; rfl; rfl)))))
    · exact ⟨by simp [putE, e], rfl⟩
    · simp only [putL, e, if_false]
      (apply RL_in; (focus ((repeat (first | (with_reducible exact Ent.refl) | exact Ent.nil | (apply ent_pickE; (focus ((repeat (first | (with_reducible exact pk_here) | (apply pk_there))); done))) | apply Ent.drop)); done)); all_goals (first | rfl | (with_reducible assumption) | (simp; done) | (simp; omega) | omega | (constructor <;> (simp) <;> omega)))

theorem ref06_Take {F : List HP} {b : Nat} {room : Int} {l : List Int} {n : Int} : FnF Try.prog 21 [.pointer (some ⟨b, 0, none⟩), .int .i64 n] [RBag b room l] F (fun r L' => r = .tuple [iv (atL 0 l n), .int .i64 (takeE l n)].toArray ∧ L' = [RBag b room (takeL l n)]) := by
  refine FnF.mk' Try.func21 rfl rfl Try.ntmps21 rfl ?_
  refine RL_open fun p c hl => ?_
  cases e : inL l n with
  | true =>
    obtain ⟨h1, h2⟩ := inL_iff.1 e
    obtain ⟨n, rfl⟩ : ∃ i : Nat, n = i := ⟨n.toNat, by omega⟩
    repeat (first | rintro _ _ ⟨rfl, rfl⟩ | rintro _ _ ⟨_, rfl, rfl⟩ | rintro _ _ ⟨_, _, rfl, rfl⟩ | intro _ | refine go ?_ | (refine is_draw ?_; refine WC_draw mixed (by kernel_rfl) ?_))
    apply WC_loopE (E0 := [(0, _), (1, _)]) (fun E0 (q : Nat × Option Addr × Nat) => (7, .int .i64 q.1) :: (6, .slice q.2.1 ((l.take q.1).eraseIdx n).length q.2.2) :: E0)
      (fun q => Own 3 1 (.slice q.2.1 ((l.take q.1).eraseIdx n).length q.2.2) ((l.take q.1).eraseIdx n).length (flat ic ((l.take q.1).eraseIdx n)) :: Cells b 40 [.int .i64 room, .slice p l.length c] :: Own 3 1 (.slice p l.length c) l.length (flat ic l) :: F) (fun q => q.1 ≤ l.length) (fun q => l.length - q.1) (0, _, _)
    · (repeat (first | exact Sub.nil | (refine Sub.cons (by first | rfl | (simp only [Nat.zero_add]; rfl)) ?_)))
    · exact Nat.zero_le _
    · dsimp only; simp only [List.take_zero, List.eraseIdx_nil, List.length_nil, flat_nil]; (repeat (first | (with_reducible exact Ent.refl) | exact Ent.nil | (apply ent_pickE; (focus ((repeat (first | (with_reducible exact pk_here) | (apply pk_there))); done))) | apply Ent.drop))
    · rintro ⟨i, p', c'⟩ hi
      dsimp only at hi ⊢
      have hlen := erase_len (l.take i) n
      rw [List.length_take] at hlen
      by_cases hlt : i < l.length
      · by_cases he : i = n
        · repeat (first | rintro _ _ ⟨rfl, rfl⟩ | rintro _ _ ⟨_, rfl, rfl⟩ | rintro _ _ ⟨_, _, rfl, rfl⟩ | intro _ | refine go ?_ | (refine is_draw ?_; refine WC_draw mixed (by kernel_rfl) ?_))
          refine WE_loop (i + 1, p', c') (by dsimp only; omega) (by dsimp only; omega) ?_ ?_
          · dsimp only; rw [take_erase l n i hlt, if_pos he]; (repeat (first | exact Sub.nil | (refine Sub.cons (by first | rfl | (simp only [Nat.zero_add]; rfl)) ?_)))
          · dsimp only; rw [take_erase l n i hlt, if_pos he]; exact Ent.refl
        · repeat (first | rintro _ _ ⟨rfl, rfl⟩ | rintro _ _ ⟨_, rfl, rfl⟩ | rintro _ _ ⟨_, _, rfl, rfl⟩ | intro _ | refine go ?_ | (refine is_draw ?_; refine WC_draw mixed (by kernel_rfl) ?_))
          rename_i p2 c2
          refine WE_loop (i + 1, p2, c2) (by dsimp only; omega) (by dsimp only; omega) ?_ ?_
          · dsimp only; rw [take_erase l n i hlt, if_neg he]
            rw [List.length_append, List.length_singleton]
            (repeat (first | exact Sub.nil | (refine Sub.cons (by first | rfl | (simp only [Nat.zero_add]; rfl)) ?_)))
          · dsimp only; rw [take_erase l n i hlt, if_neg he]
            rw [List.length_append, List.length_singleton, flat_append, flat_one]
            (repeat (first | (with_reducible exact Ent.refl) | exact Ent.nil | (apply ent_pickE; (focus ((repeat (first | (with_reducible exact pk_here) | (apply pk_there))); done))) | apply Ent.drop))
      · repeat (first | rintro _ _ ⟨rfl, rfl⟩ | rintro _ _ ⟨_, rfl, rfl⟩ | rintro _ _ ⟨_, _, rfl, rfl⟩ | intro _ | refine go ?_ | (refine is_draw ?_; refine WC_draw mixed (by kernel_rfl) ?_))
        have hil : i = l.length := by omega
        subst hil
        rw [List.take_length]
        (apply WE_ret rfl rfl (by (repeat (first | exact ResOk.nil | (apply ResOk.tmp; rfl) | (apply resOk_cell; rfl; exact inferInstance; rfl; rfl)))))
        · exact ⟨by simp [atL, takeE, e, show n < l.length by omega], rfl⟩
        · simp only [takeL, e, if_true, Int.toNat_natCast]
          have hlen := erase_len l n
          (apply RL_in; (focus ((repeat (first | (with_reducible exact Ent.refl) | exact Ent.nil | (apply ent_pickE; (focus ((repeat (first | (with_reducible exact pk_here) | (apply pk_there))); done))) | apply Ent.drop)); done)); all_goals (first | rfl | (with_reducible assumption) | (simp; done) | (simp; omega) | omega | (constructor <;> (simp) <;> omega)))
  | false =>
    have h := inL_not.1 e
    repeat' (first | rintro _ _ ⟨rfl, rfl⟩ | rintro _ _ ⟨_, rfl, rfl⟩ | rintro _ _ ⟨_, _, rfl, rfl⟩ | intro _ | refine go ?_ | (refine is_draw ?_; refine WC_draw mixed (by kernel_rfl) ?_) | refine spl ?_ ?_ | fail)
    all_goals first | (exfalso; omega) | skip
    all_goals (apply WE_ret rfl rfl (by (repeat (first | exact ResOk.nil | (apply ResOk.tmp; rfl) | (apply resOk_cell; rfl; exact inferInstance; rfl; rfl)))))
    all_goals first | exact ⟨by simp [atL, takeE, e], rfl⟩ | (simp only [takeL, e, Bool.false_eq_true, if_false]; (apply RL_in; (focus ((repeat (first | (with_reducible exact Ent.refl) | exact Ent.nil | (apply ent_pickE; (focus ((repeat (first | (with_reducible exact pk_here) | (apply pk_there))); done))) | apply Ent.drop)); done)); all_goals (first | rfl | (with_reducible assumption) | (simp; done) | (simp; omega) | omega | (constructor <;> (simp) <;> omega))))

theorem ref06_FindO {F : List HP} {b : Nat} {room : Int} {l : List Int} {x : Int} {p : Option Addr} {c : Nat} (hl : (l.length : Int) ≤ room ∧ room ≤ 4096) : FnF Try.prog 24 [.pointer (some ⟨b, 0, none⟩), .int .i64 x] [Cells b 40 [.int .i64 room, .slice p l.length c], Own 3 1 (.slice p l.length c) l.length (flat ic l)] F (fun r L' => r = .int .i64 (indexBy (· = x) l) ∧ L' = [Cells b 40 [.int .i64 room, .slice p l.length c], Own 3 1 (.slice p l.length c) l.length (flat ic l)]) := by
  refine FnF.mk' Try.func24 rfl rfl Try.ntmps24 rfl ?_
  repeat (first | rintro _ _ ⟨rfl, rfl⟩ | rintro _ _ ⟨_, rfl, rfl⟩ | rintro _ _ ⟨_, _, rfl, rfl⟩ | intro _ | refine go ?_ | (refine is_draw ?_; refine WC_draw mixed (by kernel_rfl) ?_))
  apply WC_loopE (E0 := [(0, _), (1, _)]) (fun E0 (i : Nat) => (5, .int .i64 i) :: E0) (fun _ => Cells b 40 [.int .i64 room, .slice p l.length c] :: Own 3 1 (.slice p l.length c) l.length (flat ic l) :: F) (fun i => i ≤ l.length ∧ ∀ j (h : j < l.length), j < i → decide (l[j] = x) = false) (fun i => l.length - i) 0
  · (repeat (first | exact Sub.nil | (refine Sub.cons (by first | rfl | (simp only [Nat.zero_add]; rfl)) ?_)))
  · exact ⟨by omega, fun j _ hj => by omega⟩
  · exact Ent.refl
  · rintro i ⟨hi, h1⟩
    by_cases hlt : i < l.length
    · by_cases he : l[i] = x
      · repeat (first | rintro _ _ ⟨rfl, rfl⟩ | rintro _ _ ⟨_, rfl, rfl⟩ | rintro _ _ ⟨_, _, rfl, rfl⟩ | intro _ | refine go ?_ | (refine is_draw ?_; refine WC_draw mixed (by kernel_rfl) ?_))
        (apply WE_ret rfl rfl (by (repeat (first | exact ResOk.nil | (apply ResOk.tmp; rfl) | (apply resOk_cell; rfl; exact inferInstance; rfl; rfl)))))
        · exact ⟨by rw [indexBy_at hlt h1 (by simp [he])]; rfl, rfl⟩
        · exact Ent.refl
      · repeat (first | rintro _ _ ⟨rfl, rfl⟩ | rintro _ _ ⟨_, rfl, rfl⟩ | rintro _ _ ⟨_, _, rfl, rfl⟩ | intro _ | refine go ?_ | (refine is_draw ?_; refine WC_draw mixed (by kernel_rfl) ?_))
        refine WE_loop (i + 1) (by omega) ⟨by omega, fun j hj hji => ?_⟩ ?_ Ent.refl
        · by_cases e : j = i
          · subst e; simpa using he
          · exact h1 j hj (by omega)
        · (repeat (first | exact Sub.nil | (refine Sub.cons (by first | rfl | (simp only [Nat.zero_add]; rfl)) ?_)))
    · have e : i = l.length := by omega
      subst e
      repeat (first | rintro _ _ ⟨rfl, rfl⟩ | rintro _ _ ⟨_, rfl, rfl⟩ | rintro _ _ ⟨_, _, rfl, rfl⟩ | intro _ | refine go ?_ | (refine is_draw ?_; refine WC_draw mixed (by kernel_rfl) ?_))
      (apply WE_ret rfl rfl (by (repeat (first | exact ResOk.nil | (apply ResOk.tmp; rfl) | (apply resOk_cell; rfl; exact inferInstance; rfl; rfl)))))
      · exact ⟨by rw [indexBy_none h1]; rfl, rfl⟩
      · exact Ent.refl
theorem ref06_Find {F : List HP} {b : Nat} {room : Int} {l : List Int} {x : Int} : FnF Try.prog 24 [.pointer (some ⟨b, 0, none⟩), .int .i64 x] [RBag b room l] F (fun r L' => r = .int .i64 (indexBy (· = x) l) ∧ L' = [RBag b room l]) :=
  RL_ro (fun p c hl => ref06_FindO hl) (enters_of Try.func24 rfl rfl)
end Go.Sx
