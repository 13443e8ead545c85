/- The laws of chapter 6, of ints. My own work. -/
import Derived.Test.YtadedfcjakhfbaaBagR
namespace Go.Sx
open Go Go.Proofs
set_option linter.unusedVariables false
set_option linter.unusedSectionVars false
set_option maxRecDepth 100000
set_option maxHeartbeats 4000000
attribute [local irreducible] Go.Exit.then Go.Exit.inBlock Go.Code.wp WC WO WE WQ V LoopQ FnQ Sat Star band bor IntKind.wrap WR Code.rounds WT KO

theorem law06_awake {F : List HP} : FnF Try.prog 15 [] [] F (fun r L' => r = .bool true ∧ L' = []) := by
  refine FnF.mk' Try.func15 rfl rfl Try.ntmps15 rfl ?_
  repeat (first | rintro _ _ ⟨rfl, rfl⟩ | rintro _ _ ⟨_, rfl, rfl⟩ | rintro _ _ ⟨_, _, rfl, rfl⟩ | intro _ | refine go ?_ | (refine is_draw ?_; refine WC_draw mixed (by kernel_rfl) ?_) | refine cal @bag_New_int ?_ | refine cal @bag_New_no_string ?_ | refine cal @bag_Put_int ?_ | refine cal @bag_Take_int ?_ | refine cal @bag_At_int ?_ | refine cal @bag_List_int ?_ | refine cal @bag_Left_int ?_ | refine cal @bag_Find_int ?_ | refine cal (ref02_Same (m := [5, 5])) ?_)
  (apply WE_ret rfl rfl (by (repeat (first | exact ResOk.nil | (apply ResOk.tmp; rfl) | (apply resOk_cell; rfl; exact inferInstance; rfl; rfl)))); (first | exact ⟨rfl, rfl⟩ | exact ⟨congrArg Value.bool (by decide), rfl⟩ | exact ⟨_, rfl, rfl⟩ | exact ⟨_, _, rfl, rfl⟩ | exact ⟨by first | (simp [putL, takeL, inL]; done) | (simp [putL, takeL, inL] <;> omega), rfl⟩); (repeat (first | exact Ent.refl | exact Ent.nil | apply Ent.pick | apply Ent.drop)))

theorem law06_BagFirst {W : World} {F : List HP} {room : Int} (hr : I64 room) {v : Value} {l : List Int} (hl : l.length ≤ 9223372036854775807) (k : ROld W 1 v l.length (flat ic l)) :
    FnF Try.prog 5 [.int .i64 room, v] [Old W] F (fun r L' => r = .bool true ∧ L' = [Old W]) := by
  unfold I64 at hr
  refine FnF.mk' Try.func5 rfl rfl Try.ntmps5 rfl ?_
  by_cases hm : 100 < l.length
  · repeat (first | rintro _ _ ⟨rfl, rfl⟩ | rintro _ _ ⟨_, rfl, rfl⟩ | rintro _ _ ⟨_, _, rfl, rfl⟩ | intro _ | refine go ?_ | (refine is_draw ?_; refine WC_draw mixed (by kernel_rfl) ?_) | refine cal @law06_awake ?_)
    (apply WE_ret rfl rfl (by (repeat (first | exact ResOk.nil | (apply ResOk.tmp; rfl) | (apply resOk_cell; rfl; exact inferInstance; rfl; rfl)))); (first | exact ⟨rfl, rfl⟩ | exact ⟨congrArg Value.bool (by decide), rfl⟩ | exact ⟨_, rfl, rfl⟩ | exact ⟨_, _, rfl, rfl⟩ | exact ⟨by first | (simp []; done) | (simp [] <;> omega), rfl⟩); (repeat (first | exact Ent.refl | exact Ent.nil | apply Ent.pick | apply Ent.drop)))
  · by_cases h1 : 1 ≤ room ∧ room ≤ 4096
    · obtain ⟨R, rfl⟩ : ∃ R : Nat, room = R := ⟨room.toNat, by omega⟩
      repeat (first | rintro _ _ ⟨rfl, rfl⟩ | rintro _ _ ⟨_, rfl, rfl⟩ | rintro _ _ ⟨_, _, rfl, rfl⟩ | intro _ | refine go ?_ | (refine is_draw ?_; refine WC_draw mixed (by kernel_rfl) ?_) | refine cal @law06_awake ?_ | refine cal @bag_New_int ?_)
      rename_i b
      apply WC_loopE (E0 := [(0, _), (1, _), (5, _), (26, _), (27, _)]) (fun E0 (i : Nat) => (28, .int .i64 i) :: E0) (fun i => Bag_int b R (l.take (min i R)) :: Old W :: F) (fun i => i ≤ l.length) (fun i => l.length - i) 0
      · (repeat (first | exact Sub.nil | (refine Sub.cons (by first | rfl | (simp only [Nat.zero_add]; rfl)) ?_)))
      · exact Nat.zero_le _
      · simp only [Nat.zero_min, List.take_zero]; (repeat (first | (with_reducible exact Ent.refl) | exact Ent.nil | (apply ent_pickE; (focus ((repeat (first | (with_reducible exact pk_here) | (apply pk_there))); done))) | apply Ent.drop))
      · intro i hi
        have hlen : (l.take (min i R)).length = min i R := by rw [List.length_take]; omega
        by_cases hlt : i < l.length
        · repeat (first | rintro _ _ ⟨rfl, rfl⟩ | rintro _ _ ⟨_, rfl, rfl⟩ | rintro _ _ ⟨_, _, rfl, rfl⟩ | intro _ | refine go ?_ | (refine is_draw ?_; refine WC_draw mixed (by kernel_rfl) ?_) | refine cal @bag_Put_int ?_)
          refine WE_loop (i + 1) (by omega) (by omega) ?_ ?_
          · (repeat (first | exact Sub.nil | (refine Sub.cons (by first | rfl | (simp only [Nat.zero_add]; rfl)) ?_)))
          · have : putL (R : Int) (l.take (min i R)) l[i] = l.take (min (i + 1) R) := by
              unfold putL
              rw [hlen]
              split
              · rw [show min (i + 1) R = min i R by omega]
              · rw [show min (i + 1) R = i + 1 by omega, show min i R = i by omega, List.take_add_one]; simp [hlt]
            rw [this]; exact Ent.refl
        · have hil : i = l.length := by omega
          subst hil
          repeat (first | rintro _ _ ⟨rfl, rfl⟩ | rintro _ _ ⟨_, rfl, rfl⟩ | rintro _ _ ⟨_, _, rfl, rfl⟩ | intro _ | refine go ?_ | (refine is_draw ?_; refine WC_draw mixed (by kernel_rfl) ?_))
          apply WC_loopE (E0 := [(0, _), (1, _), (5, _)]) (fun E0 (i : Nat) => (9, .int .i64 i) :: E0) (fun i => Bag_int b R ((l.take (min l.length R)).drop i) :: Old W :: F) (fun i => i ≤ min l.length R) (fun i => l.length - i) 0
          · (repeat (first | exact Sub.nil | (refine Sub.cons (by first | rfl | (simp only [Nat.zero_add]; rfl)) ?_)))
          · exact Nat.zero_le _
          · exact Ent.refl
          · intro i hi
            have hlen : ((l.take (min l.length R)).drop i).length = min l.length R - i := by rw [List.length_drop, List.length_take]; omega
            by_cases hlt : i < min l.length R
            · have hlt' : i < l.length := by omega
              have hin : inL ((l.take (min l.length R)).drop i) 0 = true := inL_iff.2 (by omega)
              have e1 : atL 0 ((l.take (min l.length R)).drop i) 0 = l[i] := by simp [atL, hin, List.getElem?_take, hlt, hlt']
              have e2 : takeE ((l.take (min l.length R)).drop i) 0 = 0 := by simp [takeE, hin]
              have e3 : takeL ((l.take (min l.length R)).drop i) 0 = (l.take (min l.length R)).drop (i + 1) := by
                unfold takeL
                rw [hin, if_pos rfl, ← List.tail_drop]; simp
              have hB := bag_Take_int (F := Old W :: F) (b := b) (room := R) (l := (l.take (min l.length R)).drop i) (n := 0)
              rw [e1, e2, e3] at hB
              repeat (first | rintro _ _ ⟨rfl, rfl⟩ | rintro _ _ ⟨_, rfl, rfl⟩ | rintro _ _ ⟨_, _, rfl, rfl⟩ | intro _ | refine go ?_ | (refine is_draw ?_; refine WC_draw mixed (by kernel_rfl) ?_) | refine cal @hB ?_)
              refine WE_loop (i + 1) (by omega) (by omega) ?_ Ent.refl
              (repeat (first | exact Sub.nil | (refine Sub.cons (by first | rfl | (simp only [Nat.zero_add]; rfl)) ?_)))
            · have hin : inL ((l.take (min l.length R)).drop i) 0 = false := inL_not.2 (by omega)
              have e2 : takeE ((l.take (min l.length R)).drop i) 0 = 5 := by simp [takeE, hin]
              repeat (first | rintro _ _ ⟨rfl, rfl⟩ | rintro _ _ ⟨_, rfl, rfl⟩ | rintro _ _ ⟨_, _, rfl, rfl⟩ | intro _ | refine go ?_ | (refine is_draw ?_; refine WC_draw mixed (by kernel_rfl) ?_) | refine cal @bag_Take_int ?_)
              (apply WE_ret rfl rfl (by (repeat (first | exact ResOk.nil | (apply ResOk.tmp; rfl) | (apply resOk_cell; rfl; exact inferInstance; rfl; rfl)))); (first | exact ⟨rfl, rfl⟩ | exact ⟨congrArg Value.bool (by decide), rfl⟩ | exact ⟨_, rfl, rfl⟩ | exact ⟨_, _, rfl, rfl⟩ | exact ⟨by first | (simp [e2]; done) | (simp [e2] <;> omega), rfl⟩); (repeat (first | exact Ent.refl | exact Ent.nil | apply Ent.pick | apply Ent.drop)))
    · repeat (first | rintro _ _ ⟨rfl, rfl⟩ | rintro _ _ ⟨_, rfl, rfl⟩ | rintro _ _ ⟨_, _, rfl, rfl⟩ | intro _ | refine go ?_ | (refine is_draw ?_; refine WC_draw mixed (by kernel_rfl) ?_) | refine cal @law06_awake ?_ | refine cal @bag_New_no_int ?_)
      (apply WE_ret rfl rfl (by (repeat (first | exact ResOk.nil | (apply ResOk.tmp; rfl) | (apply resOk_cell; rfl; exact inferInstance; rfl; rfl)))); (first | exact ⟨rfl, rfl⟩ | exact ⟨congrArg Value.bool (by decide), rfl⟩ | exact ⟨_, rfl, rfl⟩ | exact ⟨_, _, rfl, rfl⟩ | exact ⟨by first | (simp []; done) | (simp [] <;> omega), rfl⟩); (repeat (first | exact Ent.refl | exact Ent.nil | apply Ent.pick | apply Ent.drop)))

theorem law06_BagDoes {W : World} {F : List HP} {room : Int} (hr : I64 room) {v : Value} {ops : List BOp} (hw : ∀ o ∈ ops, o.wf) (hl : ops.length ≤ 9223372036854775807) (k : ROld W 2 v ops.length (flat opc ops)) :
    FnF Try.prog 3 [.int .i64 room, v] [Old W] F (fun r L' => r = .bool true ∧ L' = [Old W]) := by
  unfold I64 at hr
  refine FnF.mk' Try.func3 rfl rfl Try.ntmps3 rfl ?_
  by_cases hm : 100 < ops.length
  · repeat (first | rintro _ _ ⟨rfl, rfl⟩ | rintro _ _ ⟨_, rfl, rfl⟩ | rintro _ _ ⟨_, _, rfl, rfl⟩ | intro _ | refine go ?_ | (refine is_draw ?_; apply WC_mix (id := 23) false _ (pl := .p 0 <| .p 1 <| .p 2 <| .p 3 <| .p 4 <| .p 5 <| .p 6 <| .p 7 <| .r 8 <| .p 9 <| .p 10 <| .p 11 <| .p 12 <| .p 13 <| .p 14 <| .p 15 <| .p 16 <| .p 17 <| .p 18 <| .p 19 <| .p 21 <| .r 20 <| .p 22 <| .r 23 <| .p 24 <| .p 25 <| .p 26 <| .p 27 <| .p 28 <| .p 29 <| .p 30 <| .p 31 <| .p 32 <| .p 33 <| .p 34 <| .p 35 <| .p 36 <| .p 37 <| .p 39 <| .p 40 <| .e true [(38, .e true [(41, .p 42 <| .p 43 <| .p 44 <| .p 45 <| .p 47 <| .p 48 <| .p 49 <| .r 50 <| .e true [(46, .e true [(51, .p 52 <| .p 53 <| .p 54 <| .p 55 <| .p 57 <| .p 58 <| .p 59 <| .p 60 <| .r 61 <| .p 62 <| .p 63 <| .e true [(56, .p 64 <| .p 65 <| .done)])])])])]); exact mixed; kernel_rfl; kernel_rfl; exact Ent.refl) | (refine is_draw ?_; refine WC_draw mixed (by kernel_rfl) ?_) | refine cal @law06_awake ?_)
    (apply WE_ret rfl rfl (by (repeat (first | exact ResOk.nil | (apply ResOk.tmp; rfl) | (apply resOk_cell; rfl; exact inferInstance; rfl; rfl)))); (first | exact ⟨rfl, rfl⟩ | exact ⟨congrArg Value.bool (by decide), rfl⟩ | exact ⟨_, rfl, rfl⟩ | exact ⟨_, _, rfl, rfl⟩ | exact ⟨by first | (simp []; done) | (simp [] <;> omega), rfl⟩); (repeat (first | exact Ent.refl | exact Ent.nil | apply Ent.pick | apply Ent.drop)))
  · by_cases h1 : 1 ≤ room ∧ room ≤ 4096
    · obtain ⟨R, rfl⟩ : ∃ R : Nat, room = R := ⟨room.toNat, by omega⟩
      repeat (first | rintro _ _ ⟨rfl, rfl⟩ | rintro _ _ ⟨_, rfl, rfl⟩ | rintro _ _ ⟨_, _, rfl, rfl⟩ | intro _ | refine go ?_ | (refine is_draw ?_; apply WC_mix (id := 23) false _ (pl := .p 0 <| .p 1 <| .p 2 <| .p 3 <| .p 4 <| .p 5 <| .p 6 <| .p 7 <| .r 8 <| .p 9 <| .p 10 <| .p 11 <| .p 12 <| .p 13 <| .p 14 <| .p 15 <| .p 16 <| .p 17 <| .p 18 <| .p 19 <| .p 21 <| .r 20 <| .p 22 <| .r 23 <| .p 24 <| .p 25 <| .p 26 <| .p 27 <| .p 28 <| .p 29 <| .p 30 <| .p 31 <| .p 32 <| .p 33 <| .p 34 <| .p 35 <| .p 36 <| .p 37 <| .p 39 <| .p 40 <| .e true [(38, .e true [(41, .p 42 <| .p 43 <| .p 44 <| .p 45 <| .p 47 <| .p 48 <| .p 49 <| .r 50 <| .e true [(46, .e true [(51, .p 52 <| .p 53 <| .p 54 <| .p 55 <| .p 57 <| .p 58 <| .p 59 <| .p 60 <| .r 61 <| .p 62 <| .p 63 <| .e true [(56, .p 64 <| .p 65 <| .done)])])])])]); exact mixed; kernel_rfl; kernel_rfl; exact Ent.refl) | (refine is_draw ?_; refine WC_draw mixed (by kernel_rfl) ?_) | refine cal @law06_awake ?_ | refine cal @bag_New_int ?_ | refine cal @ref06_New ?_)
      rename_i b b2
      apply WC_loopE (E0 := [(0, _), (1, _), (5, _), (7, _)]) (fun E0 (q : Nat × List Int) => (9, .int .i64 q.1) :: E0) (fun q => Bag_int b R q.2 :: RBag b2 R q.2 :: Old W :: F) (fun q => q.1 ≤ ops.length ∧ q.2.length ≤ R) (fun q => ops.length - q.1) (0, [])
      · (repeat (first | exact Sub.nil | (refine Sub.cons (by first | rfl | (simp only [Nat.zero_add]; rfl)) ?_)))
      · exact ⟨Nat.zero_le _, Nat.zero_le _⟩
      · dsimp only; (repeat (first | (with_reducible exact Ent.refl) | exact Ent.nil | (apply ent_pickE; (focus ((repeat (first | (with_reducible exact pk_here) | (apply pk_there))); done))) | apply Ent.drop))
      · rintro ⟨i, m⟩ ⟨hi, hmR⟩
        dsimp only at hi hmR ⊢
        have hmR' : (m.length : Int) ≤ R := by omega
        by_cases hlt : i < ops.length
        · have hon : I64 ops[i].n := (hw _ (List.getElem_mem hlt)).2
          have hn63 := hon
          unfold I64 at hn63
          repeat (first | rintro _ _ ⟨rfl, rfl⟩ | rintro _ _ ⟨_, rfl, rfl⟩ | rintro _ _ ⟨_, _, rfl, rfl⟩ | intro _ | refine go ?_ | (refine is_draw ?_; apply WC_mix (id := 23) false _ (pl := .p 0 <| .p 1 <| .p 2 <| .p 3 <| .p 4 <| .p 5 <| .p 6 <| .p 7 <| .r 8 <| .p 9 <| .p 10 <| .p 11 <| .p 12 <| .p 13 <| .p 14 <| .p 15 <| .p 16 <| .p 17 <| .p 18 <| .p 19 <| .p 21 <| .r 20 <| .p 22 <| .r 23 <| .p 24 <| .p 25 <| .p 26 <| .p 27 <| .p 28 <| .p 29 <| .p 30 <| .p 31 <| .p 32 <| .p 33 <| .p 34 <| .p 35 <| .p 36 <| .p 37 <| .p 39 <| .p 40 <| .e true [(38, .e true [(41, .p 42 <| .p 43 <| .p 44 <| .p 45 <| .p 47 <| .p 48 <| .p 49 <| .r 50 <| .e true [(46, .e true [(51, .p 52 <| .p 53 <| .p 54 <| .p 55 <| .p 57 <| .p 58 <| .p 59 <| .p 60 <| .r 61 <| .p 62 <| .p 63 <| .e true [(56, .p 64 <| .p 65 <| .done)])])])])]); exact mixed; kernel_rfl; kernel_rfl; exact Ent.refl) | (refine is_draw ?_; refine WC_draw mixed (by kernel_rfl) ?_))
          apply WO_join (P := Try.prog) (fun m' : List Int => [(94, .pointer (some ⟨b, 0, none⟩)), (95, .int .i64 ops[i].n), (10, .int .i64 ops[i].n), (9, .int .i64 i), (5, .pointer (some ⟨b, 0, none⟩)), (7, .pointer (some ⟨b2, 0, none⟩)), (0, .int .i64 R), (1, v)])
            (fun m' => Bag_int b R m' :: RBag b2 R m' :: Old W :: F) (fun m' => m'.length ≤ R)
          · intro hj
            by_cases h0 : ops[i].d = 0
            · repeat (first | rintro _ _ ⟨rfl, rfl⟩ | rintro _ _ ⟨_, rfl, rfl⟩ | rintro _ _ ⟨_, _, rfl, rfl⟩ | intro _ | refine go ?_ | (refine is_draw ?_; apply WC_mix (id := 23) false _ (pl := .p 0 <| .p 1 <| .p 2 <| .p 3 <| .p 4 <| .p 5 <| .p 6 <| .p 7 <| .r 8 <| .p 9 <| .p 10 <| .p 11 <| .p 12 <| .p 13 <| .p 14 <| .p 15 <| .p 16 <| .p 17 <| .p 18 <| .p 19 <| .p 21 <| .r 20 <| .p 22 <| .r 23 <| .p 24 <| .p 25 <| .p 26 <| .p 27 <| .p 28 <| .p 29 <| .p 30 <| .p 31 <| .p 32 <| .p 33 <| .p 34 <| .p 35 <| .p 36 <| .p 37 <| .p 39 <| .p 40 <| .e true [(38, .e true [(41, .p 42 <| .p 43 <| .p 44 <| .p 45 <| .p 47 <| .p 48 <| .p 49 <| .r 50 <| .e true [(46, .e true [(51, .p 52 <| .p 53 <| .p 54 <| .p 55 <| .p 57 <| .p 58 <| .p 59 <| .p 60 <| .r 61 <| .p 62 <| .p 63 <| .e true [(56, .p 64 <| .p 65 <| .done)])])])])]); exact mixed; kernel_rfl; kernel_rfl; exact Ent.refl) | (refine is_draw ?_; refine WC_draw mixed (by kernel_rfl) ?_) | refine cal @bag_Put_int ?_ | refine cal @ref06_Put ?_)
              exact hj (putL R m ops[i].n) _ _ (by have := putL_le (x := ops[i].n) hmR'; omega) (by (repeat (first | exact Sub.nil | (refine Sub.cons (by first | rfl | (simp only [Nat.zero_add]; rfl)) ?_)))) (by (repeat (first | (with_reducible exact Ent.refl) | exact Ent.nil | (apply ent_pickE; (focus ((repeat (first | (with_reducible exact pk_here) | (apply pk_there))); done))) | apply Ent.drop)))
            · by_cases h1' : ops[i].d = 1
              · repeat (first | rintro _ _ ⟨rfl, rfl⟩ | rintro _ _ ⟨_, rfl, rfl⟩ | rintro _ _ ⟨_, _, rfl, rfl⟩ | intro _ | refine go ?_ | (refine is_draw ?_; apply WC_mix (id := 23) false _ (pl := .p 0 <| .p 1 <| .p 2 <| .p 3 <| .p 4 <| .p 5 <| .p 6 <| .p 7 <| .r 8 <| .p 9 <| .p 10 <| .p 11 <| .p 12 <| .p 13 <| .p 14 <| .p 15 <| .p 16 <| .p 17 <| .p 18 <| .p 19 <| .p 21 <| .r 20 <| .p 22 <| .r 23 <| .p 24 <| .p 25 <| .p 26 <| .p 27 <| .p 28 <| .p 29 <| .p 30 <| .p 31 <| .p 32 <| .p 33 <| .p 34 <| .p 35 <| .p 36 <| .p 37 <| .p 39 <| .p 40 <| .e true [(38, .e true [(41, .p 42 <| .p 43 <| .p 44 <| .p 45 <| .p 47 <| .p 48 <| .p 49 <| .r 50 <| .e true [(46, .e true [(51, .p 52 <| .p 53 <| .p 54 <| .p 55 <| .p 57 <| .p 58 <| .p 59 <| .p 60 <| .r 61 <| .p 62 <| .p 63 <| .e true [(56, .p 64 <| .p 65 <| .done)])])])])]); exact mixed; kernel_rfl; kernel_rfl; exact Ent.refl) | (refine is_draw ?_; refine WC_draw mixed (by kernel_rfl) ?_) | refine cal @bag_Take_int ?_ | refine cal @ref06_Take ?_)
                exact hj (takeL m ops[i].n) _ _ (by have := takeL_le (l := m) (n := ops[i].n); omega) (by (repeat (first | exact Sub.nil | (refine Sub.cons (by first | rfl | (simp only [Nat.zero_add]; rfl)) ?_)))) (by (repeat (first | (with_reducible exact Ent.refl) | exact Ent.nil | (apply ent_pickE; (focus ((repeat (first | (with_reducible exact pk_here) | (apply pk_there))); done))) | apply Ent.drop)))
              · repeat (first | rintro _ _ ⟨rfl, rfl⟩ | rintro _ _ ⟨_, rfl, rfl⟩ | rintro _ _ ⟨_, _, rfl, rfl⟩ | intro _ | refine go ?_ | (refine is_draw ?_; apply WC_mix (id := 23) false _ (pl := .p 0 <| .p 1 <| .p 2 <| .p 3 <| .p 4 <| .p 5 <| .p 6 <| .p 7 <| .r 8 <| .p 9 <| .p 10 <| .p 11 <| .p 12 <| .p 13 <| .p 14 <| .p 15 <| .p 16 <| .p 17 <| .p 18 <| .p 19 <| .p 21 <| .r 20 <| .p 22 <| .r 23 <| .p 24 <| .p 25 <| .p 26 <| .p 27 <| .p 28 <| .p 29 <| .p 30 <| .p 31 <| .p 32 <| .p 33 <| .p 34 <| .p 35 <| .p 36 <| .p 37 <| .p 39 <| .p 40 <| .e true [(38, .e true [(41, .p 42 <| .p 43 <| .p 44 <| .p 45 <| .p 47 <| .p 48 <| .p 49 <| .r 50 <| .e true [(46, .e true [(51, .p 52 <| .p 53 <| .p 54 <| .p 55 <| .p 57 <| .p 58 <| .p 59 <| .p 60 <| .r 61 <| .p 62 <| .p 63 <| .e true [(56, .p 64 <| .p 65 <| .done)])])])])]); exact mixed; kernel_rfl; kernel_rfl; exact Ent.refl) | (refine is_draw ?_; refine WC_draw mixed (by kernel_rfl) ?_))
                exact hj m _ _ hmR (by (repeat (first | exact Sub.nil | (refine Sub.cons (by first | rfl | (simp only [Nat.zero_add]; rfl)) ?_)))) (by (repeat (first | (with_reducible exact Ent.refl) | exact Ent.nil | (apply ent_pickE; (focus ((repeat (first | (with_reducible exact pk_here) | (apply pk_there))); done))) | apply Ent.drop)))
          · intro m' hm'
            have hm2 : (m'.length : Int) ≤ R := by omega
            (first | refine WO_front (RBag b2 R m') ?_ | refine WC_front (RBag b2 R m') ?_ | refine WE_front (RBag b2 R m') ?_)
            refine RL_openO fun p c hl0 => ?_
            have hA := fun F => bag_At_int (F := F) (b := b) (room := R) (l := m') (n := ops[i].n)
            cases e : inL m' ops[i].n with
            | true =>
              obtain ⟨g1, g2⟩ := inL_iff.1 e
              obtain ⟨n, en⟩ : ∃ n : Nat, ops[i].n = n := ⟨ops[i].n.toNat, by omega⟩
              rw [en] at e g1 g2 hA ⊢
              have ea : atL 0 m' n = m'[n]'(by omega) := by simp [atL, e, show n < m'.length by omega]
              simp only [e, ea] at hA
              (first | (refine WO_some (.slice p m'.length c) inferInstance (by omega) ?_; intro _) | (refine WC_some (.slice p m'.length c) inferInstance (by omega) ?_; intro _))
              repeat (first | rintro _ _ ⟨rfl, rfl⟩ | rintro _ _ ⟨_, rfl, rfl⟩ | rintro _ _ ⟨_, _, rfl, rfl⟩ | intro _ | refine go ?_ | (refine is_draw ?_; apply WC_mix (id := 23) false _ (pl := .p 0 <| .p 1 <| .p 2 <| .p 3 <| .p 4 <| .p 5 <| .p 6 <| .p 7 <| .r 8 <| .p 9 <| .p 10 <| .p 11 <| .p 12 <| .p 13 <| .p 14 <| .p 15 <| .p 16 <| .p 17 <| .p 18 <| .p 19 <| .p 21 <| .r 20 <| .p 22 <| .r 23 <| .p 24 <| .p 25 <| .p 26 <| .p 27 <| .p 28 <| .p 29 <| .p 30 <| .p 31 <| .p 32 <| .p 33 <| .p 34 <| .p 35 <| .p 36 <| .p 37 <| .p 39 <| .p 40 <| .e true [(38, .e true [(41, .p 42 <| .p 43 <| .p 44 <| .p 45 <| .p 47 <| .p 48 <| .p 49 <| .r 50 <| .e true [(46, .e true [(51, .p 52 <| .p 53 <| .p 54 <| .p 55 <| .p 57 <| .p 58 <| .p 59 <| .p 60 <| .r 61 <| .p 62 <| .p 63 <| .e true [(56, .p 64 <| .p 65 <| .done)])])])])]); exact mixed; kernel_rfl; kernel_rfl; exact Ent.refl) | (refine is_draw ?_; refine WC_draw mixed (by kernel_rfl) ?_) | refine cal @hA ?_ | refine cal @bag_Find_int ?_ | refine cal @ref06_FindO ?_ | refine cal @bag_List_int ?_ | refine cal @ref02_Same ?_ | refine cal @bag_Left_int ?_)
              refine WE_loop (i + 1, m') (by dsimp only; omega) ⟨by dsimp only; omega, hm'⟩ ?_ ?_
              · (repeat (first | exact Sub.nil | (refine Sub.cons (by first | rfl | (simp only [Nat.zero_add]; rfl)) ?_)))
              · dsimp only; ((repeat (first | (with_reducible exact Ent.refl) | exact Ent.nil | (apply ent_pickE; (focus ((repeat (first | (with_reducible exact pk_here) | (apply pk_there))); done))) | (apply RL_in) | apply Ent.drop)); all_goals (first | rfl | (with_reducible assumption) | (simp; done) | (simp; omega) | omega | (constructor <;> (simp) <;> omega)))
            | false =>
              have g := inL_not.1 e
              have ea : atL 0 m' ops[i].n = 0 := by simp [atL, e]
              simp only [e, ea] at hA
              by_cases hin0 : 0 ≤ ops[i].n
              · repeat (first | rintro _ _ ⟨rfl, rfl⟩ | rintro _ _ ⟨_, rfl, rfl⟩ | rintro _ _ ⟨_, _, rfl, rfl⟩ | intro _ | refine go ?_ | (refine is_draw ?_; apply WC_mix (id := 23) false _ (pl := .p 0 <| .p 1 <| .p 2 <| .p 3 <| .p 4 <| .p 5 <| .p 6 <| .p 7 <| .r 8 <| .p 9 <| .p 10 <| .p 11 <| .p 12 <| .p 13 <| .p 14 <| .p 15 <| .p 16 <| .p 17 <| .p 18 <| .p 19 <| .p 21 <| .r 20 <| .p 22 <| .r 23 <| .p 24 <| .p 25 <| .p 26 <| .p 27 <| .p 28 <| .p 29 <| .p 30 <| .p 31 <| .p 32 <| .p 33 <| .p 34 <| .p 35 <| .p 36 <| .p 37 <| .p 39 <| .p 40 <| .e true [(38, .e true [(41, .p 42 <| .p 43 <| .p 44 <| .p 45 <| .p 47 <| .p 48 <| .p 49 <| .r 50 <| .e true [(46, .e true [(51, .p 52 <| .p 53 <| .p 54 <| .p 55 <| .p 57 <| .p 58 <| .p 59 <| .p 60 <| .r 61 <| .p 62 <| .p 63 <| .e true [(56, .p 64 <| .p 65 <| .done)])])])])]); exact mixed; kernel_rfl; kernel_rfl; exact Ent.refl) | (refine is_draw ?_; refine WC_draw mixed (by kernel_rfl) ?_) | refine cal @hA ?_ | refine cal @bag_Find_int ?_ | refine cal @ref06_FindO ?_ | refine cal @bag_List_int ?_ | refine cal @ref02_Same ?_ | refine cal @bag_Left_int ?_)
                refine WE_loop (i + 1, m') (by dsimp only; omega) ⟨by dsimp only; omega, hm'⟩ ?_ ?_
                · (repeat (first | exact Sub.nil | (refine Sub.cons (by first | rfl | (simp only [Nat.zero_add]; rfl)) ?_)))
                · dsimp only; ((repeat (first | (with_reducible exact Ent.refl) | exact Ent.nil | (apply ent_pickE; (focus ((repeat (first | (with_reducible exact pk_here) | (apply pk_there))); done))) | (apply RL_in) | apply Ent.drop)); all_goals (first | rfl | (with_reducible assumption) | (simp; done) | (simp; omega) | omega | (constructor <;> (simp) <;> omega)))
              · repeat (first | rintro _ _ ⟨rfl, rfl⟩ | rintro _ _ ⟨_, rfl, rfl⟩ | rintro _ _ ⟨_, _, rfl, rfl⟩ | intro _ | refine go ?_ | (refine is_draw ?_; apply WC_mix (id := 23) false _ (pl := .p 0 <| .p 1 <| .p 2 <| .p 3 <| .p 4 <| .p 5 <| .p 6 <| .p 7 <| .r 8 <| .p 9 <| .p 10 <| .p 11 <| .p 12 <| .p 13 <| .p 14 <| .p 15 <| .p 16 <| .p 17 <| .p 18 <| .p 19 <| .p 21 <| .r 20 <| .p 22 <| .r 23 <| .p 24 <| .p 25 <| .p 26 <| .p 27 <| .p 28 <| .p 29 <| .p 30 <| .p 31 <| .p 32 <| .p 33 <| .p 34 <| .p 35 <| .p 36 <| .p 37 <| .p 39 <| .p 40 <| .e true [(38, .e true [(41, .p 42 <| .p 43 <| .p 44 <| .p 45 <| .p 47 <| .p 48 <| .p 49 <| .r 50 <| .e true [(46, .e true [(51, .p 52 <| .p 53 <| .p 54 <| .p 55 <| .p 57 <| .p 58 <| .p 59 <| .p 60 <| .r 61 <| .p 62 <| .p 63 <| .e true [(56, .p 64 <| .p 65 <| .done)])])])])]); exact mixed; kernel_rfl; kernel_rfl; exact Ent.refl) | (refine is_draw ?_; refine WC_draw mixed (by kernel_rfl) ?_) | refine cal @hA ?_ | refine cal @bag_Find_int ?_ | refine cal @ref06_FindO ?_ | refine cal @bag_List_int ?_ | refine cal @ref02_Same ?_ | refine cal @bag_Left_int ?_)
                refine WE_loop (i + 1, m') (by dsimp only; omega) ⟨by dsimp only; omega, hm'⟩ ?_ ?_
                · (repeat (first | exact Sub.nil | (refine Sub.cons (by first | rfl | (simp only [Nat.zero_add]; rfl)) ?_)))
                · dsimp only; ((repeat (first | (with_reducible exact Ent.refl) | exact Ent.nil | (apply ent_pickE; (focus ((repeat (first | (with_reducible exact pk_here) | (apply pk_there))); done))) | (apply RL_in) | apply Ent.drop)); all_goals (first | rfl | (with_reducible assumption) | (simp; done) | (simp; omega) | omega | (constructor <;> (simp) <;> omega)))
        · repeat (first | rintro _ _ ⟨rfl, rfl⟩ | rintro _ _ ⟨_, rfl, rfl⟩ | rintro _ _ ⟨_, _, rfl, rfl⟩ | intro _ | refine go ?_ | (refine is_draw ?_; apply WC_mix (id := 23) false _ (pl := .p 0 <| .p 1 <| .p 2 <| .p 3 <| .p 4 <| .p 5 <| .p 6 <| .p 7 <| .r 8 <| .p 9 <| .p 10 <| .p 11 <| .p 12 <| .p 13 <| .p 14 <| .p 15 <| .p 16 <| .p 17 <| .p 18 <| .p 19 <| .p 21 <| .r 20 <| .p 22 <| .r 23 <| .p 24 <| .p 25 <| .p 26 <| .p 27 <| .p 28 <| .p 29 <| .p 30 <| .p 31 <| .p 32 <| .p 33 <| .p 34 <| .p 35 <| .p 36 <| .p 37 <| .p 39 <| .p 40 <| .e true [(38, .e true [(41, .p 42 <| .p 43 <| .p 44 <| .p 45 <| .p 47 <| .p 48 <| .p 49 <| .r 50 <| .e true [(46, .e true [(51, .p 52 <| .p 53 <| .p 54 <| .p 55 <| .p 57 <| .p 58 <| .p 59 <| .p 60 <| .r 61 <| .p 62 <| .p 63 <| .e true [(56, .p 64 <| .p 65 <| .done)])])])])]); exact mixed; kernel_rfl; kernel_rfl; exact Ent.refl) | (refine is_draw ?_; refine WC_draw mixed (by kernel_rfl) ?_))
          (apply WE_ret rfl rfl (by (repeat (first | exact ResOk.nil | (apply ResOk.tmp; rfl) | (apply resOk_cell; rfl; exact inferInstance; rfl; rfl)))); (first | exact ⟨rfl, rfl⟩ | exact ⟨congrArg Value.bool (by decide), rfl⟩ | exact ⟨_, rfl, rfl⟩ | exact ⟨_, _, rfl, rfl⟩ | exact ⟨by first | (simp []; done) | (simp [] <;> omega), rfl⟩); (repeat (first | exact Ent.refl | exact Ent.nil | apply Ent.pick | apply Ent.drop)))
    · repeat (first | rintro _ _ ⟨rfl, rfl⟩ | rintro _ _ ⟨_, rfl, rfl⟩ | rintro _ _ ⟨_, _, rfl, rfl⟩ | intro _ | refine go ?_ | (refine is_draw ?_; apply WC_mix (id := 23) false _ (pl := .p 0 <| .p 1 <| .p 2 <| .p 3 <| .p 4 <| .p 5 <| .p 6 <| .p 7 <| .r 8 <| .p 9 <| .p 10 <| .p 11 <| .p 12 <| .p 13 <| .p 14 <| .p 15 <| .p 16 <| .p 17 <| .p 18 <| .p 19 <| .p 21 <| .r 20 <| .p 22 <| .r 23 <| .p 24 <| .p 25 <| .p 26 <| .p 27 <| .p 28 <| .p 29 <| .p 30 <| .p 31 <| .p 32 <| .p 33 <| .p 34 <| .p 35 <| .p 36 <| .p 37 <| .p 39 <| .p 40 <| .e true [(38, .e true [(41, .p 42 <| .p 43 <| .p 44 <| .p 45 <| .p 47 <| .p 48 <| .p 49 <| .r 50 <| .e true [(46, .e true [(51, .p 52 <| .p 53 <| .p 54 <| .p 55 <| .p 57 <| .p 58 <| .p 59 <| .p 60 <| .r 61 <| .p 62 <| .p 63 <| .e true [(56, .p 64 <| .p 65 <| .done)])])])])]); exact mixed; kernel_rfl; kernel_rfl; exact Ent.refl) | (refine is_draw ?_; refine WC_draw mixed (by kernel_rfl) ?_) | refine cal @law06_awake ?_ | refine cal @bag_New_no_int ?_ | refine cal @ref06_New_no ?_)
      refine WC_rounds 1 ?_
      repeat (first | rintro _ _ ⟨rfl, rfl⟩ | rintro _ _ ⟨_, rfl, rfl⟩ | rintro _ _ ⟨_, _, rfl, rfl⟩ | intro _ | refine go ?_ | (refine is_draw ?_; apply WC_mix (id := 23) false _ (pl := .p 0 <| .p 1 <| .p 2 <| .p 3 <| .p 4 <| .p 5 <| .p 6 <| .p 7 <| .r 8 <| .p 9 <| .p 10 <| .p 11 <| .p 12 <| .p 13 <| .p 14 <| .p 15 <| .p 16 <| .p 17 <| .p 18 <| .p 19 <| .p 21 <| .r 20 <| .p 22 <| .r 23 <| .p 24 <| .p 25 <| .p 26 <| .p 27 <| .p 28 <| .p 29 <| .p 30 <| .p 31 <| .p 32 <| .p 33 <| .p 34 <| .p 35 <| .p 36 <| .p 37 <| .p 39 <| .p 40 <| .e true [(38, .e true [(41, .p 42 <| .p 43 <| .p 44 <| .p 45 <| .p 47 <| .p 48 <| .p 49 <| .r 50 <| .e true [(46, .e true [(51, .p 52 <| .p 53 <| .p 54 <| .p 55 <| .p 57 <| .p 58 <| .p 59 <| .p 60 <| .r 61 <| .p 62 <| .p 63 <| .e true [(56, .p 64 <| .p 65 <| .done)])])])])]); exact mixed; kernel_rfl; kernel_rfl; exact Ent.refl) | (refine is_draw ?_; refine WC_draw mixed (by kernel_rfl) ?_))
      (apply WE_ret rfl rfl (by (repeat (first | exact ResOk.nil | (apply ResOk.tmp; rfl) | (apply resOk_cell; rfl; exact inferInstance; rfl; rfl)))); (first | exact ⟨rfl, rfl⟩ | exact ⟨congrArg Value.bool (by decide), rfl⟩ | exact ⟨_, rfl, rfl⟩ | exact ⟨_, _, rfl, rfl⟩ | exact ⟨by first | (simp []; done) | (simp [] <;> omega), rfl⟩); (repeat (first | exact Ent.refl | exact Ent.nil | apply Ent.pick | apply Ent.drop)))
end Go.Sx
