/- What package program tells of operations and of programs. My own work. -/
import Derived.Test.YtadedfcjakhfbaaShp
import Derived.Test.YtadedfcjakhfbaaBagR
namespace Go.Sx
open Go Go.Proofs
set_option linter.unusedVariables false
set_option linter.unusedSimpArgs false
set_option maxRecDepth 100000
set_option maxHeartbeats 4000000
attribute [local irreducible] Go.Exit.then Go.Exit.inBlock Go.Code.wp WC WO WE WQ V LoopQ FnQ Sat Star band bor IntKind.wrap WR Code.rounds WT KO

def mayB (x : Op3) : Bool := if x.kind = 4 then decide (x.addr = 0) && decide (x.value = 0) else if x.kind = 1 then decide (0 ≤ x.addr) && decide (x.addr ≤ 8191) && decide (x.value = 0)
  else if x.kind = 2 ∨ x.kind = 3 then decide (0 ≤ x.addr) && decide (x.addr ≤ 8191) && decide (-2147483648 ≤ x.value) && decide (x.value ≤ 2147483647) else false
def progB (c : Cfg) (l : List Op3) : Bool := (l.all fun x => mayB x && decide (x.addr < sizeOf' c)) && checkB c && decide (l.length ≤ 64)

theorem program_May {F : List HP} {x : Op3} : FnF Try.prog 83 [ov x] [] F (fun r L' => r = .bool (mayB x) ∧ L' = []) := by
  refine FnF.mk' Try.func83 rfl rfl Try.ntmps83 rfl ?_
  repeat' (first | rintro _ _ ⟨rfl, rfl⟩ | rintro _ _ ⟨_, rfl, rfl⟩ | rintro _ _ ⟨_, _, rfl, rfl⟩ | intro _ | refine go ?_ | (refine is_draw ?_; refine WC_draw mixed (by kernel_rfl) ?_) | refine spl ?_ ?_ | fail)
  all_goals (apply WE_ret rfl rfl (by (repeat (first | exact ResOk.nil | (apply ResOk.tmp; rfl) | (apply resOk_cell; rfl; exact inferInstance; rfl; rfl)))); (exact ⟨by first | (simp_all [mayB]; done) | (simp_all [mayB]; omega), rfl⟩); (repeat (first | exact Ent.refl | exact Ent.nil | apply Ent.pick | apply Ent.drop)))

theorem program_Fits {F : List HP} {c : Cfg} (hc : c.wf) {l : List Op3} {v : Value} (k : RdL F 3 v l.length (flat oc l)) (hn : l.length ≤ 1099511627776) : FnF Try.prog 110 [c.val, v] [] F (fun r L' => r = .bool (progB c l) ∧ L' = []) := by
  refine FnF.mk' Try.func110 rfl rfl Try.ntmps110 rfl ?_
  repeat (first | rintro _ _ ⟨rfl, rfl⟩ | rintro _ _ ⟨_, rfl, rfl⟩ | rintro _ _ ⟨_, _, rfl, rfl⟩ | intro _ | refine go ?_ | (refine is_draw ?_; refine WC_draw mixed (by kernel_rfl) ?_))
  rename_i bc
  apply WC_loopE (E0 := [(1, _), (2, _), (7, _), (8, _)]) (fun E0 (j : Nat) => (9, .int .i64 j) :: E0) (fun _ => Cells bc 121 c.cells :: F) (fun j => j ≤ l.length ∧ ∀ i (h : i < l.length), i < j → (mayB l[i] && decide (l[i].addr < sizeOf' c)) = true) (fun j => l.length - j) 0
  · (repeat (first | exact Sub.nil | (refine Sub.cons (by first | rfl | (simp only [Nat.zero_add]; rfl)) ?_)))
  · exact ⟨Nat.zero_le _, fun i h hi => by omega⟩
  · (repeat (first | (with_reducible exact Ent.refl) | exact Ent.nil | (apply ent_pickE; (focus ((repeat (first | (with_reducible exact pk_here) | (apply pk_there))); done))) | apply Ent.drop))
  · rintro j ⟨hj, hall⟩
    by_cases hlt : j < l.length
    · cases hm : mayB l[j] with
      | false =>
        have hf : progB c l = false := by
          have : (l.all fun x => mayB x && decide (x.addr < sizeOf' c)) = false := by
            rw [List.all_eq_false]; exact ⟨_, List.getElem_mem hlt, by simp [hm]⟩
          simp [progB, this]
        have hM := fun F => program_May (F := F) (x := l[j])
        simp only [hm] at hM
        repeat (first | rintro _ _ ⟨rfl, rfl⟩ | rintro _ _ ⟨_, rfl, rfl⟩ | rintro _ _ ⟨_, _, rfl, rfl⟩ | intro _ | refine go ?_ | (refine is_draw ?_; refine WC_draw mixed (by kernel_rfl) ?_) | refine cal @hM ?_)
        (apply WE_ret rfl rfl (by (repeat (first | exact ResOk.nil | (apply ResOk.tmp; rfl) | (apply resOk_cell; rfl; exact inferInstance; rfl; rfl)))); (first | exact ⟨rfl, rfl⟩ | exact ⟨congrArg Value.bool (by decide), rfl⟩ | exact ⟨_, rfl, rfl⟩ | exact ⟨_, _, rfl, rfl⟩ | exact ⟨by first | (simp [hf]; done) | (simp [hf] <;> omega), rfl⟩); (repeat (first | exact Ent.refl | exact Ent.nil | apply Ent.pick | apply Ent.drop)))
      | true =>
        have hM := fun F => program_May (F := F) (x := l[j])
        simp only [hm] at hM
        by_cases hs : l[j].addr < sizeOf' c
        · repeat (first | rintro _ _ ⟨rfl, rfl⟩ | rintro _ _ ⟨_, rfl, rfl⟩ | rintro _ _ ⟨_, _, rfl, rfl⟩ | intro _ | refine go ?_ | (refine is_draw ?_; refine WC_draw mixed (by kernel_rfl) ?_) | refine cal @hM ?_ | refine cal (shape_Size (c := c)) ?_)
          refine WE_loop (j + 1) (by omega) ⟨by omega, fun i h hi => ?_⟩ ?_ ?_
          · by_cases e : i = j
            · subst e; simp [hm, hs]
            · exact hall i h (by omega)
          · (repeat (first | exact Sub.nil | (refine Sub.cons (by first | rfl | (simp only [Nat.zero_add]; rfl)) ?_)))
          · (repeat (first | (with_reducible exact Ent.refl) | exact Ent.nil | (apply ent_pickE; (focus ((repeat (first | (with_reducible exact pk_here) | (apply pk_there))); done))) | apply Ent.drop))
        · have hf : progB c l = false := by
            have : (l.all fun x => mayB x && decide (x.addr < sizeOf' c)) = false := by
              rw [List.all_eq_false]; exact ⟨_, List.getElem_mem hlt, by simp [hs]⟩
            simp [progB, this]
          repeat (first | rintro _ _ ⟨rfl, rfl⟩ | rintro _ _ ⟨_, rfl, rfl⟩ | rintro _ _ ⟨_, _, rfl, rfl⟩ | intro _ | refine go ?_ | (refine is_draw ?_; refine WC_draw mixed (by kernel_rfl) ?_) | refine cal @hM ?_ | refine cal (shape_Size (c := c)) ?_)
          (apply WE_ret rfl rfl (by (repeat (first | exact ResOk.nil | (apply ResOk.tmp; rfl) | (apply resOk_cell; rfl; exact inferInstance; rfl; rfl)))); (first | exact ⟨rfl, rfl⟩ | exact ⟨congrArg Value.bool (by decide), rfl⟩ | exact ⟨_, rfl, rfl⟩ | exact ⟨_, _, rfl, rfl⟩ | exact ⟨by first | (simp [hf]; done) | (simp [hf] <;> omega), rfl⟩); (repeat (first | exact Ent.refl | exact Ent.nil | apply Ent.pick | apply Ent.drop)))
    · have ha : (l.all fun x => mayB x && decide (x.addr < sizeOf' c)) = true := by
        rw [List.all_eq_true]
        intro x hx
        obtain ⟨i, hi, rfl⟩ := List.getElem_of_mem hx
        exact hall i hi (by omega)
      repeat (first | rintro _ _ ⟨rfl, rfl⟩ | rintro _ _ ⟨_, rfl, rfl⟩ | rintro _ _ ⟨_, _, rfl, rfl⟩ | intro _ | refine go ?_ | (refine is_draw ?_; refine WC_draw mixed (by kernel_rfl) ?_) | refine cal (shape_Check (c := c)) ?_)
      cases e : checkB c
      · have e1 : checkE c = 1 := by simp [checkE, e]
        repeat (first | rintro _ _ ⟨rfl, rfl⟩ | rintro _ _ ⟨_, rfl, rfl⟩ | rintro _ _ ⟨_, _, rfl, rfl⟩ | intro _ | refine go ?_ | (refine is_draw ?_; refine WC_draw mixed (by kernel_rfl) ?_))
        (apply WE_ret rfl rfl (by (repeat (first | exact ResOk.nil | (apply ResOk.tmp; rfl) | (apply resOk_cell; rfl; exact inferInstance; rfl; rfl)))); (first | exact ⟨rfl, rfl⟩ | exact ⟨congrArg Value.bool (by decide), rfl⟩ | exact ⟨_, rfl, rfl⟩ | exact ⟨_, _, rfl, rfl⟩ | exact ⟨by first | (simp [progB, e]; done) | (simp [progB, e] <;> omega), rfl⟩); (repeat (first | exact Ent.refl | exact Ent.nil | apply Ent.pick | apply Ent.drop)))
      · have e1 : checkE c = 0 := by simp [checkE, e]
        repeat (first | rintro _ _ ⟨rfl, rfl⟩ | rintro _ _ ⟨_, rfl, rfl⟩ | rintro _ _ ⟨_, _, rfl, rfl⟩ | intro _ | refine go ?_ | (refine is_draw ?_; refine WC_draw mixed (by kernel_rfl) ?_))
        (apply WE_ret rfl rfl (by (repeat (first | exact ResOk.nil | (apply ResOk.tmp; rfl) | (apply resOk_cell; rfl; exact inferInstance; rfl; rfl)))); (first | exact ⟨rfl, rfl⟩ | exact ⟨congrArg Value.bool (by decide), rfl⟩ | exact ⟨_, rfl, rfl⟩ | exact ⟨_, _, rfl, rfl⟩ | exact ⟨by first | (simp [progB, e, ha]; done) | (simp [progB, e, ha] <;> omega), rfl⟩); (repeat (first | exact Ent.refl | exact Ent.nil | apply Ent.pick | apply Ent.drop)))
end Go.Sx
