/- What nets do, second part: all messages, one by one. My own work. -/
import Derived.Test.YtcjagmphobdbbaaNet
namespace Go.Sx
open Go Go.Proofs
set_option linter.unusedVariables false
set_option linter.unusedSectionVars false
set_option linter.unusedSimpArgs false
set_option maxRecDepth 100000
set_option maxHeartbeats 4000000
attribute [local irreducible] Go.Exit.then Go.Exit.inBlock Go.Code.wp WC WO WE WQ V LoopQ FnQ Sat Star band bor IntKind.wrap WR Code.rounds WT KO
theorem net_all {F : List HP} {b : Nat} : FnF Try.prog 77 [.pointer (some ⟨b, 0, none⟩)] [] F (fun r L' => ∃ bx, r = .func (.func 116) #[] #[.pointer (some ⟨bx, 0, none⟩)] ∧ L' = [Cells bx 27 [.pointer (some ⟨b, 0, none⟩)]]) := by
  refine FnF.mk' Try.func77 rfl rfl Try.ntmps77 rfl ?_
  repeat (first | rintro _ _ ⟨rfl, rfl⟩ | rintro _ _ ⟨_, rfl, rfl⟩ | rintro _ _ ⟨_, _, rfl, rfl⟩ | intro _ | refine go ?_ | (refine is_draw ?_; refine WC_draw mixed (by kernel_rfl) ?_))
  (apply WE_ret rfl rfl (by (repeat (first | exact ResOk.nil | (apply ResOk.tmp; rfl) | (apply resOk_cell; rfl; exact inferInstance; rfl; rfl)))))
  · exact ⟨_, rfl, rfl⟩
  · (repeat (first | (with_reducible exact Ent.refl) | exact Ent.nil | (apply ent_pickE; (focus ((repeat (first | (with_reducible exact pk_here) | (apply pk_there))); done))) | apply Ent.drop))
theorem net_seq {b bx b0 b1 b2 : Nat} {c : Cfg} {n : Nets} (hn0 : n.l0.length ≤ 4096) (hn1 : n.l1.length ≤ 4096) (hn2 : n.l2.length ≤ 4096) : Seq Try.prog 116 [.pointer (some ⟨bx, 0, none⟩)] [Cells b 134 (ncells c b0 b1 b2), Bag_msg b0 c.r0 n.l0, Bag_msg b1 c.r1 n.l1, Bag_msg b2 c.r2 n.l2, Cells bx 27 [.pointer (some ⟨b, 0, none⟩)]] ((nall n).map mv) := by
  refine Seq.mk Try.func116 rfl Try.ntmps116 rfl ?_
  intro l A C hy
  simp only [app] at hy ⊢
  repeat (first | rintro _ _ ⟨rfl, rfl⟩ | rintro _ _ ⟨_, rfl, rfl⟩ | rintro _ _ ⟨_, _, rfl, rfl⟩ | intro _ | refine go ?_ | (refine is_draw ?_; refine WC_draw mixed (by kernel_rfl) ?_))
  refine WC_rounds 4 ?_
  repeat (first | rintro _ _ ⟨rfl, rfl⟩ | rintro _ _ ⟨_, rfl, rfl⟩ | rintro _ _ ⟨_, _, rfl, rfl⟩ | intro _ | refine go ?_ | (refine is_draw ?_; refine WC_draw mixed (by kernel_rfl) ?_) | refine cal @bag_List_msg ?_)
  rename_i p0 q0
  apply WC_loopE (E0 := [(0, _), (10, _), (11, _), (15, _), (16, _)]) (fun E0 (i : Nat) => (17, .int .i64 i) :: E0) (fun i => Own 37 15 (.slice p0 n.l0.length q0) n.l0.length (flat mc n.l0) :: Cells b 134 (ncells c b0 b1 b2) :: Bag_msg b0 c.r0 n.l0 :: Bag_msg b1 c.r1 n.l1 :: Bag_msg b2 c.r2 n.l2 :: Cells bx 27 [.pointer (some ⟨b, 0, none⟩)] :: A (i)) (fun i => i ≤ n.l0.length) (fun i => n.l0.length - i) 0
  · (repeat (first | exact Sub.nil | (refine Sub.cons (by first | rfl | (simp only [Nat.zero_add]; rfl)) ?_)))
  · exact Nat.zero_le _
  · (repeat (first | (with_reducible exact Ent.refl) | exact Ent.nil | (apply ent_pickE; (focus ((repeat (first | (with_reducible exact pk_here) | (apply pk_there))); done))) | apply Ent.drop))
  · intro i hi
    by_cases hlt : i < n.l0.length
    · have hx : i < ((nall n).map mv).length := by simp [nall]; omega
      have hxs : ((nall n).map mv)[i] = mv n.l0[i] := by simp [nall, List.getElem_append, hlt]
      have hy1 := hy i hx
      rw [hxs] at hy1
      repeat (first | rintro _ _ ⟨rfl, rfl⟩ | intro _ | refine gon ?_)
      refine WC_region ?_
      repeat (first | rintro _ _ ⟨rfl, rfl⟩ | intro _ | refine gon ?_)
      refine WC_region ?_
      repeat (first | rintro _ _ ⟨rfl, rfl⟩ | intro _ | refine gon ?_)
      refine WC_regionY ?_
      repeat (refine gov ?_)
      apply WMO_yield (F := [Own 37 15 (.slice p0 n.l0.length q0) n.l0.length (flat mc n.l0)]) rfl rfl rfl hy1
      · refine Ent.drop (Ent.trans ?_ app_comm)
        exact Ent.refl
      · refine WMO_ent (M := Own 37 15 (.slice p0 n.l0.length q0) n.l0.length (flat mc n.l0) :: Cells b 134 (ncells c b0 b1 b2) :: Bag_msg b0 c.r0 n.l0 :: Bag_msg b1 c.r1 n.l1 :: Bag_msg b2 c.r2 n.l2 :: Cells bx 27 [.pointer (some ⟨b, 0, none⟩)] :: A (i + 1)) app_comm ?_
        repeat (refine gov ?_)
        refine WMO_nil (WME_out ?_)
        repeat (first | rintro _ _ ⟨rfl, rfl⟩ | rintro _ _ ⟨_, rfl, rfl⟩ | rintro _ _ ⟨_, _, rfl, rfl⟩ | intro _ | refine go ?_ | (refine is_draw ?_; refine WC_draw mixed (by kernel_rfl) ?_))
        refine WE_loop (i + 1) (by omega) (by omega) ?_ Ent.refl
        (repeat (first | exact Sub.nil | (refine Sub.cons (by first | rfl | (simp only [Nat.zero_add]; rfl)) ?_)))
      · refine WMO_ent (M := Own 37 15 (.slice p0 n.l0.length q0) n.l0.length (flat mc n.l0) :: C) app_comm ?_
        repeat (refine gov ?_)
        refine WMO_nil (WME_out ?_)
        repeat (first | rintro _ _ ⟨rfl, rfl⟩ | rintro _ _ ⟨_, rfl, rfl⟩ | rintro _ _ ⟨_, _, rfl, rfl⟩ | intro _ | refine go ?_ | (refine is_draw ?_; refine WC_draw mixed (by kernel_rfl) ?_))
        exact WE_seq_stop rfl rfl (by omega) (Ent.drop Ent.refl)
    · have hil : i = n.l0.length := by omega
      subst hil
      repeat (first | rintro _ _ ⟨rfl, rfl⟩ | rintro _ _ ⟨_, rfl, rfl⟩ | rintro _ _ ⟨_, _, rfl, rfl⟩ | intro _ | refine go ?_ | (refine is_draw ?_; refine WC_draw mixed (by kernel_rfl) ?_) | refine cal @bag_List_msg ?_)
      rename_i p1 q1
      apply WC_loopE (E0 := [(0, _), (10, _), (11, _), (15, _), (16, _)]) (fun E0 (i : Nat) => (17, .int .i64 i) :: E0) (fun i => Own 37 15 (.slice p1 n.l1.length q1) n.l1.length (flat mc n.l1) :: Cells b 134 (ncells c b0 b1 b2) :: Bag_msg b0 c.r0 n.l0 :: Bag_msg b1 c.r1 n.l1 :: Bag_msg b2 c.r2 n.l2 :: Cells bx 27 [.pointer (some ⟨b, 0, none⟩)] :: A (n.l0.length + i)) (fun i => i ≤ n.l1.length) (fun i => n.l1.length - i) 0
      · (repeat (first | exact Sub.nil | (refine Sub.cons (by first | rfl | (simp only [Nat.zero_add]; rfl)) ?_)))
      · exact Nat.zero_le _
      · simp only [Nat.add_zero]; (repeat (first | (with_reducible exact Ent.refl) | exact Ent.nil | (apply ent_pickE; (focus ((repeat (first | (with_reducible exact pk_here) | (apply pk_there))); done))) | apply Ent.drop))
      · intro i hi
        by_cases hlt : i < n.l1.length
        · have hx : (n.l0.length + i) < ((nall n).map mv).length := by simp [nall]; omega
          have hxs : ((nall n).map mv)[n.l0.length + i] = mv n.l1[i] := by simp [nall, List.getElem_append, hlt, show ¬ n.l0.length + i < n.l0.length by omega]
          have hy1 := hy (n.l0.length + i) hx
          rw [hxs] at hy1
          repeat (first | rintro _ _ ⟨rfl, rfl⟩ | intro _ | refine gon ?_)
          refine WC_region ?_
          repeat (first | rintro _ _ ⟨rfl, rfl⟩ | intro _ | refine gon ?_)
          refine WC_region ?_
          repeat (first | rintro _ _ ⟨rfl, rfl⟩ | intro _ | refine gon ?_)
          refine WC_regionY ?_
          repeat (refine gov ?_)
          apply WMO_yield (F := [Own 37 15 (.slice p1 n.l1.length q1) n.l1.length (flat mc n.l1)]) rfl rfl rfl hy1
          · refine Ent.drop (Ent.trans ?_ app_comm)
            exact Ent.refl
          · refine WMO_ent (M := Own 37 15 (.slice p1 n.l1.length q1) n.l1.length (flat mc n.l1) :: Cells b 134 (ncells c b0 b1 b2) :: Bag_msg b0 c.r0 n.l0 :: Bag_msg b1 c.r1 n.l1 :: Bag_msg b2 c.r2 n.l2 :: Cells bx 27 [.pointer (some ⟨b, 0, none⟩)] :: A (n.l0.length + i + 1)) app_comm ?_
            repeat (refine gov ?_)
            refine WMO_nil (WME_out ?_)
            repeat (first | rintro _ _ ⟨rfl, rfl⟩ | rintro _ _ ⟨_, rfl, rfl⟩ | rintro _ _ ⟨_, _, rfl, rfl⟩ | intro _ | refine go ?_ | (refine is_draw ?_; refine WC_draw mixed (by kernel_rfl) ?_))
            refine WE_loop (i + 1) (by omega) (by omega) ?_ Ent.refl
            (repeat (first | exact Sub.nil | (refine Sub.cons (by first | rfl | (simp only [Nat.zero_add]; rfl)) ?_)))
          · refine WMO_ent (M := Own 37 15 (.slice p1 n.l1.length q1) n.l1.length (flat mc n.l1) :: C) app_comm ?_
            repeat (refine gov ?_)
            refine WMO_nil (WME_out ?_)
            repeat (first | rintro _ _ ⟨rfl, rfl⟩ | rintro _ _ ⟨_, rfl, rfl⟩ | rintro _ _ ⟨_, _, rfl, rfl⟩ | intro _ | refine go ?_ | (refine is_draw ?_; refine WC_draw mixed (by kernel_rfl) ?_))
            exact WE_seq_stop rfl rfl (by omega) (Ent.drop Ent.refl)
        · have hil : i = n.l1.length := by omega
          subst hil
          repeat (first | rintro _ _ ⟨rfl, rfl⟩ | rintro _ _ ⟨_, rfl, rfl⟩ | rintro _ _ ⟨_, _, rfl, rfl⟩ | intro _ | refine go ?_ | (refine is_draw ?_; refine WC_draw mixed (by kernel_rfl) ?_) | refine cal @bag_List_msg ?_)
          rename_i p2 q2
          apply WC_loopE (E0 := [(0, _), (10, _), (11, _), (15, _), (16, _)]) (fun E0 (i : Nat) => (17, .int .i64 i) :: E0) (fun i => Own 37 15 (.slice p2 n.l2.length q2) n.l2.length (flat mc n.l2) :: Cells b 134 (ncells c b0 b1 b2) :: Bag_msg b0 c.r0 n.l0 :: Bag_msg b1 c.r1 n.l1 :: Bag_msg b2 c.r2 n.l2 :: Cells bx 27 [.pointer (some ⟨b, 0, none⟩)] :: A (n.l0.length + n.l1.length + i)) (fun i => i ≤ n.l2.length) (fun i => n.l2.length - i) 0
          · (repeat (first | exact Sub.nil | (refine Sub.cons (by first | rfl | (simp only [Nat.zero_add]; rfl)) ?_)))
          · exact Nat.zero_le _
          · simp only [Nat.add_zero]; (repeat (first | (with_reducible exact Ent.refl) | exact Ent.nil | (apply ent_pickE; (focus ((repeat (first | (with_reducible exact pk_here) | (apply pk_there))); done))) | apply Ent.drop))
          · intro i hi
            by_cases hlt : i < n.l2.length
            · have hx : (n.l0.length + n.l1.length + i) < ((nall n).map mv).length := by simp [nall]; omega
              have hxs : ((nall n).map mv)[n.l0.length + n.l1.length + i] = mv n.l2[i] := by simp [nall, List.getElem_append, hlt, show ¬ n.l0.length + n.l1.length + i < n.l0.length by omega, show ¬ n.l0.length + n.l1.length + i - n.l0.length < n.l1.length by omega, show n.l0.length + n.l1.length + i - n.l0.length - n.l1.length = i by omega]
              have hy1 := hy (n.l0.length + n.l1.length + i) hx
              rw [hxs] at hy1
              repeat (first | rintro _ _ ⟨rfl, rfl⟩ | intro _ | refine gon ?_)
              refine WC_region ?_
              repeat (first | rintro _ _ ⟨rfl, rfl⟩ | intro _ | refine gon ?_)
              refine WC_region ?_
              repeat (first | rintro _ _ ⟨rfl, rfl⟩ | intro _ | refine gon ?_)
              refine WC_regionY ?_
              repeat (refine gov ?_)
              apply WMO_yield (F := [Own 37 15 (.slice p2 n.l2.length q2) n.l2.length (flat mc n.l2)]) rfl rfl rfl hy1
              · refine Ent.drop (Ent.trans ?_ app_comm)
                exact Ent.refl
              · refine WMO_ent (M := Own 37 15 (.slice p2 n.l2.length q2) n.l2.length (flat mc n.l2) :: Cells b 134 (ncells c b0 b1 b2) :: Bag_msg b0 c.r0 n.l0 :: Bag_msg b1 c.r1 n.l1 :: Bag_msg b2 c.r2 n.l2 :: Cells bx 27 [.pointer (some ⟨b, 0, none⟩)] :: A (n.l0.length + n.l1.length + i + 1)) app_comm ?_
                repeat (refine gov ?_)
                refine WMO_nil (WME_out ?_)
                repeat (first | rintro _ _ ⟨rfl, rfl⟩ | rintro _ _ ⟨_, rfl, rfl⟩ | rintro _ _ ⟨_, _, rfl, rfl⟩ | intro _ | refine go ?_ | (refine is_draw ?_; refine WC_draw mixed (by kernel_rfl) ?_))
                refine WE_loop (i + 1) (by omega) (by omega) ?_ Ent.refl
                (repeat (first | exact Sub.nil | (refine Sub.cons (by first | rfl | (simp only [Nat.zero_add]; rfl)) ?_)))
              · refine WMO_ent (M := Own 37 15 (.slice p2 n.l2.length q2) n.l2.length (flat mc n.l2) :: C) app_comm ?_
                repeat (refine gov ?_)
                refine WMO_nil (WME_out ?_)
                repeat (first | rintro _ _ ⟨rfl, rfl⟩ | rintro _ _ ⟨_, rfl, rfl⟩ | rintro _ _ ⟨_, _, rfl, rfl⟩ | intro _ | refine go ?_ | (refine is_draw ?_; refine WC_draw mixed (by kernel_rfl) ?_))
                exact WE_seq_stop rfl rfl (by omega) (Ent.drop Ent.refl)
            · have hil : i = n.l2.length := by omega
              subst hil
              repeat (first | rintro _ _ ⟨rfl, rfl⟩ | rintro _ _ ⟨_, rfl, rfl⟩ | rintro _ _ ⟨_, _, rfl, rfl⟩ | intro _ | refine go ?_ | (refine is_draw ?_; refine WC_draw mixed (by kernel_rfl) ?_))
              refine WE_seq_done rfl rfl ?_
              have hlen : ((nall n).map mv).length = n.l0.length + n.l1.length + n.l2.length := by simp [nall]; omega
              rw [hlen]
              exact Ent.drop Ent.refl
theorem cfg_rooms {c : Cfg} (h : checkB c = true) : c.r0 ≤ 64 ∧ c.r1 ≤ 64 ∧ c.r2 ≤ 64 := by
  simp only [checkB, fitsB, Bool.and_eq_true, decide_eq_true_eq] at h
  omega
attribute [local irreducible] WM WME WMO BeginQ RoundEnd FnQM Code.wpIn
theorem net_Empty {F : List HP} {b : Nat} {c : Cfg} {n : Nets} : FnF Try.prog 26 [.pointer (some ⟨b, 0, none⟩)] [NetP b c n] F (fun r L' => r = .bool (decide (nall n = [])) ∧ L' = [NetP b c n]) := by
  refine FnF.mkM Try.func26 rfl rfl Try.ntmps26 rfl ?_
  refine net_open fun b0 b1 b2 ⟨hc, hn0, hn1, hn2⟩ => ?_
  obtain ⟨r0, r1, r2⟩ := cfg_rooms hc
  repeat (first | rintro _ _ ⟨rfl, rfl⟩ | rintro _ _ ⟨_, rfl, rfl⟩ | rintro _ _ ⟨_, _, rfl, rfl⟩ | intro _ | refine go ?_ | (refine is_draw ?_; refine WC_draw mixed (by kernel_rfl) ?_) | refine cal @net_all ?_)
  rename_i bt bx
  apply WC_rangeFunc (J := fun i => match i with | 0 => Cells bt 4 [.bool false] :: F | _ + 1 => [Fact False]) (Cells b 134 (ncells c b0 b1 b2) :: Bag_msg b0 c.r0 n.l0 :: Bag_msg b1 c.r1 n.l1 :: Bag_msg b2 c.r2 n.l2 :: Cells bx 27 [.pointer (some ⟨b, 0, none⟩)] :: Cells bt 4 [.bool false] :: F) rfl (enters_of Try.func116 rfl rfl) (net_seq (b := b) (c := c) (n := n) (b0 := b0) (b1 := b1) (b2 := b2) (by omega) (by omega) (by omega))
  · dsimp only [app]; (repeat (first | (with_reducible exact Ent.refl) | exact Ent.nil | (apply ent_pickE; (focus ((repeat (first | (with_reducible exact pk_here) | (apply pk_there))); done))) | apply Ent.drop))
  · rfl
  · intro l r D F' i hi hr
    cases i with
    | succ i =>
      exact WM_absurd (M := []) (by dsimp only [app]; (repeat (first | (with_reducible exact Ent.refl) | exact Ent.nil | (apply ent_pickE; (focus ((repeat (first | (with_reducible exact pk_here) | (apply pk_there))); done))) | apply Ent.drop)))
    | zero =>
      dsimp only [app]
      repeat (first | intro _ | refine gom ?_)
      refine WME_begin hr ?_
      repeat (first | intro _ | refine gom ?_)
      exact WME_stop (by (repeat (first | (with_reducible exact Ent.refl) | exact Ent.nil | (apply ent_pickE; (focus ((repeat (first | (with_reducible exact pk_here) | (apply pk_there))); done))) | apply Ent.drop)))
  · intro D
    by_cases h : nall n = []
    · have e0 : ((nall n).map mv).length = 0 := by simp [h]
      rw [e0]
      dsimp only [app]
      repeat (first | intro _ | refine gom ?_)
      apply WME_retM rfl rfl (by (repeat (first | exact ResOk.nil | (apply ResOk.tmp; rfl) | (apply resOk_cell; rfl; exact inferInstance; rfl; rfl))))
      · exact ⟨by rw [retVal_one, decide_eq_true h], rfl⟩
      · (apply net_in; (focus ((repeat (first | (with_reducible exact Ent.refl) | exact Ent.nil | (apply ent_pickE; (focus ((repeat (first | (with_reducible exact pk_here) | (apply pk_there))); done))) | apply Ent.drop)); done)); all_goals (first | rfl | (with_reducible assumption) | (simp; done) | (simp; omega) | omega | (constructor <;> (simp) <;> omega)))
    · have hl : ∃ k, ((nall n).map mv).length = k + 1 := by
        cases e : nall n with
        | nil => exact absurd e h
        | cons a r => exact ⟨r.length, by simp⟩
      obtain ⟨k, hk⟩ := hl
      rw [hk]
      exact WME_absurd (M := []) (by dsimp only [app]; (repeat (first | (with_reducible exact Ent.refl) | exact Ent.nil | (apply ent_pickE; (focus ((repeat (first | (with_reducible exact pk_here) | (apply pk_there))); done))) | apply Ent.drop)))
  · intro D h0
    have h : nall n ≠ [] := by rintro h; rw [h] at h0; simp at h0
    repeat (first | intro _ | refine gom ?_)
    apply WME_retM rfl rfl (by (repeat (first | exact ResOk.nil | (apply ResOk.tmp; rfl) | (apply resOk_cell; rfl; exact inferInstance; rfl; rfl))))
    · exact ⟨by rw [retVal_one, decide_eq_false h], rfl⟩
    · (apply net_in; (focus ((repeat (first | (with_reducible exact Ent.refl) | exact Ent.nil | (apply ent_pickE; (focus ((repeat (first | (with_reducible exact pk_here) | (apply pk_there))); done))) | apply Ent.drop)); done)); all_goals (first | rfl | (with_reducible assumption) | (simp; done) | (simp; omega) | omega | (constructor <;> (simp) <;> omega)))
/-- What is gathered. -/
def OfB (TS TM : TypeId) (b : Nat) (l : List Msg) : HP := Ex fun q : Option Addr × Nat => [Cells b TS [.slice q.1 l.length q.2], Own TM 15 (.slice q.1 l.length q.2) l.length (flat mc l)]
theorem of_in {TS TM : TypeId} {b n : Nat} {l : List Msg} {p : Option Addr} {q : Nat} {xs : List Value} {L M : List HP} (h : Ent L (Cells b TS [.slice p n q] :: Own TM 15 (.slice p n q) n xs :: M)) (hn : n = l.length) (hx : xs = flat mc l) : Ent L (OfB TS TM b l :: M) := by
  subst hn hx
  exact Ent.trans h (ex_intro (p := fun q : Option Addr × Nat => [Cells b TS [.slice q.1 l.length q.2], Own TM 15 (.slice q.1 l.length q.2) l.length (flat mc l)]) (p, q))
theorem net_Of {F : List HP} {b : Nat} {c : Cfg} {n : Nets} {line : Int} : FnF Try.prog 28 [.pointer (some ⟨b, 0, none⟩), .int .i64 line] [NetP b c n] F (fun r L' => ∃ p q, r = .slice p (nofL n line).length q ∧ L' = [Own 37 15 (.slice p (nofL n line).length q) (nofL n line).length (flat mc (nofL n line)), NetP b c n]) := by
  refine FnF.mkM Try.func28 rfl rfl Try.ntmps28 rfl ?_
  refine net_open fun b0 b1 b2 ⟨hc, hn0, hn1, hn2⟩ => ?_
  obtain ⟨r0, r1, r2⟩ := cfg_rooms hc
  have hall : (nall n).length ≤ 192 := by simp [nall]; omega
  have hlen : ∀ i, (((nall n).take i).filter fun m => decide (m.line = line)).length ≤ 192 := fun i => Nat.le_trans (List.length_filter_le _ _) (by rw [List.length_take]; omega)
  repeat (first | rintro _ _ ⟨rfl, rfl⟩ | rintro _ _ ⟨_, rfl, rfl⟩ | rintro _ _ ⟨_, _, rfl, rfl⟩ | intro _ | refine go ?_ | (refine is_draw ?_; refine WC_draw mixed (by kernel_rfl) ?_) | refine cal @net_all ?_)
  rename_i b3 b5 bx
  apply WC_rangeFunc (J := fun i => Cells b3 3 [.int .i64 line] :: OfB 46 37 b5 (((nall n).take i).filter fun m => decide (m.line = line)) :: F) [Fact False] rfl (enters_of Try.func116 rfl rfl) (net_seq (b := b) (c := c) (n := n) (b0 := b0) (b1 := b1) (b2 := b2) (by omega) (by omega) (by omega))
  · dsimp only [app]
    simp only [List.take_zero, List.filter_nil]
    refine Ent.trans (own_empty (e := 37) (sz := 15) (p := none) Ent.refl) ?_
    ((repeat (first | (with_reducible exact Ent.refl) | exact Ent.nil | (apply ent_pickE; (focus ((repeat (first | (with_reducible exact pk_here) | (apply pk_there))); done))) | (apply of_in) | apply Ent.drop)); all_goals (first | rfl | (with_reducible assumption) | (simp; done) | (simp; omega) | omega | (constructor <;> (simp) <;> omega)))
  · rfl
  · intro l r D F' i hi hr
    have hi' : i < (nall n).length := by simpa using hi
    have hxi : ((nall n).map mv)[i] = mv (nall n)[i] := by simp
    have hli := hlen i
    rw [hxi]
    dsimp only [app]
    repeat (first | intro _ | refine gom ?_)
    refine WME_ent (show Ent _ (ObjAt l (.loop (r .ready none)) :: _) from ent_pickE (pk_there pk_here) Ent.refl) ?_
    refine WME_begin hr ?_
    repeat (first | intro _ | refine gom ?_)
    apply WM_cond rfl
    · intro ht
      have et : (((nall n).take (i + 1)).filter fun m => decide (m.line = line)) = (((nall n).take i).filter fun m => decide (m.line = line)) ++ [(nall n)[i]] := by
        rw [List.take_add_one, List.getElem?_eq_getElem hi', List.filter_append]; simp [of_decide_eq_true ht]
      refine WM_ent (show Ent _ (OfB 46 37 b5 (((nall n).take i).filter fun m => decide (m.line = line)) :: _) from ent_pickE (by (repeat (first | exact pk_here | (apply pk_there)))) Ent.refl) ?_
      refine WM_ex fun q => ?_
      dsimp only [app]
      repeat (first | intro _ | refine gom ?_)
      refine WME_end ?_
      rw [et]
      ((repeat (first | (with_reducible exact Ent.refl) | exact Ent.nil | (apply ent_pickE; (focus ((repeat (first | (with_reducible exact pk_here) | (apply pk_there))); done))) | (apply of_in) | apply Ent.drop)); all_goals (first | rfl | (with_reducible assumption) | (simp [flat_append, flat_one]; done) | (simp [flat_append, flat_one]; omega) | omega | (constructor <;> (simp [flat_append, flat_one]) <;> omega)))
    · intro hf
      have et : (((nall n).take (i + 1)).filter fun m => decide (m.line = line)) = (((nall n).take i).filter fun m => decide (m.line = line)) := by
        rw [List.take_add_one, List.getElem?_eq_getElem hi', List.filter_append]; simp [of_decide_eq_false hf]
      repeat (first | intro _ | refine gom ?_)
      refine WME_end ?_
      rw [et]
      (repeat (first | (with_reducible exact Ent.refl) | exact Ent.nil | (apply ent_pickE; (focus ((repeat (first | (with_reducible exact pk_here) | (apply pk_there))); done))) | apply Ent.drop))
  · intro D
    have e0 : ((nall n).map mv).length = (nall n).length := by simp
    rw [e0, List.take_length]
    dsimp only [app]
    refine WME_ent (show Ent _ (OfB 46 37 b5 (nofL n line) :: _) from ent_pickE (by (repeat (first | exact pk_here | (apply pk_there)))) Ent.refl) ?_
    refine WME_ex fun q => ?_
    dsimp only [app]
    repeat (first | intro _ | refine gom ?_)
    refine WME_ent (show Ent _ (ObjAt D (.deferred (some [])) :: _) from ent_pickE (by (repeat (first | exact pk_here | (apply pk_there)))) Ent.refl) ?_
    apply WME_retM rfl rfl (by (repeat (first | exact ResOk.nil | (apply ResOk.tmp; rfl) | (apply resOk_cell; rfl; exact inferInstance; rfl; rfl))))
    · exact ⟨_, _, rfl, rfl⟩
    · ((repeat (first | (with_reducible exact Ent.refl) | exact Ent.nil | (apply ent_pickE; (focus ((repeat (first | (with_reducible exact pk_here) | (apply pk_there))); done))) | (apply net_in) | apply Ent.drop)); all_goals (first | rfl | (with_reducible assumption) | (simp; done) | (simp; omega) | omega | (constructor <;> (simp) <;> omega)))
  · intro D h0
    exact WME_absurd (M := []) (by (repeat (first | (with_reducible exact Ent.refl) | exact Ent.nil | (apply ent_pickE; (focus ((repeat (first | (with_reducible exact pk_here) | (apply pk_there))); done))) | apply Ent.drop)))
end Go.Sx
