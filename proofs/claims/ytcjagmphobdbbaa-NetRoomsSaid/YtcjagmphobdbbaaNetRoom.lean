/- The law of a net's rooms. My own work. -/
import Derived.Test.YtcjagmphobdbbaaNetLaw
namespace Go.Sx
open Go Go.Proofs
set_option linter.unusedVariables false
set_option linter.unusedSectionVars false
set_option linter.unusedSimpArgs false
/-- Nothing but messages that may be, each on its network. -/
def NetsOk (c : Cfg) (n : Nets) : Prop := ∀ k, k = 0 ∨ k = 1 ∨ k = 2 → ∀ m ∈ nget n k, MayP c m ∧ netK m.kind = k
theorem ok_no (c : Cfg) : NetsOk c .no := by
  rintro k (rfl | rfl | rfl) m hm <;> simp [nget] at hm
theorem ok_set {c : Cfg} {n : Nets} {j : Int} {l : List Msg} (h : NetsOk c n) (hl : ∀ m ∈ l, MayP c m ∧ netK m.kind = j) : NetsOk c (nset n j l) := by
  intro k hk m hm
  by_cases e : k = j
  · subst e
    have : nget (nset n k l) k = l := by rcases hk with rfl | rfl | rfl <;> rfl
    rw [this] at hm; exact hl m hm
  · have : nget (nset n j l) k = nget n k := by
      unfold nset
      split
      · rcases hk with rfl | rfl | rfl <;> first | (exfalso; omega) | rfl
      · split
        · rcases hk with rfl | rfl | rfl <;> first | (exfalso; omega) | rfl
        · split
          · rcases hk with rfl | rfl | rfl <;> first | (exfalso; omega) | rfl
          · rfl
    rw [this] at hm; exact h k hk m hm
theorem WC_netf {T TB TM : TypeId} {b : Nat} {c : Cfg} {n : Nets} {P : Program} {N : Nat} {co : Code} {env : Env} {L : List HP} {Q : Exit → Act → World → Prop}
    (h : (checkB c = true ∧ (n.l0.length : Int) ≤ c.r0 ∧ (n.l1.length : Int) ≤ c.r1 ∧ (n.l2.length : Int) ≤ c.r2) → WC P N co env (NetB T TB TM b c n :: L) Q) : WC P N co env (NetB T TB TM b c n :: L) Q := by
  intro a w ha hw
  obtain ⟨b0, b1, b2, hf, hx⟩ := net_sat hw
  exact h hf a w ha hw
set_option maxRecDepth 100000
set_option maxHeartbeats 4000000
attribute [local irreducible] Go.Exit.then Go.Exit.inBlock Go.Code.wp WC WO WE WQ V LoopQ FnQ Sat Star band bor IntKind.wrap WR Code.rounds WT KO
theorem law07_Rooms {W : World} {F : List HP} {c : Cfg} {v : Value} {l : List NOp} (hc : c.wf) (hl : l.length ≤ 9223372036854775807) (k : ROld W 18 v l.length (flat noc l)) :
    FnF Try.prog 4 [c.val, v] [Old W] F (fun r L' => r = .bool true ∧ L' = [Old W]) := by
  refine FnF.mk' Try.func4 rfl rfl Try.ntmps4 rfl ?_
  by_cases hm : 100 < l.length
  · repeat (first | rintro _ _ ⟨rfl, rfl⟩ | rintro _ _ ⟨_, rfl, rfl⟩ | rintro _ _ ⟨_, _, rfl, rfl⟩ | intro _ | refine go ?_ | (refine is_draw ?_; apply WC_mix (id := 19) true _ (pl := .p 0 <| .p 1 <| .p 2 <| .p 3 <| .p 4 <| .p 6 <| .p 7 <| .r 5 <| .r 8 <| .p 9 <| .e true [(10, .p 11 <| .p 12 <| .p 13 <| .e false [(14, .e false [(15, .p 16 <| .done)])]), (14, .e true [(10, .p 11 <| .p 12 <| .p 13 <| .e false [(15, .p 16 <| .done)])])]); exact mixed; kernel_rfl; kernel_rfl; exact Ent.refl) | (refine is_draw ?_; apply WC_mix (id := 33) false _ (pl := .p 0 <| .p 1 <| .p 3 <| .e true [(2, .p 4 <| .p 5 <| .p 6 <| .p 7 <| .p 8 <| .p 9 <| .p 10 <| .p 11 <| .p 14 <| .p 15 <| .p 16 <| .p 18 <| .r 17 <| .p 19 <| .e true [(12, .p 13 <| .p 20 <| .p 21 <| .done)])]); exact mixed; kernel_rfl; kernel_rfl; exact Ent.refl) | (refine is_draw ?_; refine WC_draw mixed (by kernel_rfl) ?_) | refine cal @law07_awake ?_)
    (apply WE_ret rfl rfl (by (repeat (first | exact ResOk.nil | (apply ResOk.tmp; rfl) | (apply resOk_cell; rfl; exact inferInstance; rfl; rfl)))); (first | exact ⟨rfl, rfl⟩ | exact ⟨congrArg Value.bool (by decide), rfl⟩ | exact ⟨_, rfl, rfl⟩ | exact ⟨_, _, rfl, rfl⟩ | exact ⟨by first | (simp []; done) | (simp [] <;> omega), rfl⟩); (repeat (first | exact Ent.refl | exact Ent.nil | apply Ent.pick | apply Ent.drop)))
  · cases he : checkB c with
    | false =>
      have hN := fun F => net_New_no (F := F) hc he
      repeat (first | rintro _ _ ⟨rfl, rfl⟩ | rintro _ _ ⟨_, rfl, rfl⟩ | rintro _ _ ⟨_, _, rfl, rfl⟩ | intro _ | refine go ?_ | (refine is_draw ?_; apply WC_mix (id := 19) true _ (pl := .p 0 <| .p 1 <| .p 2 <| .p 3 <| .p 4 <| .p 6 <| .p 7 <| .r 5 <| .r 8 <| .p 9 <| .e true [(10, .p 11 <| .p 12 <| .p 13 <| .e false [(14, .e false [(15, .p 16 <| .done)])]), (14, .e true [(10, .p 11 <| .p 12 <| .p 13 <| .e false [(15, .p 16 <| .done)])])]); exact mixed; kernel_rfl; kernel_rfl; exact Ent.refl) | (refine is_draw ?_; apply WC_mix (id := 33) false _ (pl := .p 0 <| .p 1 <| .p 3 <| .e true [(2, .p 4 <| .p 5 <| .p 6 <| .p 7 <| .p 8 <| .p 9 <| .p 10 <| .p 11 <| .p 14 <| .p 15 <| .p 16 <| .p 18 <| .r 17 <| .p 19 <| .e true [(12, .p 13 <| .p 20 <| .p 21 <| .done)])]); exact mixed; kernel_rfl; kernel_rfl; exact Ent.refl) | (refine is_draw ?_; refine WC_draw mixed (by kernel_rfl) ?_) | refine cal @law07_awake ?_ | refine cal @hN ?_)
      (apply WE_ret rfl rfl (by (repeat (first | exact ResOk.nil | (apply ResOk.tmp; rfl) | (apply resOk_cell; rfl; exact inferInstance; rfl; rfl)))); (first | exact ⟨rfl, rfl⟩ | exact ⟨congrArg Value.bool (by decide), rfl⟩ | exact ⟨_, rfl, rfl⟩ | exact ⟨_, _, rfl, rfl⟩ | exact ⟨by first | (simp []; done) | (simp [] <;> omega), rfl⟩); (repeat (first | exact Ent.refl | exact Ent.nil | apply Ent.pick | apply Ent.drop)))
    | true =>
      have hN := fun F => net_New (F := F) hc he
      obtain ⟨r0, r1, r2⟩ := cfg_rooms he
      repeat (first | rintro _ _ ⟨rfl, rfl⟩ | rintro _ _ ⟨_, rfl, rfl⟩ | rintro _ _ ⟨_, _, rfl, rfl⟩ | intro _ | refine go ?_ | (refine is_draw ?_; apply WC_mix (id := 19) true _ (pl := .p 0 <| .p 1 <| .p 2 <| .p 3 <| .p 4 <| .p 6 <| .p 7 <| .r 5 <| .r 8 <| .p 9 <| .e true [(10, .p 11 <| .p 12 <| .p 13 <| .e false [(14, .e false [(15, .p 16 <| .done)])]), (14, .e true [(10, .p 11 <| .p 12 <| .p 13 <| .e false [(15, .p 16 <| .done)])])]); exact mixed; kernel_rfl; kernel_rfl; exact Ent.refl) | (refine is_draw ?_; apply WC_mix (id := 33) false _ (pl := .p 0 <| .p 1 <| .p 3 <| .e true [(2, .p 4 <| .p 5 <| .p 6 <| .p 7 <| .p 8 <| .p 9 <| .p 10 <| .p 11 <| .p 14 <| .p 15 <| .p 16 <| .p 18 <| .r 17 <| .p 19 <| .e true [(12, .p 13 <| .p 20 <| .p 21 <| .done)])]); exact mixed; kernel_rfl; kernel_rfl; exact Ent.refl) | (refine is_draw ?_; refine WC_draw mixed (by kernel_rfl) ?_) | refine cal @law07_awake ?_ | refine cal @hN ?_)
      rename_i bc b
      apply WC_loopE (E0 := [(2, _), (5, _), (33, _), (34, _)]) (fun E0 (q : Nat × Nets) => (35, .int .i64 q.1) :: E0) (fun q => NetP b c q.2 :: Cells bc 24 c.cells :: Old W :: F) (fun q => q.1 ≤ l.length ∧ NetsOk c q.2) (fun q => l.length - q.1) (0, .no)
      · (repeat (first | exact Sub.nil | (refine Sub.cons (by first | rfl | (simp only [Nat.zero_add]; rfl)) ?_)))
      · exact ⟨Nat.zero_le _, ok_no c⟩
      · (repeat (first | (with_reducible exact Ent.refl) | exact Ent.nil | (apply ent_pickE; (focus ((repeat (first | (with_reducible exact pk_here) | (apply pk_there))); done))) | apply Ent.drop))
      · rintro ⟨i, n⟩ ⟨hi, hok⟩
        dsimp only at hi hok ⊢
        by_cases hlt : i < l.length
        · refine WC_netf fun hnf => ?_
          obtain ⟨hck0, hn0, hn1, hn2⟩ := hnf
          have hb0 : nleft c n 0 = c.r0 - n.l0.length := rfl
          have hb1 : nleft c n 1 = c.r1 - n.l1.length := rfl
          have hb2 : nleft c n 2 = c.r2 - n.l2.length := rfl
          repeat (first | rintro _ _ ⟨rfl, rfl⟩ | rintro _ _ ⟨_, rfl, rfl⟩ | rintro _ _ ⟨_, _, rfl, rfl⟩ | intro _ | refine go ?_ | (refine is_draw ?_; apply WC_mix (id := 19) true _ (pl := .p 0 <| .p 1 <| .p 2 <| .p 3 <| .p 4 <| .p 6 <| .p 7 <| .r 5 <| .r 8 <| .p 9 <| .e true [(10, .p 11 <| .p 12 <| .p 13 <| .e false [(14, .e false [(15, .p 16 <| .done)])]), (14, .e true [(10, .p 11 <| .p 12 <| .p 13 <| .e false [(15, .p 16 <| .done)])])]); exact mixed; kernel_rfl; kernel_rfl; exact Ent.refl) | (refine is_draw ?_; apply WC_mix (id := 33) false _ (pl := .p 0 <| .p 1 <| .p 3 <| .e true [(2, .p 4 <| .p 5 <| .p 6 <| .p 7 <| .p 8 <| .p 9 <| .p 10 <| .p 11 <| .p 14 <| .p 15 <| .p 16 <| .p 18 <| .r 17 <| .p 19 <| .e true [(12, .p 13 <| .p 20 <| .p 21 <| .done)])]); exact mixed; kernel_rfl; kernel_rfl; exact Ent.refl) | (refine is_draw ?_; refine WC_draw mixed (by kernel_rfl) ?_) | refine cal @net_Left ?_)
          rename_i bx b9
          apply WC_join (P := Try.prog) (fun x : Int × Int × Nets => [(99, .int .i64 0), (2, .pointer (some ⟨bc, 0, none⟩)), (5, .pointer (some ⟨b, 0, none⟩)), (9, .pointer (some ⟨b9, 0, none⟩)), (10, .int .i64 x.1), (11, .int .i64 x.2.1), (33, v), (34, .int .i64 l.length), (35, .int .i64 i)])
            (fun x => NetP b c x.2.2 :: Cells b9 22 [.int .i64 (nleft c n 0), .int .i64 (nleft c n 1), .int .i64 (nleft c n 2)] :: Cells bc 24 c.cells :: Old W :: F)
            (fun x => (x.1 = -1 ∨ x.1 = 0 ∨ x.1 = 1 ∨ x.1 = 2) ∧ (x.2.1 = 1 ∨ x.2.1 = -1) ∧ NetsOk c x.2.2 ∧ ∀ j, j = 0 ∨ j = 1 ∨ j = 2 → nleft c x.2.2 j = nleft c n j + (if x.1 = j then x.2.1 else 0))
          · intro join
            have hS := fun F => net_Send (F := F) (b := b) (n := n) (m := l[i].m) hc
            have hK := fun F => net_Take (F := F) (b := b) (c := c) (n := n) (k := l[i].k) (i := l[i].i)
            have hRN := fun F => ref05_Net (F := F) (k := l[i].m.kind)
            by_cases h0 : l[i].d = 0
            · by_cases hM : MayP c l[i].m
              · by_cases hf : ((nget n (netK l[i].m.kind)).length : Int) = nroom c (netK l[i].m.kind)
                · have e1 : nsendE c n l[i].m = 4 := by simp [nsendE, hM, putE, hf]
                  have e2 : nsendN c n l[i].m = n := by
                    simp only [nsendN, hM, if_true, putL, hf]
                    rcases netK_may hM with e | e | e <;> rw [e] <;> rfl
                  simp only [e1, e2] at hS
                  repeat (first | rintro _ _ ⟨rfl, rfl⟩ | rintro _ _ ⟨_, rfl, rfl⟩ | rintro _ _ ⟨_, _, rfl, rfl⟩ | intro _ | refine go ?_ | (refine is_draw ?_; apply WC_mix (id := 19) true _ (pl := .p 0 <| .p 1 <| .p 2 <| .p 3 <| .p 4 <| .p 6 <| .p 7 <| .r 5 <| .r 8 <| .p 9 <| .e true [(10, .p 11 <| .p 12 <| .p 13 <| .e false [(14, .e false [(15, .p 16 <| .done)])]), (14, .e true [(10, .p 11 <| .p 12 <| .p 13 <| .e false [(15, .p 16 <| .done)])])]); exact mixed; kernel_rfl; kernel_rfl; exact Ent.refl) | (refine is_draw ?_; apply WC_mix (id := 33) false _ (pl := .p 0 <| .p 1 <| .p 3 <| .e true [(2, .p 4 <| .p 5 <| .p 6 <| .p 7 <| .p 8 <| .p 9 <| .p 10 <| .p 11 <| .p 14 <| .p 15 <| .p 16 <| .p 18 <| .r 17 <| .p 19 <| .e true [(12, .p 13 <| .p 20 <| .p 21 <| .done)])]); exact mixed; kernel_rfl; kernel_rfl; exact Ent.refl) | (refine is_draw ?_; refine WC_draw mixed (by kernel_rfl) ?_) | refine cal @hS ?_ | refine cal @hRN ?_)
                  exact join (-1, -1, n) _ _ ⟨by simp, by simp, hok, fun j hj => by rcases hj with rfl | rfl | rfl <;> simp⟩ (by (repeat (first | exact Sub.nil | (refine Sub.cons (by first | rfl | (simp only [Nat.zero_add]; rfl)) ?_)))) (by (repeat (first | (with_reducible exact Ent.refl) | exact Ent.nil | (apply ent_pickE; (focus ((repeat (first | (with_reducible exact pk_here) | (apply pk_there))); done))) | apply Ent.drop)))
                · rcases netK_may hM with e | e | e
                  · rw [e] at hf
                    have hf' : ¬ (n.l0.length : Int) = c.r0 := hf
                    have e1 : nsendE c n l[i].m = 0 := by
                      simp only [nsendE, hM, if_true, e]; show putE c.r0 n.l0 = 0; simp [putE, hf']
                    have e2 : nsendN c n l[i].m = ⟨n.l0 ++ [l[i].m], n.l1, n.l2⟩ := by
                      simp only [nsendN, hM, if_true, e]; show nset n 0 (putL c.r0 n.l0 l[i].m) = _; simp [putL, hf', nset]
                    have hok2 : NetsOk c ⟨n.l0 ++ [l[i].m], n.l1, n.l2⟩ := by
                      have := ok_set (j := 0) (l := n.l0 ++ [l[i].m]) hok (fun m hm => by
                        rcases List.mem_append.1 hm with h | h
                        · exact hok 0 (by omega) m h
                        · rw [List.mem_singleton.1 h]; exact ⟨hM, e⟩)
                      exact this
                    simp only [e1, e2] at hS
                    rw [e] at hRN
                    have hat : c.r0 - nleft c n 0 = n.l0.length := by omega
                    have e3 : natM ⟨n.l0 ++ [l[i].m], n.l1, n.l2⟩ 0 (c.r0 - nleft c n 0) = l[i].m := by
                      rw [hat]; show atL .zero (n.l0 ++ [l[i].m]) (n.l0.length : Nat) = _; simp [atL, inL]; intro h; omega
                    have e4 : natB ⟨n.l0 ++ [l[i].m], n.l1, n.l2⟩ 0 (c.r0 - nleft c n 0) = true := by
                      rw [hat]; show inL (n.l0 ++ [l[i].m]) (n.l0.length : Nat) = _; simp [inL]; omega
                    have hA := fun F => net_At (F := F) (b := b) (c := c) (n := ⟨n.l0 ++ [l[i].m], n.l1, n.l2⟩) (k := 0) (i := c.r0 - nleft c n 0)
                    simp only [e3, e4] at hA
                    repeat' (first | rintro _ _ ⟨rfl, rfl⟩ | rintro _ _ ⟨_, rfl, rfl⟩ | rintro _ _ ⟨_, _, rfl, rfl⟩ | intro _ | refine go ?_ | (refine is_draw ?_; apply WC_mix (id := 19) true _ (pl := .p 0 <| .p 1 <| .p 2 <| .p 3 <| .p 4 <| .p 6 <| .p 7 <| .r 5 <| .r 8 <| .p 9 <| .e true [(10, .p 11 <| .p 12 <| .p 13 <| .e false [(14, .e false [(15, .p 16 <| .done)])]), (14, .e true [(10, .p 11 <| .p 12 <| .p 13 <| .e false [(15, .p 16 <| .done)])])]); exact mixed; kernel_rfl; kernel_rfl; exact Ent.refl) | (refine is_draw ?_; apply WC_mix (id := 33) false _ (pl := .p 0 <| .p 1 <| .p 3 <| .e true [(2, .p 4 <| .p 5 <| .p 6 <| .p 7 <| .p 8 <| .p 9 <| .p 10 <| .p 11 <| .p 14 <| .p 15 <| .p 16 <| .p 18 <| .r 17 <| .p 19 <| .e true [(12, .p 13 <| .p 20 <| .p 21 <| .done)])]); exact mixed; kernel_rfl; kernel_rfl; exact Ent.refl) | (refine is_draw ?_; refine WC_draw mixed (by kernel_rfl) ?_) | refine cal @hS ?_ | refine cal @hRN ?_ | refine cal @hA ?_ | refine spl ?_ ?_ | fail)
                    all_goals exact join (0, -1, ⟨n.l0 ++ [l[i].m], n.l1, n.l2⟩) _ _ ⟨by simp, by simp, hok2, fun j hj => by rcases hj with rfl | rfl | rfl <;> simp [nleft, nget, nroom] <;> omega⟩ (by (repeat (first | exact Sub.nil | (refine Sub.cons (by first | rfl | (simp only [Nat.zero_add]; rfl)) ?_)))) (by (repeat (first | (with_reducible exact Ent.refl) | exact Ent.nil | (apply ent_pickE; (focus ((repeat (first | (with_reducible exact pk_here) | (apply pk_there))); done))) | apply Ent.drop)))
                  · rw [e] at hf
                    have hf' : ¬ (n.l1.length : Int) = c.r1 := hf
                    have e1 : nsendE c n l[i].m = 0 := by
                      simp only [nsendE, hM, if_true, e]; show putE c.r1 n.l1 = 0; simp [putE, hf']
                    have e2 : nsendN c n l[i].m = ⟨n.l0, n.l1 ++ [l[i].m], n.l2⟩ := by
                      simp only [nsendN, hM, if_true, e]; show nset n 1 (putL c.r1 n.l1 l[i].m) = _; simp [putL, hf', nset]
                    have hok2 : NetsOk c ⟨n.l0, n.l1 ++ [l[i].m], n.l2⟩ := by
                      have := ok_set (j := 1) (l := n.l1 ++ [l[i].m]) hok (fun m hm => by
                        rcases List.mem_append.1 hm with h | h
                        · exact hok 1 (by omega) m h
                        · rw [List.mem_singleton.1 h]; exact ⟨hM, e⟩)
                      exact this
                    simp only [e1, e2] at hS
                    rw [e] at hRN
                    have hat : c.r1 - nleft c n 1 = n.l1.length := by omega
                    have e3 : natM ⟨n.l0, n.l1 ++ [l[i].m], n.l2⟩ 1 (c.r1 - nleft c n 1) = l[i].m := by
                      rw [hat]; show atL .zero (n.l1 ++ [l[i].m]) (n.l1.length : Nat) = _; simp [atL, inL]; intro h; omega
                    have e4 : natB ⟨n.l0, n.l1 ++ [l[i].m], n.l2⟩ 1 (c.r1 - nleft c n 1) = true := by
                      rw [hat]; show inL (n.l1 ++ [l[i].m]) (n.l1.length : Nat) = _; simp [inL]; omega
                    have hA := fun F => net_At (F := F) (b := b) (c := c) (n := ⟨n.l0, n.l1 ++ [l[i].m], n.l2⟩) (k := 1) (i := c.r1 - nleft c n 1)
                    simp only [e3, e4] at hA
                    repeat' (first | rintro _ _ ⟨rfl, rfl⟩ | rintro _ _ ⟨_, rfl, rfl⟩ | rintro _ _ ⟨_, _, rfl, rfl⟩ | intro _ | refine go ?_ | (refine is_draw ?_; apply WC_mix (id := 19) true _ (pl := .p 0 <| .p 1 <| .p 2 <| .p 3 <| .p 4 <| .p 6 <| .p 7 <| .r 5 <| .r 8 <| .p 9 <| .e true [(10, .p 11 <| .p 12 <| .p 13 <| .e false [(14, .e false [(15, .p 16 <| .done)])]), (14, .e true [(10, .p 11 <| .p 12 <| .p 13 <| .e false [(15, .p 16 <| .done)])])]); exact mixed; kernel_rfl; kernel_rfl; exact Ent.refl) | (refine is_draw ?_; apply WC_mix (id := 33) false _ (pl := .p 0 <| .p 1 <| .p 3 <| .e true [(2, .p 4 <| .p 5 <| .p 6 <| .p 7 <| .p 8 <| .p 9 <| .p 10 <| .p 11 <| .p 14 <| .p 15 <| .p 16 <| .p 18 <| .r 17 <| .p 19 <| .e true [(12, .p 13 <| .p 20 <| .p 21 <| .done)])]); exact mixed; kernel_rfl; kernel_rfl; exact Ent.refl) | (refine is_draw ?_; refine WC_draw mixed (by kernel_rfl) ?_) | refine cal @hS ?_ | refine cal @hRN ?_ | refine cal @hA ?_ | refine spl ?_ ?_ | fail)
                    all_goals exact join (1, -1, ⟨n.l0, n.l1 ++ [l[i].m], n.l2⟩) _ _ ⟨by simp, by simp, hok2, fun j hj => by rcases hj with rfl | rfl | rfl <;> simp [nleft, nget, nroom] <;> omega⟩ (by (repeat (first | exact Sub.nil | (refine Sub.cons (by first | rfl | (simp only [Nat.zero_add]; rfl)) ?_)))) (by (repeat (first | (with_reducible exact Ent.refl) | exact Ent.nil | (apply ent_pickE; (focus ((repeat (first | (with_reducible exact pk_here) | (apply pk_there))); done))) | apply Ent.drop)))
                  · rw [e] at hf
                    have hf' : ¬ (n.l2.length : Int) = c.r2 := hf
                    have e1 : nsendE c n l[i].m = 0 := by
                      simp only [nsendE, hM, if_true, e]; show putE c.r2 n.l2 = 0; simp [putE, hf']
                    have e2 : nsendN c n l[i].m = ⟨n.l0, n.l1, n.l2 ++ [l[i].m]⟩ := by
                      simp only [nsendN, hM, if_true, e]; show nset n 2 (putL c.r2 n.l2 l[i].m) = _; simp [putL, hf', nset]
                    have hok2 : NetsOk c ⟨n.l0, n.l1, n.l2 ++ [l[i].m]⟩ := by
                      have := ok_set (j := 2) (l := n.l2 ++ [l[i].m]) hok (fun m hm => by
                        rcases List.mem_append.1 hm with h | h
                        · exact hok 2 (by omega) m h
                        · rw [List.mem_singleton.1 h]; exact ⟨hM, e⟩)
                      exact this
                    simp only [e1, e2] at hS
                    rw [e] at hRN
                    have hat : c.r2 - nleft c n 2 = n.l2.length := by omega
                    have e3 : natM ⟨n.l0, n.l1, n.l2 ++ [l[i].m]⟩ 2 (c.r2 - nleft c n 2) = l[i].m := by
                      rw [hat]; show atL .zero (n.l2 ++ [l[i].m]) (n.l2.length : Nat) = _; simp [atL, inL]; intro h; omega
                    have e4 : natB ⟨n.l0, n.l1, n.l2 ++ [l[i].m]⟩ 2 (c.r2 - nleft c n 2) = true := by
                      rw [hat]; show inL (n.l2 ++ [l[i].m]) (n.l2.length : Nat) = _; simp [inL]; omega
                    have hA := fun F => net_At (F := F) (b := b) (c := c) (n := ⟨n.l0, n.l1, n.l2 ++ [l[i].m]⟩) (k := 2) (i := c.r2 - nleft c n 2)
                    simp only [e3, e4] at hA
                    repeat' (first | rintro _ _ ⟨rfl, rfl⟩ | rintro _ _ ⟨_, rfl, rfl⟩ | rintro _ _ ⟨_, _, rfl, rfl⟩ | intro _ | refine go ?_ | (refine is_draw ?_; apply WC_mix (id := 19) true _ (pl := .p 0 <| .p 1 <| .p 2 <| .p 3 <| .p 4 <| .p 6 <| .p 7 <| .r 5 <| .r 8 <| .p 9 <| .e true [(10, .p 11 <| .p 12 <| .p 13 <| .e false [(14, .e false [(15, .p 16 <| .done)])]), (14, .e true [(10, .p 11 <| .p 12 <| .p 13 <| .e false [(15, .p 16 <| .done)])])]); exact mixed; kernel_rfl; kernel_rfl; exact Ent.refl) | (refine is_draw ?_; apply WC_mix (id := 33) false _ (pl := .p 0 <| .p 1 <| .p 3 <| .e true [(2, .p 4 <| .p 5 <| .p 6 <| .p 7 <| .p 8 <| .p 9 <| .p 10 <| .p 11 <| .p 14 <| .p 15 <| .p 16 <| .p 18 <| .r 17 <| .p 19 <| .e true [(12, .p 13 <| .p 20 <| .p 21 <| .done)])]); exact mixed; kernel_rfl; kernel_rfl; exact Ent.refl) | (refine is_draw ?_; refine WC_draw mixed (by kernel_rfl) ?_) | refine cal @hS ?_ | refine cal @hRN ?_ | refine cal @hA ?_ | refine spl ?_ ?_ | fail)
                    all_goals exact join (2, -1, ⟨n.l0, n.l1, n.l2 ++ [l[i].m]⟩) _ _ ⟨by simp, by simp, hok2, fun j hj => by rcases hj with rfl | rfl | rfl <;> simp [nleft, nget, nroom] <;> omega⟩ (by (repeat (first | exact Sub.nil | (refine Sub.cons (by first | rfl | (simp only [Nat.zero_add]; rfl)) ?_)))) (by (repeat (first | (with_reducible exact Ent.refl) | exact Ent.nil | (apply ent_pickE; (focus ((repeat (first | (with_reducible exact pk_here) | (apply pk_there))); done))) | apply Ent.drop)))
              · have e1 : nsendE c n l[i].m = 1 := if_neg hM
                have e2 : nsendN c n l[i].m = n := if_neg hM
                simp only [e1, e2] at hS
                repeat (first | rintro _ _ ⟨rfl, rfl⟩ | rintro _ _ ⟨_, rfl, rfl⟩ | rintro _ _ ⟨_, _, rfl, rfl⟩ | intro _ | refine go ?_ | (refine is_draw ?_; apply WC_mix (id := 19) true _ (pl := .p 0 <| .p 1 <| .p 2 <| .p 3 <| .p 4 <| .p 6 <| .p 7 <| .r 5 <| .r 8 <| .p 9 <| .e true [(10, .p 11 <| .p 12 <| .p 13 <| .e false [(14, .e false [(15, .p 16 <| .done)])]), (14, .e true [(10, .p 11 <| .p 12 <| .p 13 <| .e false [(15, .p 16 <| .done)])])]); exact mixed; kernel_rfl; kernel_rfl; exact Ent.refl) | (refine is_draw ?_; apply WC_mix (id := 33) false _ (pl := .p 0 <| .p 1 <| .p 3 <| .e true [(2, .p 4 <| .p 5 <| .p 6 <| .p 7 <| .p 8 <| .p 9 <| .p 10 <| .p 11 <| .p 14 <| .p 15 <| .p 16 <| .p 18 <| .r 17 <| .p 19 <| .e true [(12, .p 13 <| .p 20 <| .p 21 <| .done)])]); exact mixed; kernel_rfl; kernel_rfl; exact Ent.refl) | (refine is_draw ?_; refine WC_draw mixed (by kernel_rfl) ?_) | refine cal @hS ?_ | refine cal @hRN ?_)
                exact join (-1, -1, n) _ _ ⟨by simp, by simp, hok, fun j hj => by rcases hj with rfl | rfl | rfl <;> simp⟩ (by (repeat (first | exact Sub.nil | (refine Sub.cons (by first | rfl | (simp only [Nat.zero_add]; rfl)) ?_)))) (by (repeat (first | (with_reducible exact Ent.refl) | exact Ent.nil | (apply ent_pickE; (focus ((repeat (first | (with_reducible exact pk_here) | (apply pk_there))); done))) | apply Ent.drop)))
            · cases hin : natB n l[i].k l[i].i with
              | false =>
                have hin' : inL (nget n l[i].k) l[i].i = false := hin
                have e1 : ntakeE n l[i].k l[i].i = 5 := by simp [ntakeE, takeE, hin']
                have e2 : ntakeN n l[i].k l[i].i = n := by
                  unfold ntakeN takeL; rw [hin']; simp only [Bool.false_eq_true, if_false]
                  cases h : hasN l[i].k with
                  | false => exact nset_no h
                  | true => rcases hasN_case h with e | e | e <;> rw [e] <;> rfl
                simp only [e1, e2] at hK
                repeat (first | rintro _ _ ⟨rfl, rfl⟩ | rintro _ _ ⟨_, rfl, rfl⟩ | rintro _ _ ⟨_, _, rfl, rfl⟩ | intro _ | refine go ?_ | (refine is_draw ?_; apply WC_mix (id := 19) true _ (pl := .p 0 <| .p 1 <| .p 2 <| .p 3 <| .p 4 <| .p 6 <| .p 7 <| .r 5 <| .r 8 <| .p 9 <| .e true [(10, .p 11 <| .p 12 <| .p 13 <| .e false [(14, .e false [(15, .p 16 <| .done)])]), (14, .e true [(10, .p 11 <| .p 12 <| .p 13 <| .e false [(15, .p 16 <| .done)])])]); exact mixed; kernel_rfl; kernel_rfl; exact Ent.refl) | (refine is_draw ?_; apply WC_mix (id := 33) false _ (pl := .p 0 <| .p 1 <| .p 3 <| .e true [(2, .p 4 <| .p 5 <| .p 6 <| .p 7 <| .p 8 <| .p 9 <| .p 10 <| .p 11 <| .p 14 <| .p 15 <| .p 16 <| .p 18 <| .r 17 <| .p 19 <| .e true [(12, .p 13 <| .p 20 <| .p 21 <| .done)])]); exact mixed; kernel_rfl; kernel_rfl; exact Ent.refl) | (refine is_draw ?_; refine WC_draw mixed (by kernel_rfl) ?_) | refine cal @hK ?_)
                exact join (-1, -1, n) _ _ ⟨by simp, by simp, hok, fun j hj => by rcases hj with rfl | rfl | rfl <;> simp⟩ (by (repeat (first | exact Sub.nil | (refine Sub.cons (by first | rfl | (simp only [Nat.zero_add]; rfl)) ?_)))) (by (repeat (first | (with_reducible exact Ent.refl) | exact Ent.nil | (apply ent_pickE; (focus ((repeat (first | (with_reducible exact pk_here) | (apply pk_there))); done))) | apply Ent.drop)))
              | true =>
                have hin' : inL (nget n l[i].k) l[i].i = true := hin
                have hh : hasN l[i].k = true := by
                  cases h : hasN l[i].k with
                  | true => rfl
                  | false => have := inL_iff.1 hin'; rw [nget_no h] at this; simp only [List.length_nil] at this; omega
                obtain ⟨g1, g2⟩ := inL_iff.1 hin'
                have hlt2 : l[i].i.toNat < (nget n l[i].k).length := by omega
                have e1 : ntakeE n l[i].k l[i].i = 0 := by simp [ntakeE, takeE, hin']
                have e2 : ntakeN n l[i].k l[i].i = nset n l[i].k ((nget n l[i].k).eraseIdx l[i].i.toNat) := by simp [ntakeN, takeL, hin']
                have e3 : natM n l[i].k l[i].i = (nget n l[i].k)[l[i].i.toNat] := by simp [natM, atL, hin', hlt2]
                have hmk := hok l[i].k (hasN_case hh) _ (List.getElem_mem hlt2)
                have hok2 := ok_set (j := l[i].k) (l := (nget n l[i].k).eraseIdx l[i].i.toNat) hok (fun m hm => hok l[i].k (hasN_case hh) m (List.mem_of_mem_eraseIdx hm))
                have hle := List.length_eraseIdx_of_lt hlt2
                have hRN2 := fun F => ref05_Net (F := F) (k := (natM n l[i].k l[i].i).kind)
                rw [e3, hmk.2] at hRN2
                simp only [e1, e2, e3] at hK
                repeat (first | rintro _ _ ⟨rfl, rfl⟩ | rintro _ _ ⟨_, rfl, rfl⟩ | rintro _ _ ⟨_, _, rfl, rfl⟩ | intro _ | refine go ?_ | (refine is_draw ?_; apply WC_mix (id := 19) true _ (pl := .p 0 <| .p 1 <| .p 2 <| .p 3 <| .p 4 <| .p 6 <| .p 7 <| .r 5 <| .r 8 <| .p 9 <| .e true [(10, .p 11 <| .p 12 <| .p 13 <| .e false [(14, .e false [(15, .p 16 <| .done)])]), (14, .e true [(10, .p 11 <| .p 12 <| .p 13 <| .e false [(15, .p 16 <| .done)])])]); exact mixed; kernel_rfl; kernel_rfl; exact Ent.refl) | (refine is_draw ?_; apply WC_mix (id := 33) false _ (pl := .p 0 <| .p 1 <| .p 3 <| .e true [(2, .p 4 <| .p 5 <| .p 6 <| .p 7 <| .p 8 <| .p 9 <| .p 10 <| .p 11 <| .p 14 <| .p 15 <| .p 16 <| .p 18 <| .r 17 <| .p 19 <| .e true [(12, .p 13 <| .p 20 <| .p 21 <| .done)])]); exact mixed; kernel_rfl; kernel_rfl; exact Ent.refl) | (refine is_draw ?_; refine WC_draw mixed (by kernel_rfl) ?_) | refine cal @hK ?_ | refine cal @hRN2 ?_)
                refine join (l[i].k, 1, nset n l[i].k ((nget n l[i].k).eraseIdx l[i].i.toNat)) _ _ ⟨by have := hasN_case hh; dsimp only; omega, by simp, hok2, fun j hj => ?_⟩ (by (repeat (first | exact Sub.nil | (refine Sub.cons (by first | rfl | (simp only [Nat.zero_add]; rfl)) ?_)))) (by (repeat (first | (with_reducible exact Ent.refl) | exact Ent.nil | (apply ent_pickE; (focus ((repeat (first | (with_reducible exact pk_here) | (apply pk_there))); done))) | apply Ent.drop)))
                dsimp only
                rcases hasN_case hh with e | e | e <;> rw [e] at hle hlt2 ⊢ <;> rcases hj with rfl | rfl | rfl <;> simp [nleft, nset, nget, nroom] at hle hlt2 ⊢ <;> omega
          · rintro ⟨kk, by', n2⟩ ⟨hkk, hby, hok2, hw⟩
            dsimp only at hkk hby hok2 hw ⊢
            refine WC_netf fun hnf => ?_
            obtain ⟨hck1, hm0, hm1, hm2⟩ := hnf
            have hw0 := hw 0 (by simp)
            have hw1 := hw 1 (by simp)
            have hw2 := hw 2 (by simp)
            have hc0 : nleft c n2 0 = c.r0 - n2.l0.length := rfl
            have hc1 : nleft c n2 1 = c.r1 - n2.l1.length := rfl
            have hc2 : nleft c n2 2 = c.r2 - n2.l2.length := rfl
            have hK0 := fun F => net_Left (F := F) (b := b) (c := c) (n := n2) (k := 0)
            have hK1 := fun F => net_Left (F := F) (b := b) (c := c) (n := n2) (k := 1)
            have hK2 := fun F => net_Left (F := F) (b := b) (c := c) (n := n2) (k := 2)
            have hL0 := fun F => net_List (F := F) (b := b) (c := c) (n := n2) (k := 0)
            have hL1 := fun F => net_List (F := F) (b := b) (c := c) (n := n2) (k := 1)
            have hL2 := fun F => net_List (F := F) (b := b) (c := c) (n := n2) (k := 2)
            simp only [show nget n2 0 = n2.l0 from rfl, show nget n2 1 = n2.l1 from rfl, show nget n2 2 = n2.l2 from rfl] at hL0 hL1 hL2
            have ho0 : ∀ m ∈ n2.l0, MayP c m ∧ netK m.kind = 0 := hok2 0 (by simp)
            have ho1 : ∀ m ∈ n2.l1, MayP c m ∧ netK m.kind = 1 := hok2 1 (by simp)
            have ho2 : ∀ m ∈ n2.l2, MayP c m ∧ netK m.kind = 2 := hok2 2 (by simp)
            rcases hkk with rfl | rfl | rfl | rfl
            · simp at hw0 hw1 hw2
              refine WC_rounds 4 ?_
              repeat (first | rintro _ _ ⟨rfl, rfl⟩ | rintro _ _ ⟨_, rfl, rfl⟩ | rintro _ _ ⟨_, _, rfl, rfl⟩ | intro _ | refine go ?_ | (refine is_draw ?_; apply WC_mix (id := 19) true _ (pl := .p 0 <| .p 1 <| .p 2 <| .p 3 <| .p 4 <| .p 6 <| .p 7 <| .r 5 <| .r 8 <| .p 9 <| .e true [(10, .p 11 <| .p 12 <| .p 13 <| .e false [(14, .e false [(15, .p 16 <| .done)])]), (14, .e true [(10, .p 11 <| .p 12 <| .p 13 <| .e false [(15, .p 16 <| .done)])])]); exact mixed; kernel_rfl; kernel_rfl; exact Ent.refl) | (refine is_draw ?_; apply WC_mix (id := 33) false _ (pl := .p 0 <| .p 1 <| .p 3 <| .e true [(2, .p 4 <| .p 5 <| .p 6 <| .p 7 <| .p 8 <| .p 9 <| .p 10 <| .p 11 <| .p 14 <| .p 15 <| .p 16 <| .p 18 <| .r 17 <| .p 19 <| .e true [(12, .p 13 <| .p 20 <| .p 21 <| .done)])]); exact mixed; kernel_rfl; kernel_rfl; exact Ent.refl) | (refine is_draw ?_; refine WC_draw mixed (by kernel_rfl) ?_) | refine cal @hK0 ?_ | refine cal @hL0 ?_)
              rename_i bp0 pp0 qq0
              apply WC_loopE (E0 := [(2, _), (5, _), (9, _), (10, _), (11, _), (17, _), (33, _), (34, _), (35, _), (99, _), (135, _), (136, _)]) (fun E0 (j : Nat) => (137, .int .i64 j) :: E0) (fun _ => Own 37 15 (.slice pp0 n2.l0.length qq0) n2.l0.length (flat mc n2.l0) :: NetP b c n2 :: Cells b9 22 [.int .i64 (nleft c n 0), .int .i64 (nleft c n 1), .int .i64 (nleft c n 2)] :: Cells bc 24 c.cells :: Old W :: F) (fun j => j ≤ n2.l0.length) (fun j => n2.l0.length - j) 0
              · (repeat (first | exact Sub.nil | (refine Sub.cons (by first | rfl | (simp only [Nat.zero_add]; rfl)) ?_)))
              · exact Nat.zero_le _
              · (repeat (first | (with_reducible exact Ent.refl) | exact Ent.nil | (apply ent_pickE; (focus ((repeat (first | (with_reducible exact pk_here) | (apply pk_there))); done))) | apply Ent.drop))
              · intro j hj
                by_cases hjl : j < n2.l0.length
                · have hmj := ho0 _ (List.getElem_mem hjl)
                  have hMj := fun F => ref05_May (F := F) (c := c) (m := n2.l0[j]) hc
                  have hNj := fun F => ref05_Net (F := F) (k := n2.l0[j].kind)
                  simp only [decide_eq_true hmj.1] at hMj
                  rw [hmj.2] at hNj
                  repeat (first | rintro _ _ ⟨rfl, rfl⟩ | rintro _ _ ⟨_, rfl, rfl⟩ | rintro _ _ ⟨_, _, rfl, rfl⟩ | intro _ | refine go ?_ | (refine is_draw ?_; apply WC_mix (id := 19) true _ (pl := .p 0 <| .p 1 <| .p 2 <| .p 3 <| .p 4 <| .p 6 <| .p 7 <| .r 5 <| .r 8 <| .p 9 <| .e true [(10, .p 11 <| .p 12 <| .p 13 <| .e false [(14, .e false [(15, .p 16 <| .done)])]), (14, .e true [(10, .p 11 <| .p 12 <| .p 13 <| .e false [(15, .p 16 <| .done)])])]); exact mixed; kernel_rfl; kernel_rfl; exact Ent.refl) | (refine is_draw ?_; apply WC_mix (id := 33) false _ (pl := .p 0 <| .p 1 <| .p 3 <| .e true [(2, .p 4 <| .p 5 <| .p 6 <| .p 7 <| .p 8 <| .p 9 <| .p 10 <| .p 11 <| .p 14 <| .p 15 <| .p 16 <| .p 18 <| .r 17 <| .p 19 <| .e true [(12, .p 13 <| .p 20 <| .p 21 <| .done)])]); exact mixed; kernel_rfl; kernel_rfl; exact Ent.refl) | (refine is_draw ?_; refine WC_draw mixed (by kernel_rfl) ?_) | refine cal @hMj ?_ | refine cal @hNj ?_)
                  refine WE_loop (j + 1) (by omega) (by omega) ?_ ?_
                  · (repeat (first | exact Sub.nil | (refine Sub.cons (by first | rfl | (simp only [Nat.zero_add]; rfl)) ?_)))
                  · (repeat (first | (with_reducible exact Ent.refl) | exact Ent.nil | (apply ent_pickE; (focus ((repeat (first | (with_reducible exact pk_here) | (apply pk_there))); done))) | apply Ent.drop))
                · have hjj : j = n2.l0.length := by omega
                  subst hjj
                  repeat (first | rintro _ _ ⟨rfl, rfl⟩ | rintro _ _ ⟨_, rfl, rfl⟩ | rintro _ _ ⟨_, _, rfl, rfl⟩ | intro _ | refine go ?_ | (refine is_draw ?_; apply WC_mix (id := 19) true _ (pl := .p 0 <| .p 1 <| .p 2 <| .p 3 <| .p 4 <| .p 6 <| .p 7 <| .r 5 <| .r 8 <| .p 9 <| .e true [(10, .p 11 <| .p 12 <| .p 13 <| .e false [(14, .e false [(15, .p 16 <| .done)])]), (14, .e true [(10, .p 11 <| .p 12 <| .p 13 <| .e false [(15, .p 16 <| .done)])])]); exact mixed; kernel_rfl; kernel_rfl; exact Ent.refl) | (refine is_draw ?_; apply WC_mix (id := 33) false _ (pl := .p 0 <| .p 1 <| .p 3 <| .e true [(2, .p 4 <| .p 5 <| .p 6 <| .p 7 <| .p 8 <| .p 9 <| .p 10 <| .p 11 <| .p 14 <| .p 15 <| .p 16 <| .p 18 <| .r 17 <| .p 19 <| .e true [(12, .p 13 <| .p 20 <| .p 21 <| .done)])]); exact mixed; kernel_rfl; kernel_rfl; exact Ent.refl) | (refine is_draw ?_; refine WC_draw mixed (by kernel_rfl) ?_) | refine cal @hK1 ?_ | refine cal @hL1 ?_)
                  rename_i bp1 pp1 qq1
                  apply WC_loopE (E0 := [(2, _), (5, _), (9, _), (10, _), (11, _), (17, _), (33, _), (34, _), (35, _), (99, _), (135, _), (136, _)]) (fun E0 (j : Nat) => (137, .int .i64 j) :: E0) (fun _ => Own 37 15 (.slice pp1 n2.l1.length qq1) n2.l1.length (flat mc n2.l1) :: NetP b c n2 :: Cells b9 22 [.int .i64 (nleft c n 0), .int .i64 (nleft c n 1), .int .i64 (nleft c n 2)] :: Cells bc 24 c.cells :: Old W :: F) (fun j => j ≤ n2.l1.length) (fun j => n2.l1.length - j) 0
                  · (repeat (first | exact Sub.nil | (refine Sub.cons (by first | rfl | (simp only [Nat.zero_add]; rfl)) ?_)))
                  · exact Nat.zero_le _
                  · (repeat (first | (with_reducible exact Ent.refl) | exact Ent.nil | (apply ent_pickE; (focus ((repeat (first | (with_reducible exact pk_here) | (apply pk_there))); done))) | apply Ent.drop))
                  · intro j hj
                    by_cases hjl : j < n2.l1.length
                    · have hmj := ho1 _ (List.getElem_mem hjl)
                      have hMj := fun F => ref05_May (F := F) (c := c) (m := n2.l1[j]) hc
                      have hNj := fun F => ref05_Net (F := F) (k := n2.l1[j].kind)
                      simp only [decide_eq_true hmj.1] at hMj
                      rw [hmj.2] at hNj
                      repeat (first | rintro _ _ ⟨rfl, rfl⟩ | rintro _ _ ⟨_, rfl, rfl⟩ | rintro _ _ ⟨_, _, rfl, rfl⟩ | intro _ | refine go ?_ | (refine is_draw ?_; apply WC_mix (id := 19) true _ (pl := .p 0 <| .p 1 <| .p 2 <| .p 3 <| .p 4 <| .p 6 <| .p 7 <| .r 5 <| .r 8 <| .p 9 <| .e true [(10, .p 11 <| .p 12 <| .p 13 <| .e false [(14, .e false [(15, .p 16 <| .done)])]), (14, .e true [(10, .p 11 <| .p 12 <| .p 13 <| .e false [(15, .p 16 <| .done)])])]); exact mixed; kernel_rfl; kernel_rfl; exact Ent.refl) | (refine is_draw ?_; apply WC_mix (id := 33) false _ (pl := .p 0 <| .p 1 <| .p 3 <| .e true [(2, .p 4 <| .p 5 <| .p 6 <| .p 7 <| .p 8 <| .p 9 <| .p 10 <| .p 11 <| .p 14 <| .p 15 <| .p 16 <| .p 18 <| .r 17 <| .p 19 <| .e true [(12, .p 13 <| .p 20 <| .p 21 <| .done)])]); exact mixed; kernel_rfl; kernel_rfl; exact Ent.refl) | (refine is_draw ?_; refine WC_draw mixed (by kernel_rfl) ?_) | refine cal @hMj ?_ | refine cal @hNj ?_)
                      refine WE_loop (j + 1) (by omega) (by omega) ?_ ?_
                      · (repeat (first | exact Sub.nil | (refine Sub.cons (by first | rfl | (simp only [Nat.zero_add]; rfl)) ?_)))
                      · (repeat (first | (with_reducible exact Ent.refl) | exact Ent.nil | (apply ent_pickE; (focus ((repeat (first | (with_reducible exact pk_here) | (apply pk_there))); done))) | apply Ent.drop))
                    · have hjj : j = n2.l1.length := by omega
                      subst hjj
                      repeat (first | rintro _ _ ⟨rfl, rfl⟩ | rintro _ _ ⟨_, rfl, rfl⟩ | rintro _ _ ⟨_, _, rfl, rfl⟩ | intro _ | refine go ?_ | (refine is_draw ?_; apply WC_mix (id := 19) true _ (pl := .p 0 <| .p 1 <| .p 2 <| .p 3 <| .p 4 <| .p 6 <| .p 7 <| .r 5 <| .r 8 <| .p 9 <| .e true [(10, .p 11 <| .p 12 <| .p 13 <| .e false [(14, .e false [(15, .p 16 <| .done)])]), (14, .e true [(10, .p 11 <| .p 12 <| .p 13 <| .e false [(15, .p 16 <| .done)])])]); exact mixed; kernel_rfl; kernel_rfl; exact Ent.refl) | (refine is_draw ?_; apply WC_mix (id := 33) false _ (pl := .p 0 <| .p 1 <| .p 3 <| .e true [(2, .p 4 <| .p 5 <| .p 6 <| .p 7 <| .p 8 <| .p 9 <| .p 10 <| .p 11 <| .p 14 <| .p 15 <| .p 16 <| .p 18 <| .r 17 <| .p 19 <| .e true [(12, .p 13 <| .p 20 <| .p 21 <| .done)])]); exact mixed; kernel_rfl; kernel_rfl; exact Ent.refl) | (refine is_draw ?_; refine WC_draw mixed (by kernel_rfl) ?_) | refine cal @hK2 ?_ | refine cal @hL2 ?_)
                      rename_i bp2 pp2 qq2
                      apply WC_loopE (E0 := [(2, _), (5, _), (9, _), (10, _), (11, _), (17, _), (33, _), (34, _), (35, _), (99, _), (135, _), (136, _)]) (fun E0 (j : Nat) => (137, .int .i64 j) :: E0) (fun _ => Own 37 15 (.slice pp2 n2.l2.length qq2) n2.l2.length (flat mc n2.l2) :: NetP b c n2 :: Cells b9 22 [.int .i64 (nleft c n 0), .int .i64 (nleft c n 1), .int .i64 (nleft c n 2)] :: Cells bc 24 c.cells :: Old W :: F) (fun j => j ≤ n2.l2.length) (fun j => n2.l2.length - j) 0
                      · (repeat (first | exact Sub.nil | (refine Sub.cons (by first | rfl | (simp only [Nat.zero_add]; rfl)) ?_)))
                      · exact Nat.zero_le _
                      · (repeat (first | (with_reducible exact Ent.refl) | exact Ent.nil | (apply ent_pickE; (focus ((repeat (first | (with_reducible exact pk_here) | (apply pk_there))); done))) | apply Ent.drop))
                      · intro j hj
                        by_cases hjl : j < n2.l2.length
                        · have hmj := ho2 _ (List.getElem_mem hjl)
                          have hMj := fun F => ref05_May (F := F) (c := c) (m := n2.l2[j]) hc
                          have hNj := fun F => ref05_Net (F := F) (k := n2.l2[j].kind)
                          simp only [decide_eq_true hmj.1] at hMj
                          rw [hmj.2] at hNj
                          repeat (first | rintro _ _ ⟨rfl, rfl⟩ | rintro _ _ ⟨_, rfl, rfl⟩ | rintro _ _ ⟨_, _, rfl, rfl⟩ | intro _ | refine go ?_ | (refine is_draw ?_; apply WC_mix (id := 19) true _ (pl := .p 0 <| .p 1 <| .p 2 <| .p 3 <| .p 4 <| .p 6 <| .p 7 <| .r 5 <| .r 8 <| .p 9 <| .e true [(10, .p 11 <| .p 12 <| .p 13 <| .e false [(14, .e false [(15, .p 16 <| .done)])]), (14, .e true [(10, .p 11 <| .p 12 <| .p 13 <| .e false [(15, .p 16 <| .done)])])]); exact mixed; kernel_rfl; kernel_rfl; exact Ent.refl) | (refine is_draw ?_; apply WC_mix (id := 33) false _ (pl := .p 0 <| .p 1 <| .p 3 <| .e true [(2, .p 4 <| .p 5 <| .p 6 <| .p 7 <| .p 8 <| .p 9 <| .p 10 <| .p 11 <| .p 14 <| .p 15 <| .p 16 <| .p 18 <| .r 17 <| .p 19 <| .e true [(12, .p 13 <| .p 20 <| .p 21 <| .done)])]); exact mixed; kernel_rfl; kernel_rfl; exact Ent.refl) | (refine is_draw ?_; refine WC_draw mixed (by kernel_rfl) ?_) | refine cal @hMj ?_ | refine cal @hNj ?_)
                          refine WE_loop (j + 1) (by omega) (by omega) ?_ ?_
                          · (repeat (first | exact Sub.nil | (refine Sub.cons (by first | rfl | (simp only [Nat.zero_add]; rfl)) ?_)))
                          · (repeat (first | (with_reducible exact Ent.refl) | exact Ent.nil | (apply ent_pickE; (focus ((repeat (first | (with_reducible exact pk_here) | (apply pk_there))); done))) | apply Ent.drop))
                        · have hjj : j = n2.l2.length := by omega
                          subst hjj
                          repeat (first | rintro _ _ ⟨rfl, rfl⟩ | rintro _ _ ⟨_, rfl, rfl⟩ | rintro _ _ ⟨_, _, rfl, rfl⟩ | intro _ | refine go ?_ | (refine is_draw ?_; apply WC_mix (id := 19) true _ (pl := .p 0 <| .p 1 <| .p 2 <| .p 3 <| .p 4 <| .p 6 <| .p 7 <| .r 5 <| .r 8 <| .p 9 <| .e true [(10, .p 11 <| .p 12 <| .p 13 <| .e false [(14, .e false [(15, .p 16 <| .done)])]), (14, .e true [(10, .p 11 <| .p 12 <| .p 13 <| .e false [(15, .p 16 <| .done)])])]); exact mixed; kernel_rfl; kernel_rfl; exact Ent.refl) | (refine is_draw ?_; apply WC_mix (id := 33) false _ (pl := .p 0 <| .p 1 <| .p 3 <| .e true [(2, .p 4 <| .p 5 <| .p 6 <| .p 7 <| .p 8 <| .p 9 <| .p 10 <| .p 11 <| .p 14 <| .p 15 <| .p 16 <| .p 18 <| .r 17 <| .p 19 <| .e true [(12, .p 13 <| .p 20 <| .p 21 <| .done)])]); exact mixed; kernel_rfl; kernel_rfl; exact Ent.refl) | (refine is_draw ?_; refine WC_draw mixed (by kernel_rfl) ?_))
                          refine WE_loop (i + 1, n2) (by dsimp only; omega) ⟨by dsimp only; omega, hok2⟩ ?_ ?_
                          · (repeat (first | exact Sub.nil | (refine Sub.cons (by first | rfl | (simp only [Nat.zero_add]; rfl)) ?_)))
                          · (repeat (first | (with_reducible exact Ent.refl) | exact Ent.nil | (apply ent_pickE; (focus ((repeat (first | (with_reducible exact pk_here) | (apply pk_there))); done))) | apply Ent.drop))
            · simp at hw0 hw1 hw2
              refine WC_rounds 4 ?_
              repeat (first | rintro _ _ ⟨rfl, rfl⟩ | rintro _ _ ⟨_, rfl, rfl⟩ | rintro _ _ ⟨_, _, rfl, rfl⟩ | intro _ | refine go ?_ | (refine is_draw ?_; apply WC_mix (id := 19) true _ (pl := .p 0 <| .p 1 <| .p 2 <| .p 3 <| .p 4 <| .p 6 <| .p 7 <| .r 5 <| .r 8 <| .p 9 <| .e true [(10, .p 11 <| .p 12 <| .p 13 <| .e false [(14, .e false [(15, .p 16 <| .done)])]), (14, .e true [(10, .p 11 <| .p 12 <| .p 13 <| .e false [(15, .p 16 <| .done)])])]); exact mixed; kernel_rfl; kernel_rfl; exact Ent.refl) | (refine is_draw ?_; apply WC_mix (id := 33) false _ (pl := .p 0 <| .p 1 <| .p 3 <| .e true [(2, .p 4 <| .p 5 <| .p 6 <| .p 7 <| .p 8 <| .p 9 <| .p 10 <| .p 11 <| .p 14 <| .p 15 <| .p 16 <| .p 18 <| .r 17 <| .p 19 <| .e true [(12, .p 13 <| .p 20 <| .p 21 <| .done)])]); exact mixed; kernel_rfl; kernel_rfl; exact Ent.refl) | (refine is_draw ?_; refine WC_draw mixed (by kernel_rfl) ?_) | refine cal @hK0 ?_ | refine cal @hL0 ?_)
              rename_i bp0 pp0 qq0
              apply WC_loopE (E0 := [(2, _), (5, _), (9, _), (10, _), (11, _), (17, _), (33, _), (34, _), (35, _), (99, _), (135, _), (136, _)]) (fun E0 (j : Nat) => (137, .int .i64 j) :: E0) (fun _ => Own 37 15 (.slice pp0 n2.l0.length qq0) n2.l0.length (flat mc n2.l0) :: NetP b c n2 :: Cells b9 22 [.int .i64 (nleft c n 0), .int .i64 (nleft c n 1), .int .i64 (nleft c n 2)] :: Cells bc 24 c.cells :: Old W :: F) (fun j => j ≤ n2.l0.length) (fun j => n2.l0.length - j) 0
              · (repeat (first | exact Sub.nil | (refine Sub.cons (by first | rfl | (simp only [Nat.zero_add]; rfl)) ?_)))
              · exact Nat.zero_le _
              · (repeat (first | (with_reducible exact Ent.refl) | exact Ent.nil | (apply ent_pickE; (focus ((repeat (first | (with_reducible exact pk_here) | (apply pk_there))); done))) | apply Ent.drop))
              · intro j hj
                by_cases hjl : j < n2.l0.length
                · have hmj := ho0 _ (List.getElem_mem hjl)
                  have hMj := fun F => ref05_May (F := F) (c := c) (m := n2.l0[j]) hc
                  have hNj := fun F => ref05_Net (F := F) (k := n2.l0[j].kind)
                  simp only [decide_eq_true hmj.1] at hMj
                  rw [hmj.2] at hNj
                  repeat (first | rintro _ _ ⟨rfl, rfl⟩ | rintro _ _ ⟨_, rfl, rfl⟩ | rintro _ _ ⟨_, _, rfl, rfl⟩ | intro _ | refine go ?_ | (refine is_draw ?_; apply WC_mix (id := 19) true _ (pl := .p 0 <| .p 1 <| .p 2 <| .p 3 <| .p 4 <| .p 6 <| .p 7 <| .r 5 <| .r 8 <| .p 9 <| .e true [(10, .p 11 <| .p 12 <| .p 13 <| .e false [(14, .e false [(15, .p 16 <| .done)])]), (14, .e true [(10, .p 11 <| .p 12 <| .p 13 <| .e false [(15, .p 16 <| .done)])])]); exact mixed; kernel_rfl; kernel_rfl; exact Ent.refl) | (refine is_draw ?_; apply WC_mix (id := 33) false _ (pl := .p 0 <| .p 1 <| .p 3 <| .e true [(2, .p 4 <| .p 5 <| .p 6 <| .p 7 <| .p 8 <| .p 9 <| .p 10 <| .p 11 <| .p 14 <| .p 15 <| .p 16 <| .p 18 <| .r 17 <| .p 19 <| .e true [(12, .p 13 <| .p 20 <| .p 21 <| .done)])]); exact mixed; kernel_rfl; kernel_rfl; exact Ent.refl) | (refine is_draw ?_; refine WC_draw mixed (by kernel_rfl) ?_) | refine cal @hMj ?_ | refine cal @hNj ?_)
                  refine WE_loop (j + 1) (by omega) (by omega) ?_ ?_
                  · (repeat (first | exact Sub.nil | (refine Sub.cons (by first | rfl | (simp only [Nat.zero_add]; rfl)) ?_)))
                  · (repeat (first | (with_reducible exact Ent.refl) | exact Ent.nil | (apply ent_pickE; (focus ((repeat (first | (with_reducible exact pk_here) | (apply pk_there))); done))) | apply Ent.drop))
                · have hjj : j = n2.l0.length := by omega
                  subst hjj
                  repeat (first | rintro _ _ ⟨rfl, rfl⟩ | rintro _ _ ⟨_, rfl, rfl⟩ | rintro _ _ ⟨_, _, rfl, rfl⟩ | intro _ | refine go ?_ | (refine is_draw ?_; apply WC_mix (id := 19) true _ (pl := .p 0 <| .p 1 <| .p 2 <| .p 3 <| .p 4 <| .p 6 <| .p 7 <| .r 5 <| .r 8 <| .p 9 <| .e true [(10, .p 11 <| .p 12 <| .p 13 <| .e false [(14, .e false [(15, .p 16 <| .done)])]), (14, .e true [(10, .p 11 <| .p 12 <| .p 13 <| .e false [(15, .p 16 <| .done)])])]); exact mixed; kernel_rfl; kernel_rfl; exact Ent.refl) | (refine is_draw ?_; apply WC_mix (id := 33) false _ (pl := .p 0 <| .p 1 <| .p 3 <| .e true [(2, .p 4 <| .p 5 <| .p 6 <| .p 7 <| .p 8 <| .p 9 <| .p 10 <| .p 11 <| .p 14 <| .p 15 <| .p 16 <| .p 18 <| .r 17 <| .p 19 <| .e true [(12, .p 13 <| .p 20 <| .p 21 <| .done)])]); exact mixed; kernel_rfl; kernel_rfl; exact Ent.refl) | (refine is_draw ?_; refine WC_draw mixed (by kernel_rfl) ?_) | refine cal @hK1 ?_ | refine cal @hL1 ?_)
                  rename_i bp1 pp1 qq1
                  apply WC_loopE (E0 := [(2, _), (5, _), (9, _), (10, _), (11, _), (17, _), (33, _), (34, _), (35, _), (99, _), (135, _), (136, _)]) (fun E0 (j : Nat) => (137, .int .i64 j) :: E0) (fun _ => Own 37 15 (.slice pp1 n2.l1.length qq1) n2.l1.length (flat mc n2.l1) :: NetP b c n2 :: Cells b9 22 [.int .i64 (nleft c n 0), .int .i64 (nleft c n 1), .int .i64 (nleft c n 2)] :: Cells bc 24 c.cells :: Old W :: F) (fun j => j ≤ n2.l1.length) (fun j => n2.l1.length - j) 0
                  · (repeat (first | exact Sub.nil | (refine Sub.cons (by first | rfl | (simp only [Nat.zero_add]; rfl)) ?_)))
                  · exact Nat.zero_le _
                  · (repeat (first | (with_reducible exact Ent.refl) | exact Ent.nil | (apply ent_pickE; (focus ((repeat (first | (with_reducible exact pk_here) | (apply pk_there))); done))) | apply Ent.drop))
                  · intro j hj
                    by_cases hjl : j < n2.l1.length
                    · have hmj := ho1 _ (List.getElem_mem hjl)
                      have hMj := fun F => ref05_May (F := F) (c := c) (m := n2.l1[j]) hc
                      have hNj := fun F => ref05_Net (F := F) (k := n2.l1[j].kind)
                      simp only [decide_eq_true hmj.1] at hMj
                      rw [hmj.2] at hNj
                      repeat (first | rintro _ _ ⟨rfl, rfl⟩ | rintro _ _ ⟨_, rfl, rfl⟩ | rintro _ _ ⟨_, _, rfl, rfl⟩ | intro _ | refine go ?_ | (refine is_draw ?_; apply WC_mix (id := 19) true _ (pl := .p 0 <| .p 1 <| .p 2 <| .p 3 <| .p 4 <| .p 6 <| .p 7 <| .r 5 <| .r 8 <| .p 9 <| .e true [(10, .p 11 <| .p 12 <| .p 13 <| .e false [(14, .e false [(15, .p 16 <| .done)])]), (14, .e true [(10, .p 11 <| .p 12 <| .p 13 <| .e false [(15, .p 16 <| .done)])])]); exact mixed; kernel_rfl; kernel_rfl; exact Ent.refl) | (refine is_draw ?_; apply WC_mix (id := 33) false _ (pl := .p 0 <| .p 1 <| .p 3 <| .e true [(2, .p 4 <| .p 5 <| .p 6 <| .p 7 <| .p 8 <| .p 9 <| .p 10 <| .p 11 <| .p 14 <| .p 15 <| .p 16 <| .p 18 <| .r 17 <| .p 19 <| .e true [(12, .p 13 <| .p 20 <| .p 21 <| .done)])]); exact mixed; kernel_rfl; kernel_rfl; exact Ent.refl) | (refine is_draw ?_; refine WC_draw mixed (by kernel_rfl) ?_) | refine cal @hMj ?_ | refine cal @hNj ?_)
                      refine WE_loop (j + 1) (by omega) (by omega) ?_ ?_
                      · (repeat (first | exact Sub.nil | (refine Sub.cons (by first | rfl | (simp only [Nat.zero_add]; rfl)) ?_)))
                      · (repeat (first | (with_reducible exact Ent.refl) | exact Ent.nil | (apply ent_pickE; (focus ((repeat (first | (with_reducible exact pk_here) | (apply pk_there))); done))) | apply Ent.drop))
                    · have hjj : j = n2.l1.length := by omega
                      subst hjj
                      repeat (first | rintro _ _ ⟨rfl, rfl⟩ | rintro _ _ ⟨_, rfl, rfl⟩ | rintro _ _ ⟨_, _, rfl, rfl⟩ | intro _ | refine go ?_ | (refine is_draw ?_; apply WC_mix (id := 19) true _ (pl := .p 0 <| .p 1 <| .p 2 <| .p 3 <| .p 4 <| .p 6 <| .p 7 <| .r 5 <| .r 8 <| .p 9 <| .e true [(10, .p 11 <| .p 12 <| .p 13 <| .e false [(14, .e false [(15, .p 16 <| .done)])]), (14, .e true [(10, .p 11 <| .p 12 <| .p 13 <| .e false [(15, .p 16 <| .done)])])]); exact mixed; kernel_rfl; kernel_rfl; exact Ent.refl) | (refine is_draw ?_; apply WC_mix (id := 33) false _ (pl := .p 0 <| .p 1 <| .p 3 <| .e true [(2, .p 4 <| .p 5 <| .p 6 <| .p 7 <| .p 8 <| .p 9 <| .p 10 <| .p 11 <| .p 14 <| .p 15 <| .p 16 <| .p 18 <| .r 17 <| .p 19 <| .e true [(12, .p 13 <| .p 20 <| .p 21 <| .done)])]); exact mixed; kernel_rfl; kernel_rfl; exact Ent.refl) | (refine is_draw ?_; refine WC_draw mixed (by kernel_rfl) ?_) | refine cal @hK2 ?_ | refine cal @hL2 ?_)
                      rename_i bp2 pp2 qq2
                      apply WC_loopE (E0 := [(2, _), (5, _), (9, _), (10, _), (11, _), (17, _), (33, _), (34, _), (35, _), (99, _), (135, _), (136, _)]) (fun E0 (j : Nat) => (137, .int .i64 j) :: E0) (fun _ => Own 37 15 (.slice pp2 n2.l2.length qq2) n2.l2.length (flat mc n2.l2) :: NetP b c n2 :: Cells b9 22 [.int .i64 (nleft c n 0), .int .i64 (nleft c n 1), .int .i64 (nleft c n 2)] :: Cells bc 24 c.cells :: Old W :: F) (fun j => j ≤ n2.l2.length) (fun j => n2.l2.length - j) 0
                      · (repeat (first | exact Sub.nil | (refine Sub.cons (by first | rfl | (simp only [Nat.zero_add]; rfl)) ?_)))
                      · exact Nat.zero_le _
                      · (repeat (first | (with_reducible exact Ent.refl) | exact Ent.nil | (apply ent_pickE; (focus ((repeat (first | (with_reducible exact pk_here) | (apply pk_there))); done))) | apply Ent.drop))
                      · intro j hj
                        by_cases hjl : j < n2.l2.length
                        · have hmj := ho2 _ (List.getElem_mem hjl)
                          have hMj := fun F => ref05_May (F := F) (c := c) (m := n2.l2[j]) hc
                          have hNj := fun F => ref05_Net (F := F) (k := n2.l2[j].kind)
                          simp only [decide_eq_true hmj.1] at hMj
                          rw [hmj.2] at hNj
                          repeat (first | rintro _ _ ⟨rfl, rfl⟩ | rintro _ _ ⟨_, rfl, rfl⟩ | rintro _ _ ⟨_, _, rfl, rfl⟩ | intro _ | refine go ?_ | (refine is_draw ?_; apply WC_mix (id := 19) true _ (pl := .p 0 <| .p 1 <| .p 2 <| .p 3 <| .p 4 <| .p 6 <| .p 7 <| .r 5 <| .r 8 <| .p 9 <| .e true [(10, .p 11 <| .p 12 <| .p 13 <| .e false [(14, .e false [(15, .p 16 <| .done)])]), (14, .e true [(10, .p 11 <| .p 12 <| .p 13 <| .e false [(15, .p 16 <| .done)])])]); exact mixed; kernel_rfl; kernel_rfl; exact Ent.refl) | (refine is_draw ?_; apply WC_mix (id := 33) false _ (pl := .p 0 <| .p 1 <| .p 3 <| .e true [(2, .p 4 <| .p 5 <| .p 6 <| .p 7 <| .p 8 <| .p 9 <| .p 10 <| .p 11 <| .p 14 <| .p 15 <| .p 16 <| .p 18 <| .r 17 <| .p 19 <| .e true [(12, .p 13 <| .p 20 <| .p 21 <| .done)])]); exact mixed; kernel_rfl; kernel_rfl; exact Ent.refl) | (refine is_draw ?_; refine WC_draw mixed (by kernel_rfl) ?_) | refine cal @hMj ?_ | refine cal @hNj ?_)
                          refine WE_loop (j + 1) (by omega) (by omega) ?_ ?_
                          · (repeat (first | exact Sub.nil | (refine Sub.cons (by first | rfl | (simp only [Nat.zero_add]; rfl)) ?_)))
                          · (repeat (first | (with_reducible exact Ent.refl) | exact Ent.nil | (apply ent_pickE; (focus ((repeat (first | (with_reducible exact pk_here) | (apply pk_there))); done))) | apply Ent.drop))
                        · have hjj : j = n2.l2.length := by omega
                          subst hjj
                          repeat (first | rintro _ _ ⟨rfl, rfl⟩ | rintro _ _ ⟨_, rfl, rfl⟩ | rintro _ _ ⟨_, _, rfl, rfl⟩ | intro _ | refine go ?_ | (refine is_draw ?_; apply WC_mix (id := 19) true _ (pl := .p 0 <| .p 1 <| .p 2 <| .p 3 <| .p 4 <| .p 6 <| .p 7 <| .r 5 <| .r 8 <| .p 9 <| .e true [(10, .p 11 <| .p 12 <| .p 13 <| .e false [(14, .e false [(15, .p 16 <| .done)])]), (14, .e true [(10, .p 11 <| .p 12 <| .p 13 <| .e false [(15, .p 16 <| .done)])])]); exact mixed; kernel_rfl; kernel_rfl; exact Ent.refl) | (refine is_draw ?_; apply WC_mix (id := 33) false _ (pl := .p 0 <| .p 1 <| .p 3 <| .e true [(2, .p 4 <| .p 5 <| .p 6 <| .p 7 <| .p 8 <| .p 9 <| .p 10 <| .p 11 <| .p 14 <| .p 15 <| .p 16 <| .p 18 <| .r 17 <| .p 19 <| .e true [(12, .p 13 <| .p 20 <| .p 21 <| .done)])]); exact mixed; kernel_rfl; kernel_rfl; exact Ent.refl) | (refine is_draw ?_; refine WC_draw mixed (by kernel_rfl) ?_))
                          refine WE_loop (i + 1, n2) (by dsimp only; omega) ⟨by dsimp only; omega, hok2⟩ ?_ ?_
                          · (repeat (first | exact Sub.nil | (refine Sub.cons (by first | rfl | (simp only [Nat.zero_add]; rfl)) ?_)))
                          · (repeat (first | (with_reducible exact Ent.refl) | exact Ent.nil | (apply ent_pickE; (focus ((repeat (first | (with_reducible exact pk_here) | (apply pk_there))); done))) | apply Ent.drop))
            · simp at hw0 hw1 hw2
              refine WC_rounds 4 ?_
              repeat (first | rintro _ _ ⟨rfl, rfl⟩ | rintro _ _ ⟨_, rfl, rfl⟩ | rintro _ _ ⟨_, _, rfl, rfl⟩ | intro _ | refine go ?_ | (refine is_draw ?_; apply WC_mix (id := 19) true _ (pl := .p 0 <| .p 1 <| .p 2 <| .p 3 <| .p 4 <| .p 6 <| .p 7 <| .r 5 <| .r 8 <| .p 9 <| .e true [(10, .p 11 <| .p 12 <| .p 13 <| .e false [(14, .e false [(15, .p 16 <| .done)])]), (14, .e true [(10, .p 11 <| .p 12 <| .p 13 <| .e false [(15, .p 16 <| .done)])])]); exact mixed; kernel_rfl; kernel_rfl; exact Ent.refl) | (refine is_draw ?_; apply WC_mix (id := 33) false _ (pl := .p 0 <| .p 1 <| .p 3 <| .e true [(2, .p 4 <| .p 5 <| .p 6 <| .p 7 <| .p 8 <| .p 9 <| .p 10 <| .p 11 <| .p 14 <| .p 15 <| .p 16 <| .p 18 <| .r 17 <| .p 19 <| .e true [(12, .p 13 <| .p 20 <| .p 21 <| .done)])]); exact mixed; kernel_rfl; kernel_rfl; exact Ent.refl) | (refine is_draw ?_; refine WC_draw mixed (by kernel_rfl) ?_) | refine cal @hK0 ?_ | refine cal @hL0 ?_)
              rename_i bp0 pp0 qq0
              apply WC_loopE (E0 := [(2, _), (5, _), (9, _), (10, _), (11, _), (17, _), (33, _), (34, _), (35, _), (99, _), (135, _), (136, _)]) (fun E0 (j : Nat) => (137, .int .i64 j) :: E0) (fun _ => Own 37 15 (.slice pp0 n2.l0.length qq0) n2.l0.length (flat mc n2.l0) :: NetP b c n2 :: Cells b9 22 [.int .i64 (nleft c n 0), .int .i64 (nleft c n 1), .int .i64 (nleft c n 2)] :: Cells bc 24 c.cells :: Old W :: F) (fun j => j ≤ n2.l0.length) (fun j => n2.l0.length - j) 0
              · (repeat (first | exact Sub.nil | (refine Sub.cons (by first | rfl | (simp only [Nat.zero_add]; rfl)) ?_)))
              · exact Nat.zero_le _
              · (repeat (first | (with_reducible exact Ent.refl) | exact Ent.nil | (apply ent_pickE; (focus ((repeat (first | (with_reducible exact pk_here) | (apply pk_there))); done))) | apply Ent.drop))
              · intro j hj
                by_cases hjl : j < n2.l0.length
                · have hmj := ho0 _ (List.getElem_mem hjl)
                  have hMj := fun F => ref05_May (F := F) (c := c) (m := n2.l0[j]) hc
                  have hNj := fun F => ref05_Net (F := F) (k := n2.l0[j].kind)
                  simp only [decide_eq_true hmj.1] at hMj
                  rw [hmj.2] at hNj
                  repeat (first | rintro _ _ ⟨rfl, rfl⟩ | rintro _ _ ⟨_, rfl, rfl⟩ | rintro _ _ ⟨_, _, rfl, rfl⟩ | intro _ | refine go ?_ | (refine is_draw ?_; apply WC_mix (id := 19) true _ (pl := .p 0 <| .p 1 <| .p 2 <| .p 3 <| .p 4 <| .p 6 <| .p 7 <| .r 5 <| .r 8 <| .p 9 <| .e true [(10, .p 11 <| .p 12 <| .p 13 <| .e false [(14, .e false [(15, .p 16 <| .done)])]), (14, .e true [(10, .p 11 <| .p 12 <| .p 13 <| .e false [(15, .p 16 <| .done)])])]); exact mixed; kernel_rfl; kernel_rfl; exact Ent.refl) | (refine is_draw ?_; apply WC_mix (id := 33) false _ (pl := .p 0 <| .p 1 <| .p 3 <| .e true [(2, .p 4 <| .p 5 <| .p 6 <| .p 7 <| .p 8 <| .p 9 <| .p 10 <| .p 11 <| .p 14 <| .p 15 <| .p 16 <| .p 18 <| .r 17 <| .p 19 <| .e true [(12, .p 13 <| .p 20 <| .p 21 <| .done)])]); exact mixed; kernel_rfl; kernel_rfl; exact Ent.refl) | (refine is_draw ?_; refine WC_draw mixed (by kernel_rfl) ?_) | refine cal @hMj ?_ | refine cal @hNj ?_)
                  refine WE_loop (j + 1) (by omega) (by omega) ?_ ?_
                  · (repeat (first | exact Sub.nil | (refine Sub.cons (by first | rfl | (simp only [Nat.zero_add]; rfl)) ?_)))
                  · (repeat (first | (with_reducible exact Ent.refl) | exact Ent.nil | (apply ent_pickE; (focus ((repeat (first | (with_reducible exact pk_here) | (apply pk_there))); done))) | apply Ent.drop))
                · have hjj : j = n2.l0.length := by omega
                  subst hjj
                  repeat (first | rintro _ _ ⟨rfl, rfl⟩ | rintro _ _ ⟨_, rfl, rfl⟩ | rintro _ _ ⟨_, _, rfl, rfl⟩ | intro _ | refine go ?_ | (refine is_draw ?_; apply WC_mix (id := 19) true _ (pl := .p 0 <| .p 1 <| .p 2 <| .p 3 <| .p 4 <| .p 6 <| .p 7 <| .r 5 <| .r 8 <| .p 9 <| .e true [(10, .p 11 <| .p 12 <| .p 13 <| .e false [(14, .e false [(15, .p 16 <| .done)])]), (14, .e true [(10, .p 11 <| .p 12 <| .p 13 <| .e false [(15, .p 16 <| .done)])])]); exact mixed; kernel_rfl; kernel_rfl; exact Ent.refl) | (refine is_draw ?_; apply WC_mix (id := 33) false _ (pl := .p 0 <| .p 1 <| .p 3 <| .e true [(2, .p 4 <| .p 5 <| .p 6 <| .p 7 <| .p 8 <| .p 9 <| .p 10 <| .p 11 <| .p 14 <| .p 15 <| .p 16 <| .p 18 <| .r 17 <| .p 19 <| .e true [(12, .p 13 <| .p 20 <| .p 21 <| .done)])]); exact mixed; kernel_rfl; kernel_rfl; exact Ent.refl) | (refine is_draw ?_; refine WC_draw mixed (by kernel_rfl) ?_) | refine cal @hK1 ?_ | refine cal @hL1 ?_)
                  rename_i bp1 pp1 qq1
                  apply WC_loopE (E0 := [(2, _), (5, _), (9, _), (10, _), (11, _), (17, _), (33, _), (34, _), (35, _), (99, _), (135, _), (136, _)]) (fun E0 (j : Nat) => (137, .int .i64 j) :: E0) (fun _ => Own 37 15 (.slice pp1 n2.l1.length qq1) n2.l1.length (flat mc n2.l1) :: NetP b c n2 :: Cells b9 22 [.int .i64 (nleft c n 0), .int .i64 (nleft c n 1), .int .i64 (nleft c n 2)] :: Cells bc 24 c.cells :: Old W :: F) (fun j => j ≤ n2.l1.length) (fun j => n2.l1.length - j) 0
                  · (repeat (first | exact Sub.nil | (refine Sub.cons (by first | rfl | (simp only [Nat.zero_add]; rfl)) ?_)))
                  · exact Nat.zero_le _
                  · (repeat (first | (with_reducible exact Ent.refl) | exact Ent.nil | (apply ent_pickE; (focus ((repeat (first | (with_reducible exact pk_here) | (apply pk_there))); done))) | apply Ent.drop))
                  · intro j hj
                    by_cases hjl : j < n2.l1.length
                    · have hmj := ho1 _ (List.getElem_mem hjl)
                      have hMj := fun F => ref05_May (F := F) (c := c) (m := n2.l1[j]) hc
                      have hNj := fun F => ref05_Net (F := F) (k := n2.l1[j].kind)
                      simp only [decide_eq_true hmj.1] at hMj
                      rw [hmj.2] at hNj
                      repeat (first | rintro _ _ ⟨rfl, rfl⟩ | rintro _ _ ⟨_, rfl, rfl⟩ | rintro _ _ ⟨_, _, rfl, rfl⟩ | intro _ | refine go ?_ | (refine is_draw ?_; apply WC_mix (id := 19) true _ (pl := .p 0 <| .p 1 <| .p 2 <| .p 3 <| .p 4 <| .p 6 <| .p 7 <| .r 5 <| .r 8 <| .p 9 <| .e true [(10, .p 11 <| .p 12 <| .p 13 <| .e false [(14, .e false [(15, .p 16 <| .done)])]), (14, .e true [(10, .p 11 <| .p 12 <| .p 13 <| .e false [(15, .p 16 <| .done)])])]); exact mixed; kernel_rfl; kernel_rfl; exact Ent.refl) | (refine is_draw ?_; apply WC_mix (id := 33) false _ (pl := .p 0 <| .p 1 <| .p 3 <| .e true [(2, .p 4 <| .p 5 <| .p 6 <| .p 7 <| .p 8 <| .p 9 <| .p 10 <| .p 11 <| .p 14 <| .p 15 <| .p 16 <| .p 18 <| .r 17 <| .p 19 <| .e true [(12, .p 13 <| .p 20 <| .p 21 <| .done)])]); exact mixed; kernel_rfl; kernel_rfl; exact Ent.refl) | (refine is_draw ?_; refine WC_draw mixed (by kernel_rfl) ?_) | refine cal @hMj ?_ | refine cal @hNj ?_)
                      refine WE_loop (j + 1) (by omega) (by omega) ?_ ?_
                      · (repeat (first | exact Sub.nil | (refine Sub.cons (by first | rfl | (simp only [Nat.zero_add]; rfl)) ?_)))
                      · (repeat (first | (with_reducible exact Ent.refl) | exact Ent.nil | (apply ent_pickE; (focus ((repeat (first | (with_reducible exact pk_here) | (apply pk_there))); done))) | apply Ent.drop))
                    · have hjj : j = n2.l1.length := by omega
                      subst hjj
                      repeat (first | rintro _ _ ⟨rfl, rfl⟩ | rintro _ _ ⟨_, rfl, rfl⟩ | rintro _ _ ⟨_, _, rfl, rfl⟩ | intro _ | refine go ?_ | (refine is_draw ?_; apply WC_mix (id := 19) true _ (pl := .p 0 <| .p 1 <| .p 2 <| .p 3 <| .p 4 <| .p 6 <| .p 7 <| .r 5 <| .r 8 <| .p 9 <| .e true [(10, .p 11 <| .p 12 <| .p 13 <| .e false [(14, .e false [(15, .p 16 <| .done)])]), (14, .e true [(10, .p 11 <| .p 12 <| .p 13 <| .e false [(15, .p 16 <| .done)])])]); exact mixed; kernel_rfl; kernel_rfl; exact Ent.refl) | (refine is_draw ?_; apply WC_mix (id := 33) false _ (pl := .p 0 <| .p 1 <| .p 3 <| .e true [(2, .p 4 <| .p 5 <| .p 6 <| .p 7 <| .p 8 <| .p 9 <| .p 10 <| .p 11 <| .p 14 <| .p 15 <| .p 16 <| .p 18 <| .r 17 <| .p 19 <| .e true [(12, .p 13 <| .p 20 <| .p 21 <| .done)])]); exact mixed; kernel_rfl; kernel_rfl; exact Ent.refl) | (refine is_draw ?_; refine WC_draw mixed (by kernel_rfl) ?_) | refine cal @hK2 ?_ | refine cal @hL2 ?_)
                      rename_i bp2 pp2 qq2
                      apply WC_loopE (E0 := [(2, _), (5, _), (9, _), (10, _), (11, _), (17, _), (33, _), (34, _), (35, _), (99, _), (135, _), (136, _)]) (fun E0 (j : Nat) => (137, .int .i64 j) :: E0) (fun _ => Own 37 15 (.slice pp2 n2.l2.length qq2) n2.l2.length (flat mc n2.l2) :: NetP b c n2 :: Cells b9 22 [.int .i64 (nleft c n 0), .int .i64 (nleft c n 1), .int .i64 (nleft c n 2)] :: Cells bc 24 c.cells :: Old W :: F) (fun j => j ≤ n2.l2.length) (fun j => n2.l2.length - j) 0
                      · (repeat (first | exact Sub.nil | (refine Sub.cons (by first | rfl | (simp only [Nat.zero_add]; rfl)) ?_)))
                      · exact Nat.zero_le _
                      · (repeat (first | (with_reducible exact Ent.refl) | exact Ent.nil | (apply ent_pickE; (focus ((repeat (first | (with_reducible exact pk_here) | (apply pk_there))); done))) | apply Ent.drop))
                      · intro j hj
                        by_cases hjl : j < n2.l2.length
                        · have hmj := ho2 _ (List.getElem_mem hjl)
                          have hMj := fun F => ref05_May (F := F) (c := c) (m := n2.l2[j]) hc
                          have hNj := fun F => ref05_Net (F := F) (k := n2.l2[j].kind)
                          simp only [decide_eq_true hmj.1] at hMj
                          rw [hmj.2] at hNj
                          repeat (first | rintro _ _ ⟨rfl, rfl⟩ | rintro _ _ ⟨_, rfl, rfl⟩ | rintro _ _ ⟨_, _, rfl, rfl⟩ | intro _ | refine go ?_ | (refine is_draw ?_; apply WC_mix (id := 19) true _ (pl := .p 0 <| .p 1 <| .p 2 <| .p 3 <| .p 4 <| .p 6 <| .p 7 <| .r 5 <| .r 8 <| .p 9 <| .e true [(10, .p 11 <| .p 12 <| .p 13 <| .e false [(14, .e false [(15, .p 16 <| .done)])]), (14, .e true [(10, .p 11 <| .p 12 <| .p 13 <| .e false [(15, .p 16 <| .done)])])]); exact mixed; kernel_rfl; kernel_rfl; exact Ent.refl) | (refine is_draw ?_; apply WC_mix (id := 33) false _ (pl := .p 0 <| .p 1 <| .p 3 <| .e true [(2, .p 4 <| .p 5 <| .p 6 <| .p 7 <| .p 8 <| .p 9 <| .p 10 <| .p 11 <| .p 14 <| .p 15 <| .p 16 <| .p 18 <| .r 17 <| .p 19 <| .e true [(12, .p 13 <| .p 20 <| .p 21 <| .done)])]); exact mixed; kernel_rfl; kernel_rfl; exact Ent.refl) | (refine is_draw ?_; refine WC_draw mixed (by kernel_rfl) ?_) | refine cal @hMj ?_ | refine cal @hNj ?_)
                          refine WE_loop (j + 1) (by omega) (by omega) ?_ ?_
                          · (repeat (first | exact Sub.nil | (refine Sub.cons (by first | rfl | (simp only [Nat.zero_add]; rfl)) ?_)))
                          · (repeat (first | (with_reducible exact Ent.refl) | exact Ent.nil | (apply ent_pickE; (focus ((repeat (first | (with_reducible exact pk_here) | (apply pk_there))); done))) | apply Ent.drop))
                        · have hjj : j = n2.l2.length := by omega
                          subst hjj
                          repeat (first | rintro _ _ ⟨rfl, rfl⟩ | rintro _ _ ⟨_, rfl, rfl⟩ | rintro _ _ ⟨_, _, rfl, rfl⟩ | intro _ | refine go ?_ | (refine is_draw ?_; apply WC_mix (id := 19) true _ (pl := .p 0 <| .p 1 <| .p 2 <| .p 3 <| .p 4 <| .p 6 <| .p 7 <| .r 5 <| .r 8 <| .p 9 <| .e true [(10, .p 11 <| .p 12 <| .p 13 <| .e false [(14, .e false [(15, .p 16 <| .done)])]), (14, .e true [(10, .p 11 <| .p 12 <| .p 13 <| .e false [(15, .p 16 <| .done)])])]); exact mixed; kernel_rfl; kernel_rfl; exact Ent.refl) | (refine is_draw ?_; apply WC_mix (id := 33) false _ (pl := .p 0 <| .p 1 <| .p 3 <| .e true [(2, .p 4 <| .p 5 <| .p 6 <| .p 7 <| .p 8 <| .p 9 <| .p 10 <| .p 11 <| .p 14 <| .p 15 <| .p 16 <| .p 18 <| .r 17 <| .p 19 <| .e true [(12, .p 13 <| .p 20 <| .p 21 <| .done)])]); exact mixed; kernel_rfl; kernel_rfl; exact Ent.refl) | (refine is_draw ?_; refine WC_draw mixed (by kernel_rfl) ?_))
                          refine WE_loop (i + 1, n2) (by dsimp only; omega) ⟨by dsimp only; omega, hok2⟩ ?_ ?_
                          · (repeat (first | exact Sub.nil | (refine Sub.cons (by first | rfl | (simp only [Nat.zero_add]; rfl)) ?_)))
                          · (repeat (first | (with_reducible exact Ent.refl) | exact Ent.nil | (apply ent_pickE; (focus ((repeat (first | (with_reducible exact pk_here) | (apply pk_there))); done))) | apply Ent.drop))
            · simp at hw0 hw1 hw2
              refine WC_rounds 4 ?_
              repeat (first | rintro _ _ ⟨rfl, rfl⟩ | rintro _ _ ⟨_, rfl, rfl⟩ | rintro _ _ ⟨_, _, rfl, rfl⟩ | intro _ | refine go ?_ | (refine is_draw ?_; apply WC_mix (id := 19) true _ (pl := .p 0 <| .p 1 <| .p 2 <| .p 3 <| .p 4 <| .p 6 <| .p 7 <| .r 5 <| .r 8 <| .p 9 <| .e true [(10, .p 11 <| .p 12 <| .p 13 <| .e false [(14, .e false [(15, .p 16 <| .done)])]), (14, .e true [(10, .p 11 <| .p 12 <| .p 13 <| .e false [(15, .p 16 <| .done)])])]); exact mixed; kernel_rfl; kernel_rfl; exact Ent.refl) | (refine is_draw ?_; apply WC_mix (id := 33) false _ (pl := .p 0 <| .p 1 <| .p 3 <| .e true [(2, .p 4 <| .p 5 <| .p 6 <| .p 7 <| .p 8 <| .p 9 <| .p 10 <| .p 11 <| .p 14 <| .p 15 <| .p 16 <| .p 18 <| .r 17 <| .p 19 <| .e true [(12, .p 13 <| .p 20 <| .p 21 <| .done)])]); exact mixed; kernel_rfl; kernel_rfl; exact Ent.refl) | (refine is_draw ?_; refine WC_draw mixed (by kernel_rfl) ?_) | refine cal @hK0 ?_ | refine cal @hL0 ?_)
              rename_i bp0 pp0 qq0
              apply WC_loopE (E0 := [(2, _), (5, _), (9, _), (10, _), (11, _), (17, _), (33, _), (34, _), (35, _), (99, _), (135, _), (136, _)]) (fun E0 (j : Nat) => (137, .int .i64 j) :: E0) (fun _ => Own 37 15 (.slice pp0 n2.l0.length qq0) n2.l0.length (flat mc n2.l0) :: NetP b c n2 :: Cells b9 22 [.int .i64 (nleft c n 0), .int .i64 (nleft c n 1), .int .i64 (nleft c n 2)] :: Cells bc 24 c.cells :: Old W :: F) (fun j => j ≤ n2.l0.length) (fun j => n2.l0.length - j) 0
              · (repeat (first | exact Sub.nil | (refine Sub.cons (by first | rfl | (simp only [Nat.zero_add]; rfl)) ?_)))
              · exact Nat.zero_le _
              · (repeat (first | (with_reducible exact Ent.refl) | exact Ent.nil | (apply ent_pickE; (focus ((repeat (first | (with_reducible exact pk_here) | (apply pk_there))); done))) | apply Ent.drop))
              · intro j hj
                by_cases hjl : j < n2.l0.length
                · have hmj := ho0 _ (List.getElem_mem hjl)
                  have hMj := fun F => ref05_May (F := F) (c := c) (m := n2.l0[j]) hc
                  have hNj := fun F => ref05_Net (F := F) (k := n2.l0[j].kind)
                  simp only [decide_eq_true hmj.1] at hMj
                  rw [hmj.2] at hNj
                  repeat (first | rintro _ _ ⟨rfl, rfl⟩ | rintro _ _ ⟨_, rfl, rfl⟩ | rintro _ _ ⟨_, _, rfl, rfl⟩ | intro _ | refine go ?_ | (refine is_draw ?_; apply WC_mix (id := 19) true _ (pl := .p 0 <| .p 1 <| .p 2 <| .p 3 <| .p 4 <| .p 6 <| .p 7 <| .r 5 <| .r 8 <| .p 9 <| .e true [(10, .p 11 <| .p 12 <| .p 13 <| .e false [(14, .e false [(15, .p 16 <| .done)])]), (14, .e true [(10, .p 11 <| .p 12 <| .p 13 <| .e false [(15, .p 16 <| .done)])])]); exact mixed; kernel_rfl; kernel_rfl; exact Ent.refl) | (refine is_draw ?_; apply WC_mix (id := 33) false _ (pl := .p 0 <| .p 1 <| .p 3 <| .e true [(2, .p 4 <| .p 5 <| .p 6 <| .p 7 <| .p 8 <| .p 9 <| .p 10 <| .p 11 <| .p 14 <| .p 15 <| .p 16 <| .p 18 <| .r 17 <| .p 19 <| .e true [(12, .p 13 <| .p 20 <| .p 21 <| .done)])]); exact mixed; kernel_rfl; kernel_rfl; exact Ent.refl) | (refine is_draw ?_; refine WC_draw mixed (by kernel_rfl) ?_) | refine cal @hMj ?_ | refine cal @hNj ?_)
                  refine WE_loop (j + 1) (by omega) (by omega) ?_ ?_
                  · (repeat (first | exact Sub.nil | (refine Sub.cons (by first | rfl | (simp only [Nat.zero_add]; rfl)) ?_)))
                  · (repeat (first | (with_reducible exact Ent.refl) | exact Ent.nil | (apply ent_pickE; (focus ((repeat (first | (with_reducible exact pk_here) | (apply pk_there))); done))) | apply Ent.drop))
                · have hjj : j = n2.l0.length := by omega
                  subst hjj
                  repeat (first | rintro _ _ ⟨rfl, rfl⟩ | rintro _ _ ⟨_, rfl, rfl⟩ | rintro _ _ ⟨_, _, rfl, rfl⟩ | intro _ | refine go ?_ | (refine is_draw ?_; apply WC_mix (id := 19) true _ (pl := .p 0 <| .p 1 <| .p 2 <| .p 3 <| .p 4 <| .p 6 <| .p 7 <| .r 5 <| .r 8 <| .p 9 <| .e true [(10, .p 11 <| .p 12 <| .p 13 <| .e false [(14, .e false [(15, .p 16 <| .done)])]), (14, .e true [(10, .p 11 <| .p 12 <| .p 13 <| .e false [(15, .p 16 <| .done)])])]); exact mixed; kernel_rfl; kernel_rfl; exact Ent.refl) | (refine is_draw ?_; apply WC_mix (id := 33) false _ (pl := .p 0 <| .p 1 <| .p 3 <| .e true [(2, .p 4 <| .p 5 <| .p 6 <| .p 7 <| .p 8 <| .p 9 <| .p 10 <| .p 11 <| .p 14 <| .p 15 <| .p 16 <| .p 18 <| .r 17 <| .p 19 <| .e true [(12, .p 13 <| .p 20 <| .p 21 <| .done)])]); exact mixed; kernel_rfl; kernel_rfl; exact Ent.refl) | (refine is_draw ?_; refine WC_draw mixed (by kernel_rfl) ?_) | refine cal @hK1 ?_ | refine cal @hL1 ?_)
                  rename_i bp1 pp1 qq1
                  apply WC_loopE (E0 := [(2, _), (5, _), (9, _), (10, _), (11, _), (17, _), (33, _), (34, _), (35, _), (99, _), (135, _), (136, _)]) (fun E0 (j : Nat) => (137, .int .i64 j) :: E0) (fun _ => Own 37 15 (.slice pp1 n2.l1.length qq1) n2.l1.length (flat mc n2.l1) :: NetP b c n2 :: Cells b9 22 [.int .i64 (nleft c n 0), .int .i64 (nleft c n 1), .int .i64 (nleft c n 2)] :: Cells bc 24 c.cells :: Old W :: F) (fun j => j ≤ n2.l1.length) (fun j => n2.l1.length - j) 0
                  · (repeat (first | exact Sub.nil | (refine Sub.cons (by first | rfl | (simp only [Nat.zero_add]; rfl)) ?_)))
                  · exact Nat.zero_le _
                  · (repeat (first | (with_reducible exact Ent.refl) | exact Ent.nil | (apply ent_pickE; (focus ((repeat (first | (with_reducible exact pk_here) | (apply pk_there))); done))) | apply Ent.drop))
                  · intro j hj
                    by_cases hjl : j < n2.l1.length
                    · have hmj := ho1 _ (List.getElem_mem hjl)
                      have hMj := fun F => ref05_May (F := F) (c := c) (m := n2.l1[j]) hc
                      have hNj := fun F => ref05_Net (F := F) (k := n2.l1[j].kind)
                      simp only [decide_eq_true hmj.1] at hMj
                      rw [hmj.2] at hNj
                      repeat (first | rintro _ _ ⟨rfl, rfl⟩ | rintro _ _ ⟨_, rfl, rfl⟩ | rintro _ _ ⟨_, _, rfl, rfl⟩ | intro _ | refine go ?_ | (refine is_draw ?_; apply WC_mix (id := 19) true _ (pl := .p 0 <| .p 1 <| .p 2 <| .p 3 <| .p 4 <| .p 6 <| .p 7 <| .r 5 <| .r 8 <| .p 9 <| .e true [(10, .p 11 <| .p 12 <| .p 13 <| .e false [(14, .e false [(15, .p 16 <| .done)])]), (14, .e true [(10, .p 11 <| .p 12 <| .p 13 <| .e false [(15, .p 16 <| .done)])])]); exact mixed; kernel_rfl; kernel_rfl; exact Ent.refl) | (refine is_draw ?_; apply WC_mix (id := 33) false _ (pl := .p 0 <| .p 1 <| .p 3 <| .e true [(2, .p 4 <| .p 5 <| .p 6 <| .p 7 <| .p 8 <| .p 9 <| .p 10 <| .p 11 <| .p 14 <| .p 15 <| .p 16 <| .p 18 <| .r 17 <| .p 19 <| .e true [(12, .p 13 <| .p 20 <| .p 21 <| .done)])]); exact mixed; kernel_rfl; kernel_rfl; exact Ent.refl) | (refine is_draw ?_; refine WC_draw mixed (by kernel_rfl) ?_) | refine cal @hMj ?_ | refine cal @hNj ?_)
                      refine WE_loop (j + 1) (by omega) (by omega) ?_ ?_
                      · (repeat (first | exact Sub.nil | (refine Sub.cons (by first | rfl | (simp only [Nat.zero_add]; rfl)) ?_)))
                      · (repeat (first | (with_reducible exact Ent.refl) | exact Ent.nil | (apply ent_pickE; (focus ((repeat (first | (with_reducible exact pk_here) | (apply pk_there))); done))) | apply Ent.drop))
                    · have hjj : j = n2.l1.length := by omega
                      subst hjj
                      repeat (first | rintro _ _ ⟨rfl, rfl⟩ | rintro _ _ ⟨_, rfl, rfl⟩ | rintro _ _ ⟨_, _, rfl, rfl⟩ | intro _ | refine go ?_ | (refine is_draw ?_; apply WC_mix (id := 19) true _ (pl := .p 0 <| .p 1 <| .p 2 <| .p 3 <| .p 4 <| .p 6 <| .p 7 <| .r 5 <| .r 8 <| .p 9 <| .e true [(10, .p 11 <| .p 12 <| .p 13 <| .e false [(14, .e false [(15, .p 16 <| .done)])]), (14, .e true [(10, .p 11 <| .p 12 <| .p 13 <| .e false [(15, .p 16 <| .done)])])]); exact mixed; kernel_rfl; kernel_rfl; exact Ent.refl) | (refine is_draw ?_; apply WC_mix (id := 33) false _ (pl := .p 0 <| .p 1 <| .p 3 <| .e true [(2, .p 4 <| .p 5 <| .p 6 <| .p 7 <| .p 8 <| .p 9 <| .p 10 <| .p 11 <| .p 14 <| .p 15 <| .p 16 <| .p 18 <| .r 17 <| .p 19 <| .e true [(12, .p 13 <| .p 20 <| .p 21 <| .done)])]); exact mixed; kernel_rfl; kernel_rfl; exact Ent.refl) | (refine is_draw ?_; refine WC_draw mixed (by kernel_rfl) ?_) | refine cal @hK2 ?_ | refine cal @hL2 ?_)
                      rename_i bp2 pp2 qq2
                      apply WC_loopE (E0 := [(2, _), (5, _), (9, _), (10, _), (11, _), (17, _), (33, _), (34, _), (35, _), (99, _), (135, _), (136, _)]) (fun E0 (j : Nat) => (137, .int .i64 j) :: E0) (fun _ => Own 37 15 (.slice pp2 n2.l2.length qq2) n2.l2.length (flat mc n2.l2) :: NetP b c n2 :: Cells b9 22 [.int .i64 (nleft c n 0), .int .i64 (nleft c n 1), .int .i64 (nleft c n 2)] :: Cells bc 24 c.cells :: Old W :: F) (fun j => j ≤ n2.l2.length) (fun j => n2.l2.length - j) 0
                      · (repeat (first | exact Sub.nil | (refine Sub.cons (by first | rfl | (simp only [Nat.zero_add]; rfl)) ?_)))
                      · exact Nat.zero_le _
                      · (repeat (first | (with_reducible exact Ent.refl) | exact Ent.nil | (apply ent_pickE; (focus ((repeat (first | (with_reducible exact pk_here) | (apply pk_there))); done))) | apply Ent.drop))
                      · intro j hj
                        by_cases hjl : j < n2.l2.length
                        · have hmj := ho2 _ (List.getElem_mem hjl)
                          have hMj := fun F => ref05_May (F := F) (c := c) (m := n2.l2[j]) hc
                          have hNj := fun F => ref05_Net (F := F) (k := n2.l2[j].kind)
                          simp only [decide_eq_true hmj.1] at hMj
                          rw [hmj.2] at hNj
                          repeat (first | rintro _ _ ⟨rfl, rfl⟩ | rintro _ _ ⟨_, rfl, rfl⟩ | rintro _ _ ⟨_, _, rfl, rfl⟩ | intro _ | refine go ?_ | (refine is_draw ?_; apply WC_mix (id := 19) true _ (pl := .p 0 <| .p 1 <| .p 2 <| .p 3 <| .p 4 <| .p 6 <| .p 7 <| .r 5 <| .r 8 <| .p 9 <| .e true [(10, .p 11 <| .p 12 <| .p 13 <| .e false [(14, .e false [(15, .p 16 <| .done)])]), (14, .e true [(10, .p 11 <| .p 12 <| .p 13 <| .e false [(15, .p 16 <| .done)])])]); exact mixed; kernel_rfl; kernel_rfl; exact Ent.refl) | (refine is_draw ?_; apply WC_mix (id := 33) false _ (pl := .p 0 <| .p 1 <| .p 3 <| .e true [(2, .p 4 <| .p 5 <| .p 6 <| .p 7 <| .p 8 <| .p 9 <| .p 10 <| .p 11 <| .p 14 <| .p 15 <| .p 16 <| .p 18 <| .r 17 <| .p 19 <| .e true [(12, .p 13 <| .p 20 <| .p 21 <| .done)])]); exact mixed; kernel_rfl; kernel_rfl; exact Ent.refl) | (refine is_draw ?_; refine WC_draw mixed (by kernel_rfl) ?_) | refine cal @hMj ?_ | refine cal @hNj ?_)
                          refine WE_loop (j + 1) (by omega) (by omega) ?_ ?_
                          · (repeat (first | exact Sub.nil | (refine Sub.cons (by first | rfl | (simp only [Nat.zero_add]; rfl)) ?_)))
                          · (repeat (first | (with_reducible exact Ent.refl) | exact Ent.nil | (apply ent_pickE; (focus ((repeat (first | (with_reducible exact pk_here) | (apply pk_there))); done))) | apply Ent.drop))
                        · have hjj : j = n2.l2.length := by omega
                          subst hjj
                          repeat (first | rintro _ _ ⟨rfl, rfl⟩ | rintro _ _ ⟨_, rfl, rfl⟩ | rintro _ _ ⟨_, _, rfl, rfl⟩ | intro _ | refine go ?_ | (refine is_draw ?_; apply WC_mix (id := 19) true _ (pl := .p 0 <| .p 1 <| .p 2 <| .p 3 <| .p 4 <| .p 6 <| .p 7 <| .r 5 <| .r 8 <| .p 9 <| .e true [(10, .p 11 <| .p 12 <| .p 13 <| .e false [(14, .e false [(15, .p 16 <| .done)])]), (14, .e true [(10, .p 11 <| .p 12 <| .p 13 <| .e false [(15, .p 16 <| .done)])])]); exact mixed; kernel_rfl; kernel_rfl; exact Ent.refl) | (refine is_draw ?_; apply WC_mix (id := 33) false _ (pl := .p 0 <| .p 1 <| .p 3 <| .e true [(2, .p 4 <| .p 5 <| .p 6 <| .p 7 <| .p 8 <| .p 9 <| .p 10 <| .p 11 <| .p 14 <| .p 15 <| .p 16 <| .p 18 <| .r 17 <| .p 19 <| .e true [(12, .p 13 <| .p 20 <| .p 21 <| .done)])]); exact mixed; kernel_rfl; kernel_rfl; exact Ent.refl) | (refine is_draw ?_; refine WC_draw mixed (by kernel_rfl) ?_))
                          refine WE_loop (i + 1, n2) (by dsimp only; omega) ⟨by dsimp only; omega, hok2⟩ ?_ ?_
                          · (repeat (first | exact Sub.nil | (refine Sub.cons (by first | rfl | (simp only [Nat.zero_add]; rfl)) ?_)))
                          · (repeat (first | (with_reducible exact Ent.refl) | exact Ent.nil | (apply ent_pickE; (focus ((repeat (first | (with_reducible exact pk_here) | (apply pk_there))); done))) | apply Ent.drop))
        · repeat (first | rintro _ _ ⟨rfl, rfl⟩ | rintro _ _ ⟨_, rfl, rfl⟩ | rintro _ _ ⟨_, _, rfl, rfl⟩ | intro _ | refine go ?_ | (refine is_draw ?_; apply WC_mix (id := 19) true _ (pl := .p 0 <| .p 1 <| .p 2 <| .p 3 <| .p 4 <| .p 6 <| .p 7 <| .r 5 <| .r 8 <| .p 9 <| .e true [(10, .p 11 <| .p 12 <| .p 13 <| .e false [(14, .e false [(15, .p 16 <| .done)])]), (14, .e true [(10, .p 11 <| .p 12 <| .p 13 <| .e false [(15, .p 16 <| .done)])])]); exact mixed; kernel_rfl; kernel_rfl; exact Ent.refl) | (refine is_draw ?_; apply WC_mix (id := 33) false _ (pl := .p 0 <| .p 1 <| .p 3 <| .e true [(2, .p 4 <| .p 5 <| .p 6 <| .p 7 <| .p 8 <| .p 9 <| .p 10 <| .p 11 <| .p 14 <| .p 15 <| .p 16 <| .p 18 <| .r 17 <| .p 19 <| .e true [(12, .p 13 <| .p 20 <| .p 21 <| .done)])]); exact mixed; kernel_rfl; kernel_rfl; exact Ent.refl) | (refine is_draw ?_; refine WC_draw mixed (by kernel_rfl) ?_))
          (apply WE_ret rfl rfl (by (repeat (first | exact ResOk.nil | (apply ResOk.tmp; rfl) | (apply resOk_cell; rfl; exact inferInstance; rfl; rfl)))); (first | exact ⟨rfl, rfl⟩ | exact ⟨congrArg Value.bool (by decide), rfl⟩ | exact ⟨_, rfl, rfl⟩ | exact ⟨_, _, rfl, rfl⟩ | exact ⟨by first | (simp []; done) | (simp [] <;> omega), rfl⟩); (repeat (first | exact Ent.refl | exact Ent.nil | apply Ent.pick | apply Ent.drop)))
end Go.Sx
