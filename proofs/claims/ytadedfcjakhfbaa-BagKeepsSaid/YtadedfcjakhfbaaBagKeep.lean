/- What is put into a bag is taken once. My own work. -/
import Derived.Test.YtadedfcjakhfbaaBagLaw
namespace Go.Sx
open Go Go.Proofs
set_option linter.unusedVariables false
set_option linter.unusedSectionVars false
set_option maxRecDepth 100000
set_option maxHeartbeats 4000000
attribute [local irreducible] Go.Exit.then Go.Exit.inBlock Go.Code.wp WC WO WE WQ V LoopQ FnQ Sat Star band bor IntKind.wrap WR Code.rounds WT KO
instance : MapT Try.prog 53 iv 0 := ⟨_, _, _, _, _, Try.underlying53, Try.underlying3, TZ.pf⟩

def msgOf (n : Int) : Msg := ⟨0, n, 0, 0, 0, 0, 0, .zero⟩
def cntL (l : List Int) (k : Int) : Int := (l.count k : Nat)
theorem cntL_bd (l : List Int) (k : Int) : 0 ≤ cntL l k ∧ cntL l k ≤ l.length := by
  have := List.count_le_length (a := k) (l := l)
  unfold cntL; omega
theorem cntL_put (l : List Int) (x k : Int) : cntL (l ++ [x]) k = cntL l k + if k = x then 1 else 0 := by
  unfold cntL
  rw [List.count_append, List.count_singleton]
  by_cases h : k = x
  · subst h; simp
  · have : ¬ x = k := fun e => h e.symm
    simp [h, this]
theorem cntL_erase (l : List Int) (n : Nat) (hn : n < l.length) (k : Int) : cntL (l.eraseIdx n) k = cntL l k - if k = l[n] then 1 else 0 := by
  have h : l = l.take n ++ l[n] :: l.drop (n + 1) := by simp
  have h2 : l.eraseIdx n = l.take n ++ l.drop (n + 1) := List.eraseIdx_eq_take_drop_succ l n
  have h3 : l.count k = (l.take n).count k + (l[n] :: l.drop (n + 1)).count k := by
    conv => lhs; rw [h]
    rw [List.count_append]
  unfold cntL
  rw [h2, List.count_append, h3, List.count_cons]
  by_cases e : k = l[n]
  · subst e; simp; omega
  · have : ¬ l[n] = k := fun q => e q.symm
    simp [e, this]
theorem cntL_drop (l : List Int) (n : Nat) (hn : n < l.length) (k : Int) : cntL (l.drop n) k = cntL (l.drop (n + 1)) k + if k = l[n] then 1 else 0 := by
  unfold cntL
  rw [List.drop_eq_getElem_cons hn, List.count_cons]
  by_cases e : k = l[n]
  · subst e; simp
  · have : ¬ l[n] = k := fun q => e q.symm
    simp [e, this]

theorem law06_BagKeeps {W : World} {F : List HP} {room : Int} (hr : I64 room) {v : Value} {ops : List BOp} (hw : ∀ o ∈ ops, o.wf) (hl : ops.length ≤ 9223372036854775807) (k : ROld W 2 v ops.length (flat opc ops)) :
    FnF Try.prog 4 [.int .i64 room, v] [Old W] F (fun r L' => r = .bool true ∧ L' = [Old W]) := by
  unfold I64 at hr
  refine FnF.mk' Try.func4 rfl rfl Try.ntmps4 rfl ?_
  by_cases hm : 100 < ops.length
  · repeat (first | rintro _ _ ⟨rfl, rfl⟩ | rintro _ _ ⟨_, rfl, rfl⟩ | rintro _ _ ⟨_, _, rfl, rfl⟩ | intro _ | refine go ?_ | (refine is_draw ?_; refine WC_draw mixed (by kernel_rfl) ?_) | refine cal @law06_awake ?_)
    (apply WE_ret rfl rfl (by (repeat (first | exact ResOk.nil | (apply ResOk.tmp; rfl) | (apply resOk_cell; rfl; exact inferInstance; rfl; rfl)))); (first | exact ⟨rfl, rfl⟩ | exact ⟨congrArg Value.bool (by decide), rfl⟩ | exact ⟨_, rfl, rfl⟩ | exact ⟨_, _, rfl, rfl⟩ | exact ⟨by first | (simp []; done) | (simp [] <;> omega), rfl⟩); (repeat (first | exact Ent.refl | exact Ent.nil | apply Ent.pick | apply Ent.drop)))
  · by_cases h1 : 1 ≤ room ∧ room ≤ 4096
    · repeat (first | rintro _ _ ⟨rfl, rfl⟩ | rintro _ _ ⟨_, rfl, rfl⟩ | rintro _ _ ⟨_, _, rfl, rfl⟩ | intro _ | refine go ?_ | (refine is_draw ?_; refine WC_draw mixed (by kernel_rfl) ?_) | refine cal @law06_awake ?_ | refine cal @bag_New_msg ?_)
      rename_i b bm
      apply WC_loopE (E0 := [(0, _), (5, _), (7, _), (33, _), (34, _)]) (fun E0 (q : Nat × List Int × List (Int × Int)) => (35, .int .i64 q.1) :: (8, .int .i64 (q.2.1.length : Nat)) :: E0)
        (fun q => Bag_msg b room (q.2.1.map msgOf) :: MapAt bm iv q.2.2 :: Old W :: F) (fun q => q.1 ≤ ops.length ∧ (q.2.1.length : Int) ≤ room ∧ ∀ k, (mget q.2.2 k).getD 0 = cntL q.2.1 k) (fun q => ops.length - q.1) (0, [], [])
      · (repeat (first | exact Sub.nil | (refine Sub.cons (by first | rfl | (simp only [Nat.zero_add]; rfl)) ?_)))
      · exact ⟨Nat.zero_le _, by simp; omega, by simp [mget_nil, cntL]⟩
      · dsimp only; simp only [List.map_nil]; (repeat (first | (with_reducible exact Ent.refl) | exact Ent.nil | (apply ent_pickE; (focus ((repeat (first | (with_reducible exact pk_here) | (apply pk_there))); done))) | apply Ent.drop))
      · rintro ⟨i, m, mp⟩ ⟨hi, hmR, hc⟩
        dsimp only at hi hmR hc ⊢
        have hLs := fun F m => bag_List_msg (F := F) (b := b) (room := room) (l := List.map msgOf m)
        have hLf := fun F m => bag_Left_msg (F := F) (b := b) (room := room) (l := List.map msgOf m)
        simp only [List.length_map] at hLs hLf
        by_cases hlt : i < ops.length
        · have hon : I64 ops[i].n := (hw _ (List.getElem_mem hlt)).2
          unfold I64 at hon
          by_cases hd : ops[i].d = 0
          · have hP := fun F => bag_Put_msg (F := F) (b := b) (room := room) (l := List.map msgOf m) (x := msgOf ops[i].n)
            by_cases hf : (m.length : Int) = room
            · simp only [putE, putL, List.length_map, hf, if_true] at hP
              repeat (first | rintro _ _ ⟨rfl, rfl⟩ | rintro _ _ ⟨_, rfl, rfl⟩ | rintro _ _ ⟨_, _, rfl, rfl⟩ | intro _ | refine go ?_ | (refine is_draw ?_; refine WC_draw mixed (by kernel_rfl) ?_) | refine cal @hP ?_ | refine cal (hLs _ m) ?_ | refine cal (hLf _ m) ?_)
              refine WE_loop (i + 1, m, mp) (by dsimp only; omega) ⟨by dsimp only; omega, hmR, hc⟩ ?_ ?_
              · (repeat (first | exact Sub.nil | (refine Sub.cons (by first | rfl | (simp only [Nat.zero_add]; rfl)) ?_)))
              · dsimp only; (repeat (first | (with_reducible exact Ent.refl) | exact Ent.nil | (apply ent_pickE; (focus ((repeat (first | (with_reducible exact pk_here) | (apply pk_there))); done))) | apply Ent.drop))
            · simp only [putE, putL, List.length_map, hf, if_false] at hP
              have hcn := hc ops[i].n
              have hcb := cntL_bd m ops[i].n
              have e1 : List.map msgOf m ++ [msgOf ops[i].n] = List.map msgOf (m ++ [ops[i].n]) := by simp
              rw [e1] at hP
              have hLs2 := fun F => hLs F (m ++ [ops[i].n])
              have hLf2 := fun F => hLf F (m ++ [ops[i].n])
              simp only [List.length_append, List.length_singleton] at hLs2 hLf2
              repeat (first | rintro _ _ ⟨rfl, rfl⟩ | rintro _ _ ⟨_, rfl, rfl⟩ | rintro _ _ ⟨_, _, rfl, rfl⟩ | intro _ | refine go ?_ | (refine is_draw ?_; refine WC_draw mixed (by kernel_rfl) ?_) | refine cal @hP ?_ | refine cal @hLs2 ?_ | refine cal @hLf2 ?_)
              refine WE_loop (i + 1, m ++ [ops[i].n], mset mp ops[i].n ((mget mp ops[i].n).getD 0 + 1)) (by dsimp only; omega) ⟨by dsimp only; omega, by dsimp only; rw [List.length_append, List.length_singleton]; omega, fun k => ?_⟩ ?_ ?_
              · dsimp only
                rw [mget_mset, cntL_put]
                by_cases hk : k = ops[i].n
                · subst hk; simp [hcn]
                · simp [hk, hc]
              · dsimp only; rw [List.length_append, List.length_singleton]; (repeat (first | exact Sub.nil | (refine Sub.cons (by first | rfl | (simp only [Nat.zero_add]; rfl)) ?_)))
              · dsimp only; (repeat (first | (with_reducible exact Ent.refl) | exact Ent.nil | (apply ent_pickE; (focus ((repeat (first | (with_reducible exact pk_here) | (apply pk_there))); done))) | apply Ent.drop))
          · have hT := fun F => bag_Take_msg (F := F) (b := b) (room := room) (l := List.map msgOf m) (n := ops[i].n)
            by_cases hin : 0 ≤ ops[i].n ∧ ops[i].n < m.length
            · obtain ⟨j, ej⟩ : ∃ j : Nat, ops[i].n = j := ⟨ops[i].n.toNat, by omega⟩
              rw [ej] at hin
              have hj : j < m.length := by omega
              have hi0 : inL (List.map msgOf m) ops[i].n = true := inL_iff.2 (by rw [List.length_map]; omega)
              have hi1 : inL (List.map msgOf m) (j : Int) = true := by rw [← ej]; exact hi0
              have e2 : atL Msg.zero (List.map msgOf m) ops[i].n = msgOf m[j] := by rw [ej]; simp [atL, hi1, hj]
              have e3 : (List.map msgOf m).eraseIdx ops[i].n.toNat = List.map msgOf (m.eraseIdx j) := by
                rw [ej, Int.toNat_natCast]
                have : ∀ (x : List Int) (i : Nat), (x.map msgOf).eraseIdx i = (x.eraseIdx i).map msgOf := fun x i => by
                  induction x generalizing i with
                  | nil => simp
                  | cons a r ih => cases i <;> simp [ih]
                exact this m j
              simp only [takeE, takeL, hi0, e2, e3, if_true] at hT
              have hcn := hc m[j]
              have hcb := cntL_bd m m[j]
              have hcp : 1 ≤ cntL m m[j] := by
                have := List.count_pos_iff.2 (List.getElem_mem hj)
                unfold cntL; omega
              have hK : (msgOf m[j]).line = m[j] := rfl
              have hlen : (m.eraseIdx j).length = m.length - 1 := by rw [List.length_eraseIdx, if_pos hj]
              have hneg : ¬ ((mget (mset mp (msgOf m[j]).line ((mget mp (msgOf m[j]).line).getD 0 - 1)) (msgOf m[j]).line).getD 0 < 0) := by
                rw [mget_mset, if_pos rfl, hK, hcn]; simp; omega
              have hb1 : -9223372036854775808 ≤ (mget mp (msgOf m[j]).line).getD 0 - 1 ∧ (mget mp (msgOf m[j]).line).getD 0 - 1 ≤ 9223372036854775807 := by rw [hK, hcn]; omega
              have hLs2 := fun F => hLs F (m.eraseIdx j)
              have hLf2 := fun F => hLf F (m.eraseIdx j)
              simp only [hlen] at hLs2 hLf2
              have hm1 : ((m.length - 1 : Nat) : Int) = (m.length : Int) - 1 := by omega
              simp only [hm1] at hLs2 hLf2
              repeat (first | rintro _ _ ⟨rfl, rfl⟩ | rintro _ _ ⟨_, rfl, rfl⟩ | rintro _ _ ⟨_, _, rfl, rfl⟩ | intro _ | refine go ?_ | (refine is_draw ?_; refine WC_draw mixed (by kernel_rfl) ?_) | refine cal @hT ?_ | refine cal @hLs2 ?_ | refine cal @hLf2 ?_)
              refine WE_loop (i + 1, m.eraseIdx j, mset mp (msgOf m[j]).line ((mget mp (msgOf m[j]).line).getD 0 - 1)) (by dsimp only; omega) ⟨by dsimp only; omega, by dsimp only; rw [hlen]; omega, fun k => ?_⟩ ?_ ?_
              · dsimp only
                rw [mget_mset, cntL_erase m j hj, hK]
                by_cases hk : k = m[j]
                · subst hk; simp [hcn]
                · simp [hk, hc]
              · dsimp only; rw [hlen, hm1]; (repeat (first | exact Sub.nil | (refine Sub.cons (by first | rfl | (simp only [Nat.zero_add]; rfl)) ?_)))
              · dsimp only; (repeat (first | (with_reducible exact Ent.refl) | exact Ent.nil | (apply ent_pickE; (focus ((repeat (first | (with_reducible exact pk_here) | (apply pk_there))); done))) | apply Ent.drop))
            · have hi0 : inL (List.map msgOf m) ops[i].n = false := inL_not.2 (by rw [List.length_map]; exact hin)
              have e2 : atL Msg.zero (List.map msgOf m) ops[i].n = Msg.zero := by simp [atL, hi0]
              simp only [takeE, takeL, hi0, e2, if_false, Bool.false_eq_true] at hT
              by_cases h0 : 0 ≤ ops[i].n
              · repeat (first | rintro _ _ ⟨rfl, rfl⟩ | rintro _ _ ⟨_, rfl, rfl⟩ | rintro _ _ ⟨_, _, rfl, rfl⟩ | intro _ | refine go ?_ | (refine is_draw ?_; refine WC_draw mixed (by kernel_rfl) ?_) | refine cal @hT ?_ | refine cal (hLs _ m) ?_ | refine cal (hLf _ m) ?_)
                refine WE_loop (i + 1, m, mp) (by dsimp only; omega) ⟨by dsimp only; omega, hmR, hc⟩ ?_ ?_
                · (repeat (first | exact Sub.nil | (refine Sub.cons (by first | rfl | (simp only [Nat.zero_add]; rfl)) ?_)))
                · dsimp only; (repeat (first | (with_reducible exact Ent.refl) | exact Ent.nil | (apply ent_pickE; (focus ((repeat (first | (with_reducible exact pk_here) | (apply pk_there))); done))) | apply Ent.drop))
              · repeat (first | rintro _ _ ⟨rfl, rfl⟩ | rintro _ _ ⟨_, rfl, rfl⟩ | rintro _ _ ⟨_, _, rfl, rfl⟩ | intro _ | refine go ?_ | (refine is_draw ?_; refine WC_draw mixed (by kernel_rfl) ?_) | refine cal @hT ?_ | refine cal (hLs _ m) ?_ | refine cal (hLf _ m) ?_)
                refine WE_loop (i + 1, m, mp) (by dsimp only; omega) ⟨by dsimp only; omega, hmR, hc⟩ ?_ ?_
                · (repeat (first | exact Sub.nil | (refine Sub.cons (by first | rfl | (simp only [Nat.zero_add]; rfl)) ?_)))
                · dsimp only; (repeat (first | (with_reducible exact Ent.refl) | exact Ent.nil | (apply ent_pickE; (focus ((repeat (first | (with_reducible exact pk_here) | (apply pk_there))); done))) | apply Ent.drop))
        · repeat (first | rintro _ _ ⟨rfl, rfl⟩ | rintro _ _ ⟨_, rfl, rfl⟩ | rintro _ _ ⟨_, _, rfl, rfl⟩ | intro _ | refine go ?_ | (refine is_draw ?_; refine WC_draw mixed (by kernel_rfl) ?_) | refine cal (hLs _ m) ?_)
          rename_i p c
          apply WC_loopE (E0 := [(7, _), (113, _), (114, _)]) (fun E0 (q : Nat × List (Int × Int)) => (115, .int .i64 q.1) :: E0) (fun q => Own 52 15 (.slice p m.length c) m.length (flat mc (List.map msgOf m)) :: MapAt bm iv q.2 :: Old W :: F) (fun q => q.1 ≤ m.length ∧ ∀ k, (mget q.2 k).getD 0 = cntL (m.drop q.1) k) (fun q => m.length - q.1) (0, mp)
          · (repeat (first | exact Sub.nil | (refine Sub.cons (by first | rfl | (simp only [Nat.zero_add]; rfl)) ?_)))
          · exact ⟨Nat.zero_le _, hc⟩
          · (repeat (first | (with_reducible exact Ent.refl) | exact Ent.nil | (apply ent_pickE; (focus ((repeat (first | (with_reducible exact pk_here) | (apply pk_there))); done))) | apply Ent.drop))
          · rintro ⟨j, mq⟩ ⟨hj, hq⟩
            dsimp only at hj hq ⊢
            by_cases hlt2 : j < m.length
            · have hjm : j < (List.map msgOf m).length := by rw [List.length_map]; exact hlt2
              have hK : (List.map msgOf m)[j].line = m[j] := by simp [msgOf]
              have hcn := hq m[j]
              have hcb := cntL_bd (m.drop j) m[j]
              rw [List.length_drop] at hcb
              have hb1 : -9223372036854775808 ≤ (mget mq (List.map msgOf m)[j].line).getD 0 - 1 ∧ (mget mq (List.map msgOf m)[j].line).getD 0 - 1 ≤ 9223372036854775807 := by rw [hK, hcn]; omega
              repeat (first | rintro _ _ ⟨rfl, rfl⟩ | rintro _ _ ⟨_, rfl, rfl⟩ | rintro _ _ ⟨_, _, rfl, rfl⟩ | intro _ | refine go ?_ | (refine is_draw ?_; refine WC_draw mixed (by kernel_rfl) ?_))
              refine WE_loop (j + 1, mset mq (List.map msgOf m)[j].line ((mget mq (List.map msgOf m)[j].line).getD 0 - 1)) (by dsimp only; omega) ⟨by dsimp only; omega, fun k => ?_⟩ ?_ ?_
              · dsimp only
                have hdr := cntL_drop m j hlt2 k
                have hqk := hq k
                rw [mget_mset, hK]
                by_cases hk : k = m[j]
                · subst hk; simp only [if_true, Option.getD_some] at hdr ⊢; omega
                · simp only [hk, if_false] at hdr ⊢; omega
              · (repeat (first | exact Sub.nil | (refine Sub.cons (by first | rfl | (simp only [Nat.zero_add]; rfl)) ?_)))
              · dsimp only; (repeat (first | (with_reducible exact Ent.refl) | exact Ent.nil | (apply ent_pickE; (focus ((repeat (first | (with_reducible exact pk_here) | (apply pk_there))); done))) | apply Ent.drop))
            · have hjm : j = m.length := by omega
              have hz : ∀ k, (mget mq k).getD 0 = 0 := fun k => by rw [hq, hjm, List.drop_length]; rfl
              repeat (first | rintro _ _ ⟨rfl, rfl⟩ | rintro _ _ ⟨_, rfl, rfl⟩ | rintro _ _ ⟨_, _, rfl, rfl⟩ | intro _ | refine go ?_)
              (first | refine WO_front (MapAt bm iv mq) ?_ | refine WC_front (MapAt bm iv mq) ?_ | refine WE_front (MapAt bm iv mq) ?_)
              refine WO_mapnd fun hnd => ?_
              apply WO_k
              rfl
              apply K_range
              rfl
              rfl
              refine fresh_intro ?_
              intro it
              repeat (first | rintro _ _ ⟨rfl, rfl⟩ | rintro _ _ ⟨_, rfl, rfl⟩ | rintro _ _ ⟨_, _, rfl, rfl⟩ | intro _ | refine go ?_)
              apply WC_loopE (E0 := [(126, _)]) (fun E0 (q : Option (Int × Int) × Nat) => E0) (fun q => MapIt bm it iv mq q.1 q.2 :: Old W :: F) (fun _ => True) (fun q => q.2) (none, mq.length)
              · (repeat (first | exact Sub.nil | (refine Sub.cons (by first | rfl | (simp only [Nat.zero_add]; rfl)) ?_)))
              · trivial
              · dsimp only; (repeat (first | (with_reducible exact Ent.refl) | exact Ent.nil | (apply ent_pickE; (focus ((repeat (first | (with_reducible exact pk_here) | (apply pk_there))); done))) | apply Ent.drop))
              · rintro ⟨cur, n⟩ _
                dsimp only
                repeat (first | rintro _ _ ⟨rfl, rfl⟩ | rintro _ _ ⟨_, rfl, rfl⟩ | rintro _ _ ⟨_, _, rfl, rfl⟩ | intro _ | refine go ?_)
                apply WO_next
                rfl
                exact inferInstance
                rfl
                · intro k u n' hku hn
                  have hu : u = 0 := by have := hz k; rw [mem_mget hnd hku] at this; exact this
                  subst hu
                  repeat (first | rintro _ _ ⟨rfl, rfl⟩ | rintro _ _ ⟨_, rfl, rfl⟩ | rintro _ _ ⟨_, _, rfl, rfl⟩ | intro _ | refine go ?_ | (refine is_draw ?_; refine WC_draw mixed (by kernel_rfl) ?_))
                  refine WE_loop (some (k, 0), n') (by dsimp only; omega) trivial ?_ ?_
                  · (repeat (first | exact Sub.nil | (refine Sub.cons (by first | rfl | (simp only [Nat.zero_add]; rfl)) ?_)))
                  · dsimp only; (repeat (first | (with_reducible exact Ent.refl) | exact Ent.nil | (apply ent_pickE; (focus ((repeat (first | (with_reducible exact pk_here) | (apply pk_there))); done))) | apply Ent.drop))
                · repeat (first | rintro _ _ ⟨rfl, rfl⟩ | rintro _ _ ⟨_, rfl, rfl⟩ | rintro _ _ ⟨_, _, rfl, rfl⟩ | intro _ | refine go ?_ | (refine is_draw ?_; refine WC_draw mixed (by kernel_rfl) ?_))
                  (apply WE_ret rfl rfl (by (repeat (first | exact ResOk.nil | (apply ResOk.tmp; rfl) | (apply resOk_cell; rfl; exact inferInstance; rfl; rfl)))); (first | exact ⟨rfl, rfl⟩ | exact ⟨congrArg Value.bool (by decide), rfl⟩ | exact ⟨_, rfl, rfl⟩ | exact ⟨_, _, rfl, rfl⟩ | exact ⟨by first | (simp []; done) | (simp [] <;> omega), rfl⟩); (repeat (first | exact Ent.refl | exact Ent.nil | apply Ent.pick | apply Ent.drop)))
    · repeat (first | rintro _ _ ⟨rfl, rfl⟩ | rintro _ _ ⟨_, rfl, rfl⟩ | rintro _ _ ⟨_, _, rfl, rfl⟩ | intro _ | refine go ?_ | (refine is_draw ?_; refine WC_draw mixed (by kernel_rfl) ?_) | refine cal @law06_awake ?_ | refine cal @bag_New_no_msg ?_)
      (apply WE_ret rfl rfl (by (repeat (first | exact ResOk.nil | (apply ResOk.tmp; rfl) | (apply resOk_cell; rfl; exact inferInstance; rfl; rfl)))); (first | exact ⟨rfl, rfl⟩ | exact ⟨congrArg Value.bool (by decide), rfl⟩ | exact ⟨_, rfl, rfl⟩ | exact ⟨_, _, rfl, rfl⟩ | exact ⟨by first | (simp []; done) | (simp [] <;> omega), rfl⟩); (repeat (first | exact Ent.refl | exact Ent.nil | apply Ent.pick | apply Ent.drop)))
end Go.Sx
