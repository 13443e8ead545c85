/- CaLock: several of my texts as one. My own work. -/
import Derived.Test.YtlaohgngdaglmaaGreatZao
import Derived.Test.YtlaohgngdaglmaaGreatZat
/- The law of caches: a line is locked just as long as there is a miss of it. My own work. -/
namespace Go.Sx
open Go Go.Proofs
set_option linter.unusedVariables false
set_option linter.unusedSectionVars false
set_option linter.unusedSimpArgs false
set_option maxRecDepth 100000
set_option maxHeartbeats 4000000
attribute [local irreducible] Go.Exit.then Go.Exit.inBlock Go.Code.wp WC WO WE WQ V LoopQ FnQ Sat Star band bor IntKind.wrap WR Code.rounds WT KO
theorem law14_Locks {W : World} {F : List HP} {c : Cfg} {v : Value} {l : List CStep} {core : Int} (hc : c.wf) (hco : I64 core) (hl : l.length ≤ 9223372036854775807) (k : ROld W 21 v l.length (flat csc l)) (hwf : ∀ x ∈ l, CStep.wf x) :
    FnF Tryz.prog 4 [c.val, .int .i64 core, v] [Old W] F (fun r L' => r = .bool true ∧ L' = [Old W]) := by
  refine FnF.mk' Tryz.func4 rfl rfl Tryz.ntmps4 rfl ?_
  have hLg := fun F => law14_large (F := F) (c := c)
  by_cases hm : 60 < l.length
  · repeat (first | rintro _ _ ⟨rfl, rfl⟩ | refine exq fun _ => ?_ | intro _ | refine go ?_ | refine drq ?_ | refine cal @law14_awake ?_)
    exact fin0
  · cases hL : largeB c with
    | true =>
      rw [hL] at hLg
      repeat (first | rintro _ _ ⟨rfl, rfl⟩ | refine exq fun _ => ?_ | intro _ | refine go ?_ | refine drq ?_ | refine cal @law14_awake ?_ | refine cal @hLg ?_)
      exact fin0
    | false =>
      rw [hL] at hLg
      by_cases he : checkB c = true ∧ 0 ≤ core ∧ core < c.cores
      · have hN := fun F => ca_New (F := F) hc he
        have hroom := cfg_rooms he.1
        repeat (first | rintro _ _ ⟨rfl, rfl⟩ | refine exq fun _ => ?_ | intro _ | refine go ?_ | refine drq ?_ | refine cal @law14_awake ?_ | refine cal @hLg ?_ | refine cal @hN ?_)
        rename_i bx b
        apply WC_loopE (E0 := [(3, _), (7, _), (53, _), (54, _)]) (fun E0 (i : Nat) => (55, .int .i64 i) :: E0) (fun i => CaP b c core (stKs c core ⟨List.replicate (c.sets * c.ways).toNat .zero, [], []⟩ (l.take i)) :: Cells bx 24 c.cells :: Old W :: F) (fun i => i ≤ l.length) (fun i => l.length - i) 0
        · (repeat (first | exact Sub.nil | (refine Sub.cons (by first | rfl | (simp only [Nat.zero_add]; rfl)) ?_)))
        · exact Nat.zero_le _
        · simp only [List.take_zero, stKs, List.foldl_nil]; exact entu0
        · intro i hi
          by_cases hlt : i < l.length
          · have hx := hwf l[i] (List.getElem_mem hlt)
            have hI := stKs_inv (core := core) (l := l) (caInv_new c 0 (c.sets * c.ways).toNat) i hi
            have hI2 := stKs_inv (core := core) (l := l) (caInv_new c 0 (c.sets * c.ways).toNat) (i + 1) hlt
            have hj2 := stKs_j (core := core) (l := l) (caInv_new c 0 (c.sets * c.ways).toNat) (j_new c (c.sets * c.ways).toNat) (i + 1) hlt
            have hsu := stKs_succ (c := c) (core := core) (k := ⟨List.replicate (c.sets * c.ways).toNat .zero, [], []⟩) hlt
            rw [hsu] at hI2 hj2
            generalize stKs c core ⟨List.replicate (c.sets * c.ways).toNat .zero, [], []⟩ (l.take i) = ki at *
            have hD := fun F => law14_do (F := F) (b := b) (core := core) hI (by omega) hx
            have herr := step_err (c := c) (core := core) (k := ki) (s := l[i])
            generalize stK c core ki l[i] = k2 at *
            generalize stM c core ki l[i] = rm at *
            generalize stB c core ki l[i] = rb at *
            generalize stN c ki l[i] = rn at *
            generalize stE c core ki l[i] = re at *
            have hD' := fun F => FnF.withFacts (hD F)
            have hcase : re = 0 ∨ re ≠ 0 ∧ k2 = ki ∧ rm = .zero ∧ rb = false ∧ rn = 0 := by
              by_cases h : re = 0
              · exact .inl h
              · exact .inr ⟨h, herr h⟩
            clear herr
            have hSm := fun F (v1 v2 v3 u1 u2 u3 : Value) (hf : CaFacts c core k2) (k1 : RdL F 11 v1 k2.ways.length (flat wyc k2.ways)) (k2' : RdL F 15 v2 k2.mis.length (flat msc' k2.mis)) (k3 : RdL F 10 v3 k2.buf.length (flat bc k2.buf)) (j1 : RdL F 11 u1 k2.ways.length (flat wyc k2.ways)) (j2 : RdL F 15 u2 k2.mis.length (flat msc' k2.mis)) (j3 : RdL F 10 u3 k2.buf.length (flat bc k2.buf)) =>
              law14_same k1 k2' k3 j1 j2 j3 (caFacts_len hf).1 (caFacts_len hf).2.1 (caFacts_len hf).2.2
            rcases hcase with hre | ⟨hre, rfl, rfl, rfl, rfl⟩
            all_goals
              repeat (first | rintro _ _ ⟨rfl, rfl⟩ | refine exq fun _ => ?_ | intro _ | refine go ?_ | refine drq ?_ | refine cal @law14_drawn ?_ | refine cal @hD' ?_ | refine cal @hSm ?_)
              rename_i b45 a1 d1 a2 d2 a3 d3 bw hf br p1 c1 p2 c2 p3 c3 bn
              obtain ⟨hl1, hl2, hl3⟩ := caFacts_len hf
              have hcnt := lock_count hI2.1 hj2
              have hml : (misLs k2).length = k2.mis.length := by simp [misLs]
              apply WC_loopE (E0 := [(3, _), (7, _), (13, _), (53, _), (54, _), (55, _), (93, _), (94, _)]) (fun E0 (q : Nat) => (95, .int .i64 q) :: (14, .int .i64 (((k2.ways.take q).filter (·.lk)).length : Nat)) :: E0) (fun _ => Cells bn 51 [.slice p1 k2.ways.length c1, .slice p2 k2.mis.length c2, .slice p3 k2.buf.length c3] :: Own 69 11 (.slice p1 k2.ways.length c1) k2.ways.length (flat wyc k2.ways) :: Own 75 15 (.slice p2 k2.mis.length c2) k2.mis.length (flat msc' k2.mis) :: Own 77 10 (.slice p3 k2.buf.length c3) k2.buf.length (flat bc k2.buf) :: CaP b c core k2 :: Cells bx 24 c.cells :: Old W :: F) (fun q => q ≤ k2.ways.length) (fun q => k2.ways.length - q) 0
              · (repeat (first | exact Sub.nil | (refine Sub.cons (by first | rfl | (simp only [Nat.zero_add]; rfl)) ?_)))
              · exact Nat.zero_le _
              · exact entu0
              · intro q hq
                by_cases hlq : q < k2.ways.length
                · have hnx := filter_next hlq
                  have hfl := filter_le k2.ways q
                  cases hlk : k2.ways[q].lk with
                  | true =>
                    rw [hlk, if_pos rfl] at hnx
                    repeat (first | rintro _ _ ⟨rfl, rfl⟩ | refine exq fun _ => ?_ | intro _ | refine go ?_ | refine drq ?_)
                    refine WE_loop (q + 1) (by omega) (by omega) ?_ ?_
                    · rw [hnx]; (repeat (first | exact Sub.nil | (refine Sub.cons (by first | rfl | (simp only [Nat.zero_add]; rfl)) ?_)))
                    · exact entu0
                  | false =>
                    rw [hlk, if_neg Bool.false_ne_true, Nat.add_zero] at hnx
                    repeat (first | rintro _ _ ⟨rfl, rfl⟩ | refine exq fun _ => ?_ | intro _ | refine go ?_ | refine drq ?_)
                    refine WE_loop (q + 1) (by omega) (by omega) ?_ ?_
                    · rw [hnx]; (repeat (first | exact Sub.nil | (refine Sub.cons (by first | rfl | (simp only [Nat.zero_add]; rfl)) ?_)))
                    · exact entu0
                · have hqq : q = k2.ways.length := by omega
                  subst hqq
                  rw [List.take_length, hcnt, hml]
                  obtain ⟨_, _, hr1, hr2, _, _⟩ := hf
                  repeat (first | rintro _ _ ⟨rfl, rfl⟩ | refine exq fun _ => ?_ | intro _ | refine go ?_ | refine drq ?_)
                  apply WC_loopE (E0 := [(3, _), (7, _), (13, _), (53, _), (54, _), (55, _), (126, _), (127, _)]) (fun E0 (q : Nat) => (128, .int .i64 q) :: E0) (fun _ => Cells bn 51 [.slice p1 k2.ways.length c1, .slice p2 k2.mis.length c2, .slice p3 k2.buf.length c3] :: Own 69 11 (.slice p1 k2.ways.length c1) k2.ways.length (flat wyc k2.ways) :: Own 75 15 (.slice p2 k2.mis.length c2) k2.mis.length (flat msc' k2.mis) :: Own 77 10 (.slice p3 k2.buf.length c3) k2.buf.length (flat bc k2.buf) :: CaP b c core k2 :: Cells bx 24 c.cells :: Old W :: F) (fun q => q ≤ k2.mis.length) (fun q => k2.mis.length - q) 0
                  · (repeat (first | exact Sub.nil | (refine Sub.cons (by first | rfl | (simp only [Nat.zero_add]; rfl)) ?_)))
                  · exact Nat.zero_le _
                  · exact entu0
                  · intro q hq
                    by_cases hlq : q < k2.mis.length
                    · have hmem : k2.mis[q].line ∈ misLs k2 := List.mem_map.2 ⟨_, List.getElem_mem hlq, rfl⟩
                      have hmi : I64 k2.mis[q].line := okLine_i64 (hI2.2.2 _ (List.getElem_mem hlq)).1
                      obtain ⟨y, hy, hyk⟩ := hj2.ml _ hmem
                      have hfb : findB c k2.ways k2.mis[q].line = true := by rw [vw_findB, hy]; rfl
                      have hfw : findW c k2.ways k2.mis[q].line = y := (vw_some hy).2.2.2.2
                      have hne : ∀ (r : Nat) (hr : r < k2.buf.length), k2.buf[r].line ≠ k2.mis[q].line := fun r hr e => by
                        have := hj2.bn k2.buf[r].line (List.mem_map.2 ⟨_, List.getElem_mem hr, rfl⟩)
                        rw [e, hy] at this; cases this
                      have hLook := fun F => ca_Look (F := F) (b := b) (c := c) (core := core) (k := k2) hmi
                      rw [hfb, hfw] at hLook
                      repeat (first | rintro _ _ ⟨rfl, rfl⟩ | refine exq fun _ => ?_ | intro _ | refine go ?_ | refine drq ?_ | refine cal @hLook ?_)
                      rename_i bm bw
                      apply WC_loopE (E0 := [(3, _), (7, _), (13, _), (18, _), (53, _), (54, _), (55, _), (126, _), (127, _), (128, _), (147, _), (148, _)]) (fun E0 (r : Nat) => (149, .int .i64 r) :: E0) (fun _ => Cells bm 75 (msc' k2.mis[q]) :: Cells bn 51 [.slice p1 k2.ways.length c1, .slice p2 k2.mis.length c2, .slice p3 k2.buf.length c3] :: Own 69 11 (.slice p1 k2.ways.length c1) k2.ways.length (flat wyc k2.ways) :: Own 75 15 (.slice p2 k2.mis.length c2) k2.mis.length (flat msc' k2.mis) :: Own 77 10 (.slice p3 k2.buf.length c3) k2.buf.length (flat bc k2.buf) :: CaP b c core k2 :: Cells bx 24 c.cells :: Old W :: F) (fun r => r ≤ k2.buf.length) (fun r => k2.buf.length - r) 0
                      · (repeat (first | exact Sub.nil | (refine Sub.cons (by first | rfl | (simp only [Nat.zero_add]; rfl)) ?_)))
                      · exact Nat.zero_le _
                      · exact entu0
                      · intro r hr
                        by_cases hlr : r < k2.buf.length
                        · have hnr := hne r hlr
                          repeat (first | rintro _ _ ⟨rfl, rfl⟩ | refine exq fun _ => ?_ | intro _ | refine go ?_ | refine drq ?_)
                          refine WE_loop (r + 1) (by omega) (by omega) ?_ ?_
                          · (repeat (first | exact Sub.nil | (refine Sub.cons (by first | rfl | (simp only [Nat.zero_add]; rfl)) ?_)))
                          · exact entu0
                        · repeat (first | rintro _ _ ⟨rfl, rfl⟩ | refine exq fun _ => ?_ | intro _ | refine go ?_ | refine drq ?_)
                          refine WE_loop (q + 1) (by omega) (by omega) ?_ ?_
                          · (repeat (first | exact Sub.nil | (refine Sub.cons (by first | rfl | (simp only [Nat.zero_add]; rfl)) ?_)))
                          · exact entu0
                    · repeat (first | rintro _ _ ⟨rfl, rfl⟩ | refine exq fun _ => ?_ | intro _ | refine go ?_ | refine drq ?_)
                      refine WE_loop (i + 1) (by omega) hlt ?_ ?_
                      · (repeat (first | exact Sub.nil | (refine Sub.cons (by first | rfl | (simp only [Nat.zero_add]; rfl)) ?_)))
                      · rw [hsu]; exact entu0
          · have hil : i = l.length := by omega
            subst hil
            repeat (first | rintro _ _ ⟨rfl, rfl⟩ | refine exq fun _ => ?_ | intro _ | refine go ?_ | refine drq ?_)
            exact fin0
      · have hN := fun F => ca_New_no (F := F) hc he
        have hCk := fun F => shape_Check (F := F) hc
        by_cases h1 : checkB c = true
        · simp only [checkE, h1, if_true] at hCk
          by_cases h2 : core < 0
          · repeat (first | rintro _ _ ⟨rfl, rfl⟩ | refine exq fun _ => ?_ | intro _ | refine go ?_ | refine drq ?_ | refine cal @law14_awake ?_ | refine cal @hLg ?_ | refine cal @hN ?_ | refine cal @hCk ?_)
            exact fin0
          · have h3 : core ≥ c.cores := Int.not_lt.1 fun h3 => he ⟨h1, by omega, h3⟩
            repeat (first | rintro _ _ ⟨rfl, rfl⟩ | refine exq fun _ => ?_ | intro _ | refine go ?_ | refine drq ?_ | refine cal @law14_awake ?_ | refine cal @hLg ?_ | refine cal @hN ?_ | refine cal @hCk ?_)
            exact fin0
        · have h1' : checkB c = false := by simpa using h1
          simp only [checkE, h1', Bool.false_eq_true, if_false] at hCk
          repeat (first | rintro _ _ ⟨rfl, rfl⟩ | refine exq fun _ => ?_ | intro _ | refine go ?_ | refine drq ?_ | refine cal @law14_awake ?_ | refine cal @hLg ?_ | refine cal @hN ?_ | refine cal @hCk ?_)
          exact fin0
end Go.Sx
