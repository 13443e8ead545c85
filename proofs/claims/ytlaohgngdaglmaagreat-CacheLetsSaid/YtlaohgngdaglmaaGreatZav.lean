/- CaLets: several of my texts as one. My own work. -/
import Derived.Test.YtlaohgngdaglmaaGreatZan
import Derived.Test.YtlaohgngdaglmaaGreatZat
/- The law of caches: behind Inv, and behind FwdM, a line can't be read. My own work. -/
namespace Go.Sx
open Go Go.Proofs
set_option linter.unusedVariables false
set_option linter.unusedSectionVars false
set_option linter.unusedSimpArgs false
set_option maxRecDepth 100000
set_option maxHeartbeats 4000000
attribute [local irreducible] Go.Exit.then Go.Exit.inBlock Go.Code.wp WC WO WE WQ V LoopQ FnQ Sat Star band bor IntKind.wrap WR Code.rounds WT KO
theorem law14_Lets {W : World} {F : List HP} {c : Cfg} {v : Value} {l : List CStep} {core line who kind : Int} (hc : c.wf) (hco : I64 core) (hli : I64 line) (hl : l.length ≤ 9223372036854775807) (k : ROld W 21 v l.length (flat csc l)) (hwf : ∀ x ∈ l, CStep.wf x) :
    FnF Tryz.prog 7 [c.val, .int .i64 core, v, .int .i64 line, .int .i64 who, .int .i64 kind] [Old W] F (fun r L' => r = .bool true ∧ L' = [Old W]) := by
  refine FnF.mk' Tryz.func7 rfl rfl Tryz.ntmps7 rfl ?_
  have hLg := fun F => law14_large (F := F) (c := c)
  by_cases hm : 60 < l.length
  · repeat (first | rintro _ _ ⟨rfl, rfl⟩ | refine exq fun _ => ?_ | intro _ | refine go ?_ | refine drq ?_ | refine cal @law14_awake ?_)
    exact fin0
  · cases hL : largeB c with
    | true =>
      rw [hL] at hLg
      repeat (first | rintro _ _ ⟨rfl, rfl⟩ | refine exq fun _ => ?_ | intro _ | refine go ?_ | refine drq ?_ | refine cal @law14_awake ?_ | refine cal @hLg ?_)
      exact fin0
    | false =>
      rw [hL] at hLg
      by_cases he : checkB c = true ∧ 0 ≤ core ∧ core < c.cores
      · have hN := fun F => ca_New (F := F) hc he
        by_cases hk4 : kind < 4
        · repeat (first | rintro _ _ ⟨rfl, rfl⟩ | refine exq fun _ => ?_ | intro _ | refine go ?_ | refine drq ?_ | refine cal @law14_awake ?_ | refine cal @hLg ?_ | refine cal @hN ?_)
          exact fin0
        · by_cases hk6 : kind > 6
          · repeat (first | rintro _ _ ⟨rfl, rfl⟩ | refine exq fun _ => ?_ | intro _ | refine go ?_ | refine drq ?_ | refine cal @law14_awake ?_ | refine cal @hLg ?_ | refine cal @hN ?_)
            exact fin0
          · repeat (first | rintro _ _ ⟨rfl, rfl⟩ | refine exq fun _ => ?_ | intro _ | refine go ?_ | refine drq ?_ | refine cal @law14_awake ?_ | refine cal @hLg ?_ | refine cal @hN ?_)
            rename_i bx b
            apply WC_loopE (E0 := [(1, _), (3, _), (4, _), (5, _), (6, _), (13, _), (54, _), (55, _)]) (fun E0 (i : Nat) => (56, .int .i64 i) :: E0) (fun i => CaP b c core (stKs c core ⟨List.replicate (c.sets * c.ways).toNat .zero, [], []⟩ (l.take i)) :: Cells bx 24 c.cells :: Old W :: F) (fun i => i ≤ l.length) (fun i => l.length - i) 0
            · (repeat (first | exact Sub.nil | (refine Sub.cons (by first | rfl | (simp only [Nat.zero_add]; rfl)) ?_)))
            · exact Nat.zero_le _
            · simp only [List.take_zero, stKs, List.foldl_nil]; exact entu0
            · intro i hi
              have hI := stKs_inv (core := core) (l := l) (caInv_new c 0 (c.sets * c.ways).toNat) i hi
              by_cases hlt : i < l.length
              · have hx := hwf l[i] (List.getElem_mem hlt)
                have hsu := stKs_succ (c := c) (core := core) (k := ⟨List.replicate (c.sets * c.ways).toNat .zero, [], []⟩) hlt
                generalize stKs c core ⟨List.replicate (c.sets * c.ways).toNat .zero, [], []⟩ (l.take i) = ki at *
                have hD := fun F => law14_do (F := F) (b := b) (core := core) hI (by omega) hx
                repeat (first | rintro _ _ ⟨rfl, rfl⟩ | refine exq fun _ => ?_ | intro _ | refine go ?_ | refine drq ?_ | refine cal @hD ?_)
                refine WE_loop (i + 1) (by omega) hlt ?_ ?_
                · (repeat (first | exact Sub.nil | (refine Sub.cons (by first | rfl | (simp only [Nat.zero_add]; rfl)) ?_)))
                · rw [hsu]; exact entu0
              · have hj := stKs_j (core := core) (l := l) (caInv_new c 0 (c.sets * c.ways).toNat) (j_new c (c.sets * c.ways).toNat) i hi
                generalize stKs c core ⟨List.replicate (c.sets * c.ways).toNat .zero, [], []⟩ (l.take i) = kn at *
                obtain ⟨p1, p2, p3, p4⟩ := ca_pre hI (by omega)
                have hJo := fun F => split_Join (F := F) (w := 0) hc hli (by decide)
                cases hok : okJoin c line 0 with
                | false =>
                  have e0 : joinE c line 0 = 1 := by unfold joinE; rw [hok]; rfl
                  simp only [e0] at hJo
                  repeat (first | rintro _ _ ⟨rfl, rfl⟩ | refine exq fun _ => ?_ | intro _ | refine go ?_ | refine drq ?_ | refine cal @hJo ?_)
                  exact fin0
                | true =>
                  have e0 : joinE c line 0 = 0 := by unfold joinE; rw [hok]; rfl
                  simp only [e0] at hJo
                  obtain ⟨q1, q2, q3, q4, q5, q6⟩ := join_addr hok
                  generalize joinN c line 0 = ad at *
                  have hh := homes_pos he.1
                  have x1 : Op3.wf ⟨1, ad, 0⟩ := ⟨show I64 _ by dsimp only; decide, by unfold I64; dsimp only; omega, show I64 _ by dsimp only; decide⟩
                  have x3 : Op3.wf ⟨3, ad, 0⟩ := ⟨show I64 _ by dsimp only; decide, by unfold I64; dsimp only; omega, show I64 _ by dsimp only; decide⟩
                  have hD1 := fun F => ca_Do (F := F) (b := b) (c := c) (core := core) (k := kn) x1
                  have eK1 : caDoK c kn ⟨1, ad, 0⟩ = kn := if_neg (fun h => h.2 rfl)
                  rw [eK1] at hD1
                  have a1 : apE c ⟨1, ad, 0⟩ = 0 := ap_load q1 q3 q4
                  have a3 : apE c ⟨3, ad, 0⟩ = 0 := ap_swap q1 q3 q4 (by omega)
                  have dE : ∀ k, caDoE c k ⟨1, ad, 0⟩ = if caCan c k line 1 then 0 else 5 := fun k => by
                    unfold caDoE; rw [if_pos a1]; dsimp only; rw [q2]; rfl
                  have dE3 : ∀ k, caDoE c k ⟨3, ad, 0⟩ = if caCan c k line 2 then 0 else 5 := fun k => by
                    unfold caDoE; rw [if_pos a3]; dsimp only; rw [q2]; rfl
                  have hT := fun F => ca_Take (F := F) (b := b) (c := c) (core := core) (k := kn) (m := ⟨kind, line, line.tmod c.homes, core, who, 0, 0, .zero⟩) p1
                  by_cases hg : caTakeE c core kn ⟨kind, line, line.tmod c.homes, core, who, 0, 0, .zero⟩ = 0
                  · have htk : caTakeOk c core ⟨kind, line, line.tmod c.homes, core, who, 0, 0, .zero⟩ = true := by
                      cases q : caTakeOk c core ⟨kind, line, line.tmod c.homes, core, who, 0, 0, .zero⟩ with
                      | true => rfl
                      | false => unfold caTakeE at hg; rw [q] at hg; cases hg
                    simp only [hg] at hT
                    have hD2 := fun F => ca_Do (F := F) (b := b) (c := c) (core := core) (k := caTakeK c core kn ⟨kind, line, line.tmod c.homes, core, who, 0, 0, .zero⟩) x1
                    have eK2 : caDoK c (caTakeK c core kn ⟨kind, line, line.tmod c.homes, core, who, 0, 0, .zero⟩) ⟨1, ad, 0⟩ = caTakeK c core kn ⟨kind, line, line.tmod c.homes, core, who, 0, 0, .zero⟩ := if_neg (fun h => h.2 rfl)
                    rw [eK2] at hD2
                    have hD3 := fun F => ca_Do (F := F) (b := b) (c := c) (core := core) (k := caTakeK c core kn ⟨kind, line, line.tmod c.homes, core, who, 0, 0, .zero⟩) x3
                    have hcase : kind = 4 ∨ kind ≠ 4 ∧ caCan c (caTakeK c core kn ⟨kind, line, line.tmod c.homes, core, who, 0, 0, .zero⟩) line 1 = false := by
                      by_cases k4 : kind = 4
                      · exact .inl k4
                      · refine .inr ⟨k4, ?_⟩
                        unfold caTakeE at hg
                        unfold caTakeK
                        rw [if_pos htk] at hg ⊢
                        by_cases k5 : kind = 5
                        · subst k5
                          simp only [Int.reduceEq, or_true, if_true, if_false] at hg ⊢
                          exact lets_gone5 hI.1 hj hg
                        · have k6 : kind = 6 := by omega
                          subst k6
                          simp only [Int.reduceEq, or_self, if_true, if_false] at hg ⊢
                          rw [if_pos hg]
                          exact lets_gone6 hI.1 hI.2.1 hj hg
                    rcases hcase with k4 | ⟨k4, hcn⟩
                    · subst k4
                      have hg2 : caTellE c kn line = 0 := by
                        unfold caTakeE at hg
                        rw [if_pos htk] at hg
                        simpa using hg
                      have eT : caTakeK c core kn ⟨4, line, line.tmod c.homes, core, who, 0, 0, .zero⟩ = caTellK c kn line 3 false := by
                        unfold caTakeK; rw [if_pos htk]; rfl
                      rw [eT] at hD2 hD3 hT
                      obtain ⟨r1, r2, r3⟩ := lets_kept hI.1 hj hg2
                      have f1 : caDoE c (caTellK c kn line 3 false) ⟨1, ad, 0⟩ = caDoE c kn ⟨1, ad, 0⟩ := by rw [dE, dE, r1]
                      have f3 : caDoE c (caTellK c kn line 3 false) ⟨3, ad, 0⟩ = 5 := by rw [dE3, r2]; rfl
                      have f2 : caDoV c (caTellK c kn line 3 false) ⟨1, ad, 0⟩ = caDoV c kn ⟨1, ad, 0⟩ := by
                        unfold caDoV
                        rw [f1]
                        split
                        · rename_i h0
                          have hcan : caCan c kn line 1 = true := by
                            cases q : caCan c kn line 1 with
                            | true => rfl
                            | false => rw [dE, q] at h0; cases h0
                          dsimp only
                          rw [q2, r3 hcan]
                        · rfl
                      rw [f1, f2] at hD2
                      rw [f3] at hD3
                      generalize caDoE c kn ⟨1, ad, 0⟩ = ex at *
                      generalize caDoV c kn ⟨1, ad, 0⟩ = vx at *
                      repeat (first | rintro _ _ ⟨rfl, rfl⟩ | refine exq fun _ => ?_ | intro _ | refine go ?_ | refine drq ?_ | refine cal @hJo ?_ | refine cal @hD1 ?_ | refine cal @hT ?_ | refine cal @hD2 ?_ | refine cal @hD3 ?_)
                      exact fin0
                    · have f1 : caDoE c (caTakeK c core kn ⟨kind, line, line.tmod c.homes, core, who, 0, 0, .zero⟩) ⟨1, ad, 0⟩ = 5 := by rw [dE, hcn]; rfl
                      rw [f1] at hD2
                      repeat (first | rintro _ _ ⟨rfl, rfl⟩ | refine exq fun _ => ?_ | intro _ | refine go ?_ | refine drq ?_ | refine cal @hJo ?_ | refine cal @hD1 ?_ | refine cal @hT ?_ | refine cal @hD2 ?_)
                      exact fin0
                  · obtain ⟨t1, t2, t3⟩ := take_err hg
                    rw [t1] at hT
                    generalize caDoE c kn ⟨1, ad, 0⟩ = ex at *
                    generalize caDoV c kn ⟨1, ad, 0⟩ = vx at *
                    repeat (first | rintro _ _ ⟨rfl, rfl⟩ | refine exq fun _ => ?_ | intro _ | refine go ?_ | refine drq ?_ | refine cal @hJo ?_ | refine cal @hD1 ?_ | refine cal @hT ?_)
                    exact fin0
      · have hN := fun F => ca_New_no (F := F) hc he
        repeat (first | rintro _ _ ⟨rfl, rfl⟩ | refine exq fun _ => ?_ | intro _ | refine go ?_ | refine drq ?_ | refine cal @law14_awake ?_ | refine cal @hLg ?_ | refine cal @hN ?_)
        exact fin0
end Go.Sx
