/- QuR2, TabR2: several of my texts as one. My own work. -/
import Derived.Test.YtlaohgngdaglmaaGreatZaq
/- What queues do: the document's functions, and all entries held against each other. My own work. -/
namespace Go.Sx
open Go Go.Proofs
set_option linter.unusedVariables false
set_option linter.unusedSectionVars false
set_option linter.unusedSimpArgs false
theorem rd_drop {ps : List QP} {p : QP} (hp : p ∈ ps) (hn : 0 < p.1.sends.length) (hc : p.1.sends.length ≤ p.2.2) (L : List HP) : RdL (All (ps.map qrd) :: L) 15 (cut (qsl p) (Int.toNat 1) p.1.sends.length p.2.2 15) (p.1.sends.drop 1).length (flat mc (p.1.sends.drop 1)) := by
  have k0 := rd_all hp (L := L)
  have k := RdL.cut (l := 1) (h := p.1.sends.length) (m := p.2.2) k0 (by omega) (Nat.le_refl _) hc
  have e : ((flat mc p.1.sends).drop (1 * 15)).take ((p.1.sends.length - 1) * 15) = flat mc (p.1.sends.drop 1) := by
    rw [flat_drop (enc := mc) (n := 15) (fun _ => rfl), flat_take (enc := mc) (n := 15) (fun _ => rfl), List.take_of_length_le (by simp)]
  rw [e] at k
  rw [List.length_drop]; exact k
set_option maxRecDepth 100000
set_option maxHeartbeats 4000000
attribute [local irreducible] Go.Exit.then Go.Exit.inBlock Go.Code.wp WC WO WE WQ V LoopQ FnQ Sat Star band bor IntKind.wrap WR Code.rounds WT KO
theorem dr_QuR2_110 {Q P : Prop} (k : Q) (h : Hid Q → P := by
  intro k
  first
  | (refine is_draw ?_; apply WC_mix (id := 7) .true _ (pl := .p 0 <| .p 1 <| .p 2 <| .p 4 <| .r 3 <| .r 5 <| .p 6 <| .e true [(7, .done)]); exact mixed; kernel_rfl; kernel_rfl; exact Ent.refl; exact k.out)) : P := h ⟨k⟩
theorem ref15_Sent {F : List HP} {b : Nat} {room : Int} {l : List QE} {n : Int} : FnF Tryz.prog 110 [.pointer (some ⟨b, 0, none⟩), .int .i64 n] [QuR b room l] F (fun r L' => r = .int .i64 (qsentE l n) ∧ L' = [QuR b room (qsentL l n)]) := by
  have hH := fun F => ref15_Has (F := F) (b := b) (room := room) (l := l) (n := n)
  cases e : qin l n with
  | false =>
    have e1 : qsentE l n = 5 := by simp [qsentE, e]
    have e2 : qsentL l n = l := by simp [qsentL, e1]
    rw [e1, e2]
    rw [e] at hH
    refine FnF.mk' Tryz.func110 rfl rfl Tryz.ntmps110 rfl ?_
    repeat (first | rintro _ _ ⟨rfl, rfl⟩ | refine exq fun _ => ?_ | intro _ | refine go ?_ | refine dr_QuR2_110 ?_ | refine drq ?_ | refine cal @hH ?_)
    exact fin0
  | true =>
    rw [e] at hH
    obtain ⟨i, hi, rfl, ea⟩ := qin_t e
    by_cases hz : l[i].sends.length = 0
    · have e1 : qsentE l i = 7 := by simp [qsentE, e, ea, hz]
      have e2 : qsentL l i = l := by simp [qsentL, e1]
      rw [e1, e2]
      refine FnF.mk' Tryz.func110 rfl rfl Tryz.ntmps110 rfl ?_
      repeat (first | rintro _ _ ⟨rfl, rfl⟩ | refine exq fun _ => ?_ | intro _ | refine go ?_ | refine cal @hH ?_)
      (first | refine WO_front (QuR b room l) ?_ | refine WC_front (QuR b room l) ?_ | refine WE_front (QuR b room l) ?_)
      refine qu_openO fun p c ps hf => ?_
      obtain ⟨rfl, h1, h2, h3, hcp⟩ := hf
      have hi' : i < ps.length := by simpa using hi
      rw [List.getElem_map] at hz
      repeat (first | rintro _ _ ⟨rfl, rfl⟩ | refine exq fun _ => ?_ | intro _ | refine go ?_ | refine dr_QuR2_110 ?_ | refine drq ?_)
      (apply WE_ret rfl rfl (by (repeat (first | exact ResOk.nil | (apply ResOk.tmp; rfl) | (apply resOk_cell; rfl; exact inferInstance; rfl; rfl)))))
      · exact ⟨rfl, rfl⟩
      · ((repeat (first | (with_reducible exact Ent.refl) | exact Ent.nil | (apply ent_pickE; (focus ((repeat (first | (with_reducible exact pk_here) | (apply pk_there))); done))) | (apply qu_in) | apply Ent.drop)); all_goals (first | rfl | (with_reducible assumption) | (simp; done) | (simp; omega) | omega | (constructor <;> (simp) <;> omega)))
    · have e1 : qsentE l i = 0 := by simp [qsentE, e, ea, hz]
      have e2 : qsentL l i = if l[i].sends.length = 1 ∧ l[i].m.kind = 3 then l.eraseIdx i else l.set i { l[i] with sends := l[i].sends.drop 1 } := by simp [qsentL, e1, ea]
      rw [e1, e2]
      refine FnF.mk' Tryz.func110 rfl rfl Tryz.ntmps110 rfl ?_
      repeat (first | rintro _ _ ⟨rfl, rfl⟩ | refine exq fun _ => ?_ | intro _ | refine go ?_ | refine cal @hH ?_)
      (first | refine WO_front (QuR b room l) ?_ | refine WC_front (QuR b room l) ?_ | refine WE_front (QuR b room l) ?_)
      refine qu_openO fun p c ps hf => ?_
      obtain ⟨rfl, h1, h2, h3, hcp⟩ := hf
      have hi' : i < ps.length := by simpa using hi
      rw [List.getElem_map] at hz ⊢
      have hcx := h3 _ (List.getElem_mem hi')
      haveI kr := fun L => rd_drop (List.getElem_mem hi') (by omega) hcx.1 L
      have hdl : (ps[i].1.sends.drop 1).length = ps[i].1.sends.length - 1 := List.length_drop
      (first | (refine WO_some (.slice p ps.length c) inferInstance (by omega) ?_; intro _) | (refine WC_some (.slice p ps.length c) inferInstance (by omega) ?_; intro _))
      repeat (first | rintro _ _ ⟨rfl, rfl⟩ | refine exq fun _ => ?_ | intro _ | refine go ?_ | refine dr_QuR2_110 ?_ | refine drq ?_)
      refine WO_v (v_slice rfl (Bnd.some rfl (by omega)) Bnd.none Bnd.none (fun h => nomatch h) (by omega) (by omega) (by omega)) rfl ?_
      repeat (first | rintro _ _ ⟨rfl, rfl⟩ | refine exq fun _ => ?_ | intro _ | refine go ?_ | refine dr_QuR2_110 ?_ | refine drq ?_)
      simp only [Nat.zero_add, List.nil_append]
      rename_i be bn p' c'
      generalize hS : ps[i].1.sends.drop 1 = S at hdl kr ⊢
      (first | refine WO_front (Own 38 15 (.slice p' S.length c') S.length (flat mc S)) ?_ | refine WC_front (Own 38 15 (.slice p' S.length c') S.length (flat mc S)) ?_ | refine WE_front (Own 38 15 (.slice p' S.length c') S.length (flat mc S)) ?_)
      refine WO_owncap fun hc' => ?_
      have hset := fun L M => @all_set ps i hi' ((⟨ps[i].1.m, ps[i].1.st, S⟩ : QE), (p', c')) 38 L M
      refine WO_ent (L' := QuR b room ((ps.map (·.1)).set i ⟨ps[i].1.m, ps[i].1.st, S⟩) :: Cells be 216 (qc ((⟨ps[i].1.m, ps[i].1.st, S⟩ : QE), (p', c'))) :: F) ?_ ?_
      · apply qu_in (ps := ps.set i ((⟨ps[i].1.m, ps[i].1.st, S⟩ : QE), (p', c')))
        · ((repeat (first | (with_reducible exact Ent.refl) | exact Ent.nil | (apply ent_pickE; (focus ((repeat (first | (with_reducible exact pk_here) | (apply pk_there))); done))) | (apply hset) | apply Ent.drop)); all_goals (first | rfl | (with_reducible assumption) | (simp; done) | (simp; omega) | omega | (constructor <;> (simp) <;> omega)))
        · rw [qset_map]
        · simp
        · exact splice_flatJ0 (enc := qc) (n := 17) (fun _ => rfl) ps i hi' (by simp) rfl
        · simpa using h1
        · exact h2
        · exact qcap_set h3 ⟨hc', by show S.length ≤ 1000; omega⟩
      by_cases hd : ps[i].1.sends.length = 1 ∧ ps[i].1.m.kind = 3
      · obtain ⟨hd1, hd2⟩ := hd
        rw [if_pos (show ps[i].1.sends.length = 1 ∧ ps[i].1.m.kind = 3 from ⟨hd1, hd2⟩)]
        have hO := fun F => ref15_out (F := F) (b := b) (room := room) (l := (ps.map (·.1)).set i ⟨ps[i].1.m, ps[i].1.st, S⟩) (k := i) (by simpa using hi)
        repeat (first | rintro _ _ ⟨rfl, rfl⟩ | refine exq fun _ => ?_ | intro _ | refine go ?_ | refine dr_QuR2_110 ?_ | refine drq ?_ | refine cal @hO ?_)
        rw [List.eraseIdx_set_eq]
        exact fin0
      · rw [if_neg hd]
        by_cases hd1 : ps[i].1.sends.length = 1
        · have hk3 : ps[i].1.m.kind ≠ 3 := fun h => hd ⟨hd1, h⟩
          repeat (first | rintro _ _ ⟨rfl, rfl⟩ | refine exq fun _ => ?_ | intro _ | refine go ?_ | refine dr_QuR2_110 ?_ | refine drq ?_)
          exact fin0
        · repeat (first | rintro _ _ ⟨rfl, rfl⟩ | refine exq fun _ => ?_ | intro _ | refine go ?_ | refine dr_QuR2_110 ?_ | refine drq ?_)
          exact fin0

theorem ref15_Finish {F : List HP} {b : Nat} {room : Int} {l : List QE} {line src : Int} : FnF Tryz.prog 111 [.pointer (some ⟨b, 0, none⟩), .int .i64 line, .int .i64 src] [QuR b room l] F (fun r L' => r = .int .i64 (qfinE l line src) ∧ L' = [QuR b room (qfinL l line src)]) := by
  refine FnF.mk' Tryz.func111 rfl rfl Tryz.ntmps111 rfl ?_
  repeat (first | rintro _ _ ⟨rfl, rfl⟩ | refine exq fun _ => ?_ | intro _ | refine go ?_ | refine drq ?_)
  apply WC_loopE (E0 := [(0, _), (1, _), (2, _)]) (fun E0 (j : Nat) => (7, .int .i64 j) :: E0) (fun _ => QuR b room l :: F) (fun j => j ≤ l.length ∧ ∀ k (hk : k < l.length), k < j → qgone line src l[k] = false) (fun j => l.length - j) 0
  · (repeat (first | exact Sub.nil | (refine Sub.cons (by first | rfl | (simp only [Nat.zero_add]; rfl)) ?_)))
  · exact ⟨Nat.zero_le _, fun k hk h => by omega⟩
  · exact entu0
  · rintro j ⟨hj, hall⟩
    refine qu_open fun p c ps hf => ?_
    obtain ⟨rfl, h1, h2, h3, hcp⟩ := hf
    by_cases hlt : j < (ps.map (·.1)).length
    · have hlt' : j < ps.length := by simpa using hlt
      have hg : (ps.map (·.1))[j] = ps[j].1 := by simp
      have next : qgone line src ps[j].1 = false → j + 1 ≤ (ps.map (·.1)).length ∧ ∀ k (hk : k < (ps.map (·.1)).length), k < j + 1 → qgone line src (ps.map (·.1))[k] = false := fun hf => ⟨hlt, fun k hk h => by
        by_cases e : k = j
        · subst e; rw [hg]; exact hf
        · exact hall k hk (by omega)⟩
      cases g1 : ps[j].1.st with
      | false =>
        repeat (first | rintro _ _ ⟨rfl, rfl⟩ | refine exq fun _ => ?_ | intro _ | refine go ?_ | refine drq ?_)
        refine WE_loop (j + 1) (by omega) (next (by simp [qgone, g1])) ?_ ?_
        · (repeat (first | exact Sub.nil | (refine Sub.cons (by first | rfl | (simp only [Nat.zero_add]; rfl)) ?_)))
        · ((repeat (first | (with_reducible exact Ent.refl) | exact Ent.nil | (apply ent_pickE; (focus ((repeat (first | (with_reducible exact pk_here) | (apply pk_there))); done))) | (apply qu_in) | apply Ent.drop)); all_goals (first | rfl | (with_reducible assumption) | (simp; done) | (simp; omega) | omega | (constructor <;> (simp) <;> omega)))
      | true =>
        by_cases g4 : ps[j].1.m.kind = 3
        · repeat (first | rintro _ _ ⟨rfl, rfl⟩ | refine exq fun _ => ?_ | intro _ | refine go ?_ | refine drq ?_)
          refine WE_loop (j + 1) (by omega) (next (by simp [qgone, g4])) ?_ ?_
          · (repeat (first | exact Sub.nil | (refine Sub.cons (by first | rfl | (simp only [Nat.zero_add]; rfl)) ?_)))
          · ((repeat (first | (with_reducible exact Ent.refl) | exact Ent.nil | (apply ent_pickE; (focus ((repeat (first | (with_reducible exact pk_here) | (apply pk_there))); done))) | (apply qu_in) | apply Ent.drop)); all_goals (first | rfl | (with_reducible assumption) | (simp; done) | (simp; omega) | omega | (constructor <;> (simp) <;> omega)))
        · by_cases g5 : ps[j].1.sends.length = 0
          · by_cases g2 : ps[j].1.m.line = line
            · by_cases g3 : ps[j].1.m.src = src
              · have hi : indexBy (qgone line src) (ps.map (·.1)) = j := indexBy_at hlt (fun k hk h => hall k hk h) (by rw [hg]; simp [qgone, g1, g2, g3, g4, g5])
                have hO := fun F => ref15_out (F := F) (b := b) (room := room) (l := ps.map (·.1)) (k := j) hlt
                have e1 : qfinE (ps.map (·.1)) line src = 0 := by simp [qfinE, hi]
                have e2 : qfinL (ps.map (·.1)) line src = (ps.map (·.1)).eraseIdx j := by simp [qfinL, hi]; intro h; omega
                rw [e1, e2]
                repeat (first | rintro _ _ ⟨rfl, rfl⟩ | refine exq fun _ => ?_ | intro _ | refine go ?_ | refine drq ?_)
                refine WO_ent (L' := QuR b room (ps.map (·.1)) :: F) ?_ ?_
                · ((repeat (first | (with_reducible exact Ent.refl) | exact Ent.nil | (apply ent_pickE; (focus ((repeat (first | (with_reducible exact pk_here) | (apply pk_there))); done))) | (apply qu_in) | apply Ent.drop)); all_goals (first | rfl | (with_reducible assumption) | (simp; done) | (simp; omega) | omega | (constructor <;> (simp) <;> omega)))
                repeat (first | rintro _ _ ⟨rfl, rfl⟩ | refine exq fun _ => ?_ | intro _ | refine go ?_ | refine drq ?_ | refine cal @hO ?_)
                exact fin0
              · repeat (first | rintro _ _ ⟨rfl, rfl⟩ | refine exq fun _ => ?_ | intro _ | refine go ?_ | refine drq ?_)
                refine WE_loop (j + 1) (by omega) (next (by simp [qgone, g3])) ?_ ?_
                · (repeat (first | exact Sub.nil | (refine Sub.cons (by first | rfl | (simp only [Nat.zero_add]; rfl)) ?_)))
                · ((repeat (first | (with_reducible exact Ent.refl) | exact Ent.nil | (apply ent_pickE; (focus ((repeat (first | (with_reducible exact pk_here) | (apply pk_there))); done))) | (apply qu_in) | apply Ent.drop)); all_goals (first | rfl | (with_reducible assumption) | (simp; done) | (simp; omega) | omega | (constructor <;> (simp) <;> omega)))
            · repeat (first | rintro _ _ ⟨rfl, rfl⟩ | refine exq fun _ => ?_ | intro _ | refine go ?_ | refine drq ?_)
              refine WE_loop (j + 1) (by omega) (next (by simp [qgone, g2])) ?_ ?_
              · (repeat (first | exact Sub.nil | (refine Sub.cons (by first | rfl | (simp only [Nat.zero_add]; rfl)) ?_)))
              · ((repeat (first | (with_reducible exact Ent.refl) | exact Ent.nil | (apply ent_pickE; (focus ((repeat (first | (with_reducible exact pk_here) | (apply pk_there))); done))) | (apply qu_in) | apply Ent.drop)); all_goals (first | rfl | (with_reducible assumption) | (simp; done) | (simp; omega) | omega | (constructor <;> (simp) <;> omega)))
          · repeat (first | rintro _ _ ⟨rfl, rfl⟩ | refine exq fun _ => ?_ | intro _ | refine go ?_ | refine drq ?_)
            refine WE_loop (j + 1) (by omega) (next (by simp [qgone, g5])) ?_ ?_
            · (repeat (first | exact Sub.nil | (refine Sub.cons (by first | rfl | (simp only [Nat.zero_add]; rfl)) ?_)))
            · ((repeat (first | (with_reducible exact Ent.refl) | exact Ent.nil | (apply ent_pickE; (focus ((repeat (first | (with_reducible exact pk_here) | (apply pk_there))); done))) | (apply qu_in) | apply Ent.drop)); all_goals (first | rfl | (with_reducible assumption) | (simp; done) | (simp; omega) | omega | (constructor <;> (simp) <;> omega)))
    · have hlt' : ¬ j < ps.length := by simpa using hlt
      have hi : indexBy (qgone line src) (ps.map (·.1)) = -1 := indexBy_none fun k hk h => hall k hk (by omega)
      have e1 : qfinE (ps.map (·.1)) line src = 7 := by simp [qfinE, hi]
      have e2 : qfinL (ps.map (·.1)) line src = ps.map (·.1) := by simp [qfinL, hi]
      rw [e1, e2]
      repeat (first | rintro _ _ ⟨rfl, rfl⟩ | refine exq fun _ => ?_ | intro _ | refine go ?_ | refine drq ?_)
      (apply WE_ret rfl rfl (by (repeat (first | exact ResOk.nil | (apply ResOk.tmp; rfl) | (apply resOk_cell; rfl; exact inferInstance; rfl; rfl)))))
      · exact ⟨rfl, rfl⟩
      · ((repeat (first | (with_reducible exact Ent.refl) | exact Ent.nil | (apply ent_pickE; (focus ((repeat (first | (with_reducible exact pk_here) | (apply pk_there))); done))) | (apply qu_in) | apply Ent.drop)); all_goals (first | rfl | (with_reducible assumption) | (simp; done) | (simp; omega) | omega | (constructor <;> (simp) <;> omega)))

theorem dr_QuR2_36 {Q P : Prop} (k : Q) (h : Hid Q → P := by
  intro k
  first
  | (refine is_draw ?_; apply WC_mix (id := 6) .true _ (pl := .p 0 <| .p 1 <| .p 2 <| .p 4 <| .p 5 <| .p 6 <| .r 3 <| .r 7 <| .e true [(8, .p 9 <| .done)]); exact mixed; kernel_rfl; kernel_rfl; exact Ent.refl; exact k.out)) : P := h ⟨k⟩
theorem ref15_Same {F : List HP} {v u : Value} {ps qs : List QP} (k1 : RdL F 17 v ps.length (flat qc ps)) (k2 : RdL F 17 u qs.length (flat qc qs))
    (r1 : RdAll F ps) (hb : ∀ p ∈ ps, p.1.sends.length ≤ 1000) (r2 : RdAll F qs) (hn : ps.length ≤ 1099511627776) :
    FnF Tryz.prog 36 [v, u] [] F (fun r L' => r = .bool (decide (ps.map (·.1) = qs.map (·.1))) ∧ L' = []) := by
  refine FnF.mk' Tryz.func36 rfl rfl Tryz.ntmps36 rfl ?_
  by_cases e : ps.length = qs.length
  · repeat (first | rintro _ _ ⟨rfl, rfl⟩ | refine exq fun _ => ?_ | intro _ | refine go ?_ | refine dr_QuR2_36 ?_ | refine drq ?_)
    apply WC_loopE (E0 := [(0, _), (1, _)]) (fun E0 (i : Nat) => (5, .int .i64 i) :: E0) (fun _ => F) (fun i => i ≤ ps.length ∧ (ps.take i).map (·.1) = (qs.take i).map (·.1)) (fun i => ps.length - i) 0
    · (repeat (first | exact Sub.nil | (refine Sub.cons (by first | rfl | (simp only [Nat.zero_add]; rfl)) ?_)))
    · exact ⟨by omega, rfl⟩
    · exact Ent.refl
    · rintro i ⟨hi, h1⟩
      by_cases hlt : i < ps.length
      · have hlt' : i < qs.length := by omega
        have a1 := r1.pf _ (List.getElem_mem hlt)
        have a2 := r2.pf _ (List.getElem_mem hlt')
        have a3 := hb _ (List.getElem_mem hlt)
        have hO := ref15_One (F := F) (p := ps[i]) (q := qs[i]) a1 a2 (by omega)
        have g1 : 0 < ps.length := by omega
        have g2 : 0 < qs.length := by omega
        (first | (refine WO_some (v) inferInstance (by omega) ?_; intro _) | (refine WC_some (v) inferInstance (by omega) ?_; intro _))
        (first | (refine WO_some (u) inferInstance (by omega) ?_; intro _) | (refine WC_some (u) inferInstance (by omega) ?_; intro _))
        by_cases he : ps[i].1 = qs[i].1
        · simp only [he, decide_true] at hO
          repeat (first | rintro _ _ ⟨rfl, rfl⟩ | refine exq fun _ => ?_ | intro _ | refine go ?_ | refine dr_QuR2_36 ?_ | refine drq ?_ | refine cal @hO ?_)
          refine WE_loop (i + 1) (by omega) ⟨by omega, ?_⟩ ?_ Ent.refl
          · rw [List.take_add_one, List.take_add_one, List.map_append, List.map_append, h1]; simp [hlt, hlt', he]
          · (repeat (first | exact Sub.nil | (refine Sub.cons (by first | rfl | (simp only [Nat.zero_add]; rfl)) ?_)))
        · simp only [he, decide_false] at hO
          repeat (first | rintro _ _ ⟨rfl, rfl⟩ | refine exq fun _ => ?_ | intro _ | refine go ?_ | refine dr_QuR2_36 ?_ | refine drq ?_ | refine cal @hO ?_)
          have hne : ¬ (ps.map (·.1) = qs.map (·.1)) := fun h => he (by
            have h2 := congrArg (fun l => l[i]?) h
            simpa [hlt, hlt'] using h2)
          (apply WE_ret rfl rfl (by (repeat (first | exact ResOk.nil | (apply ResOk.tmp; rfl) | (apply resOk_cell; rfl; exact inferInstance; rfl; rfl)))); (first | exact ⟨rfl, rfl⟩ | exact ⟨congrArg Value.bool (by decide), rfl⟩ | exact ⟨_, rfl, rfl⟩ | exact ⟨_, _, rfl, rfl⟩ | exact ⟨by first | (simp [hne]; done) | (simp [hne] <;> omega), rfl⟩); (repeat (first | exact Ent.refl | exact Ent.nil | apply Ent.pick | apply Ent.drop)))
      · have hil : i = ps.length := by omega
        subst hil
        have : ps.map (·.1) = qs.map (·.1) := by rw [List.take_length, e, List.take_length] at h1; exact h1
        repeat (first | rintro _ _ ⟨rfl, rfl⟩ | refine exq fun _ => ?_ | intro _ | refine go ?_ | refine dr_QuR2_36 ?_ | refine drq ?_)
        (apply WE_ret rfl rfl (by (repeat (first | exact ResOk.nil | (apply ResOk.tmp; rfl) | (apply resOk_cell; rfl; exact inferInstance; rfl; rfl)))); (first | exact ⟨rfl, rfl⟩ | exact ⟨congrArg Value.bool (by decide), rfl⟩ | exact ⟨_, rfl, rfl⟩ | exact ⟨_, _, rfl, rfl⟩ | exact ⟨by first | (simp [this]; done) | (simp [this] <;> omega), rfl⟩); (repeat (first | exact Ent.refl | exact Ent.nil | apply Ent.pick | apply Ent.drop)))
  · have hne : ¬ (ps.map (·.1) = qs.map (·.1)) := fun h => e (by have := congrArg List.length h; simpa using this)
    repeat (first | rintro _ _ ⟨rfl, rfl⟩ | refine exq fun _ => ?_ | intro _ | refine go ?_ | refine dr_QuR2_36 ?_ | refine drq ?_)
    (apply WE_ret rfl rfl (by (repeat (first | exact ResOk.nil | (apply ResOk.tmp; rfl) | (apply resOk_cell; rfl; exact inferInstance; rfl; rfl)))); (first | exact ⟨rfl, rfl⟩ | exact ⟨congrArg Value.bool (by decide), rfl⟩ | exact ⟨_, rfl, rfl⟩ | exact ⟨_, _, rfl, rfl⟩ | exact ⟨by first | (simp [hne]; done) | (simp [hne] <;> omega), rfl⟩); (repeat (first | exact Ent.refl | exact Ent.nil | apply Ent.pick | apply Ent.drop)))

/-! ## Told of an open queue -/
abbrev RQ (b : Nat) (room : Int) (p : Option Addr) (c n : Nat) : HP := Cells b 120 [.int .i64 room, .slice p n c]
abbrev ROw (p : Option Addr) (c : Nat) (ps : List QP) : HP := Own 216 17 (.slice p ps.length c) ps.length (flat qc ps)
theorem ref15_HasO {F : List HP} {b : Nat} {room : Int} {p : Option Addr} {c : Nat} {ps : List QP} {n : Int} : FnF Tryz.prog 103 [.pointer (some ⟨b, 0, none⟩), .int .i64 n] [RQ b room p c ps.length] F (fun r L' => r = .bool (qin (ps.map (·.1)) n) ∧ L' = [RQ b room p c ps.length]) := by
  refine FnF.mk' Tryz.func103 rfl rfl Tryz.ntmps103 rfl ?_
  by_cases h : 0 ≤ n
  · repeat (first | rintro _ _ ⟨rfl, rfl⟩ | refine exq fun _ => ?_ | intro _ | refine go ?_ | refine drq ?_)
    (apply WE_ret rfl rfl (by (repeat (first | exact ResOk.nil | (apply ResOk.tmp; rfl) | (apply resOk_cell; rfl; exact inferInstance; rfl; rfl)))))
    · exact ⟨by simp [qin, h], rfl⟩
    · exact entu0
  · repeat (first | rintro _ _ ⟨rfl, rfl⟩ | refine exq fun _ => ?_ | intro _ | refine go ?_ | refine drq ?_)
    (apply WE_ret rfl rfl (by (repeat (first | exact ResOk.nil | (apply ResOk.tmp; rfl) | (apply resOk_cell; rfl; exact inferInstance; rfl; rfl)))))
    · exact ⟨by simp [qin, h], rfl⟩
    · exact entu0
theorem ref15_ReadyO {F : List HP} {b : Nat} {room : Int} {p : Option Addr} {c : Nat} {ps : List QP} {n : Int} (hn : ps.length ≤ 1000) : FnF Tryz.prog 104 [.pointer (some ⟨b, 0, none⟩), .int .i64 n] [RQ b room p c ps.length, ROw p c ps] F (fun r L' => r = .bool (qready (ps.map (·.1)) n) ∧ L' = [RQ b room p c ps.length, ROw p c ps]) := by
  have hH := fun F => ref15_HasO (F := F) (b := b) (room := room) (p := p) (c := c) (ps := ps) (n := n)
  cases e : qin (ps.map (·.1)) n with
  | false =>
    rw [e] at hH
    refine FnF.mk' Tryz.func104 rfl rfl Tryz.ntmps104 rfl ?_
    repeat (first | rintro _ _ ⟨rfl, rfl⟩ | refine exq fun _ => ?_ | intro _ | refine go ?_ | refine drq ?_ | refine cal @hH ?_)
    (apply WE_ret rfl rfl (by (repeat (first | exact ResOk.nil | (apply ResOk.tmp; rfl) | (apply resOk_cell; rfl; exact inferInstance; rfl; rfl)))))
    · exact ⟨by simp [qready, e], rfl⟩
    · exact entu0
  | true =>
    rw [e] at hH
    obtain ⟨i, hi, rfl, ea⟩ := qin_t e
    have hi' : i < ps.length := by simpa using hi
    have hst : (ps.map (·.1))[i] = ps[i].1 := by simp
    rw [hst] at ea
    refine FnF.mk' Tryz.func104 rfl rfl Tryz.ntmps104 rfl ?_
    cases es : ps[i].1.st with
    | true =>
      repeat (first | rintro _ _ ⟨rfl, rfl⟩ | refine exq fun _ => ?_ | intro _ | refine go ?_ | refine drq ?_ | refine cal @hH ?_)
      (apply WE_ret rfl rfl (by (repeat (first | exact ResOk.nil | (apply ResOk.tmp; rfl) | (apply resOk_cell; rfl; exact inferInstance; rfl; rfl)))))
      · exact ⟨by simp [qready, ea, es], rfl⟩
      · exact entu0
    | false =>
      repeat (first | rintro _ _ ⟨rfl, rfl⟩ | refine exq fun _ => ?_ | intro _ | refine go ?_ | refine drq ?_ | refine cal @hH ?_)
      apply WC_loopE (E0 := [(0, _), (1, _)]) (fun E0 (j : Nat) => (5, .int .i64 j) :: E0) (fun _ => RQ b room p c ps.length :: ROw p c ps :: F) (fun j => j ≤ i ∧ ∀ k (hk : k < ps.length), k < j → ps[k].1.m.line ≠ ps[i].1.m.line) (fun j => i - j) 0
      · (repeat (first | exact Sub.nil | (refine Sub.cons (by first | rfl | (simp only [Nat.zero_add]; rfl)) ?_)))
      · exact ⟨Nat.zero_le _, fun k hk h => by omega⟩
      · exact entu0
      · rintro j ⟨hj, hall⟩
        by_cases hlt : j < i
        · have hjl : j < ps.length := by omega
          by_cases hl : ps[j].1.m.line = ps[i].1.m.line
          · have hr : qready (ps.map (·.1)) i = false := by
              have : qfree (ps.map (·.1)) i ps[i].1.m.line = false := by
                simp only [qfree, ← List.map_take, List.all_map, List.all_eq_false]
                exact ⟨ps[j], List.mem_iff_getElem.2 ⟨j, by simp; omega, by simp⟩, by simpa using hl⟩
              simp [qready, ea, this]
            repeat (first | rintro _ _ ⟨rfl, rfl⟩ | refine exq fun _ => ?_ | intro _ | refine go ?_ | refine drq ?_)
            (apply WE_ret rfl rfl (by (repeat (first | exact ResOk.nil | (apply ResOk.tmp; rfl) | (apply resOk_cell; rfl; exact inferInstance; rfl; rfl)))))
            · exact ⟨by rw [hr]; rfl, rfl⟩
            · exact entu0
          · repeat (first | rintro _ _ ⟨rfl, rfl⟩ | refine exq fun _ => ?_ | intro _ | refine go ?_ | refine drq ?_)
            refine WE_loop (j + 1) (by omega) ⟨by omega, fun k hk h => ?_⟩ ?_ ?_
            · by_cases e : k = j
              · subst e; exact hl
              · exact hall k hk (by omega)
            · (repeat (first | exact Sub.nil | (refine Sub.cons (by first | rfl | (simp only [Nat.zero_add]; rfl)) ?_)))
            · exact entu0
        · have hr : qready (ps.map (·.1)) i = true := by
            have : qfree (ps.map (·.1)) i ps[i].1.m.line = true := by
              simp only [qfree, ← List.map_take, List.all_map, List.all_eq_true]
              intro x hx
              obtain ⟨k, hk, rfl⟩ := List.getElem_of_mem hx
              rw [List.length_take] at hk
              have := hall k (by omega) (by omega)
              simpa using this
            simp [qready, ea, this, e, es]
          repeat (first | rintro _ _ ⟨rfl, rfl⟩ | refine exq fun _ => ?_ | intro _ | refine go ?_ | refine drq ?_)
          (apply WE_ret rfl rfl (by (repeat (first | exact ResOk.nil | (apply ResOk.tmp; rfl) | (apply resOk_cell; rfl; exact inferInstance; rfl; rfl)))))
          · exact ⟨by rw [hr]; rfl, rfl⟩
          · exact entu0
end Go.Sx

/- The document's table: writes. My own work. -/
namespace Go.Sx
open Go Go.Proofs
set_option linter.unusedVariables false
set_option linter.unusedSectionVars false
set_option linter.unusedSimpArgs false
theorem FnF.drop {P : Program} {f : FuncId} {vs : List Value} {pre F : List HP} {post post' : Value → List HP → Prop} (C : FnF P f vs pre F post) (h : ∀ v L', post v L' → post' v []) : FnF P f vs pre F post' :=
  ⟨C.enters, fun w hw => (C.runs w hw).mono fun e w' ⟨v, L', he, hp, hs⟩ => ⟨v, [], he, h v L' hp, sat_app_right hs⟩⟩
set_option maxRecDepth 100000
set_option maxHeartbeats 4000000
attribute [local irreducible] Go.Exit.then Go.Exit.inBlock Go.Code.wp WC WO WE WQ V LoopQ FnQ Sat Star band bor IntKind.wrap WR Code.rounds WT KO
theorem dr_TabR2_105s {Q P : Prop} (k : Q) (h : Hid Q → P := by
  intro k
  first
  | (refine is_draw ?_; apply WC_mix (id := 10) .true _ (pl := .p 0 <| .p 5 <| .p 7 <| .r 4 <| .r 6 <| .r 8 <| .e true [(1, .e true [(2, .p 3 <| .e true [(9, .e false [(10, .p 11 <| .e false [(12, .p 13 <| .done)])])]), (9, .e false [(2, .p 3 <| .e false [(10, .p 11 <| .e false [(12, .p 13 <| .done)])]), (10, .e false [(2, .p 3 <| .p 11 <| .e false [(12, .p 13 <| .done)])])])]), (2, .e true [(1, .p 3 <| .e true [(9, .e false [(10, .p 11 <| .e false [(12, .p 13 <| .done)])])]), (9, .e false [(1, .p 3 <| .e false [(10, .p 11 <| .e false [(12, .p 13 <| .done)])]), (10, .e false [(1, .p 3 <| .p 11 <| .e false [(12, .p 13 <| .done)])])])]), (9, .e false [(1, .e false [(2, .p 3 <| .e false [(10, .p 11 <| .e false [(12, .p 13 <| .done)])]), (10, .e false [(2, .p 3 <| .p 11 <| .e false [(12, .p 13 <| .done)])])]), (2, .e false [(1, .p 3 <| .e false [(10, .p 11 <| .e false [(12, .p 13 <| .done)])]), (10, .e false [(1, .p 3 <| .p 11 <| .e false [(12, .p 13 <| .done)])])]), (10, .e false [(1, .e false [(2, .p 3 <| .p 11 <| .e false [(12, .p 13 <| .done)])]), (2, .e false [(1, .p 3 <| .p 11 <| .e false [(12, .p 13 <| .done)])])])])]); exact mixed; kernel_rfl; kernel_rfl; exact Ent.refl; exact k.out)
  | (refine is_draw ?_; apply WC_mix (id := 12) .true _ (pl := .p 0 <| .p 4 <| .r 3 <| .r 5 <| .e true [(1, .p 2 <| .e true [(6, .e false [(7, .p 8 <| .e false [(9, .p 10 <| .done)])])]), (6, .e false [(1, .p 2 <| .e false [(7, .p 8 <| .e false [(9, .p 10 <| .done)])]), (7, .e false [(1, .p 2 <| .p 8 <| .e false [(9, .p 10 <| .done)])])])]); exact mixed; kernel_rfl; kernel_rfl; exact Ent.refl; exact k.out)
  | (refine is_draw ?_; apply WC_mix (id := 14) .true _ (pl := .p 3 <| .r 2 <| .r 4 <| .e true [(0, .p 1 <| .e true [(5, .e false [(6, .p 7 <| .e false [(8, .p 9 <| .done)])])]), (5, .e false [(0, .p 1 <| .e false [(6, .p 7 <| .e false [(8, .p 9 <| .done)])]), (6, .e false [(0, .p 1 <| .p 7 <| .e false [(8, .p 9 <| .done)])])])]); exact mixed; kernel_rfl; kernel_rfl; exact Ent.refl; exact k.out)
  | (refine is_draw ?_; apply WC_mix (id := 16) .true _ (pl := .p 2 <| .r 1 <| .r 3 <| .e true [(0, .e true [(4, .e false [(5, .p 6 <| .e false [(7, .e false [(8, .done)])]), (7, .e false [(5, .p 6 <| .e false [(8, .done)])])]), (7, .e true [(4, .e false [(5, .p 6 <| .e false [(8, .done)])])])]), (4, .e false [(0, .e false [(5, .p 6 <| .e false [(7, .e false [(8, .done)])]), (7, .e false [(5, .p 6 <| .e false [(8, .done)])])]), (5, .e false [(0, .p 6 <| .e false [(7, .e false [(8, .done)])]), (7, .e false [(0, .p 6 <| .e false [(8, .done)])])]), (7, .e false [(0, .e false [(5, .p 6 <| .e false [(8, .done)])]), (5, .e false [(0, .p 6 <| .e false [(8, .done)])])])]), (7, .e true [(0, .e true [(4, .e false [(5, .p 6 <| .e false [(8, .done)])])]), (4, .e false [(0, .e false [(5, .p 6 <| .e false [(8, .done)])]), (5, .e false [(0, .p 6 <| .e false [(8, .done)])])])])]); exact mixed; kernel_rfl; kernel_rfl; exact Ent.refl; exact k.out)
  | (refine is_draw ?_; apply WC_mix (id := 25) .true _ (pl := .p 0 <| .p 3 <| .p 4 <| .r 2 <| .r 5 <| .e true [(1, .e true [(6, .e false [(7, .e false [(8, .p 9 <| .e false [(10, .done)])])])]), (6, .e false [(1, .e false [(7, .e false [(8, .p 9 <| .e false [(10, .done)])])]), (7, .e false [(1, .e false [(8, .p 9 <| .e false [(10, .done)])])])])]); exact mixed; kernel_rfl; kernel_rfl; exact Ent.refl; exact k.out)
  | (refine is_draw ?_; apply WC_mix (id := 27) .true _ (pl := .p 0 <| .p 3 <| .p 4 <| .r 2 <| .r 5 <| .e true [(1, .e true [(6, .e false [(7, .e false [(8, .p 9 <| .e false [(10, .done)])])])]), (6, .e false [(1, .e false [(7, .e false [(8, .p 9 <| .e false [(10, .done)])])]), (7, .e false [(1, .e false [(8, .p 9 <| .e false [(10, .done)])])])])]); exact mixed; kernel_rfl; kernel_rfl; exact Ent.refl; exact k.out)
  | (refine is_draw ?_; apply WC_mix (id := 28) .true _ (pl := .p 0 <| .p 3 <| .p 5 <| .p 6 <| .r 2 <| .r 4 <| .r 7 <| .e true [(1, .e true [(8, .e false [(9, .e false [(10, .p 11 <| .e false [(12, .done)])])])]), (8, .e false [(1, .e false [(9, .e false [(10, .p 11 <| .e false [(12, .done)])])]), (9, .e false [(1, .e false [(10, .p 11 <| .e false [(12, .done)])])])])]); exact mixed; kernel_rfl; kernel_rfl; exact Ent.refl; exact k.out)
  | (refine is_draw ?_; apply WC_mix (id := 32) .true _ (pl := .p 0 <| .p 3 <| .p 4 <| .p 5 <| .p 7 <| .r 2 <| .r 6 <| .r 8 <| .e true [(1, .e true [(9, .e false [(10, .e false [(11, .p 12 <| .e false [(13, .done)])])])]), (9, .e false [(1, .e false [(10, .e false [(11, .p 12 <| .e false [(13, .done)])])]), (10, .e false [(1, .e false [(11, .p 12 <| .e false [(13, .done)])])])])]); exact mixed; kernel_rfl; kernel_rfl; exact Ent.refl; exact k.out)) : P := h ⟨k⟩
theorem ref13_Next_write {F : List HP} {e : TEnt} {a : Option Addr} {k : Nat} {m : Msg} {w : Words} (hk : RdL F 1 (.slice a e.s.ps.length k) e.s.ps.length (flat ic e.s.ps)) (hok : okT e m = true) (hkd : m.kind = 2) :
    FnF Tryz.prog 105 [.agg (tec e a k).toArray, mv m, wv w] [] F (fun r L' => ∃ p c, r = .tuple [.agg (tuc (nextT e m) none 0 p (nextS e m w).length c false).toArray, .int .i64 0].toArray ∧
      L' = [Own 38 15 (.slice p (nextS e m w).length c) (nextS e m w).length (flat mc (nextS e m w))]) := by
  obtain ⟨hm, h2, h3, h4, h5⟩ := okT_facts hok
  have hmay : mayT e = true := mayT_mk hm h2 h3
  have hn := (may_facts' hm).2.2
  have h0 := okT_kinds hok (.inl hkd)
  have hM := fun F (hk : RdL F 1 (.slice a e.s.ps.length k) e.s.ps.length (flat ic e.s.ps)) => ref13_May (F := F) hk (by omega)
  simp only [hmay] at hM
  have hA : ∀ F (hk : RdL F 1 (.slice a e.s.ps.length k) e.s.ps.length (flat ic e.s.ps)), FnF Tryz.prog 179 [scw e.s a k, .int .i64 m.src] [] F (fun r L' => ∃ s a' k' n, r = .tuple [scw s a' k', .int .i64 n].toArray ∧ L' = []) := fun F hk => by
    cases hh : shHas e.s m.src with
    | true => exact (ref08_Add_has (F := F) (x := m.src) hk hm h4 h5 hh).drop fun v L' ⟨hv, _⟩ => ⟨_, _, _, _, hv, rfl⟩
    | false => exact (ref08_Add (F := F) (x := m.src) hk (by omega) (fun h => by rw [hh] at h; cases h)).drop fun v L' ⟨a', k', hv, _⟩ => ⟨_, _, _, _, hv, rfl⟩
  have e1 : nextT e m = ⟨m.src, clearS e.s⟩ := by unfold nextT; rw [if_pos h0, if_neg (by omega), if_pos hkd]
  have e2 : nextS e m w = firstT e m w :: (othersT e m).map (invT m) := by unfold nextS writeS; rw [if_pos h0, if_neg (by omega), if_pos hkd]
  rw [e1, e2]
  have htl := tgt_len e.s [m.src, e.o] e.s.cores.toNat
  have hc64 := (may_facts' hm).2.1
  have hT := fun F (hk : RdL F 1 (.slice a e.s.ps.length k) e.s.ps.length (flat ic e.s.ps)) u (hb : RdL F 1 u 2 [.int .i64 m.src, .int .i64 e.o]) => @ref08_Targets F e.s a k u [m.src, e.o] hk hm hb (by simp)
  have ho : othersT e m = shTgt e.s [m.src, e.o] e.s.cores.toNat := rfl
  have hf : firstT e m w = if e.o = -1 then msgT m 7 m.src 0 (othersT e m).length 4 w else if e.o = m.src then msgT m 8 m.src 0 (othersT e m).length 0 .zero else msgT m 5 e.o m.src (othersT e m).length 0 .zero := rfl
  rw [ho] at hf ⊢
  generalize shTgt e.s [m.src, e.o] e.s.cores.toNat = ot at hT htl hf ⊢
  refine FnF.mk' Tryz.func105 rfl rfl Tryz.ntmps105 rfl ?_
  repeat (first | rintro _ _ ⟨rfl, rfl⟩ | refine exq fun _ => ?_ | intro _ | refine go ?_ | refine dr_TabR2_105s ?_ | refine drq ?_ | refine cal @hM ?_ | refine cal @hA ?_ | refine cal @hT ?_)
  rename_i b3 b4 b5 b6 b9 b10 s1 a1 k1 n1 b11 bs p q b16
  apply WC_join (P := Tryz.prog) (fun _ : Option Addr × Nat => [(4, .pointer (some ⟨b4, 0, none⟩)), (6, .pointer (some ⟨b6, 0, none⟩)), (8, .int .i64 m.src), (9, .pointer (some ⟨b9, 0, none⟩)), (14, .slice p ot.length q), (15, .int .i64 ot.length), (16, .pointer (some ⟨b16, 0, none⟩)), (17, .int .i64 0)])
    (fun z => Own 38 15 (.slice z.1 [firstT e m w].length z.2) [firstT e m w].length (flat mc [firstT e m w]) :: Cells b16 218 [.int .i64 m.src, .int .i64 e.s.cores, .int .i64 e.s.most, .slice none 0 0, .bool false, .slice z.1 [firstT e m w].length z.2, .bool false] :: Own 3 1 (.slice p ot.length q) ot.length (flat ic ot) :: Cells b9 36 (wc .zero) :: Cells b6 218 [.int .i64 0, .int .i64 0, .int .i64 0, .slice none 0 0, .bool false, .slice none 0 0, .bool false] :: Cells b4 38 (mc m) :: F) (fun _ => True)
  · intro join
    (first | refine WO_ent (own_empty (e := 38) (sz := 15) (p := none) Ent.refl) ?_ | refine WC_ent' (own_empty (e := 38) (sz := 15) (p := none) Ent.refl) ?_ | refine WE_ent' (own_empty (e := 38) (sz := 15) (p := none) Ent.refl) ?_)
    by_cases g1 : e.o = -1
    · rw [if_pos g1] at hf
      repeat' (first | rintro _ _ ⟨rfl, rfl⟩ | refine exq fun _ => ?_ | intro _ | refine go ?_ | refine dr_TabR2_105s ?_ | refine drq ?_ | refine cal @ref13_msg ?_ | refine spl ?_ ?_ | fail)
      all_goals (rename_i pn cn; exact join (pn, cn) _ _ trivial (by (repeat (first | exact Sub.nil | (refine Sub.cons (by first | rfl | (simp only [Nat.zero_add]; rfl)) ?_)))) (by rw [hf]; simp only [List.length_singleton, Nat.zero_add, List.nil_append, flat_one]; exact entu0))
    · rw [if_neg g1] at hf
      by_cases g2 : e.o = m.src
      · rw [if_pos g2] at hf
        repeat' (first | rintro _ _ ⟨rfl, rfl⟩ | refine exq fun _ => ?_ | intro _ | refine go ?_ | refine dr_TabR2_105s ?_ | refine drq ?_ | refine cal @ref13_msgz ?_ | refine spl ?_ ?_ | fail)
        all_goals (rename_i pn cn; exact join (pn, cn) _ _ trivial (by (repeat (first | exact Sub.nil | (refine Sub.cons (by first | rfl | (simp only [Nat.zero_add]; rfl)) ?_)))) (by rw [hf]; simp only [List.length_singleton, Nat.zero_add, List.nil_append, flat_one]; exact entu0))
      · rw [if_neg g2] at hf
        repeat' (first | rintro _ _ ⟨rfl, rfl⟩ | refine exq fun _ => ?_ | intro _ | refine go ?_ | refine dr_TabR2_105s ?_ | refine drq ?_ | refine cal @ref13_msgz ?_ | refine spl ?_ ?_ | fail)
        all_goals (rename_i pn cn; exact join (pn, cn) _ _ trivial (by (repeat (first | exact Sub.nil | (refine Sub.cons (by first | rfl | (simp only [Nat.zero_add]; rfl)) ?_)))) (by rw [hf]; simp only [List.length_singleton, Nat.zero_add, List.nil_append, flat_one]; exact entu0))
  · rintro ⟨pn, cn⟩ _
    clear hf
    generalize firstT e m w = f1
    dsimp only
    apply WC_loopE (E0 := [(4, _), (6, _), (8, _), (9, _), (14, _), (15, _), (16, _)]) (fun E0 (z : Nat × Option Addr × Nat) => (17, .int .i64 z.1) :: E0) (fun z => Own 38 15 (.slice z.2.1 (f1 :: (ot.take z.1).map (invT m)).length z.2.2) (f1 :: (ot.take z.1).map (invT m)).length (flat mc (f1 :: (ot.take z.1).map (invT m))) :: Cells b16 218 [.int .i64 m.src, .int .i64 e.s.cores, .int .i64 e.s.most, .slice none 0 0, .bool false, .slice z.2.1 (f1 :: (ot.take z.1).map (invT m)).length z.2.2, .bool false] :: Own 3 1 (.slice p ot.length q) ot.length (flat ic ot) :: Cells b9 36 (wc .zero) :: Cells b6 218 [.int .i64 0, .int .i64 0, .int .i64 0, .slice none 0 0, .bool false, .slice none 0 0, .bool false] :: Cells b4 38 (mc m) :: F) (fun z => z.1 ≤ ot.length) (fun z => ot.length - z.1) (0, pn, cn)
    · (repeat (first | exact Sub.nil | (refine Sub.cons (by first | rfl | (simp only [Nat.zero_add]; rfl)) ?_)))
    · exact Nat.zero_le _
    · simp only [List.take_zero, List.map_nil]; exact entu0
    · rintro ⟨i, pi, ci⟩ hi
      dsimp only at hi ⊢
      have hll : (f1 :: (ot.take i).map (invT m)).length = i + 1 := by simp; omega
      by_cases hlt : i < ot.length
      · have et : f1 :: (ot.take (i + 1)).map (invT m) = (f1 :: (ot.take i).map (invT m)) ++ [msgT m 6 ot[i] m.src 0 0 .zero] := by
          rw [List.take_add_one, List.getElem?_eq_getElem hlt]; simp only [List.map_append, List.cons_append, List.map_cons, List.map_nil, Option.toList_some]; rfl
        generalize f1 :: (ot.take i).map (invT m) = S at *
        (first | (refine WO_some (Value.slice p ot.length q) inferInstance (by omega) ?_; intro _) | (refine WC_some (Value.slice p ot.length q) inferInstance (by omega) ?_; intro _))
        repeat' (first | rintro _ _ ⟨rfl, rfl⟩ | refine exq fun _ => ?_ | intro _ | refine go ?_ | refine dr_TabR2_105s ?_ | refine drq ?_ | refine cal @ref13_msgz ?_ | refine spl ?_ ?_ | fail)
        all_goals (
          refine WE_loop (i + 1, ?_, ?_) ?_ ?_ ?_ ?_
          rotate_right
          (dsimp only; rw [et, List.length_append, List.length_singleton, flat_append, flat_one]; exact entu0)
          all_goals first | (dsimp only; omega) | ((repeat (first | exact Sub.nil | (refine Sub.cons (by first | rfl | (simp only [Nat.zero_add]; rfl)) ?_))); done))
      · have hil : i = ot.length := by omega
        subst hil
        rw [List.take_length]
        repeat (first | rintro _ _ ⟨rfl, rfl⟩ | refine exq fun _ => ?_ | intro _ | refine go ?_ | refine dr_TabR2_105s ?_ | refine drq ?_)
        (apply WE_ret rfl rfl (by (repeat (first | exact ResOk.nil | (apply ResOk.tmp; rfl) | (apply resOk_cell; rfl; exact inferInstance; rfl; rfl)))))
        · exact ⟨_, _, rfl, rfl⟩
        · exact entu0
end Go.Sx
