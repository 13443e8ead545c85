/- What is started, sent and finished leaves all others as they are: the law of queues. My own work. -/
import Derived.Test.YtadedfcjakhfbaaQuLaw
namespace Go.Sx
open Go Go.Proofs
set_option linter.unusedVariables false
set_option linter.unusedSectionVars false
set_option linter.unusedSimpArgs false
/-- What an operation that goes through makes of the entries. -/
inductive QShape (l : List QE) (x : QOp) : List QE → Prop
  | add (h : x.d = 0) : QShape l x (l ++ [⟨x.m, false, []⟩])
  | out (i : Nat) (hi : i < l.length) (h0 : x.d ≠ 0) (h1 : x.d ≠ 1) : QShape l x (l.eraseIdx i)
  | set (i : Nat) (hi : i < l.length) (e : QE) (hn : x.n = i) (hd : x.d = 1 ∨ x.d = 2) (hm : e.m = l[i].m) (hs : e.st = true) (hne : e ≠ l[i]) : QShape l x (l.set i e)
theorem qdo_err {room : Int} {l : List QE} {x : QOp} (h : qdoE room l x ≠ 0) : qdoL room l x = l := by
  unfold qdoE at h
  unfold qdoL
  split
  · rename_i h0; rw [if_pos h0] at h; simp [qaddL, h]
  · rename_i h0; rw [if_neg h0] at h
    split
    · rename_i h1; rw [if_pos h1] at h; simp [qstartL, h]
    · rename_i h1; rw [if_neg h1] at h
      split
      · rename_i h2; rw [if_pos h2] at h; simp [qsentL, h]
      · rename_i h2; rw [if_neg h2] at h
        unfold qfinL
        unfold qfinE at h
        split
        · rfl
        · rename_i h3; simp [h3] at h
theorem qdo_ok {room : Int} {l : List QE} {x : QOp} (hv : QInv l) (h : qdoE room l x = 0) : QShape l x (qdoL room l x) := by
  unfold qdoE at h
  unfold qdoL
  split
  · rename_i h0; rw [if_pos h0] at h
    rw [qaddL, if_pos h]
    exact .add h0
  · rename_i h0; rw [if_neg h0] at h
    split
    · rename_i h1; rw [if_pos h1] at h
      rw [qstartL, if_pos h]
      unfold qstartE at h
      split at h
      · split at h
        · rename_i hr
          obtain ⟨hr, hz⟩ := Bool.and_eq_true_iff.1 hr
          obtain ⟨i, hi, e1, e2, e3, e4⟩ := qready_t hr
          rw [e2, e1, Int.toNat_natCast]
          refine .set i hi _ e1 (.inl h1) rfl rfl fun e => ?_
          have := congrArg QE.st e
          rw [e3] at this; cases this
        · cases h
      · cases h
    · rename_i h1; rw [if_neg h1] at h
      split
      · rename_i h2; rw [if_pos h2] at h
        rw [qsentL, if_pos h]
        unfold qsentE at h
        split at h
        · rename_i hin
          obtain ⟨i, hi, e1, e2⟩ := qin_t hin
          split at h
          · cases h
          · rename_i hn
            rw [e2] at hn ⊢
            rw [e1, Int.toNat_natCast]
            split
            · exact .out i hi h0 h1
            · have hst : l[i].st = true := by
                cases hc : l[i].st with
                | true => rfl
                | false => exact absurd (by rw [hv.2 _ (List.getElem_mem hi) hc]; rfl) hn
              refine .set i hi _ e1 (.inr h2) rfl hst fun e => ?_
              have := congrArg (fun e => e.sends.length) e
              simp only [List.length_drop] at this
              omega
        · cases h
      · rename_i h2; rw [if_neg h2] at h
        unfold qfinL
        unfold qfinE at h
        split
        · rename_i h3; simp [h3] at h
        · rename_i h3
          obtain ⟨i, hi, e1, _⟩ := indexBy_nat (p := qgone x.m.line x.m.src) (l := l) (by omega)
          rw [e1, Int.toNat_natCast]
          exact .out i hi h0 h1
theorem WC_owncap' {T : TypeId} {sz n c : Nat} {p : Option Addr} {xs : List Value} {P : Program} {N : Nat} {o : Code} {env : Env} {L : List HP} {Q : Exit → Act → World → Prop} (h : n ≤ c → WC P N o env (Own T sz (.slice p n c) n xs :: L) Q) : WC P N o env (Own T sz (.slice p n c) n xs :: L) Q :=
  fun a w ha hw => h (by
    rcases (sat_own hw).2.2 with ⟨q, h1, h2⟩ | ⟨g, cap, cur, h1, _, h3, _⟩
    · omega
    · cases h1; exact h3) a w ha hw
theorem qat_bd {l : List QE} {n : Int} (h : ∀ e ∈ l, e.sends.length ≤ 1000) : (qat l n).sends.length ≤ 1000 := by
  unfold qat
  split
  · rename_i hin
    have h0 := of_decide_eq_true hin
    have hi : n.toNat < l.length := by omega
    simp only [List.getD_eq_getElem?_getD, List.getElem?_eq_getElem hi, Option.getD_some]
    exact h _ (List.getElem_mem hi)
  · simp
theorem qbd_do {room : Int} {l : List QE} {x : QOp} (h : ∀ e ∈ l, e.sends.length ≤ 1000) (hx : x.sends.length ≤ 1000) : ∀ e ∈ qdoL room l x, e.sends.length ≤ 1000 := by
  unfold qdoL
  split
  · unfold qaddL; split
    · intro e he
      rcases List.mem_append.1 he with h1 | h1
      · exact h e h1
      · rw [List.mem_singleton.1 h1]; simp
    · exact h
  · split
    · unfold qstartL; split
      · intro e he
        rcases List.mem_or_eq_of_mem_set he with h1 | h1
        · exact h e h1
        · subst h1; exact hx
      · exact h
    · split
      · unfold qsentL; split
        · split
          · exact fun e he => h e (List.mem_of_mem_eraseIdx he)
          · intro e he
            rcases List.mem_or_eq_of_mem_set he with h1 | h1
            · exact h e h1
            · subst h1
              have := qat_bd (n := x.n) h
              simp only [List.length_drop]; omega
        · exact h
      · unfold qfinL; split
        · exact h
        · exact fun e he => h e (List.mem_of_mem_eraseIdx he)
/-- Two rows of entries, as far as they are alike. -/
theorem qsame_drop {ps qs : List QP} {a b : Nat} (hl : ps.length - a = qs.length - b) (h : ∀ j (h1 : a + j < ps.length) (h2 : b + j < qs.length), ps[a + j].1 = qs[b + j].1) : (ps.drop a).map (·.1) = (qs.drop b).map (·.1) := by
  refine List.ext_getElem (by simpa using hl) fun j h1 h2 => ?_
  simp only [List.length_map, List.length_drop] at h1 h2
  simp only [List.getElem_map, List.getElem_drop]
  exact h j (by omega) (by omega)
theorem rdall_drop {L : List HP} {ps : List QP} (k : RdAll L ps) (n : Nat) : RdAll L (ps.drop n) := ⟨fun p hp => k.pf p (List.mem_of_mem_drop hp)⟩
theorem rd_dropq {L : List HP} {v : Value} {ps : List QP} {l m : Nat} (k : RdL L 17 v ps.length (flat qc ps)) (h1 : l ≤ ps.length) (h2 : ps.length ≤ m) : RdL L 17 (cut v l ps.length m 17) (ps.drop l).length (flat qc (ps.drop l)) := by
  have k := RdL.cut (l := l) (h := ps.length) (m := m) k h1 (Nat.le_refl _) h2
  have e : ((flat qc ps).drop (l * 17)).take ((ps.length - l) * 17) = flat qc (ps.drop l) := by
    rw [flat_drop (enc := qc) (n := 17) (fun _ => rfl), flat_take (enc := qc) (n := 17) (fun _ => rfl), List.take_of_length_le (by simp)]
  rw [e] at k
  rw [List.length_drop]; exact k
theorem qshape_facts {ps qs : List QP} {x : QOp} (h : QShape (ps.map (·.1)) x (qs.map (·.1))) :
    (x.d = 0 ∧ qs.length = ps.length + 1 ∧ (∀ j (h1 : j < ps.length) (h2 : j < qs.length), ps[j].1 = qs[j].1) ∧ ∀ h : ps.length < qs.length, qs[ps.length].1 = ⟨x.m, false, []⟩)
    ∨ (x.d ≠ 0 ∧ x.d ≠ 1 ∧ qs.length + 1 = ps.length ∧ ∃ i, i < ps.length ∧ (∀ j (h1 : j < ps.length) (h2 : j < qs.length), j < i → ps[j].1 = qs[j].1) ∧ ∀ j k (h1 : k < ps.length) (h2 : j < qs.length), k = j + 1 → i ≤ j → ps[k].1 = qs[j].1)
    ∨ ((x.d = 1 ∨ x.d = 2) ∧ qs.length = ps.length ∧ ∃ (i : Nat) (h1 : i < ps.length) (h2 : i < qs.length), x.n = i ∧ qs[i].1.m = ps[i].1.m ∧ qs[i].1.st = true ∧ ps[i].1 ≠ qs[i].1 ∧ ∀ j (h1 : j < ps.length) (h2 : j < qs.length), j ≠ i → ps[j].1 = qs[j].1) := by
  have hp : ∀ j (hj : j < ps.length), (ps.map (·.1))[j]? = some ps[j].1 := fun j hj => by simp [hj]
  have hq : ∀ j (hj : j < qs.length), (qs.map (·.1))[j]? = some qs[j].1 := fun j hj => by simp [hj]
  have hpl : (ps.map (·.1)).length = ps.length := List.length_map ..
  have hql : (qs.map (·.1)).length = qs.length := List.length_map ..
  generalize ps.map (·.1) = l at *
  generalize qs.map (·.1) = m at *
  cases h with
  | add h0 =>
    rw [List.length_append, List.length_singleton] at hql
    refine .inl ⟨h0, by omega, fun j h1 h2 => ?_, fun h => ?_⟩
    · have := hq j h2
      rw [List.getElem?_append_left (by omega), hp j h1] at this
      exact Option.some.inj this
    · have := hq _ h
      rw [List.getElem?_append_right (by omega), hpl, Nat.sub_self] at this
      exact (Option.some.inj this).symm
  | out i hi h0 h1 =>
    have hle := List.length_eraseIdx (l := l) (i := i)
    rw [if_pos hi] at hle
    refine .inr (.inl ⟨h0, h1, by omega, i, by omega, fun j h1 h2 hj => ?_, fun j k h1 h2 hjk hj => ?_⟩)
    · have := hq j h2
      rw [List.getElem?_eraseIdx, if_pos hj, hp j h1] at this
      exact Option.some.inj this
    · have := hq j h2
      subst hjk
      rw [List.getElem?_eraseIdx, if_neg (by omega), hp _ h1] at this
      exact Option.some.inj this
  | set i hi e hn hd hm hs hne =>
    rw [List.length_set] at hql
    have hi1 : i < ps.length := by omega
    have hi2 : i < qs.length := by omega
    have hqi : qs[i].1 = e := by
      have := hq i hi2
      rw [List.getElem?_set_self hi] at this
      exact (Option.some.inj this).symm
    have hpi : ps[i].1 = l[i] := by
      have := hp i hi1
      rw [List.getElem?_eq_getElem hi] at this
      exact (Option.some.inj this).symm
    refine .inr (.inr ⟨hd, by omega, i, hi1, hi2, hn, by rw [hqi, hpi, hm], by rw [hqi, hs], by rw [hqi, hpi]; exact fun h => hne h.symm, fun j h1 h2 hj => ?_⟩)
    have := hq j h2
    rw [List.getElem?_set_ne (by omega), hp j h1] at this
    exact Option.some.inj this
set_option maxRecDepth 100000
set_option maxHeartbeats 4000000
attribute [local irreducible] Go.Exit.then Go.Exit.inBlock Go.Code.wp WC WO WE WQ V LoopQ FnQ Sat Star band bor IntKind.wrap WR Code.rounds WT KO
theorem law15_Others {W : World} {F : List HP} {room : Int} {v : Value} {l : List QOp} {x : QOp} (hr : I64 room) (hw : ∀ o ∈ l, o.ok W ∧ o.sends.length ≤ 2000000000000) (hl : l.length ≤ 9223372036854775807) (k : ROld W 18 v l.length (flat qoc l)) (hx : x.ok W) :
    FnF Try.prog 10 [.int .i64 room, v, qov x] [Old W] F (fun r L' => r = .bool true ∧ L' = [Old W]) := by
  have hs' : ∀ o ∈ l, o.sends.length ≤ 2000000000000 := fun o ho => (hw o ho).2
  haveI := hx.2.1
  refine FnF.mk' Try.func10 rfl rfl Try.ntmps10 rfl ?_
  repeat (first | rintro _ _ ⟨rfl, rfl⟩ | rintro _ _ ⟨_, rfl, rfl⟩ | rintro _ _ ⟨_, _, rfl, rfl⟩ | intro _ | refine go ?_ | (refine is_draw ?_; refine WC_draw mixed (by kernel_rfl) ?_) | refine cal @law15_awake ?_ | refine cal @law15_large ?_)
  rename_i bx B hB
  cases B with
  | true =>
    repeat (first | rintro _ _ ⟨rfl, rfl⟩ | rintro _ _ ⟨_, rfl, rfl⟩ | rintro _ _ ⟨_, _, rfl, rfl⟩ | intro _ | refine go ?_ | (refine is_draw ?_; refine WC_draw mixed (by kernel_rfl) ?_))
    (apply WE_ret rfl rfl (by (repeat (first | exact ResOk.nil | (apply ResOk.tmp; rfl) | (apply resOk_cell; rfl; exact inferInstance; rfl; rfl)))); (first | exact ⟨rfl, rfl⟩ | exact ⟨congrArg Value.bool (by decide), rfl⟩ | exact ⟨_, rfl, rfl⟩ | exact ⟨_, _, rfl, rfl⟩ | exact ⟨by first | (simp []; done) | (simp [] <;> omega), rfl⟩); (repeat (first | exact Ent.refl | exact Ent.nil | apply Ent.pick | apply Ent.drop)))
  | false =>
    obtain ⟨hlen, hsm⟩ := hB rfl
    by_cases hxs : 100 < x.sends.length
    · repeat (first | rintro _ _ ⟨rfl, rfl⟩ | rintro _ _ ⟨_, rfl, rfl⟩ | rintro _ _ ⟨_, _, rfl, rfl⟩ | intro _ | refine go ?_ | (refine is_draw ?_; refine WC_draw mixed (by kernel_rfl) ?_))
      (apply WE_ret rfl rfl (by (repeat (first | exact ResOk.nil | (apply ResOk.tmp; rfl) | (apply resOk_cell; rfl; exact inferInstance; rfl; rfl)))); (first | exact ⟨rfl, rfl⟩ | exact ⟨congrArg Value.bool (by decide), rfl⟩ | exact ⟨_, rfl, rfl⟩ | exact ⟨_, _, rfl, rfl⟩ | exact ⟨by first | (simp []; done) | (simp [] <;> omega), rfl⟩); (repeat (first | exact Ent.refl | exact Ent.nil | apply Ent.pick | apply Ent.drop)))
    · by_cases h1 : 1 ≤ room ∧ room ≤ 16
      · repeat (first | rintro _ _ ⟨rfl, rfl⟩ | rintro _ _ ⟨_, rfl, rfl⟩ | rintro _ _ ⟨_, _, rfl, rfl⟩ | intro _ | refine go ?_ | (refine is_draw ?_; refine WC_draw mixed (by kernel_rfl) ?_) | refine cal @qu_New ?_)
        rename_i b
        apply WC_loopE (E0 := [(5, _), (7, _), (34, _), (35, _)]) (fun E0 (q : Nat × List QE) => (36, .int .i64 q.1) :: E0) (fun q => QuP b room q.2 :: Cells bx 96 (qoc x) :: Old W :: F) (fun q => q.1 ≤ l.length ∧ (q.2.length : Int) ≤ room ∧ QInv q.2 ∧ ∀ e ∈ q.2, e.sends.length ≤ 1000) (fun q => l.length - q.1) (0, [])
        · (repeat (first | exact Sub.nil | (refine Sub.cons (by first | rfl | (simp only [Nat.zero_add]; rfl)) ?_)))
        · exact ⟨Nat.zero_le _, by simp; omega, qinv_nil, fun e he => by cases he⟩
        · (repeat (first | (with_reducible exact Ent.refl) | exact Ent.nil | (apply ent_pickE; (focus ((repeat (first | (with_reducible exact pk_here) | (apply pk_there))); done))) | apply Ent.drop))
        · rintro ⟨i, q⟩ ⟨hi, hq, hinv, hqb⟩
          dsimp only at hi hq hinv hqb ⊢
          by_cases hlt : i < l.length
          · have hD := fun F => qu_do (W := W) (F := F) (b := b) (room := room) (l := q) (x := l[i]) (hw _ (List.getElem_mem hlt)).1 (by have := hsm _ (List.getElem_mem hlt); omega)
            have hinv2 := qinv_do (room := room) (x := l[i]) hinv
            have hq2 := qroom_do (room := room) (l := q) (x := l[i]) hq
            repeat (first | rintro _ _ ⟨rfl, rfl⟩ | rintro _ _ ⟨_, rfl, rfl⟩ | rintro _ _ ⟨_, _, rfl, rfl⟩ | intro _ | refine go ?_ | (refine is_draw ?_; refine WC_draw mixed (by kernel_rfl) ?_) | refine cal @hD ?_)
            refine WE_loop (i + 1, qdoL room q l[i]) (by dsimp only; omega) ⟨by dsimp only; omega, hq2, hinv2, qbd_do hqb (by have := hsm _ (List.getElem_mem hlt); omega)⟩ ?_ ?_
            · (repeat (first | exact Sub.nil | (refine Sub.cons (by first | rfl | (simp only [Nat.zero_add]; rfl)) ?_)))
            · (repeat (first | (with_reducible exact Ent.refl) | exact Ent.nil | (apply ent_pickE; (focus ((repeat (first | (with_reducible exact pk_here) | (apply pk_there))); done))) | apply Ent.drop))
          · have hD := fun F => qu_do (W := W) (F := F) (b := b) (room := room) (l := q) (x := x) hx (by omega)
            have hq2 := qroom_do (room := room) (l := q) (x := x) hq
            have hOw := fun F v => law15_own (F := F) (v := v) (l := q) (by omega)
            have hOw2 := fun F v => law15_own (F := F) (v := v) (l := qdoL room q x) (by omega)
            have hok := qdo_ok (room := room) (x := x) hinv
            have her := qdo_err (room := room) (l := q) (x := x)
            have hqb2 := qbd_do (room := room) (x := x) hqb (by omega)
            generalize hq' : qdoL room q x = q' at *
            generalize he : qdoE room q x = e at *
            repeat (first | rintro _ _ ⟨rfl, rfl⟩ | rintro _ _ ⟨_, rfl, rfl⟩ | rintro _ _ ⟨_, _, rfl, rfl⟩ | intro _ | refine go ?_ | (refine is_draw ?_; refine WC_draw mixed (by kernel_rfl) ?_) | refine cal @hD ?_ | refine cal @qu_List ?_ | refine cal @hOw ?_ | refine cal @hOw2 ?_)
            rename_i pa ca pw cw bm pb' cb pn cn
            clear hD hOw hOw2 hq' he
            (first | refine WO_front (QuL 116 (.slice pw q.length cw) q) ?_ | refine WC_front (QuL 116 (.slice pw q.length cw) q) ?_ | refine WE_front (QuL 116 (.slice pw q.length cw) q) ?_)
            refine ql_open fun ps hps => ?_
            (first | refine WO_front (QuL 116 (.slice pn q'.length cn) q') ?_ | refine WC_front (QuL 116 (.slice pn q'.length cn) q') ?_ | refine WE_front (QuL 116 (.slice pn q'.length cn) q') ?_)
            refine ql_open fun qs hqs => ?_
            subst hps
            have hql : qs.length = q'.length := by rw [← hqs, List.length_map]
            rw [List.length_map] at hq ⊢
            rw [← hql] at hq2 ⊢
            (first | refine WO_front (Own 116 17 (.slice pn qs.length cn) qs.length (flat qc qs)) ?_ | refine WC_front (Own 116 17 (.slice pn qs.length cn) qs.length (flat qc qs)) ?_ | refine WE_front (Own 116 17 (.slice pn qs.length cn) qs.length (flat qc qs)) ?_)
            refine WC_owncap' fun hcn => ?_
            (first | refine WO_front (Own 116 17 (.slice pw ps.length cw) ps.length (flat qc ps)) ?_ | refine WC_front (Own 116 17 (.slice pw ps.length cw) ps.length (flat qc ps)) ?_ | refine WE_front (Own 116 17 (.slice pw ps.length cw) ps.length (flat qc ps)) ?_)
            refine WC_owncap' fun hcw => ?_
            have hb1 : ∀ p ∈ ps, p.1.sends.length ≤ 1000 := fun p hp => hqb _ (List.mem_map_of_mem hp)
            have hb2 : ∀ p ∈ qs, p.1.sends.length ≤ 1000 := fun p hp => hqb2 _ (by rw [← hqs]; exact List.mem_map_of_mem hp)
            by_cases he : e = 0
            · have hsh := hok he
              rw [← hqs] at hsh
              have hOne := fun a (g1 : a < ps.length) (g2 : a < qs.length) F (k1 : RdL F 15 (qsl ps[a]) ps[a].1.sends.length (flat mc ps[a].1.sends)) (k2 : RdL F 15 (qsl qs[a]) qs[a].1.sends.length (flat mc qs[a].1.sends)) =>
                ref15_One (F := F) (p := ps[a]) (q := qs[a]) k1 k2 (by have := hb1 _ (List.getElem_mem g1); omega)
              rcases qshape_facts hsh with ⟨A1, A2, A3, A4⟩ | ⟨B1, B2, B3, i, Bi, B4, B5⟩ | ⟨C1, C2, i, i1, i2, C3, C4, C5, C6, C7⟩
              · repeat (first | rintro _ _ ⟨rfl, rfl⟩ | rintro _ _ ⟨_, rfl, rfl⟩ | rintro _ _ ⟨_, _, rfl, rfl⟩ | intro _ | refine go ?_ | (refine is_draw ?_; refine WC_draw mixed (by kernel_rfl) ?_))
                apply WC_loopE (E0 := [(5, _), (11, _), (15, _)]) (fun E0 (a : Nat) => (16, .int .i64 a) :: E0) (fun _ => Own 116 17 (.slice pn qs.length cn) qs.length (flat qc qs) :: All (qs.map qrd) :: Own 116 17 (.slice pw ps.length cw) ps.length (flat qc ps) :: All (ps.map qrd) :: Cells bx 96 (qoc x) :: Old W :: F) (fun a => a ≤ ps.length ∧ a ≤ qs.length ∧ ∀ j (h1 : j < ps.length) (h2 : j < qs.length), j < a → ps[j].1 = qs[j].1) (fun a => ps.length - a) 0
                · (repeat (first | exact Sub.nil | (refine Sub.cons (by first | rfl | (simp only [Nat.zero_add]; rfl)) ?_)))
                · exact ⟨Nat.zero_le _, Nat.zero_le _, fun j _ _ h => by omega⟩
                · (repeat (first | (with_reducible exact Ent.refl) | exact Ent.nil | (apply ent_pickE; (focus ((repeat (first | (with_reducible exact pk_here) | (apply pk_there))); done))) | apply Ent.drop))
                · rintro a ⟨ha1, ha2, hal⟩
                  by_cases hlt2 : ∃ (h1 : a < ps.length) (h2 : a < qs.length), ps[a].1 = qs[a].1
                  · obtain ⟨g1, g2, g3⟩ := hlt2
                    haveI kr := fun L => rd_all (ps := ps) (p := ps[a]) (List.getElem_mem g1) (L := L)
                    haveI kq := fun L => rd_all (ps := qs) (p := qs[a]) (List.getElem_mem g2) (L := L)
                    have hO := hOne a g1 g2
                    have hd : decide (ps[a].1 = qs[a].1) = true := decide_eq_true g3
                    simp only [hd] at hO
                    repeat (first | rintro _ _ ⟨rfl, rfl⟩ | rintro _ _ ⟨_, rfl, rfl⟩ | rintro _ _ ⟨_, _, rfl, rfl⟩ | intro _ | refine go ?_ | (refine is_draw ?_; refine WC_draw mixed (by kernel_rfl) ?_) | refine cal @hO ?_)
                    refine WE_loop (a + 1) (by omega) ⟨by omega, by omega, fun j h1 h2 hj => ?_⟩ ?_ ?_
                    · by_cases hja : j = a
                      · subst hja; exact g3
                      · exact hal j h1 h2 (by omega)
                    · (repeat (first | exact Sub.nil | (refine Sub.cons (by first | rfl | (simp only [Nat.zero_add]; rfl)) ?_)))
                    · (repeat (first | (with_reducible exact Ent.refl) | exact Ent.nil | (apply ent_pickE; (focus ((repeat (first | (with_reducible exact pk_here) | (apply pk_there))); done))) | apply Ent.drop))
                  · have hst : ∀ (g1 : a < ps.length) (g2 : a < qs.length), ¬ ps[a].1 = qs[a].1 := fun g1 g2 g3 => hlt2 ⟨g1, g2, g3⟩
                    have haa : a = ps.length := Classical.byContradiction fun hn => hst (by omega) (by omega) (A3 a (by omega) (by omega))
                    subst haa
                    have g2 : ps.length < qs.length := by omega
                    have A4' := A4 g2
                    haveI kq := fun L => rd_all (ps := qs) (p := qs[ps.length]) (List.getElem_mem g2) (L := L)
                    have hO2 := fun F (k1 : RdL F 15 (qsl qs[ps.length]) qs[ps.length].1.sends.length (flat mc qs[ps.length].1.sends)) => ref15_One (F := F) (p := qs[ps.length]) (q := ((⟨x.m, false, []⟩ : QE), (none, 0))) k1 rd_empty (by have := hb2 _ (List.getElem_mem g2); omega)
                    have hd2 : decide (qs[ps.length].1 = (⟨x.m, false, []⟩ : QE)) = true := decide_eq_true A4'
                    simp only [hd2] at hO2
                    repeat (first | rintro _ _ ⟨rfl, rfl⟩ | rintro _ _ ⟨_, rfl, rfl⟩ | rintro _ _ ⟨_, _, rfl, rfl⟩ | intro _ | refine go ?_ | (refine is_draw ?_; refine WC_draw mixed (by kernel_rfl) ?_) | refine cal @hO2 ?_)
                    (apply WE_ret rfl rfl (by (repeat (first | exact ResOk.nil | (apply ResOk.tmp; rfl) | (apply resOk_cell; rfl; exact inferInstance; rfl; rfl)))); (first | exact ⟨rfl, rfl⟩ | exact ⟨congrArg Value.bool (by decide), rfl⟩ | exact ⟨_, rfl, rfl⟩ | exact ⟨_, _, rfl, rfl⟩ | exact ⟨by first | (simp []; done) | (simp [] <;> omega), rfl⟩); (repeat (first | exact Ent.refl | exact Ent.nil | apply Ent.pick | apply Ent.drop)))
              · repeat (first | rintro _ _ ⟨rfl, rfl⟩ | rintro _ _ ⟨_, rfl, rfl⟩ | rintro _ _ ⟨_, _, rfl, rfl⟩ | intro _ | refine go ?_ | (refine is_draw ?_; refine WC_draw mixed (by kernel_rfl) ?_))
                apply WC_loopE (E0 := [(5, _), (11, _), (15, _)]) (fun E0 (a : Nat) => (16, .int .i64 a) :: E0) (fun _ => Own 116 17 (.slice pn qs.length cn) qs.length (flat qc qs) :: All (qs.map qrd) :: Own 116 17 (.slice pw ps.length cw) ps.length (flat qc ps) :: All (ps.map qrd) :: Cells bx 96 (qoc x) :: Old W :: F) (fun a => a ≤ ps.length ∧ a ≤ qs.length ∧ ∀ j (h1 : j < ps.length) (h2 : j < qs.length), j < a → ps[j].1 = qs[j].1) (fun a => ps.length - a) 0
                · (repeat (first | exact Sub.nil | (refine Sub.cons (by first | rfl | (simp only [Nat.zero_add]; rfl)) ?_)))
                · exact ⟨Nat.zero_le _, Nat.zero_le _, fun j _ _ h => by omega⟩
                · (repeat (first | (with_reducible exact Ent.refl) | exact Ent.nil | (apply ent_pickE; (focus ((repeat (first | (with_reducible exact pk_here) | (apply pk_there))); done))) | apply Ent.drop))
                · rintro a ⟨ha1, ha2, hal⟩
                  by_cases hlt2 : ∃ (h1 : a < ps.length) (h2 : a < qs.length), ps[a].1 = qs[a].1
                  · obtain ⟨g1, g2, g3⟩ := hlt2
                    haveI kr := fun L => rd_all (ps := ps) (p := ps[a]) (List.getElem_mem g1) (L := L)
                    haveI kq := fun L => rd_all (ps := qs) (p := qs[a]) (List.getElem_mem g2) (L := L)
                    have hO := hOne a g1 g2
                    have hd : decide (ps[a].1 = qs[a].1) = true := decide_eq_true g3
                    simp only [hd] at hO
                    repeat (first | rintro _ _ ⟨rfl, rfl⟩ | rintro _ _ ⟨_, rfl, rfl⟩ | rintro _ _ ⟨_, _, rfl, rfl⟩ | intro _ | refine go ?_ | (refine is_draw ?_; refine WC_draw mixed (by kernel_rfl) ?_) | refine cal @hO ?_)
                    refine WE_loop (a + 1) (by omega) ⟨by omega, by omega, fun j h1 h2 hj => ?_⟩ ?_ ?_
                    · by_cases hja : j = a
                      · subst hja; exact g3
                      · exact hal j h1 h2 (by omega)
                    · (repeat (first | exact Sub.nil | (refine Sub.cons (by first | rfl | (simp only [Nat.zero_add]; rfl)) ?_)))
                    · (repeat (first | (with_reducible exact Ent.refl) | exact Ent.nil | (apply ent_pickE; (focus ((repeat (first | (with_reducible exact pk_here) | (apply pk_there))); done))) | apply Ent.drop))
                  · have hst : ∀ (g1 : a < ps.length) (g2 : a < qs.length), ¬ ps[a].1 = qs[a].1 := fun g1 g2 g3 => hlt2 ⟨g1, g2, g3⟩
                    have hai : i ≤ a := Classical.byContradiction fun hn => hst (by omega) (by omega) (B4 a (by omega) (by omega) (by omega))
                    by_cases g2 : a < qs.length
                    · have g1 : a < ps.length := by omega
                      have g3 := hst g1 g2
                      haveI kr := fun L => rd_all (ps := ps) (p := ps[a]) (List.getElem_mem g1) (L := L)
                      haveI kq := fun L => rd_all (ps := qs) (p := qs[a]) (List.getElem_mem g2) (L := L)
                      have hO := hOne a g1 g2
                      simp only [g3, decide_false] at hO
                      have hta : ((a : Int) + 1).toNat = a + 1 := by omega
                      haveI kw1 : ∀ L, RdL (Own 116 17 (.slice pw ps.length cw) ps.length (flat qc ps) :: L) 17 (cut (.slice pw ps.length cw) ((a : Int) + 1).toNat ps.length cw 17) (ps.drop (a + 1)).length (flat qc (ps.drop (a + 1))) := fun L => by rw [hta]; exact rd_dropq RdL.own (by omega) hcw
                      haveI kw2 : ∀ L, RdL (Own 116 17 (.slice pn qs.length cn) qs.length (flat qc qs) :: L) 17 (cut (.slice pn qs.length cn) a qs.length cn 17) (qs.drop (a)).length (flat qc (qs.drop (a))) := fun L => by first | exact rd_dropq RdL.own (by omega) hcn | (rw [hta]; exact rd_dropq RdL.own (by omega) hcn)
                      haveI kw3 : ∀ L, RdAll (All (ps.map qrd) :: L) (ps.drop (a + 1)) := fun L => rdall_drop RdAll.here _
                      haveI kw4 : ∀ L, RdAll (All (qs.map qrd) :: L) (qs.drop (a)) := fun L => rdall_drop RdAll.here _
                      have heq : (ps.drop (a + 1)).map (·.1) = (qs.drop (a)).map (·.1) := qsame_drop (by omega) fun j h1 h2 => B5 _ _ h1 h2 (by omega) (by omega)
                      have hS2 := fun F (k1 : RdL F 17 (cut (.slice pw ps.length cw) ((a : Int) + 1).toNat ps.length cw 17) (ps.drop (a + 1)).length (flat qc (ps.drop (a + 1)))) (k2 : RdL F 17 (cut (.slice pn qs.length cn) a qs.length cn 17) (qs.drop (a)).length (flat qc (qs.drop (a)))) (r1 : RdAll F (ps.drop (a + 1))) (r2 : RdAll F (qs.drop (a))) =>
                        ref15_Same (F := F) k1 k2 r1 (fun p hp => hb1 p (List.mem_of_mem_drop hp)) r2 (by simp only [List.length_drop]; omega)
                      have hdd := decide_eq_true heq
                      simp only [hdd] at hS2
                      repeat (first | rintro _ _ ⟨rfl, rfl⟩ | rintro _ _ ⟨_, rfl, rfl⟩ | rintro _ _ ⟨_, _, rfl, rfl⟩ | intro _ | refine go ?_ | (refine is_draw ?_; refine WC_draw mixed (by kernel_rfl) ?_) | refine cal @hO ?_)
                      refine WQ_op (v_slice rfl (Bnd.some rfl (by omega)) Bnd.none Bnd.none (fun h => nomatch h) (by omega) (by omega) (by omega)) rfl ?_
                      repeat (first | rintro _ _ ⟨rfl, rfl⟩ | rintro _ _ ⟨_, rfl, rfl⟩ | rintro _ _ ⟨_, _, rfl, rfl⟩ | intro _ | refine go ?_ | (refine is_draw ?_; refine WC_draw mixed (by kernel_rfl) ?_) | refine cal @hS2 ?_)
                      (apply WE_ret rfl rfl (by (repeat (first | exact ResOk.nil | (apply ResOk.tmp; rfl) | (apply resOk_cell; rfl; exact inferInstance; rfl; rfl)))); (first | exact ⟨rfl, rfl⟩ | exact ⟨congrArg Value.bool (by decide), rfl⟩ | exact ⟨_, rfl, rfl⟩ | exact ⟨_, _, rfl, rfl⟩ | exact ⟨by first | (simp []; done) | (simp [] <;> omega), rfl⟩); (repeat (first | exact Ent.refl | exact Ent.nil | apply Ent.pick | apply Ent.drop)))
                    · have g1 : a < ps.length := by omega
                      have hta : ((a : Int) + 1).toNat = a + 1 := by omega
                      haveI kw1 : ∀ L, RdL (Own 116 17 (.slice pw ps.length cw) ps.length (flat qc ps) :: L) 17 (cut (.slice pw ps.length cw) ((a : Int) + 1).toNat ps.length cw 17) (ps.drop (a + 1)).length (flat qc (ps.drop (a + 1))) := fun L => by rw [hta]; exact rd_dropq RdL.own (by omega) hcw
                      haveI kw2 : ∀ L, RdL (Own 116 17 (.slice pn qs.length cn) qs.length (flat qc qs) :: L) 17 (cut (.slice pn qs.length cn) a qs.length cn 17) (qs.drop (a)).length (flat qc (qs.drop (a))) := fun L => by first | exact rd_dropq RdL.own (by omega) hcn | (rw [hta]; exact rd_dropq RdL.own (by omega) hcn)
                      haveI kw3 : ∀ L, RdAll (All (ps.map qrd) :: L) (ps.drop (a + 1)) := fun L => rdall_drop RdAll.here _
                      haveI kw4 : ∀ L, RdAll (All (qs.map qrd) :: L) (qs.drop (a)) := fun L => rdall_drop RdAll.here _
                      have heq : (ps.drop (a + 1)).map (·.1) = (qs.drop (a)).map (·.1) := qsame_drop (by omega) fun j h1 h2 => B5 _ _ h1 h2 (by omega) (by omega)
                      have hS2 := fun F (k1 : RdL F 17 (cut (.slice pw ps.length cw) ((a : Int) + 1).toNat ps.length cw 17) (ps.drop (a + 1)).length (flat qc (ps.drop (a + 1)))) (k2 : RdL F 17 (cut (.slice pn qs.length cn) a qs.length cn 17) (qs.drop (a)).length (flat qc (qs.drop (a)))) (r1 : RdAll F (ps.drop (a + 1))) (r2 : RdAll F (qs.drop (a))) =>
                        ref15_Same (F := F) k1 k2 r1 (fun p hp => hb1 p (List.mem_of_mem_drop hp)) r2 (by simp only [List.length_drop]; omega)
                      have hdd := decide_eq_true heq
                      simp only [hdd] at hS2
                      repeat (first | rintro _ _ ⟨rfl, rfl⟩ | rintro _ _ ⟨_, rfl, rfl⟩ | rintro _ _ ⟨_, _, rfl, rfl⟩ | intro _ | refine go ?_ | (refine is_draw ?_; refine WC_draw mixed (by kernel_rfl) ?_))
                      refine WQ_op (v_slice rfl (Bnd.some rfl (by omega)) Bnd.none Bnd.none (fun h => nomatch h) (by omega) (by omega) (by omega)) rfl ?_
                      repeat (first | rintro _ _ ⟨rfl, rfl⟩ | rintro _ _ ⟨_, rfl, rfl⟩ | rintro _ _ ⟨_, _, rfl, rfl⟩ | intro _ | refine go ?_ | (refine is_draw ?_; refine WC_draw mixed (by kernel_rfl) ?_) | refine cal @hS2 ?_)
                      (apply WE_ret rfl rfl (by (repeat (first | exact ResOk.nil | (apply ResOk.tmp; rfl) | (apply resOk_cell; rfl; exact inferInstance; rfl; rfl)))); (first | exact ⟨rfl, rfl⟩ | exact ⟨congrArg Value.bool (by decide), rfl⟩ | exact ⟨_, rfl, rfl⟩ | exact ⟨_, _, rfl, rfl⟩ | exact ⟨by first | (simp []; done) | (simp [] <;> omega), rfl⟩); (repeat (first | exact Ent.refl | exact Ent.nil | apply Ent.pick | apply Ent.drop)))
              · repeat (first | rintro _ _ ⟨rfl, rfl⟩ | rintro _ _ ⟨_, rfl, rfl⟩ | rintro _ _ ⟨_, _, rfl, rfl⟩ | intro _ | refine go ?_ | (refine is_draw ?_; refine WC_draw mixed (by kernel_rfl) ?_))
                apply WC_loopE (E0 := [(5, _), (11, _), (15, _)]) (fun E0 (a : Nat) => (16, .int .i64 a) :: E0) (fun _ => Own 116 17 (.slice pn qs.length cn) qs.length (flat qc qs) :: All (qs.map qrd) :: Own 116 17 (.slice pw ps.length cw) ps.length (flat qc ps) :: All (ps.map qrd) :: Cells bx 96 (qoc x) :: Old W :: F) (fun a => a ≤ ps.length ∧ a ≤ qs.length ∧ ∀ j (h1 : j < ps.length) (h2 : j < qs.length), j < a → ps[j].1 = qs[j].1) (fun a => ps.length - a) 0
                · (repeat (first | exact Sub.nil | (refine Sub.cons (by first | rfl | (simp only [Nat.zero_add]; rfl)) ?_)))
                · exact ⟨Nat.zero_le _, Nat.zero_le _, fun j _ _ h => by omega⟩
                · (repeat (first | (with_reducible exact Ent.refl) | exact Ent.nil | (apply ent_pickE; (focus ((repeat (first | (with_reducible exact pk_here) | (apply pk_there))); done))) | apply Ent.drop))
                · rintro a ⟨ha1, ha2, hal⟩
                  by_cases hlt2 : ∃ (h1 : a < ps.length) (h2 : a < qs.length), ps[a].1 = qs[a].1
                  · obtain ⟨g1, g2, g3⟩ := hlt2
                    haveI kr := fun L => rd_all (ps := ps) (p := ps[a]) (List.getElem_mem g1) (L := L)
                    haveI kq := fun L => rd_all (ps := qs) (p := qs[a]) (List.getElem_mem g2) (L := L)
                    have hO := hOne a g1 g2
                    have hd : decide (ps[a].1 = qs[a].1) = true := decide_eq_true g3
                    simp only [hd] at hO
                    repeat (first | rintro _ _ ⟨rfl, rfl⟩ | rintro _ _ ⟨_, rfl, rfl⟩ | rintro _ _ ⟨_, _, rfl, rfl⟩ | intro _ | refine go ?_ | (refine is_draw ?_; refine WC_draw mixed (by kernel_rfl) ?_) | refine cal @hO ?_)
                    refine WE_loop (a + 1) (by omega) ⟨by omega, by omega, fun j h1 h2 hj => ?_⟩ ?_ ?_
                    · by_cases hja : j = a
                      · subst hja; exact g3
                      · exact hal j h1 h2 (by omega)
                    · (repeat (first | exact Sub.nil | (refine Sub.cons (by first | rfl | (simp only [Nat.zero_add]; rfl)) ?_)))
                    · (repeat (first | (with_reducible exact Ent.refl) | exact Ent.nil | (apply ent_pickE; (focus ((repeat (first | (with_reducible exact pk_here) | (apply pk_there))); done))) | apply Ent.drop))
                  · have hst : ∀ (g1 : a < ps.length) (g2 : a < qs.length), ¬ ps[a].1 = qs[a].1 := fun g1 g2 g3 => hlt2 ⟨g1, g2, g3⟩
                    have hai : a = i := by
                      rcases Nat.lt_trichotomy a i with h | h | h
                      · exact absurd (C7 a (by omega) (by omega) (by omega)) (hst (by omega) (by omega))
                      · exact h
                      · exact absurd (hal i i1 i2 h) C6
                    subst hai
                    have g1 := i1
                    have g2 := i2
                    have g3 := hst g1 g2
                    haveI kr := fun L => rd_all (ps := ps) (p := ps[a]) (List.getElem_mem g1) (L := L)
                    haveI kq := fun L => rd_all (ps := qs) (p := qs[a]) (List.getElem_mem g2) (L := L)
                    have hO := hOne a g1 g2
                    simp only [g3, decide_false] at hO
                    have hta : ((a : Int) + 1).toNat = a + 1 := by omega
                    haveI kw1 : ∀ L, RdL (Own 116 17 (.slice pw ps.length cw) ps.length (flat qc ps) :: L) 17 (cut (.slice pw ps.length cw) ((a : Int) + 1).toNat ps.length cw 17) (ps.drop (a + 1)).length (flat qc (ps.drop (a + 1))) := fun L => by rw [hta]; exact rd_dropq RdL.own (by omega) hcw
                    haveI kw2 : ∀ L, RdL (Own 116 17 (.slice pn qs.length cn) qs.length (flat qc qs) :: L) 17 (cut (.slice pn qs.length cn) ((a : Int) + 1).toNat qs.length cn 17) (qs.drop (a + 1)).length (flat qc (qs.drop (a + 1))) := fun L => by first | exact rd_dropq RdL.own (by omega) hcn | (rw [hta]; exact rd_dropq RdL.own (by omega) hcn)
                    haveI kw3 : ∀ L, RdAll (All (ps.map qrd) :: L) (ps.drop (a + 1)) := fun L => rdall_drop RdAll.here _
                    haveI kw4 : ∀ L, RdAll (All (qs.map qrd) :: L) (qs.drop (a + 1)) := fun L => rdall_drop RdAll.here _
                    have heq : (ps.drop (a + 1)).map (·.1) = (qs.drop (a + 1)).map (·.1) := qsame_drop (by omega) fun j h1 h2 => C7 _ h1 h2 (by omega)
                    have hS2 := fun F (k1 : RdL F 17 (cut (.slice pw ps.length cw) ((a : Int) + 1).toNat ps.length cw 17) (ps.drop (a + 1)).length (flat qc (ps.drop (a + 1)))) (k2 : RdL F 17 (cut (.slice pn qs.length cn) ((a : Int) + 1).toNat qs.length cn 17) (qs.drop (a + 1)).length (flat qc (qs.drop (a + 1)))) (r1 : RdAll F (ps.drop (a + 1))) (r2 : RdAll F (qs.drop (a + 1))) =>
                      ref15_Same (F := F) k1 k2 r1 (fun p hp => hb1 p (List.mem_of_mem_drop hp)) r2 (by simp only [List.length_drop]; omega)
                    have hdd := decide_eq_true heq
                    simp only [hdd] at hS2
                    have hmm : List.take 15 (List.drop 0 (qc qs[a])) = List.take 15 (List.drop 0 (qc ps[a])) := by show mc _ = mc _; rw [C4]
                    rcases C1 with C1 | C1
                    · repeat (first | rintro _ _ ⟨rfl, rfl⟩ | rintro _ _ ⟨_, rfl, rfl⟩ | rintro _ _ ⟨_, _, rfl, rfl⟩ | intro _ | refine go ?_ | (refine is_draw ?_; refine WC_draw mixed (by kernel_rfl) ?_) | refine cal @hO ?_)
                      refine WQ_op (v_slice rfl (Bnd.some rfl (by omega)) Bnd.none Bnd.none (fun h => nomatch h) (by omega) (by omega) (by omega)) rfl ?_
                      repeat (first | rintro _ _ ⟨rfl, rfl⟩ | rintro _ _ ⟨_, rfl, rfl⟩ | rintro _ _ ⟨_, _, rfl, rfl⟩ | intro _ | refine go ?_ | (refine is_draw ?_; refine WC_draw mixed (by kernel_rfl) ?_))
                      refine WQ_op (v_slice rfl (Bnd.some rfl (by omega)) Bnd.none Bnd.none (fun h => nomatch h) (by omega) (by omega) (by omega)) rfl ?_
                      repeat (first | rintro _ _ ⟨rfl, rfl⟩ | rintro _ _ ⟨_, rfl, rfl⟩ | rintro _ _ ⟨_, _, rfl, rfl⟩ | intro _ | refine go ?_ | (refine is_draw ?_; refine WC_draw mixed (by kernel_rfl) ?_) | refine cal @hS2 ?_)
                      (apply WE_ret rfl rfl (by (repeat (first | exact ResOk.nil | (apply ResOk.tmp; rfl) | (apply resOk_cell; rfl; exact inferInstance; rfl; rfl)))); (first | exact ⟨rfl, rfl⟩ | exact ⟨congrArg Value.bool (by decide), rfl⟩ | exact ⟨_, rfl, rfl⟩ | exact ⟨_, _, rfl, rfl⟩ | exact ⟨by first | (simp []; done) | (simp [] <;> omega), rfl⟩); (repeat (first | exact Ent.refl | exact Ent.nil | apply Ent.pick | apply Ent.drop)))
                    · repeat (first | rintro _ _ ⟨rfl, rfl⟩ | rintro _ _ ⟨_, rfl, rfl⟩ | rintro _ _ ⟨_, _, rfl, rfl⟩ | intro _ | refine go ?_ | (refine is_draw ?_; refine WC_draw mixed (by kernel_rfl) ?_) | refine cal @hO ?_)
                      refine WQ_op (v_slice rfl (Bnd.some rfl (by omega)) Bnd.none Bnd.none (fun h => nomatch h) (by omega) (by omega) (by omega)) rfl ?_
                      repeat (first | rintro _ _ ⟨rfl, rfl⟩ | rintro _ _ ⟨_, rfl, rfl⟩ | rintro _ _ ⟨_, _, rfl, rfl⟩ | intro _ | refine go ?_ | (refine is_draw ?_; refine WC_draw mixed (by kernel_rfl) ?_))
                      refine WQ_op (v_slice rfl (Bnd.some rfl (by omega)) Bnd.none Bnd.none (fun h => nomatch h) (by omega) (by omega) (by omega)) rfl ?_
                      repeat (first | rintro _ _ ⟨rfl, rfl⟩ | rintro _ _ ⟨_, rfl, rfl⟩ | rintro _ _ ⟨_, _, rfl, rfl⟩ | intro _ | refine go ?_ | (refine is_draw ?_; refine WC_draw mixed (by kernel_rfl) ?_) | refine cal @hS2 ?_)
                      (apply WE_ret rfl rfl (by (repeat (first | exact ResOk.nil | (apply ResOk.tmp; rfl) | (apply resOk_cell; rfl; exact inferInstance; rfl; rfl)))); (first | exact ⟨rfl, rfl⟩ | exact ⟨congrArg Value.bool (by decide), rfl⟩ | exact ⟨_, rfl, rfl⟩ | exact ⟨_, _, rfl, rfl⟩ | exact ⟨by first | (simp []; done) | (simp [] <;> omega), rfl⟩); (repeat (first | exact Ent.refl | exact Ent.nil | apply Ent.pick | apply Ent.drop)))
            · have hno := her he
              have hS := fun F (k1 : RdL F 17 (.slice pw ps.length cw) ps.length (flat qc ps)) (k2 : RdL F 17 (.slice pn qs.length cn) qs.length (flat qc qs)) (r1 : RdAll F ps) (r2 : RdAll F qs) => ref15_Same (F := F) k1 k2 r1 hb1 r2 (by omega)
              have heq : ps.map (·.1) = qs.map (·.1) := by rw [hqs, hno]
              simp only [heq, decide_true] at hS
              repeat (first | rintro _ _ ⟨rfl, rfl⟩ | rintro _ _ ⟨_, rfl, rfl⟩ | rintro _ _ ⟨_, _, rfl, rfl⟩ | intro _ | refine go ?_ | (refine is_draw ?_; refine WC_draw mixed (by kernel_rfl) ?_) | refine cal @hS ?_)
              (apply WE_ret rfl rfl (by (repeat (first | exact ResOk.nil | (apply ResOk.tmp; rfl) | (apply resOk_cell; rfl; exact inferInstance; rfl; rfl)))); (first | exact ⟨rfl, rfl⟩ | exact ⟨congrArg Value.bool (by decide), rfl⟩ | exact ⟨_, rfl, rfl⟩ | exact ⟨_, _, rfl, rfl⟩ | exact ⟨by first | (simp []; done) | (simp [] <;> omega), rfl⟩); (repeat (first | exact Ent.refl | exact Ent.nil | apply Ent.pick | apply Ent.drop)))
      · repeat (first | rintro _ _ ⟨rfl, rfl⟩ | rintro _ _ ⟨_, rfl, rfl⟩ | rintro _ _ ⟨_, _, rfl, rfl⟩ | intro _ | refine go ?_ | (refine is_draw ?_; refine WC_draw mixed (by kernel_rfl) ?_) | refine cal @qu_New_no ?_)
        (apply WE_ret rfl rfl (by (repeat (first | exact ResOk.nil | (apply ResOk.tmp; rfl) | (apply resOk_cell; rfl; exact inferInstance; rfl; rfl)))); (first | exact ⟨rfl, rfl⟩ | exact ⟨congrArg Value.bool (by decide), rfl⟩ | exact ⟨_, rfl, rfl⟩ | exact ⟨_, _, rfl, rfl⟩ | exact ⟨by first | (simp []; done) | (simp [] <;> omega), rfl⟩); (repeat (first | exact Ent.refl | exact Ent.nil | apply Ent.pick | apply Ent.drop)))
end Go.Sx
