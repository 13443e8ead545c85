/- QuR, TabR: several of my texts as one. My own work. -/
import Derived.Test.YtlaohgngdaglmaaGreatZag
import Derived.Test.YtlaohgngdaglmaaGreatZaa
import Derived.Test.YtlaohgngdaglmaaGreatZaf
/- What queues do: the document's functions. My own work. -/
namespace Go.Sx
open Go Go.Proofs
set_option linter.unusedVariables false
set_option linter.unusedSectionVars false
set_option linter.unusedSimpArgs false
theorem mc_iff {a b : Msg} : mc a = mc b ↔ a = b := by
  rcases a with ⟨a1, a2, a3, a4, a5, a6, a7, ⟨w0, w1, w2, w3, w4, w5, w6, w7⟩⟩
  rcases b with ⟨b1, b2, b3, b4, b5, b6, b7, ⟨v0, v1, v2, v3, v4, v5, v6, v7⟩⟩
  simp [mc]
theorem WE_qopen {T e : TypeId} {b : Nat} {room : Int} {l : List QE} {N : Nat} {x : Exit} {env : Env} {L : List HP} {Q : Exit → Act → World → Prop} (h : ∀ p c0, ∀ ps : List QP, (ps.map (·.1) = l ∧ (ps.length : Int) ≤ room ∧ room ≤ 16 ∧ (∀ p ∈ ps, p.1.sends.length ≤ p.2.2 ∧ p.1.sends.length ≤ 1000) ∧ ps.length ≤ c0) → WE N x env (Cells b T [.int .i64 room, .slice p ps.length c0] :: Own e 17 (.slice p ps.length c0) ps.length (flat qc ps) :: All (ps.map qrd) :: L) Q) : WE N x env (QuB T e b room l :: L) Q := by
  intro a w ha hw
  obtain ⟨p, c0, ps, hf, hx⟩ := qu_sat hw
  exact h p c0 ps hf a w ha hx
set_option maxRecDepth 100000
set_option maxHeartbeats 4000000
attribute [local irreducible] Go.Exit.then Go.Exit.inBlock Go.Code.wp WC WO WE WQ V LoopQ FnQ Sat Star band bor IntKind.wrap WR Code.rounds WT KO
abbrev QuR := QuB 120 216

theorem ref15_One {F : List HP} {p q : QP} (k1 : RdL F 15 (qsl p) p.1.sends.length (flat mc p.1.sends)) (k2 : RdL F 15 (qsl q) q.1.sends.length (flat mc q.1.sends)) (hn : p.1.sends.length ≤ 1099511627776) :
    FnF Tryz.prog 112 [qv p, qv q] [] F (fun r L' => r = .bool (decide (p.1 = q.1)) ∧ L' = []) := by
  refine FnF.mk' Tryz.func112 rfl rfl Tryz.ntmps112 rfl ?_
  by_cases hm : p.1.m = q.1.m
  · have hm' := mc_iff.2 hm
    by_cases hs : p.1.st = q.1.st
    · repeat (first | rintro _ _ ⟨rfl, rfl⟩ | refine exq fun _ => ?_ | intro _ | refine go ?_ | refine drq ?_ | refine cal @ref07_Same ?_)
      have : p.1 = q.1 ↔ p.1.sends = q.1.sends := by rw [← QE.ext_iff']; simp [hm, hs]
      (apply WE_ret rfl rfl (by (repeat (first | exact ResOk.nil | (apply ResOk.tmp; rfl) | (apply resOk_cell; rfl; exact inferInstance; rfl; rfl)))); (first | exact ⟨rfl, rfl⟩ | exact ⟨congrArg Value.bool (by decide), rfl⟩ | exact ⟨_, rfl, rfl⟩ | exact ⟨_, _, rfl, rfl⟩ | exact ⟨by first | (simp [this]; done) | (simp [this] <;> omega), rfl⟩); (repeat (first | exact Ent.refl | exact Ent.nil | apply Ent.pick | apply Ent.drop)))
    · have hne : ¬ (p.1 = q.1) := fun h => hs (by rw [h])
      repeat (first | rintro _ _ ⟨rfl, rfl⟩ | refine exq fun _ => ?_ | intro _ | refine go ?_ | refine drq ?_)
      (apply WE_ret rfl rfl (by (repeat (first | exact ResOk.nil | (apply ResOk.tmp; rfl) | (apply resOk_cell; rfl; exact inferInstance; rfl; rfl)))); (first | exact ⟨rfl, rfl⟩ | exact ⟨congrArg Value.bool (by decide), rfl⟩ | exact ⟨_, rfl, rfl⟩ | exact ⟨_, _, rfl, rfl⟩ | exact ⟨by first | (simp [hne]; done) | (simp [hne] <;> omega), rfl⟩); (repeat (first | exact Ent.refl | exact Ent.nil | apply Ent.pick | apply Ent.drop)))
  · have hm' : ¬ (mc p.1.m = mc q.1.m) := fun h => hm (mc_iff.1 h)
    have hne : ¬ (p.1 = q.1) := fun h => hm (by rw [h])
    repeat (first | rintro _ _ ⟨rfl, rfl⟩ | refine exq fun _ => ?_ | intro _ | refine go ?_ | refine drq ?_)
    (apply WE_ret rfl rfl (by (repeat (first | exact ResOk.nil | (apply ResOk.tmp; rfl) | (apply resOk_cell; rfl; exact inferInstance; rfl; rfl)))); (first | exact ⟨rfl, rfl⟩ | exact ⟨congrArg Value.bool (by decide), rfl⟩ | exact ⟨_, rfl, rfl⟩ | exact ⟨_, _, rfl, rfl⟩ | exact ⟨by first | (simp [hne]; done) | (simp [hne] <;> omega), rfl⟩); (repeat (first | exact Ent.refl | exact Ent.nil | apply Ent.pick | apply Ent.drop)))
theorem ref15_New {F : List HP} {room : Int} (h : 1 ≤ room ∧ room ≤ 16) : FnF Tryz.prog 99 [.int .i64 room] [] F (fun r L' => ∃ b, r = .tuple [.pointer (some ⟨b, 0, none⟩), .int .i64 0].toArray ∧ L' = [QuR b room []]) := by
  refine FnF.mk' Tryz.func99 rfl rfl Tryz.ntmps99 rfl ?_
  repeat (first | rintro _ _ ⟨rfl, rfl⟩ | refine exq fun _ => ?_ | intro _ | refine go ?_ | refine drq ?_)
  (apply WE_ret rfl rfl (by (repeat (first | exact ResOk.nil | (apply ResOk.tmp; rfl) | (apply resOk_cell; rfl; exact inferInstance; rfl; rfl)))))
  · exact ⟨_, rfl, rfl⟩
  · exact qu_in (ps := []) (Ent.cons (own_empty all_nil)) rfl rfl rfl (by simp; omega) h.2 (by simp)
theorem ref15_New_no {F : List HP} {room : Int} (h : ¬ (1 ≤ room ∧ room ≤ 16)) : FnF Tryz.prog 99 [.int .i64 room] [] F (fun r L' => r = .tuple [.pointer none, .int .i64 1].toArray ∧ L' = []) := by
  refine FnF.mk' Tryz.func99 rfl rfl Tryz.ntmps99 rfl ?_
  repeat' (first | rintro _ _ ⟨rfl, rfl⟩ | refine exq fun _ => ?_ | intro _ | refine go ?_ | refine drq ?_ | refine spl ?_ ?_ | fail)
  all_goals first | omega | exact fin0
theorem ref15_Has {F : List HP} {b : Nat} {room : Int} {l : List QE} {n : Int} : FnF Tryz.prog 103 [.pointer (some ⟨b, 0, none⟩), .int .i64 n] [QuR b room l] F (fun r L' => r = .bool (qin l n) ∧ L' = [QuR b room l]) := by
  refine FnF.mk' Tryz.func103 rfl rfl Tryz.ntmps103 rfl ?_
  refine qu_open fun p c ps hf => ?_
  obtain ⟨rfl, h1, h2, h3, hcp⟩ := hf
  by_cases h : 0 ≤ n
  · repeat (first | rintro _ _ ⟨rfl, rfl⟩ | refine exq fun _ => ?_ | intro _ | refine go ?_ | refine drq ?_)
    (apply WE_ret rfl rfl (by (repeat (first | exact ResOk.nil | (apply ResOk.tmp; rfl) | (apply resOk_cell; rfl; exact inferInstance; rfl; rfl)))))
    · exact ⟨by simp [qin, h], rfl⟩
    · ((repeat (first | (with_reducible exact Ent.refl) | exact Ent.nil | (apply ent_pickE; (focus ((repeat (first | (with_reducible exact pk_here) | (apply pk_there))); done))) | (apply qu_in) | apply Ent.drop)); all_goals (first | rfl | (with_reducible assumption) | (simp; done) | (simp; omega) | omega | (constructor <;> (simp) <;> omega)))
  · repeat (first | rintro _ _ ⟨rfl, rfl⟩ | refine exq fun _ => ?_ | intro _ | refine go ?_ | refine drq ?_)
    (apply WE_ret rfl rfl (by (repeat (first | exact ResOk.nil | (apply ResOk.tmp; rfl) | (apply resOk_cell; rfl; exact inferInstance; rfl; rfl)))))
    · exact ⟨by simp [qin, h], rfl⟩
    · ((repeat (first | (with_reducible exact Ent.refl) | exact Ent.nil | (apply ent_pickE; (focus ((repeat (first | (with_reducible exact pk_here) | (apply pk_there))); done))) | (apply qu_in) | apply Ent.drop)); all_goals (first | rfl | (with_reducible assumption) | (simp; done) | (simp; omega) | omega | (constructor <;> (simp) <;> omega)))

theorem ref15_Ready {F : List HP} {b : Nat} {room : Int} {l : List QE} {n : Int} : FnF Tryz.prog 104 [.pointer (some ⟨b, 0, none⟩), .int .i64 n] [QuR b room l] F (fun r L' => r = .bool (qready l n) ∧ L' = [QuR b room l]) := by
  have hH := fun F => ref15_Has (F := F) (b := b) (room := room) (l := l) (n := n)
  cases e : qin l n with
  | false =>
    rw [e] at hH
    refine FnF.mk' Tryz.func104 rfl rfl Tryz.ntmps104 rfl ?_
    repeat (first | rintro _ _ ⟨rfl, rfl⟩ | refine exq fun _ => ?_ | intro _ | refine go ?_ | refine drq ?_ | refine cal @hH ?_)
    (apply WE_ret rfl rfl (by (repeat (first | exact ResOk.nil | (apply ResOk.tmp; rfl) | (apply resOk_cell; rfl; exact inferInstance; rfl; rfl)))))
    · exact ⟨by simp [qready, e], rfl⟩
    · exact entu0
  | true =>
    rw [e] at hH
    obtain ⟨i, hi, rfl, ea⟩ := qin_t e
    refine FnF.mk' Tryz.func104 rfl rfl Tryz.ntmps104 rfl ?_
    repeat (first | rintro _ _ ⟨rfl, rfl⟩ | refine exq fun _ => ?_ | intro _ | refine go ?_ | refine cal @hH ?_)
    (first | refine WO_front (QuR b room l) ?_ | refine WC_front (QuR b room l) ?_ | refine WE_front (QuR b room l) ?_)
    refine qu_openO fun p c ps hf => ?_
    obtain ⟨rfl, h1, h2, h3, hcp⟩ := hf
    have hi' : i < ps.length := by simpa using hi
    have hst : (ps.map (·.1))[i] = ps[i].1 := by simp
    rw [hst] at ea
    cases es : ps[i].1.st with
    | true =>
      repeat (first | rintro _ _ ⟨rfl, rfl⟩ | refine exq fun _ => ?_ | intro _ | refine go ?_ | refine drq ?_)
      (apply WE_ret rfl rfl (by (repeat (first | exact ResOk.nil | (apply ResOk.tmp; rfl) | (apply resOk_cell; rfl; exact inferInstance; rfl; rfl)))))
      · exact ⟨by simp [qready, ea, es], rfl⟩
      · ((repeat (first | (with_reducible exact Ent.refl) | exact Ent.nil | (apply ent_pickE; (focus ((repeat (first | (with_reducible exact pk_here) | (apply pk_there))); done))) | (apply qu_in) | apply Ent.drop)); all_goals (first | rfl | (with_reducible assumption) | (simp; done) | (simp; omega) | omega | (constructor <;> (simp) <;> omega)))
    | false =>
      repeat (first | rintro _ _ ⟨rfl, rfl⟩ | refine exq fun _ => ?_ | intro _ | refine go ?_ | refine drq ?_)
      apply WC_loopE (E0 := [(0, _), (1, _)]) (fun E0 (j : Nat) => (5, .int .i64 j) :: E0) (fun _ => Cells b 120 [.int .i64 room, .slice p ps.length c] :: Own 216 17 (.slice p ps.length c) ps.length (flat qc ps) :: All (ps.map qrd) :: F) (fun j => j ≤ i ∧ ∀ k (hk : k < ps.length), k < j → ps[k].1.m.line ≠ ps[i].1.m.line) (fun j => i - j) 0
      · (repeat (first | exact Sub.nil | (refine Sub.cons (by first | rfl | (simp only [Nat.zero_add]; rfl)) ?_)))
      · exact ⟨Nat.zero_le _, fun k hk h => by omega⟩
      · exact entu0
      · rintro j ⟨hj, hall⟩
        by_cases hlt : j < i
        · have hjl : j < ps.length := by omega
          by_cases hl : ps[j].1.m.line = ps[i].1.m.line
          · have hr : qready (ps.map (·.1)) i = false := by
              have : qfree (ps.map (·.1)) i ps[i].1.m.line = false := by
                simp only [qfree, ← List.map_take, List.all_map, List.all_eq_false]
                exact ⟨ps[j], List.mem_iff_getElem.2 ⟨j, by simp; omega, by simp⟩, by simpa using hl⟩
              simp [qready, ea, this]
            repeat (first | rintro _ _ ⟨rfl, rfl⟩ | refine exq fun _ => ?_ | intro _ | refine go ?_ | refine drq ?_)
            (apply WE_ret rfl rfl (by (repeat (first | exact ResOk.nil | (apply ResOk.tmp; rfl) | (apply resOk_cell; rfl; exact inferInstance; rfl; rfl)))))
            · exact ⟨by rw [hr]; rfl, rfl⟩
            · ((repeat (first | (with_reducible exact Ent.refl) | exact Ent.nil | (apply ent_pickE; (focus ((repeat (first | (with_reducible exact pk_here) | (apply pk_there))); done))) | (apply qu_in) | apply Ent.drop)); all_goals (first | rfl | (with_reducible assumption) | (simp; done) | (simp; omega) | omega | (constructor <;> (simp) <;> omega)))
          · repeat (first | rintro _ _ ⟨rfl, rfl⟩ | refine exq fun _ => ?_ | intro _ | refine go ?_ | refine drq ?_)
            refine WE_loop (j + 1) (by omega) ⟨by omega, fun k hk h => ?_⟩ ?_ ?_
            · by_cases e : k = j
              · subst e; exact hl
              · exact hall k hk (by omega)
            · (repeat (first | exact Sub.nil | (refine Sub.cons (by first | rfl | (simp only [Nat.zero_add]; rfl)) ?_)))
            · exact entu0
        · have hr : qready (ps.map (·.1)) i = true := by
            have : qfree (ps.map (·.1)) i ps[i].1.m.line = true := by
              simp only [qfree, ← List.map_take, List.all_map, List.all_eq_true]
              intro x hx
              obtain ⟨k, hk, rfl⟩ := List.getElem_of_mem hx
              rw [List.length_take] at hk
              have := hall k (by omega) (by omega)
              simpa using this
            simp [qready, ea, this, e, es]
          repeat (first | rintro _ _ ⟨rfl, rfl⟩ | refine exq fun _ => ?_ | intro _ | refine go ?_ | refine drq ?_)
          (apply WE_ret rfl rfl (by (repeat (first | exact ResOk.nil | (apply ResOk.tmp; rfl) | (apply resOk_cell; rfl; exact inferInstance; rfl; rfl)))))
          · exact ⟨by rw [hr]; rfl, rfl⟩
          · ((repeat (first | (with_reducible exact Ent.refl) | exact Ent.nil | (apply ent_pickE; (focus ((repeat (first | (with_reducible exact pk_here) | (apply pk_there))); done))) | (apply qu_in) | apply Ent.drop)); all_goals (first | rfl | (with_reducible assumption) | (simp; done) | (simp; omega) | omega | (constructor <;> (simp) <;> omega)))

theorem dr_QuR_102 {Q P : Prop} (k : Q) (h : Hid Q → P := by
  intro k
  first
  | (refine is_draw ?_; apply WC_mix (id := 5) .false _ (pl := .p 0 <| .p 2 <| .p 3 <| .p 4 <| .r 5 <| .r 7 <| .p 8 <| .e true [(1, .e true [(6, .e true [(9, .e true [(10, .p 11 <| .p 12 <| .e true [(13, .done)])])]), (9, .e true [(6, .e true [(10, .p 11 <| .p 12 <| .e true [(13, .done)])])])]), (9, .e true [(1, .e true [(6, .e true [(10, .p 11 <| .p 12 <| .e true [(13, .done)])])])])]); exact mixed; kernel_rfl; kernel_rfl; exact Ent.refl; exact k.out)) : P := h ⟨k⟩
theorem ref15_Add {F : List HP} {b : Nat} {room : Int} {l : List QE} {m : Msg} : FnF Tryz.prog 102 [.pointer (some ⟨b, 0, none⟩), mv m] [QuR b room l] F (fun r L' => r = .int .i64 (qaddE room l m) ∧ L' = [QuR b room (qaddL room l m)]) := by
  refine FnF.mk' Tryz.func102 rfl rfl Tryz.ntmps102 rfl ?_
  by_cases hk : m.kind < 1 ∨ m.kind > 3
  · have e : qaddE room l m = 1 := by simp only [qaddE, if_pos hk]
    have e2 : qaddL room l m = l := by simp [qaddL, e]
    rw [e, e2]
    by_cases h1 : m.kind < 1
    · repeat (first | rintro _ _ ⟨rfl, rfl⟩ | refine exq fun _ => ?_ | intro _ | refine go ?_ | refine dr_QuR_102 ?_ | refine drq ?_)
      exact fin0
    · repeat (first | rintro _ _ ⟨rfl, rfl⟩ | refine exq fun _ => ?_ | intro _ | refine go ?_ | refine dr_QuR_102 ?_ | refine drq ?_)
      exact fin0
  · refine qu_open fun p c ps hf => ?_
    obtain ⟨rfl, h1, h2, h3, hcp⟩ := hf
    by_cases hf : (ps.length : Int) = room
    · have e : qaddE room (ps.map (·.1)) m = 4 := by simp only [qaddE, if_neg hk, List.length_map, if_pos hf]
      have e2 : qaddL room (ps.map (·.1)) m = ps.map (·.1) := by simp [qaddL, e]
      rw [e, e2]
      repeat (first | rintro _ _ ⟨rfl, rfl⟩ | refine exq fun _ => ?_ | intro _ | refine go ?_ | refine dr_QuR_102 ?_ | refine drq ?_)
      (apply WE_ret rfl rfl (by (repeat (first | exact ResOk.nil | (apply ResOk.tmp; rfl) | (apply resOk_cell; rfl; exact inferInstance; rfl; rfl)))))
      · exact ⟨rfl, rfl⟩
      · ((repeat (first | (with_reducible exact Ent.refl) | exact Ent.nil | (apply ent_pickE; (focus ((repeat (first | (with_reducible exact pk_here) | (apply pk_there))); done))) | (apply qu_in) | apply Ent.drop)); all_goals (first | rfl | (with_reducible assumption) | (simp; done) | (simp; omega) | omega | (constructor <;> (simp) <;> omega)))
    · have e : qaddE room (ps.map (·.1)) m = 0 := by simp only [qaddE, if_neg hk, List.length_map, if_neg hf]
      have e2 : qaddL room (ps.map (·.1)) m = ps.map (·.1) ++ [⟨m, false, []⟩] := by simp [qaddL, e]
      rw [e, e2]
      repeat' (first | rintro _ _ ⟨rfl, rfl⟩ | refine exq fun _ => ?_ | intro _ | refine go ?_ | refine dr_QuR_102 ?_ | refine drq ?_ | refine spl ?_ ?_ | fail)
      all_goals (apply WE_ret rfl rfl (by (repeat (first | exact ResOk.nil | (apply ResOk.tmp; rfl) | (apply resOk_cell; rfl; exact inferInstance; rfl; rfl)))))
      all_goals first | exact ⟨rfl, rfl⟩ | (((repeat (first | (with_reducible exact Ent.refl) | exact Ent.nil | (apply ent_pickE; (focus ((repeat (first | (with_reducible exact pk_here) | (apply pk_there))); done))) | (apply qadd_in) | apply Ent.drop)); all_goals (first | rfl | (with_reducible assumption) | (simp; done) | (simp; omega) | omega | (constructor <;> (simp) <;> omega))))

theorem ref15_out {F : List HP} {b : Nat} {room : Int} {l : List QE} {k : Nat} (hk : k < l.length) : FnF Tryz.prog 182 [.pointer (some ⟨b, 0, none⟩), .int .i64 k] [QuR b room l] F (fun r L' => r = .tuple [].toArray ∧ L' = [QuR b room (l.eraseIdx k)]) := by
  refine FnF.mk' Tryz.func182 rfl rfl Tryz.ntmps182 rfl ?_
  refine qu_open fun p c ps hf => ?_
  obtain ⟨rfl, h1, h2, h3, hcp⟩ := hf
  have hk' : k < ps.length := by simpa using hk
  repeat (first | rintro _ _ ⟨rfl, rfl⟩ | refine exq fun _ => ?_ | intro _ | refine go ?_ | refine drq ?_)
  apply WC_loopE (E0 := [(0, _), (1, _)]) (fun E0 (q : Nat × Option Addr × Nat) => (5, .int .i64 q.1) :: (4, .slice q.2.1 ((ps.take q.1).eraseIdx k).length q.2.2) :: E0)
    (fun q => Own 216 17 (.slice q.2.1 ((ps.take q.1).eraseIdx k).length q.2.2) ((ps.take q.1).eraseIdx k).length (flat qc ((ps.take q.1).eraseIdx k)) :: Cells b 120 [.int .i64 room, .slice p ps.length c] :: Own 216 17 (.slice p ps.length c) ps.length (flat qc ps) :: All (ps.map qrd) :: F) (fun q => q.1 ≤ ps.length) (fun q => ps.length - q.1) (0, _, _)
  · (repeat (first | exact Sub.nil | (refine Sub.cons (by first | rfl | (simp only [Nat.zero_add]; rfl)) ?_)))
  · exact Nat.zero_le _
  · dsimp only; simp only [List.take_zero, List.eraseIdx_nil, List.length_nil, flat_nil]; exact entu0
  · rintro ⟨i, p', c'⟩ hi
    dsimp only at hi ⊢
    have hlen := erase_len (ps.take i) k
    rw [List.length_take] at hlen
    by_cases hlt : i < ps.length
    · by_cases he : i = k
      · repeat (first | rintro _ _ ⟨rfl, rfl⟩ | refine exq fun _ => ?_ | intro _ | refine go ?_ | refine drq ?_)
        refine WE_loop (i + 1, p', c') (by dsimp only; omega) (by dsimp only; omega) ?_ ?_
        · dsimp only; rw [take_erase ps k i hlt, if_pos he]; (repeat (first | exact Sub.nil | (refine Sub.cons (by first | rfl | (simp only [Nat.zero_add]; rfl)) ?_)))
        · dsimp only; rw [take_erase ps k i hlt, if_pos he]; exact Ent.refl
      · repeat (first | rintro _ _ ⟨rfl, rfl⟩ | refine exq fun _ => ?_ | intro _ | refine go ?_ | refine drq ?_)
        rename_i p2 c2
        refine WE_loop (i + 1, p2, c2) (by dsimp only; omega) (by dsimp only; omega) ?_ ?_
        · dsimp only; rw [take_erase ps k i hlt, if_neg he]
          rw [List.length_append, List.length_singleton]
          (repeat (first | exact Sub.nil | (refine Sub.cons (by first | rfl | (simp only [Nat.zero_add]; rfl)) ?_)))
        · dsimp only; rw [take_erase ps k i hlt, if_neg he]
          rw [List.length_append, List.length_singleton, flat_append, flat_one]
          exact entu0
    · repeat (first | rintro _ _ ⟨rfl, rfl⟩ | refine exq fun _ => ?_ | intro _ | refine go ?_ | refine drq ?_)
      have hil : i = ps.length := by omega
      subst hil
      rw [List.take_length]
      (apply WE_ret rfl rfl (by (repeat (first | exact ResOk.nil | (apply ResOk.tmp; rfl) | (apply resOk_cell; rfl; exact inferInstance; rfl; rfl)))))
      · exact ⟨rfl, rfl⟩
      · apply qu_in (ps := ps.eraseIdx k)
        · ((repeat (first | (with_reducible exact Ent.refl) | exact Ent.nil | (apply ent_pickE; (focus ((repeat (first | (with_reducible exact pk_here) | (apply pk_there))); done))) | (apply all_era) | apply Ent.drop)); all_goals (first | rfl | (with_reducible assumption) | (simp; done) | (simp; omega) | omega | (constructor <;> (simp) <;> omega)))
        · rw [map_erase]
        · rfl
        · rfl
        · have := erase_len ps k; omega
        · exact h2
        · exact fun p hp => h3 p (List.mem_of_mem_eraseIdx hp)

theorem ref15_Next {F : List HP} {b : Nat} {room : Int} {l : List QE} {n : Int} : FnF Tryz.prog 108 [.pointer (some ⟨b, 0, none⟩), .int .i64 n] [QuR b room l] F (fun r L' => r = .tuple [mv (qnextM l n), .bool (qnextB l n)].toArray ∧ L' = [QuR b room l]) := by
  have hH := fun F => ref15_Has (F := F) (b := b) (room := room) (l := l) (n := n)
  cases e : qin l n with
  | false =>
    have e1 : qnextB l n = false := by simp [qnextB, e]
    rw [e] at hH
    refine FnF.mk' Tryz.func108 rfl rfl Tryz.ntmps108 rfl ?_
    repeat (first | rintro _ _ ⟨rfl, rfl⟩ | refine exq fun _ => ?_ | intro _ | refine go ?_ | refine drq ?_ | refine cal @hH ?_)
    (apply WE_ret rfl rfl (by (repeat (first | exact ResOk.nil | (apply ResOk.tmp; rfl) | (apply resOk_cell; rfl; exact inferInstance; rfl; rfl)))))
    · exact ⟨by simp [qnextM, e1, Msg.zero, Words.zero], rfl⟩
    · exact entu0
  | true =>
    rw [e] at hH
    obtain ⟨i, hi, rfl, ea⟩ := qin_t e
    refine FnF.mk' Tryz.func108 rfl rfl Tryz.ntmps108 rfl ?_
    repeat (first | rintro _ _ ⟨rfl, rfl⟩ | refine exq fun _ => ?_ | intro _ | refine go ?_ | refine cal @hH ?_)
    (first | refine WO_front (QuR b room l) ?_ | refine WC_front (QuR b room l) ?_ | refine WE_front (QuR b room l) ?_)
    refine qu_openO fun p c ps hf => ?_
    obtain ⟨rfl, h1, h2, h3, hcp⟩ := hf
    have hi' : i < ps.length := by simpa using hi
    have hst : (ps.map (·.1))[i] = ps[i].1 := by simp
    rw [hst] at ea
    by_cases hz : ps[i].1.sends.length = 0
    · have e1 : qnextB (ps.map (·.1)) i = false := by simp [qnextB, ea, hz]
      repeat (first | rintro _ _ ⟨rfl, rfl⟩ | refine exq fun _ => ?_ | intro _ | refine go ?_ | refine drq ?_)
      (apply WE_ret rfl rfl (by (repeat (first | exact ResOk.nil | (apply ResOk.tmp; rfl) | (apply resOk_cell; rfl; exact inferInstance; rfl; rfl)))))
      · exact ⟨by simp [qnextM, e1, Msg.zero, Words.zero], rfl⟩
      · ((repeat (first | (with_reducible exact Ent.refl) | exact Ent.nil | (apply ent_pickE; (focus ((repeat (first | (with_reducible exact pk_here) | (apply pk_there))); done))) | (apply qu_in) | apply Ent.drop)); all_goals (first | rfl | (with_reducible assumption) | (simp; done) | (simp; omega) | omega | (constructor <;> (simp) <;> omega)))
    · have e1 : qnextB (ps.map (·.1)) i = true := by simp [qnextB, ea, hz, e]
      haveI kr := fun L => rd_all (ps := ps) (p := ps[i]) (List.getElem_mem hi') (L := L)
      have hq : qnextM (ps.map (·.1)) i = ps[i].1.sends[Int.toNat 0] := by simp only [qnextM, e1, if_true, ea]; exact headD_at (by omega)
      repeat (first | rintro _ _ ⟨rfl, rfl⟩ | refine exq fun _ => ?_ | intro _ | refine go ?_ | refine drq ?_)
      (apply WE_ret rfl rfl (by (repeat (first | exact ResOk.nil | (apply ResOk.tmp; rfl) | (apply resOk_cell; rfl; exact inferInstance; rfl; rfl)))))
      · exact ⟨by rw [hq, e1]; rfl, rfl⟩
      · ((repeat (first | (with_reducible exact Ent.refl) | exact Ent.nil | (apply ent_pickE; (focus ((repeat (first | (with_reducible exact pk_here) | (apply pk_there))); done))) | (apply qu_in) | apply Ent.drop)); all_goals (first | rfl | (with_reducible assumption) | (simp; done) | (simp; omega) | omega | (constructor <;> (simp) <;> omega)))

theorem dr_QuR_106 {Q P : Prop} (k : Q) (h : Hid Q → P := by
  intro k
  first
  | (refine is_draw ?_; apply WC_mix (id := 5) .false _ (pl := .p 0 <| .p 1 <| .p 2 <| .p 4 <| .p 5 <| .p 6 <| .p 7 <| .p 9 <| .p 14 <| .r 3 <| .r 8 <| .p 10 <| .p 11 <| .r 12 <| .e true [(13, .e true [(15, .p 16 <| .p 17 <| .e true [(18, .done)])])]); exact mixed; kernel_rfl; kernel_rfl; exact Ent.refl; exact k.out)) : P := h ⟨k⟩
theorem ref15_Start {F : List HP} {b : Nat} {room : Int} {l : List QE} {n : Int} {u : Value} {s : List Msg} (k : RdL F 15 u s.length (flat mc s)) (hs : s.length ≤ 1000) :
    FnF Tryz.prog 106 [.pointer (some ⟨b, 0, none⟩), .int .i64 n, u] [QuR b room l] F (fun r L' => r = .int .i64 (qstartE l n s) ∧ L' = [QuR b room (qstartL l n s)]) := by
  have hH := fun F => ref15_Has (F := F) (b := b) (room := room) (l := l) (n := n)
  have hR := fun F => ref15_Ready (F := F) (b := b) (room := room) (l := l) (n := n)
  cases e : qin l n with
  | false =>
    have e1 : qstartE l n s = 5 := by simp [qstartE, e]
    have e2 : qstartL l n s = l := by simp [qstartL, e1]
    rw [e1, e2]
    rw [e] at hH
    refine FnF.mk' Tryz.func106 rfl rfl Tryz.ntmps106 rfl ?_
    repeat (first | rintro _ _ ⟨rfl, rfl⟩ | refine exq fun _ => ?_ | intro _ | refine go ?_ | refine dr_QuR_106 ?_ | refine drq ?_ | refine cal @hH ?_)
    exact fin0
  | true =>
    rw [e] at hH
    cases er : qready l n with
    | false =>
      have e1 : qstartE l n s = 7 := by simp [qstartE, e, er]
      have e2 : qstartL l n s = l := by simp [qstartL, e1]
      rw [e1, e2]
      rw [er] at hR
      refine FnF.mk' Tryz.func106 rfl rfl Tryz.ntmps106 rfl ?_
      repeat (first | rintro _ _ ⟨rfl, rfl⟩ | refine exq fun _ => ?_ | intro _ | refine go ?_ | refine dr_QuR_106 ?_ | refine drq ?_ | refine cal @hH ?_ | refine cal @hR ?_)
      exact fin0
    | true =>
      rw [er] at hR
      by_cases hz : s.length = 0
      · have e1 : qstartE l n s = 7 := by simp [qstartE, e, er, hz]
        have e2 : qstartL l n s = l := by simp [qstartL, e1]
        rw [e1, e2]
        refine FnF.mk' Tryz.func106 rfl rfl Tryz.ntmps106 rfl ?_
        repeat (first | rintro _ _ ⟨rfl, rfl⟩ | refine exq fun _ => ?_ | intro _ | refine go ?_ | refine dr_QuR_106 ?_ | refine drq ?_ | refine cal @hH ?_ | refine cal @hR ?_)
        exact fin0
      · have e1 : qstartE l n s = 0 := by simp [qstartE, e, er, hz]
        obtain ⟨i, hi, rfl, ea⟩ := qin_t e
        have e2 : qstartL l i s = l.set i { l[i] with st := true, sends := s } := by simp [qstartL, e1, ea]
        rw [e1, e2]
        refine FnF.mk' Tryz.func106 rfl rfl Tryz.ntmps106 rfl ?_
        repeat (first | rintro _ _ ⟨rfl, rfl⟩ | refine exq fun _ => ?_ | intro _ | refine go ?_ | refine cal @hH ?_ | refine cal @hR ?_)
        (first | refine WO_front (QuR b room l) ?_ | refine WC_front (QuR b room l) ?_ | refine WE_front (QuR b room l) ?_)
        refine qu_open fun p c ps hf => ?_
        obtain ⟨rfl, h1, h2, h3, hcp⟩ := hf
        have hi' : i < ps.length := by simpa using hi
        (first | (refine WO_some (.slice p ps.length c) inferInstance (by omega) ?_; intro _) | (refine WC_some (.slice p ps.length c) inferInstance (by omega) ?_; intro _))
        have hmc : List.take 15 (List.drop 0 (qc ps[i])) = mc ps[i].1.m := rfl
        repeat (first | rintro _ _ ⟨rfl, rfl⟩ | refine exq fun _ => ?_ | intro _ | refine go ?_ | refine dr_QuR_106 ?_ | refine drq ?_)
        simp only [hmc, Nat.zero_add, List.nil_append]
        repeat (first | rintro _ _ ⟨rfl, rfl⟩ | refine exq fun _ => ?_ | intro _ | refine go ?_ | refine dr_QuR_106 ?_ | refine drq ?_)
        rename_i ba p' c'
        have hset := fun L M => @all_set ps i hi' ((⟨ps[i].1.m, true, s⟩ : QE), (p', c')) 38 L M
        (first | refine WO_front (Own 38 15 (.slice p' s.length c') s.length (flat mc s)) ?_ | refine WC_front (Own 38 15 (.slice p' s.length c') s.length (flat mc s)) ?_ | refine WE_front (Own 38 15 (.slice p' s.length c') s.length (flat mc s)) ?_)
        refine WE_owncap fun hc' => ?_
        (apply WE_ret rfl rfl (by (repeat (first | exact ResOk.nil | (apply ResOk.tmp; rfl) | (apply resOk_cell; rfl; exact inferInstance; rfl; rfl)))))
        · exact ⟨rfl, rfl⟩
        · apply qu_in (ps := ps.set i ((⟨ps[i].1.m, true, s⟩ : QE), (p', c')))
          · ((repeat (first | (with_reducible exact Ent.refl) | exact Ent.nil | (apply ent_pickE; (focus ((repeat (first | (with_reducible exact pk_here) | (apply pk_there))); done))) | (apply hset) | apply Ent.drop)); all_goals (first | rfl | (with_reducible assumption) | (simp; done) | (simp; omega) | omega | (constructor <;> (simp) <;> omega)))
          · rw [qset_map]; simp
          · simp
          · exact splice_flatJ0 (enc := qc) (n := 17) (fun _ => rfl) ps i hi' (by simp) rfl
          · simpa using h1
          · exact h2
          · exact qcap_set h3 ⟨hc', hs⟩
end Go.Sx

/- The document's table. My own work. -/
namespace Go.Sx
open Go Go.Proofs
set_option linter.unusedVariables false
set_option linter.unusedSectionVars false
set_option linter.unusedSimpArgs false
theorem next_ok1 {e : TEnt} {m : Msg} (hok : okT e m = true) (hk : m.kind = 1) (ho : ¬ e.o = m.src) : nextE e m = 0 := by unfold nextE; rw [if_pos hok, if_pos hk, if_neg ho]
theorem own_one {T : TypeId} {b : Nat} {m : Msg} {L M : List HP} (h : Ent L M) : Ent (Cells b T (mc m) :: L) (Own T 15 (.slice (some ⟨b, 0, none⟩) [m].length 1) [m].length (flat mc [m]) :: M) :=
  own_close (n := 1) (cap := 1) (sz := 15) (l := mc m) (xs := flat mc [m]) rfl (Nat.le_refl _) (by decide) rfl rfl h
theorem okT_kinds {e : TEnt} {m : Msg} (hok : okT e m = true) (hk : m.kind = 2 ∨ m.kind = 3) : nextE e m = 0 := by
  unfold nextE
  rw [if_pos hok, if_neg (by omega)]
  rcases hk with h | h
  · rw [if_pos h]
  · rw [if_neg (by omega), if_pos h]
set_option maxRecDepth 100000
set_option maxHeartbeats 4000000
attribute [local irreducible] Go.Exit.then Go.Exit.inBlock Go.Code.wp WC WO WE WQ V LoopQ FnQ Sat Star band bor IntKind.wrap WR Code.rounds WT KO
theorem ref13_May {F : List HP} {e : TEnt} {a : Option Addr} {k : Nat} (hk : RdL F 1 (.slice a e.s.ps.length k) e.s.ps.length (flat ic e.s.ps)) (hn : e.s.ps.length ≤ 1000) : FnF Tryz.prog 177 [.agg (tec e a k).toArray] [] F (fun r L' => r = .bool (mayT e) ∧ L' = []) := by
  have hM := fun F (hk : RdL F 1 (.slice a e.s.ps.length k) e.s.ps.length (flat ic e.s.ps)) => ref08_May (F := F) hk hn
  refine FnF.mk' Tryz.func177 rfl rfl Tryz.ntmps177 rfl ?_
  cases hm : shMay e.s with
  | true =>
    simp only [hm] at hM
    by_cases h1 : -1 ≤ e.o
    · repeat (first | rintro _ _ ⟨rfl, rfl⟩ | refine exq fun _ => ?_ | intro _ | refine go ?_ | refine drq ?_ | refine cal @hM ?_)
      (apply WE_ret rfl rfl (by (repeat (first | exact ResOk.nil | (apply ResOk.tmp; rfl) | (apply resOk_cell; rfl; exact inferInstance; rfl; rfl)))); (first | exact ⟨rfl, rfl⟩ | exact ⟨congrArg Value.bool (by decide), rfl⟩ | exact ⟨_, rfl, rfl⟩ | exact ⟨_, _, rfl, rfl⟩ | exact ⟨by first | (simp [mayT, hm, h1]; done) | (simp [mayT, hm, h1] <;> omega), rfl⟩); (repeat (first | exact Ent.refl | exact Ent.nil | apply Ent.pick | apply Ent.drop)))
    · repeat (first | rintro _ _ ⟨rfl, rfl⟩ | refine exq fun _ => ?_ | intro _ | refine go ?_ | refine drq ?_ | refine cal @hM ?_)
      (apply WE_ret rfl rfl (by (repeat (first | exact ResOk.nil | (apply ResOk.tmp; rfl) | (apply resOk_cell; rfl; exact inferInstance; rfl; rfl)))); (first | exact ⟨rfl, rfl⟩ | exact ⟨congrArg Value.bool (by decide), rfl⟩ | exact ⟨_, rfl, rfl⟩ | exact ⟨_, _, rfl, rfl⟩ | exact ⟨by first | (simp [mayT, hm, h1]; done) | (simp [mayT, hm, h1] <;> omega), rfl⟩); (repeat (first | exact Ent.refl | exact Ent.nil | apply Ent.pick | apply Ent.drop)))
  | false =>
    simp only [hm] at hM
    repeat (first | rintro _ _ ⟨rfl, rfl⟩ | refine exq fun _ => ?_ | intro _ | refine go ?_ | refine drq ?_ | refine cal @hM ?_)
    (apply WE_ret rfl rfl (by (repeat (first | exact ResOk.nil | (apply ResOk.tmp; rfl) | (apply resOk_cell; rfl; exact inferInstance; rfl; rfl)))); (first | exact ⟨rfl, rfl⟩ | exact ⟨congrArg Value.bool (by decide), rfl⟩ | exact ⟨_, rfl, rfl⟩ | exact ⟨_, _, rfl, rfl⟩ | exact ⟨by first | (simp [mayT, hm]; done) | (simp [mayT, hm] <;> omega), rfl⟩); (repeat (first | exact Ent.refl | exact Ent.nil | apply Ent.pick | apply Ent.drop)))
theorem ref13_New {F : List HP} {cores most : Int} : FnF Tryz.prog 100 [.int .i64 cores, .int .i64 most] [] F
    (fun r L' => r = .tuple [.agg (tec (if shMay ⟨cores, most, [], false⟩ then ⟨-1, ⟨cores, most, [], false⟩⟩ else .no) none 0).toArray, .int .i64 (if shMay ⟨cores, most, [], false⟩ then 0 else 1)].toArray ∧ L' = []) := by
  have hN := fun F => ref13_May (F := F) (e := ⟨-1, ⟨cores, most, [], false⟩⟩) (a := none) (k := 0) rd_empty (by simp)
  cases e : shMay ⟨cores, most, [], false⟩ with
  | true =>
    have e2 : mayT ⟨-1, ⟨cores, most, [], false⟩⟩ = true := by
      have := (may_facts' e).1
      exact mayT_mk e (by simp) (by dsimp only at this ⊢; omega)
    simp only [e, e2, if_true] at hN ⊢
    refine FnF.mk' Tryz.func100 rfl rfl Tryz.ntmps100 rfl ?_
    repeat (first | rintro _ _ ⟨rfl, rfl⟩ | refine exq fun _ => ?_ | intro _ | refine go ?_ | refine drq ?_ | refine cal @hN ?_)
    exact fin0
  | false =>
    have e2 : mayT ⟨-1, ⟨cores, most, [], false⟩⟩ = false := by simp [mayT, e]
    simp only [e, e2, Bool.false_eq_true, if_false] at hN ⊢
    refine FnF.mk' Tryz.func100 rfl rfl Tryz.ntmps100 rfl ?_
    repeat (first | rintro _ _ ⟨rfl, rfl⟩ | refine exq fun _ => ?_ | intro _ | refine go ?_ | refine drq ?_ | refine cal @hN ?_)
    exact fin0
theorem ref13_msg {F : List HP} {m : Msg} {kind to who acks own : Int} {w : Words} : FnF Tryz.prog 180 [mv m, .int .i64 kind, .int .i64 to, .int .i64 who, .int .i64 acks, .int .i64 own, wv w] [] F (fun r L' => r = mv (msgT m kind to who acks own w) ∧ L' = []) := by
  refine FnF.mk' Tryz.func180 rfl rfl Tryz.ntmps180 rfl ?_
  repeat (first | rintro _ _ ⟨rfl, rfl⟩ | refine exq fun _ => ?_ | intro _ | refine go ?_ | refine drq ?_)
  (apply WE_ret rfl rfl (by (repeat (first | exact ResOk.nil | (apply ResOk.tmp; rfl) | (apply resOk_cell; rfl; exact inferInstance; rfl; rfl)))); (first | exact ⟨rfl, rfl⟩ | exact ⟨congrArg Value.bool (by decide), rfl⟩ | exact ⟨_, rfl, rfl⟩ | exact ⟨_, _, rfl, rfl⟩ | exact ⟨by first | (simp [msgT]; done) | (simp [msgT] <;> omega), rfl⟩); (repeat (first | exact Ent.refl | exact Ent.nil | apply Ent.pick | apply Ent.drop)))
theorem ref13_msgz {F : List HP} {m : Msg} {kind to who acks own : Int} : FnF Tryz.prog 180 [mv m, .int .i64 kind, .int .i64 to, .int .i64 who, .int .i64 acks, .int .i64 own, wv .zero] [] F (fun r L' => r = mv (msgT m kind to who acks own .zero) ∧ L' = []) := ref13_msg
theorem dr_TabR_105 {Q P : Prop} (k : Q) (h : Hid Q → P := by
  intro k
  first
  | (refine is_draw ?_; apply WC_mix (id := 10) .false _ (pl := .p 0 <| .p 5 <| .p 7 <| .r 1 <| .r 2 <| .p 3 <| .r 4 <| .r 6 <| .r 8 <| .e true [(9, .e true [(10, .p 11 <| .e true [(12, .p 13 <| .done)])])]); exact mixed; kernel_rfl; kernel_rfl; exact Ent.refl; exact k.out)
  | (refine is_draw ?_; apply WC_mix (id := 12) .false _ (pl := .p 0 <| .p 4 <| .r 1 <| .p 2 <| .r 3 <| .r 5 <| .e true [(6, .e true [(7, .p 8 <| .e true [(9, .p 10 <| .done)])])]); exact mixed; kernel_rfl; kernel_rfl; exact Ent.refl; exact k.out)
  | (refine is_draw ?_; apply WC_mix (id := 14) .false _ (pl := .p 3 <| .r 0 <| .p 1 <| .r 2 <| .r 4 <| .e true [(5, .e true [(6, .p 7 <| .e true [(8, .p 9 <| .done)])])]); exact mixed; kernel_rfl; kernel_rfl; exact Ent.refl; exact k.out)
  | (refine is_draw ?_; apply WC_mix (id := 16) .false _ (pl := .p 2 <| .r 0 <| .r 1 <| .r 3 <| .e true [(4, .e true [(5, .p 6 <| .e true [(7, .e true [(8, .done)])]), (7, .e true [(5, .p 6 <| .e true [(8, .done)])])]), (7, .e true [(4, .e true [(5, .p 6 <| .e true [(8, .done)])])])]); exact mixed; kernel_rfl; kernel_rfl; exact Ent.refl; exact k.out)
  | (refine is_draw ?_; apply WC_mix (id := 25) .false _ (pl := .p 0 <| .p 3 <| .p 4 <| .r 1 <| .r 2 <| .r 5 <| .e true [(6, .e true [(7, .e true [(8, .p 9 <| .e true [(10, .done)])])])]); exact mixed; kernel_rfl; kernel_rfl; exact Ent.refl; exact k.out)
  | (refine is_draw ?_; apply WC_mix (id := 27) .false _ (pl := .p 0 <| .p 3 <| .p 4 <| .r 1 <| .r 2 <| .r 5 <| .e true [(6, .e true [(7, .e true [(8, .p 9 <| .e true [(10, .done)])])])]); exact mixed; kernel_rfl; kernel_rfl; exact Ent.refl; exact k.out)
  | (refine is_draw ?_; apply WC_mix (id := 28) .false _ (pl := .p 0 <| .p 3 <| .p 5 <| .p 6 <| .r 1 <| .r 2 <| .r 4 <| .r 7 <| .e true [(8, .e true [(9, .e true [(10, .p 11 <| .e true [(12, .done)])])])]); exact mixed; kernel_rfl; kernel_rfl; exact Ent.refl; exact k.out)
  | (refine is_draw ?_; apply WC_mix (id := 32) .false _ (pl := .p 0 <| .p 3 <| .p 4 <| .p 5 <| .p 7 <| .r 1 <| .r 2 <| .r 6 <| .r 8 <| .e true [(9, .e true [(10, .e true [(11, .p 12 <| .e true [(13, .done)])])])]); exact mixed; kernel_rfl; kernel_rfl; exact Ent.refl; exact k.out)) : P := h ⟨k⟩
theorem ref13_Next_no {F : List HP} {e : TEnt} {a : Option Addr} {k : Nat} {m : Msg} {w : Words} (hk : RdL F 1 (.slice a e.s.ps.length k) e.s.ps.length (flat ic e.s.ps)) (hn : e.s.ps.length ≤ 1000) (h : okT e m = false ∨ (m.kind < 1 ∨ m.kind > 3)) :
    FnF Tryz.prog 105 [.agg (tec e a k).toArray, mv m, wv w] [] F (fun r L' => r = .tuple [.agg (tuc .no none 0 none 0 0 false).toArray, .int .i64 1].toArray ∧ L' = []) := by
  have hM := fun F (hk : RdL F 1 (.slice a e.s.ps.length k) e.s.ps.length (flat ic e.s.ps)) => ref13_May (F := F) hk hn
  refine FnF.mk' Tryz.func105 rfl rfl Tryz.ntmps105 rfl ?_
  cases hm : mayT e with
  | false =>
    simp only [hm] at hM
    repeat (first | rintro _ _ ⟨rfl, rfl⟩ | refine exq fun _ => ?_ | intro _ | refine go ?_ | refine dr_TabR_105 ?_ | refine drq ?_ | refine cal @hM ?_)
    exact fin0
  | true =>
    simp only [hm] at hM
    simp only [okT, hm, Bool.true_and, Bool.and_eq_false_iff, decide_eq_false_iff_not] at h
    by_cases h1 : m.kind < 1
    · repeat (first | rintro _ _ ⟨rfl, rfl⟩ | refine exq fun _ => ?_ | intro _ | refine go ?_ | refine dr_TabR_105 ?_ | refine drq ?_ | refine cal @hM ?_)
      exact fin0
    · by_cases h2 : m.kind > 3
      · repeat (first | rintro _ _ ⟨rfl, rfl⟩ | refine exq fun _ => ?_ | intro _ | refine go ?_ | refine dr_TabR_105 ?_ | refine drq ?_ | refine cal @hM ?_)
        exact fin0
      · by_cases h3 : m.src < 0
        · repeat (first | rintro _ _ ⟨rfl, rfl⟩ | refine exq fun _ => ?_ | intro _ | refine go ?_ | refine dr_TabR_105 ?_ | refine drq ?_ | refine cal @hM ?_)
          exact fin0
        · have h4 : m.src ≥ e.s.cores := by omega
          repeat (first | rintro _ _ ⟨rfl, rfl⟩ | refine exq fun _ => ?_ | intro _ | refine go ?_ | refine dr_TabR_105 ?_ | refine drq ?_ | refine cal @hM ?_)
          exact fin0
theorem ref13_Next_own {F : List HP} {e : TEnt} {a : Option Addr} {k : Nat} {m : Msg} {w : Words} (hk : RdL F 1 (.slice a e.s.ps.length k) e.s.ps.length (flat ic e.s.ps)) (hok : okT e m = true) (hkd : m.kind = 1) (ho : e.o = m.src) :
    FnF Tryz.prog 105 [.agg (tec e a k).toArray, mv m, wv w] [] F (fun r L' => r = .tuple [.agg (tuc .no none 0 none 0 0 false).toArray, .int .i64 7].toArray ∧ L' = []) := by
  obtain ⟨hm, h2, h3, h4, h5⟩ := okT_facts hok
  have hmay : mayT e = true := mayT_mk hm h2 h3
  have hn := (may_facts' hm).2.2
  have hM := fun F (hk : RdL F 1 (.slice a e.s.ps.length k) e.s.ps.length (flat ic e.s.ps)) => ref13_May (F := F) hk (by omega)
  simp only [hmay] at hM
  refine FnF.mk' Tryz.func105 rfl rfl Tryz.ntmps105 rfl ?_
  cases hh : shHas e.s m.src with
  | true =>
    have hA := fun F (hk : RdL F 1 (.slice a e.s.ps.length k) e.s.ps.length (flat ic e.s.ps)) => ref08_Add_has (F := F) (x := m.src) hk hm h4 h5 hh
    repeat (first | rintro _ _ ⟨rfl, rfl⟩ | refine exq fun _ => ?_ | intro _ | refine go ?_ | refine dr_TabR_105 ?_ | refine drq ?_ | refine cal @hM ?_ | refine cal @hA ?_)
    exact fin0
  | false =>
    have hA := fun F (hk : RdL F 1 (.slice a e.s.ps.length k) e.s.ps.length (flat ic e.s.ps)) => ref08_Add (F := F) (x := m.src) hk (by omega) (fun h => by rw [hh] at h; cases h)
    repeat (first | rintro _ _ ⟨rfl, rfl⟩ | refine exq fun _ => ?_ | intro _ | refine go ?_ | refine dr_TabR_105 ?_ | refine drq ?_ | refine cal @hM ?_ | refine cal @hA ?_)
    exact fin0
end Go.Sx
