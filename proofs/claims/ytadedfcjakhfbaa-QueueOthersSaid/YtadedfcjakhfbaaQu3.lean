/- What queues do: what is told of all. My own work. -/
import Derived.Test.YtadedfcjakhfbaaQu2
namespace Go.Sx
open Go Go.Proofs
set_option linter.unusedVariables false
set_option linter.unusedSectionVars false
set_option linter.unusedSimpArgs false

/-- A slice of requests of its own, each with what is to be sent. -/
def QuL (e : TypeId) (v : Value) (l : List QE) : HP := Ex fun qs : List QP => [Own e 17 v qs.length (flat qc qs), All (qs.map qrd), Fact (qs.map (·.1) = l)]
section
variable {e : TypeId} {v : Value} {l : List QE}
theorem ql_in {qs : List QP} {n : Nat} {xs : List Value} {L M : List HP} (h : Ent L (Own e 17 v n xs :: All (qs.map qrd) :: M)) (hl : qs.map (·.1) = l) (hn : n = qs.length) (hx : xs = flat qc qs) : Ent L (QuL e v l :: M) := by
  subst hn hx
  refine Ent.trans h (Ent.trans ?_ (ex_intro (p := fun qs : List QP => [Own e 17 v qs.length (flat qc qs), All (qs.map qrd), Fact (qs.map (·.1) = l)]) qs))
  exact Ent.cons (Ent.cons (star_fact_mk hl))
theorem ql_sat {L : List HP} {w : World} (h : Sat (QuL e v l :: L) w) : ∃ qs : List QP, qs.map (·.1) = l ∧ Sat (Own e 17 v qs.length (flat qc qs) :: All (qs.map qrd) :: L) w := by
  obtain ⟨qs, hx⟩ := star_ex h
  simp only [app] at hx
  have hf := fact_of (star_drop (star_drop hx))
  exact ⟨qs, hf, (Ent.cons (Ent.cons (Ent.drop Ent.refl))) _ hx⟩
variable {P : Program} {N : Nat} {env : Env} {L : List HP} {Q : Exit → Act → World → Prop}
theorem ql_open {c : Code} (h : ∀ qs : List QP, qs.map (·.1) = l → WC P N c env (Own e 17 v qs.length (flat qc qs) :: All (qs.map qrd) :: L) Q) : WC P N c env (QuL e v l :: L) Q := by
  intro a w ha hw
  obtain ⟨qs, hf, hx⟩ := ql_sat hw
  exact h qs hf a w ha hx
theorem ql_openO {all : Array Oper} {c : List Oper} (h : ∀ qs : List QP, qs.map (·.1) = l → WO P N all c env (Own e 17 v qs.length (flat qc qs) :: All (qs.map qrd) :: L) Q) : WO P N all c env (QuL e v l :: L) Q := by
  intro a w ha hw
  obtain ⟨qs, hf, hx⟩ := ql_sat hw
  exact h qs hf a w ha hx
end
theorem all_more {qs : List QP} {x : QP} {T : TypeId} {L M : List HP} (h : Ent L (Own T 15 (.slice x.2.1 x.1.sends.length x.2.2) x.1.sends.length (flat mc x.1.sends) :: All (qs.map qrd) :: M)) : Ent L (All ((qs ++ [x]).map qrd) :: M) :=
  Ent.trans h (Ent.trans own_rds (all_add (f := qrd) x))
set_option maxRecDepth 100000
set_option maxHeartbeats 4000000
attribute [local irreducible] Go.Exit.then Go.Exit.inBlock Go.Code.wp WC WO WE WQ V LoopQ FnQ Sat Star band bor IntKind.wrap WR Code.rounds WT KO
theorem qu_copied {F : List HP} {p : QP} (k : RdL F 15 (.slice p.2.1 p.1.sends.length p.2.2) p.1.sends.length (flat mc p.1.sends)) (hn : p.1.sends.length ≤ 1099511627776) :
    FnF Try.prog 105 [qv p] [] F (fun r L' => ∃ a c, r = qv (p.1, (a, c)) ∧ L' = [Own 52 15 (.slice a p.1.sends.length c) p.1.sends.length (flat mc p.1.sends)]) := by
  refine FnF.mk' Try.func105 rfl rfl Try.ntmps105 rfl ?_
  repeat (first | rintro _ _ ⟨rfl, rfl⟩ | rintro _ _ ⟨_, rfl, rfl⟩ | rintro _ _ ⟨_, _, rfl, rfl⟩ | intro _ | refine go ?_ | (refine is_draw ?_; refine WC_draw mixed (by kernel_rfl) ?_) | refine cal @sl_Clone_msg ?_)
  rename_i a' c'
  (apply WE_ret rfl rfl (by (repeat (first | exact ResOk.nil | (apply ResOk.tmp; rfl) | (apply resOk_cell; rfl; exact inferInstance; rfl; rfl)))))
  · exact ⟨a', c', rfl, rfl⟩
  · (repeat (first | (with_reducible exact Ent.refl) | exact Ent.nil | (apply ent_pickE; (focus ((repeat (first | (with_reducible exact pk_here) | (apply pk_there))); done))) | apply Ent.drop))

theorem qu_Get {F : List HP} {b : Nat} {room : Int} {l : List QE} {n : Int} (h : qin l n = true) (hn : (qat l n).sends.length ≤ 1099511627776) : FnF Try.prog 61 [.pointer (some ⟨b, 0, none⟩), .int .i64 n] [QuP b room l] F
    (fun r L' => ∃ a c, r = .tuple [qv (qat l n, (a, c)), .bool true].toArray ∧ L' = [Own 52 15 (.slice a (qat l n).sends.length c) (qat l n).sends.length (flat mc (qat l n).sends), QuP b room l]) := by
  have hH := fun F => qu_has (F := F) (b := b) (room := room) (l := l) (n := n)
  rw [h] at hH
  obtain ⟨i, hi, rfl, ea⟩ := qin_t h
  rw [ea] at hn ⊢
  refine FnF.mk' Try.func61 rfl rfl Try.ntmps61 rfl ?_
  repeat (first | rintro _ _ ⟨rfl, rfl⟩ | rintro _ _ ⟨_, rfl, rfl⟩ | rintro _ _ ⟨_, _, rfl, rfl⟩ | intro _ | refine go ?_ | refine cal @hH ?_)
  (first | refine WO_front (QuP b room l) ?_ | refine WC_front (QuP b room l) ?_ | refine WE_front (QuP b room l) ?_)
  refine qu_openO fun p c ps hf => ?_
  obtain ⟨rfl, h1, h2, h3, hcp⟩ := hf
  have hi' : i < ps.length := by simpa using hi
  rw [List.getElem_map] at hn ⊢
  haveI kr := fun L => rd_all (ps := ps) (p := ps[i]) (List.getElem_mem hi') (L := L)
  have hb := (h3 _ (List.getElem_mem hi')).2
  repeat (first | rintro _ _ ⟨rfl, rfl⟩ | rintro _ _ ⟨_, rfl, rfl⟩ | rintro _ _ ⟨_, _, rfl, rfl⟩ | intro _ | refine go ?_ | (refine is_draw ?_; refine WC_draw mixed (by kernel_rfl) ?_) | refine cal @qu_copied ?_)
  (apply WE_ret rfl rfl (by (repeat (first | exact ResOk.nil | (apply ResOk.tmp; rfl) | (apply resOk_cell; rfl; exact inferInstance; rfl; rfl)))))
  · exact ⟨_, _, rfl, rfl⟩
  · ((repeat (first | (with_reducible exact Ent.refl) | exact Ent.nil | (apply ent_pickE; (focus ((repeat (first | (with_reducible exact pk_here) | (apply pk_there))); done))) | (apply qu_in) | apply Ent.drop)); all_goals (first | rfl | (with_reducible assumption) | (simp; done) | (simp; omega) | omega | (constructor <;> (simp) <;> omega)))
theorem qu_Get_no {F : List HP} {b : Nat} {room : Int} {l : List QE} {n : Int} (h : qin l n = false) : FnF Try.prog 61 [.pointer (some ⟨b, 0, none⟩), .int .i64 n] [QuP b room l] F
    (fun r L' => r = .tuple [qv ((⟨.zero, false, []⟩ : QE), (none, 0)), .bool false].toArray ∧ L' = [QuP b room l]) := by
  have hH := fun F => qu_has (F := F) (b := b) (room := room) (l := l) (n := n)
  rw [h] at hH
  refine FnF.mk' Try.func61 rfl rfl Try.ntmps61 rfl ?_
  repeat (first | rintro _ _ ⟨rfl, rfl⟩ | rintro _ _ ⟨_, rfl, rfl⟩ | rintro _ _ ⟨_, _, rfl, rfl⟩ | intro _ | refine go ?_ | (refine is_draw ?_; refine WC_draw mixed (by kernel_rfl) ?_) | refine cal @hH ?_)
  (apply WE_ret rfl rfl (by (repeat (first | exact ResOk.nil | (apply ResOk.tmp; rfl) | (apply resOk_cell; rfl; exact inferInstance; rfl; rfl)))); (first | exact ⟨rfl, rfl⟩ | exact ⟨congrArg Value.bool (by decide), rfl⟩ | exact ⟨_, rfl, rfl⟩ | exact ⟨_, _, rfl, rfl⟩ | exact ⟨by first | (simp []; done) | (simp [] <;> omega), rfl⟩); (repeat (first | exact Ent.refl | exact Ent.nil | apply Ent.pick | apply Ent.drop)))

theorem qu_List {F : List HP} {b : Nat} {room : Int} {l : List QE} : FnF Try.prog 57 [.pointer (some ⟨b, 0, none⟩)] [QuP b room l] F (fun r L' => ∃ p c, r = .slice p l.length c ∧ L' = [QuL 112 (.slice p l.length c) l, QuP b room l]) := by
  refine FnF.mk' Try.func57 rfl rfl Try.ntmps57 rfl ?_
  refine qu_open fun p c ps hf => ?_
  obtain ⟨rfl, h1, h2, h3, hcp⟩ := hf
  repeat (first | rintro _ _ ⟨rfl, rfl⟩ | rintro _ _ ⟨_, rfl, rfl⟩ | rintro _ _ ⟨_, _, rfl, rfl⟩ | intro _ | refine go ?_ | (refine is_draw ?_; refine WC_draw mixed (by kernel_rfl) ?_))
  apply WC_loopE (E0 := [(9, _), (10, _)]) (fun E0 (q : Nat × Option Addr × Nat × List QP) => (11, .int .i64 q.1) :: (3, .slice q.2.1 q.2.2.2.length q.2.2.1) :: E0)
    (fun q => Own 112 17 (.slice q.2.1 q.2.2.2.length q.2.2.1) q.2.2.2.length (flat qc q.2.2.2) :: All (q.2.2.2.map qrd) :: Cells b 169 [.int .i64 room, .slice p ps.length c] :: Own 112 17 (.slice p ps.length c) ps.length (flat qc ps) :: All (ps.map qrd) :: F)
    (fun q => q.1 ≤ ps.length ∧ q.2.2.2.map (·.1) = (ps.take q.1).map (·.1)) (fun q => ps.length - q.1) (0, none, 0, [])
  · (repeat (first | exact Sub.nil | (refine Sub.cons (by first | rfl | (simp only [Nat.zero_add]; rfl)) ?_)))
  · exact ⟨Nat.zero_le _, by simp⟩
  · refine Ent.trans ?_ (own_empty all_nil)
    (repeat (first | (with_reducible exact Ent.refl) | exact Ent.nil | (apply ent_pickE; (focus ((repeat (first | (with_reducible exact pk_here) | (apply pk_there))); done))) | apply Ent.drop))
  · rintro ⟨i, p', c', qs⟩ ⟨hi, hqs⟩
    dsimp only at hi hqs ⊢
    have hlq : qs.length = min i ps.length := by have := congrArg List.length hqs; simpa using this
    by_cases hlt : i < ps.length
    · haveI kr := fun L => rd_all (ps := ps) (p := ps[i]) (List.getElem_mem hlt) (L := L)
      have hb := (h3 _ (List.getElem_mem hlt)).2
      repeat (first | rintro _ _ ⟨rfl, rfl⟩ | rintro _ _ ⟨_, rfl, rfl⟩ | rintro _ _ ⟨_, _, rfl, rfl⟩ | intro _ | refine go ?_ | (refine is_draw ?_; refine WC_draw mixed (by kernel_rfl) ?_) | refine cal @qu_copied ?_)
      rename_i b1 a1 c1 b2 p2 c2
      refine WE_loop (i + 1, p2, c2, qs ++ [(ps[i].1, (a1, c1))]) (by dsimp only; omega) ⟨by dsimp only; omega, ?_⟩ ?_ ?_
      · dsimp only; rw [List.map_append, hqs, List.map_take, List.map_take, List.take_add_one]; simp [hlt]
      · dsimp only; rw [List.length_append, List.length_singleton]; (repeat (first | exact Sub.nil | (refine Sub.cons (by first | rfl | (simp only [Nat.zero_add]; rfl)) ?_)))
      · dsimp only; rw [List.length_append, List.length_singleton, flat_append, flat_one]
        ((repeat (first | (with_reducible exact Ent.refl) | exact Ent.nil | (apply ent_pickE; (focus ((repeat (first | (with_reducible exact pk_here) | (apply pk_there))); done))) | (apply all_more) | apply Ent.drop)); all_goals (first | rfl | (with_reducible assumption) | (simp; done) | (simp; omega) | omega | (constructor <;> (simp) <;> omega)))
    · have hil : i = ps.length := by omega
      subst hil
      rw [List.take_length] at hqs
      have hlq : qs.length = ps.length := by have := congrArg List.length hqs; simpa using this
      repeat (first | rintro _ _ ⟨rfl, rfl⟩ | rintro _ _ ⟨_, rfl, rfl⟩ | rintro _ _ ⟨_, _, rfl, rfl⟩ | intro _ | refine go ?_ | (refine is_draw ?_; refine WC_draw mixed (by kernel_rfl) ?_))
      (apply WE_ret rfl rfl (by (repeat (first | exact ResOk.nil | (apply ResOk.tmp; rfl) | (apply resOk_cell; rfl; exact inferInstance; rfl; rfl)))))
      · exact ⟨p', c', by rw [List.length_map, hlq]; rfl, rfl⟩
      · rw [List.length_map, ← hlq]
        ((repeat (first | (with_reducible exact Ent.refl) | exact Ent.nil | (apply ent_pickE; (focus ((repeat (first | (with_reducible exact pk_here) | (apply pk_there))); done))) | (apply ql_in) | (apply qu_in) | apply Ent.drop)); all_goals (first | rfl | (with_reducible assumption) | (simp; done) | (simp; omega) | omega | (constructor <;> (simp) <;> omega)))
end Go.Sx
