/- The laws of queues. My own work. -/
import Derived.Test.YtadedfcjakhfbaaQu3
import Derived.Test.YtadedfcjakhfbaaQuR2
namespace Go.Sx
open Go Go.Proofs
set_option linter.unusedVariables false
set_option linter.unusedSectionVars false
set_option linter.unusedSimpArgs false
/-- An operation's messages can be read. -/
def QOp.ok (W : World) (o : QOp) : Prop := (I64 o.d ∧ I64 o.n ∧ o.m.wf) ∧ ROld W 15 (.slice o.a o.sends.length o.c) o.sends.length (flat mc o.sends) ∧ o.sends.length ≤ 9223372036854775807
/-- How many messages there are, one more for each operation. -/
def qsum (l : List QOp) : Int := (l.map fun o => (o.sends.length : Int) + 1).sum
abbrev qcv (e : QE) (a : Option Addr) (c : Nat) : List Value := [.int .i64 e.m.kind, .int .i64 e.m.line, .int .i64 e.m.src, .int .i64 e.m.dst, .int .i64 e.m.who, .int .i64 e.m.acks, .int .i64 e.m.own, .int .i64 e.m.words.w0, .int .i64 e.m.words.w1, .int .i64 e.m.words.w2, .int .i64 e.m.words.w3, .int .i64 e.m.words.w4, .int .i64 e.m.words.w5, .int .i64 e.m.words.w6, .int .i64 e.m.words.w7, .bool e.st, .slice a e.sends.length c]
set_option maxRecDepth 100000
set_option maxHeartbeats 4000000
attribute [local irreducible] Go.Exit.then Go.Exit.inBlock Go.Code.wp WC WO WE WQ V LoopQ FnQ Sat Star band bor IntKind.wrap WR Code.rounds WT KO
theorem qu_Gete {F : List HP} {b : Nat} {room : Int} {l : List QE} {n : Int} (h : qin l n = true) (hn : (qat l n).sends.length ≤ 1099511627776) : FnF Try.prog 61 [.pointer (some ⟨b, 0, none⟩), .int .i64 n] [QuP b room l] F
    (fun r L' => ∃ a c, r = .tuple [.agg (qcv (qat l n) a c).toArray, .bool true].toArray ∧ L' = [Own 52 15 (.slice a (qat l n).sends.length c) (qat l n).sends.length (flat mc (qat l n).sends), QuP b room l]) := qu_Get h hn
theorem qu_do {W : World} {F : List HP} {b : Nat} {room : Int} {l : List QE} {x : QOp} (hx : x.ok W) (hs : x.sends.length ≤ 1000) : FnF Try.prog 49 [.pointer (some ⟨b, 0, none⟩), qov x] [QuP b room l, Old W] F
    (fun r L' => r = .tuple [mv (qdoM l x), .bool (qdoB l x), .int .i64 (qdoE room l x)].toArray ∧ L' = [QuP b room (qdoL room l x), Old W]) := by
  haveI := hx.2.1
  refine FnF.mk' Try.func49 rfl rfl Try.ntmps49 rfl ?_
  by_cases h0 : x.d = 0
  · simp only [qdoM, qdoB, qdoE, qdoL, if_pos h0]
    repeat (first | rintro _ _ ⟨rfl, rfl⟩ | rintro _ _ ⟨_, rfl, rfl⟩ | rintro _ _ ⟨_, _, rfl, rfl⟩ | intro _ | refine go ?_ | (refine is_draw ?_; apply WC_mix (id := 8) true _ (pl := .p 1 <| .p 2 <| .p 3 <| .r 4 <| .e true [(0, .e true [(5, .e false [(6, .p 7 <| .p 8 <| .done)])]), (5, .e false [(0, .e false [(6, .p 7 <| .p 8 <| .done)])])]); exact mixed; kernel_rfl; kernel_rfl; exact Ent.refl) | (refine is_draw ?_; refine WC_draw mixed (by kernel_rfl) ?_) | refine cal @qu_Add ?_)
    (apply WE_ret rfl rfl (by (repeat (first | exact ResOk.nil | (apply ResOk.tmp; rfl) | (apply resOk_cell; rfl; exact inferInstance; rfl; rfl)))))
    · exact ⟨rfl, rfl⟩
    · (repeat (first | (with_reducible exact Ent.refl) | exact Ent.nil | (apply ent_pickE; (focus ((repeat (first | (with_reducible exact pk_here) | (apply pk_there))); done))) | apply Ent.drop))
  · by_cases h1 : x.d = 1
    · simp only [qdoM, qdoB, qdoE, qdoL, if_neg h0, if_pos h1]
      repeat (first | rintro _ _ ⟨rfl, rfl⟩ | rintro _ _ ⟨_, rfl, rfl⟩ | rintro _ _ ⟨_, _, rfl, rfl⟩ | intro _ | refine go ?_ | (refine is_draw ?_; apply WC_mix (id := 8) true _ (pl := .p 1 <| .p 2 <| .p 3 <| .r 4 <| .e true [(0, .e true [(5, .e false [(6, .p 7 <| .p 8 <| .done)])]), (5, .e false [(0, .e false [(6, .p 7 <| .p 8 <| .done)])])]); exact mixed; kernel_rfl; kernel_rfl; exact Ent.refl) | (refine is_draw ?_; refine WC_draw mixed (by kernel_rfl) ?_) | refine cal @qu_Start ?_)
      (apply WE_ret rfl rfl (by (repeat (first | exact ResOk.nil | (apply ResOk.tmp; rfl) | (apply resOk_cell; rfl; exact inferInstance; rfl; rfl)))))
      · exact ⟨rfl, rfl⟩
      · (repeat (first | (with_reducible exact Ent.refl) | exact Ent.nil | (apply ent_pickE; (focus ((repeat (first | (with_reducible exact pk_here) | (apply pk_there))); done))) | apply Ent.drop))
    · by_cases h2 : x.d = 2
      · simp only [qdoM, qdoB, qdoE, qdoL, if_neg h0, if_neg h1, if_pos h2]
        repeat' (first | rintro _ _ ⟨rfl, rfl⟩ | rintro _ _ ⟨_, rfl, rfl⟩ | rintro _ _ ⟨_, _, rfl, rfl⟩ | intro _ | refine go ?_ | (refine is_draw ?_; apply WC_mix (id := 8) true _ (pl := .p 1 <| .p 2 <| .p 3 <| .r 4 <| .e true [(0, .e true [(5, .e false [(6, .p 7 <| .p 8 <| .done)])]), (5, .e false [(0, .e false [(6, .p 7 <| .p 8 <| .done)])])]); exact mixed; kernel_rfl; kernel_rfl; exact Ent.refl) | (refine is_draw ?_; refine WC_draw mixed (by kernel_rfl) ?_) | refine cal @qu_Next ?_ | refine cal @qu_Sent ?_ | refine spl ?_ ?_ | fail)
        all_goals (apply WE_ret rfl rfl (by (repeat (first | exact ResOk.nil | (apply ResOk.tmp; rfl) | (apply resOk_cell; rfl; exact inferInstance; rfl; rfl)))))
        all_goals first | exact ⟨rfl, rfl⟩ | ((repeat (first | (with_reducible exact Ent.refl) | exact Ent.nil | (apply ent_pickE; (focus ((repeat (first | (with_reducible exact pk_here) | (apply pk_there))); done))) | apply Ent.drop)))
      · simp only [qdoM, qdoB, qdoE, qdoL, if_neg h0, if_neg h1, if_neg h2]
        repeat (first | rintro _ _ ⟨rfl, rfl⟩ | rintro _ _ ⟨_, rfl, rfl⟩ | rintro _ _ ⟨_, _, rfl, rfl⟩ | intro _ | refine go ?_ | (refine is_draw ?_; apply WC_mix (id := 8) true _ (pl := .p 1 <| .p 2 <| .p 3 <| .r 4 <| .e true [(0, .e true [(5, .e false [(6, .p 7 <| .p 8 <| .done)])]), (5, .e false [(0, .e false [(6, .p 7 <| .p 8 <| .done)])])]); exact mixed; kernel_rfl; kernel_rfl; exact Ent.refl) | (refine is_draw ?_; refine WC_draw mixed (by kernel_rfl) ?_) | refine cal @qu_Finish ?_)
        (apply WE_ret rfl rfl (by (repeat (first | exact ResOk.nil | (apply ResOk.tmp; rfl) | (apply resOk_cell; rfl; exact inferInstance; rfl; rfl)))))
        · exact ⟨rfl, rfl⟩
        · (repeat (first | (with_reducible exact Ent.refl) | exact Ent.nil | (apply ent_pickE; (focus ((repeat (first | (with_reducible exact pk_here) | (apply pk_there))); done))) | apply Ent.drop))

theorem law15_own {F : List HP} {v : Value} {l : List QE} (hn : l.length ≤ 1000) : FnF Try.prog 56 [v] [QuL 112 v l] F (fun r L' => ∃ p c, r = .slice p l.length c ∧ L' = [QuL 116 (.slice p l.length c) l]) := by
  refine FnF.mk' Try.func56 rfl rfl Try.ntmps56 rfl ?_
  refine ql_open fun qs hf => ?_
  subst hf
  rw [List.length_map] at hn
  repeat (first | rintro _ _ ⟨rfl, rfl⟩ | rintro _ _ ⟨_, rfl, rfl⟩ | rintro _ _ ⟨_, _, rfl, rfl⟩ | intro _ | refine go ?_ | (refine is_draw ?_; refine WC_draw mixed (by kernel_rfl) ?_))
  apply WC_loopE (E0 := [(6, _), (7, _)]) (fun E0 (q : Nat × Option Addr × Nat) => (8, .int .i64 q.1) :: (3, .slice q.2.1 q.1 q.2.2) :: E0)
    (fun q => Own 116 17 (.slice q.2.1 q.1 q.2.2) q.1 (flat qc (qs.take q.1)) :: Own 112 17 v qs.length (flat qc qs) :: All (qs.map qrd) :: F) (fun q => q.1 ≤ qs.length) (fun q => qs.length - q.1) (0, none, 0)
  · (repeat (first | exact Sub.nil | (refine Sub.cons (by first | rfl | (simp only [Nat.zero_add]; rfl)) ?_)))
  · exact Nat.zero_le _
  · refine Ent.trans ?_ (own_empty Ent.refl)
    (repeat (first | (with_reducible exact Ent.refl) | exact Ent.nil | (apply ent_pickE; (focus ((repeat (first | (with_reducible exact pk_here) | (apply pk_there))); done))) | apply Ent.drop))
  · rintro ⟨i, p', c'⟩ hi
    dsimp only at hi ⊢
    by_cases hlt : i < qs.length
    · repeat (first | rintro _ _ ⟨rfl, rfl⟩ | rintro _ _ ⟨_, rfl, rfl⟩ | rintro _ _ ⟨_, _, rfl, rfl⟩ | intro _ | refine go ?_ | (refine is_draw ?_; refine WC_draw mixed (by kernel_rfl) ?_))
      rename_i b1 b2 p2 c2
      refine WE_loop (i + 1, p2, c2) (by dsimp only; omega) (by dsimp only; omega) ?_ ?_
      · (repeat (first | exact Sub.nil | (refine Sub.cons (by first | rfl | (simp only [Nat.zero_add]; rfl)) ?_)))
      · dsimp only; rw [List.take_add_one, flat_append]; simp only [List.getElem?_eq_getElem hlt, Option.toList_some, flat_one]
        (repeat (first | (with_reducible exact Ent.refl) | exact Ent.nil | (apply ent_pickE; (focus ((repeat (first | (with_reducible exact pk_here) | (apply pk_there))); done))) | apply Ent.drop))
    · have hil : i = qs.length := by omega
      subst hil
      rw [List.take_length]
      repeat (first | rintro _ _ ⟨rfl, rfl⟩ | rintro _ _ ⟨_, rfl, rfl⟩ | rintro _ _ ⟨_, _, rfl, rfl⟩ | intro _ | refine go ?_ | (refine is_draw ?_; refine WC_draw mixed (by kernel_rfl) ?_))
      (apply WE_ret rfl rfl (by (repeat (first | exact ResOk.nil | (apply ResOk.tmp; rfl) | (apply resOk_cell; rfl; exact inferInstance; rfl; rfl)))))
      · exact ⟨p', c', by rw [List.length_map]; rfl, rfl⟩
      · rw [List.length_map]; ((repeat (first | (with_reducible exact Ent.refl) | exact Ent.nil | (apply ent_pickE; (focus ((repeat (first | (with_reducible exact pk_here) | (apply pk_there))); done))) | (apply ql_in) | apply Ent.drop)); all_goals (first | rfl | (with_reducible assumption) | (simp; done) | (simp; omega) | omega | (constructor <;> (simp) <;> omega)))

theorem law15_large {F : List HP} {v : Value} {l : List QOp} (k : RdL F 18 v l.length (flat qoc l)) (hn : l.length ≤ 9223372036854775807) (hs : ∀ o ∈ l, o.sends.length ≤ 2000000000000) :
    FnF Try.prog 46 [v] [] F (fun r L' => ∃ B : Bool, (B = false → l.length ≤ 60 ∧ ∀ o ∈ l, o.sends.length ≤ 400) ∧ r = .bool B ∧ L' = []) := by
  refine FnF.mk' Try.func46 rfl rfl Try.ntmps46 rfl ?_
  repeat (first | rintro _ _ ⟨rfl, rfl⟩ | rintro _ _ ⟨_, rfl, rfl⟩ | rintro _ _ ⟨_, _, rfl, rfl⟩ | intro _ | refine go ?_ | (refine is_draw ?_; refine WC_draw mixed (by kernel_rfl) ?_))
  apply WC_loopE (E0 := [(0, _)]) (fun E0 (q : Nat × Nat) => (4, .int .i64 q.1) :: (3, .int .i64 q.2) :: E0) (fun _ => F)
    (fun q => q.1 ≤ l.length ∧ q.2 ≤ 3000000000000 ∧ ∀ j (hj : j < l.length), j < q.1 → l[j].sends.length ≤ q.2) (fun q => l.length - q.1) (0, 0)
  · (repeat (first | exact Sub.nil | (refine Sub.cons (by first | rfl | (simp only [Nat.zero_add]; rfl)) ?_)))
  · exact ⟨Nat.zero_le _, Nat.zero_le _, fun j hj h => by omega⟩
  · (repeat (first | (with_reducible exact Ent.refl) | exact Ent.nil | (apply ent_pickE; (focus ((repeat (first | (with_reducible exact pk_here) | (apply pk_there))); done))) | apply Ent.drop))
  · rintro ⟨i, n⟩ ⟨hi, hb, hall⟩
    dsimp only at hi hb hall ⊢
    have endd : (i = l.length ∨ 400 < n) → ∀ B : Bool, B = (decide (60 < l.length) || decide (400 < n)) → (B = false → l.length ≤ 60 ∧ ∀ o ∈ l, o.sends.length ≤ 400) := by
      intro h B hB hf
      rw [hB] at hf
      simp at hf
      refine ⟨hf.1, fun o ho => ?_⟩
      obtain ⟨j, hj, rfl⟩ := List.getElem_of_mem ho
      have := hall j hj (by omega)
      omega
    by_cases hlt : i < l.length
    · have hsi := hs _ (List.getElem_mem hlt)
      by_cases hn4 : n ≤ 400
      · repeat (first | rintro _ _ ⟨rfl, rfl⟩ | rintro _ _ ⟨_, rfl, rfl⟩ | rintro _ _ ⟨_, _, rfl, rfl⟩ | intro _ | refine go ?_ | (refine is_draw ?_; refine WC_draw mixed (by kernel_rfl) ?_))
        refine WE_loop (i + 1, n + (l[i].sends.length + 1)) (by dsimp only; omega) ⟨by dsimp only; omega, by dsimp only; omega, fun j hj h => ?_⟩ ?_ ?_
        · dsimp only at h ⊢
          by_cases e : j = i
          · subst e; omega
          · have := hall j hj (by omega); omega
        · (repeat (first | exact Sub.nil | (refine Sub.cons (by first | rfl | (simp only [Nat.zero_add]; rfl)) ?_)))
        · exact Ent.refl
      · by_cases h60 : 60 < l.length
        · repeat (first | rintro _ _ ⟨rfl, rfl⟩ | rintro _ _ ⟨_, rfl, rfl⟩ | rintro _ _ ⟨_, _, rfl, rfl⟩ | intro _ | refine go ?_ | (refine is_draw ?_; refine WC_draw mixed (by kernel_rfl) ?_))
          (apply WE_ret rfl rfl (by (repeat (first | exact ResOk.nil | (apply ResOk.tmp; rfl) | (apply resOk_cell; rfl; exact inferInstance; rfl; rfl)))))
          · exact ⟨true, endd (.inr (by omega)) _ (by simp [h60]), rfl, rfl⟩
          · exact Ent.refl
        · repeat (first | rintro _ _ ⟨rfl, rfl⟩ | rintro _ _ ⟨_, rfl, rfl⟩ | rintro _ _ ⟨_, _, rfl, rfl⟩ | intro _ | refine go ?_ | (refine is_draw ?_; refine WC_draw mixed (by kernel_rfl) ?_))
          (apply WE_ret rfl rfl (by (repeat (first | exact ResOk.nil | (apply ResOk.tmp; rfl) | (apply resOk_cell; rfl; exact inferInstance; rfl; rfl)))))
          · exact ⟨_, endd (.inr (by omega)) (decide (400 < (n : Int))) (by rw [dec_f h60]; simp only [Bool.false_or, decide_eq_decide]; omega), rfl, rfl⟩
          · exact Ent.refl
    · by_cases h60 : 60 < l.length
      · repeat (first | rintro _ _ ⟨rfl, rfl⟩ | rintro _ _ ⟨_, rfl, rfl⟩ | rintro _ _ ⟨_, _, rfl, rfl⟩ | intro _ | refine go ?_ | (refine is_draw ?_; refine WC_draw mixed (by kernel_rfl) ?_))
        (apply WE_ret rfl rfl (by (repeat (first | exact ResOk.nil | (apply ResOk.tmp; rfl) | (apply resOk_cell; rfl; exact inferInstance; rfl; rfl)))))
        · exact ⟨true, endd (.inl (by omega)) _ (by simp [h60]), rfl, rfl⟩
        · exact Ent.refl
      · repeat (first | rintro _ _ ⟨rfl, rfl⟩ | rintro _ _ ⟨_, rfl, rfl⟩ | rintro _ _ ⟨_, _, rfl, rfl⟩ | intro _ | refine go ?_ | (refine is_draw ?_; refine WC_draw mixed (by kernel_rfl) ?_))
        (apply WE_ret rfl rfl (by (repeat (first | exact ResOk.nil | (apply ResOk.tmp; rfl) | (apply resOk_cell; rfl; exact inferInstance; rfl; rfl)))))
        · exact ⟨_, endd (.inl (by omega)) (decide (400 < (n : Int))) (by rw [dec_f h60]; simp only [Bool.false_or, decide_eq_decide]; omega), rfl, rfl⟩
        · exact Ent.refl

theorem law15_awake {F : List HP} : FnF Try.prog 45 [] [] F (fun r L' => r = .bool true ∧ L' = []) := by
  have hN := fun F => qu_New (F := F) (room := 3) (by omega)
  have hN0 := fun F => qu_New_no (F := F) (room := 0) (by omega)
  have hA1 := fun F b l => qu_Add (F := F) (b := b) (room := 3) (l := l) (m := ⟨1, 5, 1, 0, 0, 0, 0, .zero⟩)
  have hA2 := fun F b l => qu_Add (F := F) (b := b) (room := 3) (l := l) (m := ⟨3, 5, 0, 0, 0, 0, 0, .zero⟩)
  have hA3 := fun F b l => qu_Add (F := F) (b := b) (room := 3) (l := l) (m := ⟨2, 6, 0, 0, 0, 0, 0, .zero⟩)
  have hA4 := fun F b l => qu_Add (F := F) (b := b) (room := 3) (l := l) (m := ⟨2, 7, 0, 0, 0, 0, 0, .zero⟩)
  have hA5 := fun F b l => qu_Add (F := F) (b := b) (room := 3) (l := l) (m := ⟨6, 0, 0, 0, 0, 0, 0, .zero⟩)
  have hS1 := fun F b l n u (k : RdL F 15 u 1 (mc ⟨7, 0, 0, 0, 0, 0, 0, .zero⟩)) => @qu_Start F b 3 l n u [⟨7, 0, 0, 0, 0, 0, 0, .zero⟩] k (by decide)
  have hS2 := fun F b l n u (k : RdL F 15 u 1 (mc ⟨10, 0, 0, 0, 0, 0, 0, .zero⟩)) => @qu_Start F b 3 l n u [⟨10, 0, 0, 0, 0, 0, 0, .zero⟩] k (by decide)
  refine FnF.mk' Try.func45 rfl rfl Try.ntmps45 rfl ?_
  repeat (first | rintro _ _ ⟨rfl, rfl⟩ | rintro _ _ ⟨_, rfl, rfl⟩ | rintro _ _ ⟨_, _, rfl, rfl⟩ | intro _ | refine go ?_ | (refine is_draw ?_; refine WC_draw mixed (by kernel_rfl) ?_) | refine cal @hN ?_ | refine cal @hN0 ?_ | refine cal @hA1 ?_ | refine cal @hA2 ?_ | refine cal @hA3 ?_ | refine cal @hA4 ?_ | refine cal @hA5 ?_ | refine cal @qu_Ready ?_ | refine cal @hS1 ?_ | refine cal @hS2 ?_ | refine cal @qu_Next ?_ | refine cal @qu_Sent ?_ | refine cal @qu_Finish ?_ | refine cal @qu_Gete ?_ | refine cal @qu_Left ?_ | refine cal @qu_List ?_)
  (apply WE_ret rfl rfl (by (repeat (first | exact ResOk.nil | (apply ResOk.tmp; rfl) | (apply resOk_cell; rfl; exact inferInstance; rfl; rfl)))); (first | exact ⟨rfl, rfl⟩ | exact ⟨congrArg Value.bool (by decide), rfl⟩ | exact ⟨_, rfl, rfl⟩ | exact ⟨_, _, rfl, rfl⟩ | exact ⟨by first | (simp []; done) | (simp [] <;> omega), rfl⟩); (repeat (first | exact Ent.refl | exact Ent.nil | apply Ent.pick | apply Ent.drop)))
end Go.Sx
