/- Messages: their bytes, by the document. My own work. -/
import Derived.Test.YtadedfcjakhfbabMsgPut
import Derived.Test.YtadedfcjakhfbabMsgR2
namespace Go.Sx
open Go Go.Proofs
set_option linter.unusedVariables false
set_option linter.unusedSectionVars false
set_option linter.unusedSimpArgs false
theorem tdiv_nn {a b : Int} (ha : 0 ≤ a) (hb : 1 ≤ b) (h : a ≤ 9223372036854775807) : IntKind.i64.wrap (a.tdiv b) = a / b := by
  rw [Int.tdiv_eq_ediv_of_nonneg ha]
  have h1 : 0 ≤ a / b := Int.ediv_nonneg ha (by omega)
  have h2 : a / b ≤ a := Int.ediv_le_self b ha
  exact wrap_id (by omega) (by omega)
theorem word_parts {n n' : Int} (h0 : 0 ≤ n') (h1 : n' < 4294967296) (h : n' = n ∨ n' = n + 4294967296) :
    IntKind.u8.wrap (IntKind.i64.wrap (n'.tdiv 16777216)) = n / 16777216 % 256 ∧ IntKind.u8.wrap ((IntKind.i64.wrap (n'.tdiv 65536)).tmod 256) = n / 65536 % 256
    ∧ IntKind.u8.wrap ((IntKind.i64.wrap (n'.tdiv 256)).tmod 256) = n / 256 % 256 ∧ IntKind.u8.wrap (n'.tmod 256) = n % 256 := by
  rw [tdiv_nn h0 (by omega) (by omega), tdiv_nn h0 (by omega) (by omega), tdiv_nn h0 (by omega) (by omega), Int.tmod_eq_emod_of_nonneg h0, Int.tmod_eq_emod_of_nonneg (Int.ediv_nonneg h0 (by omega)), Int.tmod_eq_emod_of_nonneg (Int.ediv_nonneg h0 (by omega))]
  simp only [u8_wrap]
  rcases h with rfl | rfl
  · refine ⟨rfl, ?_, ?_, ?_⟩ <;> omega
  · refine ⟨?_, ?_, ?_, ?_⟩ <;> omega
set_option maxRecDepth 100000
set_option maxHeartbeats 4000000
attribute [local irreducible] Go.Exit.then Go.Exit.inBlock Go.Code.wp WC WO WE WQ V LoopQ FnQ Sat Star band bor IntKind.wrap WR Code.rounds WT KO
theorem ref05_Put {F : List HP} {c : Cfg} {m : Msg} (hc : c.wf) : FnF Try.prog 42 [c.val, mv m] [] F (fun r L' => r = .tuple [.string (putS c m), .int .i64 (putE' c m)].toArray ∧ L' = []) := by
  have hM := fun F => ref05_May (F := F) (m := m) hc
  refine FnF.mk' Try.func42 rfl rfl Try.ntmps42 rfl ?_
  by_cases hmay : MayP c m
  · simp only [hmay, decide_true] at hM
    obtain ⟨b1, b2, b3, b4⟩ := cfg_bnd hmay.1
    have hk := hmay.2.1
    have hl := hmay.2.2.1
    have hq : IntKind.u8.wrap (IntKind.i64.wrap (m.line.tdiv 256)) = m.line / 256 % 256 := by rw [tdiv_nn (by omega) (by omega) (by omega), u8_wrap]
    have hr : IntKind.u8.wrap (m.line.tmod 256) = m.line % 256 := by rw [Int.tmod_eq_emod_of_nonneg (by omega), u8_wrap]; omega
    obtain ⟨nw, hnw⟩ : ∃ n : Nat, c.words.toNat = n := ⟨_, rfl⟩
    have hcw : c.words = nw := by omega
    have hw0 : wordsB m.words 0 = [] := rfl
    repeat (first | rintro _ _ ⟨rfl, rfl⟩ | rintro _ _ ⟨_, rfl, rfl⟩ | rintro _ _ ⟨_, _, rfl, rfl⟩ | intro _ | refine go ?_ | (refine is_draw ?_; refine WC_draw mixed (by kernel_rfl) ?_) | refine cal @hM ?_)
    rename_i bc bm b
    simp only [hq, hr]
    simp only [u8_wrap]
    (first | refine WO_ent (own_lit (sz := 1) (n := 8) (l := flat byc (headB m)) rfl rfl (by omega) Ent.refl) ?_ | refine WC_ent' (own_lit (sz := 1) (n := 8) (l := flat byc (headB m)) rfl rfl (by omega) Ent.refl) ?_ | refine WE_ent' (own_lit (sz := 1) (n := 8) (l := flat byc (headB m)) rfl rfl (by omega) Ent.refl) ?_)
    by_cases hwy : Wordy m.kind
    · have hwy' : m.kind = 3 ∨ m.kind = 7 := hwy
      have hvals : ValsP c m.words := by have := hmay.2.2.2.2; unfold WordsP at this; rwa [if_pos hwy] at this
      apply WC_loopE (E0 := [(2, _), (3, _)]) (fun E0 (q : Nat × Option Addr × Nat) => (7, .int .i64 q.1) :: (6, .slice q.2.1 (8 + 4 * q.1) q.2.2) :: E0) (fun q => Own 5 1 (.slice q.2.1 (8 + 4 * q.1) q.2.2) (8 + 4 * q.1) (flat byc (headB m ++ wordsB m.words q.1)) :: Cells bm 64 (mc m) :: Cells bc 24 c.cells :: F) (fun q => q.1 ≤ nw) (fun q => nw - q.1) (0, some ⟨b, 0, none⟩, 8)
      · (repeat (first | exact Sub.nil | (refine Sub.cons (by first | rfl | (simp only [Nat.zero_add]; rfl)) ?_)))
      · exact Nat.zero_le _
      · dsimp only; rw [hw0, List.append_nil]; (repeat (first | (with_reducible exact Ent.refl) | exact Ent.nil | (apply ent_pickE; (focus ((repeat (first | (with_reducible exact pk_here) | (apply pk_there))); done))) | apply Ent.drop))
      · rintro ⟨i, p, cc⟩ hi
        dsimp only at hi ⊢
        by_cases hlt : i < nw
        · have hg := words_cell m i (by omega)
          have hv := hvals i (by omega)
          have hfl : flat byc (headB m ++ wordsB m.words (i + 1)) = flat byc (headB m ++ wordsB m.words i) ++ [.int .u8 (m.words.at i / 16777216 % 256), .int .u8 (m.words.at i / 65536 % 256), .int .u8 (m.words.at i / 256 % 256), .int .u8 (m.words.at i % 256)] := by
            rw [show wordsB m.words (i + 1) = wordsB m.words i ++ wordB (m.words.at i) from rfl, ← List.append_assoc, flat_append]; rfl
          unfold OkAt at hv
          have h37 : ¬ m.kind = 3 → m.kind = 7 := by omega
          by_cases hneg : m.words.at i < 0
          · obtain ⟨e1, e2, e3, e4⟩ := word_parts (n := m.words.at i) (n' := m.words.at i + 4294967296) (by omega) (by omega) (.inr rfl)
            repeat' (first | rintro _ _ ⟨rfl, rfl⟩ | rintro _ _ ⟨_, rfl, rfl⟩ | rintro _ _ ⟨_, _, rfl, rfl⟩ | intro _ | refine go ?_ | (refine is_draw ?_; refine WC_draw mixed (by kernel_rfl) ?_) | refine spl ?_ ?_ | fail)
            all_goals (
              simp only [e1, e2, e3, e4]
              refine WE_loop (i + 1, ?_, ?_) ?_ ?_ ?_ ?_
              rotate_right
              (dsimp only; rw [show 8 + 4 * (i + 1) = 8 + 4 * i + 4 by omega, hfl]; (repeat (first | (with_reducible exact Ent.refl) | exact Ent.nil | (apply ent_pickE; (focus ((repeat (first | (with_reducible exact pk_here) | (apply pk_there))); done))) | apply Ent.drop)))
              all_goals first | (dsimp only; omega) | (dsimp only; rw [show 8 + 4 * (i + 1) = 8 + 4 * i + 4 by omega]; (repeat (first | exact Sub.nil | (refine Sub.cons (by first | rfl | (simp only [Nat.zero_add]; rfl)) ?_))); done))
          · obtain ⟨e1, e2, e3, e4⟩ := word_parts (n := m.words.at i) (n' := m.words.at i) (by omega) (by omega) (.inl rfl)
            repeat' (first | rintro _ _ ⟨rfl, rfl⟩ | rintro _ _ ⟨_, rfl, rfl⟩ | rintro _ _ ⟨_, _, rfl, rfl⟩ | intro _ | refine go ?_ | (refine is_draw ?_; refine WC_draw mixed (by kernel_rfl) ?_) | refine spl ?_ ?_ | fail)
            all_goals (
              simp only [e1, e2, e3, e4]
              refine WE_loop (i + 1, ?_, ?_) ?_ ?_ ?_ ?_
              rotate_right
              (dsimp only; rw [show 8 + 4 * (i + 1) = 8 + 4 * i + 4 by omega, hfl]; (repeat (first | (with_reducible exact Ent.refl) | exact Ent.nil | (apply ent_pickE; (focus ((repeat (first | (with_reducible exact pk_here) | (apply pk_there))); done))) | apply Ent.drop)))
              all_goals first | (dsimp only; omega) | (dsimp only; rw [show 8 + 4 * (i + 1) = 8 + 4 * i + 4 by omega]; (repeat (first | exact Sub.nil | (refine Sub.cons (by first | rfl | (simp only [Nat.zero_add]; rfl)) ?_))); done))
        · have hin : i = nw := by omega
          subst hin
          repeat (first | rintro _ _ ⟨rfl, rfl⟩ | rintro _ _ ⟨_, rfl, rfl⟩ | rintro _ _ ⟨_, _, rfl, rfl⟩ | intro _ | refine go ?_ | (refine is_draw ?_; refine WC_draw mixed (by kernel_rfl) ?_) | refine str ?_)
          (apply WE_ret rfl rfl (by (repeat (first | exact ResOk.nil | (apply ResOk.tmp; rfl) | (apply resOk_cell; rfl; exact inferInstance; rfl; rfl)))); (first | exact ⟨rfl, rfl⟩ | exact ⟨congrArg Value.bool (by decide), rfl⟩ | exact ⟨_, rfl, rfl⟩ | exact ⟨_, _, rfl, rfl⟩ | exact ⟨by first | (simp [putS, putE', putB, hmay, hwy, hnw]; done) | (simp [putS, putE', putB, hmay, hwy, hnw] <;> omega), rfl⟩); (repeat (first | exact Ent.refl | exact Ent.nil | apply Ent.pick | apply Ent.drop)))
    · have hwy' : ¬ (m.kind = 3 ∨ m.kind = 7) := hwy
      apply WC_loopE (E0 := [(2, _), (3, _)]) (fun E0 (q : Unit) => (7, .int .i64 0) :: (6, .slice (some ⟨b, 0, none⟩) 8 8) :: E0) (fun q => Own 5 1 (.slice (some ⟨b, 0, none⟩) 8 8) 8 (flat byc (headB m)) :: Cells bm 64 (mc m) :: Cells bc 24 c.cells :: F) (fun q => True) (fun q => 0) ()
      · (repeat (first | exact Sub.nil | (refine Sub.cons (by first | rfl | (simp only [Nat.zero_add]; rfl)) ?_)))
      · trivial
      · (repeat (first | (with_reducible exact Ent.refl) | exact Ent.nil | (apply ent_pickE; (focus ((repeat (first | (with_reducible exact pk_here) | (apply pk_there))); done))) | apply Ent.drop))
      · rintro _ _
        repeat (first | rintro _ _ ⟨rfl, rfl⟩ | rintro _ _ ⟨_, rfl, rfl⟩ | rintro _ _ ⟨_, _, rfl, rfl⟩ | intro _ | refine go ?_ | (refine is_draw ?_; refine WC_draw mixed (by kernel_rfl) ?_) | refine str ?_)
        (apply WE_ret rfl rfl (by (repeat (first | exact ResOk.nil | (apply ResOk.tmp; rfl) | (apply resOk_cell; rfl; exact inferInstance; rfl; rfl)))); (first | exact ⟨rfl, rfl⟩ | exact ⟨congrArg Value.bool (by decide), rfl⟩ | exact ⟨_, rfl, rfl⟩ | exact ⟨_, _, rfl, rfl⟩ | exact ⟨by first | (simp [putS, putE', putB, hmay, hwy]; done) | (simp [putS, putE', putB, hmay, hwy] <;> omega), rfl⟩); (repeat (first | exact Ent.refl | exact Ent.nil | apply Ent.pick | apply Ent.drop)))
  · simp only [hmay, decide_false] at hM
    have he0 : ByteArray.empty = ⟨#[]⟩ := rfl
    repeat (first | rintro _ _ ⟨rfl, rfl⟩ | rintro _ _ ⟨_, rfl, rfl⟩ | rintro _ _ ⟨_, _, rfl, rfl⟩ | intro _ | refine go ?_ | (refine is_draw ?_; refine WC_draw mixed (by kernel_rfl) ?_) | refine cal @hM ?_)
    (apply WE_ret rfl rfl (by (repeat (first | exact ResOk.nil | (apply ResOk.tmp; rfl) | (apply resOk_cell; rfl; exact inferInstance; rfl; rfl)))); (first | exact ⟨rfl, rfl⟩ | exact ⟨congrArg Value.bool (by decide), rfl⟩ | exact ⟨_, rfl, rfl⟩ | exact ⟨_, _, rfl, rfl⟩ | exact ⟨by first | (simp [putS, putE', hmay, he0]; done) | (simp [putS, putE', hmay, he0] <;> omega), rfl⟩); (repeat (first | exact Ent.refl | exact Ent.nil | apply Ent.pick | apply Ent.drop)))
end Go.Sx
