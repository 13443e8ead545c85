/- Messages: their bytes. My own work. -/
import Derived.Test.YtadedfcjakhfbabMsg3
import Derived.Test.YtadedfcjakhfbabMsgR
namespace Go.Sx
open Go Go.Proofs
set_option linter.unusedVariables false
set_option linter.unusedSectionVars false
set_option linter.unusedSimpArgs false
/-- A new slice, as one's own. -/
theorem own_lit {e : TypeId} {sz b n : Nat} {l : List Value} {L M : List HP} (hl : l.length = n * sz) (h1 : l.all one = true) (hn : n ≤ 9223372036854775807) (k : Ent L M) : Ent (Cells b e l :: L) (Own e sz (.slice (some ⟨b, 0, none⟩) n n) n l :: M) := fun h ⟨S, T, d, hp, hL⟩ => by
  refine ⟨S, T, d, ⟨hl, h1, .inr ⟨b, n, l.toArray, rfl, hp.1, Nat.le_refl _, by simp only [maxLen]; omega, by simpa using hl, ?_⟩⟩, k _ hL⟩
  rw [← hl]; simp

theorem u8_wrap (n : Int) : IntKind.u8.wrap n = n % 256 := by
  unfold IntKind.wrap
  simp [IntKind.bits, IntKind.signed]
def headB (m : Msg) : List Int := [m.kind % 256, m.line / 256 % 256, m.line % 256, m.src % 256, m.dst % 256, m.who % 256, m.acks % 256, m.own % 256]
def wordB (n : Int) : List Int := [n / 16777216 % 256, n / 65536 % 256, n / 256 % 256, n % 256]
def wordsB (w : Words) : Nat → List Int
  | 0 => []
  | i + 1 => wordsB w i ++ wordB (w.at i)
def putB (c : Cfg) (m : Msg) : List Int := headB m ++ if Wordy m.kind then wordsB m.words c.words.toNat else []
def putS (c : Cfg) (m : Msg) : ByteArray := if MayP c m then bstr (putB c m) else ByteArray.empty
def putE' (c : Cfg) (m : Msg) : Int := if MayP c m then 0 else 1
theorem fdiv_lit (n : Int) : n.fdiv (2 ^ 8) = n / 256 ∧ n.fdiv (2 ^ 16) = n / 65536 ∧ n.fdiv (2 ^ 24) = n / 16777216 := by
  refine ⟨?_, ?_, ?_⟩ <;> rw [Int.fdiv_eq_ediv_of_nonneg _ (by decide)] <;> rfl
set_option maxRecDepth 100000
set_option maxHeartbeats 4000000
attribute [local irreducible] Go.Exit.then Go.Exit.inBlock Go.Code.wp WC WO WE WQ V LoopQ FnQ Sat Star band bor IntKind.wrap WR Code.rounds WT KO
theorem msg_Put {F : List HP} {c : Cfg} {m : Msg} (hc : c.wf) : FnF Try.prog 41 [c.val, mv m] [] F (fun r L' => r = .tuple [.string (putS c m), .int .i64 (putE' c m)].toArray ∧ L' = []) := by
  have hM := fun F => msg_May (F := F) (m := m) hc
  have hF := fun F => msg_formed (F := F) (k := m.kind)
  refine FnF.mk' Try.func41 rfl rfl Try.ntmps41 rfl ?_
  by_cases hmay : MayP c m
  · simp only [hmay, decide_true] at hM
    obtain ⟨b1, b2, b3, b4⟩ := cfg_bnd hmay.1
    have hfd : m.line.fdiv (2 ^ min (Int.toNat 8) IntKind.i64.bits) = m.line / 256 := (fdiv_lit m.line).1
    have hf8 : ∀ n : Int, n.fdiv (2 ^ min (Int.toNat 8) IntKind.i64.bits) = n / 256 := fun n => (fdiv_lit n).1
    have hf16 : ∀ n : Int, n.fdiv (2 ^ min (Int.toNat 16) IntKind.i64.bits) = n / 65536 := fun n => (fdiv_lit n).2.1
    have hf24 : ∀ n : Int, n.fdiv (2 ^ min (Int.toNat 24) IntKind.i64.bits) = n / 16777216 := fun n => (fdiv_lit n).2.2
    obtain ⟨nw, hnw⟩ : ∃ n : Nat, c.words.toNat = n := ⟨_, rfl⟩
    have hk := hmay.2.1
    have hcase : m.kind = 1 ∨ m.kind = 2 ∨ m.kind = 3 ∨ m.kind = 4 ∨ m.kind = 5 ∨ m.kind = 6 ∨ m.kind = 7 ∨ m.kind = 8 ∨ m.kind = 9 ∨ m.kind = 10 ∨ m.kind = 11 := by omega
    have hw0 : wordsB m.words 0 = [] := rfl
    by_cases hwy : Wordy m.kind
    · have hwy' : m.kind = 3 ∨ m.kind = 7 := hwy
      have hfm : ∃ T, formV m.kind = .iface T (.agg #[]) ∧ Has Try.prog T 113 true := by
        rcases hwy' with h | h
        · exact ⟨140, by rw [h]; rfl, inferInstance⟩
        · exact ⟨143, by rw [h]; rfl, inferInstance⟩
      obtain ⟨T, hfm, hT⟩ := hfm
      haveI := hT
      simp only [hfm] at hF
      repeat (first | rintro _ _ ⟨rfl, rfl⟩ | rintro _ _ ⟨_, rfl, rfl⟩ | rintro _ _ ⟨_, _, rfl, rfl⟩ | intro _ | refine go ?_ | (refine is_draw ?_; refine WC_draw mixed (by kernel_rfl) ?_) | refine cal @hM ?_ | refine cal @hF ?_ | refine str ?_)
      rename_i bc bm b
      simp only [u8_wrap, hfd, hnw, Nat.sub_zero, cut_low]
      (first | refine WO_ent (own_lit (sz := 1) (n := 8) (l := flat byc (headB m)) rfl rfl (by omega) Ent.refl) ?_ | refine WC_ent' (own_lit (sz := 1) (n := 8) (l := flat byc (headB m)) rfl rfl (by omega) Ent.refl) ?_ | refine WE_ent' (own_lit (sz := 1) (n := 8) (l := flat byc (headB m)) rfl rfl (by omega) Ent.refl) ?_)
      apply WC_loopE (E0 := [(52, _), (53, _)]) (fun E0 (q : Nat × Option Addr × Nat) => (54, .int .i64 q.1) :: (6, .slice q.2.1 (8 + 4 * q.1) q.2.2) :: E0) (fun q => Own 5 1 (.slice q.2.1 (8 + 4 * q.1) q.2.2) (8 + 4 * q.1) (flat byc (headB m ++ wordsB m.words q.1)) :: Cells bm 64 (mc m) :: F) (fun q => q.1 ≤ nw) (fun q => nw - q.1) (0, some ⟨b, 0, none⟩, 8)
      · (repeat (first | exact Sub.nil | (refine Sub.cons (by first | rfl | (simp only [Nat.zero_add]; rfl)) ?_)))
      · exact Nat.zero_le _
      · dsimp only; rw [hw0, List.append_nil]; (repeat (first | (with_reducible exact Ent.refl) | exact Ent.nil | (apply ent_pickE; (focus ((repeat (first | (with_reducible exact pk_here) | (apply pk_there))); done))) | apply Ent.drop))
      · rintro ⟨i, p, cc⟩ hi
        dsimp only at hi ⊢
        by_cases hlt : i < nw
        · have hg := words_cell m i (by omega)
          have hfl : flat byc (headB m ++ wordsB m.words (i + 1)) = flat byc (headB m ++ wordsB m.words i) ++ [.int .u8 (m.words.at i / 16777216 % 256), .int .u8 (m.words.at i / 65536 % 256), .int .u8 (m.words.at i / 256 % 256), .int .u8 (m.words.at i % 256)] := by
            rw [show wordsB m.words (i + 1) = wordsB m.words i ++ wordB (m.words.at i) from rfl, ← List.append_assoc, flat_append]; rfl
          repeat (first | rintro _ _ ⟨rfl, rfl⟩ | rintro _ _ ⟨_, rfl, rfl⟩ | rintro _ _ ⟨_, _, rfl, rfl⟩ | intro _ | refine go ?_ | (refine is_draw ?_; refine WC_draw mixed (by kernel_rfl) ?_))
          simp only [u8_wrap, hf8, hf16, hf24]
          rename_i b4 p2 c2
          refine WE_loop (i + 1, p2, c2) (by dsimp only; omega) (by dsimp only; omega) ?_ ?_
          · dsimp only; rw [show 8 + 4 * (i + 1) = 8 + 4 * i + 4 by omega]; (repeat (first | exact Sub.nil | (refine Sub.cons (by first | rfl | (simp only [Nat.zero_add]; rfl)) ?_)))
          · dsimp only; rw [show 8 + 4 * (i + 1) = 8 + 4 * i + 4 by omega, hfl]; (repeat (first | (with_reducible exact Ent.refl) | exact Ent.nil | (apply ent_pickE; (focus ((repeat (first | (with_reducible exact pk_here) | (apply pk_there))); done))) | apply Ent.drop))
        · have hin : i = nw := by omega
          subst hin
          repeat (first | rintro _ _ ⟨rfl, rfl⟩ | rintro _ _ ⟨_, rfl, rfl⟩ | rintro _ _ ⟨_, _, rfl, rfl⟩ | intro _ | refine go ?_ | (refine is_draw ?_; refine WC_draw mixed (by kernel_rfl) ?_) | refine str ?_)
          (apply WE_ret rfl rfl (by (repeat (first | exact ResOk.nil | (apply ResOk.tmp; rfl) | (apply resOk_cell; rfl; exact inferInstance; rfl; rfl)))); (first | exact ⟨rfl, rfl⟩ | exact ⟨congrArg Value.bool (by decide), rfl⟩ | exact ⟨_, rfl, rfl⟩ | exact ⟨_, _, rfl, rfl⟩ | exact ⟨by first | (simp [putS, putE', putB, hmay, hwy, hnw]; done) | (simp [putS, putE', putB, hmay, hwy, hnw] <;> omega), rfl⟩); (repeat (first | exact Ent.refl | exact Ent.nil | apply Ent.pick | apply Ent.drop)))
    · have hfm : ∃ T v, formV m.kind = .iface T v ∧ Has Try.prog T 113 false := by
        have hwy' : ¬ (m.kind = 3 ∨ m.kind = 7) := hwy
        have hcase2 : m.kind = 1 ∨ m.kind = 2 ∨ m.kind = 4 ∨ m.kind = 5 ∨ m.kind = 6 ∨ m.kind = 8 ∨ m.kind = 9 ∨ m.kind = 10 ∨ m.kind = 11 := by omega
        rcases hcase2 with h | h | h | h | h | h | h | h | h
        · exact ⟨138, _, by rw [h]; rfl, inferInstance⟩
        · exact ⟨138, _, by rw [h]; rfl, inferInstance⟩
        · exact ⟨142, _, by rw [h]; rfl, inferInstance⟩
        · exact ⟨142, _, by rw [h]; rfl, inferInstance⟩
        · exact ⟨142, _, by rw [h]; rfl, inferInstance⟩
        · exact ⟨144, _, by rw [h]; rfl, inferInstance⟩
        · exact ⟨145, _, by rw [h]; rfl, inferInstance⟩
        · exact ⟨144, _, by rw [h]; rfl, inferInstance⟩
        · exact ⟨138, _, by rw [h]; rfl, inferInstance⟩
      obtain ⟨T, v, hfm, hT⟩ := hfm
      haveI := hT
      simp only [hfm] at hF
      repeat (first | rintro _ _ ⟨rfl, rfl⟩ | rintro _ _ ⟨_, rfl, rfl⟩ | rintro _ _ ⟨_, _, rfl, rfl⟩ | intro _ | refine go ?_ | (refine is_draw ?_; refine WC_draw mixed (by kernel_rfl) ?_) | refine cal @hM ?_ | refine cal @hF ?_ | refine str ?_)
      rename_i bc bm b
      simp only [u8_wrap, hfd]
      (first | refine WO_ent (own_lit (sz := 1) (n := 8) (l := flat byc (headB m)) rfl rfl (by omega) Ent.refl) ?_ | refine WC_ent' (own_lit (sz := 1) (n := 8) (l := flat byc (headB m)) rfl rfl (by omega) Ent.refl) ?_ | refine WE_ent' (own_lit (sz := 1) (n := 8) (l := flat byc (headB m)) rfl rfl (by omega) Ent.refl) ?_)
      repeat (first | rintro _ _ ⟨rfl, rfl⟩ | rintro _ _ ⟨_, rfl, rfl⟩ | rintro _ _ ⟨_, _, rfl, rfl⟩ | intro _ | refine go ?_ | (refine is_draw ?_; refine WC_draw mixed (by kernel_rfl) ?_) | refine str ?_)
      (apply WE_ret rfl rfl (by (repeat (first | exact ResOk.nil | (apply ResOk.tmp; rfl) | (apply resOk_cell; rfl; exact inferInstance; rfl; rfl)))); (first | exact ⟨rfl, rfl⟩ | exact ⟨congrArg Value.bool (by decide), rfl⟩ | exact ⟨_, rfl, rfl⟩ | exact ⟨_, _, rfl, rfl⟩ | exact ⟨by first | (simp [putS, putE', putB, hmay, hwy]; done) | (simp [putS, putE', putB, hmay, hwy] <;> omega), rfl⟩); (repeat (first | exact Ent.refl | exact Ent.nil | apply Ent.pick | apply Ent.drop)))
  · simp only [hmay, decide_false] at hM
    have he0 : ByteArray.empty = ⟨#[]⟩ := rfl
    repeat (first | rintro _ _ ⟨rfl, rfl⟩ | rintro _ _ ⟨_, rfl, rfl⟩ | rintro _ _ ⟨_, _, rfl, rfl⟩ | intro _ | refine go ?_ | (refine is_draw ?_; refine WC_draw mixed (by kernel_rfl) ?_) | refine cal @hM ?_)
    (apply WE_ret rfl rfl (by (repeat (first | exact ResOk.nil | (apply ResOk.tmp; rfl) | (apply resOk_cell; rfl; exact inferInstance; rfl; rfl)))); (first | exact ⟨rfl, rfl⟩ | exact ⟨congrArg Value.bool (by decide), rfl⟩ | exact ⟨_, rfl, rfl⟩ | exact ⟨_, _, rfl, rfl⟩ | exact ⟨by first | (simp [putS, putE', hmay, he0]; done) | (simp [putS, putE', hmay, he0] <;> omega), rfl⟩); (repeat (first | exact Ent.refl | exact Ent.nil | apply Ent.pick | apply Ent.drop)))
end Go.Sx
