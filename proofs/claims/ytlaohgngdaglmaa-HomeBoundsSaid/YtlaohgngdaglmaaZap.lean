/- HomB, HomRead: several of my texts as one. My own work. -/
import Derived.Test.YtlaohgngdaglmaaZao
import Derived.Test.YtlaohgngdaglmaaZai
import Derived.Test.YtlaohgngdaglmaaZaa
/- What homes do, told of lists: one line's requests leave the others' entries and words as they are. My own work. -/
namespace Go.Sx
open Go Go.Proofs
set_option linter.unusedVariables false
set_option linter.unusedSimpArgs false
theorem line_wr_ne {c : Cfg} {ms : List Int} {k line : Int} {w : Words} (hn : (ms.length : Int) = c.words * c.lines) (h : line ≠ k) : lineWo c (wrL c ms k w) line = lineWo c ms line := by
  unfold lineWo
  split
  · rename_i hj
    congr 1
    unfold wrL
    split
    · rename_i hw
      have hk : okJoin c k 0 = true := by simp only [wrOk, Bool.and_eq_true] at hw; exact hw.1
      obtain ⟨a1, a2, a3, _⟩ := line_rd hn hk
      obtain ⟨_, l0, l1, w0, w8, _⟩ := join_facts hj hn
      obtain ⟨_, k0, k1, _⟩ := join_facts hk hn
      obtain ⟨W, eW⟩ : ∃ n : Nat, c.words = n := ⟨c.words.toNat, by omega⟩
      obtain ⟨L, rfl⟩ : ∃ n : Nat, line = n := ⟨line.toNat, by omega⟩
      obtain ⟨K, rfl⟩ : ∃ n : Nat, k = n := ⟨k.toNat, by omega⟩
      have fL : lineF c (L : Int) = L * W := by unfold lineF; rw [eW]; exact_mod_cast Int.toNat_natCast (L * W)
      have fK : lineF c (K : Int) = K * W := by unfold lineF; rw [eW]; exact_mod_cast Int.toNat_natCast (K * W)
      have fW : c.words.toNat = W := by rw [eW]; rfl
      unfold lineL
      rw [fW] at a1 a3
      rw [fK] at a1
      rw [fL, fK, fW]
      have hwl : w.list.length = 8 := rfl
      apply List.ext_getElem?
      intro i
      rw [List.getElem?_take, List.getElem?_take]
      split
      · rename_i hi
        rw [List.getElem?_drop, List.getElem?_drop, List.append_assoc]
        have ht : (ms.take (K * W)).length = K * W := by rw [List.length_take]; omega
        have hu : (w.list.take W).length = W := by rw [List.length_take, hwl]; omega
        rcases Nat.lt_or_gt_of_ne (show L ≠ K by omega) with hlt | hgt
        · have : (L + 1) * W ≤ K * W := Nat.mul_le_mul_right W hlt
          rw [Nat.add_mul, Nat.one_mul] at this
          rw [List.getElem?_append_left (by omega), List.getElem?_take, if_pos (by omega)]
        · have : (K + 1) * W ≤ L * W := Nat.mul_le_mul_right W hgt
          rw [Nat.add_mul, Nat.one_mul] at this
          rw [List.getElem?_append_right (by omega), List.getElem?_append_right (by omega), List.getElem?_drop]
          congr 1
          omega
      · rfl
    · rfl
  · rfl
/-- Of which line a step's request is; below 0: of none. -/
def hsOf (s : HomS) (x : HStep) : Int := if x.d = 1 ∧ 0 ≤ x.n ∧ x.n < s.q.length then (qat s.q x.n).m.line else -1
theorem hms_other {c : Cfg} {num : Int} {s : HomS} {x : HStep} {line : Int} (hn : (s.ms.length : Int) = c.words * c.lines) (h : HmI c num s) (hof : line ≠ hsOf s x) : hmEnt (hsS c num s x) line = hmEnt s line ∧ hmLine c (hsS c num s x) line = hmLine c s line := by
  unfold hsS
  split
  · unfold hmAccS; split <;> exact ⟨rfl, rfl⟩
  · rename_i h0
    split
    · rename_i h1
      unfold hmWorkS
      split
      · rename_i hr
        have hq := qready_in hr
        have hq' := of_decide_eq_true hq
        have e : hsOf s x = (hmX s x.n).line := by unfold hsOf hmX; rw [if_pos ⟨h1, hq'.1, hq'.2⟩]
        rw [e] at hof
        unfold hmStartS
        split
        · have hg : mget (mset s.es (hmX s x.n).line (nextT (hmEnt s (hmX s x.n).line) (hmX s x.n))) line = mget s.es line := by rw [mget_mset, if_neg hof]
          refine ⟨by unfold hmEnt hmTurnS; dsimp only; rw [hg], ?_⟩
          unfold hmLine hmOwn hmTurnS
          dsimp only
          rw [hg]
          split
          · split
            · exact line_wr_ne hn hof
            · rfl
          · rfl
        · exact ⟨rfl, rfl⟩
      · split <;> exact ⟨rfl, rfl⟩
    · unfold hmDoneS; split <;> exact ⟨rfl, rfl⟩
/-- What a step sends. -/
theorem hms_sent {c : Cfg} {num : Int} {s : HomS} {x : HStep} (h : HmI c num s) : (hsB s x = true → hsD s x = true ∧ x.d = 1 ∧ (hsM s x).line = hsOf s x ∧ (hsM s x).src = num ∧ 0 < l3at x.l (netK (hsM s x).kind) ∧ (4 ≤ (hsM s x).kind ∧ (hsM s x).kind ≤ 10)) ∧ (hsB s x = false → hsM s x = .zero) := by
  unfold hsB hsD hsM
  by_cases h0 : x.d = 0
  · simp [h0]
  · by_cases h1 : x.d = 1
    · simp only [h1, if_true, if_neg (show ¬ (1 : Int) = 0 by omega)]
      unfold hmWorkB hmDid hmWorkM
      cases hr : qready s.q x.n with
      | true => simp
      | false =>
        cases hg : hmGoes s x.n x.l with
        | false => simp
        | true =>
          have hg' := hg
          simp only [hmGoes, Bool.and_eq_true, decide_eq_true_eq] at hg'
          obtain ⟨k1, k2, k3, k4⟩ := next_kind h hg'.1
          have hin : qin s.q x.n = true := by have := hg'.1; simp only [qnextB, Bool.and_eq_true] at this; exact this.1
          have hq' := of_decide_eq_true hin
          refine ⟨fun _ => ⟨rfl, trivial, ?_, k4, hg'.2, k2⟩, fun h => by cases h⟩
          show (qnextM s.q x.n).line = _
          unfold hsOf
          rw [if_pos ⟨h1, hq'.1, hq'.2⟩, k3]
    · simp [h0, h1]
end Go.Sx

/- Steps of the laws of homes, read. My own work. -/
namespace Go.Sx
open Go Go.Proofs Go.ChangeShapes Go.WideShapes
set_option linter.unusedVariables false
section
variable {H : Type} (enc : TypeId × Value → H) (P : Program) (W : World)
theorem rd_HStep {cs : List Value} (h : LeafsOk enc P W (List.replicate 20 (.int .i64)) cs) : ∃ x : HStep, x.wf ∧ cs = hsc x ∧ (hsc x).all one = true := by
  obtain ⟨l, h1, h2, rfl⟩ := leafs_ints enc P W _ _ h
  match l, h1 with
  | [d, n, l0, l1, l2, b0, b1, b2, b3, b4, b5, b6, a0, a1, a2, a3, a4, a5, a6, a7], _ =>
    exact ⟨⟨d, n, l0, l1, l2, ⟨b0, b1, b2, b3, b4, b5, b6, ⟨a0, a1, a2, a3, a4, a5, a6, a7⟩⟩⟩, ⟨h2 _ (by simp), h2 _ (by simp), ⟨h2 _ (by simp), h2 _ (by simp), h2 _ (by simp)⟩, ⟨h2 _ (by simp), h2 _ (by simp), h2 _ (by simp), h2 _ (by simp), h2 _ (by simp), h2 _ (by simp), h2 _ (by simp), fun y hy => h2 y (by
      simp only [Words.list, List.mem_cons, List.not_mem_nil, or_false] at hy
      rcases hy with g | g | g | g | g | g | g | g <;> (subst g; simp))⟩⟩, rfl, rfl⟩
end
end Go.Sx
