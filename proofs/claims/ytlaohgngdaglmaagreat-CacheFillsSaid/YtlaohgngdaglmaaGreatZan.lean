/- CaLetP: several of my texts as one. My own work. -/
import Derived.Test.YtlaohgngdaglmaaGreatZam
/- Caches told of lists: a line that is let go can't be read. My own work. -/
namespace Go.Sx
open Go Go.Proofs
set_option linter.unusedVariables false
set_option linter.unusedSimpArgs false
/-- What has an error changes nothing. -/
theorem tell_err {c : Cfg} {k : CaS} {line st : Int} {g : Bool} (h : caTellE c k line ≠ 0) : caTellK c k line st g = k := by
  unfold caTellE at h
  split at h
  · exact absurd rfl h
  · rename_i h2
    split at h
    · exact absurd rfl h
    · rename_i h3
      have e4 : wbGiveL k.buf line = k.buf := by
        unfold wbGiveL
        unfold wbTellE at h3
        cases g1 : wbIn k.buf line with
        | false => rfl
        | true =>
          cases g2 : (wbAt k.buf line).live with
          | false => rfl
          | true => rw [g1, if_pos rfl, g2, if_pos rfl] at h3; exact absurd rfl h3
      unfold caTellK
      rw [if_neg h2, e4]
      cases g <;> rfl
theorem err7_ne {e : Int} (h : err7 e ≠ 0) : e ≠ 0 := fun g => h (by rw [g]; rfl)
theorem drop_err {l : List WbE} {line : Int} (h : wbDropE l line ≠ 0) : wbDropL l line = l := by
  unfold wbDropE at h
  unfold wbDropL
  cases g : wbIn l line with
  | false => rfl
  | true => rw [g] at h; exact absurd rfl h
theorem take_err {c : Cfg} {core : Int} {k : CaS} {m : Msg} (h : caTakeE c core k m ≠ 0) : caTakeK c core k m = k ∧ caTakeM c core k m = .zero ∧ caTakeB c core k m = false := by
  have hB : caTakeB c core k m = false := by unfold caTakeB; simp [h]
  refine ⟨?_, ?_, hB⟩
  · unfold caTakeE at h
    unfold caTakeK
    split
    · rename_i hk
      rw [if_pos hk] at h
      split
      · rename_i g; rw [if_pos (.inl g)] at h; exact tell_err h
      · rename_i g4
        split
        · rename_i g; rw [if_pos (.inr g)] at h; exact tell_err h
        · rename_i g5
          rw [if_neg (by omega)] at h
          split
          · rename_i g; rw [if_pos g] at h; rw [if_neg h]
          · rename_i g6
            rw [if_neg g6] at h
            split
            · rename_i g; rw [if_pos g] at h; exact if_neg (err7_ne h)
            · rename_i g7
              rw [if_neg g7] at h
              split
              · rename_i g; rw [if_pos g] at h; exact if_neg h
              · rename_i g8
                rw [if_neg g8] at h
                split
                · rename_i g; rw [if_pos g] at h; exact if_neg (err7_ne h)
                · rename_i g9
                  rw [if_neg g9] at h
                  unfold caPaK; rw [drop_err (err7_ne h)]
    · rfl
  · unfold caTakeE at h
    unfold caTakeM
    split
    · rename_i hk
      rw [if_pos hk] at h
      split
      · rename_i g; rw [if_pos (.inl g)] at h; exact if_neg h
      · rename_i g4
        split
        · rename_i g; rw [if_pos (.inr g)] at h; exact if_neg h
        · rename_i g5
          rw [if_neg (by omega)] at h
          split
          · rename_i g; rw [if_pos g] at h; exact if_neg h
          · rfl
    · rfl
theorem step_err {c : Cfg} {core : Int} {k : CaS} {s : CStep} (h : stE c core k s ≠ 0) : stK c core k s = k ∧ stM c core k s = .zero ∧ stB c core k s = false ∧ stN c k s = 0 := by
  unfold stE at h
  unfold stK stM stB stN
  by_cases g0 : s.d = 0
  · simp only [g0, if_true, true_or] at h ⊢
    exact ⟨if_neg h, if_neg h, trivial, trivial⟩
  · by_cases g1 : s.d = 1
    · simp only [g1, Int.reduceEq, if_true, if_false, true_or, or_true] at h ⊢
      have hb : caEvB c k s.a s.b = false := by unfold caEvB; simp [h]
      exact ⟨if_neg h, by unfold caEvM; rw [hb]; rfl, hb, trivial⟩
    · by_cases g2 : s.d = 2
      · simp only [g2, Int.reduceEq, if_true, if_false, true_or, or_true] at h ⊢
        obtain ⟨a1, a2, a3⟩ := take_err h
        exact ⟨a1, a2, a3, trivial⟩
      · by_cases g3 : s.d = 3
        · simp only [g3, Int.reduceEq, if_true, if_false, ne_eq, not_true_eq_false] at h
        · simp only [g0, g1, g2, g3, if_false, or_false] at h ⊢
          exact ⟨if_neg (fun g => h g.1), trivial, trivial, if_neg h⟩
theorem can_vw {c : Cfg} {k : CaS} {line kind : Int} : caCan c k line kind = if kind = 1 then decide (((vw c k.ways line).getD .zero).st ≠ 0) else decide (((vw c k.ways line).getD .zero).st = 2 ∨ ((vw c k.ways line).getD .zero).st = 4) := by
  unfold caCan; rw [vw_findW]
/-- The first word's address of a line. -/
theorem join_addr {c : Cfg} {line : Int} (h : okJoin c line 0 = true) : okAddr c (joinN c line 0) = true ∧ addrL c (joinN c line 0) = line ∧ 0 ≤ joinN c line 0 ∧ joinN c line 0 ≤ 8191 ∧ joinN c line 0 = line * c.words ∧ addrW c (joinN c line 0) = 0 := by
  have h' := h
  simp only [okJoin, Bool.and_eq_true, decide_eq_true_eq] at h'
  obtain ⟨hc, h0, h1, _, _⟩ := h'
  have hw := check_words hc
  have hm := mul_bd (m := 8) (n := 1024) (a := c.words) (b := c.lines) (by omega) (by omega) (by omega) (by omega) (by omega)
  simp only [Int.reduceMul] at hm
  have e : joinN c line 0 = line * c.words := by unfold joinN; rw [if_pos h]; omega
  have h2 : 0 ≤ line * c.words := Int.mul_nonneg h0 (by omega)
  have h3 : line * c.words + c.words ≤ c.words * c.lines := by
    have : (line + 1) * c.words ≤ c.lines * c.words := Int.mul_le_mul_of_nonneg_right (by omega) (by omega)
    rw [Int.add_mul, Int.one_mul, Int.mul_comm c.lines] at this
    exact this
  have hok : okAddr c (line * c.words) = true := by
    simp only [okAddr, hc, Bool.true_and, decide_eq_true_eq]; omega
  refine ⟨by rw [e]; exact hok, ?_, by omega, by omega, e, ?_⟩
  · rw [e]; unfold addrL; rw [if_pos hok, Int.mul_ediv_cancel _ (by omega)]
  · rw [e]; unfold addrW; rw [if_pos hok, Int.mul_emod_left]
theorem ap_load {c : Cfg} {a : Int} (h : okAddr c a = true) (h1 : 0 ≤ a) (h2 : a ≤ 8191) : apE c ⟨1, a, 0⟩ = 0 := by
  unfold apE apOk; simp [h, mayB, h1, h2]
theorem ap_swap {c : Cfg} {a v : Int} (h : okAddr c a = true) (h1 : 0 ≤ a) (h2 : a ≤ 8191) (h3 : -2147483648 ≤ v ∧ v ≤ 2147483647) : apE c ⟨3, a, v⟩ = 0 := by
  unfold apE apOk; simp [h, mayB, h1, h2, h3]
theorem lets_tell {c : Cfg} {k : CaS} {line st : Int} {g : Bool} (hI : ArrInv c k.ways) (hj : CaJ c k) (h0 : 0 ≤ st) (h4 : st ≤ 4) (he : caTellE c k line = 0) :
    (∃ y, vw c k.ways line = some y ∧ 2 ≤ y.st ∧ vw c (caTellK c k line st g).ways line = if y.lk = true ∨ st ≠ 0 then some ⟨st, line, if st = 0 then .zero else y.words, y.lk⟩ else none) ∨
    (vw c k.ways line = none ∧ (caTellK c k line st g).ways = k.ways) := by
  unfold caTellE at he
  by_cases h2 : 2 ≤ (findW c k.ways line).st
  · left
    cases hv : vw c k.ways line with
    | none => rw [vw_findW, hv] at h2; simp [Way.zero] at h2
    | some y =>
      have hy := (vw_some hv).2.2.2.2
      rw [hy] at h2
      refine ⟨y, rfl, h2, ?_⟩
      have hset : setE c k.ways line st y.words = 0 := by
        rw [setE_vw, hv]
        simp [(hj.wd _ _ hv).1]; omega
      unfold caTellK
      rw [hy, if_pos h2]
      dsimp only
      rw [vw_set hI, if_pos ⟨rfl, hset⟩, hv]
  · right
    rw [if_neg h2] at he
    have hin : wbIn k.buf line = true := by
      cases q : wbIn k.buf line with
      | true => rfl
      | false => unfold wbTellE at he; rw [q] at he; simp at he
    refine ⟨hj.bn line (wbIn_iff.1 hin), ?_⟩
    unfold caTellK
    rw [if_neg h2]
    split <;> rfl
theorem lets_gone5 {c : Cfg} {k : CaS} {line : Int} (hI : ArrInv c k.ways) (hj : CaJ c k) (he : caTellE c k line = 0) : caCan c (caTellK c k line 0 true) line 1 = false := by
  rw [can_vw, if_pos rfl]
  rcases lets_tell (st := 0) (g := true) hI hj (by omega) (by omega) he with ⟨y, h1, h2, h3⟩ | ⟨h1, h2⟩
  · rw [h3]
    split <;> rfl
  · rw [h2, h1]; rfl
theorem lets_gone6 {c : Cfg} {k : CaS} {line : Int} (hI : ArrInv c k.ways) (hst : ∀ x ∈ k.ways, StOk x) (hj : CaJ c k) (he : caInvE c k line = 0) : caCan c (caInvK c k line) line 1 = false := by
  rw [can_vw, if_pos rfl]
  have h2 : ¬ 2 ≤ (findW c k.ways line).st := fun g => by unfold caInvE at he; rw [if_pos g] at he; cases he
  have h0 := findW_all (P := StOk) (line := line) (c := c) hst st_zero
  unfold caInvK
  by_cases h1 : (findW c k.ways line).st = 1
  · rw [if_pos h1]
    cases hv : vw c k.ways line with
    | none => rw [vw_findW, hv] at h1; cases h1
    | some y =>
      have hset : setE c k.ways line 0 .zero = 0 := by rw [setE_vw, hv]; simp [odd_zero]
      dsimp only
      rw [vw_set hI, if_pos ⟨rfl, hset⟩, hv]
      dsimp only
      split <;> rfl
  · rw [if_neg h1]
    have : (findW c k.ways line).st = 0 := by unfold StOk at h0; omega
    rw [vw_findW] at this
    rw [this]; rfl
theorem lets_kept {c : Cfg} {k : CaS} {line : Int} (hI : ArrInv c k.ways) (hj : CaJ c k) (he : caTellE c k line = 0) : caCan c (caTellK c k line 3 false) line 1 = caCan c k line 1 ∧ caCan c (caTellK c k line 3 false) line 2 = false ∧
    (caCan c k line 1 = true → findW c (caTellK c k line 3 false).ways line = ⟨3, line, (findW c k.ways line).words, (findW c k.ways line).lk⟩) := by
  rw [can_vw, can_vw, can_vw]
  simp only [if_pos, Int.reduceEq, if_false]
  rcases lets_tell (st := 3) (g := false) hI hj (by omega) (by omega) he with ⟨y, h1, h2, h3⟩ | ⟨h1, h2⟩
  · rw [if_pos (.inr (by decide))] at h3
    rw [h3, h1]
    simp only [Option.getD_some, Int.reduceEq, if_false]
    refine ⟨?_, by decide, fun _ => ?_⟩
    · rw [decide_eq_true (by decide), decide_eq_true (by omega)]
    · rw [vw_findW, h3, vw_findW, h1]; rfl
  · rw [h2, h1]
    exact ⟨rfl, by decide, fun g => by simp [Way.zero] at g⟩
end Go.Sx
