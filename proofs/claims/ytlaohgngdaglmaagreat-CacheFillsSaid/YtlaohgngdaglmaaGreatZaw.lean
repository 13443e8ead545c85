/- CaWrP: several of my texts as one. My own work. -/
import Derived.Test.YtlaohgngdaglmaaGreatZan
/- Caches told of lists: what was written last is told to others. My own work. -/
namespace Go.Sx
open Go Go.Proofs
set_option linter.unusedVariables false
set_option linter.unusedSimpArgs false
/-- A line that a cache answers for: in its way, or in the buffer. -/
def Holds (c : Cfg) (k : CaS) (line : Int) (w : Words) : Prop :=
  (∃ y, vw c k.ways line = some y ∧ 2 ≤ y.st ∧ y.words = w) ∨ (vw c k.ways line = none ∧ wbTellE k.buf line = 0 ∧ wbTellW k.buf line = w)
theorem holds_tell {c : Cfg} {k : CaS} {line : Int} {w : Words} (h : Holds c k line w) : caTellE c k line = 0 ∧ caTellW c k line = w := by
  unfold caTellE caTellW
  rcases h with ⟨y, h1, h2, h3⟩ | ⟨h1, h2, h3⟩
  · have e : findW c k.ways line = y := by rw [vw_findW, h1]; rfl
    rw [e, if_pos h2, if_pos h2]; exact ⟨rfl, h3⟩
  · have e : findW c k.ways line = .zero := by rw [vw_findW, h1]; rfl
    rw [e, if_neg (show ¬ 2 ≤ Way.zero.st by decide), if_pos h2, if_neg (show ¬ 2 ≤ Way.zero.st by decide)]; exact ⟨rfl, h3⟩
theorem holds_share {c : Cfg} {k : CaS} {line : Int} {w : Words} (hI : ArrInv c k.ways) (hj : CaJ c k) (h : Holds c k line w) : Holds c (caTellK c k line 3 false) line w := by
  obtain ⟨he, hw⟩ := holds_tell h
  rcases h with ⟨y, h1, h2, h3⟩ | ⟨h1, h2, h3⟩
  · rcases lets_tell (st := 3) (g := false) hI hj (by omega) (by omega) he with ⟨z, g1, g2, g3⟩ | ⟨g1, g2⟩
    · rw [h1] at g1; cases g1
      rw [if_pos (.inr (by decide))] at g3
      exact .inl ⟨_, g3, show (2 : Int) ≤ 3 by decide, h3⟩
    · rw [h1] at g1; cases g1
  · right
    have e : findW c k.ways line = .zero := by rw [vw_findW, h1]; rfl
    have : caTellK c k line 3 false = k := by unfold caTellK; rw [e, if_neg (by decide)]; rfl
    rw [this]; exact ⟨h1, h2, h3⟩
theorem holds_give {c : Cfg} {k : CaS} {line : Int} {w : Words} (hI : ArrInv c k.ways) (hj : CaJ c k) (h : Holds c k line w) : caTellE c (caTellK c k line 0 true) line = 7 := by
  obtain ⟨he, hw⟩ := holds_tell h
  rcases h with ⟨y, h1, h2, h3⟩ | ⟨h1, h2, h3⟩
  · rcases lets_tell (st := 0) (g := true) hI hj (by omega) (by omega) he with ⟨z, g1, g2, g3⟩ | ⟨g1, g2⟩
    · have hst : ¬ 2 ≤ (findW c (caTellK c k line 0 true).ways line).st := by
        rw [vw_findW, g3]; split <;> simp [Way.zero]
      have hb : (caTellK c k line 0 true).buf = k.buf := by
        have e : findW c k.ways line = y := by rw [vw_findW, h1]; rfl
        unfold caTellK; rw [e, if_pos h2]
      have hno : wbIn k.buf line = false := by
        cases q : wbIn k.buf line with
        | false => rfl
        | true => have := hj.bn line (wbIn_iff.1 q); rw [h1] at this; cases this
      unfold caTellE
      rw [if_neg hst, hb]
      unfold wbTellE
      rw [hno]; rfl
    · rw [h1] at g1; cases g1
  · have e : findW c k.ways line = .zero := by rw [vw_findW, h1]; rfl
    have hk : caTellK c k line 0 true = ⟨k.ways, k.mis, wbGiveL k.buf line⟩ := by unfold caTellK; rw [e, if_neg (by decide)]; rfl
    rw [hk]
    unfold caTellE
    dsimp only
    rw [e, if_neg (by decide)]
    have hin : wbIn k.buf line = true ∧ (wbAt k.buf line).live = true := by
      unfold wbTellE at h2
      split at h2
      · rename_i q; split at h2
        · rename_i q2; exact ⟨q, q2⟩
        · cases h2
      · cases h2
    obtain ⟨i, hi, e0, ea, el⟩ := wbIn_t hin.1
    have hg : wbGiveL k.buf line = k.buf.set i { k.buf[i] with live := false } := by
      unfold wbGiveL; rw [hin.1, hin.2, e0, Int.toNat_natCast, ea]; rfl
    have hp : wbPlace (wbGiveL k.buf line) line = i := by
      rw [hg]
      exact (indexBy_same (q := fun m : WbE => decide (m.line = line)) (l := k.buf) (i := i) (x := { k.buf[i] with live := false }) hi rfl).trans e0
    have h9 : wbTellE (wbGiveL k.buf line) line = 7 := by
      unfold wbTellE wbIn wbAt
      rw [hp, decide_eq_true (by omega), if_pos rfl, Int.toNat_natCast, hg]
      rw [List.getD_eq_getElem?_getD, List.getElem?_set_self hi]
      rfl
    rw [h9]; rfl
/-- Evicted or not, the line is answered for. -/
theorem holds_ev {c : Cfg} {k : CaS} {line s i : Int} {w : Words} (hI : ArrInv c k.ways) (hj : CaJ c k) (h : Holds c k line w) (hl : (atW c k.ways s i).line = line) : Holds c (caEvK c k s i) line w := by
  unfold caEvK
  split
  · rename_i h0
    have hE := h0
    unfold caEvE at h0
    split at h0
    · cases h0
    · rename_i h1
      split at h0
      · cases h0
      · rename_i h2
        split at h0
        · cases h0
        · rename_i h3
          have hst : (atW c k.ways s i).st ≠ 0 := fun g => h1 (.inr g)
          have hmem := atW_mem hst
          have hlk : (atW c k.ways s i).lk = false := by cases g : (atW c k.ways s i).lk with | false => rfl | true => exact absurd g h2
          generalize atW c k.ways s i = x at *
          subst hl
          have hvx := vw_mem hI hmem (by simp [thereB, hst])
          have hset : setE c k.ways x.line 0 .zero = 0 := by rw [setE_vw, hvx]; simp [odd_zero]
          have hgone : vw c (setL c k.ways x.line 0 .zero) x.line = none := by rw [vw_set hI, if_pos ⟨rfl, hset⟩, hvx]; simp [hlk]
          rcases h with ⟨y, g1, g2, g3⟩ | ⟨g1, _, _⟩
          · rw [hvx] at g1; cases g1
            right
            dsimp only
            rw [if_pos g2]
            have hput : wbPutE c.writebacks k.buf x.line = 0 := Decidable.byContradiction fun g => h3 ⟨g2, g⟩
            have hni : wbIn k.buf x.line = false := by
              cases q : wbIn k.buf x.line with
              | false => rfl
              | true => unfold wbPutE at hput; rw [q] at hput; cases hput
            have hnf : ¬ (k.buf.length : Int) = c.writebacks := fun q => by
              unfold wbPutE at hput; rw [hni, if_neg Bool.false_ne_true, if_pos q] at hput; cases hput
            have hpl : wbPutL c.writebacks k.buf x.line x.words = k.buf ++ [⟨x.line, x.words, true⟩] := by
              unfold wbPutL; rw [hni, if_neg Bool.false_ne_true, if_neg hnf]
            rw [hpl]
            have hp : wbPlace (k.buf ++ [⟨x.line, x.words, true⟩]) x.line = (k.buf.length : Nat) := by
              refine indexBy_at (by simp) (fun j hj hlt => ?_) (by simp)
              rw [List.getElem_append_left hlt]
              have := (indexBy_neg (of_decide_eq_false hni)).2 _ (List.getElem_mem hlt)
              exact this
            have ha : wbAt (k.buf ++ [⟨x.line, x.words, true⟩]) x.line = ⟨x.line, x.words, true⟩ := by
              unfold wbAt; rw [hp, Int.toNat_natCast, List.getD_eq_getElem?_getD]; simp
            have hin : wbIn (k.buf ++ [⟨x.line, x.words, true⟩]) x.line = true := by unfold wbIn; rw [hp]; simp
            refine ⟨hgone, ?_, ?_⟩
            · unfold wbTellE; rw [hin, if_pos rfl, ha]; rfl
            · unfold wbTellW; rw [hin, ha]; exact g3
          · rw [hvx] at g1; cases g1
  · exact h
theorem odd_set {c : Cfg} {w : Words} {j : Nat} {v : Int} (hj : j < c.words.toNat) : oddW c (Words.of (w.list.set j v)) = oddW c w := by
  unfold oddW
  rw [Words.list_of (by rw [List.length_set]; rfl), List.drop_set_of_lt hj]
theorem do_ok {c : Cfg} {k : CaS} {x : Op3} (h : caDoE c k x = 0) : apOk c x = true ∧ caCan c k (addrL c x.addr) (kindOf x) = true := by
  unfold caDoE at h
  split at h
  · rename_i h1
    constructor
    · unfold apE at h1
      split at h1
      · assumption
      · cases h1
    · split at h
      · assumption
      · cases h
  · rename_i h1; exact absurd h h1
/-- What an operation that went through leaves. -/
theorem do_wrote {c : Cfg} {k : CaS} {x : Op3} (hI : ArrInv c k.ways) (hj : CaJ c k) (h : caDoE c k x = 0) :
    ∃ y, ∃ j : Nat, vw c k.ways (addrL c x.addr) = some y ∧ j < 8 ∧ addrW c x.addr = (j : Int) ∧ addrE c x.addr = 0 ∧ okLine c (addrL c x.addr) = true ∧ (x.kind = 1 ∨ x.kind = 2 ∨ x.kind = 3) ∧
      (x.kind = 1 → caDoK c k x = k ∧ caDoV c k x = y.words.list.getD j 0) ∧
      (x.kind ≠ 1 → vw c (caDoK c k x).ways (addrL c x.addr) = some ⟨4, addrL c x.addr, Words.of (y.words.list.set j x.value), y.lk⟩) ∧ (x.kind = 3 → caDoV c k x = y.words.list.getD j 0) := by
  obtain ⟨hap, hcan⟩ := do_ok h
  have hap' := hap
  simp only [apOk, Bool.and_eq_true, Bool.not_eq_true', decide_eq_false_iff_not] at hap'
  obtain ⟨⟨ha, hm⟩, h4⟩ := hap'
  have hkk := (may_facts hm).1
  have hc : checkB c = true := by simp only [okAddr, Bool.and_eq_true] at ha; exact ha.1
  have hw := check_words hc
  have eW : addrW c x.addr = x.addr % c.words := if_pos ha
  have n0 := Int.emod_nonneg x.addr (show c.words ≠ 0 by omega)
  have n1 := Int.emod_lt_of_pos x.addr (show 0 < c.words by omega)
  obtain ⟨j, ej⟩ : ∃ j : Nat, addrW c x.addr = (j : Int) := ⟨(addrW c x.addr).toNat, by omega⟩
  have hjw : j < c.words.toNat := by omega
  have hok : okLine c (addrL c x.addr) = true := by
    have h' := ha
    simp only [okAddr, Bool.and_eq_true, decide_eq_true_eq] at h'
    have e : addrL c x.addr = x.addr / c.words := if_pos ha
    have h2 : 0 ≤ x.addr / c.words := Int.ediv_nonneg h'.2.1 (by omega)
    have h3 : x.addr / c.words < c.lines := Int.ediv_lt_of_lt_mul (by omega) (by rw [Int.mul_comm]; exact h'.2.2)
    simp [okLine, hc, e, h2, h3]
  have hne : caCan c k (addrL c x.addr) (kindOf x) = true → ((vw c k.ways (addrL c x.addr)).getD .zero).st ≠ 0 := fun q => by
    rw [can_vw] at q
    split at q
    · exact of_decide_eq_true q
    · have := of_decide_eq_true q; omega
  have hst := hne hcan
  cases hv : vw c k.ways (addrL c x.addr) with
  | none => rw [hv] at hst; exact absurd rfl hst
  | some y =>
    have hy := (vw_some hv).2.2.2.2
    have eV : caDoV c k x = touchE y.words.list j x := by
      unfold caDoV apV
      rw [if_pos h, if_pos hap, hy, ej, Int.toNat_natCast]
    have eA : apW c y.words x = Words.of (touchL y.words.list j x) := by unfold apW; rw [if_pos hap, ej, Int.toNat_natCast]
    refine ⟨y, j, rfl, by omega, ej, if_pos ha, hok, by omega, fun k1 => ⟨if_neg (fun q => q.2 k1), by rw [eV]; unfold touchE; rw [if_neg (by omega)]⟩, fun k1 => ?_, fun k3 => by rw [eV]; unfold touchE; rw [if_neg (by omega)]⟩
    have eT : touchL y.words.list j x = y.words.list.set j x.value := by unfold touchL; rw [if_pos (by omega)]
    have eK : caDoK c k x = ⟨setL c k.ways (addrL c x.addr) 4 (Words.of (y.words.list.set j x.value)), k.mis, k.buf⟩ := by
      unfold caDoK; rw [if_pos ⟨h, k1⟩, hy, eA, eT]
    rw [eK]
    have hset : setE c k.ways (addrL c x.addr) 4 (Words.of (y.words.list.set j x.value)) = 0 := by
      rw [setE_vw, hv, odd_set hjw, (hj.wd _ _ hv).1]; rfl
    dsimp only
    rw [vw_set hI, if_pos ⟨rfl, hset⟩, hv]
    simp
theorem fwd_ok {c : Cfg} {core line who kind : Int} (hl : okLine c line = true) (h0 : 0 ≤ core ∧ core < c.cores) (h1 : 0 ≤ who ∧ who < c.cores) (hne : who ≠ core) (hk : kind = 4 ∨ kind = 5) :
    caTakeOk c core ⟨kind, line, line.tmod c.homes, core, who, 0, 0, .zero⟩ = true := by
  obtain ⟨hc, l0, l1⟩ := line_big hl
  have hcr := (check_facts hc).1
  rcases hk with g | g <;> subst g
  · have hM : MayP c ⟨4, line, line.tmod c.homes, core, who, 0, 0, .zero⟩ := by
      refine ⟨hc, ⟨show (1 : Int) ≤ 4 by decide, show (4 : Int) ≤ 11 by decide⟩, ⟨l0, l1⟩, ?_, ?_⟩
      · unfold FormP
        rw [if_neg (show ¬ HomeP 4 by decide), if_pos (show (4 : Int) = 4 ∨ (4 : Int) = 6 by decide)]
        exact ⟨h1, hne, rfl, h0, rfl, rfl, Int.le_refl 0, show (0 : Int) < 1 by decide⟩
      · unfold WordsP
        rw [if_neg (show ¬ Wordy 4 by decide)]
    simp [caTakeOk, hM, show ¬ HomeP 4 by decide]
  · have hM : MayP c ⟨5, line, line.tmod c.homes, core, who, 0, 0, .zero⟩ := by
      refine ⟨hc, ⟨show (1 : Int) ≤ 5 by decide, show (5 : Int) ≤ 11 by decide⟩, ⟨l0, l1⟩, ?_, ?_⟩
      · unfold FormP
        rw [if_neg (show ¬ HomeP 5 by decide), if_neg (show ¬ ((5 : Int) = 4 ∨ (5 : Int) = 6) by decide), if_pos (show (5 : Int) = 5 from rfl)]
        exact ⟨h1, hne, rfl, h0, rfl, rfl, Int.le_refl 0, show (0 : Int) < c.cores by omega⟩
      · unfold WordsP
        rw [if_neg (show ¬ Wordy 5 by decide)]
    simp [caTakeOk, hM, show ¬ HomeP 5 by decide]
/-- FwdS is answered with the words. -/
theorem take_share {c : Cfg} {core line who : Int} {k : CaS} {w : Words} (hok : caTakeOk c core ⟨4, line, line.tmod c.homes, core, who, 0, 0, .zero⟩ = true) (h : Holds c k line w) :
    caTakeE c core k ⟨4, line, line.tmod c.homes, core, who, 0, 0, .zero⟩ = 0 ∧ caTakeB c core k ⟨4, line, line.tmod c.homes, core, who, 0, 0, .zero⟩ = true ∧
    caTakeM c core k ⟨4, line, line.tmod c.homes, core, who, 0, 0, .zero⟩ = ⟨7, line, core, who, 1, 0, 1, w⟩ ∧ caTakeK c core k ⟨4, line, line.tmod c.homes, core, who, 0, 0, .zero⟩ = caTellK c k line 3 false := by
  obtain ⟨e1, e2⟩ := holds_tell h
  have hE : caTakeE c core k ⟨4, line, line.tmod c.homes, core, who, 0, 0, .zero⟩ = 0 := by unfold caTakeE; rw [if_pos hok]; simp [e1]
  refine ⟨hE, by unfold caTakeB; rw [hE]; simp, ?_, by unfold caTakeK; rw [if_pos hok]; simp⟩
  unfold caTakeM caTellM; rw [if_pos hok]; simp [e1, e2]
theorem take_give {c : Cfg} {core line who : Int} {k : CaS} {w : Words} (hok : caTakeOk c core ⟨5, line, line.tmod c.homes, core, who, 0, 0, .zero⟩ = true) (h : Holds c k line w) :
    caTakeE c core k ⟨5, line, line.tmod c.homes, core, who, 0, 0, .zero⟩ = 0 ∧ caTakeB c core k ⟨5, line, line.tmod c.homes, core, who, 0, 0, .zero⟩ = true ∧
    caTakeM c core k ⟨5, line, line.tmod c.homes, core, who, 0, 0, .zero⟩ = ⟨7, line, core, who, 1, 0, 4, w⟩ ∧ caTakeK c core k ⟨5, line, line.tmod c.homes, core, who, 0, 0, .zero⟩ = caTellK c k line 0 true := by
  obtain ⟨e1, e2⟩ := holds_tell h
  have hE : caTakeE c core k ⟨5, line, line.tmod c.homes, core, who, 0, 0, .zero⟩ = 0 := by unfold caTakeE; rw [if_pos hok]; simp [e1]
  refine ⟨hE, by unfold caTakeB; rw [hE]; simp, ?_, by unfold caTakeK; rw [if_pos hok]; simp⟩
  unfold caTakeM caTellM; rw [if_pos hok]; simp [e1, e2]
theorem take_no {c : Cfg} {core line who : Int} {k : CaS} (hok : caTakeOk c core ⟨4, line, line.tmod c.homes, core, who, 0, 0, .zero⟩ = true) (h : caTellE c k line = 7) :
    caTakeE c core k ⟨4, line, line.tmod c.homes, core, who, 0, 0, .zero⟩ = 7 := by unfold caTakeE; rw [if_pos hok]; simp [h]
end Go.Sx
