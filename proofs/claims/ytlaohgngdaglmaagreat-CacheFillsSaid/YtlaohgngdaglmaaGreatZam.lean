/- Vw, CaInv2: several of my texts as one. My own work. -/
import Derived.Test.YtlaohgngdaglmaaGreatZal
/- An array of ways, seen line by line. My own work. -/
namespace Go.Sx
open Go Go.Proofs
set_option linter.unusedVariables false
set_option linter.unusedSimpArgs false
/-- The way that has a line. -/
def vw (c : Cfg) (l : List Way) (line : Int) : Option Way := if arrP c l line < 0 then none else some (findW c l line)
theorem vw_none {c : Cfg} {l : List Way} {line : Int} (h : arrP c l line = -1) : vw c l line = none := by unfold vw; rw [h]; rfl
theorem vw_at {c : Cfg} {l : List Way} {line : Int} {i : Nat} (h : arrP c l line = i) : vw c l line = some (findW c l line) := by unfold vw; rw [if_neg (by omega)]
theorem arrP_or {c : Cfg} {l : List Way} {line : Int} : arrP c l line = -1 ∨ ∃ i : Nat, arrP c l line = i := by
  have := arrP_lt c l line
  by_cases h : arrP c l line = -1
  · exact .inl h
  · exact .inr ⟨(arrP c l line).toNat, by omega⟩
theorem vw_findB {c : Cfg} {l : List Way} {line : Int} : findB c l line = (vw c l line).isSome := by
  rcases arrP_or (c := c) (l := l) (line := line) with h | ⟨i, h⟩
  · rw [(find_isnt h).1, vw_none h]; rfl
  · rw [(find_is h).1, vw_at h]; rfl
theorem vw_findW {c : Cfg} {l : List Way} {line : Int} : findW c l line = (vw c l line).getD .zero := by
  rcases arrP_or (c := c) (l := l) (line := line) with h | ⟨i, h⟩
  · rw [(find_isnt h).2.2, vw_none h]; rfl
  · rw [vw_at h]; rfl
theorem vw_some {c : Cfg} {l : List Way} {line : Int} {w : Way} (h : vw c l line = some w) : w.line = line ∧ thereB w = true ∧ w ∈ l ∧ okLine c line = true ∧ findW c l line = w := by
  rcases arrP_or (c := c) (l := l) (line := line) with g | ⟨i, g⟩
  · rw [vw_none g] at h; cases h
  · rw [vw_at g] at h
    cases h
    obtain ⟨b1, b2, b3, _⟩ := arrP_at g
    have e := findW_at g b1
    exact ⟨find_line g, by rw [e]; exact (pHas_iff.1 b3).1, by rw [e]; exact List.getElem_mem b1, b2, rfl⟩
theorem vw_mem {c : Cfg} {l : List Way} {w : Way} (hI : ArrInv c l) (hw : w ∈ l) (ht : thereB w = true) : vw c l w.line = some w := by
  obtain ⟨i, hi, rfl⟩ := List.getElem_of_mem hw
  obtain ⟨h1, h2⟩ := find_at (line := l[i].line) hI hi (by simp [pHas, ht])
  rw [vw_at h2, findW_at h2 (by omega)]
  congr 2; omega
theorem setE_vw {c : Cfg} {l : List Way} {line st : Int} {w : Words} : setE c l line st w = if (vw c l line).isNone then 5 else if st < 0 ∨ st > 4 ∨ oddW c w = true then 1 else 0 := by
  unfold setE
  rcases arrP_or (c := c) (l := l) (line := line) with h | ⟨i, h⟩
  · rw [vw_none h, if_pos h]; rfl
  · rw [vw_at h, if_neg (by omega)]; rfl
theorem vw_set {c : Cfg} {l : List Way} {line st : Int} {w : Words} (hI : ArrInv c l) (x : Int) : vw c (setL c l line st w) x =
    if x = line ∧ setE c l line st w = 0 then (match vw c l line with | some y => if y.lk = true ∨ st ≠ 0 then some ⟨st, line, if st = 0 then .zero else w, y.lk⟩ else none | none => none) else vw c l x := by
  by_cases hx : x = line
  · subst hx
    by_cases he : setE c l x st w = 0
    · rw [if_pos ⟨rfl, he⟩]
      obtain ⟨h1, h2, h3⟩ := set_self hI he
      have e := vw_findB (c := c) (l := l) (line := x)
      rw [h1] at e
      cases hv : vw c l x with
      | none => rw [hv] at e; cases e
      | some y =>
        have hy := (vw_some hv).2.2.2.2
        rw [hy] at h2 h3
        dsimp only
        by_cases hlk : y.lk = true ∨ st ≠ 0
        · rw [if_pos hlk]
          obtain ⟨g1, _, g3⟩ := h2 hlk
          have e2 := vw_findB (c := c) (l := setL c l x st w) (line := x)
          rw [g1] at e2
          cases hv2 : vw c (setL c l x st w) x with
          | none => rw [hv2] at e2; cases e2
          | some z => rw [← g3, (vw_some hv2).2.2.2.2]
        · rw [if_neg hlk]
          obtain ⟨g1, _, _⟩ := h3 ⟨by cases hl : y.lk with | false => rfl | true => exact absurd (.inl hl) hlk, Decidable.byContradiction fun g => hlk (.inr g)⟩
          have e2 := vw_findB (c := c) (l := setL c l x st w) (line := x)
          rw [g1] at e2
          cases hv2 : vw c (setL c l x st w) x with
          | none => rfl
          | some z => rw [hv2] at e2; cases e2
    · rw [if_neg (fun h => he h.2)]
      have : setL c l x st w = l := if_neg he
      rw [this]
  · rw [if_neg (fun h => hx h.1)]
    obtain ⟨h1, h2⟩ := set_other (st := st) (w := w) hI (Ne.symm hx)
    unfold vw; rw [h1, h2]
theorem vw_lock {c : Cfg} {l : List Way} {line : Int} {lk : Bool} (hI : ArrInv c l) (x : Int) : vw c (lockL c l line lk) x =
    if x = line then (match vw c l line with | some y => if lk = true ∨ y.st ≠ 0 then some ⟨y.st, line, y.words, lk⟩ else none | none => none) else vw c l x := by
  by_cases hx : x = line
  · subst hx
    rw [if_pos rfl]
    rcases arrP_or (c := c) (l := l) (line := x) with h | ⟨i, h⟩
    · have : lockL c l x lk = l := by unfold lockL lockE; rw [if_pos h]; rfl
      rw [this, vw_none h]
    · have hl := find_line h
      have he : lockE c l x = 0 := if_neg (by omega)
      have e1 : lockL c l x lk = l.set (arrF c x + i) { findW c l x with lk := lk } := by unfold lockL; rw [if_pos he, h, Int.toNat_natCast]
      obtain ⟨t1, t2⟩ := turn_self (w := { findW c l x with lk := lk }) hI h hl
      rw [e1, vw_at h]
      dsimp only
      by_cases hc : lk = true ∨ (findW c l x).st ≠ 0
      · rw [if_pos hc]
        have ht : thereB { findW c l x with lk := lk } = true := by
          unfold thereB; dsimp only
          rcases hc with g | g
          · rw [g]; simp
          · simp [g]
        obtain ⟨g1, g2⟩ := t1 ht
        rw [vw_at g1, g2]
        simp only [hl]
      · rw [if_neg hc]
        have ht : thereB { findW c l x with lk := lk } = false := by
          unfold thereB; dsimp only
          cases lk with
          | true => exact absurd (.inl rfl) hc
          | false => simp; exact Decidable.byContradiction fun g => hc (.inr g)
        exact vw_none (t2 ht)
  · rw [if_neg hx]
    obtain ⟨h1, h2⟩ := lock_other (lk := lk) hI (Ne.symm hx)
    unfold vw; rw [h1, h2]
theorem vw_lay {c : Cfg} {l : List Way} {line : Int} (hI : ArrInv c l) (hf : ¬ arrFree c l line < 0) (hno : vw c l line = none) (x : Int) : vw c (layL c l line (arrFree c l line)) x = if x = line then some ⟨0, line, .zero, true⟩ else vw c l x := by
  by_cases hx : x = line
  · subst hx
    rw [if_pos rfl]
    obtain ⟨i, hi⟩ : ∃ i : Nat, arrFree c l x = i := ⟨(arrFree c l x).toNat, by omega⟩
    obtain ⟨_, _, _, h4, h5⟩ := lay_at hI hi (by rw [vw_findB, hno]; rfl)
    rw [hi, vw_at h4, h5]
  · rw [if_neg hx]
    obtain ⟨h1, h2⟩ := lay_other (way := arrFree c l line) hI (Ne.symm hx)
    unfold vw; rw [h1, h2]
end Go.Sx

/- Caches told of lists: locks, misses and what was evicted. My own work. -/
namespace Go.Sx
open Go Go.Proofs
set_option linter.unusedVariables false
set_option linter.unusedSimpArgs false
def misLs (k : CaS) : List Int := k.mis.map (·.line)
def bufLs (k : CaS) : List Int := k.buf.map (·.line)
structure CaI2 (c : Cfg) (ways : List Way) (M B : List Int) : Prop where
  wd : ∀ x w, vw c ways x = some w → oddW c w.words = false ∧ (w.st = 0 → w.words = .zero)
  ml : ∀ x ∈ M, ∃ w, vw c ways x = some w ∧ w.lk = true
  lm : ∀ x w, vw c ways x = some w → w.lk = true → x ∈ M
  bn : ∀ x ∈ B, vw c ways x = none
  nd : M.Nodup
  bd : B.Nodup
theorem odd_zero (c : Cfg) : oddW c .zero = false := by
  unfold oddW
  rw [indexBy_none]
  · decide
  · intro j hj _
    have : (Words.zero.list.drop c.words.toNat)[j] = 0 := by
      have hm : (Words.zero.list.drop c.words.toNat)[j] ∈ Words.zero.list := List.mem_of_mem_drop (List.getElem_mem hj)
      have hz : ∀ y ∈ Words.zero.list, y = 0 := by decide
      exact hz _ hm
    rw [this]; rfl
theorem setE_ok {c : Cfg} {l : List Way} {line st : Int} {w : Words} (h : setE c l line st w = 0) : (∃ y, vw c l line = some y) ∧ 0 ≤ st ∧ st ≤ 4 ∧ oddW c w = false := by
  rw [setE_vw] at h
  cases hv : vw c l line with
  | none => rw [hv] at h; cases h
  | some y =>
    rw [hv] at h
    simp only [Option.isNone_some, Bool.false_eq_true, if_false] at h
    split at h
    · cases h
    · rename_i h1
      refine ⟨⟨y, rfl⟩, by omega, by omega, ?_⟩
      cases g : oddW c w with
      | false => rfl
      | true => exact absurd (.inr (.inr g)) h1
theorem i2_set {c : Cfg} {ways : List Way} {M B : List Int} {line st : Int} {w : Words} (hI : ArrInv c ways) (h : CaI2 c ways M B) : CaI2 c (setL c ways line st w) M B := by
  have hv := vw_set (line := line) (st := st) (w := w) hI
  by_cases he : setE c ways line st w = 0
  · obtain ⟨⟨y, hy⟩, h0, h4, ho⟩ := setE_ok he
    have hl : vw c (setL c ways line st w) line = if y.lk = true ∨ st ≠ 0 then some ⟨st, line, if st = 0 then .zero else w, y.lk⟩ else none := by rw [hv, if_pos ⟨rfl, he⟩, hy]
    have hx : ∀ x, x ≠ line → vw c (setL c ways line st w) x = vw c ways x := fun x g => by rw [hv, if_neg (fun g2 => g g2.1)]
    refine ⟨fun x z hz => ?_, fun x hm => ?_, fun x z hz hk => ?_, fun x hb => ?_, h.nd, h.bd⟩
    · by_cases g : x = line
      · subst g
        rw [hl] at hz
        split at hz
        · cases hz
          dsimp only
          refine ⟨?_, fun g0 => by rw [if_pos g0]⟩
          split
          · exact odd_zero c
          · exact ho
        · cases hz
      · rw [hx x g] at hz; exact h.wd x z hz
    · by_cases g : x = line
      · subst g
        obtain ⟨z, hz, hk⟩ := h.ml x hm
        rw [hy] at hz; cases hz
        exact ⟨⟨st, x, if st = 0 then .zero else w, y.lk⟩, by rw [hl, if_pos (.inl hk)], hk⟩
      · rw [hx x g]; exact h.ml x hm
    · by_cases g : x = line
      · subst g
        rw [hl] at hz
        split at hz
        · cases hz; exact h.lm x y hy hk
        · cases hz
      · rw [hx x g] at hz; exact h.lm x z hz hk
    · by_cases g : x = line
      · subst g
        have := h.bn x hb
        rw [hy] at this; cases this
      · rw [hx x g]; exact h.bn x hb
  · have : setL c ways line st w = ways := if_neg he
    rw [this]; exact h
theorem misIn_iff {l : List Miss} {line : Int} : misIn l line = true ↔ line ∈ l.map (·.line) := by
  constructor
  · intro h
    obtain ⟨h1, h2⟩ := misIn_mem h
    exact List.mem_map.2 ⟨_, h1, h2⟩
  · intro h
    obtain ⟨m, hm, e⟩ := List.mem_map.1 h
    cases g : misIn l line with
    | true => rfl
    | false =>
      have := (indexBy_neg (of_decide_eq_false g)).2 m hm
      simp [e] at this
theorem wbIn_iff {l : List WbE} {line : Int} : wbIn l line = true ↔ line ∈ l.map (·.line) := by
  constructor
  · intro h
    obtain ⟨i, hi, _, _, e⟩ := wbIn_t h
    exact List.mem_map.2 ⟨_, List.getElem_mem hi, e⟩
  · intro h
    obtain ⟨m, hm, e⟩ := List.mem_map.1 h
    cases g : wbIn l line with
    | true => rfl
    | false =>
      have := (indexBy_neg (of_decide_eq_false g)).2 m hm
      simp [e] at this
/-- A miss is turned, and keeps its line. -/
theorem turn_ls {l : List Miss} {line : Int} {x : Miss} (h : misIn l line = true) (hx : x.line = (misAt l line).line) : (l.set (misP l line).toNat x).map (·.line) = l.map (·.line) := by
  obtain ⟨i, hi, e0, ea, el⟩ := misIn_t h
  rw [e0, Int.toNat_natCast, List.map_set, hx, ea]
  have : (l.map (·.line)).set i l[i].line = l.map (·.line) := by
    have e : l[i].line = (l.map (·.line))[i]'(by simpa using hi) := by simp
    rw [e, List.set_getElem_self]
  exact this
theorem data_ls {l : List Miss} {line acks own : Int} {w : Words} : (dataL l line acks own w).map (·.line) = l.map (·.line) := by
  unfold dataL
  split
  · rename_i h; exact turn_ls (dataE_in h).1 rfl
  · rfl
theorem grant_ls {l : List Miss} {line acks : Int} : (grantL l line acks).map (·.line) = l.map (·.line) := by
  unfold grantL
  split
  · rename_i h; exact turn_ls (dataE_in h).1 rfl
  · rfl
theorem ack_ls {l : List Miss} {line : Int} : (ackL l line).map (·.line) = l.map (·.line) := by
  unfold ackL
  split
  · rename_i h; exact turn_ls (ackE_in h).1 rfl
  · rfl
theorem owe_in {l : List Miss} {line : Int} (h : oweB l line = true) : misIn l line = true := by
  unfold oweB at h; simp only [Bool.and_eq_true] at h; exact h.1.1
theorem owe_ls {l : List Miss} {line : Int} : (oweL l line).map (·.line) = l.map (·.line) := by
  unfold oweL
  split
  · rename_i h; exact turn_ls (owe_in h) rfl
  · rfl
abbrev CaJ (c : Cfg) (k : CaS) : Prop := CaI2 c k.ways (misLs k) (bufLs k)
theorem j_fill {c : Cfg} {k : CaS} {line : Int} (hI : ArrInv c k.ways) (h : CaJ c k) : CaJ c (caFill c k line) := by
  unfold caFill
  split
  · unfold CaJ misLs bufLs
    rw [owe_ls]
    exact i2_set hI h
  · exact h
theorem j_ask {c : Cfg} {k : CaS} {line kind : Int} (hI : ArrInv c k.ways) (h : CaJ c k) : CaJ c (caAskK c k line kind) := by
  unfold caAskK
  split
  · rename_i h0
    unfold caAskE at h0
    split at h0
    · cases h0
    · rename_i hb
      split at h0
      · cases h0
      · rename_i h6
        split at h0
        · cases h0
        · rename_i h4
          split at h0
          · cases h0
          · rename_i h5
            have hm : misIn k.mis line = false := by cases g : misIn k.mis line with | false => rfl | true => exact absurd (.inl g) h6
            have hw : wbIn k.buf line = false := by cases g : wbIn k.buf line with | false => rfl | true => exact absurd (.inr (.inl g)) h6
            have hM : line ∉ misLs k := fun g => by rw [misIn_iff.2 g] at hm; cases hm
            have hB : line ∉ bufLs k := fun g => by rw [wbIn_iff.2 g] at hw; cases hw
            have hkd : ¬ (kind ≠ 1 ∧ kind ≠ 2) := fun g => hb (.inr g)
            have hop : openL c.mshrs k.mis line kind = k.mis ++ [⟨line, kind, -1, 0, 0, .zero, false, false⟩] := by
              have : openE c.mshrs k.mis line kind = 0 := by
                unfold openE
                rw [if_neg hkd, hm, if_neg Bool.false_ne_true, if_neg h4]
              unfold openL; rw [if_pos this]
            have eM : misLs ⟨if findB c k.ways line then lockL c k.ways line true else layL c k.ways line (arrFree c k.ways line), openL c.mshrs k.mis line kind, k.buf⟩ = misLs k ++ [line] := by
              unfold misLs; dsimp only; rw [hop, List.map_append]; rfl
            -- the line is locked there, with words that are fine; others are as they were
            obtain ⟨y, hy, hyk, hyo⟩ : ∃ y : Way, (∀ x, vw c (if findB c k.ways line then lockL c k.ways line true else layL c k.ways line (arrFree c k.ways line)) x = if x = line then some y else vw c k.ways x) ∧ y.lk = true ∧ (oddW c y.words = false ∧ (y.st = 0 → y.words = .zero)) := by
              cases hf : vw c k.ways line with
              | none =>
                have hfb : findB c k.ways line = false := by rw [vw_findB, hf]; rfl
                rw [hfb, if_neg Bool.false_ne_true]
                exact ⟨⟨0, line, .zero, true⟩, vw_lay hI (fun g => h5 ⟨hfb, g⟩) hf, rfl, odd_zero c, fun _ => rfl⟩
              | some z =>
                have hfb : findB c k.ways line = true := by rw [vw_findB, hf]; rfl
                rw [hfb, if_pos rfl]
                exact ⟨⟨z.st, line, z.words, true⟩, fun x => by rw [vw_lock hI, hf]; simp, rfl, h.wd line z hf⟩
            unfold CaJ
            rw [eM]
            refine ⟨fun x w hx => ?_, fun x hx => ?_, fun x w hx hk => ?_, fun x hx => ?_, ?_, h.bd⟩
            · dsimp only at hx
              rw [hy] at hx
              split at hx
              · cases hx; exact hyo
              · exact h.wd x w hx
            · dsimp only
              rw [hy]
              split
              · exact ⟨y, rfl, hyk⟩
              · rename_i g
                rcases List.mem_append.1 hx with g2 | g2
                · exact h.ml x g2
                · exact absurd (by simpa using g2) g
            · dsimp only at hx
              rw [hy] at hx
              split at hx
              · rename_i g; exact List.mem_append.2 (.inr (by simp [g]))
              · exact List.mem_append.2 (.inl (h.lm x w hx hk))
            · dsimp only
              have hne : x ≠ line := fun g => by subst g; exact hB hx
              rw [hy, if_neg hne]
              exact h.bn x hx
            · rw [List.nodup_append]
              exact ⟨h.nd, by simp, fun a ha b hb2 => by simp at hb2; subst hb2; exact fun g => hM (g ▸ ha)⟩
  · exact h
theorem atW_mem {c : Cfg} {l : List Way} {s k : Int} (h : (atW c l s k).st ≠ 0) : atW c l s k ∈ l := by
  unfold atW at h ⊢
  by_cases h1 : inWay c s k = true
  · rw [if_pos h1] at h ⊢
    by_cases h2 : s.toNat * c.ways.toNat + k.toNat < l.length
    · rw [← getD_at h2]; exact List.getElem_mem h2
    · rw [List.getD_eq_getElem?_getD, List.getElem?_eq_none (by omega)] at h
      exact absurd rfl h
  · rw [if_neg h1] at h
    exact absurd rfl h
theorem j_ev {c : Cfg} {k : CaS} {s w : Int} (hI : ArrInv c k.ways) (h : CaJ c k) : CaJ c (caEvK c k s w) := by
  unfold caEvK
  split
  · rename_i h0
    unfold caEvE at h0
    split at h0
    · cases h0
    · rename_i h1
      split at h0
      · cases h0
      · rename_i h2
        split at h0
        · cases h0
        · rename_i h3
          have hst : (atW c k.ways s w).st ≠ 0 := fun g => h1 (.inr g)
          have hmem := atW_mem hst
          have hlk : (atW c k.ways s w).lk = false := by cases g : (atW c k.ways s w).lk with | false => rfl | true => exact absurd g h2
          generalize atW c k.ways s w = x at *
          have hvx := vw_mem hI hmem (by simp [thereB, hst])
          have hset : setE c k.ways x.line 0 .zero = 0 := by rw [setE_vw, hvx]; simp [odd_zero]
          have h' := i2_set (line := x.line) (st := 0) (w := .zero) hI h
          have hgone : vw c (setL c k.ways x.line 0 .zero) x.line = none := by rw [vw_set hI, if_pos ⟨rfl, hset⟩, hvx]; simp [hlk]
          refine ⟨h'.wd, h'.ml, h'.lm, fun z hz => ?_, h'.nd, ?_⟩
          · unfold bufLs at hz
            dsimp only at hz ⊢
            split at hz
            · unfold wbPutL at hz
              split at hz
              · exact h'.bn z hz
              · split at hz
                · exact h'.bn z hz
                · rw [List.map_append] at hz
                  rcases List.mem_append.1 hz with g | g
                  · exact h'.bn z g
                  · simp at g; subst g; exact hgone
            · exact h'.bn z hz
          · unfold bufLs
            dsimp only
            split
            · unfold wbPutL
              split
              · exact h.bd
              · split
                · exact h.bd
                · rename_i g1 g2
                  rw [List.map_append, List.nodup_append]
                  exact ⟨h.bd, by simp, fun a ha b hb2 => by simp at hb2; subst hb2; exact fun g => g1 (wbIn_iff.2 (g ▸ ha))⟩
            · exact h.bd
  · exact h
theorem give_ls {l : List WbE} {line : Int} : (wbGiveL l line).map (·.line) = l.map (·.line) := by
  unfold wbGiveL
  split
  · rename_i h
    simp only [Bool.and_eq_true] at h
    obtain ⟨i, hi, e0, ea, el⟩ := wbIn_t h.1
    rw [e0, Int.toNat_natCast, List.map_set, ea]
    have e : l[i].line = (l.map (·.line))[i]'(by simpa using hi) := by simp
    dsimp only
    rw [e, List.set_getElem_self]
  · rfl
theorem j_tell {c : Cfg} {k : CaS} {line st : Int} {g : Bool} (hI : ArrInv c k.ways) (h : CaJ c k) : CaJ c (caTellK c k line st g) := by
  unfold caTellK
  split
  · exact i2_set hI h
  · split
    · unfold CaJ bufLs; dsimp only; rw [give_ls]; exact h
    · exact h
theorem nodup_sub {α : Type} {l m : List α} (h : l.Sublist m) (hn : m.Nodup) : l.Nodup := List.Nodup.sublist h hn
theorem j_drop {c : Cfg} {k : CaS} {line : Int} (h : CaJ c k) : CaJ c (caPaK k line) := by
  have hs : ((wbDropL k.buf line).map (·.line)).Sublist (k.buf.map (·.line)) := by
    unfold wbDropL
    split
    · exact (List.eraseIdx_sublist _ _).map _
    · exact List.Sublist.refl _
  exact ⟨h.wd, h.ml, h.lm, fun x hx => h.bn x (hs.mem hx), h.nd, nodup_sub hs h.bd⟩
theorem j_take {c : Cfg} {core : Int} {k : CaS} {m : Msg} (hI : ArrInv c k.ways) (h : CaJ c k) : CaJ c (caTakeK c core k m) := by
  have ms : ∀ mis' : List Miss, mis'.map (·.line) = k.mis.map (·.line) → CaJ c ⟨k.ways, mis', k.buf⟩ := fun mis' e => by
    unfold CaJ misLs; dsimp only; rw [e]; exact h
  unfold caTakeK
  split
  · split
    · exact j_tell hI h
    · split
      · exact j_tell hI h
      · split
        · split
          · unfold caInvK
            split
            · exact i2_set hI h
            · exact h
          · exact h
        · split
          · unfold caDataK
            split
            · exact j_fill hI (ms _ data_ls)
            · exact h
          · split
            · unfold caGrK
              split
              · exact j_fill hI (ms _ grant_ls)
              · exact h
            · split
              · unfold caAckK
                split
                · exact j_fill hI (ms _ ack_ls)
                · exact h
              · exact j_drop h
  · exact h
theorem nodup_at {l : List Int} (hn : l.Nodup) {i j : Nat} (hi : i < l.length) (hj : j < l.length) (e : l[i] = l[j]) : i = j := by
  rw [List.nodup_iff_pairwise_ne, List.pairwise_iff_getElem] at hn
  rcases Nat.lt_trichotomy i j with g | g | g
  · exact absurd e (hn i j hi hj g)
  · exact g
  · exact absurd e.symm (hn j i hj hi g)
theorem nodup_erase {l : List Int} (hn : l.Nodup) {i : Nat} (hi : i < l.length) (x : Int) : x ∈ l.eraseIdx i ↔ x ∈ l ∧ x ≠ l[i] := by
  constructor
  · intro h
    obtain ⟨j, hj, hne, e⟩ := List.mem_eraseIdx_iff_getElem.1 h
    exact ⟨e ▸ List.getElem_mem hj, fun g => hne (nodup_at hn hj hi (by rw [e, g]))⟩
  · rintro ⟨h, hne⟩
    obtain ⟨j, hj, e⟩ := List.getElem_of_mem h
    exact List.mem_eraseIdx_iff_getElem.2 ⟨j, hj, fun g => hne (by subst g; exact e.symm), e⟩
theorem er_map {α β : Type} {f : α → β} {l : List α} {i : Nat} : (l.eraseIdx i).map f = (l.map f).eraseIdx i := by
  simp [List.eraseIdx_eq_take_drop_succ, List.map_take, List.map_drop]
/-- The miss that owes is the one of its line. -/
theorem fin_close {k : CaS} (hn : (misLs k).Nodup) (h : caFinB k = true) : closeE k.mis (caFinL k) = 0 ∧ ∃ i, ∃ hi : i < k.mis.length, misP k.mis (caFinL k) = i ∧ caFinL k = k.mis[i].line ∧ k.mis[i].owes = true := by
  have h' : 0 ≤ owingP k.mis := of_decide_eq_true h
  obtain ⟨i, hi, e0, ho, _⟩ := indexBy_nat h'
  have e0' : owingP k.mis = i := e0
  have el : caFinL k = k.mis[i].line := by unfold caFinL; rw [if_pos h', e0', Int.toNat_natCast, ← getD_at hi]
  have hin : misIn k.mis (caFinL k) = true := misIn_iff.2 (List.mem_map.2 ⟨_, List.getElem_mem hi, el.symm⟩)
  obtain ⟨j, hj, e1, ea, ej⟩ := misIn_t hin
  have hij : j = i := nodup_at hn (by simpa [misLs] using hj) (by simpa [misLs] using hi) (by simp [misLs, ej, el])
  subst hij
  refine ⟨?_, j, hi, e1, el, ho⟩
  unfold closeE
  rw [if_pos hin, ea, ho]; rfl
theorem j_fin {c : Cfg} {k : CaS} (hI : ArrInv c k.ways) (h : CaJ c k) : CaJ c (caFinK c k) := by
  unfold caFinK
  split
  · rename_i h0
    obtain ⟨he, i, hi, ep, el, _⟩ := fin_close h.nd h0
    have hcl : closeL k.mis (caFinL k) = k.mis.eraseIdx i := by unfold closeL; rw [if_pos he, ep, Int.toNat_natCast]
    have eM : misLs ⟨lockL c k.ways (caFinL k) false, closeL k.mis (caFinL k), k.buf⟩ = (misLs k).eraseIdx i := by
      unfold misLs; dsimp only; rw [hcl, er_map]
    have hi' : i < (misLs k).length := by simpa [misLs] using hi
    have ei : (misLs k)[i] = caFinL k := by rw [el]; simp [misLs]
    have hmem := nodup_erase h.nd hi'
    rw [ei] at hmem
    obtain ⟨y, hy, hyk⟩ := h.ml (caFinL k) (by rw [← ei]; exact List.getElem_mem hi')
    have hv := vw_lock (line := caFinL k) (lk := false) hI
    rw [hy] at hv
    unfold CaJ
    rw [eM]
    refine ⟨fun x w hx => ?_, fun x hx => ?_, fun x w hx hk => ?_, fun x hx => ?_, nodup_sub (List.eraseIdx_sublist _ _) h.nd, h.bd⟩
    · dsimp only at hx
      rw [hv] at hx
      split at hx
      · dsimp only at hx
        split at hx
        · cases hx; exact h.wd _ y hy
        · cases hx
      · exact h.wd x w hx
    · obtain ⟨g1, g2⟩ := (hmem x).1 hx
      dsimp only
      rw [hv, if_neg g2]
      exact h.ml x g1
    · dsimp only at hx
      rw [hv] at hx
      split at hx
      · dsimp only at hx
        split at hx
        · cases hx; cases hk
        · cases hx
      · rename_i g
        exact (hmem x).2 ⟨h.lm x w hx hk, g⟩
    · dsimp only
      rw [hv]
      have hb := h.bn x hx
      split
      · rename_i g
        rw [g, hy] at hb; cases hb
      · exact hb
  · exact h
theorem j_do {c : Cfg} {k : CaS} {x : Op3} (hI : ArrInv c k.ways) (h : CaJ c k) : CaJ c (caDoK c k x) := by
  unfold caDoK
  split
  · exact i2_set hI h
  · exact h
theorem j_step {c : Cfg} {core : Int} {k : CaS} {s : CStep} (hI : ArrInv c k.ways) (h : CaJ c k) : CaJ c (stK c core k s) := by
  unfold stK
  split
  · exact j_ask hI h
  · split
    · exact j_ev hI h
    · split
      · exact j_take hI h
      · split
        · exact j_fin hI h
        · exact j_do hI h
theorem j_new (c : Cfg) (n : Nat) : CaJ c ⟨List.replicate n .zero, [], []⟩ := by
  have hv : ∀ x, vw c (List.replicate n .zero) x = none := fun x => vw_none (find_no fun k hk => by
    rw [List.getElem_replicate]; rfl)
  exact ⟨fun x w h => (by dsimp only at h; rw [hv] at h; cases h), fun x h => (by cases h), fun x w h => (by dsimp only at h; rw [hv] at h; cases h), fun x h => (by cases h), List.nodup_nil, List.nodup_nil⟩
theorem stKs_j {c : Cfg} {core : Int} {k : CaS} {l : List CStep} (h : CaInv c 0 k) (hj : CaJ c k) : ∀ i, i ≤ l.length → CaJ c (stKs c core k (l.take i)) := by
  intro i
  induction i with
  | zero => intro _; rw [List.take_zero]; exact hj
  | succ i ih =>
    intro hi
    rw [stKs_succ (show i < l.length by omega)]
    exact j_step (stKs_inv h i (by omega)).1 (ih (by omega))
end Go.Sx
