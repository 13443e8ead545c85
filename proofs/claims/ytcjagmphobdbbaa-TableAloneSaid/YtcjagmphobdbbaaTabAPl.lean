/- Who may have a line behind a turn. Plain facts. My own work. -/
import Derived.Test.YtcjagmphobdbbaaTabPl
namespace Go.Sx
open Go Go.Proofs
set_option linter.unusedVariables false
set_option linter.unusedSimpArgs false
def toldP (core : Int) (x : Msg) : Bool := decide (x.dst = core) && (decide (x.kind = 5) || decide (x.kind = 6))
theorem clear_has (s : SSet) (c : Int) : shHas (clearS s) c = false := by simp [shHas, clearS]
theorem alone_M {e : TEnt} {m : Msg} {w : Words} {core : Int} (h : nextE e m = 0) (hk : m.kind = 2) : (nextT e m).o = m.src ∧ shHas (nextT e m).s core = false ∧
    (0 ≤ core → (e.o = core ∨ shHas e.s core = true) → core ≠ m.src → (nextS e m w).any (toldP core) = true) := by
  obtain ⟨hok, _⟩ := nextE_ok h
  obtain ⟨h1, h2, h3, h4, h5⟩ := okT_facts hok
  have eT : nextT e m = ⟨m.src, clearS e.s⟩ := by unfold nextT; rw [if_pos h, if_neg (by omega), if_pos hk]
  have eS : nextS e m w = firstT e m w :: (othersT e m).map (invT m) := by unfold nextS writeS; rw [if_pos h, if_neg (by omega), if_pos hk]
  rw [eT, eS]
  refine ⟨rfl, clear_has _ _, fun c0 hw hne => ?_⟩
  rw [List.any_cons, Bool.or_eq_true]
  by_cases ho : e.o = core
  · left
    unfold firstT
    rw [if_neg (by omega), if_neg (by omega)]
    simp [toldP, msgT, ho]
  · right
    have hs : shHas e.s core = true := hw.resolve_left ho
    rw [List.any_eq_true]
    refine ⟨invT m core, List.mem_map.2 ⟨core, (tgt_mem h1).2 ⟨hs, ?_⟩, rfl⟩, by simp [toldP, invT, msgT]⟩
    simp only [List.mem_cons, List.not_mem_nil, or_false, not_or]
    exact ⟨hne, fun e => ho e.symm⟩
theorem alone_S {e : TEnt} {m : Msg} {core : Int} (h : nextE e m = 0) (hk : m.kind = 1) (c0 : 0 ≤ core) :
    ((e.o = core ∨ shHas e.s core = true) → ((nextT e m).o = core ∨ shHas (nextT e m).s core = true)) ∧ (core = m.src → ((nextT e m).o = core ∨ shHas (nextT e m).s core = true)) := by
  obtain ⟨hok, hk2⟩ := nextE_ok h
  obtain ⟨h1, h2, h3, h4, h5⟩ := okT_facts hok
  have hne : ¬ e.o = m.src := by
    rcases hk2 with h | h | h
    · exact h.2
    · omega
    · omega
  have eT : nextT e m = readT e m := by unfold nextT; rw [if_pos h, if_pos hk]
  rw [eT]
  unfold readT
  rw [if_neg hne]
  split
  · refine ⟨fun hw => ?_, fun hc => .inr (add_has h1 h4 h5 (.inr hc))⟩
    rcases hw with hw | hw
    · exact .inl hw
    · exact .inr (add_has h1 h4 h5 (.inl hw))
  · split
    · rename_i ho ht
      refine ⟨fun hw => ?_, fun hc => .inl hc.symm⟩
      exfalso
      rcases hw with hw | hw
      · omega
      · have : core ∈ tgtT e [] := (tgt_mem h1).2 ⟨hw, by simp⟩
        rw [List.eq_nil_of_length_eq_zero ht] at this
        cases this
    · refine ⟨fun hw => ?_, fun hc => .inr (add_has h1 h4 h5 (.inr hc))⟩
      rcases hw with hw | hw
      · exact .inl hw
      · exact .inr (add_has h1 h4 h5 (.inl hw))
theorem alone_P {e : TEnt} {m : Msg} {core : Int} (h : nextE e m = 0) (hk : m.kind = 3) : nextW e m = decide (e.o = m.src) ∧ (nextT e m).o ≠ m.src ∧ shHas (nextT e m).s core = shHas e.s core := by
  obtain ⟨hok, _⟩ := nextE_ok h
  obtain ⟨h1, h2, h3, h4, h5⟩ := okT_facts hok
  have eT : nextT e m = putT e m := by unfold nextT; rw [if_pos h, if_neg (by omega), if_neg (by omega)]
  rw [eT]
  unfold putT
  refine ⟨by simp [nextW, h, hk], ?_, ?_⟩
  · split
    · dsimp only; omega
    · assumption
  · split <;> rfl
end Go.Sx
