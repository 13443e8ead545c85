/- MshR5, MshR6, MshR7, MshR8, MshR9: several of my texts as one. My own work. -/
import Derived.Test.YtlaohgngdaglmaaGreatZCacheLocksag
import Derived.Test.YtlaohgngdaglmaaGreatZCacheLocksac
/- The document's files of misses, fifth part. My own work. -/
namespace Go.Sx
open Go Go.Proofs
set_option linter.unusedVariables false
set_option linter.unusedSectionVars false
set_option linter.unusedSimpArgs false
/-- What holds of each miss. -/
def MisOk (m : Miss) : Prop := (m.kind = 1 ∨ m.kind = 2) ∧ -1 ≤ m.needs ∧ 0 ≤ m.got ∧ (0 ≤ m.needs → m.got ≤ m.needs)
set_option maxRecDepth 100000
set_option maxHeartbeats 4000000
attribute [local irreducible] Go.Exit.then Go.Exit.inBlock Go.Code.wp WC WO WE WQ V LoopQ FnQ Sat Star band bor IntKind.wrap WR Code.rounds WT KO
theorem dr_MshR5_136 {Q P : Prop} (k : Q) (h : Hid Q → P := by
  intro k
  first
  | (refine is_draw ?_; apply WC_mix (id := 7) .true _ (pl := .p 0 <| .p 1 <| .p 2 <| .p 4 <| .p 5 <| .r 3 <| .r 6 <| .p 7 <| .p 8 <| .p 9 <| .e true [(10, .done)]); exact mixed; kernel_rfl; kernel_rfl; exact Ent.refl; exact k.out)) : P := h ⟨k⟩
theorem ref10_Ack {F : List HP} {b : Nat} {room : Int} {l : List Miss} {line : Int} (hg : ∀ m ∈ l, MisOk m ∧ m.got ≤ 9223372036854775806) :
    FnF Tryz.prog 136 [.pointer (some ⟨b, 0, none⟩), .int .i64 line] [MshR b room l] F (fun r L' => r = .int .i64 (ackE l line) ∧ L' = [MshR b room (ackL l line)]) := by
  refine FnF.mk' Tryz.func136 rfl rfl Tryz.ntmps136 rfl ?_
  refine RL_open fun p c hl => ?_
  have hP := fun F => ref10_placeO (F := F) (b := b) (room := room) (l := l) (line := line) (p := p) (c := c) (by omega)
  cases h : misIn l line with
  | false =>
    have e1 : ackE l line = 5 := by unfold ackE; rw [h]; rfl
    have e2 : ackL l line = l := by unfold ackL; rw [e1]; rfl
    rw [e1, e2]
    rw [misIn_f h] at hP
    repeat' (first | rintro _ _ ⟨rfl, rfl⟩ | refine exq fun _ => ?_ | intro _ | refine go ?_ | refine dr_MshR5_136 ?_ | refine drq ?_ | refine cal @hP ?_ | refine spl ?_ ?_ | fail)
    all_goals (apply WE_ret rfl rfl (by (repeat (first | exact ResOk.nil | (apply ResOk.tmp; rfl) | (apply resOk_cell; rfl; exact inferInstance; rfl; rfl)))))
    all_goals first | exact ⟨rfl, rfl⟩ | (apply RL_in; (focus (exact entu0)); all_goals (first | rfl | (with_reducible assumption) | (simp; done) | (simp; omega) | omega | (constructor <;> (simp) <;> omega)))
  | true =>
    obtain ⟨i, hi, e0, ea, _⟩ := misIn_t h
    rw [e0] at hP
    obtain ⟨⟨hk, hn1, hg0, hgn⟩, hgx⟩ := hg _ (List.getElem_mem hi)
    (first | (refine WO_some (Value.slice p l.length c) inferInstance (by omega) ?_; intro _) | (refine WC_some (Value.slice p l.length c) inferInstance (by omega) ?_; intro _))
    by_cases h1 : l[i].kind = 1
    · have e1 : ackE l line = 7 := by unfold ackE; rw [if_pos h, ea, if_pos (.inl h1)]
      have e2 : ackL l line = l := by unfold ackL; rw [e1]; rfl
      rw [e1, e2]
      repeat' (first | rintro _ _ ⟨rfl, rfl⟩ | refine exq fun _ => ?_ | intro _ | refine go ?_ | refine dr_MshR5_136 ?_ | refine drq ?_ | refine cal @hP ?_ | refine spl ?_ ?_ | fail)
      all_goals (apply WE_ret rfl rfl (by (repeat (first | exact ResOk.nil | (apply ResOk.tmp; rfl) | (apply resOk_cell; rfl; exact inferInstance; rfl; rfl)))))
      all_goals first | exact ⟨rfl, rfl⟩ | (apply RL_in; (focus (exact entu0)); all_goals (first | rfl | (with_reducible assumption) | (simp; done) | (simp; omega) | omega | (constructor <;> (simp) <;> omega)))
    · by_cases h2 : l[i].needs = l[i].got
      · have e1 : ackE l line = 7 := by unfold ackE; rw [if_pos h, ea, if_pos (.inr h2)]
        have e2 : ackL l line = l := by unfold ackL; rw [e1]; rfl
        rw [e1, e2]
        repeat' (first | rintro _ _ ⟨rfl, rfl⟩ | refine exq fun _ => ?_ | intro _ | refine go ?_ | refine dr_MshR5_136 ?_ | refine drq ?_ | refine cal @hP ?_ | refine spl ?_ ?_ | fail)
        all_goals (apply WE_ret rfl rfl (by (repeat (first | exact ResOk.nil | (apply ResOk.tmp; rfl) | (apply resOk_cell; rfl; exact inferInstance; rfl; rfl)))))
        all_goals first | exact ⟨rfl, rfl⟩ | (apply RL_in; (focus (exact entu0)); all_goals (first | rfl | (with_reducible assumption) | (simp; done) | (simp; omega) | omega | (constructor <;> (simp) <;> omega)))
      · have e1 : ackE l line = 0 := by unfold ackE; rw [if_pos h, ea, if_neg (by omega)]
        have e2 : ackL l line = l.set i { l[i] with got := l[i].got + 1 } := by unfold ackL; rw [if_pos e1, e0, Int.toNat_natCast, ea]
        rw [e1, e2]
        by_cases h3 : 0 ≤ l[i].needs
        · repeat' (first | rintro _ _ ⟨rfl, rfl⟩ | refine exq fun _ => ?_ | intro _ | refine go ?_ | refine dr_MshR5_136 ?_ | refine drq ?_ | refine cal @hP ?_ | refine spl ?_ ?_ | fail)
          all_goals rw [mis_g hi]
          all_goals (apply WE_ret rfl rfl (by (repeat (first | exact ResOk.nil | (apply ResOk.tmp; rfl) | (apply resOk_cell; rfl; exact inferInstance; rfl; rfl)))))
          all_goals first | exact ⟨rfl, rfl⟩ | (rw [show l.length = (l.set i { l[i] with got := l[i].got + 1 }).length by simp]; (apply RL_in; (focus (exact entu0)); all_goals (first | rfl | (with_reducible assumption) | (simp; done) | (simp; omega) | omega | (constructor <;> (simp) <;> omega))))
        · repeat' (first | rintro _ _ ⟨rfl, rfl⟩ | refine exq fun _ => ?_ | intro _ | refine go ?_ | refine dr_MshR5_136 ?_ | refine drq ?_ | refine cal @hP ?_ | refine spl ?_ ?_ | fail)
          all_goals rw [mis_g hi]
          all_goals (apply WE_ret rfl rfl (by (repeat (first | exact ResOk.nil | (apply ResOk.tmp; rfl) | (apply resOk_cell; rfl; exact inferInstance; rfl; rfl)))))
          all_goals first | exact ⟨rfl, rfl⟩ | (rw [show l.length = (l.set i { l[i] with got := l[i].got + 1 }).length by simp]; (apply RL_in; (focus (exact entu0)); all_goals (first | rfl | (with_reducible assumption) | (simp; done) | (simp; omega) | omega | (constructor <;> (simp) <;> omega))))
end Go.Sx

/- The document's files of misses, sixth part. My own work. -/
namespace Go.Sx
open Go Go.Proofs
set_option linter.unusedVariables false
set_option linter.unusedSectionVars false
set_option linter.unusedSimpArgs false
theorem mis_all {l : List Miss} {i : Nat} (hi : i < l.length) (x : Miss) : splice (flat msc' l) (i * 15) (msc' x) = flat msc' (l.set i x) :=
  splice_flatJ0 (enc := msc') (n := 15) (fun _ => rfl) l i hi (cs := msc' x) (x := x) (by simp) rfl
/-- As the document tells it. -/
theorem fits_iff {m : Miss} {acks own : Int} (h : MisOk m) : fitsM m acks own = true ↔ ¬ (0 ≤ m.needs ∨ acks < 0 ∨ acks < m.got ∨ own ≠ 4 ∧ 0 < acks) ∧ ¬ (m.kind = 2 ∧ own ≠ 4 ∨ m.kind = 1 ∧ own ≠ 1 ∧ own ≠ 2) := by
  obtain ⟨hk, hn, hg, _⟩ := h
  unfold fitsM
  rw [Bool.and_eq_true, decide_eq_true_eq]
  by_cases h2 : m.kind = 2
  · rw [if_pos h2, decide_eq_true_eq]
    constructor
    · rintro ⟨⟨a, b⟩, c⟩
      exact ⟨by omega, by omega⟩
    · rintro ⟨a, b⟩
      exact ⟨⟨by omega, by omega⟩, by omega⟩
  · rw [if_neg h2, decide_eq_true_eq]
    constructor
    · rintro ⟨⟨a, b⟩, c, d⟩
      exact ⟨by omega, by omega⟩
    · rintro ⟨a, b⟩
      exact ⟨⟨by omega, by omega⟩, by omega, by omega⟩
end Go.Sx

/- The document's files of misses, seventh part. My own work. -/
namespace Go.Sx
open Go Go.Proofs
set_option linter.unusedVariables false
set_option linter.unusedSectionVars false
set_option linter.unusedSimpArgs false
set_option maxRecDepth 100000
set_option maxHeartbeats 4000000
attribute [local irreducible] Go.Exit.then Go.Exit.inBlock Go.Code.wp WC WO WE WQ V LoopQ FnQ Sat Star band bor IntKind.wrap WR Code.rounds WT KO
theorem dr_MshR7_134 {Q P : Prop} (k : Q) (h : Hid Q → P := by
  intro k
  first
  | (refine is_draw ?_; apply WC_mix (id := 12) .true _ (pl := .p 0 <| .p 1 <| .p 2 <| .p 4 <| .r 3 <| .r 5 <| .p 6 <| .e true [(7, .done)]); exact mixed; kernel_rfl; kernel_rfl; exact Ent.refl; exact k.out)) : P := h ⟨k⟩
theorem ref10_Data {F : List HP} {b : Nat} {room : Int} {l : List Miss} {line acks own : Int} {w : Words} (hg : ∀ m ∈ l, MisOk m) :
    FnF Tryz.prog 134 [.pointer (some ⟨b, 0, none⟩), .int .i64 line, .int .i64 acks, .int .i64 own, wv w] [MshR b room l] F (fun r L' => r = .int .i64 (dataE l line acks own) ∧ L' = [MshR b room (dataL l line acks own w)]) := by
  refine FnF.mk' Tryz.func134 rfl rfl Tryz.ntmps134 rfl ?_
  refine RL_open fun p c hl => ?_
  have hP := fun F => ref10_placeO (F := F) (b := b) (room := room) (l := l) (line := line) (p := p) (c := c) (by omega)
  cases h : misIn l line with
  | false =>
    have e1 : dataE l line acks own = 5 := by unfold dataE; rw [h]; rfl
    have e2 : dataL l line acks own w = l := by unfold dataL; rw [e1]; rfl
    rw [e1, e2]
    rw [misIn_f h] at hP
    repeat' (first | rintro _ _ ⟨rfl, rfl⟩ | refine exq fun _ => ?_ | intro _ | refine go ?_ | refine dr_MshR7_134 ?_ | refine drq ?_ | refine cal @hP ?_ | refine spl ?_ ?_ | fail)
    all_goals (apply WE_ret rfl rfl (by (repeat (first | exact ResOk.nil | (apply ResOk.tmp; rfl) | (apply resOk_cell; rfl; exact inferInstance; rfl; rfl)))))
    all_goals first | exact ⟨rfl, rfl⟩ | (apply RL_in; (focus (exact entu0)); all_goals (first | rfl | (with_reducible assumption) | (simp; done) | (simp; omega) | omega | (constructor <;> (simp) <;> omega)))
  | true =>
    obtain ⟨i, hi, e0, ea, _⟩ := misIn_t h
    rw [e0] at hP
    have hok := hg _ (List.getElem_mem hi)
    have hff := fits_iff (acks := acks) (own := own) hok
    obtain ⟨hk, hn1, hg0, hgn⟩ := hok
    (first | (refine WO_some (Value.slice p l.length c) inferInstance (by omega) ?_; intro _) | (refine WC_some (Value.slice p l.length c) inferInstance (by omega) ?_; intro _))
    cases hf : fitsM l[i] acks own with
    | false =>
      rw [hf] at hff
      have hno : (0 ≤ l[i].needs ∨ acks < 0 ∨ acks < l[i].got ∨ own ≠ 4 ∧ 0 < acks) ∨ (l[i].kind = 2 ∧ own ≠ 4 ∨ l[i].kind = 1 ∧ own ≠ 1 ∧ own ≠ 2) := by
        apply Classical.byContradiction
        intro hc
        have := hff.2 ⟨fun h => hc (.inl h), fun h => hc (.inr h)⟩
        cases this
      clear hff
      have e1 : dataE l line acks own = 7 := by unfold dataE; rw [if_pos h, ea, hf]; rfl
      have e2 : dataL l line acks own w = l := by unfold dataL; rw [e1]; rfl
      rw [e1, e2]
      repeat' (first | rintro _ _ ⟨rfl, rfl⟩ | refine exq fun _ => ?_ | intro _ | refine go ?_ | refine dr_MshR7_134 ?_ | refine drq ?_ | refine cal @hP ?_ | refine spl ?_ ?_ | fail)
      all_goals first | (exfalso; omega) | skip
      all_goals (apply WE_ret rfl rfl (by (repeat (first | exact ResOk.nil | (apply ResOk.tmp; rfl) | (apply resOk_cell; rfl; exact inferInstance; rfl; rfl)))))
      all_goals first | exact ⟨rfl, rfl⟩ | (apply RL_in; (focus (exact entu0)); all_goals (first | rfl | (with_reducible assumption) | (simp; done) | (simp; omega) | omega | (constructor <;> (simp) <;> omega)))
    | true =>
      obtain ⟨hn1', hn2'⟩ := hff.1 hf
      have e1 : dataE l line acks own = 0 := by unfold dataE; rw [if_pos h, ea, hf]; rfl
      have e2 : dataL l line acks own w = l.set i { l[i] with needs := acks, own := own, words := w } := by unfold dataL; rw [if_pos e1, e0, Int.toNat_natCast, ea]
      rw [e1, e2]
      have hall := mis_all hi { l[i] with needs := acks, own := own, words := w }
      repeat' (first | rintro _ _ ⟨rfl, rfl⟩ | refine exq fun _ => ?_ | intro _ | refine go ?_ | refine dr_MshR7_134 ?_ | refine drq ?_ | refine cal @hP ?_ | refine spl ?_ ?_ | fail)
      all_goals first | (exfalso; omega) | skip
      all_goals first | rw [hall] | skip
      all_goals (apply WE_ret rfl rfl (by (repeat (first | exact ResOk.nil | (apply ResOk.tmp; rfl) | (apply resOk_cell; rfl; exact inferInstance; rfl; rfl)))))
      all_goals first | exact ⟨rfl, rfl⟩ | (rw [show l.length = (l.set i { l[i] with needs := acks, own := own, words := w }).length by simp]; (apply RL_in; (focus (exact entu0)); all_goals (first | rfl | (with_reducible assumption) | (simp; done) | (simp; omega) | omega | (constructor <;> (simp) <;> omega))))
end Go.Sx

/- The document's files of misses, eighth part. My own work. -/
namespace Go.Sx
open Go Go.Proofs
set_option linter.unusedVariables false
set_option linter.unusedSectionVars false
set_option linter.unusedSimpArgs false
set_option maxRecDepth 100000
set_option maxHeartbeats 4000000
attribute [local irreducible] Go.Exit.then Go.Exit.inBlock Go.Code.wp WC WO WE WQ V LoopQ FnQ Sat Star band bor IntKind.wrap WR Code.rounds WT KO
theorem dr_MshR8_135 {Q P : Prop} (k : Q) (h : Hid Q → P := by
  intro k
  first
  | (refine is_draw ?_; apply WC_mix (id := 4) .false _ (pl := .p 0 <| .p 1 <| .p 2 <| .p 4 <| .p 5 <| .r 3 <| .e true [(6, .p 7 <| .p 8 <| .e true [(9, .done)])]); exact mixed; kernel_rfl; kernel_rfl; exact Ent.refl; exact k.out)) : P := h ⟨k⟩
theorem ref10_Grant {F : List HP} {b : Nat} {room : Int} {l : List Miss} {line acks : Int} (hg : ∀ m ∈ l, MisOk m) :
    FnF Tryz.prog 135 [.pointer (some ⟨b, 0, none⟩), .int .i64 line, .int .i64 acks] [MshR b room l] F (fun r L' => r = .int .i64 (dataE l line acks 4) ∧ L' = [MshR b room (grantL l line acks)]) := by
  have hD := fun F => ref10_Data (F := F) (b := b) (room := room) (l := l) (line := line) (acks := acks) (own := 4) (w := .zero) hg
  refine FnF.mk' Tryz.func135 rfl rfl Tryz.ntmps135 rfl ?_
  by_cases h : dataE l line acks 4 = 0
  · have hin : misIn l line = true := by
      cases e : misIn l line with
      | true => rfl
      | false => unfold dataE at h; rw [e] at h; cases h
    obtain ⟨i, hi, e0, ea, el⟩ := misIn_t hin
    have e1 : dataL l line acks 4 .zero = l.set i { l[i] with needs := acks, own := 4, words := .zero } := by unfold dataL; rw [if_pos h, e0, Int.toNat_natCast, ea]
    have e2 : grantL l line acks = l.set i { l[i] with needs := acks, own := 4, words := .zero, granted := true } := by unfold grantL; rw [if_pos h, e0, Int.toNat_natCast, ea]
    have e3 : misP (l.set i { l[i] with needs := acks, own := 4, words := .zero }) line = i := by
      have h9 := indexBy_same (q := fun m : Miss => decide (m.line = line)) (l := l) (i := i) (x := { l[i] with needs := acks, own := 4, words := .zero }) hi rfl
      exact h9.trans e0
    rw [h, e1] at hD
    rw [h, e2]
    have hi2 : i < (l.set i { l[i] with needs := acks, own := 4, words := .zero }).length := by rw [List.length_set]; exact hi
    repeat (first | rintro _ _ ⟨rfl, rfl⟩ | refine exq fun _ => ?_ | intro _ | refine go ?_ | refine cal @hD ?_)
    (first | refine WO_front (MshR b room (l.set i { l[i] with needs := acks, own := 4, words := .zero })) ?_ | refine WC_front (MshR b room (l.set i { l[i] with needs := acks, own := 4, words := .zero })) ?_ | refine WE_front (MshR b room (l.set i { l[i] with needs := acks, own := 4, words := .zero })) ?_)
    first | refine RL_openO fun p c hl => ?_ | refine RL_open fun p c hl => ?_
    have hP := fun F => ref10_placeO (F := F) (b := b) (room := room) (l := l.set i { l[i] with needs := acks, own := 4, words := .zero }) (line := line) (p := p) (c := c) (by omega)
    rw [e3] at hP
    (first | (refine WO_some (Value.slice p (l.set i { l[i] with needs := acks, own := 4, words := .zero }).length c) inferInstance (by omega) ?_; intro _) | (refine WC_some (Value.slice p (l.set i { l[i] with needs := acks, own := 4, words := .zero }).length c) inferInstance (by omega) ?_; intro _))
    repeat' (first | rintro _ _ ⟨rfl, rfl⟩ | refine exq fun _ => ?_ | intro _ | refine go ?_ | refine dr_MshR8_135 ?_ | refine drq ?_ | refine cal @hP ?_ | refine spl ?_ ?_ | fail)
    all_goals rw [mis_gr hi2]
    all_goals simp only [List.set_set, List.getElem_set_self]
    all_goals (apply WE_ret rfl rfl (by (repeat (first | exact ResOk.nil | (apply ResOk.tmp; rfl) | (apply resOk_cell; rfl; exact inferInstance; rfl; rfl)))))
    all_goals first | exact ⟨rfl, rfl⟩ | (rw [show (l.set i { l[i] with needs := acks, own := 4, words := .zero }).length = (l.set i { l[i] with needs := acks, own := 4, words := .zero, granted := true }).length by simp] at hl ⊢; (apply RL_in; (focus (exact entu0)); all_goals (first | rfl | (with_reducible assumption) | (simp; done) | (simp; omega) | omega | (constructor <;> (simp) <;> omega))))
  · have e2 : grantL l line acks = l := if_neg h
    have e1 : dataL l line acks 4 .zero = l := if_neg h
    rw [e1] at hD
    rw [e2]
    repeat (first | rintro _ _ ⟨rfl, rfl⟩ | refine exq fun _ => ?_ | intro _ | refine go ?_ | refine dr_MshR8_135 ?_ | refine drq ?_ | refine cal @hD ?_)
    exact fin0
end Go.Sx

/- The document's files of misses, ninth part. My own work. -/
namespace Go.Sx
open Go Go.Proofs
set_option linter.unusedVariables false
set_option linter.unusedSectionVars false
set_option linter.unusedSimpArgs false
set_option maxRecDepth 100000
set_option maxHeartbeats 4000000
attribute [local irreducible] Go.Exit.then Go.Exit.inBlock Go.Code.wp WC WO WE WQ V LoopQ FnQ Sat Star band bor IntKind.wrap WR Code.rounds WT KO
theorem ref10_Close {F : List HP} {b : Nat} {room : Int} {l : List Miss} {line : Int} :
    FnF Tryz.prog 140 [.pointer (some ⟨b, 0, none⟩), .int .i64 line] [MshR b room l] F (fun r L' => r = .int .i64 (closeE l line) ∧ L' = [MshR b room (closeL l line)]) := by
  refine FnF.mk' Tryz.func140 rfl rfl Tryz.ntmps140 rfl ?_
  refine RL_open fun p c hl => ?_
  have hP := fun F => ref10_placeO (F := F) (b := b) (room := room) (l := l) (line := line) (p := p) (c := c) (by omega)
  cases h : misIn l line with
  | false =>
    have e1 : closeE l line = 5 := by unfold closeE; rw [h]; rfl
    have e2 : closeL l line = l := by unfold closeL; rw [e1]; rfl
    rw [e1, e2]
    rw [misIn_f h] at hP
    repeat' (first | rintro _ _ ⟨rfl, rfl⟩ | refine exq fun _ => ?_ | intro _ | refine go ?_ | refine drq ?_ | refine cal @hP ?_ | refine spl ?_ ?_ | fail)
    all_goals (apply WE_ret rfl rfl (by (repeat (first | exact ResOk.nil | (apply ResOk.tmp; rfl) | (apply resOk_cell; rfl; exact inferInstance; rfl; rfl)))))
    all_goals first | exact ⟨rfl, rfl⟩ | (apply RL_in; (focus (exact entu0)); all_goals (first | rfl | (with_reducible assumption) | (simp; done) | (simp; omega) | omega | (constructor <;> (simp) <;> omega)))
  | true =>
    obtain ⟨n, hn, e0, ea, _⟩ := misIn_t h
    rw [e0] at hP
    cases ho : l[n].owes with
    | false =>
      have e1 : closeE l line = 7 := by unfold closeE; rw [if_pos h, ea, ho]; rfl
      have e2 : closeL l line = l := by unfold closeL; rw [e1]; rfl
      rw [e1, e2]
      repeat' (first | rintro _ _ ⟨rfl, rfl⟩ | refine exq fun _ => ?_ | intro _ | refine go ?_ | refine drq ?_ | refine cal @hP ?_ | refine spl ?_ ?_ | fail)
      all_goals (apply WE_ret rfl rfl (by (repeat (first | exact ResOk.nil | (apply ResOk.tmp; rfl) | (apply resOk_cell; rfl; exact inferInstance; rfl; rfl)))))
      all_goals first | exact ⟨rfl, rfl⟩ | (apply RL_in; (focus (exact entu0)); all_goals (first | rfl | (with_reducible assumption) | (simp; done) | (simp; omega) | omega | (constructor <;> (simp) <;> omega)))
    | true =>
      have e1 : closeE l line = 0 := by unfold closeE; rw [if_pos h, ea, ho]; rfl
      have e2 : closeL l line = l.eraseIdx n := by unfold closeL; rw [if_pos e1, e0, Int.toNat_natCast]
      rw [e1, e2]
      repeat (first | rintro _ _ ⟨rfl, rfl⟩ | refine exq fun _ => ?_ | intro _ | refine go ?_ | refine drq ?_ | refine cal @hP ?_)
      rename_i b0
      apply WC_loopE (E0 := [(0, _), (5, _)]) (fun E0 (q : Nat × Option Addr × Nat) => (7, .int .i64 q.1) :: (6, .slice q.2.1 ((l.take q.1).eraseIdx n).length q.2.2) :: E0)
        (fun q => Own 75 15 (.slice q.2.1 ((l.take q.1).eraseIdx n).length q.2.2) ((l.take q.1).eraseIdx n).length (flat msc' ((l.take q.1).eraseIdx n)) :: Cells b 62 [.int .i64 room, .slice p l.length c] :: Own 75 15 (.slice p l.length c) l.length (flat msc' l) :: F) (fun q => q.1 ≤ l.length) (fun q => l.length - q.1) (0, some ⟨b0, 0, none⟩, 0)
      · (repeat (first | exact Sub.nil | (refine Sub.cons (by first | rfl | (simp only [Nat.zero_add]; rfl)) ?_)))
      · exact Nat.zero_le _
      · dsimp only; simp only [List.take_zero, List.eraseIdx_nil, List.length_nil, flat_nil]; exact entu0
      · rintro ⟨i, p', c'⟩ hi
        dsimp only at hi ⊢
        have hlen := erase_len (l.take i) n
        rw [List.length_take] at hlen
        by_cases hlt : i < l.length
        · by_cases he : i = n
          · repeat (first | rintro _ _ ⟨rfl, rfl⟩ | refine exq fun _ => ?_ | intro _ | refine go ?_ | refine drq ?_)
            refine WE_loop (i + 1, p', c') (by dsimp only; omega) (by dsimp only; omega) ?_ ?_
            · dsimp only; rw [take_erase l n i hlt, if_pos he]; (repeat (first | exact Sub.nil | (refine Sub.cons (by first | rfl | (simp only [Nat.zero_add]; rfl)) ?_)))
            · dsimp only; rw [take_erase l n i hlt, if_pos he]; exact Ent.refl
          · repeat (first | rintro _ _ ⟨rfl, rfl⟩ | refine exq fun _ => ?_ | intro _ | refine go ?_ | refine drq ?_)
            rename_i p2 c2
            refine WE_loop (i + 1, p2, c2) (by dsimp only; omega) (by dsimp only; omega) ?_ ?_
            · dsimp only; rw [take_erase l n i hlt, if_neg he]
              rw [List.length_append, List.length_singleton]
              (repeat (first | exact Sub.nil | (refine Sub.cons (by first | rfl | (simp only [Nat.zero_add]; rfl)) ?_)))
            · dsimp only; rw [take_erase l n i hlt, if_neg he]
              rw [List.length_append, List.length_singleton, flat_append, flat_one]
              exact entu0
        · repeat (first | rintro _ _ ⟨rfl, rfl⟩ | refine exq fun _ => ?_ | intro _ | refine go ?_ | refine drq ?_)
          have hil : i = l.length := by omega
          subst hil
          rw [List.take_length]
          (apply WE_ret rfl rfl (by (repeat (first | exact ResOk.nil | (apply ResOk.tmp; rfl) | (apply resOk_cell; rfl; exact inferInstance; rfl; rfl)))))
          · exact ⟨rfl, rfl⟩
          · have hlen := erase_len l n
            ((repeat (first | (with_reducible exact Ent.refl) | exact Ent.nil | (apply ent_pickE; (focus ((repeat (first | (with_reducible exact pk_here) | (apply pk_there))); done))) | (apply RL_in) | apply Ent.drop)); all_goals (first | rfl | (with_reducible assumption) | (simp; done) | (simp; omega) | omega | (constructor <;> (simp) <;> omega)))
end Go.Sx
