/- MsgRc: several of my texts as one. My own work. -/
import Derived.Test.YtlaohgngdaglmaaGreatZam
/- The document's May. My own work. -/
namespace Go.Sx
open Go Go.Proofs
set_option linter.unusedVariables false
set_option linter.unusedSectionVars false
set_option linter.unusedSimpArgs false
set_option maxRecDepth 100000
set_option maxHeartbeats 4000000
attribute [local irreducible] Go.Exit.then Go.Exit.inBlock Go.Code.wp WC WO WE WQ V LoopQ FnQ Sat Star band bor IntKind.wrap WR Code.rounds WT KO
theorem ref05_May_c {F : List HP} {c : Cfg} {m : Msg} (hc : c.wf) (he : checkB c = true) (hl : 0 ≤ m.line ∧ m.line < c.lines) (hcase : m.kind = 7) : FnF Tryz.prog 101 [c.val, mv m] [] F (fun r L' => r = .bool (decide (MayP c m)) ∧ L' = []) := by
  have hC := fun F => ref01_Check (F := F) hc
  have hH := fun F => ref05_Home (F := F) (k := m.kind)
  have hS := fun F => ref05_core (F := F) (c := c) (n := m.src)
  have hD := fun F => ref05_core (F := F) (c := c) (n := m.dst)
  have hW := fun F => ref05_core (F := F) (c := c) (n := m.who)
  simp only [InP] at hS hD hW
  refine FnF.mk' Tryz.func101 rfl rfl Tryz.ntmps101 rfl ?_
  simp only [checkE, he, if_true] at hC
  obtain ⟨b1, b2, b3, b4⟩ := cfg_bnd' he
  have h0 : c.homes ≠ 0 := by omega
  have hk : 1 ≤ m.kind ∧ m.kind ≤ 11 := by omega
  repeat (first | rintro _ _ ⟨rfl, rfl⟩ | refine exq fun _ => ?_ | intro _ | refine go ?_ | refine drq ?_ | refine cal @hC ?_)
  rename_i bs bm
  apply WC_join (P := Tryz.prog) (fun _ : Unit => [(6, .int .i64 0), (2, .pointer (some ⟨bs, 0, none⟩)), (3, .pointer (some ⟨bm, 0, none⟩))]) (fun _ => Cells bm 38 (mc m) :: Cells bs 24 c.cells :: F)
    (fun _ => MayP c m ↔ ∀ i, i < 8 → Ok2 c m.kind m.words i)
  · intro join
    have h := hcase
    have hmay0 : MayP c m ↔ (DataP c m ∧ ValsP c m.words) := by simp [MayP, FormP, WordsP, HomeP, Wordy, he, h, hl]
    rw [ok2_wordy (c := c) (k := m.kind) (by omega)] at hmay0
    have hh : decide (HomeP m.kind) = false := by rw [h]; rfl
    simp only [hh] at hH
    by_cases hx : DataP c m
    · have hj : MayP c m ↔ ∀ i, i < 8 → Ok2 c m.kind m.words i := by rw [hmay0]; exact ⟨fun h => h.2, fun h => ⟨hx, h⟩⟩
      simp only [UpP, ForwardP, DownP, AcrossP, DataP, PlainP, homeN, Bool.false_eq_true, if_false, if_true, true_and] at hx
      repeat' (first | rintro _ _ ⟨rfl, rfl⟩ | refine exq fun _ => ?_ | intro _ | refine go ?_ | refine drq ?_ | refine cal @hH ?_ | refine cal @hS ?_ | refine cal @hD ?_ | refine cal @hW ?_ | refine spl ?_ ?_ | fail)
      all_goals first | (exfalso; omega) | exact join () _ _ hj (by (repeat (first | exact Sub.nil | (refine Sub.cons (by first | rfl | (simp only [Nat.zero_add]; rfl)) ?_)))) (by exact entu0)
    · have hno : ¬ MayP c m := fun h => hx (hmay0.1 h).1
      simp only [UpP, ForwardP, DownP, AcrossP, DataP, PlainP, homeN, Bool.false_eq_true, if_false, if_true, true_and] at hx
      repeat' (first | rintro _ _ ⟨rfl, rfl⟩ | refine exq fun _ => ?_ | intro _ | refine go ?_ | refine drq ?_ | refine cal @hH ?_ | refine cal @hS ?_ | refine cal @hD ?_ | refine cal @hW ?_ | refine spl ?_ ?_ | fail)
      all_goals first | (exfalso; omega) | (apply WE_ret rfl rfl (by (repeat (first | exact ResOk.nil | (apply ResOk.tmp; rfl) | (apply resOk_cell; rfl; exact inferInstance; rfl; rfl)))); (first | exact ⟨rfl, rfl⟩ | exact ⟨congrArg Value.bool (by decide), rfl⟩ | exact ⟨_, rfl, rfl⟩ | exact ⟨_, _, rfl, rfl⟩ | exact ⟨by first | (simp [hno]; done) | (simp [hno] <;> omega), rfl⟩); (repeat (first | exact Ent.refl | exact Ent.nil | apply Ent.pick | apply Ent.drop)))
  · intro _ hmay
    apply WC_loopE (E0 := [(2, _), (3, _)]) (fun E0 (i : Nat) => (6, .int .i64 i) :: E0) (fun _ => Cells bm 38 (mc m) :: Cells bs 24 c.cells :: F) (fun i => i ≤ 8 ∧ ∀ j, j < i → Ok2 c m.kind m.words j) (fun i => 8 - i) 0
    · (repeat (first | exact Sub.nil | (refine Sub.cons (by first | rfl | (simp only [Nat.zero_add]; rfl)) ?_)))
    · exact ⟨by omega, fun j hj => by omega⟩
    · exact entu0
    · rintro i ⟨hi, hok⟩
      by_cases hlt : i < 8
      · have hg := words_cell m i hlt
        have hn : ¬ Ok2 c m.kind m.words i → ¬ MayP c m := fun h hv => h (hmay.1 hv i hlt)
        by_cases ho : Ok2 c m.kind m.words i
        · have hos := ho
          unfold Ok2 at ho
          repeat' (first | rintro _ _ ⟨rfl, rfl⟩ | refine exq fun _ => ?_ | intro _ | refine go ?_ | refine drq ?_ | refine spl ?_ ?_ | fail)
          all_goals first
          | (exfalso; omega)
          | (refine WE_loop (i + 1) (by omega) ⟨by omega, fun j hj => ?_⟩ ?_ ?_
             · by_cases hjl : j = i
               · subst hjl; exact hos
               · exact hok j (by omega)
             · (repeat (first | exact Sub.nil | (refine Sub.cons (by first | rfl | (simp only [Nat.zero_add]; rfl)) ?_)))
             · exact entu0)
        · have hno := hn ho
          unfold Ok2 at ho
          repeat' (first | rintro _ _ ⟨rfl, rfl⟩ | refine exq fun _ => ?_ | intro _ | refine go ?_ | refine drq ?_ | refine spl ?_ ?_ | fail)
          all_goals first | (exfalso; omega) | (apply WE_ret rfl rfl (by (repeat (first | exact ResOk.nil | (apply ResOk.tmp; rfl) | (apply resOk_cell; rfl; exact inferInstance; rfl; rfl)))); (first | exact ⟨rfl, rfl⟩ | exact ⟨congrArg Value.bool (by decide), rfl⟩ | exact ⟨_, rfl, rfl⟩ | exact ⟨_, _, rfl, rfl⟩ | exact ⟨by first | (simp [hno]; done) | (simp [hno] <;> omega), rfl⟩); (repeat (first | exact Ent.refl | exact Ent.nil | apply Ent.pick | apply Ent.drop)))
      · have hi8 : i = 8 := by omega
        subst hi8
        have hyes := hmay.2 hok
        repeat (first | rintro _ _ ⟨rfl, rfl⟩ | refine exq fun _ => ?_ | intro _ | refine go ?_ | refine drq ?_)
        (apply WE_ret rfl rfl (by (repeat (first | exact ResOk.nil | (apply ResOk.tmp; rfl) | (apply resOk_cell; rfl; exact inferInstance; rfl; rfl)))); (first | exact ⟨rfl, rfl⟩ | exact ⟨congrArg Value.bool (by decide), rfl⟩ | exact ⟨_, rfl, rfl⟩ | exact ⟨_, _, rfl, rfl⟩ | exact ⟨by first | (simp [hyes]; done) | (simp [hyes] <;> omega), rfl⟩); (repeat (first | exact Ent.refl | exact Ent.nil | apply Ent.pick | apply Ent.drop)))
end Go.Sx
