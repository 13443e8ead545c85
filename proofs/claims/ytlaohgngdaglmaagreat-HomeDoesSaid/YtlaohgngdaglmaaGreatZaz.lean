/- HomAw: several of my texts as one. My own work. -/
import Derived.Test.YtlaohgngdaglmaaGreatZay
/- The laws of homes: awake. My own work. -/
namespace Go.Sx
open Go Go.Proofs
set_option linter.unusedVariables false
set_option linter.unusedSectionVars false
set_option linter.unusedSimpArgs false
abbrev c16 : Cfg := ⟨2, 2, 1, 1, 2, 4, 0, 1, 2, 1, 1, 1, 1⟩
abbrev m16a : Msg := ⟨1, 3, 1, 1, 0, 0, 0, .zero⟩
abbrev m16b : Msg := ⟨1, 2, 1, 0, 0, 0, 0, .zero⟩
abbrev m16d : Msg := ⟨11, 3, 0, 1, 0, 0, 0, .zero⟩
abbrev m16e : Msg := ⟨11, 3, 1, 1, 0, 0, 0, .zero⟩
abbrev m16p : Msg := ⟨3, 3, 1, 1, 0, 0, 0, ⟨8, 9, 0, 0, 0, 0, 0, 0⟩⟩
abbrev m16x : Msg := ⟨7, 3, 1, 1, 0, 0, 2, .zero⟩
abbrev m16y : Msg := ⟨10, 3, 1, 1, 0, 0, 0, .zero⟩
abbrev e16 (o : Int) : TEnt := ⟨o, ⟨2, 0, [], false⟩⟩
abbrev s16 (o : Int) (ms : List Int) (q : List QE) : HomS := ⟨[(1, e16 (-1)), (3, e16 o)], ms, q, 0⟩
abbrev z16 : List Int := [0, 0, 0, 0, 0, 0, 0, 0]
theorem aw0 : hmNew c16 1 = s16 (-1) z16 [] := rfl
theorem aw1 : hmAccE c16 1 (s16 (-1) z16 []) m16a = 0 ∧ hmAccS c16 1 (s16 (-1) z16 []) m16a = s16 (-1) z16 [⟨m16a, false, []⟩] := ⟨by decide, rfl⟩
abbrev w16 : List Int := [0, 0, 0, 0, 0, 0, 8, 9]
abbrev s16a := s16 (-1) z16 []
abbrev s16b := s16 (-1) z16 [⟨m16a, false, []⟩]
abbrev s16c := s16 1 z16 [⟨m16a, true, [m16x]⟩]
abbrev s16d := s16 1 z16 [⟨m16a, true, []⟩]
abbrev s16e := s16 1 z16 []
abbrev s16f := s16 1 z16 [⟨m16p, false, []⟩]
abbrev s16g := s16 (-1) w16 [⟨m16p, true, [m16y]⟩]
theorem aw2 : hmAccE c16 1 s16b m16b = 1 ∧ hmAccS c16 1 s16b m16b = s16b := ⟨by decide, rfl⟩
theorem aw3 : hmWorkM s16b 0 (0, 0, 0) = .zero ∧ hmWorkB s16b 0 (0, 0, 0) = false ∧ hmDid s16b 0 (0, 0, 0) = true ∧ hmWorkS c16 s16b 0 (0, 0, 0) = s16c := ⟨by decide, by decide, by decide, rfl⟩
theorem aw4 : hmWorkM s16c 0 (1, 1, 0) = .zero ∧ hmWorkB s16c 0 (1, 1, 0) = false ∧ hmDid s16c 0 (1, 1, 0) = false ∧ hmWorkS c16 s16c 0 (1, 1, 0) = s16c := ⟨by decide, by decide, by decide, rfl⟩
theorem aw5 : hmWorkM s16c 0 (0, 0, 1) = m16x ∧ hmWorkB s16c 0 (0, 0, 1) = true ∧ hmDid s16c 0 (0, 0, 1) = true ∧ hmWorkS c16 s16c 0 (0, 0, 1) = s16d := ⟨by decide, by decide, by decide, rfl⟩
theorem aw6 : hmDoneE c16 1 s16d m16d = 7 ∧ hmDoneS c16 1 s16d m16d = s16d := ⟨by decide, rfl⟩
theorem aw7 : hmDoneE c16 1 s16d m16e = 0 ∧ hmDoneS c16 1 s16d m16e = s16e := ⟨by decide, rfl⟩
theorem aw8 : hmAccE c16 1 s16e m16p = 0 ∧ hmAccS c16 1 s16e m16p = s16f := ⟨by decide, rfl⟩
theorem aw9 : hmWorkM s16f 0 (0, 0, 0) = .zero ∧ hmWorkB s16f 0 (0, 0, 0) = false ∧ hmDid s16f 0 (0, 0, 0) = true ∧ hmWorkS c16 s16f 0 (0, 0, 0) = s16g := ⟨by decide, by decide, by decide, rfl⟩
theorem awl : hmLine c16 s16g 3 = ⟨8, 9, 0, 0, 0, 0, 0, 0⟩ ∧ hmOwn s16g 3 = true ∧ hmEnt s16e 3 = e16 1 ∧ hmOwn s16e 3 = true ∧ hmEnt s16e 2 = .no ∧ hmOwn s16e 2 = false := ⟨by decide, by decide, by decide, by decide, by decide, by decide⟩
theorem awIa : HmI c16 1 s16a := by rw [show s16a = hmNew c16 1 from rfl]; exact hmI_new (by decide)
theorem awIb : HmI c16 1 s16b := by rw [show s16b = hmAccS c16 1 s16a m16a from rfl]; exact hmI_acc awIa _
theorem awIc : HmI c16 1 s16c := by rw [← aw3.2.2.2]; exact hmI_work awIb _ _
theorem awId : HmI c16 1 s16d := by rw [← aw5.2.2.2]; exact hmI_work awIc _ _
theorem awIe : HmI c16 1 s16e := by rw [← aw7.2]; exact hmI_done awId _
theorem awIf : HmI c16 1 s16f := by rw [← aw8.2]; exact hmI_acc awIe _
set_option maxRecDepth 100000
set_option maxHeartbeats 4000000
attribute [local irreducible] Go.Exit.then Go.Exit.inBlock Go.Code.wp WC WO WE WQ V LoopQ FnQ Sat Star band bor IntKind.wrap WR Code.rounds WT KO
theorem law16_awake {F : List HP} : FnF Tryz.prog 27 [] [] F (fun r L' => r = .bool true ∧ L' = []) := by
  have hw : c16.wf := cfg_wf' (by decide)
  have hN := fun F => hm_New (F := F) (c := c16) (num := 1) hw (by decide)
  rw [show hmNew c16 1 = s16a from rfl] at hN
  have hN2 := fun F => hm_New_no (F := F) (c := c16) (num := 2) hw (by decide)
  have hA1 := fun F b => hm_Accept (F := F) (b := b) (num := 1) (s := s16a) (m := m16a) hw
  simp only [aw1] at hA1
  have hA2 := fun F b => hm_Accept (F := F) (b := b) (num := 1) (s := s16b) (m := m16b) hw
  simp only [aw2] at hA2
  have hW3 := fun F b => hm_Work (F := F) (b := b) (n := 0) (l := (0, 0, 0)) awIb (by decide)
  simp only [aw3] at hW3
  have hW4 := fun F b => hm_Work (F := F) (b := b) (n := 0) (l := (1, 1, 0)) awIc (by decide)
  simp only [aw4] at hW4
  have hW5 := fun F b => hm_Work (F := F) (b := b) (n := 0) (l := (0, 0, 1)) awIc (by decide)
  simp only [aw5] at hW5
  have hD6 := fun F b => hm_Done (F := F) (b := b) (num := 1) (s := s16d) (m := m16d) hw
  simp only [aw6] at hD6
  have hD7 := fun F b => hm_Done (F := F) (b := b) (num := 1) (s := s16d) (m := m16e) hw
  simp only [aw7] at hD7
  have hE3 := fun F b => hm_Entry (F := F) (b := b) (c := c16) (num := 1) (s := s16e) (line := 3) (fun e he => (awIe.may _ e he).1)
  have hE2 := fun F b => hm_Entry (F := F) (b := b) (c := c16) (num := 1) (s := s16e) (line := 2) (fun e he => (awIe.may _ e he).1)
  simp only [awl] at hE3 hE2
  have hA8 := fun F b => hm_Accept (F := F) (b := b) (num := 1) (s := s16e) (m := m16p) hw
  simp only [aw8] at hA8
  have hW9 := fun F b => hm_Work (F := F) (b := b) (n := 0) (l := (0, 0, 0)) awIf (by decide)
  simp only [aw9] at hW9
  have hL := fun F b => hm_Line (F := F) (b := b) (c := c16) (num := 1) (s := s16g) (line := 3) hw (by unfold I64; omega)
  simp only [awl] at hL
  have hQ := fun F b => hm_Queue (F := F) (b := b) (c := c16) (num := 1) (s := s16g)
  have hO := fun F b => hm_Odd (F := F) (b := b) (c := c16) (num := 1) (s := s16g)
  refine FnF.mk' Tryz.func27 rfl rfl Tryz.ntmps27 rfl ?_
  repeat (first | rintro _ _ ⟨rfl, rfl⟩ | refine exq fun _ => ?_ | intro _ | refine go ?_ | refine drq ?_ | refine cal @hN ?_ | refine cal @hN2 ?_ | refine cal @hA1 ?_ | refine cal @hA2 ?_ | refine cal @hW3 ?_ | refine cal @hW4 ?_ | refine cal @hW5 ?_ | refine cal @hD6 ?_ | refine cal @hD7 ?_ | refine cal @hE3 ?_ | refine cal @hE2 ?_ | refine cal @hA8 ?_ | refine cal @hW9 ?_ | refine cal @hL ?_ | refine cal @hQ ?_ | refine cal @hO ?_)
  exact fin0
end Go.Sx
