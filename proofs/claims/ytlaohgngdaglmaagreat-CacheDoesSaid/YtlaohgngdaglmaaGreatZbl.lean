/- CaR7, CaOwn: several of my texts as one. My own work. -/
import Derived.Test.YtlaohgngdaglmaaGreatZbi
import Derived.Test.YtlaohgngdaglmaaGreatZbj
import Derived.Test.YtlaohgngdaglmaaGreatZbk
import Derived.Test.YtlaohgngdaglmaaGreatZbg
import Derived.Test.YtlaohgngdaglmaaGreatZal
/- The document's caches: a message is taken: acks, and all. My own work. -/
namespace Go.Sx
open Go Go.Proofs
set_option linter.unusedVariables false
set_option linter.unusedSectionVars false
set_option linter.unusedSimpArgs false
set_option maxRecDepth 100000
set_option maxHeartbeats 4000000
attribute [local irreducible] Go.Exit.then Go.Exit.inBlock Go.Code.wp WC WO WE WQ V LoopQ FnQ Sat Star band bor IntKind.wrap WR Code.rounds WT KO
theorem dr_CaR7_56 {Q P : Prop} (k : Q) (h : Hid Q → P := by
  intro k
  first
  | (refine is_draw ?_; apply WC_mix (id := 11) .true _ (pl := .p 0 <| .p 1 <| .p 2 <| .p 4 <| .p 6 <| .r 3 <| .r 5 <| .e true [(7, .done)]); exact mixed; kernel_rfl; kernel_rfl; exact Ent.refl; exact k.out)
  | (refine is_draw ?_; apply WC_mix (id := 12) .true _ (pl := .p 0 <| .p 2 <| .p 3 <| .p 4 <| .p 6 <| .r 1 <| .r 5 <| .r 7 <| .p 8 <| .e true [(9, .p 10 <| .p 11 <| .done)]); exact mixed; kernel_rfl; kernel_rfl; exact Ent.refl; exact k.out)
  | (refine is_draw ?_; apply WC_mix (id := 16) .true _ (pl := .p 0 <| .p 1 <| .p 2 <| .p 4 <| .p 6 <| .p 8 <| .p 10 <| .r 3 <| .r 5 <| .r 7 <| .r 9 <| .r 11 <| .e true [(12, .p 13 <| .done)]); exact mixed; kernel_rfl; kernel_rfl; exact Ent.refl; exact k.out)
  | (refine is_draw ?_; apply WC_mix (id := 19) .true _ (pl := .p 0 <| .p 1 <| .p 2 <| .p 4 <| .p 6 <| .r 3 <| .r 5 <| .r 7 <| .e true [(8, .p 9 <| .done)]); exact mixed; kernel_rfl; kernel_rfl; exact Ent.refl; exact k.out)
  | (refine is_draw ?_; apply WC_mix (id := 21) .true _ (pl := .p 0 <| .p 1 <| .p 2 <| .p 4 <| .r 3 <| .r 5 <| .e true [(6, .p 7 <| .done)]); exact mixed; kernel_rfl; kernel_rfl; exact Ent.refl; exact k.out)
  | (refine is_draw ?_; apply WC_mix (id := 23) .true _ (pl := .p 0 <| .p 1 <| .p 2 <| .p 4 <| .r 3 <| .r 5 <| .e true [(6, .p 7 <| .done)]); exact mixed; kernel_rfl; kernel_rfl; exact Ent.refl; exact k.out)
  | (refine is_draw ?_; apply WC_mix (id := 28) .true _ (pl := .p 0 <| .p 1 <| .p 2 <| .p 4 <| .r 3 <| .r 5 <| .e true [(6, .p 7 <| .p 8 <| .p 9 <| .e false [(10, .e false [(11, .p 12 <| .done)])]), (10, .e true [(6, .p 7 <| .p 8 <| .p 9 <| .e false [(11, .p 12 <| .done)])])]); exact mixed; kernel_rfl; kernel_rfl; exact Ent.refl; exact k.out)
  | (refine is_draw ?_; apply WC_mix (id := 30) .true _ (pl := .p 0 <| .p 1 <| .p 2 <| .p 4 <| .r 3 <| .r 5 <| .e true [(6, .p 7 <| .p 8 <| .p 9 <| .p 10 <| .e false [(11, .e false [(12, .p 13 <| .p 14 <| .done)])]), (11, .e true [(6, .p 7 <| .p 8 <| .p 9 <| .p 10 <| .e false [(12, .p 13 <| .p 14 <| .done)])])]); exact mixed; kernel_rfl; kernel_rfl; exact Ent.refl; exact k.out)
  | (refine is_draw ?_; apply WC_mix (id := 34) .true _ (pl := .p 0 <| .p 1 <| .p 2 <| .p 4 <| .p 6 <| .r 3 <| .r 5 <| .r 7 <| .r 8 <| .e true [(9, .done)]); exact mixed; kernel_rfl; kernel_rfl; exact Ent.refl; exact k.out)) : P := h ⟨k⟩
theorem ref14_Take9 {F : List HP} {b a f e : Nat} {c : Cfg} {core : Int} {m : Msg} {k : CaS} (hc : checkB c = true) (hg : ∀ m ∈ k.mis, MisOk m ∧ m.got ≤ 9223372036854775806) (h : caTakeOk c core m = true) (g : m.kind = 9) :
    FnF Tryz.prog 56 [.pointer (some ⟨b, 0, none⟩), mv m] (CaRO b a f e c core k) F
      (fun r L' => r = .tuple [mv (caTakeM c core k m), .bool (caTakeB c core k m), .int .i64 (caTakeE c core k m)].toArray ∧ L' = CaRO b a f e c core (caTakeK c core k m)) := by
  have hMay := fun F => ref05_May (F := F) (m := m) (cfg_wf hc)
  have hHome := fun F => ref05_Home (F := F) (k := m.kind)
  have h' := h
  simp only [caTakeOk, Bool.and_eq_true, decide_eq_true_eq, Bool.not_eq_true', decide_eq_false_iff_not] at h'
  obtain ⟨⟨h1, h2⟩, h3⟩ := h'
  simp only [decide_eq_true h1] at hMay
  simp only [decide_eq_false h2] at hHome
  have hSt := fun F => ref14_StateO (F := F) (b := b) (a := a) (f := f) (e := e) (c := c) (core := core) (k := k) (line := m.line)
  have hFi := fun F => ref09_Find (F := F) (b := a) (c := c) (l := k.ways) (line := m.line)
  unfold caTakeM caTakeB caTakeE caTakeK
  simp only [h, g, if_true, Int.reduceEq, if_false, or_true, or_false, Int.reduceLE, and_true, and_false, decide_false, true_or, false_or]
  have hD := fun F => ref10_Ack (F := F) (b := f) (room := c.mshrs) (l := k.mis) (line := m.line) hg
  have hOwe := fun F => ref10_Owe (F := F) (b := f) (room := c.mshrs) (l := ackL k.mis m.line) (line := m.line) (ack_got (fun x hx => (hg x hx).1.2.2.1))
  by_cases h4 : ackE k.mis m.line = 0
  · have e1 : err7 (ackE k.mis m.line) = 0 := if_pos h4
    have e3 : caAckK c k m = caFill c ⟨k.ways, ackL k.mis m.line, k.buf⟩ m.line := if_pos h4
    rw [e1, e3]
    simp only [h4] at hD
    cases h5 : oweB (ackL k.mis m.line) m.line with
    | false =>
      have e2 : caFill c ⟨k.ways, ackL k.mis m.line, k.buf⟩ m.line = ⟨k.ways, oweL (ackL k.mis m.line) m.line, k.buf⟩ := by unfold caFill oweL; rw [h5]; rfl
      rw [e2]
      simp only [h5] at hOwe
      refine FnF.mk' Tryz.func56 rfl rfl Tryz.ntmps56 rfl ?_
      repeat' (first | rintro _ _ ⟨rfl, rfl⟩ | refine exq fun _ => ?_ | intro _ | refine go ?_ | refine dr_CaR7_56 ?_ | refine drq ?_ | refine cal @hMay ?_ | refine cal @hHome ?_ | refine cal @hSt ?_ | refine cal @hD ?_ | refine cal @hOwe ?_ | refine spl ?_ ?_ | fail)
      all_goals exact fin0
    | true =>
      simp only [h5] at hOwe
      cases h6 : (oweM (ackL k.mis m.line) m.line).granted with
      | false =>
        have e2 : caFill c ⟨k.ways, ackL k.mis m.line, k.buf⟩ m.line = ⟨setL c k.ways m.line (oweM (ackL k.mis m.line) m.line).own (oweM (ackL k.mis m.line) m.line).words, oweL (ackL k.mis m.line) m.line, k.buf⟩ := by unfold caFill; rw [h5, if_pos rfl, h6]; rfl
        rw [e2]
        have hSet := fun F => ref09_Set (F := F) (b := a) (c := c) (l := k.ways) (line := m.line) (st := (oweM (ackL k.mis m.line) m.line).own) (w := (oweM (ackL k.mis m.line) m.line).words)
        refine FnF.mk' Tryz.func56 rfl rfl Tryz.ntmps56 rfl ?_
        repeat' (first | rintro _ _ ⟨rfl, rfl⟩ | refine exq fun _ => ?_ | intro _ | refine go ?_ | refine dr_CaR7_56 ?_ | refine drq ?_ | refine cal @hMay ?_ | refine cal @hHome ?_ | refine cal @hSt ?_ | refine cal @hD ?_ | refine cal @hOwe ?_ | refine cal @hFi ?_ | refine cal @hSet ?_ | refine spl ?_ ?_ | fail)
        all_goals exact fin0
      | true =>
        have e2 : caFill c ⟨k.ways, ackL k.mis m.line, k.buf⟩ m.line = ⟨setL c k.ways m.line (oweM (ackL k.mis m.line) m.line).own (findW c k.ways m.line).words, oweL (ackL k.mis m.line) m.line, k.buf⟩ := by unfold caFill; rw [h5, if_pos rfl, h6]; rfl
        rw [e2]
        have hSet := fun F => ref09_Set (F := F) (b := a) (c := c) (l := k.ways) (line := m.line) (st := (oweM (ackL k.mis m.line) m.line).own) (w := (findW c k.ways m.line).words)
        refine FnF.mk' Tryz.func56 rfl rfl Tryz.ntmps56 rfl ?_
        repeat' (first | rintro _ _ ⟨rfl, rfl⟩ | refine exq fun _ => ?_ | intro _ | refine go ?_ | refine dr_CaR7_56 ?_ | refine drq ?_ | refine cal @hMay ?_ | refine cal @hHome ?_ | refine cal @hSt ?_ | refine cal @hD ?_ | refine cal @hOwe ?_ | refine cal @hFi ?_ | refine cal @hSet ?_ | refine spl ?_ ?_ | fail)
        all_goals exact fin0
  · have e1 : err7 (ackE k.mis m.line) = 7 := if_neg h4
    have e3 : caAckK c k m = k := if_neg h4
    have e4 : ackL k.mis m.line = k.mis := if_neg h4
    rw [e1, e3]
    rw [e4] at hD
    refine FnF.mk' Tryz.func56 rfl rfl Tryz.ntmps56 rfl ?_
    repeat' (first | rintro _ _ ⟨rfl, rfl⟩ | refine exq fun _ => ?_ | intro _ | refine go ?_ | refine dr_CaR7_56 ?_ | refine drq ?_ | refine cal @hMay ?_ | refine cal @hHome ?_ | refine cal @hSt ?_ | refine cal @hD ?_ | refine spl ?_ ?_ | fail)
    all_goals exact fin0
theorem ref14_TakeO {F : List HP} {b a f e : Nat} {c : Cfg} {core : Int} {m : Msg} {k : CaS} (hc : checkB c = true) (hg : ∀ m ∈ k.mis, MisOk m ∧ m.got ≤ 9223372036854775806) :
    FnF Tryz.prog 56 [.pointer (some ⟨b, 0, none⟩), mv m] (CaRO b a f e c core k) F
      (fun r L' => r = .tuple [mv (caTakeM c core k m), .bool (caTakeB c core k m), .int .i64 (caTakeE c core k m)].toArray ∧ L' = CaRO b a f e c core (caTakeK c core k m)) := by
  by_cases h : caTakeOk c core m = true
  · have h' := h
    simp only [caTakeOk, Bool.and_eq_true, decide_eq_true_eq, Bool.not_eq_true', decide_eq_false_iff_not] at h'
    obtain ⟨⟨h1, h2⟩, h3⟩ := h'
    have hk := h1.2.1
    have hkk : m.kind = 4 ∨ m.kind = 5 ∨ m.kind = 6 ∨ m.kind = 7 ∨ m.kind = 8 ∨ m.kind = 9 ∨ m.kind = 10 := by
      unfold HomeP at h2; omega
    rcases hkk with g | g | g | g | g | g | g
    · exact ref14_Take4 hc hg h g
    · exact ref14_Take5 hc hg h g
    · exact ref14_Take6 hc hg h g
    · exact ref14_Take7 hc hg h g
    · exact ref14_Take8 hc hg h g
    · exact ref14_Take9 hc hg h g
    · exact ref14_Take10 hc hg h g
  · exact ref14_Take_no hc hg h
theorem ref14_Take {F : List HP} {b : Nat} {c : Cfg} {core : Int} {m : Msg} {k : CaS} (hg : ∀ m ∈ k.mis, MisOk m ∧ m.got ≤ 9223372036854775806) :
    FnF Tryz.prog 56 [.pointer (some ⟨b, 0, none⟩), mv m] [CaR b c core k] F
      (fun r L' => r = .tuple [mv (caTakeM c core k m), .bool (caTakeB c core k m), .int .i64 (caTakeE c core k m)].toArray ∧ L' = [CaR b c core (caTakeK c core k m)]) :=
  ca_close (fun a f e hf => ref14_TakeO hf.1 hg) (enters_of Tryz.func56 rfl rfl)
theorem ref14_Ask {F : List HP} {b : Nat} {c : Cfg} {core line kind : Int} {k : CaS} (hI : ArrInv c k.ways) :
    FnF Tryz.prog 54 [.pointer (some ⟨b, 0, none⟩), .int .i64 line, .int .i64 kind] [CaR b c core k] F (fun r L' => r = .tuple [mv (caAskM c core k line kind), .int .i64 (caAskE c k line kind)].toArray ∧ L' = [CaR b c core (caAskK c k line kind)]) :=
  ca_close (fun a f e hf => ref14_AskO hf.1 hI) (enters_of Tryz.func54 rfl rfl)
theorem ref14_Evict {F : List HP} {b : Nat} {c : Cfg} {core s w : Int} {k : CaS} (hI : ArrInv c k.ways) (hst : ∀ x ∈ k.ways, 0 ≤ x.st) :
    FnF Tryz.prog 55 [.pointer (some ⟨b, 0, none⟩), .int .i64 s, .int .i64 w] [CaR b c core k] F
      (fun r L' => r = .tuple [mv (caEvM c core k s w), .bool (caEvB c k s w), .int .i64 (caEvE c k s w)].toArray ∧ L' = [CaR b c core (caEvK c k s w)]) :=
  ca_close (fun a f e hf => ref14_EvictO hf.1 hI hst) (enters_of Tryz.func55 rfl rfl)
theorem ref14_Finish {F : List HP} {b : Nat} {c : Cfg} {core : Int} {k : CaS} (hm : ∀ m ∈ k.mis, okLine c m.line = true) :
    FnF Tryz.prog 57 [.pointer (some ⟨b, 0, none⟩)] [CaR b c core k] F (fun r L' => r = .tuple [mv (caFinM c core k), .bool (caFinB k)].toArray ∧ L' = [CaR b c core (caFinK c k)]) :=
  ca_close (fun a f e hf => ref14_FinishO hf.1 hm) (enters_of Tryz.func57 rfl rfl)
theorem ref14_Do {F : List HP} {b : Nat} {c : Cfg} {core : Int} {x : Op3} {k : CaS} (hx : x.wf) :
    FnF Tryz.prog 58 [.pointer (some ⟨b, 0, none⟩), ov x] [CaR b c core k] F (fun r L' => r = .tuple [.int .i64 (caDoV c k x), .int .i64 (caDoE c k x)].toArray ∧ L' = [CaR b c core (caDoK c k x)]) :=
  ca_close (fun a f e hf => ref14_DoO hf.1 hx) (enters_of Tryz.func58 rfl rfl)
end Go.Sx

/- The law of caches: a step of the document's. My own work. -/
namespace Go.Sx
open Go Go.Proofs
set_option linter.unusedVariables false
set_option linter.unusedSectionVars false
set_option linter.unusedSimpArgs false
theorem wsl_eq {g n : Nat} : wsl g (0 * 11) n n = .slice (some ⟨g, 0, none⟩) n n := by unfold wsl; rfl
theorem rd_arrS {g T : Nat} {l : List Way} (L : List HP) : RdL (Cells g T (flat wyc l) :: L) 11 (.slice (some ⟨g, 0, none⟩) l.length l.length) l.length (flat wyc l) := by
  have := rd_arr (g := g) (T := T) (l := l) L
  rwa [wsl_eq] at this
/-- A cache of the document's, laid open. -/
abbrev CaRX (b a f e g : Nat) (p2 : Option Addr) (c2 : Nat) (p3 : Option Addr) (c3 : Nat) (c : Cfg) (core : Int) (k : CaS) : List HP :=
  [Cells b 60 (c.cells ++ [.int .i64 core, .pointer (some ⟨a, 0, none⟩), .pointer (some ⟨f, 0, none⟩), .pointer (some ⟨e, 0, none⟩)]), Cells a 55 (c.cells ++ [.slice (some ⟨g, 0, none⟩) k.ways.length k.ways.length]), Cells g 69 (flat wyc k.ways),
   Cells f 62 [.int .i64 c.mshrs, .slice p2 k.mis.length c2], Own 75 15 (.slice p2 k.mis.length c2) k.mis.length (flat msc' k.mis), Cells e 64 [.int .i64 c.writebacks, .slice p3 k.buf.length c3], Own 77 10 (.slice p3 k.buf.length c3) k.buf.length (flat bc k.buf)]
theorem ca_openX {b : Nat} {c : Cfg} {core : Int} {k : CaS} {L : List HP} {w : World} (h : Sat (CaR b c core k :: L) w) : ∃ a f e g p2 c2 p3 c3, Sat (app (CaRX b a f e g p2 c2 p3 c3 c core k) L) w := by
  obtain ⟨a, f, e, hf, hx⟩ := ca_sat h
  have h1 : Sat (ArrRP a c k.ways :: Cells b 60 (c.cells ++ [.int .i64 core, .pointer (some ⟨a, 0, none⟩), .pointer (some ⟨f, 0, none⟩), .pointer (some ⟨e, 0, none⟩)]) :: MshR f c.mshrs k.mis :: RWb e c.writebacks k.buf :: L) w := (by exact entu0 : Ent _ _).sat hx
  obtain ⟨g, _, h2⟩ := arrr_sat h1
  rw [wsl_eq] at h2
  have h3 : Sat (MshR f c.mshrs k.mis :: Cells a 55 (c.cells ++ [.slice (some ⟨g, 0, none⟩) k.ways.length k.ways.length]) :: Cells g 69 (flat wyc k.ways) :: Cells b 60 (c.cells ++ [.int .i64 core, .pointer (some ⟨a, 0, none⟩), .pointer (some ⟨f, 0, none⟩), .pointer (some ⟨e, 0, none⟩)]) :: RWb e c.writebacks k.buf :: L) w := (by exact entu0 : Ent _ _).sat h2
  obtain ⟨⟨p2, c2⟩, h4⟩ := star_ex h3
  simp only [app] at h4
  have h5 := (Ent.cons (Ent.cons (Ent.drop Ent.refl))) _ h4
  have h6 : Sat (RWb e c.writebacks k.buf :: Cells f 62 [.int .i64 c.mshrs, .slice p2 k.mis.length c2] :: Own 75 15 (.slice p2 k.mis.length c2) k.mis.length (flat msc' k.mis) :: Cells a 55 (c.cells ++ [.slice (some ⟨g, 0, none⟩) k.ways.length k.ways.length]) :: Cells g 69 (flat wyc k.ways) :: Cells b 60 (c.cells ++ [.int .i64 core, .pointer (some ⟨a, 0, none⟩), .pointer (some ⟨f, 0, none⟩), .pointer (some ⟨e, 0, none⟩)]) :: L) w := (by exact entu0 : Ent _ _).sat h5
  obtain ⟨⟨p3, c3⟩, h7⟩ := star_ex h6
  simp only [app] at h7
  have h8 := (Ent.cons (Ent.cons (Ent.drop Ent.refl))) _ h7
  exact ⟨a, f, e, g, p2, c2, p3, c3, (by exact entu0 : Ent _ _).sat h8⟩
/-- A contract whose cache is handed back laid open. -/
theorem FnF.openX {f : FuncId} {vs : List Value} {pre F : List HP} {u : Value} {b : Nat} {c : Cfg} {core : Int} {k : CaS} (h : FnF Tryz.prog f vs pre F (fun r L' => r = u ∧ L' = [CaR b c core k])) :
    FnF Tryz.prog f vs pre F (fun r L' => ∃ a f e g p2 c2 p3 c3, r = u ∧ L' = CaRX b a f e g p2 c2 p3 c3 c core k) := by
  refine ⟨h.enters, fun w hw => (h.runs w hw).mono ?_⟩
  rintro x w' ⟨v, L', he, ⟨hv, hL⟩, hs⟩
  subst hL
  obtain ⟨a, f, e, g, p2, c2, p3, c3, hx⟩ := ca_openX hs
  exact ⟨v, _, he, ⟨a, f, e, g, p2, c2, p3, c3, hv, rfl⟩, hx⟩
set_option maxRecDepth 100000
set_option maxHeartbeats 4000000
attribute [local irreducible] Go.Exit.then Go.Exit.inBlock Go.Code.wp WC WO WE WQ V LoopQ FnQ Sat Star band bor IntKind.wrap WR Code.rounds WT KO
theorem law14_own {F : List HP} {b n : Nat} {c : Cfg} {core : Int} {k : CaS} {s : CStep} (hI : CaInv c n k) (hn : n ≤ 1000000) (hs : s.wf) :
    FnF Tryz.prog 14 [.pointer (some ⟨b, 0, none⟩), csv s] [CaR b c core k] F (fun r L' => r = rpv (stM c core k s) (stB c core k s) (stN c k s) (stE c core k s) ∧ L' = [CaR b c core (stK c core k s)]) := by
  obtain ⟨p1, p2, p3, p4⟩ := ca_pre hI hn
  obtain ⟨s1, s2, s3, s4, s5⟩ := hs
  unfold stM stB stN stE stK
  by_cases g0 : s.d = 0
  · have hA := fun F => ref14_Ask (F := F) (b := b) (c := c) (core := core) (k := k) (line := s.a) (kind := s.b) hI.1
    simp only [g0, if_true, true_or]
    refine FnF.mk' Tryz.func14 rfl rfl Tryz.ntmps14 rfl ?_
    repeat (first | rintro _ _ ⟨rfl, rfl⟩ | refine exq fun _ => ?_ | intro _ | refine go ?_ | refine drq ?_ | refine cal @hA ?_)
    exact fin0
  · by_cases g1 : s.d = 1
    · have hA := fun F => ref14_Evict (F := F) (b := b) (c := c) (core := core) (k := k) (s := s.a) (w := s.b) hI.1 p4
      simp only [g1, Int.reduceEq, if_true, if_false, true_or, or_true]
      refine FnF.mk' Tryz.func14 rfl rfl Tryz.ntmps14 rfl ?_
      repeat (first | rintro _ _ ⟨rfl, rfl⟩ | refine exq fun _ => ?_ | intro _ | refine go ?_ | refine drq ?_ | refine cal @hA ?_)
      exact fin0
    · by_cases g2 : s.d = 2
      · have hA := fun F => ref14_Take (F := F) (b := b) (c := c) (core := core) (k := k) (m := s.m) p2
        simp only [g2, Int.reduceEq, if_true, if_false, true_or, or_true]
        refine FnF.mk' Tryz.func14 rfl rfl Tryz.ntmps14 rfl ?_
        repeat (first | rintro _ _ ⟨rfl, rfl⟩ | refine exq fun _ => ?_ | intro _ | refine go ?_ | refine drq ?_ | refine cal @hA ?_)
        exact fin0
      · by_cases g3 : s.d = 3
        · have hA := fun F => ref14_Finish (F := F) (b := b) (c := c) (core := core) (k := k) p3
          simp only [g3, Int.reduceEq, if_true, if_false, true_or, or_true]
          refine FnF.mk' Tryz.func14 rfl rfl Tryz.ntmps14 rfl ?_
          repeat (first | rintro _ _ ⟨rfl, rfl⟩ | refine exq fun _ => ?_ | intro _ | refine go ?_ | refine drq ?_ | refine cal @hA ?_)
          exact fin0
        · have hA := fun F => ref14_Do (F := F) (b := b) (c := c) (core := core) (k := k) (x := s.x) s5
          simp only [g0, g1, g2, g3, if_false, or_false]
          refine FnF.mk' Tryz.func14 rfl rfl Tryz.ntmps14 rfl ?_
          repeat (first | rintro _ _ ⟨rfl, rfl⟩ | refine exq fun _ => ?_ | intro _ | refine go ?_ | refine drq ?_ | refine cal @hA ?_)
          exact fin0
end Go.Sx
