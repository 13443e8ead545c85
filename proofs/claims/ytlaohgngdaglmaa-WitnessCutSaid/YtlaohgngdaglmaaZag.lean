/- Msg, Ref3: several of my texts as one. My own work. -/
import Derived.Test.YtlaohgngdaglmaaZad
import Derived.Test.YtlaohgngdaglmaaZac
/- Messages: what the functions of package message do, and the document's. My own work. -/
namespace Go.Sx
open Go Go.Proofs
set_option linter.unusedVariables false
set_option linter.unusedSectionVars false
set_option linter.unusedSimpArgs false

/-! ## What a message must be like -/
def netK (k : Int) : Int := if 1 ≤ k ∧ k ≤ 3 then 0 else if 4 ≤ k ∧ k ≤ 6 then 1 else if 7 ≤ k ∧ k ≤ 11 then 2 else -1
def HomeP (k : Int) : Prop := (1 ≤ k ∧ k ≤ 3) ∨ k = 11
instance (k : Int) : Decidable (HomeP k) := by unfold HomeP; infer_instance
def homeN (c : Cfg) (m : Msg) : Int := m.line.tmod c.homes
def InP (n k : Int) : Prop := 0 ≤ n ∧ n < k
instance (n k : Int) : Decidable (InP n k) := by unfold InP; infer_instance
def PlainP (c : Cfg) (m : Msg) (a : Bool) : Prop := m.who = 0 ∧ m.own = 0 ∧ 0 ≤ m.acks ∧ m.acks < (if a then c.cores else 1)
instance (c : Cfg) (m : Msg) (a : Bool) : Decidable (PlainP c m a) := by unfold PlainP; infer_instance
def UpP (c : Cfg) (m : Msg) : Prop := (0 ≤ m.src ∧ m.src < c.cores) ∧ m.dst = homeN c m ∧ PlainP c m false
instance (c : Cfg) (m : Msg) : Decidable (UpP c m) := by unfold UpP; infer_instance
def DownP (c : Cfg) (m : Msg) (a : Bool) : Prop := m.src = homeN c m ∧ (0 ≤ m.dst ∧ m.dst < c.cores) ∧ PlainP c m a
instance (c : Cfg) (m : Msg) (a : Bool) : Decidable (DownP c m a) := by unfold DownP; infer_instance
def AcrossP (c : Cfg) (m : Msg) : Prop := (0 ≤ m.src ∧ m.src < c.cores) ∧ (0 ≤ m.dst ∧ m.dst < c.cores) ∧ m.src ≠ m.dst ∧ PlainP c m false
instance (c : Cfg) (m : Msg) : Decidable (AcrossP c m) := by unfold AcrossP; infer_instance
def ForwardP (c : Cfg) (m : Msg) (a : Bool) : Prop := (0 ≤ m.who ∧ m.who < c.cores) ∧ m.who ≠ m.dst ∧ DownP c { m with who := 0 } a
instance (c : Cfg) (m : Msg) (a : Bool) : Decidable (ForwardP c m a) := by unfold ForwardP; infer_instance
def DataP (c : Cfg) (m : Msg) : Prop := (m.own = 1 ∨ m.own = 2 ∨ m.own = 4) ∧ (0 ≤ m.acks ∧ m.acks < c.cores) ∧ (0 ≤ m.dst ∧ m.dst < c.cores) ∧ ((m.who = 0 ∧ m.src = homeN c m) ∨ (m.who = 1 ∧ (0 ≤ m.src ∧ m.src < c.cores) ∧ m.src ≠ m.dst))
instance (c : Cfg) (m : Msg) : Decidable (DataP c m) := by unfold DataP; infer_instance
def Words.at (w : Words) (i : Nat) : Int := w.list.getD i 0
def OkAt (c : Cfg) (w : Words) (i : Nat) : Prop := -2147483648 ≤ w.at i ∧ w.at i ≤ 2147483647 ∧ (c.words ≤ i → w.at i = 0)
instance (c : Cfg) (w : Words) (i : Nat) : Decidable (OkAt c w i) := by unfold OkAt; infer_instance
def ValsP (c : Cfg) (w : Words) : Prop := ∀ i, i < 8 → OkAt c w i
instance (c : Cfg) (w : Words) : Decidable (ValsP c w) := by unfold ValsP; infer_instance
def FormP (c : Cfg) (m : Msg) : Prop :=
  if HomeP m.kind then UpP c m else if m.kind = 4 ∨ m.kind = 6 then ForwardP c m false else if m.kind = 5 then ForwardP c m true else if m.kind = 7 then DataP c m else if m.kind = 8 then DownP c m true else if m.kind = 10 then DownP c m false else AcrossP c m
instance (c : Cfg) (m : Msg) : Decidable (FormP c m) := by unfold FormP; infer_instance
def Wordy (k : Int) : Prop := k = 3 ∨ k = 7
instance (k : Int) : Decidable (Wordy k) := by unfold Wordy; infer_instance
def WordsP (c : Cfg) (m : Msg) : Prop := if Wordy m.kind then ValsP c m.words else m.words = .zero
instance (c : Cfg) (m : Msg) : Decidable (WordsP c m) := by unfold WordsP; infer_instance
def MayP (c : Cfg) (m : Msg) : Prop := checkB c = true ∧ (1 ≤ m.kind ∧ m.kind ≤ 11) ∧ (0 ≤ m.line ∧ m.line < c.lines) ∧ FormP c m ∧ WordsP c m
instance (c : Cfg) (m : Msg) : Decidable (MayP c m) := by unfold MayP; infer_instance

instance : Meth Try.prog 251 (.agg #[]) "mesne/message.fits" 155 (.agg #[]) := ⟨fun w => by kernel_rfl⟩
instance : Meth Try.prog 253 (.agg #[]) "mesne/message.fits" 155 (.agg #[]) := ⟨fun w => by kernel_rfl⟩
instance : Meth Try.prog 253 (.agg #[]) "mesne/message.words" 158 (.agg #[]) := ⟨fun w => by kernel_rfl⟩
instance : Meth Try.prog 256 (.agg #[]) "mesne/message.fits" 162 (.agg #[]) := ⟨fun w => by kernel_rfl⟩
instance : Meth Try.prog 256 (.agg #[]) "mesne/message.words" 163 (.agg #[]) := ⟨fun w => by kernel_rfl⟩
instance : Meth Try.prog 258 (.agg #[]) "mesne/message.fits" 164 (.agg #[]) := ⟨fun w => by kernel_rfl⟩
instance : Meth Try.prog 255 (.agg #[.bool false]) "mesne/message.fits" 160 (.agg #[.bool false]) := ⟨fun w => by kernel_rfl⟩
instance : Meth Try.prog 255 (.agg #[.bool true]) "mesne/message.fits" 160 (.agg #[.bool true]) := ⟨fun w => by kernel_rfl⟩
instance : Meth Try.prog 257 (.agg #[.bool false]) "mesne/message.fits" 161 (.agg #[.bool false]) := ⟨fun w => by kernel_rfl⟩
instance : Meth Try.prog 257 (.agg #[.bool true]) "mesne/message.fits" 161 (.agg #[.bool true]) := ⟨fun w => by kernel_rfl⟩
instance : Has Try.prog 253 242 true := ⟨by kernel_rfl⟩
instance : Has Try.prog 256 242 true := ⟨by kernel_rfl⟩
instance : Has Try.prog 251 242 false := ⟨by kernel_rfl⟩
instance : Has Try.prog 257 242 false := ⟨by kernel_rfl⟩
instance : Has Try.prog 258 242 false := ⟨by kernel_rfl⟩
instance : Has Try.prog 255 242 false := ⟨by kernel_rfl⟩
set_option maxRecDepth 100000
set_option maxHeartbeats 4000000
attribute [local irreducible] Go.Exit.then Go.Exit.inBlock Go.Code.wp WC WO WE WQ V LoopQ FnQ Sat Star band bor IntKind.wrap WR Code.rounds WT KO
theorem msg_Net {F : List HP} {k : Int} : FnF Try.prog 70 [.int .i64 k] [] F (fun r L' => r = .int .i64 (netK k) ∧ L' = []) := by
  refine FnF.mk' Try.func70 rfl rfl Try.ntmps70 rfl ?_
  repeat' (first | rintro _ _ ⟨rfl, rfl⟩ | refine exq fun _ => ?_ | intro _ | refine go ?_ | refine drq ?_ | refine spl ?_ ?_ | fail)
  all_goals ((apply WE_ret rfl rfl (by (repeat (first | exact ResOk.nil | (apply ResOk.tmp; rfl) | (apply resOk_cell; rfl; exact inferInstance; rfl; rfl))))); (refine ⟨congrArg (Value.int .i64) ?_, rfl⟩; unfold netK; repeat (first | rfl | (rw [if_pos (by omega)]) | (rw [if_neg (by omega)]))); exact entu0)
theorem msg_Home {F : List HP} {k : Int} : FnF Try.prog 97 [.int .i64 k] [] F (fun r L' => r = .bool (decide (HomeP k)) ∧ L' = []) := by
  have h : netK k = 0 ↔ (1 ≤ k ∧ k ≤ 3) := by unfold netK; split <;> (try split) <;> (try split) <;> omega
  refine FnF.mk' Try.func97 rfl rfl Try.ntmps97 rfl ?_
  repeat' (first | rintro _ _ ⟨rfl, rfl⟩ | refine exq fun _ => ?_ | intro _ | refine go ?_ | refine drq ?_ | refine cal @msg_Net ?_ | refine spl ?_ ?_ | fail)
  all_goals (apply WE_ret rfl rfl (by (repeat (first | exact ResOk.nil | (apply ResOk.tmp; rfl) | (apply resOk_cell; rfl; exact inferInstance; rfl; rfl)))); (refine ⟨congrArg Value.bool ?_, rfl⟩; (first | (refine decide_eq_decide.2 ?_) | (refine (decide_eq_true ?_).symm) | (refine (decide_eq_false ?_).symm)); (first | omega | (simp only [HomeP, h]; omega))); (repeat (first | exact Ent.refl | exact Ent.nil | apply Ent.pick | apply Ent.drop)))
theorem msg_within {F : List HP} {n k : Int} : FnF Try.prog 116 [.int .i64 n, .int .i64 k] [] F (fun r L' => r = .bool (decide (InP n k)) ∧ L' = []) := by
  refine FnF.mk' Try.func116 rfl rfl Try.ntmps116 rfl ?_
  repeat' (first | rintro _ _ ⟨rfl, rfl⟩ | refine exq fun _ => ?_ | intro _ | refine go ?_ | refine drq ?_ | refine spl ?_ ?_ | fail)
  all_goals (apply WE_ret rfl rfl (by (repeat (first | exact ResOk.nil | (apply ResOk.tmp; rfl) | (apply resOk_cell; rfl; exact inferInstance; rfl; rfl)))); (refine ⟨congrArg Value.bool ?_, rfl⟩; (first | (refine decide_eq_decide.2 ?_) | (refine (decide_eq_true ?_).symm) | (refine (decide_eq_false ?_).symm)); (first | omega | (simp only [InP]; omega))); (repeat (first | exact Ent.refl | exact Ent.nil | apply Ent.pick | apply Ent.drop)))
theorem msg_home {F : List HP} {c : Cfg} {m : Msg} (h : c.homes ≠ 0) : FnF Try.prog 156 [c.val, mv m] [] F (fun r L' => r = .int .i64 (homeN c m) ∧ L' = []) := by
  refine FnF.mk' Try.func156 rfl rfl Try.ntmps156 rfl ?_
  repeat (first | rintro _ _ ⟨rfl, rfl⟩ | refine exq fun _ => ?_ | intro _ | refine go ?_ | refine drq ?_)
  (apply WE_ret rfl rfl (by (repeat (first | exact ResOk.nil | (apply ResOk.tmp; rfl) | (apply resOk_cell; rfl; exact inferInstance; rfl; rfl)))); (first | exact ⟨rfl, rfl⟩ | exact ⟨congrArg Value.bool (by decide), rfl⟩ | exact ⟨_, rfl, rfl⟩ | exact ⟨_, _, rfl, rfl⟩ | exact ⟨by first | (simp [homeN]; done) | (simp [homeN] <;> omega), rfl⟩); (repeat (first | exact Ent.refl | exact Ent.nil | apply Ent.pick | apply Ent.drop)))
theorem msg_plain {F : List HP} {c : Cfg} {m : Msg} {a : Bool} : FnF Try.prog 157 [c.val, mv m, .bool a] [] F (fun r L' => r = .bool (decide (PlainP c m a)) ∧ L' = []) := by
  refine FnF.mk' Try.func157 rfl rfl Try.ntmps157 rfl ?_
  cases a with
  | true =>
    repeat' (first | rintro _ _ ⟨rfl, rfl⟩ | refine exq fun _ => ?_ | intro _ | refine go ?_ | refine drq ?_ | refine cal @msg_within ?_ | refine spl ?_ ?_ | fail)
    all_goals (apply WE_ret rfl rfl (by (repeat (first | exact ResOk.nil | (apply ResOk.tmp; rfl) | (apply resOk_cell; rfl; exact inferInstance; rfl; rfl)))); (refine ⟨congrArg Value.bool ?_, rfl⟩; (first | (refine decide_eq_decide.2 ?_) | (refine (decide_eq_true ?_).symm) | (refine (decide_eq_false ?_).symm)); (first | omega | (simp only [PlainP, InP, if_true]; omega))); (repeat (first | exact Ent.refl | exact Ent.nil | apply Ent.pick | apply Ent.drop)))
  | false =>
    repeat' (first | rintro _ _ ⟨rfl, rfl⟩ | refine exq fun _ => ?_ | intro _ | refine go ?_ | refine drq ?_ | refine cal @msg_within ?_ | refine spl ?_ ?_ | fail)
    all_goals (apply WE_ret rfl rfl (by (repeat (first | exact ResOk.nil | (apply ResOk.tmp; rfl) | (apply resOk_cell; rfl; exact inferInstance; rfl; rfl)))); (refine ⟨congrArg Value.bool ?_, rfl⟩; (first | (refine decide_eq_decide.2 ?_) | (refine (decide_eq_true ?_).symm) | (refine (decide_eq_false ?_).symm)); (first | omega | (simp only [PlainP, InP, Bool.false_eq_true, if_false]; omega))); (repeat (first | exact Ent.refl | exact Ent.nil | apply Ent.pick | apply Ent.drop)))
theorem msg_up {F : List HP} {c : Cfg} {m : Msg} (h : c.homes ≠ 0) : FnF Try.prog 155 [.agg #[], c.val, mv m] [] F (fun r L' => r = .bool (decide (UpP c m)) ∧ L' = []) := by
  have hW := fun F => msg_within (F := F) (n := m.src) (k := c.cores)
  simp only [InP] at hW
  refine FnF.mk' Try.func155 rfl rfl Try.ntmps155 rfl ?_
  repeat' (first | rintro _ _ ⟨rfl, rfl⟩ | refine exq fun _ => ?_ | intro _ | refine go ?_ | refine drq ?_ | refine cal @hW ?_ | refine cal @msg_home ?_ | refine cal @msg_plain ?_ | refine spl ?_ ?_ | fail)
  all_goals (apply WE_ret rfl rfl (by (repeat (first | exact ResOk.nil | (apply ResOk.tmp; rfl) | (apply resOk_cell; rfl; exact inferInstance; rfl; rfl)))); (refine ⟨congrArg Value.bool ?_, rfl⟩; (first | (refine decide_eq_decide.2 ?_) | (refine (decide_eq_true ?_).symm) | (refine (decide_eq_false ?_).symm)); (first | omega | (simp only [UpP, PlainP, Bool.false_eq_true, if_false]; omega))); (repeat (first | exact Ent.refl | exact Ent.nil | apply Ent.pick | apply Ent.drop)))
theorem msg_down {F : List HP} {c : Cfg} {m : Msg} {a : Bool} (h : c.homes ≠ 0) : FnF Try.prog 161 [.agg #[.bool a], c.val, mv m] [] F (fun r L' => r = .bool (decide (DownP c m a)) ∧ L' = []) := by
  have hW := fun F => msg_within (F := F) (n := m.dst) (k := c.cores)
  simp only [InP] at hW
  refine FnF.mk' Try.func161 rfl rfl Try.ntmps161 rfl ?_
  repeat' (first | rintro _ _ ⟨rfl, rfl⟩ | refine exq fun _ => ?_ | intro _ | refine go ?_ | refine drq ?_ | refine cal @hW ?_ | refine cal @msg_home ?_ | refine cal @msg_plain ?_ | refine spl ?_ ?_ | fail)
  all_goals first | (apply WE_ret rfl rfl (by (repeat (first | exact ResOk.nil | (apply ResOk.tmp; rfl) | (apply resOk_cell; rfl; exact inferInstance; rfl; rfl)))); (refine ⟨congrArg Value.bool ?_, rfl⟩; (first | (refine decide_eq_decide.2 ?_) | (refine (decide_eq_true ?_).symm) | (refine (decide_eq_false ?_).symm)); (first | omega | (simp only [DownP]; omega))); (repeat (first | exact Ent.refl | exact Ent.nil | apply Ent.pick | apply Ent.drop))) | (apply WE_ret rfl rfl (by repeat (first | exact ResOk.nil | (apply ResOk.tmp; rfl))); (refine ⟨congrArg Value.bool (decide_eq_decide.2 ⟨fun h => ⟨by assumption, by assumption, h⟩, fun h => h.2.2⟩), rfl⟩); (repeat (first | exact Ent.refl | exact Ent.nil | apply Ent.pick | apply Ent.drop)))
theorem msg_across {F : List HP} {c : Cfg} {m : Msg} : FnF Try.prog 164 [.agg #[], c.val, mv m] [] F (fun r L' => r = .bool (decide (AcrossP c m)) ∧ L' = []) := by
  have hW := fun F => msg_within (F := F) (n := m.src) (k := c.cores)
  have hV := fun F => msg_within (F := F) (n := m.dst) (k := c.cores)
  simp only [InP] at hW hV
  refine FnF.mk' Try.func164 rfl rfl Try.ntmps164 rfl ?_
  repeat' (first | rintro _ _ ⟨rfl, rfl⟩ | refine exq fun _ => ?_ | intro _ | refine go ?_ | refine drq ?_ | refine cal @hW ?_ | refine cal @hV ?_ | refine cal @msg_plain ?_ | refine spl ?_ ?_ | fail)
  all_goals (apply WE_ret rfl rfl (by (repeat (first | exact ResOk.nil | (apply ResOk.tmp; rfl) | (apply resOk_cell; rfl; exact inferInstance; rfl; rfl)))); (refine ⟨congrArg Value.bool ?_, rfl⟩; (first | (refine decide_eq_decide.2 ?_) | (refine (decide_eq_true ?_).symm) | (refine (decide_eq_false ?_).symm)); (first | omega | (simp only [AcrossP, PlainP, Bool.false_eq_true, if_false]; omega))); (repeat (first | exact Ent.refl | exact Ent.nil | apply Ent.pick | apply Ent.drop)))
theorem msg_forward {F : List HP} {c : Cfg} {m : Msg} {a : Bool} (h : c.homes ≠ 0) : FnF Try.prog 160 [.agg #[.bool a], c.val, mv m] [] F (fun r L' => r = .bool (decide (ForwardP c m a)) ∧ L' = []) := by
  have hW := fun F => msg_within (F := F) (n := m.who) (k := c.cores)
  have hD := fun F => msg_down (F := F) (c := c) (m := { m with who := 0 }) (a := a) h
  simp only [InP] at hW
  refine FnF.mk' Try.func160 rfl rfl Try.ntmps160 rfl ?_
  repeat' (first | rintro _ _ ⟨rfl, rfl⟩ | refine exq fun _ => ?_ | intro _ | refine go ?_ | refine drq ?_ | refine cal @hW ?_ | refine cal @hD ?_ | refine spl ?_ ?_ | fail)
  all_goals first | (apply WE_ret rfl rfl (by (repeat (first | exact ResOk.nil | (apply ResOk.tmp; rfl) | (apply resOk_cell; rfl; exact inferInstance; rfl; rfl)))); (refine ⟨congrArg Value.bool ?_, rfl⟩; (first | (refine decide_eq_decide.2 ?_) | (refine (decide_eq_true ?_).symm) | (refine (decide_eq_false ?_).symm)); (first | omega | (simp only [ForwardP]; omega))); (repeat (first | exact Ent.refl | exact Ent.nil | apply Ent.pick | apply Ent.drop))) | (apply WE_ret rfl rfl (by repeat (first | exact ResOk.nil | (apply ResOk.tmp; rfl))); (refine ⟨congrArg Value.bool (decide_eq_decide.2 ⟨fun h => ⟨by assumption, by assumption, h⟩, fun h => h.2.2⟩), rfl⟩); (repeat (first | exact Ent.refl | exact Ent.nil | apply Ent.pick | apply Ent.drop)))
theorem dr_Msg_162 {Q P : Prop} (k : Q) (h : Hid Q → P := by
  intro k
  first
  | (refine is_draw ?_; apply WC_mix (id := 6) .false _ (pl := .p 0 <| .r 1 <| .r 2 <| .r 3 <| .e true [(4, .p 5 <| .p 6 <| .done)]); exact mixed; kernel_rfl; kernel_rfl; exact Ent.refl; exact k.out)) : P := h ⟨k⟩
theorem msg_data {F : List HP} {c : Cfg} {m : Msg} (h : c.homes ≠ 0) : FnF Try.prog 162 [.agg #[], c.val, mv m] [] F (fun r L' => r = .bool (decide (DataP c m)) ∧ L' = []) := by
  have hW := fun F => msg_within (F := F) (n := m.src) (k := c.cores)
  have hV := fun F => msg_within (F := F) (n := m.dst) (k := c.cores)
  have hP := fun F => msg_plain (F := F) (c := c) (m := { m with who := 0, own := 0 }) (a := true)
  have hH := fun F => msg_home (F := F) (c := c) (m := { m with who := 0, own := 0 }) h
  simp only [PlainP, if_true, InP, true_and] at hW hV hP
  have hh : homeN c { m with who := 0, own := 0 } = homeN c m := rfl
  simp only [hh] at hH
  refine FnF.mk' Try.func162 rfl rfl Try.ntmps162 rfl ?_
  repeat' (first | rintro _ _ ⟨rfl, rfl⟩ | refine exq fun _ => ?_ | intro _ | refine go ?_ | refine dr_Msg_162 ?_ | refine drq ?_ | refine cal @hW ?_ | refine cal @hV ?_ | refine cal @hP ?_ | refine cal @hH ?_ | refine spl ?_ ?_ | fail)
  all_goals (apply WE_ret rfl rfl (by (repeat (first | exact ResOk.nil | (apply ResOk.tmp; rfl) | (apply resOk_cell; rfl; exact inferInstance; rfl; rfl)))); (refine ⟨congrArg Value.bool ?_, rfl⟩; (first | (refine decide_eq_decide.2 ?_) | (refine (decide_eq_true ?_).symm) | (refine (decide_eq_false ?_).symm)); (first | omega | (simp only [DataP]; omega))); (repeat (first | exact Ent.refl | exact Ent.nil | apply Ent.pick | apply Ent.drop)))
end Go.Sx

/- The document's operations: which may be. My own work. -/
namespace Go.Sx
open Go Go.Proofs
set_option linter.unusedVariables false
set_option linter.unusedSimpArgs false

theorem mayB_iff (x : Op3) : mayB x = decide ((x.kind = 4 ∧ x.addr = 0 ∧ x.value = 0) ∨ (x.kind = 1 ∧ 0 ≤ x.addr ∧ x.addr ≤ 8191 ∧ x.value = 0) ∨ ((x.kind = 2 ∨ x.kind = 3) ∧ 0 ≤ x.addr ∧ x.addr ≤ 8191 ∧ -2147483648 ≤ x.value ∧ x.value ≤ 2147483647)) := by
  rw [Bool.eq_iff_iff, decide_eq_true_iff]
  unfold mayB
  split
  · simp only [Bool.and_eq_true, decide_eq_true_eq]; omega
  · split
    · simp only [Bool.and_eq_true, decide_eq_true_eq]; omega
    · split
      · simp only [Bool.and_eq_true, decide_eq_true_eq]; omega
      · simp only [Bool.false_eq_true, false_iff]; omega

set_option maxRecDepth 100000
set_option maxHeartbeats 4000000
attribute [local irreducible] Go.Exit.then Go.Exit.inBlock Go.Code.wp WC WO WE WQ V LoopQ FnQ Sat Star band bor IntKind.wrap WR Code.rounds WT KO
theorem ref03_May {F : List HP} {x : Op3} : FnF Try.prog 63 [ov x] [] F (fun r L' => r = .bool (mayB x) ∧ L' = []) := by
  rw [mayB_iff]
  refine FnF.mk' Try.func63 rfl rfl Try.ntmps63 rfl ?_
  repeat' (first | rintro _ _ ⟨rfl, rfl⟩ | refine exq fun _ => ?_ | intro _ | refine go ?_ | refine drq ?_ | refine spl ?_ ?_ | fail)
  all_goals (apply WE_ret rfl rfl (by (repeat (first | exact ResOk.nil | (apply ResOk.tmp; rfl)))))
  all_goals first
    | (refine ⟨?_, rfl⟩; first | (exact congrArg Value.bool (Eq.symm (decide_eq_false (by omega)))) | (exact congrArg Value.bool (Eq.symm (decide_eq_true (by omega)))) | (exact congrArg Value.bool (decide_eq_decide.2 (by omega))))
    | exact entu0

end Go.Sx
