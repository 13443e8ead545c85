/- Msh5, Msh6, Msh7, Ins, Msh8: several of my texts as one. My own work. -/
import Derived.Test.YtlaohgngdaglmaaGreatZac
import Derived.Test.YtlaohgngdaglmaaGreatSl
import Derived.Lib.AppendZerosOnto
import Derived.Lib.Overlaps
import Derived.Laws.Externs
/- What files of misses do, fifth part. The program's. My own work. -/
namespace Go.Sx
open Go Go.Proofs
set_option linter.unusedVariables false
set_option linter.unusedSectionVars false
set_option linter.unusedSimpArgs false
set_option maxRecDepth 100000
set_option maxHeartbeats 4000000
attribute [local irreducible] Go.Exit.then Go.Exit.inBlock Go.Code.wp WC WO WE WQ V LoopQ FnQ Sat Star band bor IntKind.wrap WR Code.rounds WT KO
theorem dr_Msh5_160 {Q P : Prop} (k : Q) (h : Hid Q → P := by
  intro k
  first
  | (refine is_draw ?_; apply WC_mix (id := 6) .true [] (pl := .p 0 <| .p 1 <| .p 2 <| .p 3 <| .p 4 <| .p 6 <| .p 7 <| .e true [(5, .e true [(8, .p 9 <| .p 10 <| .e false [(11, .p 12 <| .p 13 <| .e false [(14, .done)])])]), (8, .p 9 <| .p 10 <| .e false [(5, .e false [(11, .p 12 <| .p 13 <| .e false [(14, .done)])]), (11, .e false [(5, .p 12 <| .p 13 <| .e false [(14, .done)])])])]); exact mixed; kernel_rfl; kernel_rfl; exact Ent.nil; exact k.out)) : P := h ⟨k⟩
theorem msh_Data {F : List HP} {b : Nat} {room : Int} {l : List Miss} {line acks own : Int} {w : Words} :
    FnF Tryz.prog 160 [.pointer (some ⟨b, 0, none⟩), .int .i64 line, .int .i64 acks, .int .i64 own, wv w] [Msh b room l] F (fun r L' => r = .int .i64 (dataE l line acks own) ∧ L' = [Msh b room (dataL l line acks own w)]) := by
  refine FnF.mk' Tryz.func160 rfl rfl Tryz.ntmps160 rfl ?_
  refine RL_open fun p c hl => ?_
  have hO := fun F => msh_ofO (F := F) (b := b) (room := room) (l := l) (line := line) (p := p) (c := c) (by omega)
  cases h : misIn l line with
  | false =>
    have e1 : dataE l line acks own = 5 := by unfold dataE; rw [h]; rfl
    have e2 : dataL l line acks own w = l := by unfold dataL; rw [e1]; rfl
    rw [e1, e2]
    rw [h, if_neg Bool.false_ne_true] at hO
    repeat (first | rintro _ _ ⟨rfl, rfl⟩ | refine exq fun _ => ?_ | intro _ | refine go ?_ | refine dr_Msh5_160 ?_ | refine drq ?_ | refine cal @hO ?_)
    (apply WE_ret rfl rfl (by (repeat (first | exact ResOk.nil | (apply ResOk.tmp; rfl) | (apply resOk_cell; rfl; exact inferInstance; rfl; rfl)))))
    · exact ⟨rfl, rfl⟩
    · (apply RL_in; (focus (exact entu0)); all_goals (first | rfl | (with_reducible assumption) | (simp; done) | (simp; omega) | omega | (constructor <;> (simp) <;> omega)))
  | true =>
    obtain ⟨i, hi, e0, ea, _⟩ := misIn_t h
    rw [if_pos h, e0, Int.toNat_natCast] at hO
    have hF := fun F => msh_fits (F := F) (l := l) (i := i) (acks := acks) (own := own) (p := p) (c := c) hi (by omega)
    cases hf : fitsM l[i] acks own with
    | false =>
      rw [hf] at hF
      have e1 : dataE l line acks own = 7 := by unfold dataE; rw [if_pos h, ea, hf]; rfl
      have e2 : dataL l line acks own w = l := by unfold dataL; rw [e1]; rfl
      rw [e1, e2]
      repeat (first | rintro _ _ ⟨rfl, rfl⟩ | refine exq fun _ => ?_ | intro _ | refine go ?_ | refine dr_Msh5_160 ?_ | refine drq ?_ | refine cal @hO ?_ | refine cal @hF ?_)
      (apply WE_ret rfl rfl (by (repeat (first | exact ResOk.nil | (apply ResOk.tmp; rfl) | (apply resOk_cell; rfl; exact inferInstance; rfl; rfl)))))
      · exact ⟨rfl, rfl⟩
      · (apply RL_in; (focus (exact entu0)); all_goals (first | rfl | (with_reducible assumption) | (simp; done) | (simp; omega) | omega | (constructor <;> (simp) <;> omega)))
    | true =>
      rw [hf] at hF
      have e1 : dataE l line acks own = 0 := by unfold dataE; rw [if_pos h, ea, hf]; rfl
      have e2 : dataL l line acks own w = l.set i { l[i] with needs := acks, own := own, words := w } := by unfold dataL; rw [if_pos e1, e0, Int.toNat_natCast, ea]
      rw [e1, e2]
      have hs : ∀ x y, i < ((l.set i x).set i y).length := fun x y => by simpa using hi
      have hs1 : ∀ x, i < (l.set i x).length := fun x => by simpa using hi
      repeat' (first | rintro _ _ ⟨rfl, rfl⟩ | refine exq fun _ => ?_ | intro _ | refine go ?_ | refine dr_Msh5_160 ?_ | refine drq ?_ | refine cal @hO ?_ | refine cal @hF ?_ | refine spl ?_ ?_ | fail)
      all_goals simp only [mis_n, mis_o, mis_w, hi, hs, hs1, List.set_set, List.getElem_set_self]
      all_goals (apply WE_ret rfl rfl (by (repeat (first | exact ResOk.nil | (apply ResOk.tmp; rfl) | (apply resOk_cell; rfl; exact inferInstance; rfl; rfl)))))
      all_goals first | exact ⟨rfl, rfl⟩ | (rw [show l.length = (l.set i { l[i] with needs := acks, own := own, words := w }).length by simp]; (apply RL_in; (focus (exact entu0)); all_goals (first | rfl | (with_reducible assumption) | (simp; done) | (simp; omega) | omega | (constructor <;> (simp) <;> omega))))
end Go.Sx

/- What files of misses do, sixth part. The program's. My own work. -/
namespace Go.Sx
open Go Go.Proofs
set_option linter.unusedVariables false
set_option linter.unusedSectionVars false
set_option linter.unusedSimpArgs false
def oweB (l : List Miss) (line : Int) : Bool := misIn l line && !(misAt l line).owes && decide ((misAt l line).needs = (misAt l line).got)
def oweM (l : List Miss) (line : Int) : Miss := if oweB l line then misAt l line else .zero
def oweL (l : List Miss) (line : Int) : List Miss := if oweB l line then l.set (misP l line).toNat { misAt l line with owes := true } else l
set_option maxRecDepth 100000
set_option maxHeartbeats 4000000
attribute [local irreducible] Go.Exit.then Go.Exit.inBlock Go.Code.wp WC WO WE WQ V LoopQ FnQ Sat Star band bor IntKind.wrap WR Code.rounds WT KO
theorem msh_Owe {F : List HP} {b : Nat} {room : Int} {l : List Miss} {line : Int} :
    FnF Tryz.prog 206 [.pointer (some ⟨b, 0, none⟩), .int .i64 line] [Msh b room l] F (fun r L' => r = .tuple [msv (oweM l line), .bool (oweB l line)].toArray ∧ L' = [Msh b room (oweL l line)]) := by
  refine FnF.mk' Tryz.func206 rfl rfl Tryz.ntmps206 rfl ?_
  refine RL_open fun p c hl => ?_
  have hO := fun F => msh_ofO (F := F) (b := b) (room := room) (l := l) (line := line) (p := p) (c := c) (by omega)
  cases h : misIn l line with
  | false =>
    have e1 : oweB l line = false := by unfold oweB; rw [h]; rfl
    have e2 : oweL l line = l := by unfold oweL; rw [e1]; rfl
    have e3 : oweM l line = .zero := by unfold oweM; rw [e1]; rfl
    rw [e1, e2, e3]
    rw [h, if_neg Bool.false_ne_true] at hO
    repeat' (first | rintro _ _ ⟨rfl, rfl⟩ | refine exq fun _ => ?_ | intro _ | refine go ?_ | refine drq ?_ | refine cal @hO ?_ | refine spl ?_ ?_ | fail)
    all_goals (apply WE_ret rfl rfl (by (repeat (first | exact ResOk.nil | (apply ResOk.tmp; rfl) | (apply resOk_cell; rfl; exact inferInstance; rfl; rfl)))))
    all_goals first | exact ⟨rfl, rfl⟩ | (apply RL_in; (focus (exact entu0)); all_goals (first | rfl | (with_reducible assumption) | (simp; done) | (simp; omega) | omega | (constructor <;> (simp) <;> omega)))
  | true =>
    obtain ⟨i, hi, e0, ea, _⟩ := misIn_t h
    rw [if_pos h, e0, Int.toNat_natCast] at hO
    cases h1 : l[i].owes with
    | true =>
      have e1 : oweB l line = false := by unfold oweB; rw [ea, h1]; simp
      have e2 : oweL l line = l := by unfold oweL; rw [e1]; rfl
      have e3 : oweM l line = .zero := by unfold oweM; rw [e1]; rfl
      rw [e1, e2, e3]
      repeat' (first | rintro _ _ ⟨rfl, rfl⟩ | refine exq fun _ => ?_ | intro _ | refine go ?_ | refine drq ?_ | refine cal @hO ?_ | refine spl ?_ ?_ | fail)
      all_goals (apply WE_ret rfl rfl (by (repeat (first | exact ResOk.nil | (apply ResOk.tmp; rfl) | (apply resOk_cell; rfl; exact inferInstance; rfl; rfl)))))
      all_goals first | exact ⟨rfl, rfl⟩ | (apply RL_in; (focus (exact entu0)); all_goals (first | rfl | (with_reducible assumption) | (simp; done) | (simp; omega) | omega | (constructor <;> (simp) <;> omega)))
    | false =>
      by_cases h2 : l[i].needs = l[i].got
      · have e1 : oweB l line = true := by unfold oweB; rw [h, ea, h1]; simp [h2]
        have e2 : oweL l line = l.set i { l[i] with owes := true } := by unfold oweL; rw [if_pos e1, e0, Int.toNat_natCast, ea]
        have e3 : oweM l line = l[i] := by unfold oweM; rw [if_pos e1, ea]
        rw [e1, e2, e3]
        repeat' (first | rintro _ _ ⟨rfl, rfl⟩ | refine exq fun _ => ?_ | intro _ | refine go ?_ | refine drq ?_ | refine cal @hO ?_ | refine spl ?_ ?_ | fail)
        all_goals rw [mis_ow hi]
        all_goals (apply WE_ret rfl rfl (by (repeat (first | exact ResOk.nil | (apply ResOk.tmp; rfl) | (apply resOk_cell; rfl; exact inferInstance; rfl; rfl)))))
        all_goals first | exact ⟨rfl, rfl⟩ | (rw [show l.length = (l.set i { l[i] with owes := true }).length by simp]; (apply RL_in; (focus (exact entu0)); all_goals (first | rfl | (with_reducible assumption) | (simp; done) | (simp; omega) | omega | (constructor <;> (simp) <;> omega))))
      · have e1 : oweB l line = false := by unfold oweB; rw [h, ea, h1]; simp [h2]
        have e2 : oweL l line = l := by unfold oweL; rw [e1]; rfl
        have e3 : oweM l line = .zero := by unfold oweM; rw [e1]; rfl
        rw [e1, e2, e3]
        repeat' (first | rintro _ _ ⟨rfl, rfl⟩ | refine exq fun _ => ?_ | intro _ | refine go ?_ | refine drq ?_ | refine cal @hO ?_ | refine spl ?_ ?_ | fail)
        all_goals (apply WE_ret rfl rfl (by (repeat (first | exact ResOk.nil | (apply ResOk.tmp; rfl) | (apply resOk_cell; rfl; exact inferInstance; rfl; rfl)))))
        all_goals first | exact ⟨rfl, rfl⟩ | (apply RL_in; (focus (exact entu0)); all_goals (first | rfl | (with_reducible assumption) | (simp; done) | (simp; omega) | omega | (constructor <;> (simp) <;> omega)))
theorem msh_Owing {F : List HP} {b : Nat} {room : Int} {l : List Miss} :
    FnF Tryz.prog 117 [.pointer (some ⟨b, 0, none⟩)] [Msh b room l] F (fun r L' => r = .tuple [.int .i64 (if 0 ≤ owingP l then (l.getD (owingP l).toNat .zero).line else 0), .bool (decide (0 ≤ owingP l))].toArray ∧ L' = [Msh b room l]) := by
  have hat : ∀ F (p : Option Addr) (c : Nat), l.length ≤ 4096 → FnF Tryz.prog 188 [.pointer (some ⟨b, 0, none⟩), .func (.func 189) [].toArray [].toArray] [Cells b 236 [.int .i64 room, .slice p l.length c], Own 162 15 (.slice p l.length c) l.length (flat msc' l)] F
      (fun r L' => r = .int .i64 (owingP l) ∧ L' = [Cells b 236 [.int .i64 room, .slice p l.length c], Own 162 15 (.slice p l.length c) l.length (flat msc' l)]) := fun F p c hn => by
    have hI := fun F (k : RdL F 15 (.slice p l.length c) l.length (flat msc' l)) => sl_IndexFunc_miss (F := F) (v := .slice p l.length c) (l := l) (fk := 189) (first := []) (cap := []) (p := fun m => m.owes) k (by omega) (fun x _ => msh_owing1)
    refine FnF.mk' Tryz.func188 rfl rfl Tryz.ntmps188 rfl ?_
    repeat (first | rintro _ _ ⟨rfl, rfl⟩ | refine exq fun _ => ?_ | intro _ | refine go ?_ | refine drq ?_ | refine cal @hI ?_)
    (apply WE_ret rfl rfl (by (repeat (first | exact ResOk.nil | (apply ResOk.tmp; rfl) | (apply resOk_cell; rfl; exact inferInstance; rfl; rfl)))); (first | exact ⟨rfl, rfl⟩ | exact ⟨congrArg Value.bool (by decide), rfl⟩ | exact ⟨_, rfl, rfl⟩ | exact ⟨_, _, rfl, rfl⟩ | exact ⟨by first | (simp [owingP]; done) | (simp [owingP] <;> omega), rfl⟩); (repeat (first | exact Ent.refl | exact Ent.nil | apply Ent.pick | apply Ent.drop)))
  refine FnF.mk' Tryz.func117 rfl rfl Tryz.ntmps117 rfl ?_
  refine RL_open fun p c hl => ?_
  have hA := fun F => hat F p c (by omega)
  by_cases h : 0 ≤ owingP l
  · obtain ⟨i, hi, e0, _⟩ := indexBy_nat h
    have e0' : owingP l = i := e0
    rw [if_pos h, decide_eq_true h]
    rw [e0'] at hA
    rw [e0', Int.toNat_natCast, ← getD_at hi]
    repeat (first | rintro _ _ ⟨rfl, rfl⟩ | refine exq fun _ => ?_ | intro _ | refine go ?_ | refine drq ?_ | refine cal @hA ?_)
    (apply WE_ret rfl rfl (by (repeat (first | exact ResOk.nil | (apply ResOk.tmp; rfl) | (apply resOk_cell; rfl; exact inferInstance; rfl; rfl)))))
    · exact ⟨rfl, rfl⟩
    · (apply RL_in; (focus (exact entu0)); all_goals (first | rfl | (with_reducible assumption) | (simp; done) | (simp; omega) | omega | (constructor <;> (simp) <;> omega)))
  · have e0 : owingP l = -1 := (indexBy_neg h).1
    rw [if_neg h, decide_eq_false h]
    rw [e0] at hA
    repeat (first | rintro _ _ ⟨rfl, rfl⟩ | refine exq fun _ => ?_ | intro _ | refine go ?_ | refine drq ?_ | refine cal @hA ?_)
    (apply WE_ret rfl rfl (by (repeat (first | exact ResOk.nil | (apply ResOk.tmp; rfl) | (apply resOk_cell; rfl; exact inferInstance; rfl; rfl)))))
    · exact ⟨rfl, rfl⟩
    · (apply RL_in; (focus (exact entu0)); all_goals (first | rfl | (with_reducible assumption) | (simp; done) | (simp; omega) | omega | (constructor <;> (simp) <;> omega)))
end Go.Sx

/- What files of misses do, seventh part. The program's. My own work. -/
namespace Go.Sx
open Go Go.Proofs
set_option linter.unusedVariables false
set_option linter.unusedSectionVars false
set_option linter.unusedSimpArgs false
theorem indexBy_same {α : Type} {q : α → Bool} {l : List α} {i : Nat} (hi : i < l.length) {x : α} (h : q x = q l[i]) : indexBy q (l.set i x) = indexBy q l := by
  have key : ∀ j (hj : j < l.length), ∀ hj' : j < (l.set i x).length, q (l.set i x)[j] = q l[j] := fun j hj hj' => by
    by_cases e : i = j
    · subst e; rw [List.getElem_set_self, h]
    · rw [List.getElem_set_ne e]
  by_cases hn : 0 ≤ indexBy q l
  · obtain ⟨j, hj, e, h1, h2⟩ := indexBy_nat hn
    have hj' : j < (l.set i x).length := by rw [List.length_set]; exact hj
    rw [e]
    refine indexBy_at hj' (fun k hk hlt => ?_) ?_
    · rw [List.length_set] at hk
      rw [key k hk]; exact h2 k hk hlt
    · rw [key j hj]; exact h1
  · obtain ⟨e, h1⟩ := indexBy_neg hn
    rw [e]
    refine indexBy_none fun j hj _ => ?_
    rw [List.length_set] at hj
    rw [key j hj]; exact h1 _ (List.getElem_mem hj)
def grantL (l : List Miss) (line acks : Int) : List Miss := if dataE l line acks 4 = 0 then l.set (misP l line).toNat { misAt l line with needs := acks, own := 4, words := .zero, granted := true } else l
set_option maxRecDepth 100000
set_option maxHeartbeats 4000000
attribute [local irreducible] Go.Exit.then Go.Exit.inBlock Go.Code.wp WC WO WE WQ V LoopQ FnQ Sat Star band bor IntKind.wrap WR Code.rounds WT KO
theorem msh_Grant {F : List HP} {b : Nat} {room : Int} {l : List Miss} {line acks : Int} :
    FnF Tryz.prog 161 [.pointer (some ⟨b, 0, none⟩), .int .i64 line, .int .i64 acks] [Msh b room l] F (fun r L' => r = .int .i64 (dataE l line acks 4) ∧ L' = [Msh b room (grantL l line acks)]) := by
  have hD := fun F => msh_Data (F := F) (b := b) (room := room) (l := l) (line := line) (acks := acks) (own := 4) (w := .zero)
  refine FnF.mk' Tryz.func161 rfl rfl Tryz.ntmps161 rfl ?_
  by_cases h : dataE l line acks 4 = 0
  · have hin : misIn l line = true := by
      cases e : misIn l line with
      | true => rfl
      | false => unfold dataE at h; rw [e] at h; cases h
    obtain ⟨i, hi, e0, ea, el⟩ := misIn_t hin
    have e1 : dataL l line acks 4 .zero = l.set i { l[i] with needs := acks, own := 4, words := .zero } := by unfold dataL; rw [if_pos h, e0, Int.toNat_natCast, ea]
    have e2 : grantL l line acks = l.set i { l[i] with needs := acks, own := 4, words := .zero, granted := true } := by unfold grantL; rw [if_pos h, e0, Int.toNat_natCast, ea]
    have e3 : misP (l.set i { l[i] with needs := acks, own := 4, words := .zero }) line = i := by
      have h9 := indexBy_same (q := fun m : Miss => decide (m.line = line)) (l := l) (i := i) (x := { l[i] with needs := acks, own := 4, words := .zero }) hi rfl
      exact h9.trans e0
    have e4 : misIn (l.set i { l[i] with needs := acks, own := 4, words := .zero }) line = true := by unfold misIn; rw [e3]; simp
    rw [h, e1] at hD
    rw [h, e2]
    have hi2 : i < (l.set i { l[i] with needs := acks, own := 4, words := .zero }).length := by rw [List.length_set]; exact hi
    repeat (first | rintro _ _ ⟨rfl, rfl⟩ | refine exq fun _ => ?_ | intro _ | refine go ?_ | refine drq ?_ | refine cal @hD ?_)
    (first | refine WO_front (Msh b room (l.set i { l[i] with needs := acks, own := 4, words := .zero })) ?_ | refine WC_front (Msh b room (l.set i { l[i] with needs := acks, own := 4, words := .zero })) ?_ | refine WE_front (Msh b room (l.set i { l[i] with needs := acks, own := 4, words := .zero })) ?_)
    refine RL_openO fun p c hl => ?_
    have hO := fun F => msh_ofO (F := F) (b := b) (room := room) (l := l.set i { l[i] with needs := acks, own := 4, words := .zero }) (line := line) (p := p) (c := c) (by omega)
    rw [if_pos e4, e3, Int.toNat_natCast] at hO
    repeat (first | rintro _ _ ⟨rfl, rfl⟩ | refine exq fun _ => ?_ | intro _ | refine go ?_ | refine drq ?_ | refine cal @hO ?_)
    rw [mis_gr hi2]
    simp only [List.set_set, List.getElem_set_self]
    (apply WE_ret rfl rfl (by (repeat (first | exact ResOk.nil | (apply ResOk.tmp; rfl) | (apply resOk_cell; rfl; exact inferInstance; rfl; rfl)))))
    · exact ⟨rfl, rfl⟩
    · rw [show (l.set i { l[i] with needs := acks, own := 4, words := .zero }).length = (l.set i { l[i] with needs := acks, own := 4, words := .zero, granted := true }).length by simp] at hl ⊢
      (apply RL_in; (focus (exact entu0)); all_goals (first | rfl | (with_reducible assumption) | (simp; done) | (simp; omega) | omega | (constructor <;> (simp) <;> omega)))
  · have e2 : grantL l line acks = l := if_neg h
    have e1 : dataL l line acks 4 .zero = l := if_neg h
    rw [e1] at hD
    rw [e2]
    repeat (first | rintro _ _ ⟨rfl, rfl⟩ | refine exq fun _ => ?_ | intro _ | refine go ?_ | refine drq ?_ | refine cal @hD ?_)
    exact fin0
end Go.Sx

/- append of a make; cap; overlaps of slices in two blocks. My own work; names no program. -/
set_option linter.unusedVariables false
set_option linter.unusedSimpArgs false
namespace Go.Sx
open Go
section
variable {P : Program} {N : Nat} {t ty : TypeId} {x y : Operand} {env : Env} {L : List HP}

theorem v_cap {e : TypeId} {ats : List TypeId} {p : Option Addr} {n c : Nat} [hT : TU P t (.slice e)] (hx : ev env x = some (.slice p n c)) : V P N (.call ⟨.builtin .cap, [x].toArray, (t :: ats).toArray⟩) ty env L (.int .i64 (c : Int)) := by
  intro a w ha hw
  simp [execOp, resolve, invoke, builtin, ha.ev hx, Builtin.cap_, run_underlying hT.pf, goInt]

/-- append(s[:i], make(S, k)...), where there is no room. -/
theorem K_appendZ {e tn : TypeId} {g T i cap k bs : Nat} {kk : Int} {z z0 : Value} {l : List Value} {C : List Value → List HP} {pos : String} {aft : Array Edge} {d : Nat} [hT : TU P t (.slice e)] [hN : TU P tn (.int .i64)] [hZ : TZ P e 1 z bs] [hco : CO z [z0]]
    (hx : ev env x = some (.slice (some ⟨g, 0, none⟩) i cap)) (hy : ev env y = some (.int .i64 kk)) (hk : CellsAt g L T l C) (he : kk = (k : Int)) (h0 : 0 < k) (hg : cap < i + k) (hb : (i + k) * bs ≤ 140737488355328) (hl0 : i + k ≤ 9223372036854775807) (hi : i ≤ l.length) (ho : (l.take i).all one = true) (h1 : one z0 = true) (hd : Nat.blt d N = true) :
    KO P N ⟨some d, .call ⟨.builtin .append, [x, y].toArray, [t, tn].toArray⟩, ty, pos, aft, none⟩ env L (Gives env d (i + k) (fun v' => Own e 1 v' (i + k) (l.take i ++ List.replicate k z0) :: L)) := by
  subst he
  intro a w ha hw K Q next
  have hl : i + k ≤ maxLen := by simp only [maxLen]; omega
  obtain ⟨ti, hti, hpf⟩ := Option.map_eq_some_iff.1 hZ.pf
  simp only [Prod.mk.injEq] at hpf
  obtain ⟨hisz, hiz, hib⟩ := hpf
  have hzc : z.cells = #[z0] := by rw [cellsOf_eq, hco.pf]
  have hh := cellsAt_heap hk hw
  have hold : (Builtin.firstCells ti.size i (.slice (some ⟨g, 0, none⟩) i cap)).run P w.drew = .ok (l.take i).toArray w.drew := by
    rw [hisz]
    simp only [Builtin.firstCells]
    refine run_loadCells' (by rw [List.length_take]; omega) (fun j v hj => ?_)
    have : w.drew.cell? ⟨g, 0 + j, none⟩ = w.cell? ⟨g, 0 + j, none⟩ := rfl
    rw [this, cell_of_heap hh]
    rw [List.getElem?_take] at hj
    split at hj
    · simpa using hj
    · cases hj
  have hr := Lib.run_append_grow_zeros (P := P) w t tn ty e ti z .i64 .i64 hT.pf hN.pf hti hiz (some ⟨g, 0, none⟩) i cap (l.take i) hold k h0 (by omega) hg (by omega) (by rw [hib]; have : k * bs ≤ (i + k) * bs := Nat.mul_le_mul_right _ (by omega); omega) (growslice_fits (by omega) (by rw [hib]; exact hb))
  have hge := grownCap_ge w (i + k) cap e
  have hmap : ∀ (n : Nat), (Builtin.zeroCells #[z0] n).toList = List.replicate n z0 := fun n => by
    have := zeroCells_list [z0] n 1 rfl
    rw [this]
    induction n with
    | zero => rfl
    | succ n ih => rw [List.replicate_succ, List.flatten_cons, ih (zeroCells_list [z0] n 1 rfl), List.replicate_succ]; rfl
  obtain ⟨v', w', hrun, hsat⟩ : ∃ v' w', (Builtin.append_ #[t, tn] ty #[.slice (some ⟨g, 0, none⟩) i cap, .int .i64 k]).run P w = .ok v' w' ∧ Sat (Own e 1 v' (i + k) (l.take i ++ List.replicate k z0) :: L) w' := by
    refine ⟨_, _, hr, sat_new (w := w.drew) _ (fun h hc => ⟨?_, ?_, .inr ⟨_, _, _, rfl, hc, hge, grownCap_le_maxLen w (i + k) cap e hl, ?_, ?_⟩⟩) (sat_drawn hw)⟩
    · simp; omega
    · rw [List.all_append, ho]; simp [h1]
    · simp only [Array.size_append, List.size_toArray, zeros_size, hzc, List.length_take]
      simp; omega
    · simp only [Array.toList_append, hzc, hmap]
      rw [List.take_append_of_le_length (by simp; omega), List.take_of_length_le (by simp; omega)]
  unfold Oper.wp
  have ex := execBuiltin (P := P) (ρ := a.eval) (b := .append) (args := [x, y]) (ats := [t, tn].toArray) (ty := ty) (vs := [.slice (some ⟨g, 0, none⟩) i cap, .int .i64 k]) (by simp [ha.ev hx, ha.ev hy]) (w := w) (r := .ok (.value v') w') (fun cs => by
    simp [builtin, hrun])
  rw [execOp_plain, ex]
  obtain ⟨p', c', rfl⟩ := sat_own_slice hsat
  exact next _ _ _ _ ⟨p', c', rfl, rfl⟩ (ha.put hd _) hsat

theorem K_overlaps {f : Operand} {ats : Array TypeId} {fid : FuncId} {fn : Func} {tR e : TypeId} {ga oa la ca gb ob lb cb TA TB bs sz : Nat} {z : Value} {xa xb : List Value} {CA CB : List Value → List HP} {pos : String} {aft : Array Edge} {d : Nat}
    [hT : TU P t (.slice e)] [hZ : TZ P e sz z bs]
    (hf : ev env f = some (.func (.func fid) [].toArray [].toArray)) (hx : ev env x = some (.slice (some ⟨ga, oa, none⟩) la ca)) (hy : ev env y = some (.slice (some ⟨gb, ob, none⟩) lb cb)) (hfn : P.funcs[fid]? = some fn) (hname : (fn.name == "runtime.NumGoroutine") = false) (hbody : fn.body.isNone = true) (hnx : Extern.findNext fn = none) (hex : Extern.find fn = some (Extern.SlicesOverlaps.overlaps #[t, t] #[tR]))
    (ka : CellsAt ga L TA xa CA) (kb : CellsAt gb L TB xb CB) (hne : ga ≠ gb) (hb0 : xb.length ≠ 0) (hd : Nat.blt d N = true) :
    KO P N ⟨some d, .call ⟨.value f, [x, y].toArray, ats⟩, ty, pos, aft, none⟩ env L (Same ((d, .bool false) :: env) L) := by
  intro a w ha hw K Q next
  have h1 := cellsAt_heap ka hw
  have h2 := cellsAt_heap kb hw
  have hr := Lib.run_overlaps_apart (P := P) w t tR e hT.pf sz (run_sizeOf hZ) ⟨ga, oa, none⟩ ⟨gb, ob, none⟩ la ca lb cb hne TA TB xa.length xb.length (by simp [World.shape?, h1]) (by simp [World.shape?, h2]) hb0 (by simp [World.frozen?, h1]) (by simp [World.frozen?, h1])
  unfold Oper.wp
  have ex : (execOp a.eval ⟨none, .call ⟨.value f, [x, y].toArray, ats⟩, ty, "", #[], none⟩).run P w = .ok (.value (.bool false)) w := by
    simp only [execOp, resolve, Sem.run_bind, Deferred.ofValue, ha.ev hf, Sem.run_pure, Result.andThen_ok, invoke]
    rw [run_callFunc_extern hfn hname hbody hnx hex]
    simp [ha.ev hx, ha.ev hy, hr]
  rw [execOp_plain, ex]
  exact next _ _ _ _ ⟨rfl, rfl⟩ (ha.put hd _) hw

/-- copy, from a block into a block (it may be the same one) whose cells are known. -/
theorem K_copyP {e : TypeId} {ga oa na ca gb ob nb cb TA TB sz k bs : Nat} {z : Value} {l l2 l' : List Value} {CA CB : List Value → List HP} {pos : String} {aft : Array Edge} {d : Option Nat} {t2 : TypeId} [hT : TU P t (.slice e)] [hZ : TZ P e sz z bs]
    (hx : ev env x = some (.slice (some ⟨ga, oa, none⟩) na ca)) (hy : ev env y = some (.slice (some ⟨gb, ob, none⟩) nb cb)) (hka : CellsAt ga L TA l CA) (hkb : CellsAt gb L TB l2 CB) (hk : min nb na = k) (hfit : oa + k * sz ≤ l.length) (hfit2 : ob + k * sz ≤ l2.length) (ho : ((l2.drop ob).take (k * sz)).all one = true) (hd : dstOk N d = true) (hl : splice l oa ((l2.drop ob).take (k * sz)) = l') :
    KO P N ⟨d, .call ⟨.builtin .copy, [x, y].toArray, [t, t2].toArray⟩, ty, pos, aft, none⟩ env L (Same (putEnv env d (.int .i64 (k : Nat))) (CA l')) := by
  subst hl hk
  intro a w ha hw K Q next
  obtain ⟨R, k1, k2⟩ := hka.pf
  have hs := k1.sat hw
  have hh := sat_cells hs
  have hh2 := cellsAt_heap hkb hw
  have htl : ((l2.drop ob).take (min nb na * sz)).length = min nb na * sz := by rw [List.length_take, List.length_drop]; omega
  have hf : (Builtin.firstCells sz (min nb na) (.slice (some ⟨gb, ob, none⟩) nb cb)).run P w = .ok ((l2.drop ob).take (min nb na * sz)).toArray w := by
    simp only [Builtin.firstCells]
    refine run_loadCells' htl fun j v hj => ?_
    rw [cell_of_heap hh2]
    rw [List.getElem?_take] at hj
    split at hj
    · rwa [List.getElem?_drop] at hj
    · cases hj
  obtain ⟨w', r1, r2, r3, r4, r5, r6⟩ := run_storeCells (P := P) ga TA ((l2.drop ob).take (min nb na * sz)) l oa 0 w hh (by rw [htl]; omega) ho
  have hrun : (Builtin.copy_ #[t, t2] ty #[.slice (some ⟨ga, oa, none⟩) na ca, .slice (some ⟨gb, ob, none⟩) nb cb]).run P w = .ok (goInt (min nb na : Nat)) w' := by
    have hmn : Nat.min nb na = min nb na := rfl
    simp [Builtin.copy_, run_underlying hT.pf, run_sizeOf hZ, Builtin.lenOf, hmn, hf, r1]
  unfold Oper.wp
  have ex := execBuiltin (P := P) (ρ := a.eval) (b := .copy) (args := [x, y]) (ats := [t, t2].toArray) (ty := ty) (vs := [.slice (some ⟨ga, oa, none⟩) na ca, .slice (some ⟨gb, ob, none⟩) nb cb]) (by simp [ha.ev hx, ha.ev hy]) (w := w) (r := .ok (.value (goInt (min nb na : Nat))) w') (fun cs => by
    simp [builtin, hrun])
  rw [execOp_plain, ex]
  refine next _ _ _ _ ⟨rfl, rfl⟩ (ha.puts hd _) ((k2 _).sat ?_)
  exact sat_upd (b := ga) (Cells ga TA (splice l oa ((l2.drop ob).take (min nb na * sz)))) (fun h hp => ⟨_, hp.pf⟩) (fun h e => ⟨e⟩) (by simpa using r2) r3 r4 r5 r6 hs
/-- Two blocks are two. -/
theorem WO_two {g h T T' : Nat} {l l' : List Value} {all : Array Oper} {c : List Oper} {Q : Exit → Act → World → Prop} (k : g ≠ h → WO P N all c env (Cells g T l :: Cells h T' l' :: L) Q) : WO P N all c env (Cells g T l :: Cells h T' l' :: L) Q := by
  intro a w ha hw
  refine k ?_ a w ha hw
  obtain ⟨S, R, d, hp, A, B, d2, hq, hL⟩ := hw
  rw [res_res] at hq
  intro e
  subst e
  exact d g (res_c hp.pf).1 (res_c hq.pf).1.1
end
end Go.Sx

/- What files of misses do, eighth part. The program's. My own work. -/
namespace Go.Sx
open Go Go.Proofs
set_option linter.unusedVariables false
set_option linter.unusedSectionVars false
set_option linter.unusedSimpArgs false
def closeE (l : List Miss) (line : Int) : Int := if misIn l line then (if (misAt l line).owes then 0 else 7) else 5
def closeL (l : List Miss) (line : Int) : List Miss := if closeE l line = 0 then l.eraseIdx (misP l line).toNat else l
/-- One is gone: those behind it stand one place ahead. -/
theorem shift_fin {e : TypeId} {g n i cap : Nat} {xs spare : List Value} {M : List HP} (hi : i < n) (q1 : xs.length = n * 15) (q2 : xs.all one = true) (h1 : n ≤ cap) (h2 : cap ≤ maxLen) (h3 : spare.length = (cap - n) * 15) :
    Ent (Cells g e (splice (xs ++ spare) (0 + i * 15) (List.take (min (n - (i + 1)) (n - i) * 15) (List.take ((n - (i + 1)) * 15) (List.drop ((i + 1) * 15) xs)))) :: M)
      (Own e 15 (.slice (some ⟨g, 0, none⟩) (n - 1) cap) (n - 1) (xs.take (i * 15) ++ xs.drop ((i + 1) * 15)) :: M) := by
  have e1 : List.take (min (n - (i + 1)) (n - i) * 15) (List.take ((n - (i + 1)) * 15) (List.drop ((i + 1) * 15) xs)) = List.drop ((i + 1) * 15) xs := by
    rw [List.take_take, List.take_of_length_le (by rw [List.length_drop, q1]; omega)]
  have e2 : (List.drop ((i + 1) * 15) xs).length = (n - (i + 1)) * 15 := by rw [List.length_drop, q1]; omega
  rw [e1, Nat.zero_add]
  have hl := splice_length (l := xs ++ spare) (ys := List.drop ((i + 1) * 15) xs) (o := i * 15) (by rw [List.length_append, e2]; omega)
  refine own_close (cap := cap) ?_ (by omega) h2 ?_ ?_ Ent.refl
  · rw [hl, List.length_append, q1, h3]; omega
  · have := take_splice (l := xs ++ spare) (ys := List.drop ((i + 1) * 15) xs) (o := i * 15) (by rw [List.length_append]; omega)
    rw [e2, List.take_append_of_le_length (by omega)] at this
    rw [← this]; congr 1; omega
  · rw [List.all_append, List.all_eq_true.2 fun u hu => List.all_eq_true.1 q2 u (List.mem_of_mem_take hu), List.all_eq_true.2 fun u hu => List.all_eq_true.1 q2 u (List.mem_of_mem_drop hu)]
    rfl
set_option maxRecDepth 100000
set_option maxHeartbeats 4000000
attribute [local irreducible] Go.Exit.then Go.Exit.inBlock Go.Code.wp WC WO WE WQ V LoopQ FnQ Sat Star band bor IntKind.wrap WR Code.rounds WT KO
theorem msh_close1 {F : List HP} {b : Nat} {line : Int} {T : TypeId} {C : List Value → List HP} {m : Miss} (k : CellsAt b F T [.int .i64 line] C) :
    FnF Tryz.prog 190 [msv m, .pointer (some ⟨b, 0, none⟩)] [] F (fun r L' => r = .bool (decide (m.line = line)) ∧ L' = []) := by
  refine FnF.mk' Tryz.func190 rfl rfl Tryz.ntmps190 rfl ?_
  repeat (first | rintro _ _ ⟨rfl, rfl⟩ | refine exq fun _ => ?_ | intro _ | refine go ?_ | refine drq ?_)
  exact fin0
theorem msh_atC {F : List HP} {b bl : Nat} {room : Int} {l : List Miss} {line : Int} {p : Option Addr} {c : Nat} {C : List Value → List HP} (k1 : CellsAt bl F 3 [.int .i64 line] C) (hn : l.length ≤ 4096) :
    FnF Tryz.prog 188 [.pointer (some ⟨b, 0, none⟩), .func (.func 190) [].toArray [.pointer (some ⟨bl, 0, none⟩)].toArray] [Cells b 236 [.int .i64 room, .slice p l.length c], Own 162 15 (.slice p l.length c) l.length (flat msc' l)] F
      (fun r L' => r = .int .i64 (misP l line) ∧ L' = [Cells b 236 [.int .i64 room, .slice p l.length c], Own 162 15 (.slice p l.length c) l.length (flat msc' l)]) := by
  have hI := fun F (C : List Value → List HP) (k1' : CellsAt bl F 3 [.int .i64 line] C) (k : RdL F 15 (.slice p l.length c) l.length (flat msc' l)) =>
    sl_IndexFunc_miss (F := F) (v := .slice p l.length c) (l := l) (fk := 190) (first := []) (cap := [.pointer (some ⟨bl, 0, none⟩)]) (p := fun m => decide (m.line = line)) k (by omega) (fun x _ => msh_close1 k1')
  refine FnF.mk' Tryz.func188 rfl rfl Tryz.ntmps188 rfl ?_
  repeat (first | rintro _ _ ⟨rfl, rfl⟩ | refine exq fun _ => ?_ | intro _ | refine go ?_ | refine drq ?_ | refine cal @hI ?_)
  (apply WE_ret rfl rfl (by (repeat (first | exact ResOk.nil | (apply ResOk.tmp; rfl) | (apply resOk_cell; rfl; exact inferInstance; rfl; rfl)))); (first | exact ⟨rfl, rfl⟩ | exact ⟨congrArg Value.bool (by decide), rfl⟩ | exact ⟨_, rfl, rfl⟩ | exact ⟨_, _, rfl, rfl⟩ | exact ⟨by first | (simp [misP]; done) | (simp [misP] <;> omega), rfl⟩); (repeat (first | exact Ent.refl | exact Ent.nil | apply Ent.pick | apply Ent.drop)))
theorem dr_Msh8_118 {Q P : Prop} (k : Q) (h : Hid Q → P := by
  intro k
  first
  | (refine is_draw ?_; apply WC_mix (id := 7) .true _ (pl := .p 0 <| .p 1 <| .p 2 <| .p 4 <| .p 6 <| .p 7 <| .p 8 <| .p 10 <| .p 11 <| .r 3 <| .p 5 <| .r 9 <| .p 12 <| .e true [(13, .done)]); exact mixed; kernel_rfl; kernel_rfl; exact Ent.refl; exact k.out)
  | (refine is_draw ?_; apply WC_mix (id := 8) .true _ (pl := .p 0 <| .p 1 <| .p 2 <| .p 3 <| .p 5 <| .p 6 <| .p 7 <| .r 4 <| .r 8 <| .p 9 <| .p 10 <| .p 11 <| .p 12 <| .p 13 <| .e true [(14, .done)]); exact mixed; kernel_rfl; kernel_rfl; exact Ent.refl; exact k.out)) : P := h ⟨k⟩
theorem msh_Close {F : List HP} {b : Nat} {room : Int} {l : List Miss} {line : Int} :
    FnF Tryz.prog 118 [.pointer (some ⟨b, 0, none⟩), .int .i64 line] [Msh b room l] F (fun r L' => r = .int .i64 (closeE l line) ∧ L' = [Msh b room (closeL l line)]) := by
  refine FnF.mk' Tryz.func118 rfl rfl Tryz.ntmps118 rfl ?_
  refine RL_open fun p c hl => ?_
  have hO := fun F => msh_ofO (F := F) (b := b) (room := room) (l := l) (line := line) (p := p) (c := c) (by omega)
  have hA := fun F (bl : Nat) (C : List Value → List HP) (k1 : CellsAt bl F 3 [.int .i64 line] C) => msh_atC (F := F) (b := b) (room := room) (l := l) (p := p) (c := c) k1 (by omega)
  cases h : misIn l line with
  | false =>
    have e1 : closeE l line = 5 := by unfold closeE; rw [h]; rfl
    have e2 : closeL l line = l := by unfold closeL; rw [e1]; rfl
    rw [e1, e2]
    rw [h, if_neg Bool.false_ne_true] at hO
    repeat (first | rintro _ _ ⟨rfl, rfl⟩ | refine exq fun _ => ?_ | intro _ | refine go ?_ | refine dr_Msh8_118 ?_ | refine drq ?_ | refine cal @hO ?_)
    (apply WE_ret rfl rfl (by (repeat (first | exact ResOk.nil | (apply ResOk.tmp; rfl) | (apply resOk_cell; rfl; exact inferInstance; rfl; rfl)))))
    · exact ⟨rfl, rfl⟩
    · (apply RL_in; (focus (exact entu0)); all_goals (first | rfl | (with_reducible assumption) | (simp; done) | (simp; omega) | omega | (constructor <;> (simp) <;> omega)))
  | true =>
    obtain ⟨i, hi, e0, ea, _⟩ := misIn_t h
    rw [if_pos h, e0, Int.toNat_natCast] at hO
    rw [e0] at hA
    cases ho : l[i].owes with
    | false =>
      have e1 : closeE l line = 7 := by unfold closeE; rw [if_pos h, ea, ho]; rfl
      have e2 : closeL l line = l := by unfold closeL; rw [e1]; rfl
      rw [e1, e2]
      repeat' (first | rintro _ _ ⟨rfl, rfl⟩ | refine exq fun _ => ?_ | intro _ | refine go ?_ | refine dr_Msh8_118 ?_ | refine drq ?_ | refine cal @hO ?_ | refine spl ?_ ?_ | fail)
      all_goals (apply WE_ret rfl rfl (by (repeat (first | exact ResOk.nil | (apply ResOk.tmp; rfl) | (apply resOk_cell; rfl; exact inferInstance; rfl; rfl)))))
      all_goals first | exact ⟨rfl, rfl⟩ | (apply RL_in; (focus (exact entu0)); all_goals (first | rfl | (with_reducible assumption) | (simp; done) | (simp; omega) | omega | (constructor <;> (simp) <;> omega)))
    | true =>
      have e1 : closeE l line = 0 := by unfold closeE; rw [if_pos h, ea, ho]; rfl
      have e2 : closeL l line = l.eraseIdx i := by unfold closeL; rw [if_pos e1, e0, Int.toNat_natCast]
      rw [e1, e2]
      repeat (first | rintro _ _ ⟨rfl, rfl⟩ | refine exq fun _ => ?_ | intro _ | refine go ?_ | refine cal @hO ?_ | refine cal @hA ?_)
      (first | refine WO_front (Own 162 15 (.slice p l.length c) l.length (flat msc' l)) ?_ | refine WC_front (Own 162 15 (.slice p l.length c) l.length (flat msc' l)) ?_ | refine WE_front (Own 162 15 (.slice p l.length c) l.length (flat msc' l)) ?_)
      refine WC_own (fun q1 q2 p0 e0' e1' e2' => by omega) (fun q1 q2 g cap spare e0' k1 k2 k3 => ?_)
      obtain ⟨rfl, rfl⟩ : p = some ⟨g, 0, none⟩ ∧ c = cap := by simpa using e0'
      repeat (first | rintro _ _ ⟨rfl, rfl⟩ | refine exq fun _ => ?_ | intro _ | refine go ?_ | refine dr_Msh8_118 ?_ | refine drq ?_)
      rw [show (i : Int) + 1 = ((i + 1 : Nat) : Int) from rfl]
      repeat (first | rintro _ _ ⟨rfl, rfl⟩ | refine exq fun _ => ?_ | intro _ | refine go ?_ | refine dr_Msh8_118 ?_ | refine drq ?_)
      rw [cut_at (l := i) (by omega)]
      apply WT_k; rfl; exact GIn.none
      apply K_copy; rfl; rfl; exact inferInstance; exact RdL.cut (rd_open inferInstance q1 q2) (by omega) (Nat.le_refl _) k1; (simp only [List.length_append, q1, k3]; omega); rfl; rfl
      refine same_intro ?_
      (refine ⟨by first | exact After.free | exact After.turns rfl | (refine After.still ?_; (repeat (first | exact Ent.refl | exact Ent.nil | apply Ent.pick | apply Ent.drop)); done), ?_⟩)
      repeat (first | rintro _ _ ⟨rfl, rfl⟩ | refine exq fun _ => ?_ | intro _ | refine go ?_ | refine dr_Msh8_118 ?_ | refine drq ?_)
      rw [show (l.length : Int) - 1 = ((l.length - 1 : Nat) : Int) by omega]
      repeat (first | rintro _ _ ⟨rfl, rfl⟩ | refine exq fun _ => ?_ | intro _ | refine go ?_ | refine dr_Msh8_118 ?_ | refine drq ?_)
      rw [cut_low, Int.toNat_natCast]
      have hs : splice [Value.int .i64 room, Value.slice (some ⟨g, 0, none⟩) l.length c] 1 (cellsOf (Value.slice (some ⟨g, 0, none⟩) (l.length - 1) c)) = [Value.int .i64 room, Value.slice (some ⟨g, 0, none⟩) (l.length - 1) c] := rfl
      rw [hs]
      (apply WE_ret rfl rfl (by (repeat (first | exact ResOk.nil | (apply ResOk.tmp; rfl) | (apply resOk_cell; rfl; exact inferInstance; rfl; rfl)))))
      · exact ⟨rfl, rfl⟩
      · refine Ent.trans (shift_fin hi q1 q2 k1 k2 k3) ?_
        apply RL_in
        · exact entu0
        · rw [List.length_eraseIdx, if_pos hi]
        · rw [flat_take (enc := msc') (n := 15) (fun _ => rfl), flat_drop (enc := msc') (n := 15) (fun _ => rfl), ← flat_append, ← List.eraseIdx_eq_take_drop_succ]
        · have := List.length_eraseIdx_le l i
          omega
end Go.Sx
