/- What arrays of ways do. The program's. My own work. -/
import Derived.Test.YtcjagmphobdbbaaArr0
import Derived.Test.YtcjagmphobdbbaaSplit
namespace Go.Sx
open Go Go.Proofs
set_option linter.unusedVariables false
set_option linter.unusedSectionVars false
set_option linter.unusedSimpArgs false

/-! ## Told of lists -/
def thereB (w : Way) : Bool := decide (w.st ≠ 0) || w.lk
def pHas (line : Int) (w : Way) : Bool := thereB w && decide (w.line = line)
def arrF (c : Cfg) (line : Int) : Nat := (lineS c line).toNat * c.ways.toNat
def waysOf (c : Cfg) (l : List Way) (line : Int) : List Way := if okLine c line then (l.drop (arrF c line)).take c.ways.toNat else []
def arrP (c : Cfg) (l : List Way) (line : Int) : Int := indexBy (pHas line) (waysOf c l line)
def arrFree (c : Cfg) (l : List Way) (line : Int) : Int := indexBy (fun w => !thereB w) (waysOf c l line)
def findW (c : Cfg) (l : List Way) (line : Int) : Way := if arrP c l line < 0 then .zero else (waysOf c l line).getD (arrP c l line).toNat .zero
def findI (c : Cfg) (l : List Way) (line : Int) : Int := if arrP c l line < 0 then 0 else arrP c l line
def findB (c : Cfg) (l : List Way) (line : Int) : Bool := !decide (arrP c l line < 0)
def oddW (c : Cfg) (w : Words) : Bool := decide (0 ≤ indexBy (fun n => !decide (n = 0)) (w.list.drop c.words.toNat))
def layE (c : Cfg) (l : List Way) (line way : Int) : Int := if 0 ≤ way ∧ way < (waysOf c l line).length then (if arrP c l line = -1 then (if thereB ((waysOf c l line).getD way.toNat .zero) then 4 else 0) else 6) else 1
def layL (c : Cfg) (l : List Way) (line way : Int) : List Way := if layE c l line way = 0 then l.set (arrF c line + way.toNat) ⟨0, line, .zero, true⟩ else l
def setE (c : Cfg) (l : List Way) (line st : Int) (w : Words) : Int := if arrP c l line = -1 then 5 else if st < 0 ∨ st > 4 ∨ oddW c w = true then 1 else 0
def setL (c : Cfg) (l : List Way) (line st : Int) (w : Words) : List Way := if setE c l line st w = 0 then l.set (arrF c line + (arrP c l line).toNat) { findW c l line with st := st, words := if st = 0 then .zero else w } else l
def lockE (c : Cfg) (l : List Way) (line : Int) : Int := if arrP c l line = -1 then 5 else 0
def lockL (c : Cfg) (l : List Way) (line : Int) (lk : Bool) : List Way := if lockE c l line = 0 then l.set (arrF c line + (arrP c l line).toNat) { findW c l line with lk := lk } else l
def inWay (c : Cfg) (s k : Int) : Bool := decide (0 ≤ s ∧ s < c.sets ∧ 0 ≤ k ∧ k < c.ways)
def atW (c : Cfg) (l : List Way) (s k : Int) : Way := if inWay c s k then l.getD (s.toNat * c.ways.toNat + k.toNat) .zero else .zero

/-- A slice in a block, not to be looked into. -/
def wsl (g o n c : Nat) : Value := .slice (some ⟨g, o, none⟩) n c
theorem pb_wsl {g o n c : Nat} : pb (wsl g o n c) = g := rfl
theorem po_wsl {g o n c : Nat} : po (wsl g o n c) = o := rfl

/-! ## An array in memory -/
def ArrB (T TW : TypeId) (b : Nat) (c : Cfg) (l : List Way) : HP :=
  Ex fun g : Nat => [Cells b T (c.cells ++ [.slice (some ⟨g, 0, none⟩) l.length l.length]), Cells g TW (flat wyc l), Fact (checkB c = true ∧ (l.length : Int) = c.sets * c.ways)]
theorem arr_in {T TW : TypeId} {b g n : Nat} {c : Cfg} {l : List Way} {xs : List Value} {L M : List HP} (h : Ent L (Cells b T (c.cells ++ [.slice (some ⟨g, 0, none⟩) n n]) :: Cells g TW xs :: M)) (hn : n = l.length) (hx : xs = flat wyc l)
    (hc : checkB c = true) (hl : (l.length : Int) = c.sets * c.ways) : Ent L (ArrB T TW b c l :: M) := by
  subst hn hx
  refine Ent.trans h (Ent.trans ?_ (ex_intro (p := fun g : Nat => [Cells b T (c.cells ++ [.slice (some ⟨g, 0, none⟩) l.length l.length]), Cells g TW (flat wyc l), Fact (checkB c = true ∧ (l.length : Int) = c.sets * c.ways)]) g))
  exact Ent.cons (Ent.cons (star_fact_mk ⟨hc, hl⟩))
theorem arr_sat {T TW : TypeId} {b : Nat} {c : Cfg} {l : List Way} {L : List HP} {w : World} (h : Sat (ArrB T TW b c l :: L) w) : ∃ g, (checkB c = true ∧ (l.length : Int) = c.sets * c.ways) ∧ Sat (Cells b T (c.cells ++ [.slice (some ⟨g, 0, none⟩) l.length l.length]) :: Cells g TW (flat wyc l) :: L) w := by
  obtain ⟨g, hx⟩ := star_ex h
  simp only [app] at hx
  exact ⟨g, fact_of (star_drop (star_drop hx)), (Ent.cons (Ent.cons (Ent.drop Ent.refl))) _ hx⟩
section
variable {T TW : TypeId} {b : Nat} {c : Cfg} {l : List Way} {P : Program} {N : Nat} {env : Env} {L : List HP} {Q : Exit → Act → World → Prop}
theorem arr_open {co : Code} (h : ∀ g, (checkB c = true ∧ (l.length : Int) = c.sets * c.ways) → WC P N co env (Cells b T (c.cells ++ [.slice (some ⟨g, 0, none⟩) l.length l.length]) :: Cells g TW (flat wyc l) :: L) Q) : WC P N co env (ArrB T TW b c l :: L) Q := by
  intro a w ha hw
  obtain ⟨g, hf, hx⟩ := arr_sat hw
  exact h g hf a w ha hx
theorem arr_openO {all : Array Oper} {o : List Oper} (h : ∀ g, (checkB c = true ∧ (l.length : Int) = c.sets * c.ways) → WO P N all o env (Cells b T (c.cells ++ [.slice (some ⟨g, 0, none⟩) l.length l.length]) :: Cells g TW (flat wyc l) :: L) Q) : WO P N all o env (ArrB T TW b c l :: L) Q := by
  intro a w ha hw
  obtain ⟨g, hf, hx⟩ := arr_sat hw
  exact h g hf a w ha hx
end

/-! ## Numbers -/
theorem set_room {s W S : Nat} (h : s < S) : s * W + W ≤ S * W := by
  have := Nat.mul_le_mul_right W (show s + 1 ≤ S by omega)
  rw [Nat.succ_mul] at this; exact this
theorem arr_nums {c : Cfg} {n : Nat} (hc : checkB c = true) (hn : (n : Int) = c.sets * c.ways) : n = c.sets.toNat * c.ways.toNat ∧ 1 ≤ c.ways ∧ c.ways ≤ 8 ∧ 1 ≤ c.sets ∧ c.sets ≤ 64 ∧ n ≤ 512 := by
  obtain ⟨_, _, ⟨k, hk, e⟩, _, _, h1, h2⟩ := check_facts hc
  have := pow_bd hk
  have h3 : 1 ≤ c.sets ∧ c.sets ≤ 64 := by rw [e]; exact ⟨this.1, by have := this.2; simpa using this⟩
  have e1 : ((c.sets.toNat * c.ways.toNat : Nat) : Int) = c.sets * c.ways := by
    rw [Int.natCast_mul, Int.toNat_of_nonneg (by omega), Int.toNat_of_nonneg (by omega)]
  have e2 : n = c.sets.toNat * c.ways.toNat := by omega
  have e3 : c.sets.toNat * c.ways.toNat ≤ 64 * 8 := Nat.mul_le_mul (by omega) (by omega)
  exact ⟨e2, h1, h2, h3.1, h3.2, by omega⟩
theorem ok_set' {c : Cfg} {line : Int} (h : okLine c line = true) : 0 ≤ lineS c line ∧ lineS c line < c.sets ∧ lineS c line = line % c.sets ∧ 0 ≤ line ∧ line < c.lines := by
  obtain ⟨hc, h0, h1⟩ := line_big h
  obtain ⟨_, _, ⟨k, hk, e⟩, _⟩ := check_facts hc
  have h2 := (pow_bd hk).1
  have e2 : lineS c line = line % c.sets := if_pos h
  rw [e2]
  rw [e]
  exact ⟨Int.emod_nonneg _ (by omega), Int.emod_lt_of_pos _ (by omega), rfl, h0, h1⟩
theorem ways_len {c : Cfg} {l : List Way} {line : Int} (hc : checkB c = true) (hn : (l.length : Int) = c.sets * c.ways) (h : okLine c line = true) : (waysOf c l line).length = c.ways.toNat ∧ arrF c line + c.ways.toNat ≤ l.length := by
  obtain ⟨e, h1, h2, h3, h4, h5⟩ := arr_nums hc hn
  obtain ⟨s0, s1, _⟩ := ok_set' h
  have hr := set_room (s := (lineS c line).toNat) (W := c.ways.toNat) (S := c.sets.toNat) (by omega)
  have : arrF c line + c.ways.toNat ≤ l.length := by rw [e]; exact hr
  refine ⟨?_, this⟩
  unfold waysOf; rw [if_pos h, List.length_take, List.length_drop]; omega
theorem rd_ways {g T : Nat} {l : List Way} {f k cap : Nat} (hf : f + k ≤ l.length) (L : List HP) : RdL (Cells g T (flat wyc l) :: L) 11 (wsl g (f * 11) k cap) ((l.drop f).take k).length (flat wyc ((l.drop f).take k)) := by
  have hx : ((flat wyc l).drop (f * 11)).take (k * 11) = flat wyc ((l.drop f).take k) := by
    rw [flat_drop (enc := wyc) (n := 11) (fun _ => rfl), flat_take (enc := wyc) (n := 11) (fun _ => rfl)]
  have hl : (flat wyc l).length = l.length * 11 := flat_length (enc := wyc) (n := 11) (fun _ => rfl) l
  have kk := rd_cells (L := Cells g T (flat wyc l) :: L) (o := f * 11) (m := k) (c := cap) (sz := 11) (b := g) inferInstance (by rw [hl, ← Nat.add_mul]; exact Nat.mul_le_mul_right _ hf) (by
    rw [hx, List.all_eq_true]
    intro v hv
    obtain ⟨w, _, hw⟩ := List.mem_flatMap.1 hv
    simp [wyc] at hw
    rcases hw with h | h | h | h | h | h | h | h | h | h | h <;> (rw [h]; rfl))
  rw [hx] at kk
  have e : ((l.drop f).take k).length = k := by rw [List.length_take, List.length_drop]; omega
  rw [e]; exact kk
attribute [irreducible] wsl
set_option maxRecDepth 100000
set_option maxHeartbeats 4000000
attribute [local irreducible] Go.Exit.then Go.Exit.inBlock Go.Code.wp WC WO WE WQ V LoopQ FnQ Sat Star band bor IntKind.wrap WR Code.rounds WT KO
abbrev ArrP := ArrB 164 97
abbrev acs (b g : Nat) (c : Cfg) (l : List Way) : HP := Cells b 164 (c.cells ++ [.slice (some ⟨g, 0, none⟩) l.length l.length])

theorem arr_New_no {F : List HP} {c : Cfg} (hc : c.wf) (h : checkB c = false) : FnF Try.prog 43 [c.val] [] F (fun r L' => r = .tuple [.pointer none, .int .i64 1].toArray ∧ L' = []) := by
  have hC := fun F => shape_Check (F := F) hc
  simp only [checkE, h, Bool.false_eq_true, if_false] at hC
  refine FnF.mk' Try.func43 rfl rfl Try.ntmps43 rfl ?_
  repeat (first | rintro _ _ ⟨rfl, rfl⟩ | rintro _ _ ⟨_, rfl, rfl⟩ | rintro _ _ ⟨_, _, rfl, rfl⟩ | intro _ | refine go ?_ | (refine is_draw ?_; apply WC_mix (id := 4) true _ (pl := .p 1 <| .p 3 <| .r 0 <| .r 2 <| .r 4 <| .p 5 <| .e true [(6, .p 7 <| .e true [(8, .p 9 <| .p 10 <| .done)])]); exact mixed; kernel_rfl; kernel_rfl; exact Ent.refl) | (refine is_draw ?_; refine WC_draw mixed (by kernel_rfl) ?_) | refine cal @hC ?_)
  (apply WE_ret rfl rfl (by (repeat (first | exact ResOk.nil | (apply ResOk.tmp; rfl) | (apply resOk_cell; rfl; exact inferInstance; rfl; rfl)))); (first | exact ⟨rfl, rfl⟩ | exact ⟨congrArg Value.bool (by decide), rfl⟩ | exact ⟨_, rfl, rfl⟩ | exact ⟨_, _, rfl, rfl⟩ | exact ⟨by first | (simp []; done) | (simp [] <;> omega), rfl⟩); (repeat (first | exact Ent.refl | exact Ent.nil | apply Ent.pick | apply Ent.drop)))
theorem arr_there {F : List HP} {w : Way} : FnF Try.prog 98 [wyv w] [] F (fun r L' => r = .bool (thereB w) ∧ L' = []) := by
  refine FnF.mk' Try.func98 rfl rfl Try.ntmps98 rfl ?_
  by_cases h : w.st = 0
  · repeat (first | rintro _ _ ⟨rfl, rfl⟩ | rintro _ _ ⟨_, rfl, rfl⟩ | rintro _ _ ⟨_, _, rfl, rfl⟩ | intro _ | refine go ?_ | (refine is_draw ?_; refine WC_draw mixed (by kernel_rfl) ?_))
    (apply WE_ret rfl rfl (by (repeat (first | exact ResOk.nil | (apply ResOk.tmp; rfl) | (apply resOk_cell; rfl; exact inferInstance; rfl; rfl)))); (first | exact ⟨rfl, rfl⟩ | exact ⟨congrArg Value.bool (by decide), rfl⟩ | exact ⟨_, rfl, rfl⟩ | exact ⟨_, _, rfl, rfl⟩ | exact ⟨by first | (simp [thereB, h]; done) | (simp [thereB, h] <;> omega), rfl⟩); (repeat (first | exact Ent.refl | exact Ent.nil | apply Ent.pick | apply Ent.drop)))
  · repeat (first | rintro _ _ ⟨rfl, rfl⟩ | rintro _ _ ⟨_, rfl, rfl⟩ | rintro _ _ ⟨_, _, rfl, rfl⟩ | intro _ | refine go ?_ | (refine is_draw ?_; refine WC_draw mixed (by kernel_rfl) ?_))
    (apply WE_ret rfl rfl (by (repeat (first | exact ResOk.nil | (apply ResOk.tmp; rfl) | (apply resOk_cell; rfl; exact inferInstance; rfl; rfl)))); (first | exact ⟨rfl, rfl⟩ | exact ⟨congrArg Value.bool (by decide), rfl⟩ | exact ⟨_, rfl, rfl⟩ | exact ⟨_, _, rfl, rfl⟩ | exact ⟨by first | (simp [thereB, h]; done) | (simp [thereB, h] <;> omega), rfl⟩); (repeat (first | exact Ent.refl | exact Ent.nil | apply Ent.pick | apply Ent.drop)))
theorem arr_place1 {F : List HP} {b : Nat} {line : Int} {T : TypeId} {C : List Value → List HP} {w : Way} (k : CellsAt b F T [.int .i64 line] C) :
    FnF Try.prog 125 [wyv w, .pointer (some ⟨b, 0, none⟩)] [] F (fun r L' => r = .bool (pHas line w) ∧ L' = []) := by
  have hT := fun F => arr_there (F := F) (w := w)
  refine FnF.mk' Try.func125 rfl rfl Try.ntmps125 rfl ?_
  cases h : thereB w with
  | true =>
    rw [h] at hT
    repeat (first | rintro _ _ ⟨rfl, rfl⟩ | rintro _ _ ⟨_, rfl, rfl⟩ | rintro _ _ ⟨_, _, rfl, rfl⟩ | intro _ | refine go ?_ | (refine is_draw ?_; refine WC_draw mixed (by kernel_rfl) ?_) | refine cal @hT ?_)
    (apply WE_ret rfl rfl (by (repeat (first | exact ResOk.nil | (apply ResOk.tmp; rfl) | (apply resOk_cell; rfl; exact inferInstance; rfl; rfl)))); (first | exact ⟨rfl, rfl⟩ | exact ⟨congrArg Value.bool (by decide), rfl⟩ | exact ⟨_, rfl, rfl⟩ | exact ⟨_, _, rfl, rfl⟩ | exact ⟨by first | (simp [pHas, h]; done) | (simp [pHas, h] <;> omega), rfl⟩); (repeat (first | exact Ent.refl | exact Ent.nil | apply Ent.pick | apply Ent.drop)))
  | false =>
    rw [h] at hT
    repeat (first | rintro _ _ ⟨rfl, rfl⟩ | rintro _ _ ⟨_, rfl, rfl⟩ | rintro _ _ ⟨_, _, rfl, rfl⟩ | intro _ | refine go ?_ | (refine is_draw ?_; refine WC_draw mixed (by kernel_rfl) ?_) | refine cal @hT ?_)
    (apply WE_ret rfl rfl (by (repeat (first | exact ResOk.nil | (apply ResOk.tmp; rfl) | (apply resOk_cell; rfl; exact inferInstance; rfl; rfl)))); (first | exact ⟨rfl, rfl⟩ | exact ⟨congrArg Value.bool (by decide), rfl⟩ | exact ⟨_, rfl, rfl⟩ | exact ⟨_, _, rfl, rfl⟩ | exact ⟨by first | (simp [pHas, h]; done) | (simp [pHas, h] <;> omega), rfl⟩); (repeat (first | exact Ent.refl | exact Ent.nil | apply Ent.pick | apply Ent.drop)))
theorem arr_free1 {F : List HP} {w : Way} : FnF Try.prog 97 [wyv w] [] F (fun r L' => r = .bool (!thereB w) ∧ L' = []) := by
  refine FnF.mk' Try.func97 rfl rfl Try.ntmps97 rfl ?_
  repeat (first | rintro _ _ ⟨rfl, rfl⟩ | rintro _ _ ⟨_, rfl, rfl⟩ | rintro _ _ ⟨_, _, rfl, rfl⟩ | intro _ | refine go ?_ | (refine is_draw ?_; refine WC_draw mixed (by kernel_rfl) ?_) | refine cal @arr_there ?_)
  (apply WE_ret rfl rfl (by (repeat (first | exact ResOk.nil | (apply ResOk.tmp; rfl) | (apply resOk_cell; rfl; exact inferInstance; rfl; rfl)))); (first | exact ⟨rfl, rfl⟩ | exact ⟨congrArg Value.bool (by decide), rfl⟩ | exact ⟨_, rfl, rfl⟩ | exact ⟨_, _, rfl, rfl⟩ | exact ⟨by first | (simp []; done) | (simp [] <;> omega), rfl⟩); (repeat (first | exact Ent.refl | exact Ent.nil | apply Ent.pick | apply Ent.drop)))
theorem arr_ways {F : List HP} {b g : Nat} {c : Cfg} {l : List Way} {s : Int} (hc : checkB c = true) (hn : (l.length : Int) = c.sets * c.ways) (h0 : 0 ≤ s) (h1 : s < c.sets) :
    FnF Try.prog 100 [.pointer (some ⟨b, 0, none⟩), .int .i64 s] [acs b g c l] F (fun r L' => r = wsl g (s.toNat * c.ways.toNat * 11) c.ways.toNat c.ways.toNat ∧ L' = [acs b g c l]) := by
  obtain ⟨e, h2, h3, h4, h5, h6⟩ := arr_nums hc hn
  have hr := set_room (s := s.toNat) (W := c.ways.toNat) (S := c.sets.toNat) (by omega)
  have hz : s * c.ways = ((s.toNat * c.ways.toNat : Nat) : Int) := by rw [Int.natCast_mul, Int.toNat_of_nonneg h0, Int.toNat_of_nonneg (by omega)]
  rw [← e] at hr
  generalize s.toNat * c.ways.toNat = z at *
  refine FnF.mk' Try.func100 rfl rfl Try.ntmps100 rfl ?_
  repeat (first | rintro _ _ ⟨rfl, rfl⟩ | rintro _ _ ⟨_, rfl, rfl⟩ | rintro _ _ ⟨_, _, rfl, rfl⟩ | intro _ | refine go ?_ | (refine is_draw ?_; refine WC_draw mixed (by kernel_rfl) ?_))
  (apply WE_ret rfl rfl (by (repeat (first | exact ResOk.nil | (apply ResOk.tmp; rfl) | (apply resOk_cell; rfl; exact inferInstance; rfl; rfl)))))
  · refine ⟨?_, rfl⟩
    rw [cut_at (by omega)]
    have e1 : (s * c.ways).toNat = z := by omega
    have e2 : (s * c.ways + c.ways).toNat - (s * c.ways).toNat = c.ways.toNat := by omega
    rw [e2, e1, Nat.zero_add]
    unfold wsl; rfl
  · (repeat (first | (with_reducible exact Ent.refl) | exact Ent.nil | (apply ent_pickE; (focus ((repeat (first | (with_reducible exact pk_here) | (apply pk_there))); done))) | apply Ent.drop))
theorem arr_of {F : List HP} {b g : Nat} {c : Cfg} {l : List Way} {line : Int} (hw : c.wf) (hli : I64 line) (hc : checkB c = true) (hn : (l.length : Int) = c.sets * c.ways) (h : okLine c line = true) :
    FnF Try.prog 95 [.pointer (some ⟨b, 0, none⟩), .int .i64 line] [acs b g c l] F (fun r L' => r = wsl g (arrF c line * 11) c.ways.toNat c.ways.toNat ∧ L' = [acs b g c l]) := by
  have hL := fun F => split_Line (F := F) (c := c) (a := line) hw hli
  obtain ⟨s0, s1, _⟩ := ok_set' h
  have hW := fun F => arr_ways (F := F) (b := b) (g := g) (c := c) (l := l) (s := lineS c line) hc hn s0 s1
  have e0 : lineE c line = 0 := if_pos h
  simp only [e0] at hL
  refine FnF.mk' Try.func95 rfl rfl Try.ntmps95 rfl ?_
  repeat (first | rintro _ _ ⟨rfl, rfl⟩ | rintro _ _ ⟨_, rfl, rfl⟩ | rintro _ _ ⟨_, _, rfl, rfl⟩ | intro _ | refine go ?_ | (refine is_draw ?_; refine WC_draw mixed (by kernel_rfl) ?_) | refine cal @hL ?_ | refine cal @hW ?_)
  (apply WE_ret rfl rfl (by (repeat (first | exact ResOk.nil | (apply ResOk.tmp; rfl) | (apply resOk_cell; rfl; exact inferInstance; rfl; rfl)))); (first | exact ⟨rfl, rfl⟩ | exact ⟨congrArg Value.bool (by decide), rfl⟩ | exact ⟨_, rfl, rfl⟩ | exact ⟨_, _, rfl, rfl⟩ | exact ⟨by first | (simp [arrF]; done) | (simp [arrF] <;> omega), rfl⟩); (repeat (first | exact Ent.refl | exact Ent.nil | apply Ent.pick | apply Ent.drop)))
theorem arr_of_no {F : List HP} {b g : Nat} {c : Cfg} {l : List Way} {line : Int} (hw : c.wf) (hli : I64 line) (h : okLine c line = false) :
    FnF Try.prog 95 [.pointer (some ⟨b, 0, none⟩), .int .i64 line] [acs b g c l] F (fun r L' => r = .slice none 0 0 ∧ L' = [acs b g c l]) := by
  have hL := fun F => split_Line (F := F) (c := c) (a := line) hw hli
  have e0 : lineE c line = 1 := by unfold lineE; rw [h]; rfl
  simp only [e0] at hL
  refine FnF.mk' Try.func95 rfl rfl Try.ntmps95 rfl ?_
  repeat (first | rintro _ _ ⟨rfl, rfl⟩ | rintro _ _ ⟨_, rfl, rfl⟩ | rintro _ _ ⟨_, _, rfl, rfl⟩ | intro _ | refine go ?_ | (refine is_draw ?_; refine WC_draw mixed (by kernel_rfl) ?_) | refine cal @hL ?_)
  (apply WE_ret rfl rfl (by (repeat (first | exact ResOk.nil | (apply ResOk.tmp; rfl) | (apply resOk_cell; rfl; exact inferInstance; rfl; rfl)))); (first | exact ⟨rfl, rfl⟩ | exact ⟨congrArg Value.bool (by decide), rfl⟩ | exact ⟨_, rfl, rfl⟩ | exact ⟨_, _, rfl, rfl⟩ | exact ⟨by first | (simp []; done) | (simp [] <;> omega), rfl⟩); (repeat (first | exact Ent.refl | exact Ent.nil | apply Ent.pick | apply Ent.drop)))
theorem waysOf_no {c : Cfg} {l : List Way} {line : Int} (h : okLine c line = false) : waysOf c l line = [] := by unfold waysOf; rw [h]; rfl
theorem waysOf_ok {c : Cfg} {l : List Way} {line : Int} (h : okLine c line = true) : waysOf c l line = (l.drop (arrF c line)).take c.ways.toNat := if_pos h
theorem arr_placeO {F : List HP} {b g : Nat} {c : Cfg} {l : List Way} {line : Int} (hw : c.wf) (hli : I64 line) (hc : checkB c = true) (hn : (l.length : Int) = c.sets * c.ways) :
    FnF Try.prog 94 [.pointer (some ⟨b, 0, none⟩), .int .i64 line] [acs b g c l, Cells g 97 (flat wyc l)] F (fun r L' => r = .int .i64 (arrP c l line) ∧ L' = [acs b g c l, Cells g 97 (flat wyc l)]) := by
  cases h : okLine c line with
  | true =>
    obtain ⟨k1, k2⟩ := ways_len hc hn h
    have hO := fun F => arr_of (F := F) (b := b) (g := g) hw hli hc hn h
    have kr := rd_ways (g := g) (T := 97) (cap := c.ways.toNat) k2
    rw [← waysOf_ok h, k1] at kr
    haveI := kr
    have hb : c.ways.toNat ≤ 512 := by have := (arr_nums hc hn).2.2.2.2.2; omega
    have hI := fun F (bl : Nat) (C : List Value → List HP) (k1' : CellsAt bl F 3 [.int .i64 line] C) (k : RdL F 11 (wsl g (arrF c line * 11) c.ways.toNat c.ways.toNat) c.ways.toNat (flat wyc (waysOf c l line))) =>
      sl_IndexFunc_way (F := F) (v := wsl g (arrF c line * 11) c.ways.toNat c.ways.toNat) (l := waysOf c l line) (fk := 125) (first := []) (cap := [.pointer (some ⟨bl, 0, none⟩)]) (p := pHas line) (by rw [k1]; exact k) (by omega) (fun x _ => arr_place1 k1')
    refine FnF.mk' Try.func94 rfl rfl Try.ntmps94 rfl ?_
    repeat (first | rintro _ _ ⟨rfl, rfl⟩ | rintro _ _ ⟨_, rfl, rfl⟩ | rintro _ _ ⟨_, _, rfl, rfl⟩ | intro _ | refine go ?_ | (refine is_draw ?_; refine WC_draw mixed (by kernel_rfl) ?_) | refine cal @hO ?_ | refine cal @hI ?_)
    (apply WE_ret rfl rfl (by (repeat (first | exact ResOk.nil | (apply ResOk.tmp; rfl) | (apply resOk_cell; rfl; exact inferInstance; rfl; rfl)))); (first | exact ⟨rfl, rfl⟩ | exact ⟨congrArg Value.bool (by decide), rfl⟩ | exact ⟨_, rfl, rfl⟩ | exact ⟨_, _, rfl, rfl⟩ | exact ⟨by first | (simp [arrP]; done) | (simp [arrP] <;> omega), rfl⟩); (repeat (first | exact Ent.refl | exact Ent.nil | apply Ent.pick | apply Ent.drop)))
  | false =>
    have hO := fun F => arr_of_no (F := F) (b := b) (g := g) (l := l) hw hli h
    have hI := fun F (bl : Nat) (C : List Value → List HP) (k1' : CellsAt bl F 3 [.int .i64 line] C) =>
      sl_IndexFunc_way (F := F) (v := .slice none 0 0) (l := []) (fk := 125) (first := []) (cap := [.pointer (some ⟨bl, 0, none⟩)]) (p := pHas line) rd_empty (by simp) (fun x _ => arr_place1 k1')
    refine FnF.mk' Try.func94 rfl rfl Try.ntmps94 rfl ?_
    repeat (first | rintro _ _ ⟨rfl, rfl⟩ | rintro _ _ ⟨_, rfl, rfl⟩ | rintro _ _ ⟨_, _, rfl, rfl⟩ | intro _ | refine go ?_ | (refine is_draw ?_; refine WC_draw mixed (by kernel_rfl) ?_) | refine cal @hO ?_ | refine cal @hI ?_)
    (apply WE_ret rfl rfl (by (repeat (first | exact ResOk.nil | (apply ResOk.tmp; rfl) | (apply resOk_cell; rfl; exact inferInstance; rfl; rfl)))); (first | exact ⟨rfl, rfl⟩ | exact ⟨congrArg Value.bool (by decide), rfl⟩ | exact ⟨_, rfl, rfl⟩ | exact ⟨_, _, rfl, rfl⟩ | exact ⟨by first | (simp [arrP, waysOf_no h]; done) | (simp [arrP, waysOf_no h] <;> omega), rfl⟩); (repeat (first | exact Ent.refl | exact Ent.nil | apply Ent.pick | apply Ent.drop)))
end Go.Sx
