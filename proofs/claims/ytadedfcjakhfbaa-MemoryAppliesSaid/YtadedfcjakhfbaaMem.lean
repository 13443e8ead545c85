/- What package memory does. My own work. -/
import Derived.Test.YtadedfcjakhfbaaMay
import Derived.Test.YtadedfcjakhfbaaSplit
import Derived.Test.YtadedfcjakhfbaaMk
namespace Go.Sx
open Go Go.Proofs
set_option linter.unusedVariables false
set_option linter.unusedSimpArgs false

theorem flat_ic_get {ms : List Int} {i : Nat} (hi : i < ms.length) : (flat ic ms)[i]? = some (.int .i64 ms[i]) := by
  induction ms generalizing i with
  | nil => simp at hi
  | cons a r ih =>
    cases i with
    | zero => simp [flat]
    | succ i => simpa [flat] using ih (i := i) (by simpa using hi)
theorem flat_ic_len (ms : List Int) : (flat ic ms).length = ms.length := by
  have := flat_length (enc := ic) (n := 1) (fun _ => rfl) ms
  rwa [Nat.mul_one] at this
theorem splice_ic {ms : List Int} {i : Nat} (hi : i < ms.length) (v : Int) : splice (flat ic ms) i [.int .i64 v] = flat ic (ms.set i v) := by
  have := splice_flatJ0 (enc := ic) (n := 1) (fun _ => rfl) ms i hi (cs := [.int .i64 v]) (x := v) (by simp) (by simp [splice])
  rwa [Nat.mul_one] at this

/-! ## A memory -/
def MemB (b : Nat) (c : Cfg) (ms : List Int) : HP :=
  Ex fun g : Nat => [Cells b 182 (c.cells ++ [.slice (some ⟨g, 0, none⟩) ms.length ms.length]), Cells g 3 (flat ic ms), Fact (checkB c = true ∧ (ms.length : Int) = c.words * c.lines ∧ ms.length ≤ 8192)]
theorem mem_in {b g n : Nat} {c : Cfg} {ms : List Int} {xs : List Value} {L M : List HP}
    (h : Ent L (Cells b 182 (c.cells ++ [.slice (some ⟨g, 0, none⟩) n n]) :: Cells g 3 xs :: M)) (hn : n = ms.length) (hx : xs = flat ic ms) (hl : checkB c = true ∧ (ms.length : Int) = c.words * c.lines ∧ ms.length ≤ 8192) : Ent L (MemB b c ms :: M) := by
  subst hn hx
  refine Ent.trans h (Ent.trans ?_ (ex_intro (p := fun g : Nat => [Cells b 182 (c.cells ++ [.slice (some ⟨g, 0, none⟩) ms.length ms.length]), Cells g 3 (flat ic ms), Fact (checkB c = true ∧ (ms.length : Int) = c.words * c.lines ∧ ms.length ≤ 8192)]) g))
  exact Ent.cons (Ent.cons (star_fact_mk hl))
theorem mem_sat {b : Nat} {c : Cfg} {ms : List Int} {L : List HP} {w : World} (h : Sat (MemB b c ms :: L) w) : (checkB c = true ∧ (ms.length : Int) = c.words * c.lines ∧ ms.length ≤ 8192) ∧
    ∃ g, Sat (Cells b 182 (c.cells ++ [.slice (some ⟨g, 0, none⟩) ms.length ms.length]) :: Cells g 3 (flat ic ms) :: L) w := by
  obtain ⟨g, hx⟩ := star_ex h
  simp only [app] at hx
  have hf := fact_of (star_drop (star_drop hx))
  exact ⟨hf, g, (Ent.cons (Ent.cons (Ent.drop Ent.refl))) _ hx⟩
theorem mem_open {b : Nat} {c0 : Cfg} {ms : List Int} {P : Program} {N : Nat} {c : Code} {env : Env} {L : List HP} {Q : Exit → Act → World → Prop}
    (h : ∀ g, (checkB c0 = true ∧ (ms.length : Int) = c0.words * c0.lines ∧ ms.length ≤ 8192) → WC P N c env (Cells b 182 (c0.cells ++ [.slice (some ⟨g, 0, none⟩) ms.length ms.length]) :: Cells g 3 (flat ic ms) :: L) Q) : WC P N c env (MemB b c0 ms :: L) Q := by
  intro a w ha hw
  obtain ⟨hf, g, hx⟩ := mem_sat hw
  exact h g hf a w ha hx
theorem mem_openO {b : Nat} {c0 : Cfg} {ms : List Int} {P : Program} {N : Nat} {all : Array Oper} {c : List Oper} {env : Env} {L : List HP} {Q : Exit → Act → World → Prop}
    (h : ∀ g, (checkB c0 = true ∧ (ms.length : Int) = c0.words * c0.lines ∧ ms.length ≤ 8192) → WO P N all c env (Cells b 182 (c0.cells ++ [.slice (some ⟨g, 0, none⟩) ms.length ms.length]) :: Cells g 3 (flat ic ms) :: L) Q) : WO P N all c env (MemB b c0 ms :: L) Q := by
  intro a w ha hw
  obtain ⟨hf, g, hx⟩ := mem_sat hw
  exact h g hf a w ha hx
set_option maxRecDepth 100000
set_option maxHeartbeats 4000000
attribute [local irreducible] Go.Exit.then Go.Exit.inBlock Go.Code.wp WC WO WE WQ V LoopQ FnQ Sat Star band bor IntKind.wrap WR Code.rounds WT KO
def touchL (ms : List Int) (i : Nat) (x : Op3) : List Int := if x.kind = 2 ∨ x.kind = 3 then ms.set i x.value else ms
def touchE (ms : List Int) (i : Nat) (x : Op3) : Int := if x.kind = 2 then 0 else ms.getD i 0
theorem mem_touch {F : List HP} {g T i : Nat} {ms : List Int} {x : Op3} (hi : i < ms.length) : FnF Try.prog 115 [.pointer (some ⟨g, i, none⟩), ov x] [Cells g T (flat ic ms)] F (fun r L' => r = .int .i64 (touchE ms i x) ∧ L' = [Cells g T (flat ic (touchL ms i x))]) := by
  have hg := flat_ic_get hi
  refine FnF.mk' Try.func115 rfl rfl Try.ntmps115 rfl ?_
  repeat (first | rintro _ _ ⟨rfl, rfl⟩ | rintro _ _ ⟨_, rfl, rfl⟩ | rintro _ _ ⟨_, _, rfl, rfl⟩ | intro _ | refine go ?_ | (refine is_draw ?_; refine WC_draw mixed (by kernel_rfl) ?_))
  have hle : Nat.ble (i + 1) (flat ic ms).length = true := by rw [flat_ic_len]; exact Nat.ble_eq_true_of_le hi
  have hgd : ms.getD i 0 = ms[i] := by simp [hi]
  by_cases h2 : x.kind = 2
  · repeat (first | rintro _ _ ⟨rfl, rfl⟩ | rintro _ _ ⟨_, rfl, rfl⟩ | rintro _ _ ⟨_, _, rfl, rfl⟩ | intro _ | refine go ?_ | (refine is_draw ?_; refine WC_draw mixed (by kernel_rfl) ?_))
    refine WO_k rfl (K_store (cs := [.int .i64 x.value]) rfl rfl inferInstance rfl rfl rfl hle) (same_intro ?_)
    rw [splice_ic hi]
    repeat (first | rintro _ _ ⟨rfl, rfl⟩ | rintro _ _ ⟨_, rfl, rfl⟩ | rintro _ _ ⟨_, _, rfl, rfl⟩ | intro _ | refine go ?_ | (refine is_draw ?_; refine WC_draw mixed (by kernel_rfl) ?_))
    (apply WE_ret rfl rfl (by (repeat (first | exact ResOk.nil | (apply ResOk.tmp; rfl) | (apply resOk_cell; rfl; exact inferInstance; rfl; rfl)))))
    · exact ⟨by simp [touchE, h2], rfl⟩
    · simp only [touchL, h2, true_or, if_true]; (repeat (first | (with_reducible exact Ent.refl) | exact Ent.nil | (apply ent_pickE; (focus ((repeat (first | (with_reducible exact pk_here) | (apply pk_there))); done))) | apply Ent.drop))
  · by_cases h3 : x.kind = 3
    · repeat (first | rintro _ _ ⟨rfl, rfl⟩ | rintro _ _ ⟨_, rfl, rfl⟩ | rintro _ _ ⟨_, _, rfl, rfl⟩ | intro _ | refine go ?_ | (refine is_draw ?_; refine WC_draw mixed (by kernel_rfl) ?_))
      refine WO_k rfl (K_store (cs := [.int .i64 x.value]) rfl rfl inferInstance rfl rfl rfl hle) (same_intro ?_)
      rw [splice_ic hi]
      repeat (first | rintro _ _ ⟨rfl, rfl⟩ | rintro _ _ ⟨_, rfl, rfl⟩ | rintro _ _ ⟨_, _, rfl, rfl⟩ | intro _ | refine go ?_ | (refine is_draw ?_; refine WC_draw mixed (by kernel_rfl) ?_))
      (apply WE_ret rfl rfl (by (repeat (first | exact ResOk.nil | (apply ResOk.tmp; rfl) | (apply resOk_cell; rfl; exact inferInstance; rfl; rfl)))))
      · exact ⟨by simp [touchE, h2, hi], rfl⟩
      · simp only [touchL, h3, or_true, if_true]; (repeat (first | (with_reducible exact Ent.refl) | exact Ent.nil | (apply ent_pickE; (focus ((repeat (first | (with_reducible exact pk_here) | (apply pk_there))); done))) | apply Ent.drop))
    · repeat (first | rintro _ _ ⟨rfl, rfl⟩ | rintro _ _ ⟨_, rfl, rfl⟩ | rintro _ _ ⟨_, _, rfl, rfl⟩ | intro _ | refine go ?_ | (refine is_draw ?_; refine WC_draw mixed (by kernel_rfl) ?_))
      (apply WE_ret rfl rfl (by (repeat (first | exact ResOk.nil | (apply ResOk.tmp; rfl) | (apply resOk_cell; rfl; exact inferInstance; rfl; rfl)))))
      · exact ⟨by simp [touchE, h2, hi], rfl⟩
      · simp only [touchL, h2, h3, or_self, if_false]; (repeat (first | (with_reducible exact Ent.refl) | exact Ent.nil | (apply ent_pickE; (focus ((repeat (first | (with_reducible exact pk_here) | (apply pk_there))); done))) | apply Ent.drop))

theorem mem_New_no {F : List HP} {c : Cfg} (hc : c.wf) (h : checkB c = false) : FnF Try.prog 78 [c.val] [] F (fun r L' => r = .tuple [.pointer none, .int .i64 1].toArray ∧ L' = []) := by
  have hE := fun F => shape_Check (F := F) hc
  simp only [checkE, h, if_false, Bool.false_eq_true] at hE
  refine FnF.mk' Try.func78 rfl rfl Try.ntmps78 rfl ?_
  repeat (first | rintro _ _ ⟨rfl, rfl⟩ | rintro _ _ ⟨_, rfl, rfl⟩ | rintro _ _ ⟨_, _, rfl, rfl⟩ | intro _ | refine go ?_ | (refine is_draw ?_; apply WC_mix (id := 4) false _ (pl := .r 0 <| .r 1 <| .e true [(2, .e true [(3, .p 4 <| .e true [(5, .p 6 <| .p 7 <| .done)])])]); exact mixed; kernel_rfl; kernel_rfl; exact Ent.refl) | (refine is_draw ?_; refine WC_draw mixed (by kernel_rfl) ?_) | refine cal @hE ?_)
  (apply WE_ret rfl rfl (by (repeat (first | exact ResOk.nil | (apply ResOk.tmp; rfl) | (apply resOk_cell; rfl; exact inferInstance; rfl; rfl)))); (first | exact ⟨rfl, rfl⟩ | exact ⟨congrArg Value.bool (by decide), rfl⟩ | exact ⟨_, rfl, rfl⟩ | exact ⟨_, _, rfl, rfl⟩ | exact ⟨by first | (simp []; done) | (simp [] <;> omega), rfl⟩); (repeat (first | exact Ent.refl | exact Ent.nil | apply Ent.pick | apply Ent.drop)))
theorem flat_ic_one (l : List Int) : (flat ic l).all one = true := by
  induction l with
  | nil => rfl
  | cons a r ih => simp [flat, one]
theorem rep_ic (n : Nat) : List.replicate n (Value.int .i64 0) = flat ic (List.replicate n 0) := by
  induction n with
  | zero => rfl
  | succ n ih => rw [List.replicate_succ, List.replicate_succ, ih]; rfl
theorem mem_New {F : List HP} {c : Cfg} (hc : c.wf) (h : checkB c = true) : FnF Try.prog 78 [c.val] [] F (fun r L' => ∃ b, r = .tuple [.pointer (some ⟨b, 0, none⟩), .int .i64 0].toArray ∧ L' = [MemB b c (List.replicate (c.words * c.lines).toNat 0)]) := by
  have hE := fun F => shape_Check (F := F) hc
  simp only [checkE, h, if_true] at hE
  have hS := fun F => shape_Size (F := F) hc
  simp only [sizeOf', h, if_true] at hS
  have hw := check_words h
  have hm := mul_bd (m := 8) (n := 1024) (a := c.words) (b := c.lines) (by omega) (by omega) (by omega) (by omega) (by omega)
  simp only [Int.reduceMul] at hm
  generalize hz : c.words * c.lines = z at hm hS ⊢
  refine FnF.mk' Try.func78 rfl rfl Try.ntmps78 rfl ?_
  repeat (first | rintro _ _ ⟨rfl, rfl⟩ | rintro _ _ ⟨_, rfl, rfl⟩ | rintro _ _ ⟨_, _, rfl, rfl⟩ | intro _ | refine go ?_ | (refine is_draw ?_; apply WC_mix (id := 4) false _ (pl := .r 0 <| .r 1 <| .e true [(2, .e true [(3, .p 4 <| .e true [(5, .p 6 <| .p 7 <| .done)])])]); exact mixed; kernel_rfl; kernel_rfl; exact Ent.refl) | (refine is_draw ?_; refine WC_draw mixed (by kernel_rfl) ?_) | refine cal @hE ?_ | refine cal @hS ?_)
  (apply WE_ret rfl rfl (by (repeat (first | exact ResOk.nil | (apply ResOk.tmp; rfl) | (apply resOk_cell; rfl; exact inferInstance; rfl; rfl)))))
  · exact ⟨_, rfl, rfl⟩
  · rw [rep_ic]
    rename_i bc bs bm
    refine mem_in (g := bs) (n := z.toNat) (ms := List.replicate z.toNat 0) (Ent.cons (Ent.cons (Ent.drop Ent.refl))) (by simp) rfl ?_
    exact ⟨h, by simp [hz]; omega, by simp; omega⟩

/-! ## What a memory does, told of lists -/
def memIn (ms : List Int) (a : Int) : Bool := decide (0 ≤ a ∧ a < ms.length)
def wordAt (ms : List Int) (a : Int) : Int := if memIn ms a then ms.getD a.toNat 0 else 0
def doOk (ms : List Int) (x : Op3) : Bool := mayB x && decide (x.addr < ms.length)
def memDoV (ms : List Int) (x : Op3) : Int := if doOk ms x then (if x.kind = 4 then 0 else touchE ms x.addr.toNat x) else 0
def memDoE (ms : List Int) (x : Op3) : Int := if doOk ms x then 0 else 1
def memDoL (ms : List Int) (x : Op3) : List Int := if doOk ms x then (if x.kind = 4 then ms else touchL ms x.addr.toNat x) else ms
def lineF (c : Cfg) (line : Int) : Nat := (line * c.words).toNat
def lineL (c : Cfg) (ms : List Int) (line : Int) : List Int := (ms.drop (lineF c line)).take c.words.toNat
def lineWo (c : Cfg) (ms : List Int) (line : Int) : Words := if okJoin c line 0 then Words.of (lineL c ms line) else .zero
def tailZ (c : Cfg) (w : Words) : Bool := (w.list.drop c.words.toNat).all fun n => decide (n = 0)
def wrOk (c : Cfg) (line : Int) (w : Words) : Bool := okJoin c line 0 && tailZ c w
def wrE (c : Cfg) (line : Int) (w : Words) : Int := if wrOk c line w then 0 else 1
def wrL (c : Cfg) (ms : List Int) (line : Int) (w : Words) : List Int := if wrOk c line w then ms.take (lineF c line) ++ w.list.take c.words.toNat ++ ms.drop (lineF c line + c.words.toNat) else ms
def apOk (c : Cfg) (x : Op3) : Bool := okAddr c x.addr && mayB x && !decide (x.kind = 4)
def apW (c : Cfg) (w : Words) (x : Op3) : Words := if apOk c x then Words.of (touchL w.list (addrW c x.addr).toNat x) else .zero
def apV (c : Cfg) (w : Words) (x : Op3) : Int := if apOk c x then touchE w.list (addrW c x.addr).toNat x else 0
def apE (c : Cfg) (x : Op3) : Int := if apOk c x then 0 else 1

theorem touchL_len (ms : List Int) (i : Nat) (x : Op3) : (touchL ms i x).length = ms.length := by unfold touchL; split <;> simp
theorem memDoL_len (ms : List Int) (x : Op3) : (memDoL ms x).length = ms.length := by unfold memDoL; split <;> (try split) <;> simp [touchL_len]
theorem may_facts {x : Op3} (h : mayB x = true) : (x.kind = 1 ∨ x.kind = 2 ∨ x.kind = 3 ∨ x.kind = 4) ∧ 0 ≤ x.addr ∧ x.addr ≤ 8191 := by
  unfold mayB at h
  split at h
  · simp at h; omega
  · split at h
    · simp at h; omega
    · split at h
      · simp at h; omega
      · cases h
theorem doOk_facts {ms : List Int} {x : Op3} (h : doOk ms x = true) : mayB x = true ∧ 0 ≤ x.addr ∧ x.addr < ms.length ∧ x.addr ≤ 8191 ∧ (x.kind = 1 ∨ x.kind = 2 ∨ x.kind = 3 ∨ x.kind = 4) := by
  simp only [doOk, Bool.and_eq_true, decide_eq_true_eq] at h
  have := may_facts h.1
  exact ⟨h.1, this.2.1, h.2, this.2.2, this.1⟩
theorem join_facts {c : Cfg} {line : Int} {n : Nat} (h : okJoin c line 0 = true) (hn : (n : Int) = c.words * c.lines) : checkB c = true ∧ 0 ≤ line ∧ line < c.lines ∧ 1 ≤ c.words ∧ c.words ≤ 8 ∧ 0 ≤ line * c.words ∧ line * c.words + c.words ≤ n ∧ joinN c line 0 = line * c.words := by
  have h0 := h
  simp only [okJoin, Bool.and_eq_true, decide_eq_true_eq] at h
  have hw := check_words h.1
  have h1 := Int.mul_nonneg (a := line) (b := c.words) (by omega) (by omega)
  have h2 : (line + 1) * c.words ≤ c.lines * c.words := Int.mul_le_mul_of_nonneg_right (by omega) (by omega)
  rw [Int.add_mul, Int.one_mul, Int.mul_comm c.lines] at h2
  exact ⟨h.1, h.2.1, h.2.2.1, by omega, by omega, h1, by omega, by simp [joinN, h0]⟩

theorem mem_part_no {F : List HP} {b : Nat} {c : Cfg} {v : Value} {line : Int} (hc : c.wf) (hl : I64 line) (h : okJoin c line 0 = false) :
    FnF Try.prog 116 [.pointer (some ⟨b, 0, none⟩), .int .i64 line] [Cells b 182 (c.cells ++ [v])] F (fun r L' => r = .slice none 0 0 ∧ L' = [Cells b 182 (c.cells ++ [v])]) := by
  have hJ := fun F => split_Join (F := F) (c := c) (l := line) (w := 0) hc hl (by unfold I64; omega)
  simp only [joinE, h, if_false, Bool.false_eq_true] at hJ
  refine FnF.mk' Try.func116 rfl rfl Try.ntmps116 rfl ?_
  repeat (first | rintro _ _ ⟨rfl, rfl⟩ | rintro _ _ ⟨_, rfl, rfl⟩ | rintro _ _ ⟨_, _, rfl, rfl⟩ | intro _ | refine go ?_ | (refine is_draw ?_; refine WC_draw mixed (by kernel_rfl) ?_) | refine cal @hJ ?_)
  (apply WE_ret rfl rfl (by (repeat (first | exact ResOk.nil | (apply ResOk.tmp; rfl) | (apply resOk_cell; rfl; exact inferInstance; rfl; rfl)))); (first | exact ⟨rfl, rfl⟩ | exact ⟨congrArg Value.bool (by decide), rfl⟩ | exact ⟨_, rfl, rfl⟩ | exact ⟨_, _, rfl, rfl⟩ | exact ⟨by first | (simp []; done) | (simp [] <;> omega), rfl⟩); (repeat (first | exact Ent.refl | exact Ent.nil | apply Ent.pick | apply Ent.drop)))

theorem mem_part {F : List HP} {b g n : Nat} {c : Cfg} {line : Int} (hc : c.wf) (hl : I64 line) (h : okJoin c line 0 = true) (hn : (n : Int) = c.words * c.lines) (hb : n ≤ 8192) :
    FnF Try.prog 116 [.pointer (some ⟨b, 0, none⟩), .int .i64 line] [Cells b 182 (c.cells ++ [.slice (some ⟨g, 0, none⟩) n n])] F
      (fun r L' => r = .slice (some ⟨g, lineF c line, none⟩) c.words.toNat (n - lineF c line) ∧ L' = [Cells b 182 (c.cells ++ [.slice (some ⟨g, 0, none⟩) n n])]) := by
  have hJ := fun F => split_Join (F := F) (c := c) (l := line) (w := 0) hc hl (by unfold I64; omega)
  obtain ⟨h1, h2, h3, h4, h5, h6, h7, h8⟩ := join_facts h hn
  simp only [joinE, h, if_true, h8] at hJ
  generalize hz : line * c.words = z at *
  have hf : lineF c line = z.toNat := by unfold lineF; rw [hz]
  rw [hf]
  refine FnF.mk' Try.func116 rfl rfl Try.ntmps116 rfl ?_
  repeat (first | rintro _ _ ⟨rfl, rfl⟩ | rintro _ _ ⟨_, rfl, rfl⟩ | rintro _ _ ⟨_, _, rfl, rfl⟩ | intro _ | refine go ?_ | (refine is_draw ?_; refine WC_draw mixed (by kernel_rfl) ?_) | refine cal @hJ ?_)
  (apply WE_ret rfl rfl (by (repeat (first | exact ResOk.nil | (apply ResOk.tmp; rfl) | (apply resOk_cell; rfl; exact inferInstance; rfl; rfl)))))
  · refine ⟨?_, rfl⟩
    rw [cut_at (by omega)]
    have e1 : (z + c.words).toNat - z.toNat = c.words.toNat := by omega
    simp [e1]
  · (repeat (first | (with_reducible exact Ent.refl) | exact Ent.nil | (apply ent_pickE; (focus ((repeat (first | (with_reducible exact pk_here) | (apply pk_there))); done))) | apply Ent.drop))
end Go.Sx
