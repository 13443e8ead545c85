/- What package memory does: its exported functions. My own work. -/
import Derived.Test.YtadedfcjakhfbaaMemPl
namespace Go.Sx
open Go Go.Proofs
set_option linter.unusedVariables false
set_option linter.unusedSimpArgs false
set_option maxRecDepth 100000
set_option maxHeartbeats 4000000
attribute [local irreducible] Go.Exit.then Go.Exit.inBlock Go.Code.wp WC WO WE WQ V LoopQ FnQ Sat Star band bor IntKind.wrap WR Code.rounds WT KO

theorem getD_ic {ms : List Int} {i : Nat} (hi : i < ms.length) : (flat ic ms)[0 + i * 1]? = some (.int .i64 (ms.getD i 0)) := by
  rw [Nat.zero_add, Nat.mul_one, flat_ic_get hi]; simp [hi]

theorem mem_Word {F : List HP} {b : Nat} {c : Cfg} {ms : List Int} {a : Int} : FnF Try.prog 81 [.pointer (some ⟨b, 0, none⟩), .int .i64 a] [MemB b c ms] F (fun r L' => r = .int .i64 (wordAt ms a) ∧ L' = [MemB b c ms]) := by
  refine FnF.mk' Try.func81 rfl rfl Try.ntmps81 rfl ?_
  refine mem_open fun g hf => ?_
  by_cases h0 : 0 ≤ a
  · by_cases h1 : a < ms.length
    · have hg := getD_ic (ms := ms) (i := a.toNat) (by omega)
      repeat (first | rintro _ _ ⟨rfl, rfl⟩ | rintro _ _ ⟨_, rfl, rfl⟩ | rintro _ _ ⟨_, _, rfl, rfl⟩ | intro _ | refine go ?_ | (refine is_draw ?_; refine WC_draw mixed (by kernel_rfl) ?_))
      (apply WE_ret rfl rfl (by (repeat (first | exact ResOk.nil | (apply ResOk.tmp; rfl) | (apply resOk_cell; rfl; exact inferInstance; rfl; rfl)))))
      · exact ⟨by simp [wordAt, memIn, h0, h1], rfl⟩
      · ((repeat (first | (with_reducible exact Ent.refl) | exact Ent.nil | (apply ent_pickE; (focus ((repeat (first | (with_reducible exact pk_here) | (apply pk_there))); done))) | (apply mem_in) | apply Ent.drop)); all_goals (first | rfl | (with_reducible assumption) | (simp; done) | (simp; omega) | omega | (constructor <;> (simp) <;> omega)))
    · repeat (first | rintro _ _ ⟨rfl, rfl⟩ | rintro _ _ ⟨_, rfl, rfl⟩ | rintro _ _ ⟨_, _, rfl, rfl⟩ | intro _ | refine go ?_ | (refine is_draw ?_; refine WC_draw mixed (by kernel_rfl) ?_))
      (apply WE_ret rfl rfl (by (repeat (first | exact ResOk.nil | (apply ResOk.tmp; rfl) | (apply resOk_cell; rfl; exact inferInstance; rfl; rfl)))))
      · exact ⟨by simp [wordAt, memIn, h1], rfl⟩
      · ((repeat (first | (with_reducible exact Ent.refl) | exact Ent.nil | (apply ent_pickE; (focus ((repeat (first | (with_reducible exact pk_here) | (apply pk_there))); done))) | (apply mem_in) | apply Ent.drop)); all_goals (first | rfl | (with_reducible assumption) | (simp; done) | (simp; omega) | omega | (constructor <;> (simp) <;> omega)))
  · repeat (first | rintro _ _ ⟨rfl, rfl⟩ | rintro _ _ ⟨_, rfl, rfl⟩ | rintro _ _ ⟨_, _, rfl, rfl⟩ | intro _ | refine go ?_ | (refine is_draw ?_; refine WC_draw mixed (by kernel_rfl) ?_))
    (apply WE_ret rfl rfl (by (repeat (first | exact ResOk.nil | (apply ResOk.tmp; rfl) | (apply resOk_cell; rfl; exact inferInstance; rfl; rfl)))))
    · exact ⟨by simp [wordAt, memIn, h0], rfl⟩
    · ((repeat (first | (with_reducible exact Ent.refl) | exact Ent.nil | (apply ent_pickE; (focus ((repeat (first | (with_reducible exact pk_here) | (apply pk_there))); done))) | (apply mem_in) | apply Ent.drop)); all_goals (first | rfl | (with_reducible assumption) | (simp; done) | (simp; omega) | omega | (constructor <;> (simp) <;> omega)))

theorem mem_Do {F : List HP} {b : Nat} {c : Cfg} {ms : List Int} {x : Op3} : FnF Try.prog 79 [.pointer (some ⟨b, 0, none⟩), ov x] [MemB b c ms] F (fun r L' => r = .tuple [.int .i64 (memDoV ms x), .int .i64 (memDoE ms x)].toArray ∧ L' = [MemB b c (memDoL ms x)]) := by
  have hM := fun F => program_May (F := F) (x := x)
  cases e : mayB x with
  | false =>
    simp only [e] at hM
    have hd : doOk ms x = false := by simp [doOk, e]
    refine FnF.mk' Try.func79 rfl rfl Try.ntmps79 rfl ?_
    refine mem_open fun g hf => ?_
    repeat (first | rintro _ _ ⟨rfl, rfl⟩ | rintro _ _ ⟨_, rfl, rfl⟩ | rintro _ _ ⟨_, _, rfl, rfl⟩ | intro _ | refine go ?_ | (refine is_draw ?_; apply WC_mix (id := 5) true _ (pl := .p 0 <| .p 1 <| .p 2 <| .p 4 <| .r 3 <| .r 5 <| .p 6 <| .r 7 <| .e true [(8, .p 9 <| .p 10 <| .done)]); exact mixed; kernel_rfl; kernel_rfl; exact Ent.refl) | (refine is_draw ?_; refine WC_draw mixed (by kernel_rfl) ?_) | refine cal @hM ?_)
    (apply WE_ret rfl rfl (by (repeat (first | exact ResOk.nil | (apply ResOk.tmp; rfl) | (apply resOk_cell; rfl; exact inferInstance; rfl; rfl)))))
    · exact ⟨by simp [memDoV, memDoE, hd], rfl⟩
    · simp only [memDoL, hd, Bool.false_eq_true, if_false]; ((repeat (first | (with_reducible exact Ent.refl) | exact Ent.nil | (apply ent_pickE; (focus ((repeat (first | (with_reducible exact pk_here) | (apply pk_there))); done))) | (apply mem_in) | apply Ent.drop)); all_goals (first | rfl | (with_reducible assumption) | (simp; done) | (simp; omega) | omega | (constructor <;> (simp) <;> omega)))
  | true =>
    simp only [e] at hM
    by_cases h1 : x.addr < ms.length
    · have hd : doOk ms x = true := by simp [doOk, e, h1]
      have hm := may_facts e
      by_cases h4 : x.kind = 4
      · refine FnF.mk' Try.func79 rfl rfl Try.ntmps79 rfl ?_
        refine mem_open fun g hf => ?_
        repeat (first | rintro _ _ ⟨rfl, rfl⟩ | rintro _ _ ⟨_, rfl, rfl⟩ | rintro _ _ ⟨_, _, rfl, rfl⟩ | intro _ | refine go ?_ | (refine is_draw ?_; apply WC_mix (id := 5) true _ (pl := .p 0 <| .p 1 <| .p 2 <| .p 4 <| .r 3 <| .r 5 <| .p 6 <| .r 7 <| .e true [(8, .p 9 <| .p 10 <| .done)]); exact mixed; kernel_rfl; kernel_rfl; exact Ent.refl) | (refine is_draw ?_; refine WC_draw mixed (by kernel_rfl) ?_) | refine cal @hM ?_)
        (apply WE_ret rfl rfl (by (repeat (first | exact ResOk.nil | (apply ResOk.tmp; rfl) | (apply resOk_cell; rfl; exact inferInstance; rfl; rfl)))))
        · exact ⟨by simp [memDoV, memDoE, hd, h4], rfl⟩
        · simp only [memDoL, hd, h4, if_true]; ((repeat (first | (with_reducible exact Ent.refl) | exact Ent.nil | (apply ent_pickE; (focus ((repeat (first | (with_reducible exact pk_here) | (apply pk_there))); done))) | (apply mem_in) | apply Ent.drop)); all_goals (first | rfl | (with_reducible assumption) | (simp; done) | (simp; omega) | omega | (constructor <;> (simp) <;> omega)))
      · refine FnF.mk' Try.func79 rfl rfl Try.ntmps79 rfl ?_
        refine mem_open fun g hf => ?_
        repeat (first | rintro _ _ ⟨rfl, rfl⟩ | rintro _ _ ⟨_, rfl, rfl⟩ | rintro _ _ ⟨_, _, rfl, rfl⟩ | intro _ | refine go ?_ | (refine is_draw ?_; apply WC_mix (id := 5) true _ (pl := .p 0 <| .p 1 <| .p 2 <| .p 4 <| .r 3 <| .r 5 <| .p 6 <| .r 7 <| .e true [(8, .p 9 <| .p 10 <| .done)]); exact mixed; kernel_rfl; kernel_rfl; exact Ent.refl) | (refine is_draw ?_; refine WC_draw mixed (by kernel_rfl) ?_) | refine cal @hM ?_ | refine cal @mem_touch ?_)
        (apply WE_ret rfl rfl (by (repeat (first | exact ResOk.nil | (apply ResOk.tmp; rfl) | (apply resOk_cell; rfl; exact inferInstance; rfl; rfl)))))
        · exact ⟨by simp [memDoV, memDoE, hd, h4], rfl⟩
        · simp only [memDoL, hd, h4, if_true, if_false, Nat.zero_add, Nat.mul_one]
          ((repeat (first | (with_reducible exact Ent.refl) | exact Ent.nil | (apply ent_pickE; (focus ((repeat (first | (with_reducible exact pk_here) | (apply pk_there))); done))) | (apply mem_in) | apply Ent.drop)); all_goals (first | rfl | (with_reducible assumption) | (simp [touchL_len]; done) | (simp [touchL_len]; omega) | omega | (constructor <;> (simp [touchL_len]) <;> omega)))
    · have hd : doOk ms x = false := by simp [doOk, h1]
      refine FnF.mk' Try.func79 rfl rfl Try.ntmps79 rfl ?_
      refine mem_open fun g hf => ?_
      repeat (first | rintro _ _ ⟨rfl, rfl⟩ | rintro _ _ ⟨_, rfl, rfl⟩ | rintro _ _ ⟨_, _, rfl, rfl⟩ | intro _ | refine go ?_ | (refine is_draw ?_; apply WC_mix (id := 5) true _ (pl := .p 0 <| .p 1 <| .p 2 <| .p 4 <| .r 3 <| .r 5 <| .p 6 <| .r 7 <| .e true [(8, .p 9 <| .p 10 <| .done)]); exact mixed; kernel_rfl; kernel_rfl; exact Ent.refl) | (refine is_draw ?_; refine WC_draw mixed (by kernel_rfl) ?_) | refine cal @hM ?_)
      (apply WE_ret rfl rfl (by (repeat (first | exact ResOk.nil | (apply ResOk.tmp; rfl) | (apply resOk_cell; rfl; exact inferInstance; rfl; rfl)))))
      · exact ⟨by simp [memDoV, memDoE, hd], rfl⟩
      · simp only [memDoL, hd, Bool.false_eq_true, if_false]; ((repeat (first | (with_reducible exact Ent.refl) | exact Ent.nil | (apply ent_pickE; (focus ((repeat (first | (with_reducible exact pk_here) | (apply pk_there))); done))) | (apply mem_in) | apply Ent.drop)); all_goals (first | rfl | (with_reducible assumption) | (simp; done) | (simp; omega) | omega | (constructor <;> (simp) <;> omega)))

theorem line_rd {c : Cfg} {ms : List Int} {line : Int} (hn : (ms.length : Int) = c.words * c.lines) (h : okJoin c line 0 = true) : lineF c line + c.words.toNat ≤ ms.length ∧ (lineL c ms line).length = c.words.toNat ∧ c.words.toNat ≤ 8 ∧ 1 ≤ c.words.toNat := by
  obtain ⟨h1, h2, h3, h4, h5, h6, h7, h8⟩ := join_facts h hn
  have : lineF c line = (line * c.words).toNat := rfl
  refine ⟨by omega, ?_, by omega, by omega⟩
  simp [lineL]; omega
theorem rd_line {g T : Nat} {c : Cfg} {ms : List Int} {line : Int} {L : List HP} (hn : (ms.length : Int) = c.words * c.lines) (h : okJoin c line 0 = true) {cap : Nat} :
    RdL (Cells g T (flat ic ms) :: L) 1 (.slice (some ⟨g, lineF c line, none⟩) c.words.toNat cap) c.words.toNat (flat ic (lineL c ms line)) := by
  have := line_rd hn h
  have hx : ((flat ic ms).drop (lineF c line)).take (c.words.toNat * 1) = flat ic (lineL c ms line) := by
    have h1 := flat_drop (enc := ic) (n := 1) (fun _ => rfl) ms (lineF c line)
    have h2 := flat_take (enc := ic) (n := 1) (fun _ => rfl) (ms.drop (lineF c line)) c.words.toNat
    rw [Nat.mul_one] at h1 h2 ⊢
    rw [h1, h2]; rfl
  have k := rd_cells (L := Cells g T (flat ic ms) :: L) (o := lineF c line) (m := c.words.toNat) (c := cap) (sz := 1) (b := g) inferInstance (by rw [flat_ic_len]; omega) (by rw [hx]; exact flat_ic_one _)
  rwa [hx] at k

theorem mem_Line {F : List HP} {b : Nat} {c : Cfg} {ms : List Int} {line : Int} (hc : c.wf) (hl : I64 line) : FnF Try.prog 85 [.pointer (some ⟨b, 0, none⟩), .int .i64 line] [MemB b c ms] F (fun r L' => r = .tuple [wv (lineWo c ms line), .int .i64 (joinE c line 0)].toArray ∧ L' = [MemB b c ms]) := by
  cases e : okJoin c line 0 with
  | false =>
    have hP := fun F b v => mem_part_no (F := F) (b := b) (v := v) hc hl e
    refine FnF.mk' Try.func85 rfl rfl Try.ntmps85 rfl ?_
    refine mem_open fun g hf => ?_
    repeat (first | rintro _ _ ⟨rfl, rfl⟩ | rintro _ _ ⟨_, rfl, rfl⟩ | rintro _ _ ⟨_, _, rfl, rfl⟩ | intro _ | refine go ?_ | (refine is_draw ?_; refine WC_draw mixed (by kernel_rfl) ?_) | refine cal @hP ?_)
    (apply WE_ret rfl rfl (by (repeat (first | exact ResOk.nil | (apply ResOk.tmp; rfl) | (apply resOk_cell; rfl; exact inferInstance; rfl; rfl)))))
    · exact ⟨by simp [lineWo, joinE, e, Words.zero], rfl⟩
    · ((repeat (first | (with_reducible exact Ent.refl) | exact Ent.nil | (apply ent_pickE; (focus ((repeat (first | (with_reducible exact pk_here) | (apply pk_there))); done))) | (apply mem_in) | apply Ent.drop)); all_goals (first | rfl | (with_reducible assumption) | (simp; done) | (simp; omega) | omega | (constructor <;> (simp) <;> omega)))
  | true =>
    refine FnF.mk' Try.func85 rfl rfl Try.ntmps85 rfl ?_
    refine mem_open fun g hf => ?_
    have hr := line_rd hf.2.1 e
    have hP := fun F => mem_part (F := F) (b := b) (g := g) hc hl e hf.2.1 hf.2.2
    haveI kr := fun L => rd_line (g := g) (T := 3) (L := L) (cap := ms.length - lineF c line) hf.2.1 e
    have hsp : splice [.int .i64 0, .int .i64 0, .int .i64 0, .int .i64 0, .int .i64 0, .int .i64 0, .int .i64 0, .int .i64 0] 0 ((flat ic (lineL c ms line)).take (min c.words.toNat 8 * 1)) = wc (Words.of (lineL c ms line)) := by
      rw [List.take_of_length_le (by rw [flat_ic_len]; omega)]
      exact splice_words (by omega)
    repeat (first | rintro _ _ ⟨rfl, rfl⟩ | rintro _ _ ⟨_, rfl, rfl⟩ | rintro _ _ ⟨_, _, rfl, rfl⟩ | intro _ | refine go ?_ | (refine is_draw ?_; refine WC_draw mixed (by kernel_rfl) ?_) | refine cal @hP ?_)
    rw [hsp]
    repeat (first | rintro _ _ ⟨rfl, rfl⟩ | rintro _ _ ⟨_, rfl, rfl⟩ | rintro _ _ ⟨_, _, rfl, rfl⟩ | intro _ | refine go ?_ | (refine is_draw ?_; refine WC_draw mixed (by kernel_rfl) ?_))
    (apply WE_ret rfl rfl (by (repeat (first | exact ResOk.nil | (apply ResOk.tmp; rfl) | (apply resOk_cell; rfl; exact inferInstance; rfl; rfl)))))
    · exact ⟨by simp [lineWo, joinE, e], rfl⟩
    · ((repeat (first | (with_reducible exact Ent.refl) | exact Ent.nil | (apply ent_pickE; (focus ((repeat (first | (with_reducible exact pk_here) | (apply pk_there))); done))) | (apply mem_in) | apply Ent.drop)); all_goals (first | rfl | (with_reducible assumption) | (simp; done) | (simp; omega) | omega | (constructor <;> (simp) <;> omega)))
theorem touch_w {F : List HP} {g T i : Nat} {w : Words} {x : Op3} (hi : i < 8) : FnF Try.prog 115 [.pointer (some ⟨g, i, none⟩), ov x] [Cells g T (wc w)] F (fun r L' => r = .int .i64 (touchE w.list i x) ∧ L' = [Cells g T (wc (Words.of (touchL w.list i x)))]) := by
  have h := mem_touch (F := F) (g := g) (T := T) (i := i) (ms := w.list) (x := x) hi
  rw [flat_of (l := touchL w.list i x) (by rw [touchL_len]; rfl)] at h
  exact h

theorem flat_ic_map (l : List Int) : flat ic l = l.map (Value.int .i64) := by
  induction l with
  | nil => rfl
  | cons a r ih => rw [List.map_cons, ← ih]; rfl
theorem copy_wr {ms : List Int} {w : Words} {f k : Nat} (h : f + k ≤ ms.length) (hk : k ≤ 8) : splice (flat ic ms) f ((wc w).take (min 8 k * 1)) = flat ic (ms.take f ++ w.list.take k ++ ms.drop (f + k)) := by
  have e : wc w = flat ic w.list := rfl
  have hl : w.list.length = 8 := rfl
  rw [show min 8 k * 1 = k by omega, e, flat_ic_map, flat_ic_map, flat_ic_map, splice]
  simp [List.map_take, List.map_drop, hl, Nat.min_eq_left hk]
instance (priority := high) rd_cutw {bw T l : Nat} {w : Words} {L : List HP} : RdL (Cells bw T (wc w) :: L) 1 (Sx.cut (.slice (some ⟨bw, 0, none⟩) 8 8) l 8 8 1) (8 - l) (flat ic (w.list.drop l)) := by
  by_cases hl : l ≤ 8
  · have k0 : RdL (Cells bw T (wc w) :: L) 1 (.slice (some ⟨bw, 0, none⟩) 8 8) 8 (wc w) := rd_lit inferInstance rfl rfl
    have k := RdL.cut k0 hl (Nat.le_refl _) (Nat.le_refl _)
    have e : ((wc w).drop (l * 1)).take ((8 - l) * 1) = flat ic (w.list.drop l) := by
      rw [show wc w = flat ic w.list from rfl, flat_drop (enc := ic) (n := 1) (fun _ => rfl), List.take_of_length_le]
      rw [flat_ic_len, List.length_drop]
      have : w.list.length = 8 := rfl
      omega
    rwa [e] at k
  · have e : w.list.drop l = [] := List.drop_eq_nil_of_le (by have : w.list.length = 8 := rfl; omega)
    have e2 : 8 - l = 0 := by omega
    rw [e, e2]
    exact ⟨fun _ _ => by simp, fun _ _ => rfl, fun _ _ => .inl ⟨_, _, by simp [Sx.cut, e2]; exact ⟨rfl, rfl⟩, rfl⟩⟩
theorem wr_len {ms : List Int} {w : Words} {f k : Nat} (h : f + k ≤ ms.length) (hk : k ≤ 8) : (ms.take f ++ w.list.take k ++ ms.drop (f + k)).length = ms.length := by
  have hl : w.list.length = 8 := rfl
  simp [hl, Nat.min_eq_left hk]; omega
theorem mem_Write {F : List HP} {b : Nat} {c : Cfg} {ms : List Int} {line : Int} {w : Words} (hc : c.wf) (hl : I64 line) : FnF Try.prog 80 [.pointer (some ⟨b, 0, none⟩), .int .i64 line, wv w] [MemB b c ms] F (fun r L' => r = .int .i64 (wrE c line w) ∧ L' = [MemB b c (wrL c ms line w)]) := by
  cases e : okJoin c line 0 with
  | false =>
    have hP := fun F b v => mem_part_no (F := F) (b := b) (v := v) hc hl e
    have hw : wrOk c line w = false := by simp [wrOk, e]
    refine FnF.mk' Try.func80 rfl rfl Try.ntmps80 rfl ?_
    refine mem_open fun g hf => ?_
    repeat (first | rintro _ _ ⟨rfl, rfl⟩ | rintro _ _ ⟨_, rfl, rfl⟩ | rintro _ _ ⟨_, _, rfl, rfl⟩ | intro _ | refine go ?_ | (refine is_draw ?_; refine WC_draw mixed (by kernel_rfl) ?_) | refine cal @hP ?_)
    (apply WE_ret rfl rfl (by (repeat (first | exact ResOk.nil | (apply ResOk.tmp; rfl) | (apply resOk_cell; rfl; exact inferInstance; rfl; rfl)))))
    · exact ⟨by simp [wrE, hw], rfl⟩
    · simp only [wrL, hw, Bool.false_eq_true, if_false]; ((repeat (first | (with_reducible exact Ent.refl) | exact Ent.nil | (apply ent_pickE; (focus ((repeat (first | (with_reducible exact pk_here) | (apply pk_there))); done))) | (apply mem_in) | apply Ent.drop)); all_goals (first | rfl | (with_reducible assumption) | (simp; done) | (simp; omega) | omega | (constructor <;> (simp) <;> omega)))
  | true =>
    refine FnF.mk' Try.func80 rfl rfl Try.ntmps80 rfl ?_
    refine mem_open fun g hf => ?_
    have hr := line_rd hf.2.1 e
    have hj := join_facts e hf.2.1
    have hP := fun F => mem_part (F := F) (b := b) (g := g) hc hl e hf.2.1 hf.2.2
    have hfl := flat_ic_len ms
    have hwl : (w.list.drop c.words.toNat).length = 8 - c.words.toNat := by rw [List.length_drop]; rfl
    repeat (first | rintro _ _ ⟨rfl, rfl⟩ | rintro _ _ ⟨_, rfl, rfl⟩ | rintro _ _ ⟨_, _, rfl, rfl⟩ | intro _ | refine go ?_ | (refine is_draw ?_; refine WC_draw mixed (by kernel_rfl) ?_) | refine cal @hP ?_)
    rename_i bw
    apply WC_loopE (E0 := [(5, _), (7, _), (20, _), (21, _)]) (fun E0 (i : Nat) => (22, .int .i64 i) :: E0) (fun _ => Cells bw 50 (wc w) :: Cells b 182 (c.cells ++ [.slice (some ⟨g, 0, none⟩) ms.length ms.length]) :: Cells g 3 (flat ic ms) :: F) (fun i => i ≤ 8 - c.words.toNat ∧ ∀ j (h : j < (w.list.drop c.words.toNat).length), j < i → (w.list.drop c.words.toNat)[j] = 0) (fun i => 8 - i) 0
    · (repeat (first | exact Sub.nil | (refine Sub.cons (by first | rfl | (simp only [Nat.zero_add]; rfl)) ?_)))
    · exact ⟨Nat.zero_le _, fun j h hj => by omega⟩
    · (repeat (first | (with_reducible exact Ent.refl) | exact Ent.nil | (apply ent_pickE; (focus ((repeat (first | (with_reducible exact pk_here) | (apply pk_there))); done))) | apply Ent.drop))
    · rintro i ⟨hi, h1⟩
      by_cases hlt : i < 8 - c.words.toNat
      · have hlt' : i < (w.list.drop c.words.toNat).length := by omega
        by_cases h0 : (w.list.drop c.words.toNat)[i] = 0
        · repeat (first | rintro _ _ ⟨rfl, rfl⟩ | rintro _ _ ⟨_, rfl, rfl⟩ | rintro _ _ ⟨_, _, rfl, rfl⟩ | intro _ | refine go ?_ | (refine is_draw ?_; refine WC_draw mixed (by kernel_rfl) ?_))
          refine WE_loop (i + 1) (by omega) ⟨by omega, fun j h hj => ?_⟩ ?_ ?_
          · by_cases e : j = i
            · subst e; exact h0
            · exact h1 j h (by omega)
          · (repeat (first | exact Sub.nil | (refine Sub.cons (by first | rfl | (simp only [Nat.zero_add]; rfl)) ?_)))
          · (repeat (first | (with_reducible exact Ent.refl) | exact Ent.nil | (apply ent_pickE; (focus ((repeat (first | (with_reducible exact pk_here) | (apply pk_there))); done))) | apply Ent.drop))
        · have hw : wrOk c line w = false := by
            have : tailZ c w = false := by
              unfold tailZ
              rw [List.all_eq_false]; exact ⟨_, List.getElem_mem hlt', by simpa using h0⟩
            simp [wrOk, this]
          repeat (first | rintro _ _ ⟨rfl, rfl⟩ | rintro _ _ ⟨_, rfl, rfl⟩ | rintro _ _ ⟨_, _, rfl, rfl⟩ | intro _ | refine go ?_ | (refine is_draw ?_; refine WC_draw mixed (by kernel_rfl) ?_))
          (apply WE_ret rfl rfl (by (repeat (first | exact ResOk.nil | (apply ResOk.tmp; rfl) | (apply resOk_cell; rfl; exact inferInstance; rfl; rfl)))))
          · exact ⟨by simp [wrE, hw], rfl⟩
          · simp only [wrL, hw, Bool.false_eq_true, if_false]; ((repeat (first | (with_reducible exact Ent.refl) | exact Ent.nil | (apply ent_pickE; (focus ((repeat (first | (with_reducible exact pk_here) | (apply pk_there))); done))) | (apply mem_in) | apply Ent.drop)); all_goals (first | rfl | (with_reducible assumption) | (simp; done) | (simp; omega) | omega | (constructor <;> (simp) <;> omega)))
      · have hw : wrOk c line w = true := by
          have : tailZ c w = true := by
            unfold tailZ
            rw [List.all_eq_true]
            intro x hx
            obtain ⟨j, hj, rfl⟩ := List.getElem_of_mem hx
            simpa using h1 j hj (by omega)
          simp [wrOk, this, e]
        repeat (first | rintro _ _ ⟨rfl, rfl⟩ | rintro _ _ ⟨_, rfl, rfl⟩ | rintro _ _ ⟨_, _, rfl, rfl⟩ | intro _ | refine go ?_ | (refine is_draw ?_; refine WC_draw mixed (by kernel_rfl) ?_))
        (apply WE_ret rfl rfl (by (repeat (first | exact ResOk.nil | (apply ResOk.tmp; rfl) | (apply resOk_cell; rfl; exact inferInstance; rfl; rfl)))))
        · exact ⟨by simp [wrE, hw], rfl⟩
        · rw [copy_wr hr.1 hr.2.2.1]
          simp only [wrL, hw, if_true]
          apply mem_in
          · (repeat (first | (with_reducible exact Ent.refl) | exact Ent.nil | (apply ent_pickE; (focus ((repeat (first | (with_reducible exact pk_here) | (apply pk_there))); done))) | apply Ent.drop))
          · rw [wr_len hr.1 hr.2.2.1]
          · rfl
          · rw [wr_len hr.1 hr.2.2.1]; exact hf
theorem mem_Apply {F : List HP} {c : Cfg} {w : Words} {x : Op3} (hc : c.wf) (hx : x.wf) : FnF Try.prog 84 [c.val, wv w, ov x] [] F (fun r L' => r = .tuple [wv (apW c w x), .int .i64 (apV c w x), .int .i64 (apE c x)].toArray ∧ L' = []) := by
  have hA := fun F => split_Addr (F := F) (c := c) (a := x.addr) hc hx.2.1
  have hM := fun F => program_May (F := F) (x := x)
  cases e1 : okAddr c x.addr with
  | false =>
    have ha : apOk c x = false := by simp [apOk, e1]
    simp only [addrE, e1, Bool.false_eq_true, if_false] at hA
    refine FnF.mk' Try.func84 rfl rfl Try.ntmps84 rfl ?_
    repeat (first | rintro _ _ ⟨rfl, rfl⟩ | rintro _ _ ⟨_, rfl, rfl⟩ | rintro _ _ ⟨_, _, rfl, rfl⟩ | intro _ | refine go ?_ | (refine is_draw ?_; apply WC_mix (id := 4) true _ (pl := .p 0 <| .p 1 <| .r 2 <| .e true [(3, .p 4 <| .done)]); exact mixed; kernel_rfl; kernel_rfl; exact Ent.refl) | (refine is_draw ?_; refine WC_draw mixed (by kernel_rfl) ?_) | refine cal @hA ?_)
    (apply WE_ret rfl rfl (by (repeat (first | exact ResOk.nil | (apply ResOk.tmp; rfl) | (apply resOk_cell; rfl; exact inferInstance; rfl; rfl)))))
    · exact ⟨by simp [apW, apV, apE, ha, Words.zero], rfl⟩
    · (repeat (first | (with_reducible exact Ent.refl) | exact Ent.nil | (apply ent_pickE; (focus ((repeat (first | (with_reducible exact pk_here) | (apply pk_there))); done))) | apply Ent.drop))
  | true =>
    simp only [addrE, e1, if_true] at hA
    cases e2 : mayB x with
    | false =>
      have ha : apOk c x = false := by simp [apOk, e2]
      simp only [e2] at hM
      refine FnF.mk' Try.func84 rfl rfl Try.ntmps84 rfl ?_
      repeat (first | rintro _ _ ⟨rfl, rfl⟩ | rintro _ _ ⟨_, rfl, rfl⟩ | rintro _ _ ⟨_, _, rfl, rfl⟩ | intro _ | refine go ?_ | (refine is_draw ?_; apply WC_mix (id := 4) true _ (pl := .p 0 <| .p 1 <| .r 2 <| .e true [(3, .p 4 <| .done)]); exact mixed; kernel_rfl; kernel_rfl; exact Ent.refl) | (refine is_draw ?_; refine WC_draw mixed (by kernel_rfl) ?_) | refine cal @hA ?_ | refine cal @hM ?_)
      (apply WE_ret rfl rfl (by (repeat (first | exact ResOk.nil | (apply ResOk.tmp; rfl) | (apply resOk_cell; rfl; exact inferInstance; rfl; rfl)))))
      · exact ⟨by simp [apW, apV, apE, ha, Words.zero], rfl⟩
      · (repeat (first | (with_reducible exact Ent.refl) | exact Ent.nil | (apply ent_pickE; (focus ((repeat (first | (with_reducible exact pk_here) | (apply pk_there))); done))) | apply Ent.drop))
    | true =>
      simp only [e2] at hM
      by_cases e3 : x.kind = 4
      · have ha : apOk c x = false := by simp [apOk, e3]
        refine FnF.mk' Try.func84 rfl rfl Try.ntmps84 rfl ?_
        repeat (first | rintro _ _ ⟨rfl, rfl⟩ | rintro _ _ ⟨_, rfl, rfl⟩ | rintro _ _ ⟨_, _, rfl, rfl⟩ | intro _ | refine go ?_ | (refine is_draw ?_; apply WC_mix (id := 4) true _ (pl := .p 0 <| .p 1 <| .r 2 <| .e true [(3, .p 4 <| .done)]); exact mixed; kernel_rfl; kernel_rfl; exact Ent.refl) | (refine is_draw ?_; refine WC_draw mixed (by kernel_rfl) ?_) | refine cal @hA ?_ | refine cal @hM ?_)
        (apply WE_ret rfl rfl (by (repeat (first | exact ResOk.nil | (apply ResOk.tmp; rfl) | (apply resOk_cell; rfl; exact inferInstance; rfl; rfl)))))
        · exact ⟨by simp [apW, apV, apE, ha, Words.zero], rfl⟩
        · (repeat (first | (with_reducible exact Ent.refl) | exact Ent.nil | (apply ent_pickE; (focus ((repeat (first | (with_reducible exact pk_here) | (apply pk_there))); done))) | apply Ent.drop))
      · have ha : apOk c x = true := by simp [apOk, e1, e2, e3]
        obtain ⟨_, _, _, q1, q2, _⟩ := apply_same (c := c) (x := x) (ms := List.replicate (c.words * c.lines).toNat 0) (by
          have := (addr_big e1).2
          simp; omega) ha
        refine FnF.mk' Try.func84 rfl rfl Try.ntmps84 rfl ?_
        repeat (first | rintro _ _ ⟨rfl, rfl⟩ | rintro _ _ ⟨_, rfl, rfl⟩ | rintro _ _ ⟨_, _, rfl, rfl⟩ | intro _ | refine go ?_ | (refine is_draw ?_; apply WC_mix (id := 4) true _ (pl := .p 0 <| .p 1 <| .r 2 <| .e true [(3, .p 4 <| .done)]); exact mixed; kernel_rfl; kernel_rfl; exact Ent.refl) | (refine is_draw ?_; refine WC_draw mixed (by kernel_rfl) ?_) | refine cal @hA ?_ | refine cal @hM ?_ | refine cal @touch_w ?_)
        (apply WE_ret rfl rfl (by (repeat (first | exact ResOk.nil | (apply ResOk.tmp; rfl) | (apply resOk_cell; rfl; exact inferInstance; rfl; rfl)))))
        · exact ⟨by simp [apW, apV, apE, ha], rfl⟩
        · (repeat (first | (with_reducible exact Ent.refl) | exact Ent.nil | (apply ent_pickE; (focus ((repeat (first | (with_reducible exact pk_here) | (apply pk_there))); done))) | apply Ent.drop))
end Go.Sx
