/- WiR: several of my texts as one. My own work. -/
import Derived.Test.YtlaohgngdaglmaaZas
import Derived.Test.YtlaohgngdaglmaaZag
/- What the document's witness does. My own work. -/
namespace Go.Sx
open Go Go.Proofs
set_option linter.unusedVariables false
set_option linter.unusedSectionVars false
set_option linter.unusedSimpArgs false
set_option maxRecDepth 100000
set_option maxHeartbeats 4000000
attribute [local irreducible] Go.Exit.then Go.Exit.inBlock Go.Code.wp WC WO WE WQ V LoopQ FnQ Sat Star band bor IntKind.wrap WR Code.rounds WT KO
theorem dr_WiR_31g {Q P : Prop} (k : Q) (h : Hid Q → P := by
  intro k
  first
  | (refine is_draw ?_; apply WC_mix (id := 1) .true _ (pl := .r 0 <| .e true [(1, .p 2 <| .p 3 <| .p 4 <| .p 6 <| .p 7 <| .p 8 <| .e false [(5, .e false [(9, .p 10 <| .p 11 <| .p 12 <| .done)]), (9, .p 10 <| .e false [(5, .p 11 <| .p 12 <| .done)])])]); exact mixed; kernel_rfl; kernel_rfl; exact Ent.refl; exact k.out)
  | (refine is_draw ?_; apply WC_mix (id := 7) .true _ (pl := .p 0 <| .p 1 <| .p 2 <| .p 4 <| .p 6 <| .r 3 <| .r 5 <| .r 7 <| .p 8 <| .e true [(9, .done)]); exact mixed; kernel_rfl; kernel_rfl; exact Ent.refl; exact k.out)) : P := h ⟨k⟩
theorem ref12_Do {F : List HP} {b : Nat} {c : Cfg} {ms : List Int} {x : Op3} : FnF Try.prog 31 [.pointer (some ⟨b, 0, none⟩), ov x] [MemRB b c ms] F (fun r L' => r = .tuple [.int .i64 (memDoV ms x), .int .i64 (memDoE ms x)].toArray ∧ L' = [MemRB b c (memDoL ms x)]) := by
  have hM := fun F => ref03_May (F := F) (x := x)
  cases hm : mayB x with
  | false =>
    have h0 : doOk ms x = false := by simp [doOk, hm]
    have e1 : memDoV ms x = 0 := by simp [memDoV, h0]
    have e2 : memDoE ms x = 1 := by simp [memDoE, h0]
    have e3 : memDoL ms x = ms := by simp [memDoL, h0]
    rw [e1, e2, e3]
    simp only [hm] at hM
    refine FnF.mk' Try.func31 rfl rfl Try.ntmps31 rfl ?_
    refine memr_open fun g hf => ?_
    repeat' (first | rintro _ _ ⟨rfl, rfl⟩ | refine exq fun _ => ?_ | intro _ | refine go ?_ | refine dr_WiR_31g ?_ | refine drq ?_ | refine cal @hM ?_ | refine spl ?_ ?_ | fail)
    all_goals (apply WE_ret rfl rfl (by (repeat (first | exact ResOk.nil | (apply ResOk.tmp; rfl) | (apply resOk_cell; rfl; exact inferInstance; rfl; rfl)))))
    all_goals first
    | exact ⟨rfl, rfl⟩
    | ((repeat (first | (with_reducible exact Ent.refl) | exact Ent.nil | (apply ent_pickE; (focus ((repeat (first | (with_reducible exact pk_here) | (apply pk_there))); done))) | (apply memr_in) | apply Ent.drop)); all_goals (first | rfl | (with_reducible assumption) | (simp; done) | (simp; omega) | omega | (constructor <;> (simp) <;> omega)))
  | true =>
    obtain ⟨hk, h0, h1⟩ := may_facts hm
    by_cases hlt : x.addr < ms.length
    · have hok : doOk ms x = true := by simp [doOk, hm, hlt]
      obtain ⟨a, ha⟩ : ∃ a : Nat, x.addr = a := ⟨x.addr.toNat, by omega⟩
      have hal : a < ms.length := by omega
      have hcell : (flat ic ms)[0 + ((a : Nat) : Int).toNat * 1]? = some (.int .i64 (ms.getD a 0)) := by
        rw [Int.toNat_natCast]; exact getD_ic hal
      have hsp : splice (flat ic ms) (0 + ((a : Nat) : Int).toNat * 1) [.int .i64 x.value] = flat ic (ms.set a x.value) := by
        rw [Int.toNat_natCast, Nat.zero_add, Nat.mul_one, splice_ic hal]
      have hbl : Nat.ble (0 + ((a : Nat) : Int).toNat * 1 + 1) (flat ic ms).length = true := by
        rw [flat_ic_len, Int.toNat_natCast, Nat.ble_eq]; omega
      have e2 : memDoE ms x = 0 := by simp [memDoE, hok]
      have hat : x.addr.toNat = a := by omega
      rw [e2]
      simp only [hm] at hM
      rcases hk with hk | hk | hk | hk
      · have e1 : memDoV ms x = ms.getD a 0 := by simp [memDoV, hok, touchE, hk, hat]
        have e3 : memDoL ms x = ms := by simp [memDoL, hok, touchL, hk, hat]
        rw [e1, e3]
        refine FnF.mk' Try.func31 rfl rfl Try.ntmps31 rfl ?_
        refine memr_open fun g hf => ?_
        repeat' (first | rintro _ _ ⟨rfl, rfl⟩ | refine exq fun _ => ?_ | intro _ | refine go ?_ | refine dr_WiR_31g ?_ | refine drq ?_ | refine cal @hM ?_ | refine spl ?_ ?_ | fail)
        all_goals simp only [ha]
        all_goals repeat' (first | rintro _ _ ⟨rfl, rfl⟩ | refine exq fun _ => ?_ | intro _ | refine go ?_ | refine dr_WiR_31g ?_ | refine drq ?_ | refine spl ?_ ?_ | fail)
        all_goals (apply WE_ret rfl rfl (by (repeat (first | exact ResOk.nil | (apply ResOk.tmp; rfl) | (apply resOk_cell; rfl; exact inferInstance; rfl; rfl)))))
        all_goals first
        | exact ⟨rfl, rfl⟩
        | ((repeat (first | (with_reducible exact Ent.refl) | exact Ent.nil | (apply ent_pickE; (focus ((repeat (first | (with_reducible exact pk_here) | (apply pk_there))); done))) | (apply memr_in) | apply Ent.drop)); all_goals (first | rfl | (with_reducible assumption) | (simp; done) | (simp; omega) | omega | (constructor <;> (simp) <;> omega)))
      · have e1 : memDoV ms x = 0 := by simp [memDoV, hok, touchE, hk, hat]
        have e3 : memDoL ms x = ms.set a x.value := by simp [memDoL, hok, touchL, hk, hat]
        rw [e1, e3]
        refine FnF.mk' Try.func31 rfl rfl Try.ntmps31 rfl ?_
        refine memr_open fun g hf => ?_
        repeat' (first | rintro _ _ ⟨rfl, rfl⟩ | refine exq fun _ => ?_ | intro _ | refine go ?_ | refine dr_WiR_31g ?_ | refine drq ?_ | refine cal @hM ?_ | refine spl ?_ ?_ | fail)
        all_goals simp only [ha]
        all_goals repeat' (first | rintro _ _ ⟨rfl, rfl⟩ | refine exq fun _ => ?_ | intro _ | refine go ?_ | refine dr_WiR_31g ?_ | refine drq ?_ | refine spl ?_ ?_ | fail)
        all_goals (apply WT_k; rfl; (first | exact GIn.none | (apply gin_t; rfl; rfl; (first | (with_reducible rfl) | exact congrArg Value.bool (by with_reducible assumption) | exact congrArg Value.bool (dec_t (by first | (with_reducible assumption) | (with_reducible rfl) | (with_reducible exact nn_eq) | (with_reducible exact nn_ne) | omega | decide | exact rfl)))) | (apply gin_f; rfl; rfl; (first | (with_reducible rfl) | exact congrArg Value.bool (by with_reducible assumption) | exact congrArg Value.bool (dec_f (by first | (with_reducible assumption) | (with_reducible rfl) | (with_reducible exact nn_eq) | (with_reducible exact nn_ne) | omega | decide | exact rfl))))); (apply K_store (cs := [.int .i64 x.value]); rfl; rfl; exact inferInstance; rfl; rfl; rfl; exact hbl); refine same_intro ?_)
        all_goals (refine ⟨by first | exact After.free | exact After.turns rfl, ?_⟩)
        all_goals (rw [hsp])
        all_goals repeat' (first | rintro _ _ ⟨rfl, rfl⟩ | refine exq fun _ => ?_ | intro _ | refine go ?_ | refine dr_WiR_31g ?_ | refine drq ?_ | refine spl ?_ ?_ | fail)
        all_goals (apply WE_ret rfl rfl (by (repeat (first | exact ResOk.nil | (apply ResOk.tmp; rfl) | (apply resOk_cell; rfl; exact inferInstance; rfl; rfl)))))
        all_goals first
        | exact ⟨rfl, rfl⟩
        | ((repeat (first | (with_reducible exact Ent.refl) | exact Ent.nil | (apply ent_pickE; (focus ((repeat (first | (with_reducible exact pk_here) | (apply pk_there))); done))) | (apply memr_in) | apply Ent.drop)); all_goals (first | rfl | (with_reducible assumption) | (simp; done) | (simp; omega) | omega | (constructor <;> (simp) <;> omega)))
      · have e1 : memDoV ms x = ms.getD a 0 := by simp [memDoV, hok, touchE, hk, hat]
        have e3 : memDoL ms x = ms.set a x.value := by simp [memDoL, hok, touchL, hk, hat]
        rw [e1, e3]
        refine FnF.mk' Try.func31 rfl rfl Try.ntmps31 rfl ?_
        refine memr_open fun g hf => ?_
        repeat' (first | rintro _ _ ⟨rfl, rfl⟩ | refine exq fun _ => ?_ | intro _ | refine go ?_ | refine dr_WiR_31g ?_ | refine drq ?_ | refine cal @hM ?_ | refine spl ?_ ?_ | fail)
        all_goals simp only [ha]
        all_goals repeat' (first | rintro _ _ ⟨rfl, rfl⟩ | refine exq fun _ => ?_ | intro _ | refine go ?_ | refine dr_WiR_31g ?_ | refine drq ?_ | refine spl ?_ ?_ | fail)
        all_goals simp only [ha]
        all_goals repeat' (first | rintro _ _ ⟨rfl, rfl⟩ | refine exq fun _ => ?_ | intro _ | refine go ?_ | refine dr_WiR_31g ?_ | refine drq ?_ | refine spl ?_ ?_ | fail)
        all_goals (apply WT_k; rfl; (first | exact GIn.none | (apply gin_t; rfl; rfl; (first | (with_reducible rfl) | exact congrArg Value.bool (by with_reducible assumption) | exact congrArg Value.bool (dec_t (by first | (with_reducible assumption) | (with_reducible rfl) | (with_reducible exact nn_eq) | (with_reducible exact nn_ne) | omega | decide | exact rfl)))) | (apply gin_f; rfl; rfl; (first | (with_reducible rfl) | exact congrArg Value.bool (by with_reducible assumption) | exact congrArg Value.bool (dec_f (by first | (with_reducible assumption) | (with_reducible rfl) | (with_reducible exact nn_eq) | (with_reducible exact nn_ne) | omega | decide | exact rfl))))); (apply K_store (cs := [.int .i64 x.value]); rfl; rfl; exact inferInstance; rfl; rfl; rfl; exact hbl); refine same_intro ?_)
        all_goals (refine ⟨by first | exact After.free | exact After.turns rfl, ?_⟩)
        all_goals (rw [hsp])
        all_goals repeat' (first | rintro _ _ ⟨rfl, rfl⟩ | refine exq fun _ => ?_ | intro _ | refine go ?_ | refine dr_WiR_31g ?_ | refine drq ?_ | refine spl ?_ ?_ | fail)
        all_goals (apply WE_ret rfl rfl (by (repeat (first | exact ResOk.nil | (apply ResOk.tmp; rfl) | (apply resOk_cell; rfl; exact inferInstance; rfl; rfl)))))
        all_goals first
        | exact ⟨rfl, rfl⟩
        | ((repeat (first | (with_reducible exact Ent.refl) | exact Ent.nil | (apply ent_pickE; (focus ((repeat (first | (with_reducible exact pk_here) | (apply pk_there))); done))) | (apply memr_in) | apply Ent.drop)); all_goals (first | rfl | (with_reducible assumption) | (simp; done) | (simp; omega) | omega | (constructor <;> (simp) <;> omega)))
      · have e1 : memDoV ms x = 0 := by simp [memDoV, hok, touchE, hk, hat]
        have e3 : memDoL ms x = ms := by simp [memDoL, hok, touchL, hk, hat]
        rw [e1, e3]
        refine FnF.mk' Try.func31 rfl rfl Try.ntmps31 rfl ?_
        refine memr_open fun g hf => ?_
        repeat' (first | rintro _ _ ⟨rfl, rfl⟩ | refine exq fun _ => ?_ | intro _ | refine go ?_ | refine dr_WiR_31g ?_ | refine drq ?_ | refine cal @hM ?_ | refine spl ?_ ?_ | fail)
        all_goals (apply WE_ret rfl rfl (by (repeat (first | exact ResOk.nil | (apply ResOk.tmp; rfl) | (apply resOk_cell; rfl; exact inferInstance; rfl; rfl)))))
        all_goals first
        | exact ⟨rfl, rfl⟩
        | ((repeat (first | (with_reducible exact Ent.refl) | exact Ent.nil | (apply ent_pickE; (focus ((repeat (first | (with_reducible exact pk_here) | (apply pk_there))); done))) | (apply memr_in) | apply Ent.drop)); all_goals (first | rfl | (with_reducible assumption) | (simp; done) | (simp; omega) | omega | (constructor <;> (simp) <;> omega)))
    · have h2 : doOk ms x = false := by simp [doOk, hlt]
      have e1 : memDoV ms x = 0 := by simp [memDoV, h2]
      have e2 : memDoE ms x = 1 := by simp [memDoE, h2]
      have e3 : memDoL ms x = ms := by simp [memDoL, h2]
      rw [e1, e2, e3]
      simp only [hm] at hM
      refine FnF.mk' Try.func31 rfl rfl Try.ntmps31 rfl ?_
      refine memr_open fun g hf => ?_
      repeat' (first | rintro _ _ ⟨rfl, rfl⟩ | refine exq fun _ => ?_ | intro _ | refine go ?_ | refine dr_WiR_31g ?_ | refine drq ?_ | refine cal @hM ?_ | refine spl ?_ ?_ | fail)
      all_goals (apply WE_ret rfl rfl (by (repeat (first | exact ResOk.nil | (apply ResOk.tmp; rfl) | (apply resOk_cell; rfl; exact inferInstance; rfl; rfl)))))
      all_goals first
      | exact ⟨rfl, rfl⟩
      | ((repeat (first | (with_reducible exact Ent.refl) | exact Ent.nil | (apply ent_pickE; (focus ((repeat (first | (with_reducible exact pk_here) | (apply pk_there))); done))) | (apply memr_in) | apply Ent.drop)); all_goals (first | rfl | (with_reducible assumption) | (simp; done) | (simp; omega) | omega | (constructor <;> (simp) <;> omega)))
theorem ref19_Value {F : List HP} {c : Cfg} {l : List Com} {v : Value} {addr : Int} (hc : c.wf) (k : RdL F 6 v l.length (flat cmc l)) (hl : l.length ≤ 1099511627776) : FnF Try.prog 13 [c.val, v, .int .i64 addr] [] F (fun r L' => r = .int .i64 (valV c l addr) ∧ L' = []) := by
  have hCk := fun F => ref01_Check (F := F) (c := c) hc
  cases hck : checkB c with
  | false =>
    have he : checkE c ≠ 0 := by unfold checkE; rw [hck]; simp
    refine FnF.mk' Try.func13 rfl rfl Try.ntmps13 rfl ?_
    repeat (first | rintro _ _ ⟨rfl, rfl⟩ | refine exq fun _ => ?_ | intro _ | refine go ?_ | refine drq ?_ | refine cal @hCk ?_)
    (apply WE_ret rfl rfl (by (repeat (first | exact ResOk.nil | (apply ResOk.tmp; rfl) | (apply resOk_cell; rfl; exact inferInstance; rfl; rfl)))); (first | exact ⟨rfl, rfl⟩ | exact ⟨congrArg Value.bool (by decide), rfl⟩ | exact ⟨_, rfl, rfl⟩ | exact ⟨_, _, rfl, rfl⟩ | exact ⟨by first | (simp [valV, hck]; done) | (simp [valV, hck] <;> omega), rfl⟩); (repeat (first | exact Ent.refl | exact Ent.nil | apply Ent.pick | apply Ent.drop)))
  | true =>
    have he : checkE c = 0 := by unfold checkE; rw [hck]; rfl
    have hcw := check_words hck
    have hmul : 0 ≤ c.words * c.lines ∧ c.words * c.lines ≤ 8192 := by
      obtain ⟨W, hW⟩ : ∃ n : Nat, c.words = n := ⟨c.words.toNat, by omega⟩
      obtain ⟨L, hLn⟩ : ∃ n : Nat, c.lines = n := ⟨c.lines.toNat, by omega⟩
      rw [hW, hLn]
      have : W * L ≤ 8 * 1024 := Nat.mul_le_mul (by omega) (by omega)
      have e : (W : Int) * L = ((W * L : Nat) : Int) := by simp
      omega
    have hN := fun F => ref12_New (F := F) hc hck
    have htl := trMs_len c l
    by_cases ha0 : addr < 0
    · have hv : valV c l addr = 0 := by unfold valV wordAt memIn; rw [if_pos hck, decide_eq_false (by omega)]; rfl
      rw [hv]
      refine FnF.mk' Try.func13 rfl rfl Try.ntmps13 rfl ?_
      repeat (first | rintro _ _ ⟨rfl, rfl⟩ | refine exq fun _ => ?_ | intro _ | refine go ?_ | refine drq ?_ | refine cal @hCk ?_)
      exact fin0
    · by_cases ha1 : addr ≥ c.words * c.lines
      · have hv : valV c l addr = 0 := by unfold valV wordAt memIn; rw [if_pos hck, decide_eq_false (by omega)]; rfl
        rw [hv]
        refine FnF.mk' Try.func13 rfl rfl Try.ntmps13 rfl ?_
        repeat (first | rintro _ _ ⟨rfl, rfl⟩ | refine exq fun _ => ?_ | intro _ | refine go ?_ | refine drq ?_ | refine cal @hCk ?_)
        exact fin0
      · obtain ⟨a, rfl⟩ : ∃ a : Nat, addr = a := ⟨addr.toNat, by omega⟩
        have hal : a < (trMs c l).length := by omega
        have hv : valV c l a = (trMs c l).getD a 0 := by unfold valV wordAt memIn; rw [if_pos hck, decide_eq_true (by omega)]; simp
        rw [hv]
        refine FnF.mk' Try.func13 rfl rfl Try.ntmps13 rfl ?_
        repeat (first | rintro _ _ ⟨rfl, rfl⟩ | refine exq fun _ => ?_ | intro _ | refine go ?_ | refine drq ?_ | refine cal @hCk ?_ | refine cal @hN ?_)
        rename_i bm
        apply WC_loopE (E0 := [(1, _), (2, _), (7, _)]) (fun E0 (i : Nat) => (9, .int .i64 i) :: E0) (fun i => MemRB bm c (trMs c (l.take i)) :: F) (fun i => i ≤ l.length) (fun i => l.length - i) 0
        · (repeat (first | exact Sub.nil | (refine Sub.cons (by first | rfl | (simp only [Nat.zero_add]; rfl)) ?_)))
        · exact Nat.zero_le _
        · rw [show trMs c (l.take 0) = List.replicate (c.words * c.lines).toNat 0 from rfl]
          exact entu0
        · intro i hi
          by_cases hlt : i < l.length
          · have hst := trMs_take (c := c) hlt
            have hD := fun F => ref12_Do (F := F) (b := bm) (c := c) (ms := trMs c (l.take i)) (x := l[i].op)
            repeat (first | rintro _ _ ⟨rfl, rfl⟩ | refine exq fun _ => ?_ | intro _ | refine go ?_ | refine drq ?_ | refine cal @hD ?_)
            refine WE_loop (i + 1) (by omega) (by omega) ?_ ?_
            · (repeat (first | exact Sub.nil | (refine Sub.cons (by first | rfl | (simp only [Nat.zero_add]; rfl)) ?_)))
            · rw [hst]; exact entu0
          · have hil : i = l.length := by omega
            subst hil
            rw [List.take_length]
            have hcell : (flat ic (trMs c l))[0 + ((a : Nat) : Int).toNat * 1]? = some (.int .i64 ((trMs c l).getD a 0)) := by
              rw [Int.toNat_natCast]; exact getD_ic hal
            refine memr_open fun g hf => ?_
            repeat (first | rintro _ _ ⟨rfl, rfl⟩ | refine exq fun _ => ?_ | intro _ | refine go ?_ | refine drq ?_)
            exact fin0
theorem ref19_Check {F : List HP} {c : Cfg} {ps : List PrQ} {u v : Value} {l : List Com} (hc : c.wf) (k : RdL F 6 v l.length (flat cmc l)) (hl : l.length ≤ 1099511627776) (kp : RdL F 1 u ps.length (flat prc ps)) (kr : RdPr F ps) :
    FnF Try.prog 10 [c.val, u, v] [] F (fun r L' => r = .tuple [.int .i64 (chkV c (ps.map (·.1)) l), .int .i64 (chkE c (ps.map (·.1)) l)].toArray ∧ L' = []) := by
  have hCk := fun F => ref01_Check (F := F) (c := c) hc
  cases hck : checkB c with
  | false =>
    have he : checkE c ≠ 0 := by unfold checkE; rw [hck]; simp
    refine FnF.mk' Try.func10 rfl rfl Try.ntmps10 rfl ?_
    repeat (first | rintro _ _ ⟨rfl, rfl⟩ | refine exq fun _ => ?_ | intro _ | refine go ?_ | refine drq ?_ | refine cal @hCk ?_)
    (apply WE_ret rfl rfl (by (repeat (first | exact ResOk.nil | (apply ResOk.tmp; rfl) | (apply resOk_cell; rfl; exact inferInstance; rfl; rfl)))); (first | exact ⟨rfl, rfl⟩ | exact ⟨congrArg Value.bool (by decide), rfl⟩ | exact ⟨_, rfl, rfl⟩ | exact ⟨_, _, rfl, rfl⟩ | exact ⟨by first | (simp [chkV, chkE, chkOk, hck]; done) | (simp [chkV, chkE, chkOk, hck] <;> omega), rfl⟩); (repeat (first | exact Ent.refl | exact Ent.nil | apply Ent.pick | apply Ent.drop)))
  | true =>
    have he : checkE c = 0 := by unfold checkE; rw [hck]; rfl
    have hN := fun F => ref12_New (F := F) hc hck
    by_cases hlen : (ps.length : Int) = c.cores
    · have hcc := (check_facts hck).1
      have e1 : chkV c (ps.map (·.1)) l = chkN c (ps.map (·.1)) l := by simp [chkV, chkOk, hck, hlen]
      have e2 : chkE c (ps.map (·.1)) l = if chkN c (ps.map (·.1)) l = l.length then 0 else 7 := by simp [chkE, chkOk, hck, hlen]
      rw [e1, e2]
      obtain ⟨n, hn⟩ : ∃ n : Nat, c.cores = n := ⟨c.cores.toNat, by omega⟩
      have hpn : ps.length = n := by omega
      refine FnF.mk' Try.func10 rfl rfl Try.ntmps10 rfl ?_
      repeat (first | rintro _ _ ⟨rfl, rfl⟩ | refine exq fun _ => ?_ | intro _ | refine go ?_ | refine drq ?_ | refine cal @hCk ?_ | refine cal @hN ?_)
      rename_i b3 bm
      have hbad : ∀ i, i < l.length → (∀ j, j < i → goodC c (ps.map (·.1)) l j = true) → goodC c (ps.map (·.1)) l i = false → chkN c (ps.map (·.1)) l = i ∧ ¬ i = l.length := fun i hi h1 h2 => ⟨chkN_at hi h1 h2, by omega⟩
      apply WC_loopE (E0 := [(1, _), (2, _), (3, _), (8, _)]) (fun E0 (i : Nat) => (10, .int .i64 i) :: E0) (fun i => MemRB bm c (trMs c (l.take i)) :: Cells b3 24 c.cells :: F) (fun i => i ≤ l.length ∧ ∀ j, j < i → goodC c (ps.map (·.1)) l j = true) (fun i => l.length - i) 0
      · (repeat (first | exact Sub.nil | (refine Sub.cons (by first | rfl | (simp only [Nat.zero_add]; rfl)) ?_)))
      · exact ⟨Nat.zero_le _, fun j h => absurd h (Nat.not_lt_zero _)⟩
      · rw [show trMs c (l.take 0) = List.replicate (c.words * c.lines).toNat 0 from rfl]
        exact entu0
      · rintro i ⟨hi, hgo⟩
        by_cases hlt : i < l.length
        · have hst := trMs_take (c := c) hlt
          have hbi := hbad i hlt hgo
          have hgd : goodC c (ps.map (·.1)) l i = (decide (0 ≤ l[i].core ∧ l[i].core < c.cores) && decide (l[i].pos = cntC l i l[i].core) && decide (l[i].pos < (((ps.map (·.1)).getD l[i].core.toNat []).length : Int)) && decide (l[i].op = ((ps.map (·.1)).getD l[i].core.toNat []).getD l[i].pos.toNat .zero)
              && decide (memDoE (trMs c (l.take i)) l[i].op = 0) && decide (memDoV (trMs c (l.take i)) l[i].op = l[i].res)) := by unfold goodC; rw [List.getElem?_eq_getElem hlt]
          have hD := fun F => ref12_Do (F := F) (b := bm) (c := c) (ms := trMs c (l.take i)) (x := l[i].op)
          repeat (first | rintro _ _ ⟨rfl, rfl⟩ | refine exq fun _ => ?_ | intro _ | refine go ?_ | refine drq ?_)
          rename_i b11
          apply WC_loopE (E0 := [(1, _), (2, _), (3, _), (8, _), (10, _), (11, _)]) (fun E0 (j : Nat) => (13, .int .i64 j) :: (12, .int .i64 (cntC l j l[i].core)) :: E0) (fun _ => Cells b11 96 (cmc l[i]) :: MemRB bm c (trMs c (l.take i)) :: Cells b3 24 c.cells :: F) (fun j => j ≤ i) (fun j => i - j) 0
          · simp only [show cntC l 0 l[i].core = 0 by simp [cntC]]
            (repeat (first | exact Sub.nil | (refine Sub.cons (by first | rfl | (simp only [Nat.zero_add]; rfl)) ?_)))
          · exact Nat.zero_le _
          · exact entu0
          · intro j hj
            by_cases hji : j < i
            · have hjl : j < l.length := by omega
              have hcs := cntC_succ hjl l[i].core
              have hcb := cntC_le l j l[i].core
              generalize cntC l j l[i].core = nj at hcs hcb ⊢
              by_cases he2 : l[j].core = l[i].core
              · rw [if_pos he2] at hcs
                repeat (first | rintro _ _ ⟨rfl, rfl⟩ | refine exq fun _ => ?_ | intro _ | refine go ?_ | refine drq ?_)
                refine WE_loop (j + 1) (by omega) (by omega) ?_ ?_
                · simp only [hcs]; (repeat (first | exact Sub.nil | (refine Sub.cons (by first | rfl | (simp only [Nat.zero_add]; rfl)) ?_)))
                · exact entu0
              · rw [if_neg he2] at hcs
                repeat (first | rintro _ _ ⟨rfl, rfl⟩ | refine exq fun _ => ?_ | intro _ | refine go ?_ | refine drq ?_)
                refine WE_loop (j + 1) (by omega) (by omega) ?_ ?_
                · simp only [hcs]; (repeat (first | exact Sub.nil | (refine Sub.cons (by first | rfl | (simp only [Nat.zero_add]; rfl)) ?_)))
                · exact entu0
            · have hje : j = i := by omega
              subst hje
              by_cases h0 : l[j].core < 0
              · obtain ⟨f1, f2⟩ := hbi (by rw [hgd]; simp [show ¬ 0 ≤ l[j].core by omega])
                rw [f1, if_neg f2]
                repeat (first | rintro _ _ ⟨rfl, rfl⟩ | refine exq fun _ => ?_ | intro _ | refine go ?_ | refine drq ?_)
                exact fin0
              · by_cases h1 : l[j].core ≥ c.cores
                · obtain ⟨f1, f2⟩ := hbi (by rw [hgd]; simp [show ¬ l[j].core < c.cores by omega])
                  rw [f1, if_neg f2]
                  repeat (first | rintro _ _ ⟨rfl, rfl⟩ | refine exq fun _ => ?_ | intro _ | refine go ?_ | refine drq ?_)
                  exact fin0
                · obtain ⟨kc, hkc⟩ : ∃ k : Nat, l[j].core = k := ⟨l[j].core.toNat, by omega⟩
                  have hkn : kc < n := by omega
                  have hkp : kc < ps.length := by omega
                  have hcn := cntC_le l j (kc : Int)
                  have hpr : (ps.map (·.1)).getD kc [] = ps[kc].1 := by simp [hkp]
                  rw [hkc, Int.toNat_natCast, hpr] at hgd
                  haveI krk := rd_pr kr hkp
                  rw [hkc]
                  generalize hq : cntC l j (kc : Int) = q at hcn hgd ⊢
                  have hIn : decide (0 ≤ (kc : Int) ∧ (kc : Int) < c.cores) = true := decide_eq_true (by omega)
                  generalize hxo : l[j].op = xo at hgd hst hD
                  generalize hxr : l[j].res = xr at hgd
                  by_cases hp : l[j].pos = q
                  · have hx : l[j] = ⟨(kc : Int), (q : Int), xo, xr⟩ := by rw [← hkc, ← hp, ← hxo, ← hxr]
                    simp only [hx]; dsimp only [cmc]
                    by_cases hql : q < ps[kc].1.length
                    · have hge : ps[kc].1.getD q .zero = ps[kc].1[q] := by simp [hql]
                      rw [hIn, hp, Int.toNat_natCast, hge, decide_eq_true rfl, decide_eq_true (show (q : Int) < (ps[kc].1.length : Int) by omega)] at hgd
                      simp only [Bool.true_and] at hgd
                      by_cases ho : xo = ps[kc].1[q]
                      · have ho' : ¬ (oc ps[kc].1[q] ≠ oc xo) := fun h => h (by rw [ho])
                        rw [decide_eq_true ho, Bool.true_and] at hgd
                        by_cases hE : memDoE (trMs c (l.take j)) xo = 0
                        · rw [decide_eq_true hE, Bool.true_and] at hgd
                          by_cases hV : memDoV (trMs c (l.take j)) xo = xr
                          · rw [decide_eq_true hV] at hgd
                            have hgo2 : ∀ k, k < j + 1 → goodC c (ps.map (·.1)) l k = true := fun k hk => by
                              by_cases e : k = j
                              · subst e; exact hgd
                              · exact hgo k (by omega)
                            repeat (first | rintro _ _ ⟨rfl, rfl⟩ | refine exq fun _ => ?_ | intro _ | refine go ?_ | refine drq ?_ | refine cal @hD ?_)
                            refine WE_loop (j + 1) (by omega) ⟨by omega, hgo2⟩ ?_ ?_
                            · (repeat (first | exact Sub.nil | (refine Sub.cons (by first | rfl | (simp only [Nat.zero_add]; rfl)) ?_)))
                            · rw [hst]; exact entu0
                          · obtain ⟨f1, f2⟩ := hbi (by rw [hgd]; exact decide_eq_false hV)
                            rw [f1, if_neg f2]
                            repeat (first | rintro _ _ ⟨rfl, rfl⟩ | refine exq fun _ => ?_ | intro _ | refine go ?_ | refine drq ?_ | refine cal @hD ?_)
                            exact fin0
                        · obtain ⟨f1, f2⟩ := hbi (by rw [hgd, decide_eq_false hE]; rfl)
                          rw [f1, if_neg f2]
                          repeat (first | rintro _ _ ⟨rfl, rfl⟩ | refine exq fun _ => ?_ | intro _ | refine go ?_ | refine drq ?_ | refine cal @hD ?_)
                          exact fin0
                      · obtain ⟨f1, f2⟩ := hbi (by rw [hgd, decide_eq_false ho]; rfl)
                        have ho' : oc ps[kc].1[q] ≠ oc xo := fun h => ho (by
                          have h1 : ∀ a b : Op3, oc a = oc b → a = b := fun ⟨a1, a2, a3⟩ ⟨b1, b2, b3⟩ h => by simp only [oc, List.cons.injEq, Value.int.injEq, true_and, and_true] at h; obtain ⟨rfl, rfl, rfl⟩ := h; rfl
                          exact (h1 _ _ h).symm)
                        rw [f1, if_neg f2]
                        repeat (first | rintro _ _ ⟨rfl, rfl⟩ | refine exq fun _ => ?_ | intro _ | refine go ?_ | refine drq ?_)
                        exact fin0
                    · obtain ⟨f1, f2⟩ := hbi (by rw [hgd, hp, decide_eq_false (show ¬ (q : Int) < (ps[kc].1.length : Int) by omega)]; simp)
                      rw [f1, if_neg f2]
                      repeat (first | rintro _ _ ⟨rfl, rfl⟩ | refine exq fun _ => ?_ | intro _ | refine go ?_ | refine drq ?_)
                      exact fin0
                  · obtain ⟨f1, f2⟩ := hbi (by rw [hgd, decide_eq_false hp]; simp)
                    rw [f1, if_neg f2]
                    repeat (first | rintro _ _ ⟨rfl, rfl⟩ | refine exq fun _ => ?_ | intro _ | refine go ?_ | refine drq ?_)
                    simp only [hkc]
                    repeat (first | rintro _ _ ⟨rfl, rfl⟩ | refine exq fun _ => ?_ | intro _ | refine go ?_ | refine drq ?_)
                    exact fin0
        · have hil : i = l.length := by omega
          subst hil
          have f1 := chkN_all hgo
          rw [f1, if_pos rfl]
          repeat (first | rintro _ _ ⟨rfl, rfl⟩ | refine exq fun _ => ?_ | intro _ | refine go ?_ | refine drq ?_)
          exact fin0
    · refine FnF.mk' Try.func10 rfl rfl Try.ntmps10 rfl ?_
      repeat (first | rintro _ _ ⟨rfl, rfl⟩ | refine exq fun _ => ?_ | intro _ | refine go ?_ | refine drq ?_ | refine cal @hCk ?_)
      (apply WE_ret rfl rfl (by (repeat (first | exact ResOk.nil | (apply ResOk.tmp; rfl) | (apply resOk_cell; rfl; exact inferInstance; rfl; rfl)))); (first | exact ⟨rfl, rfl⟩ | exact ⟨congrArg Value.bool (by decide), rfl⟩ | exact ⟨_, rfl, rfl⟩ | exact ⟨_, _, rfl, rfl⟩ | exact ⟨by first | (simp [chkV, chkE, chkOk, hck, hlen]; done) | (simp [chkV, chkE, chkOk, hck, hlen] <;> omega), rfl⟩); (repeat (first | exact Ent.refl | exact Ent.nil | apply Ent.pick | apply Ent.drop)))
theorem law19_own {F : List HP} {v : Value} {l : List Com} (k : RdL F 6 v l.length (flat cmc l)) (hn : l.length ≤ 1000000000) : FnF Try.prog 11 [v] [] F (fun r L' => ∃ p c, r = .slice p l.length c ∧ L' = [Own 96 6 (.slice p l.length c) l.length (flat cmc l)]) := by
  refine FnF.mk' Try.func11 rfl rfl Try.ntmps11 rfl ?_
  repeat (first | rintro _ _ ⟨rfl, rfl⟩ | refine exq fun _ => ?_ | intro _ | refine go ?_ | refine drq ?_)
  apply WC_loopE (E0 := [(6, _), (7, _)]) (fun E0 (q : Nat × Option Addr × Nat) => (8, .int .i64 q.1) :: (3, .slice q.2.1 q.1 q.2.2) :: E0) (fun q => Own 96 6 (.slice q.2.1 q.1 q.2.2) q.1 (flat cmc (l.take q.1)) :: F) (fun q => q.1 ≤ l.length) (fun q => l.length - q.1) (0, none, 0)
  · (repeat (first | exact Sub.nil | (refine Sub.cons (by first | rfl | (simp only [Nat.zero_add]; rfl)) ?_)))
  · exact Nat.zero_le _
  · refine Ent.trans ?_ (own_empty Ent.refl)
    exact entu0
  · rintro ⟨i, p', c'⟩ hi
    dsimp only at hi ⊢
    by_cases hlt : i < l.length
    · repeat (first | rintro _ _ ⟨rfl, rfl⟩ | refine exq fun _ => ?_ | intro _ | refine go ?_ | refine drq ?_)
      rename_i b1 b2 p2 c2
      refine WE_loop (i + 1, p2, c2) (by dsimp only; omega) (by dsimp only; omega) ?_ ?_
      · (repeat (first | exact Sub.nil | (refine Sub.cons (by first | rfl | (simp only [Nat.zero_add]; rfl)) ?_)))
      · dsimp only
        rw [List.take_add_one, List.getElem?_eq_getElem hlt, Option.toList_some, flat_append, flat_one]
        exact entu0
    · have hil : i = l.length := by omega
      subst hil
      rw [List.take_length]
      repeat (first | rintro _ _ ⟨rfl, rfl⟩ | refine exq fun _ => ?_ | intro _ | refine go ?_ | refine drq ?_)
      (apply WE_ret rfl rfl (by (repeat (first | exact ResOk.nil | (apply ResOk.tmp; rfl) | (apply resOk_cell; rfl; exact inferInstance; rfl; rfl)))))
      · exact ⟨p', c', rfl, rfl⟩
      · exact entu0
end Go.Sx
