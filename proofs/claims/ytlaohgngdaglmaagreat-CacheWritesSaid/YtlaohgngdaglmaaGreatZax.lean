/- CaWr: several of my texts as one. My own work. -/
import Derived.Test.YtlaohgngdaglmaaGreatZaw
import Derived.Test.YtlaohgngdaglmaaGreatZat
/- The law of caches: what is told to others is what was written last. My own work. -/
namespace Go.Sx
open Go Go.Proofs
set_option linter.unusedVariables false
set_option linter.unusedSectionVars false
set_option linter.unusedSimpArgs false
theorem wr_splice {w : Words} {i : Nat} (hi : i < 8) (v : Int) : splice (wc w) (0 + ((i : Nat) : Int).toNat * 1) [.int .i64 v] = wc (Words.of (w.list.set i v)) := by
  rw [Nat.zero_add, Nat.mul_one, Int.toNat_natCast]
  rw [show wc w = flat ic w.list from rfl, splice_ic (ms := w.list) hi, flat_of (by rw [List.length_set]; rfl)]
theorem wr_cell (w : Words) (i : Nat) (h : i < 8) : (wc w)[0 + ((i : Nat) : Int).toNat * 1]? = some (.int .i64 (w.list.getD i 0)) := by
  rw [Nat.zero_add, Nat.mul_one, Int.toNat_natCast, show wc w = flat ic w.list from rfl, flat_ic_get (ms := w.list) h]
  rw [List.getD_eq_getElem?_getD, List.getElem?_eq_getElem (show i < w.list.length from h)]; rfl
theorem wr_cellW (y : Way) (j : Nat) (h : j < 8) : (wyc y)[2 + ((j : Nat) : Int).toNat * 1]? = some (.int .i64 (y.words.list.getD j 0)) := by
  rw [Nat.mul_one, Int.toNat_natCast]
  match j, h with
  | 0, _ => rfl
  | 1, _ => rfl
  | 2, _ => rfl
  | 3, _ => rfl
  | 4, _ => rfl
  | 5, _ => rfl
  | 6, _ => rfl
  | 7, _ => rfl
set_option maxRecDepth 100000
set_option maxHeartbeats 4000000
attribute [local irreducible] Go.Exit.then Go.Exit.inBlock Go.Code.wp WC WO WE WQ V LoopQ FnQ Sat Star band bor IntKind.wrap WR Code.rounds WT KO
theorem law14_Writes {W : World} {F : List HP} {c : Cfg} {v : Value} {l : List CStep} {core who : Int} {x : Op3} {ev : Bool} (hc : c.wf) (hco : I64 core) (hx : x.wf) (hwho : I64 who) (hl : l.length ≤ 9223372036854775807) (k : ROld W 21 v l.length (flat csc l)) (hwf : ∀ x ∈ l, CStep.wf x) :
    FnF Tryz.prog 5 [c.val, .int .i64 core, v, ov x, .int .i64 who, .bool ev] [Old W] F (fun r L' => r = .bool true ∧ L' = [Old W]) := by
  refine FnF.mk' Tryz.func5 rfl rfl Tryz.ntmps5 rfl ?_
  have hLg := fun F => law14_large (F := F) (c := c)
  by_cases hm : 60 < l.length
  · repeat (first | rintro _ _ ⟨rfl, rfl⟩ | refine exq fun _ => ?_ | intro _ | refine go ?_ | refine drq ?_ | refine cal @law14_awake ?_)
    exact fin0
  · cases hL : largeB c with
    | true =>
      rw [hL] at hLg
      repeat (first | rintro _ _ ⟨rfl, rfl⟩ | refine exq fun _ => ?_ | intro _ | refine go ?_ | refine drq ?_ | refine cal @law14_awake ?_ | refine cal @hLg ?_)
      exact fin0
    | false =>
      rw [hL] at hLg
      by_cases he : checkB c = true ∧ 0 ≤ core ∧ core < c.cores
      · have hN := fun F => ca_New (F := F) hc he
        repeat (first | rintro _ _ ⟨rfl, rfl⟩ | refine exq fun _ => ?_ | intro _ | refine go ?_ | refine drq ?_ | refine cal @law14_awake ?_ | refine cal @hLg ?_ | refine cal @hN ?_)
        rename_i bx bo b
        apply WC_loopE (E0 := [(1, _), (4, _), (5, _), (6, _), (9, _), (13, _), (57, _), (58, _)]) (fun E0 (i : Nat) => (59, .int .i64 i) :: E0) (fun i => CaP b c core (stKs c core ⟨List.replicate (c.sets * c.ways).toNat .zero, [], []⟩ (l.take i)) :: Cells bx 24 c.cells :: Cells bo 43 (oc x) :: Old W :: F) (fun i => i ≤ l.length) (fun i => l.length - i) 0
        · (repeat (first | exact Sub.nil | (refine Sub.cons (by first | rfl | (simp only [Nat.zero_add]; rfl)) ?_)))
        · exact Nat.zero_le _
        · simp only [List.take_zero, stKs, List.foldl_nil]; exact entu0
        · intro i hi
          have hI := stKs_inv (core := core) (l := l) (caInv_new c 0 (c.sets * c.ways).toNat) i hi
          by_cases hlt : i < l.length
          · have hx := hwf l[i] (List.getElem_mem hlt)
            have hsu := stKs_succ (c := c) (core := core) (k := ⟨List.replicate (c.sets * c.ways).toNat .zero, [], []⟩) hlt
            generalize stKs c core ⟨List.replicate (c.sets * c.ways).toNat .zero, [], []⟩ (l.take i) = ki at *
            have hD := fun F => law14_do (F := F) (b := b) (core := core) hI (by omega) hx
            repeat (first | rintro _ _ ⟨rfl, rfl⟩ | refine exq fun _ => ?_ | intro _ | refine go ?_ | refine drq ?_ | refine cal @hD ?_)
            refine WE_loop (i + 1) (by omega) hlt ?_ ?_
            · (repeat (first | exact Sub.nil | (refine Sub.cons (by first | rfl | (simp only [Nat.zero_add]; rfl)) ?_)))
            · rw [hsu]; exact entu0
          · have hj := stKs_j (core := core) (l := l) (caInv_new c 0 (c.sets * c.ways).toNat) (j_new c (c.sets * c.ways).toNat) i hi
            generalize stKs c core ⟨List.replicate (c.sets * c.ways).toNat .zero, [], []⟩ (l.take i) = kn at *
            have hAd := fun F => split_Addr (F := F) (c := c) (a := x.addr) hc hx.2.1
            have hLook := fun F => ca_Look (F := F) (b := b) (c := c) (core := core) (k := kn) (addr_i64 (c := c) (a := x.addr))
            have hDo := fun F => ca_Do (F := F) (b := b) (c := c) (core := core) (k := kn) hx
            by_cases hE : caDoE c kn x = 0
            · obtain ⟨y, j, hv, hj8, ej, eE, hok, hkk, hk1, hkn, hk3⟩ := do_wrote hI.1 hj hE
              have hI1 := do_inv (x := x) hI
              have hj1 := j_do (x := x) hI.1 hj
              have hfw : findW c kn.ways (addrL c x.addr) = y := (vw_some hv).2.2.2.2
              have hLook1 := fun F => ca_Look (F := F) (b := b) (c := c) (core := core) (k := caDoK c kn x) (addr_i64 (c := c) (a := x.addr))
              have hg := wr_cellW y j hj8
              have hle : Nat.ble (0 + ((j : Nat) : Int).toNat * 1 + 1) (wc y.words).length = true := by
                apply Nat.ble_eq_true_of_le
                simp; omega
              obtain ⟨z, hz, hzw, hzs⟩ : ∃ z, vw c (caDoK c kn x).ways (addrL c x.addr) = some z ∧ (x.kind = 1 → z = y) ∧ (x.kind ≠ 1 → z.st = 4 ∧ z.words = Words.of (y.words.list.set j x.value)) := by
                by_cases q : x.kind = 1
                · exact ⟨y, by rw [(hk1 q).1]; exact hv, fun _ => rfl, fun q2 => absurd q q2⟩
                · exact ⟨_, hkn q, fun q2 => absurd q2 q, fun _ => ⟨rfl, rfl⟩⟩
              have hfz : findW c (caDoK c kn x).ways (addrL c x.addr) = z := (vw_some hz).2.2.2.2
              have hH : 2 ≤ z.st → Holds c (caDoK c kn x) (addrL c x.addr) z.words := fun q => .inl ⟨z, hz, q, rfl⟩
              simp only [hfw] at hLook
              simp only [hfz] at hLook1
              simp only [hE] at hDo
              simp only [ej, eE] at hAd
              have hV1 : x.kind = 1 → caDoV c kn x = y.words.list.getD j 0 := fun q => (hk1 q).2
              clear hk1 hkn hfw hfz
              generalize caDoK c kn x = k1 at *
              generalize caDoV c kn x = nv at *
              generalize addrL c x.addr = line at *
              have hh := homes_pos he.1
              have hwy := (check_facts he.1).2.2.2.2.2
              have hss : 1 ≤ c.sets := by
                obtain ⟨_, _, ⟨ks, hks, es⟩, _⟩ := check_facts he.1
                have := (pow_bd hks).1
                rw [es]; exact this
              have hs4 := okLine_i64 hok
              rcases hkk with q | q | q
              all_goals first
                | (have q1 : x.kind = 1 := q
                   obtain rfl := hzw q1
                   obtain rfl := hV1 q1
                   (repeat (first | rintro _ _ ⟨rfl, rfl⟩ | refine exq fun _ => ?_ | intro _ | refine go ?_ | refine drq ?_ | refine cal @hAd ?_ | refine cal @hLook ?_ | refine cal @hDo ?_ | refine cal @hLook1 ?_)))
                | (have q2 : x.kind = 2 := q
                   obtain ⟨z4, zw⟩ := hzs (by omega)
                   (repeat (first | rintro _ _ ⟨rfl, rfl⟩ | refine exq fun _ => ?_ | intro _ | refine go ?_ | refine drq ?_ | refine cal @hAd ?_ | refine cal @hLook ?_ | refine cal @hDo ?_ | refine cal @hLook1 ?_))
                   refine WO_k rfl (K_store (cs := [.int .i64 x.value]) rfl rfl inferInstance rfl rfl rfl hle) (same_intro ?_)
                   rw [wr_splice hj8, ← zw]
                   (repeat (first | rintro _ _ ⟨rfl, rfl⟩ | refine exq fun _ => ?_ | intro _ | refine go ?_ | refine drq ?_)))
                | (have q3 : x.kind = 3 := q
                   obtain ⟨z4, zw⟩ := hzs (by omega)
                   obtain rfl := hk3 q3
                   (repeat (first | rintro _ _ ⟨rfl, rfl⟩ | refine exq fun _ => ?_ | intro _ | refine go ?_ | refine drq ?_ | refine cal @hAd ?_ | refine cal @hLook ?_ | refine cal @hDo ?_ | refine cal @hLook1 ?_))
                   refine WO_k rfl (K_store (cs := [.int .i64 x.value]) rfl rfl inferInstance rfl rfl rfl hle) (same_intro ?_)
                   rw [wr_splice hj8, ← zw]
                   (repeat (first | rintro _ _ ⟨rfl, rfl⟩ | refine exq fun _ => ?_ | intro _ | refine go ?_ | refine drq ?_)))
              all_goals
                rename_i bb bw bt
                by_cases g2 : z.st < 2
                · repeat (first | rintro _ _ ⟨rfl, rfl⟩ | refine exq fun _ => ?_ | intro _ | refine go ?_ | refine drq ?_)
                  exact fin0
                · by_cases g3 : who < 0
                  · repeat (first | rintro _ _ ⟨rfl, rfl⟩ | refine exq fun _ => ?_ | intro _ | refine go ?_ | refine drq ?_)
                    exact fin0
                  · by_cases g4 : who ≥ c.cores
                    · repeat (first | rintro _ _ ⟨rfl, rfl⟩ | refine exq fun _ => ?_ | intro _ | refine go ?_ | refine drq ?_)
                      exact fin0
                    · by_cases g5 : who = core
                      · repeat (first | rintro _ _ ⟨rfl, rfl⟩ | refine exq fun _ => ?_ | intro _ | refine go ?_ | refine drq ?_)
                        exact fin0
                      · repeat (first | rintro _ _ ⟨rfl, rfl⟩ | refine exq fun _ => ?_ | intro _ | refine go ?_ | refine drq ?_)
                        have hH' := hH (by omega)
                        apply WC_loopE (E0 := [(1, _), (4, _), (5, _), (6, _), (13, _), (17, _), (26, _)]) (fun E0 (q : Nat × CaS) => (27, .int .i64 q.1) :: E0) (fun q => CaP b c core q.2 :: Cells bt 36 (wc z.words) :: Cells bx 24 c.cells :: Old W :: F) (fun q => q.1 ≤ c.ways.toNat ∧ CaInv c i q.2 ∧ CaJ c q.2 ∧ Holds c q.2 line z.words) (fun q => c.ways.toNat - q.1) (0, k1)
                        · (repeat (first | exact Sub.nil | (refine Sub.cons (by first | rfl | (simp only [Nat.zero_add]; rfl)) ?_)))
                        · exact ⟨Nat.zero_le _, hI1, hj1, hH'⟩
                        · exact entu0
                        · rintro ⟨q, kq⟩ ⟨hq, hIq, hjq, hHq⟩
                          dsimp only at hq hIq hjq hHq ⊢
                          by_cases hgo : ev = true ∧ (q : Int) < c.ways
                          · obtain ⟨hev, hqw⟩ := hgo
                            subst hev
                            have hWay := fun F => ca_Way (F := F) (b := b) (c := c) (core := core) (s := line.tmod c.sets) (w := q) (k := kq)
                            have hEv := fun F => ca_Evict (F := F) (b := b) (c := c) (core := core) (s := line.tmod c.sets) (w := q) (k := kq) hIq.1
                            by_cases hat : (atW c kq.ways (line.tmod c.sets) q).line = line
                            · have hH2 := holds_ev hIq.1 hjq hHq hat
                              have hI2 := ev_inv (s := line.tmod c.sets) (w := q) hIq
                              have hj2 := j_ev (s := line.tmod c.sets) (w := q) hIq.1 hjq
                              repeat (first | rintro _ _ ⟨rfl, rfl⟩ | refine exq fun _ => ?_ | intro _ | refine go ?_ | refine drq ?_ | refine cal @hWay ?_ | refine cal @hEv ?_)
                              refine WE_loop (q + 1, caEvK c kq (line.tmod c.sets) q) (by dsimp only; omega) ⟨by dsimp only; omega, hI2, hj2, hH2⟩ ?_ ?_
                              · dsimp only; (repeat (first | exact Sub.nil | (refine Sub.cons (by first | rfl | (simp only [Nat.zero_add]; rfl)) ?_)))
                              · dsimp only; exact entu0
                            · repeat (first | rintro _ _ ⟨rfl, rfl⟩ | refine exq fun _ => ?_ | intro _ | refine go ?_ | refine drq ?_ | refine cal @hWay ?_)
                              refine WE_loop (q + 1, kq) (by dsimp only; omega) ⟨by dsimp only; omega, hIq, hjq, hHq⟩ ?_ ?_
                              · dsimp only; (repeat (first | exact Sub.nil | (refine Sub.cons (by first | rfl | (simp only [Nat.zero_add]; rfl)) ?_)))
                              · dsimp only; exact entu0
                          · obtain ⟨p1, p2, p3, p4⟩ := ca_pre hIq (by omega)
                            have ok4 := fwd_ok (c := c) (core := core) (line := line) (who := who) (kind := 4) hok he.2 ⟨by omega, by omega⟩ g5 (.inl rfl)
                            have ok5 := fwd_ok (c := c) (core := core) (line := line) (who := who) (kind := 5) hok he.2 ⟨by omega, by omega⟩ g5 (.inr rfl)
                            obtain ⟨a1, a2, a3, a4⟩ := take_share ok4 hHq
                            have hIa := tell_inv (line := line) (st := 3) (g := false) hIq
                            have hja := j_tell (line := line) (st := 3) (g := false) hIq.1 hjq
                            have hHa := holds_share hIq.1 hjq hHq
                            obtain ⟨b1, b2, b3, b4⟩ := take_give ok5 hHa
                            have hIb := tell_inv (line := line) (st := 0) (g := true) hIa
                            have hEb := take_no ok4 (holds_give hIa.1 hja hHa)
                            have hT1 := fun F => ca_Take (F := F) (b := b) (c := c) (core := core) (k := kq) (m := ⟨4, line, line.tmod c.homes, core, who, 0, 0, .zero⟩) p1
                            rw [a1, a2, a3, a4] at hT1
                            have hT2 := fun F => ca_Take (F := F) (b := b) (c := c) (core := core) (k := caTellK c kq line 3 false) (m := ⟨5, line, line.tmod c.homes, core, who, 0, 0, .zero⟩) (ca_pre hIa (by omega)).1
                            rw [b1, b2, b3, b4] at hT2
                            have hT3 := fun F => ca_Take (F := F) (b := b) (c := c) (core := core) (k := caTellK c (caTellK c kq line 3 false) line 0 true) (m := ⟨4, line, line.tmod c.homes, core, who, 0, 0, .zero⟩) (ca_pre hIb (by omega)).1
                            rw [hEb] at hT3
                            cases ev with
                            | false =>
                              repeat (first | rintro _ _ ⟨rfl, rfl⟩ | refine exq fun _ => ?_ | intro _ | refine go ?_ | refine drq ?_ | refine cal @hT1 ?_ | refine cal @hT2 ?_ | refine cal @hT3 ?_)
                              exact fin0
                            | true =>
                              have hqe : ¬ (q : Int) < c.ways := fun g => hgo ⟨rfl, g⟩
                              repeat (first | rintro _ _ ⟨rfl, rfl⟩ | refine exq fun _ => ?_ | intro _ | refine go ?_ | refine drq ?_ | refine cal @hT1 ?_ | refine cal @hT2 ?_ | refine cal @hT3 ?_)
                              exact fin0
            · have hV : caDoV c kn x = 0 := if_neg hE
              rw [hV] at hDo
              generalize caDoE c kn x = ex at *
              by_cases ha : addrE c x.addr = 0
              · repeat (first | rintro _ _ ⟨rfl, rfl⟩ | refine exq fun _ => ?_ | intro _ | refine go ?_ | refine drq ?_ | refine cal @hAd ?_ | refine cal @hLook ?_ | refine cal @hDo ?_)
                exact fin0
              · repeat (first | rintro _ _ ⟨rfl, rfl⟩ | refine exq fun _ => ?_ | intro _ | refine go ?_ | refine drq ?_ | refine cal @hAd ?_ | refine cal @hLook ?_ | refine cal @hDo ?_)
                exact fin0
      · have hN := fun F => ca_New_no (F := F) hc he
        repeat (first | rintro _ _ ⟨rfl, rfl⟩ | refine exq fun _ => ?_ | intro _ | refine go ?_ | refine drq ?_ | refine cal @law14_awake ?_ | refine cal @hLg ?_ | refine cal @hN ?_)
        exact fin0
end Go.Sx
