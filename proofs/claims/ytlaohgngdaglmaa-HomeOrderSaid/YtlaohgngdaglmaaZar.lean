/- HomOrd: several of my texts as one. My own work. -/
import Derived.Test.YtlaohgngdaglmaaZaq
import Derived.Test.YtlaohgngdaglmaaZap
import Derived.Test.YtlaohgngdaglmaaZad
/- The law of homes: in order. My own work. -/
namespace Go.Sx
open Go Go.Proofs
set_option linter.unusedVariables false
set_option linter.unusedSectionVars false
set_option linter.unusedSimpArgs false
theorem qinv_step {c : Cfg} {num : Int} {s : HomS} (h : QInv s.q) (x : HStep) : QInv (hsS c num s x).q := by
  have hq := fun (d : Int) (n : Int) (m : Msg) (ss : List Msg) => qinv_do (room := c.buffer) (x := ⟨d, n, m, ss, none, 0⟩) h
  unfold hsS
  split
  · unfold hmAccS
    split
    · exact hq 0 0 x.m []
    · exact h
  · split
    · unfold hmWorkS
      split
      · unfold hmStartS
        split
        · exact hq 1 x.n .zero _
        · exact qinv_erase h
      · split
        · exact hq 2 x.n .zero []
        · exact h
    · unfold hmDoneS
      split
      · exact hq 3 0 x.m []
      · exact h
theorem qinv_K {c : Cfg} {num : Int} (l : List HStep) (i : Nat) (hi : i ≤ l.length) : QInv (hsK c num (l.take i)).q := by
  induction i with
  | zero => exact qinv_nil
  | succ i ih => rw [hsK_step (by omega)]; exact qinv_step (ih (by omega)) _
theorem oC_len (line : Int) (q : List QE) : (oC line q).length ≤ q.length := by
  unfold oC; rw [List.length_map]; exact List.length_filter_le _ _
theorem oC_take {line : Int} {q : List QE} {j : Nat} (hj : j < q.length) : (oC line (q.take (j + 1))).length = (oC line (q.take j)).length + if q[j].m.line = line ∧ q[j].st = false then 1 else 0 := by
  rw [List.take_add_one, List.getElem?_eq_getElem hj, Option.toList_some, oC_app, oC_cons, List.length_append]
  split <;> rfl
theorem of_rep (n : Nat) : Words.of (List.replicate n 0) = .zero := by
  have h : ∀ i, (List.replicate n (0 : Int)).getD i 0 = 0 := fun i => by
    rw [List.getD_eq_getElem?_getD, List.getElem?_replicate]
    split <;> rfl
  unfold Words.of
  simp only [h]
theorem new_line (c : Cfg) (num line : Int) : hmLine c (hmNew c num) line = .zero := by
  unfold hmLine
  split
  · unfold lineWo
    split
    · unfold lineL hmNew
      rw [List.drop_replicate, List.take_replicate]
      exact of_rep _
    · rfl
  · rfl
set_option maxRecDepth 100000
set_option maxHeartbeats 4000000
attribute [local irreducible] Go.Exit.then Go.Exit.inBlock Go.Code.wp WC WO WE WQ V LoopQ FnQ Sat Star band bor IntKind.wrap WR Code.rounds WT KO
theorem dr_HomOrd_5M {Q P : Prop} (k : Q) (h : Hid Q → P := by
  intro k
  first
  | (refine is_draw ?_; apply WC_mix (id := 30) (.only [10]) _ (pl := .p 1 <| .p 2 <| .r 0 <| .r 3 <| .r 4 <| .e true [(5, .p 6 <| .p 7 <| .p 8 <| .e true [(9, .e true [(10, .n [] <| .p 11 <| .done)])]), (9, .e true [(5, .p 6 <| .p 7 <| .p 8 <| .e true [(10, .n [] <| .p 11 <| .done)])])]); exact mixed; kernel_rfl; kernel_rfl; exact Ent.refl; exact k.out)
  | (refine is_draw ?_; apply WC_mix (id := 35) .true _ (pl := .p 0 <| .p 2 <| .p 3 <| .p 6 <| .p 7 <| .r 4 <| .e true [(1, .e true [(5, .e false [(8, .p 9 <| .p 10 <| .done)])]), (5, .e false [(1, .e false [(8, .p 9 <| .p 10 <| .done)])])]); exact mixed; kernel_rfl; kernel_rfl; exact Ent.refl; exact k.out)) : P := h ⟨k⟩
theorem law16_Order {W : World} {F : List HP} {c : Cfg} {num line : Int} {v : Value} {l : List HStep} (hc : c.wf) (hnu : I64 num) (hli : I64 line) (hl : l.length ≤ 9223372036854775807) (k : ROld W 20 v l.length (flat hsc l)) (hwf : ∀ x ∈ l, HStep.wf x) :
    FnF Try.prog 5 [c.val, .int .i64 num, v, .int .i64 line] [Old W] F (fun r L' => r = .bool true ∧ L' = [Old W]) := by
  have hLg := fun F => law16_large (F := F) (c := c)
  refine FnF.mk' Try.func5 rfl rfl Try.ntmps5 rfl ?_
  by_cases hm : 60 < l.length
  · repeat (first | rintro _ _ ⟨rfl, rfl⟩ | refine exq fun _ => ?_ | intro _ | refine go ?_ | refine dr_HomOrd_5M ?_ | refine drq ?_ | refine cal @law16_awake ?_)
    exact fin0
  · cases hL : hLarge c with
    | true =>
      rw [hL] at hLg
      repeat (first | rintro _ _ ⟨rfl, rfl⟩ | refine exq fun _ => ?_ | intro _ | refine go ?_ | refine dr_HomOrd_5M ?_ | refine drq ?_ | refine cal @law16_awake ?_ | refine cal @hLg ?_)
      exact fin0
    | false =>
      rw [hL] at hLg
      cases he : newOk c num with
      | false =>
        have hN := fun F => hm_New_no (F := F) hc he
        repeat (first | rintro _ _ ⟨rfl, rfl⟩ | refine exq fun _ => ?_ | intro _ | refine go ?_ | refine dr_HomOrd_5M ?_ | refine drq ?_ | refine cal @law16_awake ?_ | refine cal @hLg ?_ | refine cal @hN ?_)
        exact fin0
      | true =>
        have hN := fun F => hm_New (F := F) hc he
        have hI0 := hmI_new he
        have hEt0 := fun F b => hm_Entry (F := F) (b := b) (c := c) (num := num) (s := hmNew c num) (line := line) (fun e he => (hI0.may _ e he).1)
        have hown := hI0.own line
        by_cases hok : ownL c num line
        · rw [decide_eq_true hok] at hown
          rw [hown] at hEt0
          repeat (first | rintro _ _ ⟨rfl, rfl⟩ | refine exq fun _ => ?_ | intro _ | refine go ?_ | refine dr_HomOrd_5M ?_ | refine drq ?_ | refine cal @law16_awake ?_ | refine cal @hLg ?_ | refine cal @hN ?_ | refine cal @hEt0 ?_)
          rename_i bx b a0 k0 b11 b13
          apply WC_loopE (E0 := [(3, _), (9, _), (11, _), (13, _), (55, _), (56, _)]) (fun E0 (q : Nat × List Msg × (Option Addr × Nat) × (Option Addr × Nat) × (Option Addr × Nat) × (Option Addr × Nat)) => (57, .int .i64 q.1) :: (14, .slice q.2.2.2.1.1 (oC line (hsK c num (l.take q.1)).q).length q.2.2.2.1.2) :: (16, .slice q.2.2.2.2.1.1 q.2.1.length q.2.2.2.2.1.2) :: (15, .slice q.2.2.2.2.2.1 (q.2.1 ++ oP line (hsK c num (l.take q.1)).q).length q.2.2.2.2.2.2) :: E0)
            (fun q => HomP b c num (hsK c num (l.take q.1)) :: Cells b11 52 (tec (hmEnt (hsK c num (l.take q.1)) line) q.2.2.1.1 q.2.2.1.2) :: Own 3 1 (.slice q.2.2.1.1 (hmEnt (hsK c num (l.take q.1)) line).s.ps.length q.2.2.1.2) (hmEnt (hsK c num (l.take q.1)) line).s.ps.length (flat ic (hmEnt (hsK c num (l.take q.1)) line).s.ps)
              :: Cells b13 56 (wc (hmLine c (hsK c num (l.take q.1)) line)) :: TlS 59 15 (.slice q.2.2.2.1.1 (oC line (hsK c num (l.take q.1)).q).length q.2.2.2.1.2) (oC line (hsK c num (l.take q.1)).q).length (flat mc (oC line (hsK c num (l.take q.1)).q))
              :: Own 59 15 (.slice q.2.2.2.2.1.1 q.2.1.length q.2.2.2.2.1.2) q.2.1.length (flat mc q.2.1) :: Own 59 15 (.slice q.2.2.2.2.2.1 (q.2.1 ++ oP line (hsK c num (l.take q.1)).q).length q.2.2.2.2.2.2) (q.2.1 ++ oP line (hsK c num (l.take q.1)).q).length (flat mc (q.2.1 ++ oP line (hsK c num (l.take q.1)).q)) :: Old W :: F)
            (fun q => q.1 ≤ l.length ∧ q.2.1.length ≤ q.1 ∧ (q.2.1 ++ oP line (hsK c num (l.take q.1)).q).length ≤ 1000 * q.1) (fun q => l.length - q.1) (0, [], (a0, k0), (none, 0), (none, 0), (none, 0))
          · (repeat (first | exact Sub.nil | (refine Sub.cons (by first | rfl | (simp only [Nat.zero_add]; rfl)) ?_)))
          · exact ⟨Nat.zero_le _, Nat.le_refl _, Nat.le_refl _⟩
          · dsimp only
            rw [List.take_zero, show hsK c num [] = hmNew c num from rfl, new_line]
            refine Ent.trans ?_ (Ent.cons (Ent.cons (Ent.cons (Ent.cons (tl_nil (own_empty (own_empty Ent.refl)))))))
            exact entu0
          · rintro ⟨i, sent, ⟨a, k⟩, ⟨pc, cc⟩, ⟨pt, ct⟩, ⟨ps, cs⟩⟩ ⟨hi, hsl, hpl⟩
            dsimp only at hi hsl hpl ⊢
            by_cases hlt : i < l.length
            · obtain ⟨hI, ho, ho2⟩ := hsK_inv he l i hi
              have hQ := qinv_K (c := c) (num := num) l i hi
              have hst := hsK_step (c := c) (num := num) hlt
              have hwx := hwf _ (List.getElem_mem hlt)
              generalize hsK c num (l.take i) = s at hI ho ho2 hst hQ hpl ⊢
              have hI2 := hmI_step hI l[i]
              refine WC_memf' fun hml => ?_
              have hos := order_step hI hQ ho hml hok l[i]
              have hsn := hms_sent (x := l[i]) hI
              have hlen := hI.len
              have hlen2 := hI2.len
              have hroom := cfg_room' hI.ok
              have hoc := oC_len line s.q
              have hDo := fun F => law16_do (F := F) (b := b) (c := c) (num := num) (s := s) (x := l[i]) hc hI (by omega)
              generalize hsd : sent ++ oP line s.q = sd at hpl ⊢
              apply WO_join (P := Try.prog) (fun q : (Option Addr × Nat) × (Option Addr × Nat) => [(3, .int .i64 line), (9, .pointer (some ⟨b, 0, none⟩)), (11, .pointer (some ⟨b11, 0, none⟩)), (13, .pointer (some ⟨b13, 0, none⟩)), (55, v), (56, .int .i64 l.length), (57, .int .i64 i), (14, .slice q.1.1 (oC1 c num s l[i] line).length q.1.2), (16, .slice q.2.1 (oS1 s l[i] line sent).length q.2.2), (15, .slice ps sd.length cs), (20, .int .i64 0), (98, .pointer (some ⟨b, 0, none⟩))])
                (fun q => HomP b c num (hsS c num s l[i]) :: TlS 59 15 (.slice q.1.1 (oC1 c num s l[i] line).length q.1.2) (oC1 c num s l[i] line).length (flat mc (oC1 c num s l[i] line)) :: Own 59 15 (.slice q.2.1 (oS1 s l[i] line sent).length q.2.2) (oS1 s l[i] line sent).length (flat mc (oS1 s l[i] line sent))
                  :: Own 59 15 (.slice ps sd.length cs) sd.length (flat mc sd) :: Cells b11 52 (tec (hmEnt s line) a k) :: Own 3 1 (.slice a (hmEnt s line).s.ps.length k) (hmEnt s line).s.ps.length (flat ic (hmEnt s line).s.ps) :: Cells b13 56 (wc (hmLine c s line)) :: Old W :: F) (fun _ => True)
              · intro join
                by_cases hc1 : l[i].d = 0 ∧ hsE c num s l[i] = 0 ∧ l[i].m.line = line
                · have e1 : oC1 c num s l[i] line = oC line s.q ++ [l[i].m] := if_pos hc1
                  have hB : hsB s l[i] = false := if_pos hc1.1
                  have e2 : oS1 s l[i] line sent = sent := if_neg (by rw [hB]; simp)
                  rw [e1, e2] at join
                  rw [hB] at hDo
                  obtain ⟨g1, g2, g3⟩ := hc1
                  simp only [List.length_append, List.length_singleton, flat_append, flat_one] at join
                  repeat (first | rintro _ _ ⟨rfl, rfl⟩ | refine exq fun _ => ?_ | intro _ | refine go ?_ | refine dr_HomOrd_5M ?_ | refine drq ?_ | refine cal @hDo ?_)
                  (first | refine WO_front (TlS 59 15 (.slice pc (oC line s.q).length cc) (oC line s.q).length (flat mc (oC line s.q))) ?_ | refine WC_front (TlS 59 15 (.slice pc (oC line s.q).length cc) (oC line s.q).length (flat mc (oC line s.q))) ?_ | refine WE_front (TlS 59 15 (.slice pc (oC line s.q).length cc) (oC line s.q).length (flat mc (oC line s.q))) ?_)
                  refine WO_k rfl (K_appendT (m := 1) rfl rfl (rd_lit inferInstance rfl rfl) (by omega) (by omega) rfl (by omega) rfl rfl) (gives_intro fun p' c' => ?_)
                  repeat (first | rintro _ _ ⟨rfl, rfl⟩ | refine exq fun _ => ?_ | intro _ | refine go ?_ | refine dr_HomOrd_5M ?_ | refine drq ?_ | refine cal @hDo ?_)
                  exact join ((p', c'), (pt, ct)) _ _ trivial (by (repeat (first | exact Sub.nil | (refine Sub.cons (by first | rfl | (simp only [Nat.zero_add]; rfl)) ?_)))) (by exact entu0)
                · have e1 : oC1 c num s l[i] line = oC line s.q := if_neg hc1
                  rw [e1] at join
                  by_cases hc2 : hsB s l[i] = true ∧ (hsM s l[i]).line = line
                  · have e2 : oS1 s l[i] line sent = sent ++ [hsM s l[i]] := if_pos hc2
                    have e3 : (oS1 s l[i] line sent).length = sent.length + 1 := by rw [e2]; simp
                    have e4 : flat mc (oS1 s l[i] line sent) = flat mc sent ++ mc (hsM s l[i]) := by rw [e2, flat_append, flat_one]
                    rw [e3, e4] at join
                    obtain ⟨g1, g2⟩ := hc2
                    have g3 := (hsn.1 g1).2.1
                    rw [g1] at hDo
                    generalize hsM s l[i] = mm at g2 join hDo
                    repeat (first | rintro _ _ ⟨rfl, rfl⟩ | refine exq fun _ => ?_ | intro _ | refine go ?_ | refine dr_HomOrd_5M ?_ | refine drq ?_ | refine cal @hDo ?_)
                    rename_i p' c'
                    refine join ((pc, cc), (p', c')) _ _ trivial ?_ ?_
                    · (repeat (first | exact Sub.nil | (refine Sub.cons (by first | rfl | (simp only [Nat.zero_add]; rfl)) ?_)))
                    · exact entu0
                  · have e2 : oS1 s l[i] line sent = sent := if_neg hc2
                    rw [e2] at join
                    cases hB : hsB s l[i] with
                    | true =>
                      have g3 := (hsn.1 hB).2.1
                      have g4 : ¬ (hsM s l[i]).line = line := fun h => hc2 ⟨hB, h⟩
                      rw [hB] at hDo
                      repeat (first | rintro _ _ ⟨rfl, rfl⟩ | refine exq fun _ => ?_ | intro _ | refine go ?_ | refine dr_HomOrd_5M ?_ | refine drq ?_ | refine cal @hDo ?_)
                      exact join ((pc, cc), (pt, ct)) _ _ trivial (by (repeat (first | exact Sub.nil | (refine Sub.cons (by first | rfl | (simp only [Nat.zero_add]; rfl)) ?_)))) (by exact entu0)
                    | false =>
                      rw [hB] at hDo
                      by_cases g1 : l[i].d = 0
                      · by_cases g2 : hsE c num s l[i] = 0
                        · have g3 : ¬ l[i].m.line = line := fun h => hc1 ⟨g1, g2, h⟩
                          repeat (first | rintro _ _ ⟨rfl, rfl⟩ | refine exq fun _ => ?_ | intro _ | refine go ?_ | refine dr_HomOrd_5M ?_ | refine drq ?_ | refine cal @hDo ?_)
                          exact join ((pc, cc), (pt, ct)) _ _ trivial (by (repeat (first | exact Sub.nil | (refine Sub.cons (by first | rfl | (simp only [Nat.zero_add]; rfl)) ?_)))) (by exact entu0)
                        · repeat (first | rintro _ _ ⟨rfl, rfl⟩ | refine exq fun _ => ?_ | intro _ | refine go ?_ | refine dr_HomOrd_5M ?_ | refine drq ?_ | refine cal @hDo ?_)
                          exact join ((pc, cc), (pt, ct)) _ _ trivial (by (repeat (first | exact Sub.nil | (refine Sub.cons (by first | rfl | (simp only [Nat.zero_add]; rfl)) ?_)))) (by exact entu0)
                      · repeat (first | rintro _ _ ⟨rfl, rfl⟩ | refine exq fun _ => ?_ | intro _ | refine go ?_ | refine dr_HomOrd_5M ?_ | refine drq ?_ | refine cal @hDo ?_)
                        exact join ((pc, cc), (pt, ct)) _ _ trivial (by (repeat (first | exact Sub.nil | (refine Sub.cons (by first | rfl | (simp only [Nat.zero_add]; rfl)) ?_)))) (by exact entu0)
              · rintro ⟨⟨pc2, cc2⟩, ⟨pt2, ct2⟩⟩ _
                dsimp only
                have hsl2 : (oS1 s l[i] line sent).length ≤ i + 1 := by unfold oS1; split <;> first | (simp; omega) | omega
                have hEt2 := fun F => hm_Entry (F := F) (b := b) (c := c) (num := num) (s := hsS c num s l[i]) (line := line) (fun e he => (hI2.may _ e he).1)
                have hLi2 := fun F => hm_Line (F := F) (b := b) (c := c) (num := num) (s := hsS c num s l[i]) (line := line) hc hli
                have hQ2 := fun F => hm_Queue (F := F) (b := b) (c := c) (num := num) (s := hsS c num s l[i])
                have hO2 := fun F => hm_Odd (F := F) (b := b) (c := c) (num := num) (s := hsS c num s l[i])
                have hl2 := ent_le hI2 line
                have hl1 := ent_le hI line
                have hos' := hos
                unfold OStep at hos'
                generalize hs2 : hsS c num s l[i] = s2 at hst hI2 hlen2 hEt2 hLi2 hQ2 hO2 hos' hl2 ⊢
                repeat (first | rintro _ _ ⟨rfl, rfl⟩ | refine exq fun _ => ?_ | intro _ | refine go ?_ | refine dr_HomOrd_5M ?_ | refine drq ?_ | refine cal @hQ2 ?_)
                rename_i pq cq
                (first | refine WO_front (QuL 68 (.slice pq s2.q.length cq) s2.q) ?_ | refine WC_front (QuL 68 (.slice pq s2.q.length cq) s2.q) ?_ | refine WE_front (QuL 68 (.slice pq s2.q.length cq) s2.q) ?_)
                refine ql_open fun qs hf => ?_
                have hlq : s2.q.length = qs.length := by rw [← hf, List.length_map]
                try simp only [hlq]
                apply WC_loopE (E0 := [(3, _), (9, _), (11, _), (13, _), (14, _), (15, _), (16, _), (55, _), (56, _), (57, _), (99, _), (100, _)]) (fun E0 (j : Nat) => (101, .int .i64 j) :: (20, .int .i64 (oC line (s2.q.take j)).length) :: E0) (fun _ => Own 68 17 (.slice pq qs.length cq) qs.length (flat qc qs) :: All (qs.map qrd) :: HomP b c num s2 :: TlS 59 15 (.slice pc2 (oC1 c num s l[i] line).length cc2) (oC1 c num s l[i] line).length (flat mc (oC1 c num s l[i] line)) :: Own 59 15 (.slice pt2 (oS1 s l[i] line sent).length ct2) (oS1 s l[i] line sent).length (flat mc (oS1 s l[i] line sent))
                  :: Own 59 15 (.slice ps sd.length cs) sd.length (flat mc sd) :: Cells b11 52 (tec (hmEnt s line) a k) :: Own 3 1 (.slice a (hmEnt s line).s.ps.length k) (hmEnt s line).s.ps.length (flat ic (hmEnt s line).s.ps) :: Cells b13 56 (wc (hmLine c s line)) :: Old W :: F) (fun j => j ≤ qs.length) (fun j => qs.length - j) 0
                · (repeat (first | exact Sub.nil | (refine Sub.cons (by first | rfl | (simp only [Nat.zero_add]; rfl)) ?_)))
                · exact Nat.zero_le _
                · exact entu0
                · intro j hj
                  by_cases hjl : j < qs.length
                  · have hj2 : j < s2.q.length := by omega
                    have hqj : s2.q[j] = qs[j].1 := by simp only [← hf, List.getElem_map]
                    have hcnt := oC_take (line := line) hj2
                    have hcb := oC_len line (s2.q.take j)
                    rw [List.length_take] at hcb
                    rw [hqj] at hcnt
                    generalize hN1 : (oC line (s2.q.take j)).length = nj at hcnt hcb ⊢
                    by_cases h1 : qs[j].1.m.line = line
                    · cases h2 : qs[j].1.st with
                      | false =>
                        rw [if_pos ⟨h1, h2⟩] at hcnt
                        repeat (first | rintro _ _ ⟨rfl, rfl⟩ | refine exq fun _ => ?_ | intro _ | refine go ?_ | refine dr_HomOrd_5M ?_ | refine drq ?_)
                        refine WE_loop (j + 1) (by omega) (by omega) ?_ ?_
                        · simp only [hcnt]; (repeat (first | exact Sub.nil | (refine Sub.cons (by first | rfl | (simp only [Nat.zero_add]; rfl)) ?_)))
                        · exact entu0
                      | true =>
                        rw [if_neg (fun h => by rw [h2] at h; cases h.2)] at hcnt
                        repeat (first | rintro _ _ ⟨rfl, rfl⟩ | refine exq fun _ => ?_ | intro _ | refine go ?_ | refine dr_HomOrd_5M ?_ | refine drq ?_)
                        refine WE_loop (j + 1) (by omega) (by omega) ?_ ?_
                        · simp only [hcnt]; (repeat (first | exact Sub.nil | (refine Sub.cons (by first | rfl | (simp only [Nat.zero_add]; rfl)) ?_)))
                        · exact entu0
                    · rw [if_neg (fun h => h1 h.1)] at hcnt
                      repeat (first | rintro _ _ ⟨rfl, rfl⟩ | refine exq fun _ => ?_ | intro _ | refine go ?_ | refine dr_HomOrd_5M ?_ | refine drq ?_)
                      refine WE_loop (j + 1) (by omega) (by omega) ?_ ?_
                      · simp only [hcnt]; (repeat (first | exact Sub.nil | (refine Sub.cons (by first | rfl | (simp only [Nat.zero_add]; rfl)) ?_)))
                      · exact entu0
                  · have hjq : j = s2.q.length := by omega
                    subst hjq
                    rw [List.take_length]
                    have hcb := oC_len line s2.q
                    repeat (first | rintro _ _ ⟨rfl, rfl⟩ | refine exq fun _ => ?_ | intro _ | refine go ?_ | refine dr_HomOrd_5M ?_ | refine drq ?_)
                    (first | refine WO_front (TlS 59 15 (.slice pc2 (oC1 c num s l[i] line).length cc2) (oC1 c num s l[i] line).length (flat mc (oC1 c num s l[i] line))) ?_ | refine WC_front (TlS 59 15 (.slice pc2 (oC1 c num s l[i] line).length cc2) (oC1 c num s l[i] line).length (flat mc (oC1 c num s l[i] line))) ?_ | refine WE_front (TlS 59 15 (.slice pc2 (oC1 c num s l[i] line).length cc2) (oC1 c num s l[i] line).length (flat mc (oC1 c num s l[i] line))) ?_)
                    refine WC_tlcap fun hcap => ?_
                    apply WO_join (P := Try.prog) (fun q : (Option Addr × Nat) × (Option Addr × Nat) × (Option Addr × Nat) => [(3, .int .i64 line), (9, .pointer (some ⟨b, 0, none⟩)), (11, .pointer (some ⟨b11, 0, none⟩)), (13, .pointer (some ⟨b13, 0, none⟩)), (55, v), (56, .int .i64 l.length), (57, .int .i64 i), (14, .slice q.1.1 (oC line s2.q).length q.1.2), (16, .slice pt2 (oS1 s l[i] line sent).length ct2), (15, .slice q.2.1.1 (oS1 s l[i] line sent ++ oP line s2.q).length q.2.1.2), (155, .pointer (some ⟨b, 0, none⟩)), (156, .int .i64 line)])
                      (fun q => HomP b c num s2 :: TlS 59 15 (.slice q.1.1 (oC line s2.q).length q.1.2) (oC line s2.q).length (flat mc (oC line s2.q)) :: Own 59 15 (.slice pt2 (oS1 s l[i] line sent).length ct2) (oS1 s l[i] line sent).length (flat mc (oS1 s l[i] line sent))
                        :: Own 59 15 (.slice q.2.1.1 (oS1 s l[i] line sent ++ oP line s2.q).length q.2.1.2) (oS1 s l[i] line sent ++ oP line s2.q).length (flat mc (oS1 s l[i] line sent ++ oP line s2.q)) :: Cells b11 52 (tec (hmEnt s2 line) q.2.2.1 q.2.2.2) :: Own 3 1 (.slice q.2.2.1 (hmEnt s2 line).s.ps.length q.2.2.2) (hmEnt s2 line).s.ps.length (flat ic (hmEnt s2 line).s.ps) :: Cells b13 56 (wc (hmLine c s2 line)) :: Old W :: F) (fun _ => (oS1 s l[i] line sent ++ oP line s2.q).length ≤ 1000 * (i + 1))
                    · intro join
                      rcases hos' with ⟨h1, h2, h3, h4⟩ | ⟨m, h1, h2, h3, h4, h5, h6, h7⟩ | ⟨m, h1, h2, h3⟩
                      · have hsd2 : sd = oS1 s l[i] line sent ++ oP line s2.q := by rw [← hsd]; exact h4 sent
                        simp only [h2, h3, ← hsd2] at join
                        rw [h1] at hcap ⊢
                        refine WC_rounds 1 ?_
                        repeat (first | rintro _ _ ⟨rfl, rfl⟩ | refine exq fun _ => ?_ | intro _ | refine go ?_ | refine dr_HomOrd_5M ?_ | refine drq ?_)
                        exact join ((pc2, cc2), (ps, cs), (a, k)) _ _ (by omega) (by (repeat (first | exact Sub.nil | (refine Sub.cons (by first | rfl | (simp only [Nat.zero_add]; rfl)) ?_)))) (by exact entu0)
                      · have hsd2 : sd = sent := by rw [← hsd, h5, List.append_nil]
                        subst hsd2
                        rw [h7] at hsl2
                        simp only [h7, h6] at join
                        rw [h7]
                        rw [h1] at hcap ⊢
                        have hN := fun F (hk : RdL F 1 (.slice a (hmEnt s line).s.ps.length k) (hmEnt s line).s.ps.length (flat ic (hmEnt s line).s.ps)) => tab_Next (F := F) (e := hmEnt s line) (a := a) (k := k) (m := m) (w := hmLine c s line) hk hl1
                        have hsl3 := (sent_facts (w := hmLine c s line) h2).2.1
                        have hlen3 : (m :: oC line s2.q).length = (oC line s2.q).length + 1 := rfl
                        have eL : (sd ++ nextS (hmEnt s line) m (hmLine c s line)).length = sd.length + (nextS (hmEnt s line) m (hmLine c s line)).length := List.length_append
                        have eF : flat mc (sd ++ nextS (hmEnt s line) m (hmLine c s line)) = flat mc sd ++ flat mc (nextS (hmEnt s line) m (hmLine c s line)) := flat_append
                        simp only [h3, h4, eL, eF] at join
                        simp only [h2] at hN
                        (first | (refine WO_some (.slice pc2 (m :: oC line s2.q).length cc2) inferInstance (by omega) ?_; intro _) | (refine WC_some (.slice pc2 (m :: oC line s2.q).length cc2) inferInstance (by omega) ?_; intro _))
                        have hcut : ∀ M, Ent (TlS 59 15 (.slice pc2 (m :: oC line s2.q).length cc2) (m :: oC line s2.q).length (flat mc (m :: oC line s2.q)) :: M) (TlS 59 15 (.slice (if cc2 = 1 then pc2 else pc2.map (·.add (1 * 15))) (oC line s2.q).length (cc2 - 1)) (oC line s2.q).length (flat mc (oC line s2.q)) :: M) := fun M => tl_cut (by omega)
                        have join3 := fun (p : Option Addr) (c : Nat) (a : Option Addr) (k : Nat) env L => join ((if cc2 = 1 then pc2 else pc2.map (·.add (1 * 15)), cc2 - 1), (p, c), (a, k)) env L (by omega)
                        dsimp only at join3
                        cases hW : nextW (hmEnt s line) m with
                        | true =>
                          simp only [hW, if_true] at hN join3
                          refine WC_rounds 2 ?_
                          repeat' (first | rintro _ _ ⟨rfl, rfl⟩ | refine exq fun _ => ?_ | intro _ | refine go ?_ | refine dr_HomOrd_5M ?_ | refine drq ?_ | refine cal @hN ?_ | refine spl ?_ ?_ | fail)
                          all_goals refine WT_p rfl GIn.none (v_slice rfl (by exact bnd_nat (i := 1) rfl) Bnd.none Bnd.none (fun h => by cases h) (by omega) (by omega) (by omega)) rfl ?_
                          all_goals repeat' (first | rintro _ _ ⟨rfl, rfl⟩ | refine exq fun _ => ?_ | intro _ | refine go ?_ | refine dr_HomOrd_5M ?_ | refine drq ?_ | refine cal @hN ?_ | refine spl ?_ ?_ | fail)
                          all_goals apply join3
                          all_goals first
                          | ((repeat (first | exact Sub.nil | (refine Sub.cons (by first | rfl | (simp only [Nat.zero_add]; rfl)) ?_))); done)
                          | (refine Ent.trans ?_ (Ent.cons (hcut _)); (try simp only [Int.toNat_zero, List.getElem_cons_zero]); exact entu0)
                        | false =>
                          simp only [hW, Bool.false_eq_true, if_false] at hN join3
                          refine WC_rounds 2 ?_
                          repeat' (first | rintro _ _ ⟨rfl, rfl⟩ | refine exq fun _ => ?_ | intro _ | refine go ?_ | refine dr_HomOrd_5M ?_ | refine drq ?_ | refine cal @hN ?_ | refine spl ?_ ?_ | fail)
                          all_goals refine WT_p rfl GIn.none (v_slice rfl (by exact bnd_nat (i := 1) rfl) Bnd.none Bnd.none (fun h => by cases h) (by omega) (by omega) (by omega)) rfl ?_
                          all_goals repeat' (first | rintro _ _ ⟨rfl, rfl⟩ | refine exq fun _ => ?_ | intro _ | refine go ?_ | refine dr_HomOrd_5M ?_ | refine drq ?_ | refine cal @hN ?_ | refine spl ?_ ?_ | fail)
                          all_goals apply join3
                          all_goals first
                          | ((repeat (first | exact Sub.nil | (refine Sub.cons (by first | rfl | (simp only [Nat.zero_add]; rfl)) ?_))); done)
                          | (refine Ent.trans ?_ (Ent.cons (hcut _)); (try simp only [Int.toNat_zero, List.getElem_cons_zero]); exact entu0)
                      · have hN := fun F (hk : RdL F 1 (.slice a (hmEnt s line).s.ps.length k) (hmEnt s line).s.ps.length (flat ic (hmEnt s line).s.ps)) => tab_Next (F := F) (e := hmEnt s line) (a := a) (k := k) (m := m) (w := hmLine c s line) hk hl1
                        simp only [h2] at hN
                        rw [h1] at hcap ⊢
                        have hlen3 : (m :: oC line s2.q).length = (oC line s2.q).length + 1 := rfl
                        (first | (refine WO_some (.slice pc2 (m :: oC line s2.q).length cc2) inferInstance (by omega) ?_; intro _) | (refine WC_some (.slice pc2 (m :: oC line s2.q).length cc2) inferInstance (by omega) ?_; intro _))
                        refine WC_rounds 1 ?_
                        repeat' (first | rintro _ _ ⟨rfl, rfl⟩ | refine exq fun _ => ?_ | intro _ | refine go ?_ | refine dr_HomOrd_5M ?_ | refine drq ?_ | refine cal @hN ?_ | refine cal @hO2 ?_ | refine spl ?_ ?_ | fail)
                        all_goals (apply WE_ret rfl rfl (by (repeat (first | exact ResOk.nil | (apply ResOk.tmp; rfl) | (apply resOk_cell; rfl; exact inferInstance; rfl; rfl)))); (first | exact ⟨rfl, rfl⟩ | exact ⟨congrArg Value.bool (by decide), rfl⟩ | exact ⟨_, rfl, rfl⟩ | exact ⟨_, _, rfl, rfl⟩ | exact ⟨by first | (simp [h3]; done) | (simp [h3] <;> omega), rfl⟩); (repeat (first | exact Ent.refl | exact Ent.nil | apply Ent.pick | apply Ent.drop)))
                    · rintro ⟨⟨pc3, cc3⟩, ⟨ps3, cs3⟩, ⟨a3, k3⟩⟩ hpl2
                      dsimp only
                      have hSm : ∀ F a1 k1 a2 k2, RdL F 1 (.slice a1 (hmEnt s2 line).s.ps.length k1) (hmEnt s2 line).s.ps.length (flat ic (hmEnt s2 line).s.ps) → RdL F 1 (.slice a2 (hmEnt s2 line).s.ps.length k2) (hmEnt s2 line).s.ps.length (flat ic (hmEnt s2 line).s.ps) →
                          FnF Try.prog 23 [.agg (tec (hmEnt s2 line) a1 k1).toArray, .agg (tec (hmEnt s2 line) a2 k2).toArray] [] F (fun r L' => r = .bool true ∧ L' = []) := fun F a1 k1 a2 k2 h1 h2 => by
                        have := law16_same h1 h2 hl2
                        rwa [decide_eq_true rfl] at this
                      generalize oS1 s l[i] line sent = sent2 at hsl2 hpl2 ⊢
                      generalize hps : oP line s2.q = pend at hpl2 ⊢
                      have hle : ¬ ((sent2.length : Int) > (sent2 ++ pend).length) := by rw [List.length_append]; omega
                      have hwne : ¬ (wc (hmLine c s2 line) ≠ wc (hmLine c s2 line)) := fun h => h rfl
                      (first | refine WO_front (Own 59 15 (.slice ps3 (sent2 ++ pend).length cs3) (sent2 ++ pend).length (flat mc (sent2 ++ pend))) ?_ | refine WC_front (Own 59 15 (.slice ps3 (sent2 ++ pend).length cs3) (sent2 ++ pend).length (flat mc (sent2 ++ pend))) ?_ | refine WE_front (Own 59 15 (.slice ps3 (sent2 ++ pend).length cs3) (sent2 ++ pend).length (flat mc (sent2 ++ pend))) ?_)
                      refine WO_owncap fun hcap3 => ?_
                      have hcap4 : sent2.length ≤ cs3 := by rw [List.length_append] at hcap3; omega
                      have hS7 := fun F (k1 : RdL F 15 (.slice pt2 sent2.length ct2) sent2.length (flat mc sent2)) (k2 : RdL F 15 (.slice ps3 (sent2 ++ pend).length cs3) (sent2 ++ pend).length (flat mc (sent2 ++ pend))) =>
                        ref07_Same (F := F) (l := sent2) (m := sent2) (v := .slice pt2 sent2.length ct2) (u := cut (.slice ps3 (sent2 ++ pend).length cs3) 0 sent2.length cs3 15) k1 (by
                          have := RdL.cut (l := 0) (h := sent2.length) (m := cs3) k2 (Nat.zero_le _) (by rw [List.length_append]; omega) hcap4
                          rw [Nat.sub_zero, Nat.zero_mul, List.drop_zero, flat_append, List.take_left' (by rw [flat_length (n := 15) (fun _ => rfl)])] at this
                          exact this) (by omega)
                      simp only [decide_true] at hS7
                      repeat (first | rintro _ _ ⟨rfl, rfl⟩ | refine exq fun _ => ?_ | intro _ | refine go ?_ | refine dr_HomOrd_5M ?_ | refine drq ?_ | refine cal @hEt2 ?_ | refine cal @hLi2 ?_ | refine cal @hSm ?_ | refine cal @hS7 ?_)
                      refine WE_loop (i + 1, sent2, (a3, k3), (pc3, cc3), (pt2, ct2), (ps3, cs3)) (by dsimp only; omega) ⟨by dsimp only; omega, by dsimp only; omega, by dsimp only; rw [hst, hps]; exact hpl2⟩ ?_ ?_
                      · dsimp only
                        rw [hst, hps]
                        (repeat (first | exact Sub.nil | (refine Sub.cons (by first | rfl | (simp only [Nat.zero_add]; rfl)) ?_)))
                      · dsimp only
                        rw [hst, hps]
                        exact entu0
            · have hil : i = l.length := by omega
              subst hil
              repeat (first | rintro _ _ ⟨rfl, rfl⟩ | refine exq fun _ => ?_ | intro _ | refine go ?_ | refine dr_HomOrd_5M ?_ | refine drq ?_)
              exact fin0
        · rw [decide_eq_false hok] at hown
          rw [hown] at hEt0
          repeat (first | rintro _ _ ⟨rfl, rfl⟩ | refine exq fun _ => ?_ | intro _ | refine go ?_ | refine dr_HomOrd_5M ?_ | refine drq ?_ | refine cal @law16_awake ?_ | refine cal @hLg ?_ | refine cal @hN ?_ | refine cal @hEt0 ?_)
          exact fin0
end Go.Sx
