/- Lg, WiLaw, WiOld: several of my texts as one. My own work. -/
import Derived.Test.YtlaohgngdaglmaaZaq
import Derived.Test.YtlaohgngdaglmaaZat
import Derived.Test.YtlaohgngdaglmaaZar
/- Machines that are more than statements look at. My own work. -/
namespace Go.Sx
open Go Go.Proofs
set_option linter.unusedVariables false
set_option linter.unusedSectionVars false
set_option linter.unusedSimpArgs false
def totL (ps : List (List Op3)) : Nat := (ps.map List.length).sum
def large18 (c : Cfg) (ps : List (List Op3)) (k : Int) : Bool := decide ((8 < c.cores ∧ c.cores ≤ 64) ∨ (32 < c.lines ∧ c.lines ≤ 1024) ∨ 80 < totL ps ∨ 100 < ps.length ∨ 300 < k)
theorem totL_take {ps : List PrQ} {i : Nat} (hi : i < ps.length) : totL ((ps.take (i + 1)).map (·.1)) = totL ((ps.take i).map (·.1)) + ps[i].1.length := by
  unfold totL
  rw [List.take_add_one, List.getElem?_eq_getElem hi, Option.toList_some, List.map_append, List.map_append, List.sum_append]
  simp
theorem totL_le {ps : List PrQ} (i : Nat) : totL ((ps.take i).map (·.1)) ≤ totL (ps.map (·.1)) := by
  have : ps.map (·.1) = (ps.take i).map (·.1) ++ (ps.drop i).map (·.1) := by rw [← List.map_append, List.take_append_drop]
  unfold totL
  rw [this, List.map_append, List.sum_append]
  omega
theorem totL_mem {ps : List (List Op3)} {l : List Op3} (h : l ∈ ps) : l.length ≤ totL ps := by
  unfold totL
  induction ps with
  | nil => cases h
  | cons a r ih =>
    rw [List.map_cons, List.sum_cons]
    rcases List.mem_cons.1 h with rfl | h
    · omega
    · have := ih h; omega
set_option maxRecDepth 100000
set_option maxHeartbeats 4000000
attribute [local irreducible] Go.Exit.then Go.Exit.inBlock Go.Code.wp WC WO WE WQ V LoopQ FnQ Sat Star band bor IntKind.wrap WR Code.rounds WT KO
theorem r18_Large {F : List HP} {c : Cfg} {ps : List PrQ} {v : Value} {k : Int} (hk : RdL F 1 v ps.length (flat prc ps)) (hp : ps.length ≤ 1000000000000000) (hn : ∀ p ∈ ps, p.1.length ≤ 1000000000000000) :
    FnF Try.prog 8 [c.val, v, .int .i64 k] [] F (fun r L' => r = .bool (large18 c (ps.map (·.1)) k) ∧ L' = []) := by
  refine FnF.mk' Try.func8 rfl rfl Try.ntmps8 rfl ?_
  repeat (first | rintro _ _ ⟨rfl, rfl⟩ | refine exq fun _ => ?_ | intro _ | refine go ?_ | refine drq ?_)
  rename_i b3
  apply WC_loopE (E0 := [(1, _), (2, _), (3, _)]) (fun E0 (i : Nat) => (8, .int .i64 i) :: (7, .int .i64 (totL ((ps.take i).map (·.1)))) :: E0) (fun _ => Cells b3 24 c.cells :: F) (fun i => i ≤ ps.length ∧ totL ((ps.take i).map (·.1)) ≤ 1000000000000080) (fun i => ps.length - i) 0
  · (repeat (first | exact Sub.nil | (refine Sub.cons (by first | rfl | (simp only [Nat.zero_add]; rfl)) ?_)))
  · exact ⟨Nat.zero_le _, by simp [totL]⟩
  · exact entu0
  · rintro i ⟨hi, hb⟩
    by_cases hlt : i < ps.length ∧ totL ((ps.take i).map (·.1)) ≤ 80
    · obtain ⟨hlt, h80⟩ := hlt
      have hst := totL_take hlt
      have hl := hn _ (List.getElem_mem hlt)
      generalize totL ((ps.take i).map (·.1)) = t at hst h80 hb ⊢
      repeat (first | rintro _ _ ⟨rfl, rfl⟩ | refine exq fun _ => ?_ | intro _ | refine go ?_ | refine drq ?_)
      refine WE_loop (i + 1) (by omega) ⟨by omega, by omega⟩ ?_ ?_
      · simp only [hst]; (repeat (first | exact Sub.nil | (refine Sub.cons (by first | rfl | (simp only [Nat.zero_add]; rfl)) ?_)))
      · exact entu0
    · have htot : 80 < totL (ps.map (·.1)) ↔ 80 < totL ((ps.take i).map (·.1)) := by
        by_cases h1 : 80 < totL ((ps.take i).map (·.1))
        · have := totL_le (ps := ps) i; constructor <;> intro <;> omega
        · have h2 : i = ps.length := by omega
          rw [h2, List.take_length]
      have hex : ¬ (i : Int) < ps.length ∨ ¬ ((totL ((ps.take i).map (·.1)) : Nat) : Int) ≤ 80 := by omega
      unfold large18
      simp only [htot, List.length_map]
      generalize totL ((ps.take i).map (·.1)) = t at hlt hb hex ⊢
      rcases hex with hex | hex
      all_goals repeat' (first | rintro _ _ ⟨rfl, rfl⟩ | refine exq fun _ => ?_ | intro _ | refine go ?_ | refine drq ?_ | refine spl ?_ ?_ | fail)
      all_goals (apply WE_ret rfl rfl (by (repeat (first | exact ResOk.nil | (apply ResOk.tmp; rfl) | (apply resOk_cell; rfl; exact inferInstance; rfl; rfl)))); (refine ⟨congrArg Value.bool ?_, rfl⟩; (first | (refine decide_eq_decide.2 ?_) | (refine (decide_eq_true ?_).symm) | (refine (decide_eq_false ?_).symm)); (first | omega | (simp only []; omega))); (repeat (first | exact Ent.refl | exact Ent.nil | apply Ent.pick | apply Ent.drop)))
end Go.Sx

/- The laws of witnesses: what they share. My own work. -/
namespace Go.Sx
open Go Go.Proofs
set_option linter.unusedVariables false
set_option linter.unusedSectionVars false
set_option linter.unusedSimpArgs false
abbrev c19 : Cfg := ⟨2, 1, 1, 1, 1, 2, 0, 1, 1, 1, 1, 1, 1⟩
abbrev oS7 : Op3 := ⟨2, 0, 7⟩
abbrev oL0 : Op3 := ⟨1, 0, 0⟩
abbrev k19a : Com := ⟨0, 0, oS7, 0⟩
abbrev k19b : Com := ⟨1, 0, oL0, 7⟩
theorem cells_rds {g n c sz : Nat} {T : TypeId} {l : List Value} {L : List HP} (hl : l.length = n * sz) (h1 : l.all one = true) : Ent (Cells g T l :: L) (Rds sz (.slice (some ⟨g, 0, none⟩) n c) n l :: L) := fun h ⟨S, U, d, hp, hL⟩ =>
  ⟨S, U, d, ⟨hl, h1, .inr ⟨g, 0, c, l.toArray, T, rfl, hp.pf, fun j u hu => by simpa using hu⟩⟩, hL⟩
abbrev p19 (g1 g2 : Nat) : List PrQ := [([oS7], (some ⟨g1, 0, none⟩, 1)), ([oL0], (some ⟨g2, 0, none⟩, 1))]
theorem rdpr19 {L : List HP} {g1 g2 : Nat} [k1 : RdL L 3 (.slice (some ⟨g1, 0, none⟩) 1 1) 1 (flat oc [oS7])] [k2 : RdL L 3 (.slice (some ⟨g2, 0, none⟩) 1 1) 1 (flat oc [oL0])] : RdPr L (p19 g1 g2) := ⟨fun p hp => by
  rcases List.mem_cons.1 hp with rfl | hp
  · exact k1
  · rcases List.mem_cons.1 hp with rfl | hp
    · exact k2
    · cases hp⟩
theorem v19a (g1 g2 : Nat) : chkV c19 ((p19 g1 g2).map (·.1)) [k19a, k19b] = 2 ∧ chkE c19 ((p19 g1 g2).map (·.1)) [k19a, k19b] = 0 := by
  show chkV c19 [[oS7], [oL0]] [k19a, k19b] = 2 ∧ chkE c19 [[oS7], [oL0]] [k19a, k19b] = 0
  decide
theorem v19b (g1 g2 : Nat) : chkV c19 ((p19 g1 g2).map (·.1)) [k19b] = 0 ∧ chkE c19 ((p19 g1 g2).map (·.1)) [k19b] = 7 := by
  show chkV c19 [[oS7], [oL0]] [k19b] = 0 ∧ chkE c19 [[oS7], [oL0]] [k19b] = 7
  decide
theorem v19c : chkV c19 [] [k19a, k19b] = 0 ∧ chkE c19 [] [k19a, k19b] = 1 := by decide
theorem v19d : valV c19 [k19a, k19b] 0 = 7 ∧ valV c19 [k19a, k19b] 2 = 0 := by decide
theorem v19e (g1 g2 : Nat) : maOk c19 ((p19 g1 g2).map (·.1)) = true := by
  show maOk c19 [[oS7], [oL0]] = true
  decide
theorem v19f (g1 g2 : Nat) : finV c19 (maNew c19 ((p19 g1 g2).map (·.1))) 1 = 0 ∧ okAddr c19 1 = true ∧ finV c19 (maNew c19 ((p19 g1 g2).map (·.1))) 2 = 0 ∧ okAddr c19 2 = false := by
  show finV c19 (maNew c19 [[oS7], [oL0]]) 1 = 0 ∧ okAddr c19 1 = true ∧ finV c19 (maNew c19 [[oS7], [oL0]]) 2 = 0 ∧ okAddr c19 2 = false
  decide
set_option maxRecDepth 100000
set_option maxHeartbeats 4000000
attribute [local irreducible] Go.Exit.then Go.Exit.inBlock Go.Code.wp WC WO WE WQ V LoopQ FnQ Sat Star band bor IntKind.wrap WR Code.rounds WT KO
theorem dr_WiLaw_7m {Q P : Prop} (k : Q) (h : Hid Q → P := by
  intro k
  first
  | (refine is_draw ?_; apply WC_mix (id := 5) (.only []) _ (pl := .p 1 <| .p 2 <| .p 3 <| .r 0 <| .e true [(4, .p 5 <| .p 6 <| .p 7 <| .p 8 <| .p 9 <| .done)]); exact mixed; kernel_rfl; kernel_rfl; exact Ent.refl; exact k.out)
  | (refine is_draw ?_; apply WC_mix (id := 3) .true _ (pl := .p 0 <| .p 1 <| .p 6 <| .p 7 <| .r 2 <| .p 3 <| .r 4 <| .p 5 <| .r 8 <| .p 9 <| .r 10 <| .p 11 <| .e true [(12, .p 13 <| .done)]); exact mixed; kernel_rfl; kernel_rfl; exact Ent.refl; exact k.out)) : P := h ⟨k⟩
theorem law19_awake {F : List HP} : FnF Try.prog 7 [] [] F (fun r L' => r = .bool true ∧ L' = []) := by
  have hw : c19.wf := cfg_wf' (by decide)
  refine FnF.mk' Try.func7 rfl rfl Try.ntmps7 rfl ?_
  repeat (first | rintro _ _ ⟨rfl, rfl⟩ | refine exq fun _ => ?_ | intro _ | refine go ?_ | refine dr_WiLaw_7m ?_ | refine drq ?_)
  rename_i b4 g1 g2 g3 g4
  (first | refine WO_ent (Ent.trans (cells_rds (n := 2) (c := 2) (sz := 6) rfl rfl) (Ent.cons (Ent.trans (cells_rds (n := 2) (c := 2) (sz := 1) rfl rfl) (Ent.cons (Ent.trans (cells_rds (n := 1) (c := 1) (sz := 3) rfl rfl) (Ent.cons (cells_rds (n := 1) (c := 1) (sz := 3) rfl rfl))))))) ?_ | refine WC_ent' (Ent.trans (cells_rds (n := 2) (c := 2) (sz := 6) rfl rfl) (Ent.cons (Ent.trans (cells_rds (n := 2) (c := 2) (sz := 1) rfl rfl) (Ent.cons (Ent.trans (cells_rds (n := 1) (c := 1) (sz := 3) rfl rfl) (Ent.cons (cells_rds (n := 1) (c := 1) (sz := 3) rfl rfl))))))) ?_ | refine WE_ent' (Ent.trans (cells_rds (n := 2) (c := 2) (sz := 6) rfl rfl) (Ent.cons (Ent.trans (cells_rds (n := 2) (c := 2) (sz := 1) rfl rfl) (Ent.cons (Ent.trans (cells_rds (n := 1) (c := 1) (sz := 3) rfl rfl) (Ent.cons (cells_rds (n := 1) (c := 1) (sz := 3) rfl rfl))))))) ?_)
  have hC1 := fun F (k1 : RdL F 6 (.slice (some ⟨g4, 0, none⟩) 2 2) 2 (flat cmc [k19a, k19b])) (k2 : RdL F 1 (.slice (some ⟨g3, 0, none⟩) 2 2) 2 (flat prc (p19 g1 g2))) (k3 : RdL F 3 (.slice (some ⟨g1, 0, none⟩) 1 1) 1 (flat oc [oS7])) (k4 : RdL F 3 (.slice (some ⟨g2, 0, none⟩) 1 1) 1 (flat oc [oL0])) => wi_Check (F := F) (ps := p19 g1 g2) (l := [k19a, k19b]) hw k1 (by simp) k2 rdpr19
  have hC2 := fun F (k1 : RdL F 6 (.slice (some ⟨g4, 0, none⟩) 2 2) 2 (flat cmc [k19a, k19b])) (k2 : RdL F 1 (.slice (some ⟨g3, 0, none⟩) 2 2) 2 (flat prc (p19 g1 g2))) (k3 : RdL F 3 (.slice (some ⟨g1, 0, none⟩) 1 1) 1 (flat oc [oS7])) (k4 : RdL F 3 (.slice (some ⟨g2, 0, none⟩) 1 1) 1 (flat oc [oL0])) => wi_Check (F := F) (ps := p19 g1 g2) (l := [k19b]) hw (RdL.cut (l := 1) (h := 2) (m := 2) k1 (by omega) (by omega) (by omega)) (by simp) k2 rdpr19
  have hC3 := fun F (k1 : RdL F 6 (.slice (some ⟨g4, 0, none⟩) 2 2) 2 (flat cmc [k19a, k19b])) => wi_Check (F := F) (u := .slice none 0 0) (ps := []) (l := [k19a, k19b]) hw k1 (by simp) rd_empty ⟨fun p hp => by cases hp⟩
  have hN := fun F (k2 : RdL F 1 (.slice (some ⟨g3, 0, none⟩) 2 2) 2 (flat prc (p19 g1 g2))) (k3 : RdL F 3 (.slice (some ⟨g1, 0, none⟩) 1 1) 1 (flat oc [oS7])) (k4 : RdL F 3 (.slice (some ⟨g2, 0, none⟩) 1 1) 1 (flat oc [oL0])) => ma_New (F := F) (ps := p19 g1 g2) hw k2 rdpr19 (v19e g1 g2)
  have hV0 := fun F (k1 : RdL F 6 (.slice (some ⟨g4, 0, none⟩) 2 2) 2 (flat cmc [k19a, k19b])) => wi_Value (F := F) (l := [k19a, k19b]) (addr := 0) hw k1 (by simp)
  have hV2 := fun F (k1 : RdL F 6 (.slice (some ⟨g4, 0, none⟩) 2 2) 2 (flat cmc [k19a, k19b])) => wi_Value (F := F) (l := [k19a, k19b]) (addr := 2) hw k1 (by simp)
  simp only [v19a] at hC1
  simp only [v19b] at hC2
  simp only [List.map_nil, v19c] at hC3
  simp only [v19d] at hV0 hV2
  repeat (first | rintro _ _ ⟨rfl, rfl⟩ | refine exq fun _ => ?_ | intro _ | refine go ?_ | refine dr_WiLaw_7m ?_ | refine drq ?_ | refine cal @hC1 ?_ | refine cal @hC2 ?_ | refine cal @hC3 ?_ | refine cal @hN ?_ | refine cal @hV0 ?_ | refine cal @hV2 ?_)
  refine WT_p rfl GIn.none (v_slice rfl (by exact bnd_nat (i := 1) rfl) Bnd.none Bnd.none (fun h => by cases h) (by omega) (by omega) (by omega)) rfl ?_
  repeat (first | rintro _ _ ⟨rfl, rfl⟩ | refine exq fun _ => ?_ | intro _ | refine go ?_ | refine dr_WiLaw_7m ?_ | refine drq ?_ | refine cal @hC1 ?_ | refine cal @hC2 ?_ | refine cal @hC3 ?_ | refine cal @hN ?_ | refine cal @hV0 ?_ | refine cal @hV2 ?_)
  rename_i bm
  (first | refine WO_front (MaP bm c19 (maNew c19 ((p19 g1 g2).map (·.1)))) ?_ | refine WC_front (MaP bm c19 (maNew c19 ((p19 g1 g2).map (·.1)))) ?_ | refine WE_front (MaP bm c19 (maNew c19 ((p19 g1 g2).map (·.1)))) ?_)
  refine map_openO fun xm => ?_
  have hF1 := fun F => wi_Final (F := F) (b := bm) (c := c19) (s := maNew c19 ((p19 g1 g2).map (·.1))) (x := xm) (addr := 1) hw (by decide)
  have hF2 := fun F => wi_Final (F := F) (b := bm) (c := c19) (s := maNew c19 ((p19 g1 g2).map (·.1))) (x := xm) (addr := 2) hw (by decide)
  simp only [v19f] at hF1 hF2
  repeat (first | rintro _ _ ⟨rfl, rfl⟩ | refine exq fun _ => ?_ | intro _ | refine go ?_ | refine dr_WiLaw_7m ?_ | refine drq ?_ | refine cal @hF1 ?_ | refine cal @hF2 ?_ | refine cal @hV0 ?_ | refine cal @hV2 ?_)
  have q1 := (v19f g1 g2).2.1
  have q2 := (v19f g1 g2).2.2.2
  (apply WE_ret rfl rfl (by (repeat (first | exact ResOk.nil | (apply ResOk.tmp; rfl) | (apply resOk_cell; rfl; exact inferInstance; rfl; rfl)))); (first | exact ⟨rfl, rfl⟩ | exact ⟨congrArg Value.bool (by decide), rfl⟩ | exact ⟨_, rfl, rfl⟩ | exact ⟨_, _, rfl, rfl⟩ | exact ⟨by first | (simp [q1, q2]; done) | (simp [q1, q2] <;> omega), rfl⟩); (repeat (first | exact Ent.refl | exact Ent.nil | apply Ent.pick | apply Ent.drop)))
/-- Programs that are in what was handed in. -/
def OldPr (W : World) (ps : List PrQ) : Prop := ∀ p ∈ ps, ROld W 3 (.slice p.2.1 p.1.length p.2.2) p.1.length (flat oc p.1)
theorem OldPr.rd {W : World} {ps : List PrQ} (k : OldPr W ps) (L : List HP) : RdPr (Old W :: L) ps := ⟨fun p hp => by haveI := k p hp; exact inferInstance⟩
theorem large_facts {c : Cfg} {ps : List (List Op3)} {k : Int} (h : large18 c ps k = false) : ¬ (8 < c.cores ∧ c.cores ≤ 64) ∧ ¬ (32 < c.lines ∧ c.lines ≤ 1024) ∧ totL ps ≤ 80 ∧ ps.length ≤ 100 ∧ k ≤ 300 := by
  simp only [large18, decide_eq_false_iff_not] at h
  omega
theorem dr_WiLaw_3M {Q P : Prop} (k : Q) (h : Hid Q → P := by
  intro k
  first
  | (refine is_draw ?_; apply WC_mix (id := 6) (.only [3,4]) _ (pl := .p 1 <| .p 2 <| .e true [(0, .e true [(3, .n [4] <| .e true [(4, .n [] <| .p 5 <| .p 6 <| .p 7 <| .p 8 <| .p 9 <| .done)])]), (3, .n [4] <| .r 0 <| .e true [(4, .n [] <| .p 5 <| .p 6 <| .p 7 <| .p 8 <| .p 9 <| .done)])]); exact mixed; kernel_rfl; kernel_rfl; exact Ent.refl; exact k.out)
  | (refine is_draw ?_; apply WC_mix (id := 7) (.only [15,17]) _ (pl := .p 0 <| .p 1 <| .p 2 <| .p 3 <| .p 4 <| .p 5 <| .p 6 <| .p 7 <| .p 8 <| .p 10 <| .p 11 <| .p 14 <| .p 16 <| .r 9 <| .e true [(12, .e true [(13, .e true [(15, .n [17] <| .e true [(17, .n [] <| .p 18 <| .p 19 <| .p 20 <| .done)])]), (15, .n [17] <| .r 13 <| .e true [(17, .n [] <| .p 18 <| .p 19 <| .p 20 <| .done)])]), (13, .e true [(12, .e true [(15, .n [17] <| .e true [(17, .n [] <| .p 18 <| .p 19 <| .p 20 <| .done)])])])]); exact mixed; kernel_rfl; kernel_rfl; exact Ent.refl; exact k.out)) : P := h ⟨k⟩
theorem law19_Tells {W : World} {F : List HP} {c : Cfg} {ps : List PrQ} {pu pv : Option Addr} {cu cv : Nat} {l : List Com} {addr : Int} (hc : c.wf) (ha : I64 addr) [k : ROld W 6 (.slice pv l.length cv) l.length (flat cmc l)] (hl : l.length ≤ 1000000000000000) [kp : ROld W 1 (.slice pu ps.length cu) ps.length (flat prc ps)] (hp : ps.length ≤ 1000000000000000) (hn : ∀ p ∈ ps, p.1.length ≤ 1000000000000000) (kr : OldPr W ps) :
    FnF Try.prog 3 [c.val, .slice pu ps.length cu, .slice pv l.length cv, .int .i64 addr] [Old W] F (fun r L' => r = .bool true ∧ L' = [Old W]) := by
  have hL := fun F (kp : RdL F 1 (.slice pu ps.length cu) ps.length (flat prc ps)) => r18_Large (F := F) (c := c) (ps := ps) (k := 0) kp hp hn
  refine FnF.mk' Try.func3 rfl rfl Try.ntmps3 rfl ?_
  cases hla : large18 c (ps.map (·.1)) 0 with
  | true =>
    rw [hla] at hL
    repeat (first | rintro _ _ ⟨rfl, rfl⟩ | refine exq fun _ => ?_ | intro _ | refine go ?_ | refine dr_WiLaw_3M ?_ | refine drq ?_ | refine cal @law19_awake ?_ | refine cal @hL ?_)
    exact fin0
  | false =>
    rw [hla] at hL
    by_cases hm : 300 < l.length
    · repeat (first | rintro _ _ ⟨rfl, rfl⟩ | refine exq fun _ => ?_ | intro _ | refine go ?_ | refine dr_WiLaw_3M ?_ | refine drq ?_ | refine cal @law19_awake ?_ | refine cal @hL ?_)
      exact fin0
    · have hC := fun F (k : RdL F 6 (.slice pv l.length cv) l.length (flat cmc l)) (kp : RdL F 1 (.slice pu ps.length cu) ps.length (flat prc ps)) (kr : RdPr F ps) => wi_Check (F := F) (c := c) hc k (by omega) kp kr
      have hV := fun F (k : RdL F 6 (.slice pv l.length cv) l.length (flat cmc l)) => wi_Value (F := F) (c := c) (addr := addr) hc k (by omega)
      have hO := fun F (k : RdL F 6 (.slice pv l.length cv) l.length (flat cmc l)) => law19_own (F := F) k (by omega)
      have hC2 := fun F p e (k : RdL F 6 (.slice p l.length e) l.length (flat cmc l)) (kp : RdL F 1 (.slice pu ps.length cu) ps.length (flat prc ps)) (kr : RdPr F ps) => ref19_Check (F := F) (c := c) hc k (by omega) kp kr
      have hV2 := fun F p e (k : RdL F 6 (.slice p l.length e) l.length (flat cmc l)) => ref19_Value (F := F) (c := c) (addr := addr) hc k (by omega)
      haveI := kr.rd
      repeat (first | rintro _ _ ⟨rfl, rfl⟩ | refine exq fun _ => ?_ | intro _ | refine go ?_ | refine dr_WiLaw_3M ?_ | refine drq ?_ | refine cal @law19_awake ?_ | refine cal @hL ?_ | refine cal @hC ?_)
      refine WT_alt ?_ ?_
      · repeat (first | rintro _ _ ⟨rfl, rfl⟩ | refine exq fun _ => ?_ | intro _ | refine go ?_ | refine dr_WiLaw_3M ?_ | refine drq ?_ | refine cal @hO ?_ | refine cal @hC2 ?_ | refine cal @hV ?_ | refine cal @hV2 ?_)
        refine WT_alt ?_ ?_
        · repeat (first | rintro _ _ ⟨rfl, rfl⟩ | refine exq fun _ => ?_ | intro _ | refine go ?_ | refine dr_WiLaw_3M ?_ | refine drq ?_ | refine cal @hO ?_ | refine cal @hC2 ?_ | refine cal @hV ?_ | refine cal @hV2 ?_)
          refine WT_alt ?_ ?_
          · repeat (first | rintro _ _ ⟨rfl, rfl⟩ | refine exq fun _ => ?_ | intro _ | refine go ?_ | refine dr_WiLaw_3M ?_ | refine drq ?_ | refine cal @hO ?_ | refine cal @hC2 ?_ | refine cal @hV ?_ | refine cal @hV2 ?_)
            exact fin0
          · repeat (first | rintro _ _ ⟨rfl, rfl⟩ | refine exq fun _ => ?_ | intro _ | refine go ?_ | refine dr_WiLaw_3M ?_ | refine drq ?_ | refine cal @hO ?_ | refine cal @hC2 ?_ | refine cal @hV ?_ | refine cal @hV2 ?_)
            exact fin0
        · repeat (first | rintro _ _ ⟨rfl, rfl⟩ | refine exq fun _ => ?_ | intro _ | refine go ?_ | refine dr_WiLaw_3M ?_ | refine drq ?_ | refine cal @hO ?_ | refine cal @hC2 ?_ | refine cal @hV ?_ | refine cal @hV2 ?_)
          exact fin0
      · repeat (first | rintro _ _ ⟨rfl, rfl⟩ | refine exq fun _ => ?_ | intro _ | refine go ?_ | refine dr_WiLaw_3M ?_ | refine drq ?_ | refine cal @hO ?_ | refine cal @hC2 ?_ | refine cal @hV ?_ | refine cal @hV2 ?_)
        refine WT_alt ?_ ?_
        · repeat (first | rintro _ _ ⟨rfl, rfl⟩ | refine exq fun _ => ?_ | intro _ | refine go ?_ | refine dr_WiLaw_3M ?_ | refine drq ?_ | refine cal @hO ?_ | refine cal @hC2 ?_ | refine cal @hV ?_ | refine cal @hV2 ?_)
          refine WT_alt ?_ ?_
          · repeat (first | rintro _ _ ⟨rfl, rfl⟩ | refine exq fun _ => ?_ | intro _ | refine go ?_ | refine dr_WiLaw_3M ?_ | refine drq ?_ | refine cal @hO ?_ | refine cal @hC2 ?_ | refine cal @hV ?_ | refine cal @hV2 ?_)
            exact fin0
          · repeat (first | rintro _ _ ⟨rfl, rfl⟩ | refine exq fun _ => ?_ | intro _ | refine go ?_ | refine dr_WiLaw_3M ?_ | refine drq ?_ | refine cal @hO ?_ | refine cal @hC2 ?_ | refine cal @hV ?_ | refine cal @hV2 ?_)
            exact fin0
        · repeat (first | rintro _ _ ⟨rfl, rfl⟩ | refine exq fun _ => ?_ | intro _ | refine go ?_ | refine dr_WiLaw_3M ?_ | refine drq ?_ | refine cal @hO ?_ | refine cal @hC2 ?_ | refine cal @hV ?_ | refine cal @hV2 ?_)
          exact fin0
theorem goodC_take {c : Cfg} {ps : List (List Op3)} {l : List Com} {n j : Nat} (h : j < n) : goodC c ps (l.take n) j = goodC c ps l j := by
  unfold goodC cntC
  rw [List.getElem?_take_of_lt h, List.take_take, Nat.min_eq_left (Nat.le_of_lt h)]
theorem chk_below {c : Cfg} {ps : List (List Op3)} {l : List Com} {j : Nat} (h : j < chkN c ps l) : goodC c ps l j = true := by
  have := List.not_of_lt_findIdx h
  simpa using this
theorem chkN_le (c : Cfg) (ps : List (List Op3)) (l : List Com) : chkN c ps l ≤ l.length := by
  have := List.findIdx_le_length (xs := List.range l.length) (p := fun i => !goodC c ps l i)
  rwa [List.length_range] at this
theorem chk_take {c : Cfg} {ps : List (List Op3)} {l : List Com} {n : Nat} (h : n < chkN c ps l) : chkN c ps (l.take n) = (l.take n).length := by
  refine chkN_all fun j hj => ?_
  rw [List.length_take] at hj
  rw [goodC_take (by omega)]
  exact chk_below (by omega)
theorem chk_set {c : Cfg} {ps : List (List Op3)} {l : List Com} {n : Nat} {x : Com} (h : n < chkN c ps l) (hl : n < l.length) (h1 : x.core = l[n].core ∧ x.op = l[n].op) (h2 : x.res ≠ l[n].res) : chkN c ps (l.set n x) = n := by
  have hg := chk_below h
  refine chkN_at (by rw [List.length_set]; exact hl) (fun j hj => ?_) ?_
  · rw [← goodC_take hj, List.take_set_of_le (Nat.le_refl n), goodC_take hj]
    exact chk_below (by omega)
  · unfold goodC at hg ⊢
    rw [List.getElem?_eq_getElem hl] at hg
    rw [List.getElem?_eq_getElem (by rw [List.length_set]; exact hl), List.getElem_set_self, List.take_set_of_le (Nat.le_refl n)]
    simp only [Bool.and_eq_true, decide_eq_true_eq] at hg
    have : ¬ memDoV (trMs c (l.take n)) x.op = x.res := by rw [h1.2, hg.2]; exact fun e => h2 e.symm
    simp only [this, decide_false, Bool.and_false]
theorem cmc_len (l : List Com) : (flat cmc l).length = l.length * 6 := by
  induction l with
  | nil => rfl
  | cons a r ih => show (cmc a ++ flat cmc r).length = _; rw [List.length_append, ih, List.length_cons]; simp; omega
theorem cmc_set {l : List Com} {m : Nat} (hm : m < l.length) (r : Int) : splice (flat cmc l) (m * 6 + 5) [.int .i64 r] = flat cmc (l.set m ⟨l[m].core, l[m].pos, l[m].op, r⟩) := by
  have e : ∀ (l : List Value) (v : Value) (n : Nat), n < l.length → splice l n [v] = l.set n v := fun l v n h => by
    unfold splice
    rw [List.set_eq_take_append_cons_drop, if_pos h]
    simp
  rw [e _ _ _ (by rw [cmc_len]; omega)]
  clear e
  induction l generalizing m with
  | nil => simp at hm
  | cons a t ih =>
    cases m with
    | zero => rfl
    | succ m =>
      have h2 := ih (m := m) (by simpa using hm)
      show (cmc a ++ flat cmc t).set _ _ = cmc a ++ flat cmc (t.set m _)
      rw [List.set_append_right _ _ (by simp; omega)]
      have e2 : (m + 1) * 6 + 5 - (cmc a).length = m * 6 + 5 := by simp; omega
      rw [e2, h2]
      rfl
theorem wrap_other {a b : Int} (ha : I64 a) (hb : I64 b) (h : b ≠ 0) : IntKind.i64.wrap (a + b) ≠ a := by
  unfold I64 at ha hb
  intro hw
  simp only [IntKind.wrap, IntKind.bits, IntKind.signed, Bool.true_and, decide_eq_true_eq] at hw
  split at hw <;> omega
theorem rd_front {F : List HP} {v : Value} {l : List Com} {m e : Nat} (k : RdL F 6 v l.length (flat cmc l)) (hm : m ≤ l.length) (he : m ≤ e) : RdL F 6 (cut v 0 m e 6) (l.take m).length (flat cmc (l.take m)) := by
  have h := RdL.cut (l := 0) (h := m) (m := e) k (by omega) (by omega) he
  rw [List.length_take, Nat.min_eq_left hm]
  have e1 : flat cmc (l.take m) = ((flat cmc l).drop (0 * 6)).take ((m - 0) * 6) := by
    rw [Nat.zero_mul, List.drop_zero, Nat.sub_zero]
    conv => rhs; rw [← List.take_append_drop m l, flat_append]
    rw [List.take_left']
    rw [cmc_len, List.length_take, Nat.min_eq_left hm]
  rw [e1]; exact h
theorem dr_WiLaw_4m {Q P : Prop} (k : Q) (h : Hid Q → P := by
  intro k
  first
  | (refine is_draw ?_; apply WC_mix (id := 10) (.only []) _ (pl := .p 1 <| .p 2 <| .p 3 <| .p 4 <| .r 0 <| .e true [(5, .p 6 <| .p 7 <| .p 8 <| .p 9 <| .p 10 <| .done)]); exact mixed; kernel_rfl; kernel_rfl; exact Ent.refl; exact k.out)) : P := h ⟨k⟩
theorem law19_Cut {W : World} {F : List HP} {c : Cfg} {ps : List PrQ} {pu pv : Option Addr} {cu cv : Nat} {l : List Com} {at' by' : Int} (hc : c.wf) (ha : I64 at') (hb : I64 by') [k : ROld W 6 (.slice pv l.length cv) l.length (flat cmc l)] (hl : l.length ≤ 1000000000000000) (hcv : l.length ≤ cv) (hlw : ∀ x ∈ l, I64 x.res) [kp : ROld W 1 (.slice pu ps.length cu) ps.length (flat prc ps)] (hp : ps.length ≤ 1000000000000000) (hn : ∀ p ∈ ps, p.1.length ≤ 1000000000000000) (kr : OldPr W ps) :
    FnF Try.prog 4 [c.val, .slice pu ps.length cu, .slice pv l.length cv, .int .i64 at', .int .i64 by'] [Old W] F (fun r L' => r = .bool true ∧ L' = [Old W]) := by
  have hL := fun F (kp : RdL F 1 (.slice pu ps.length cu) ps.length (flat prc ps)) => r18_Large (F := F) (c := c) (ps := ps) (k := 0) kp hp hn
  refine FnF.mk' Try.func4 rfl rfl Try.ntmps4 rfl ?_
  cases hla : large18 c (ps.map (·.1)) 0 with
  | true =>
    rw [hla] at hL
    repeat (first | rintro _ _ ⟨rfl, rfl⟩ | refine exq fun _ => ?_ | intro _ | refine go ?_ | refine dr_WiLaw_4m ?_ | refine drq ?_ | refine cal @law19_awake ?_ | refine cal @hL ?_)
    exact fin0
  | false =>
    rw [hla] at hL
    by_cases hm : 300 < l.length
    · repeat (first | rintro _ _ ⟨rfl, rfl⟩ | refine exq fun _ => ?_ | intro _ | refine go ?_ | refine dr_WiLaw_4m ?_ | refine drq ?_ | refine cal @law19_awake ?_ | refine cal @hL ?_)
      exact fin0
    · have hC := fun F (k : RdL F 6 (.slice pv l.length cv) l.length (flat cmc l)) (kp : RdL F 1 (.slice pu ps.length cu) ps.length (flat prc ps)) (kr : RdPr F ps) => wi_Check (F := F) (c := c) hc k (by omega) kp kr
      haveI := kr.rd
      cases hok : chkOk c (ps.map (·.1)) with
      | false =>
        have e1 : chkV c (ps.map (·.1)) l = 0 := by simp [chkV, hok]
        have e2 : chkE c (ps.map (·.1)) l = 1 := by simp [chkE, hok]
        rw [e1, e2] at hC
        repeat (first | rintro _ _ ⟨rfl, rfl⟩ | refine exq fun _ => ?_ | intro _ | refine go ?_ | refine dr_WiLaw_4m ?_ | refine drq ?_ | refine cal @law19_awake ?_ | refine cal @hL ?_ | refine cal @hC ?_)
        exact fin0
      | true =>
        have e1 : chkV c (ps.map (·.1)) l = (chkN c (ps.map (·.1)) l : Int) := by simp [chkV, hok]
        have hle := chkN_le c (ps.map (·.1)) l
        have e2 : chkE c (ps.map (·.1)) l = if chkN c (ps.map (·.1)) l = l.length then 0 else 7 := by simp [chkE, hok]
        rw [e1, e2] at hC
        by_cases hin : at' < 0 ∨ (chkN c (ps.map (·.1)) l : Int) ≤ at'
        · split at hC
          · rename_i h1
            rw [h1] at hC hin
            by_cases h0 : at' < 0
            · repeat (first | rintro _ _ ⟨rfl, rfl⟩ | refine exq fun _ => ?_ | intro _ | refine go ?_ | refine dr_WiLaw_4m ?_ | refine drq ?_ | refine cal @law19_awake ?_ | refine cal @hL ?_ | refine cal @hC ?_)
              exact fin0
            · have h2 : (l.length : Int) ≤ at' := by omega
              repeat (first | rintro _ _ ⟨rfl, rfl⟩ | refine exq fun _ => ?_ | intro _ | refine go ?_ | refine dr_WiLaw_4m ?_ | refine drq ?_ | refine cal @law19_awake ?_ | refine cal @hL ?_ | refine cal @hC ?_)
              exact fin0
          · rename_i h1
            have h3 : chkN c (ps.map (·.1)) l < l.length := by omega
            by_cases h0 : at' < 0
            · repeat (first | rintro _ _ ⟨rfl, rfl⟩ | refine exq fun _ => ?_ | intro _ | refine go ?_ | refine dr_WiLaw_4m ?_ | refine drq ?_ | refine cal @law19_awake ?_ | refine cal @hL ?_ | refine cal @hC ?_)
              exact fin0
            · have h2 : (chkN c (ps.map (·.1)) l : Int) ≤ at' := by omega
              repeat (first | rintro _ _ ⟨rfl, rfl⟩ | refine exq fun _ => ?_ | intro _ | refine go ?_ | refine dr_WiLaw_4m ?_ | refine drq ?_ | refine cal @law19_awake ?_ | refine cal @hL ?_ | refine cal @hC ?_)
              exact fin0
        · obtain ⟨m, rfl⟩ : ∃ m : Nat, at' = m := ⟨at'.toNat, by omega⟩
          have hlt : m < chkN c (ps.map (·.1)) l := by omega
          rw [← e2] at hC
          have hC2 := fun F (k : RdL F 6 (.slice pv l.length cv) l.length (flat cmc l)) (kp : RdL F 1 (.slice pu ps.length cu) ps.length (flat prc ps)) (kr : RdPr F ps) => wi_Check (F := F) (c := c) (l := l.take m) hc (rd_front (e := cv) k (by omega) (by omega)) (by rw [List.length_take]; omega) kp kr
          have f2 : chkV c (ps.map (·.1)) (l.take m) = m := by rw [chkV, hok, chk_take hlt, List.length_take]; simp; omega
          have f3 : chkE c (ps.map (·.1)) (l.take m) = 0 := by simp [chkE, hok, chk_take hlt]
          rw [f2, f3] at hC2
          have f1 : chkE c (ps.map (·.1)) l ≠ 1 := by rw [e2]; split <;> omega
          obtain ⟨ee, e3⟩ : ∃ ee, chkE c (ps.map (·.1)) l = ee := ⟨_, rfl⟩
          rw [e3] at hC f1 e2
          repeat (first | rintro _ _ ⟨rfl, rfl⟩ | refine exq fun _ => ?_ | intro _ | refine go ?_ | refine dr_WiLaw_4m ?_ | refine drq ?_ | refine cal @law19_awake ?_ | refine cal @hL ?_ | refine cal @hC ?_)
          repeat (first | rintro _ _ ⟨rfl, rfl⟩ | refine exq fun _ => ?_ | intro _ | refine go ?_ | refine dr_WiLaw_4m ?_ | refine drq ?_ | refine cal @hC2 ?_)
          rename_i p2 e2' _
          have hml : m < l.length := by omega
          have hms := cmc_set hml (IntKind.i64.wrap (l[m].res + by'))
          simp only [Nat.zero_add, List.nil_append, hms]
          have hlr := hlw _ (List.getElem_mem hml)
          by_cases hb0 : by' = 0
          · subst hb0
            have e4 : l.set m ⟨l[m].core, l[m].pos, l[m].op, IntKind.i64.wrap (l[m].res + 0)⟩ = l := by
              rw [Int.add_zero, wrap_id hlr.1 hlr.2]
              exact List.set_getElem_self hml
            rw [e4]
            have hC3 := fun F p e (k : RdL F 6 (.slice p l.length e) l.length (flat cmc l)) (kp : RdL F 1 (.slice pu ps.length cu) ps.length (flat prc ps)) (kr : RdPr F ps) => wi_Check (F := F) (c := c) hc k (by omega) kp kr
            rw [e1, e3] at hC3
            repeat (first | rintro _ _ ⟨rfl, rfl⟩ | refine exq fun _ => ?_ | intro _ | refine go ?_ | refine dr_WiLaw_4m ?_ | refine drq ?_ | refine cal @hC3 ?_)
            exact fin0
          · have hlen : (l.set m ⟨l[m].core, l[m].pos, l[m].op, IntKind.i64.wrap (l[m].res + by')⟩).length = l.length := List.length_set
            have hcn := chk_set (x := ⟨l[m].core, l[m].pos, l[m].op, IntKind.i64.wrap (l[m].res + by')⟩) hlt hml ⟨rfl, rfl⟩ (wrap_other hlr hb hb0)
            generalize l.set m ⟨l[m].core, l[m].pos, l[m].op, IntKind.i64.wrap (l[m].res + by')⟩ = l2 at hlen hcn ⊢
            have g1 : chkV c (ps.map (·.1)) l2 = m := by simp [chkV, hok, hcn]
            have g2 : chkE c (ps.map (·.1)) l2 = 7 := by simp [chkE, hok, hcn]; omega
            have hC3 := fun F p e (k : RdL F 6 (.slice p l.length e) l.length (flat cmc l2)) (kp : RdL F 1 (.slice pu ps.length cu) ps.length (flat prc ps)) (kr : RdPr F ps) => wi_Check (F := F) (c := c) (l := l2) (v := .slice p l.length e) hc (by rw [hlen]; exact k) (by omega) kp kr
            rw [g1, g2] at hC3
            repeat (first | rintro _ _ ⟨rfl, rfl⟩ | refine exq fun _ => ?_ | intro _ | refine go ?_ | refine dr_WiLaw_4m ?_ | refine drq ?_ | refine cal @hC3 ?_)
            exact fin0
end Go.Sx

/- The laws of witnesses, of what was handed in. My own work. -/
namespace Go.Sx
open Go Go.Proofs Go.ChangeShapes Go.WideShapes
set_option linter.unusedVariables false
theorem okWide_cap {P : Program} {w : World} {r : Reach} {base : Nat} {t e : TypeId} {a : Option Addr} {n c : Nat} (ht : P.underlying t = some (.slice e)) (h : Value.okWide P w r base t (.slice a n c)) : n ≤ c := by
  simp only [Value.okWide, ht, Cell.okWide, Cell.ok] at h
  cases a with
  | none =>
    cases n with
    | zero => exact Nat.zero_le _
    | succ n => simp [ht] at h
  | some a =>
    simp [ht] at h
    exact h.1
theorem old_pr {W : World} {ps : List PrQ} (h : ∀ p ∈ ps, PrQ.ok W p) : OldPr W ps := fun p hp => (h p hp).1
theorem old_len {n k b : Nat} (h : n * b ≤ reachBytes) (hb : b = k) (h0 : 0 < k) : n ≤ 1000000000000000 := by
  subst hb
  have hr : reachBytes = 140737488351232 := rfl
  rw [hr] at h
  have : n * 1 ≤ n * b := Nat.mul_le_mul_left n h0
  omega
theorem old19_Tells {W : World} {F : List HP} {c : Cfg} {ps : List PrQ} {u v : Value} {l : List Com} {addr : Int} (hc : c.wf) (hp : ∀ p ∈ ps, PrQ.ok W p) (ha : I64 addr) (kp : ROld W 1 u ps.length (flat prc ps)) (bp : ps.length * Try.prog.bytesOf 82 ≤ reachBytes) (k : ROld W 6 v l.length (flat cmc l)) (bl : l.length * Try.prog.bytesOf 41 ≤ reachBytes) :
    FnF Try.prog 3 [c.val, u, v, .int .i64 addr] [Old W] F (fun r L' => r = .bool true ∧ L' = [Old W]) := by
  obtain ⟨pu, cu, rfl⟩ := slice_shape kp
  obtain ⟨pv, cv, rfl⟩ := slice_shape k
  exact law19_Tells hc ha (old_len (k := 48) bl (by kernel_rfl) (by decide)) (old_len (k := 24) bp (by kernel_rfl) (by decide)) (fun p h => (hp p h).2.2) (old_pr hp)
set_option maxRecDepth 100000 in
theorem old19_Cut {W : World} {F : List HP} {c : Cfg} {ps : List PrQ} {u v : Value} {l : List Com} {at' by' : Int} (hc : c.wf) (hp : ∀ p ∈ ps, PrQ.ok W p) (hl : ∀ x ∈ l, Com.wf x) (ha : I64 at') (hb : I64 by') (kp : ROld W 1 u ps.length (flat prc ps)) (bp : ps.length * Try.prog.bytesOf 82 ≤ reachBytes) (k : ROld W 6 v l.length (flat cmc l)) (bl : l.length * Try.prog.bytesOf 41 ≤ reachBytes)
    {r : Reach} {base : Nat} (hw : Value.okWide Try.prog W r base 26 v) :
    FnF Try.prog 4 [c.val, u, v, .int .i64 at', .int .i64 by'] [Old W] F (fun r L' => r = .bool true ∧ L' = [Old W]) := by
  obtain ⟨pu, cu, rfl⟩ := slice_shape kp
  obtain ⟨pv, cv, rfl⟩ := slice_shape k
  have hcap : l.length ≤ cv := okWide_cap (P := Try.prog) (w := W) (r := r) (base := base) Try.underlying26 hw
  exact law19_Cut hc ha hb (old_len (k := 48) bl (by kernel_rfl) (by decide)) hcap (fun x h => (hl x h).2.2.2) (old_len (k := 24) bp (by kernel_rfl) (by decide)) (fun p h => (hp p h).2.2) (old_pr hp)
end Go.Sx
