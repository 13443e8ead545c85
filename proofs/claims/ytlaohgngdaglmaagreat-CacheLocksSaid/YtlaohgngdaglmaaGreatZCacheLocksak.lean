/- CaLaw, CaDr, CaLock, CaRead: several of my texts as one. My own work. -/
import Derived.Test.YtlaohgngdaglmaaGreatZCacheLocksai
import Derived.Test.YtlaohgngdaglmaaGreatZCacheLocksaj
import Derived.Test.YtlaohgngdaglmaaGreatZCacheLocksaa
/- The law of caches: what its functions do. My own work. -/
namespace Go.Sx
open Go Go.Proofs
set_option linter.unusedVariables false
set_option linter.unusedSectionVars false
set_option linter.unusedSimpArgs false
def c14 : Cfg := ⟨2, 1, 1, 1, 2, 4, 0, 1, 1, 1, 1, 1, 1⟩
def ca0 : CaS := ⟨[.zero], [], []⟩
def ca1 : CaS := ⟨[⟨0, 3, .zero, true⟩], [⟨3, 2, -1, 0, 0, .zero, false, false⟩], []⟩
def w56 : Words := ⟨5, 6, 0, 0, 0, 0, 0, 0⟩
def w59 : Words := ⟨5, 9, 0, 0, 0, 0, 0, 0⟩
def ca2 : CaS := ⟨[⟨4, 3, w56, true⟩], [⟨3, 2, 0, 0, 4, w56, false, true⟩], []⟩
def ca3 : CaS := ⟨[⟨4, 3, w59, true⟩], [⟨3, 2, 0, 0, 4, w56, false, true⟩], []⟩
def ca4 : CaS := ⟨[⟨4, 3, w59, false⟩], [], []⟩
def ca5 : CaS := ⟨[⟨0, 3, .zero, false⟩], [], [⟨3, w59, true⟩]⟩
def ca6 : CaS := ⟨[⟨0, 3, .zero, false⟩], [], [⟨3, w59, false⟩]⟩
def largeB (c : Cfg) : Bool := decide (64 < c.lines ∧ c.lines ≤ 1024)
set_option maxRecDepth 100000
set_option maxHeartbeats 4000000
attribute [local irreducible] Go.Exit.then Go.Exit.inBlock Go.Code.wp WC WO WE WQ V LoopQ FnQ Sat Star band bor IntKind.wrap WR Code.rounds WT KO
theorem law14_large {F : List HP} {c : Cfg} : FnF Tryz.prog 10 [c.val] [] F (fun r L' => r = .bool (largeB c) ∧ L' = []) := by
  refine FnF.mk' Tryz.func10 rfl rfl Tryz.ntmps10 rfl ?_
  unfold largeB
  by_cases h : c.lines > 64
  · repeat (first | rintro _ _ ⟨rfl, rfl⟩ | refine exq fun _ => ?_ | intro _ | refine go ?_ | refine drq ?_)
    (apply WE_ret rfl rfl (by (repeat (first | exact ResOk.nil | (apply ResOk.tmp; rfl) | (apply resOk_cell; rfl; exact inferInstance; rfl; rfl)))); (first | exact ⟨rfl, rfl⟩ | exact ⟨congrArg Value.bool (by decide), rfl⟩ | exact ⟨_, rfl, rfl⟩ | exact ⟨_, _, rfl, rfl⟩ | exact ⟨by first | (simp [h]; done) | (simp [h] <;> omega), rfl⟩); (repeat (first | exact Ent.refl | exact Ent.nil | apply Ent.pick | apply Ent.drop)))
  · repeat (first | rintro _ _ ⟨rfl, rfl⟩ | refine exq fun _ => ?_ | intro _ | refine go ?_ | refine drq ?_)
    (apply WE_ret rfl rfl (by (repeat (first | exact ResOk.nil | (apply ResOk.tmp; rfl) | (apply resOk_cell; rfl; exact inferInstance; rfl; rfl)))); (first | exact ⟨rfl, rfl⟩ | exact ⟨congrArg Value.bool (by decide), rfl⟩ | exact ⟨_, rfl, rfl⟩ | exact ⟨_, _, rfl, rfl⟩ | exact ⟨by first | (simp [h]; done) | (simp [h] <;> omega), rfl⟩); (repeat (first | exact Ent.refl | exact Ent.nil | apply Ent.pick | apply Ent.drop)))
theorem law14_awake {F : List HP} : FnF Tryz.prog 9 [] [] F (fun r L' => r = .bool true ∧ L' = []) := by
  have hc : checkB c14 = true := by decide
  have hw := cfg_wf hc
  have i3 : I64 3 := by decide
  have hN := fun F => ca_New (F := F) (core := 1) hw ⟨hc, by decide, by decide⟩
  have hN0 := fun F => ca_New_no (F := F) (core := 2) hw (by decide)
  have e0 : (⟨List.replicate (c14.sets * c14.ways).toNat .zero, [], []⟩ : CaS) = ca0 := by kernel_rfl
  rw [e0] at hN
  have hA := fun F b => ca_Ask (F := F) (b := b) (c := c14) (core := 1) (k := ca0) (line := 3) (kind := 2) i3
  rw [show caAskK c14 ca0 3 2 = ca1 by kernel_rfl, show caAskE c14 ca0 3 2 = 0 by kernel_rfl, show caAskM c14 1 ca0 3 2 = ⟨2, 3, 1, 0, 0, 0, 0, .zero⟩ by kernel_rfl] at hA
  have hB := fun F b => ca_Do (F := F) (b := b) (c := c14) (core := 1) (k := ca1) (x := ⟨1, 7, 0⟩) ⟨by decide, by decide, by decide⟩
  rw [show caDoK c14 ca1 ⟨1, 7, 0⟩ = ca1 by kernel_rfl, show caDoE c14 ca1 ⟨1, 7, 0⟩ = 5 by kernel_rfl] at hB
  have hC := fun F b => ca_Take (F := F) (b := b) (c := c14) (core := 1) (k := ca1) (m := ⟨7, 3, 0, 1, 0, 0, 4, w56⟩) (by decide)
  rw [show caTakeK c14 1 ca1 ⟨7, 3, 0, 1, 0, 0, 4, w56⟩ = ca2 by kernel_rfl, show caTakeE c14 1 ca1 ⟨7, 3, 0, 1, 0, 0, 4, w56⟩ = 0 by kernel_rfl, show caTakeB c14 1 ca1 ⟨7, 3, 0, 1, 0, 0, 4, w56⟩ = false by kernel_rfl] at hC
  have hD := fun F b => ca_Do (F := F) (b := b) (c := c14) (core := 1) (k := ca2) (x := ⟨3, 7, 9⟩) ⟨by decide, by decide, by decide⟩
  rw [show caDoK c14 ca2 ⟨3, 7, 9⟩ = ca3 by kernel_rfl, show caDoE c14 ca2 ⟨3, 7, 9⟩ = 0 by kernel_rfl, show caDoV c14 ca2 ⟨3, 7, 9⟩ = 6 by kernel_rfl] at hD
  have hE := fun F b => ca_Finish (F := F) (b := b) (c := c14) (core := 1) (k := ca3) (by decide)
  rw [show caFinK c14 ca3 = ca4 by kernel_rfl, show caFinB ca3 = true by kernel_rfl, show caFinM c14 1 ca3 = ⟨11, 3, 1, 0, 0, 0, 0, .zero⟩ by kernel_rfl] at hE
  have hG := fun F b => ca_Evict (F := F) (b := b) (c := c14) (core := 1) (k := ca4) (s := 0) (w := 0) (fun i h _ => by
    have : i = 0 := by simp [ca4] at h; exact h
    subst this
    refine ⟨show okLine c14 3 = true by decide, show arrF c14 3 ≤ 0 by decide, show 0 < arrF c14 3 + c14.ways.toNat by decide, fun j hj _ _ => ?_⟩
    simp [ca4] at hj; exact hj)
  rw [show caEvK c14 ca4 0 0 = ca5 by kernel_rfl, show caEvB c14 ca4 0 0 = true by kernel_rfl, show caEvE c14 ca4 0 0 = 0 by kernel_rfl, show caEvM c14 1 ca4 0 0 = ⟨3, 3, 1, 0, 0, 0, 0, w59⟩ by kernel_rfl] at hG
  have hH := fun F b => ca_Take (F := F) (b := b) (c := c14) (core := 1) (k := ca5) (m := ⟨5, 3, 0, 1, 0, 1, 0, .zero⟩) (by decide)
  rw [show caTakeK c14 1 ca5 ⟨5, 3, 0, 1, 0, 1, 0, .zero⟩ = ca6 by kernel_rfl, show caTakeE c14 1 ca5 ⟨5, 3, 0, 1, 0, 1, 0, .zero⟩ = 0 by kernel_rfl, show caTakeB c14 1 ca5 ⟨5, 3, 0, 1, 0, 1, 0, .zero⟩ = true by kernel_rfl, show caTakeM c14 1 ca5 ⟨5, 3, 0, 1, 0, 1, 0, .zero⟩ = ⟨7, 3, 1, 0, 1, 1, 4, w59⟩ by kernel_rfl] at hH
  have hI := fun F b => ca_Take (F := F) (b := b) (c := c14) (core := 1) (k := ca6) (m := ⟨5, 3, 0, 1, 0, 0, 0, .zero⟩) (by decide)
  rw [show caTakeK c14 1 ca6 ⟨5, 3, 0, 1, 0, 0, 0, .zero⟩ = ca6 by kernel_rfl, show caTakeE c14 1 ca6 ⟨5, 3, 0, 1, 0, 0, 0, .zero⟩ = 7 by kernel_rfl] at hI
  have hJ := fun F b => ca_Written (F := F) (b := b) (c := c14) (core := 1) (k := ca6)
  obtain ⟨bl, hbl⟩ : ∃ bl, bl = ca6.buf := ⟨_, rfl⟩
  have hb1 : bl.length = 1 := by rw [hbl]; rfl
  have hb0 : bl[(0 : Int).toNat]? = some ⟨3, w59, false⟩ := by rw [hbl]; rfl
  rw [← hbl] at hJ
  have hK := fun F b => ca_Misses (F := F) (b := b) (c := c14) (core := 1) (k := ca6)
  refine FnF.mk' Tryz.func9 rfl rfl Tryz.ntmps9 rfl ?_
  repeat (first | rintro _ _ ⟨rfl, rfl⟩ | refine exq fun _ => ?_ | intro _ | refine go ?_ | refine drq ?_ | refine cal @hN ?_ | refine cal @hN0 ?_ | refine cal @hA ?_ | refine cal @hB ?_ | refine cal @hC ?_ | refine cal @hD ?_ | refine cal @hE ?_ | refine cal @hG ?_ | refine cal @hH ?_ | refine cal @hI ?_ | refine cal @hJ ?_ | refine cal @hK ?_)
  exact fin0
theorem law14_do {F : List HP} {b n : Nat} {c : Cfg} {core : Int} {k : CaS} {s : CStep} (hI : CaInv c n k) (hn : n ≤ 1000000) (hs : s.wf) :
    FnF Tryz.prog 13 [.pointer (some ⟨b, 0, none⟩), csv s] [CaP b c core k] F (fun r L' => r = rpv (stM c core k s) (stB c core k s) (stN c k s) (stE c core k s) ∧ L' = [CaP b c core (stK c core k s)]) := by
  obtain ⟨p1, p2, p3, p4⟩ := ca_pre hI hn
  obtain ⟨s1, s2, s3, s4, s5⟩ := hs
  unfold stM stB stN stE stK
  by_cases g0 : s.d = 0
  · have hA := fun F => ca_Ask (F := F) (b := b) (c := c) (core := core) (k := k) (line := s.a) (kind := s.b) s2
    simp only [g0, if_true, true_or]
    refine FnF.mk' Tryz.func13 rfl rfl Tryz.ntmps13 rfl ?_
    repeat (first | rintro _ _ ⟨rfl, rfl⟩ | refine exq fun _ => ?_ | intro _ | refine go ?_ | refine drq ?_ | refine cal @hA ?_)
    exact fin0
  · by_cases g1 : s.d = 1
    · have hA := fun F => ca_Evict (F := F) (b := b) (c := c) (core := core) (k := k) (s := s.a) (w := s.b) hI.1
      simp only [g1, Int.reduceEq, if_true, if_false, true_or, or_true]
      refine FnF.mk' Tryz.func13 rfl rfl Tryz.ntmps13 rfl ?_
      repeat (first | rintro _ _ ⟨rfl, rfl⟩ | refine exq fun _ => ?_ | intro _ | refine go ?_ | refine drq ?_ | refine cal @hA ?_)
      exact fin0
    · by_cases g2 : s.d = 2
      · have hA := fun F => ca_Take (F := F) (b := b) (c := c) (core := core) (k := k) (m := s.m) p1
        simp only [g2, Int.reduceEq, if_true, if_false, true_or, or_true]
        refine FnF.mk' Tryz.func13 rfl rfl Tryz.ntmps13 rfl ?_
        repeat (first | rintro _ _ ⟨rfl, rfl⟩ | refine exq fun _ => ?_ | intro _ | refine go ?_ | refine drq ?_ | refine cal @hA ?_)
        exact fin0
      · by_cases g3 : s.d = 3
        · have hA := fun F => ca_Finish (F := F) (b := b) (c := c) (core := core) (k := k) p3
          simp only [g3, Int.reduceEq, if_true, if_false, true_or, or_true]
          refine FnF.mk' Tryz.func13 rfl rfl Tryz.ntmps13 rfl ?_
          repeat (first | rintro _ _ ⟨rfl, rfl⟩ | refine exq fun _ => ?_ | intro _ | refine go ?_ | refine drq ?_ | refine cal @hA ?_)
          exact fin0
        · have hA := fun F => ca_Do (F := F) (b := b) (c := c) (core := core) (k := k) (x := s.x) s5
          simp only [g0, g1, g2, g3, if_false, or_false]
          refine FnF.mk' Tryz.func13 rfl rfl Tryz.ntmps13 rfl ?_
          repeat (first | rintro _ _ ⟨rfl, rfl⟩ | refine exq fun _ => ?_ | intro _ | refine go ?_ | refine drq ?_ | refine cal @hA ?_)
          exact fin0
end Go.Sx

/- The law of caches: a cache's picture, and whether pictures are the same. My own work. -/
namespace Go.Sx
open Go Go.Proofs
set_option linter.unusedVariables false
set_option linter.unusedSectionVars false
set_option linter.unusedSimpArgs false
theorem rl_fact {α : Type} {T e : TypeId} {sz : Nat} {enc : α → List Value} {b : Nat} {room : Int} {l : List α} {L : List HP} {w : World} (h : Sat (RL T e sz enc b room l :: L) w) : (l.length : Int) ≤ room ∧ room ≤ 4096 := by
  obtain ⟨⟨p, c0⟩, hx⟩ := star_ex h
  simp only [app] at hx
  exact fact_of (star_drop (star_drop hx))
theorem take_next {α : Type} {enc : α → List Value} {l : List α} {i : Nat} (hi : i < l.length) : flat enc (l.take i) ++ enc l[i] = flat enc (l.take (i + 1)) := by
  rw [List.take_succ_eq_append_getElem hi, flat_append, flat_one]
/-- What is so of a cache in memory. -/
def CaFacts (c : Cfg) (core : Int) (k : CaS) : Prop := checkB c = true ∧ (k.ways.length : Int) = c.sets * c.ways ∧ (k.mis.length : Int) ≤ c.mshrs ∧ (k.buf.length : Int) ≤ c.writebacks ∧ 0 ≤ core ∧ core < c.cores
theorem ca_facts {b : Nat} {c : Cfg} {core : Int} {k : CaS} {L : List HP} {w : World} (h : Sat (CaP b c core k :: L) w) : CaFacts c core k := by
  obtain ⟨a, f, e, hf, hx⟩ := ca_sat h
  have h1 := sat_tail hx
  obtain ⟨g, ha, hy⟩ := arr_sat h1
  have h2 := sat_tail h1
  exact ⟨hf.1, ha.2, (rl_fact h2).1, (rl_fact (sat_tail h2)).1, hf.2.1, hf.2.2⟩
theorem WC_ca {b : Nat} {c : Cfg} {core : Int} {k : CaS} {N : Nat} {env : Env} {L : List HP} {co : Code} {Q : Exit → Act → World → Prop} (h : CaFacts c core k → WC Tryz.prog N co env (CaP b c core k :: L) Q) : WC Tryz.prog N co env (CaP b c core k :: L) Q := fun a w ha hw => h (ca_facts hw) a w ha hw
theorem WO_ca {b : Nat} {c : Cfg} {core : Int} {k : CaS} {N : Nat} {env : Env} {L : List HP} {all : Array Oper} {co : List Oper} {Q : Exit → Act → World → Prop} (h : CaFacts c core k → WO Tryz.prog N all co env (CaP b c core k :: L) Q) : WO Tryz.prog N all co env (CaP b c core k :: L) Q := fun a w ha hw => h (ca_facts hw) a w ha hw
set_option maxRecDepth 100000
set_option maxHeartbeats 4000000
attribute [local irreducible] Go.Exit.then Go.Exit.inBlock Go.Code.wp WC WO WE WQ V LoopQ FnQ Sat Star band bor IntKind.wrap WR Code.rounds WT KO
theorem law14_drawn {F : List HP} {b : Nat} {c : Cfg} {core : Int} {k : CaS} :
    FnF Tryz.prog 15 [c.val, .pointer (some ⟨b, 0, none⟩)] [CaP b c core k] F (fun r L' => ∃ p1 c1 p2 c2 p3 c3, r = .agg [.slice p1 k.ways.length c1, .slice p2 k.mis.length c2, .slice p3 k.buf.length c3].toArray ∧
      L' = [Own 69 11 (.slice p1 k.ways.length c1) k.ways.length (flat wyc k.ways), Own 75 15 (.slice p2 k.mis.length c2) k.mis.length (flat msc' k.mis), Own 77 10 (.slice p3 k.buf.length c3) k.buf.length (flat bc k.buf), CaP b c core k]) := by
  refine FnF.mk' Tryz.func15 rfl rfl Tryz.ntmps15 rfl ?_
  refine WC_ca fun hf => ?_
  obtain ⟨hc, hn, hm, hb, _, _⟩ := hf
  obtain ⟨en, h4, h5, h6, h7, h8⟩ := arr_nums hc hn
  have hr := cfg_rooms hc
  have eW : c.ways = (c.ways.toNat : Int) := by omega
  have eS : c.sets = (c.sets.toNat : Int) := by omega
  repeat (first | rintro _ _ ⟨rfl, rfl⟩ | refine exq fun _ => ?_ | intro _ | refine go ?_ | refine drq ?_)
  rename_i b2 b4 b5
  apply WC_loopE (E0 := [(1, _), (2, _), (4, _), (5, _)]) (fun E0 (q : Nat × Option Addr × Nat) => (6, .int .i64 q.1) :: E0)
    (fun q => Own 69 11 (.slice q.2.1 (q.1 * c.ways.toNat) q.2.2) (q.1 * c.ways.toNat) (flat wyc (k.ways.take (q.1 * c.ways.toNat))) :: Cells b5 51 [.slice q.2.1 (q.1 * c.ways.toNat) q.2.2, .slice none 0 0, .slice none 0 0] :: Cells b4 51 [.slice none 0 0, .slice none 0 0, .slice none 0 0] :: Cells b2 24 c.cells :: CaP b c core k :: F)
    (fun q => q.1 ≤ c.sets.toNat) (fun q => c.sets.toNat - q.1) (0, none, 0)
  · (repeat (first | exact Sub.nil | (refine Sub.cons (by first | rfl | (simp only [Nat.zero_add]; rfl)) ?_)))
  · exact Nat.zero_le _
  · dsimp only; simp only [Nat.zero_mul, List.take_zero, flat_nil]; exact own_empty (by exact entu0)
  · rintro ⟨s, p, q⟩ hs
    dsimp only at hs ⊢
    by_cases hlt : s < c.sets.toNat
    · have hlt' : (s : Int) < c.sets := by omega
      have hr1 := set_room (s := s) (W := c.ways.toNat) (S := c.sets.toNat) hlt
      have hsl := Nat.succ_mul s c.ways.toNat
      have hsm : s * c.ways.toNat ≤ 512 := by omega
      repeat (first | rintro _ _ ⟨rfl, rfl⟩ | refine exq fun _ => ?_ | intro _ | refine go ?_ | refine drq ?_)
      apply WC_loopE (E0 := [(1, _), (2, _), (4, _), (5, _), (6, _)]) (fun E0 (r : Nat × Option Addr × Nat) => (7, .int .i64 r.1) :: E0)
        (fun r => Own 69 11 (.slice r.2.1 (s * c.ways.toNat + r.1) r.2.2) (s * c.ways.toNat + r.1) (flat wyc (k.ways.take (s * c.ways.toNat + r.1))) :: Cells b5 51 [.slice r.2.1 (s * c.ways.toNat + r.1) r.2.2, .slice none 0 0, .slice none 0 0] :: Cells b4 51 [.slice none 0 0, .slice none 0 0, .slice none 0 0] :: Cells b2 24 c.cells :: CaP b c core k :: F)
        (fun r => r.1 ≤ c.ways.toNat) (fun r => c.ways.toNat - r.1) (0, p, q)
      · (repeat (first | exact Sub.nil | (refine Sub.cons (by first | rfl | (simp only [Nat.zero_add]; rfl)) ?_)))
      · exact Nat.zero_le _
      · dsimp only; simp only [Nat.add_zero]; exact entu0
      · rintro ⟨w, p', q'⟩ hw
        dsimp only at hw ⊢
        by_cases hlw : w < c.ways.toNat
        · have hlw' : (w : Int) < c.ways := by omega
          have hix : s * c.ways.toNat + w < k.ways.length := by omega
          have e0 : atW c k.ways s w = k.ways[s * c.ways.toNat + w] := by
            unfold atW
            rw [if_pos (by simp [inWay]; omega), Int.toNat_natCast, Int.toNat_natCast]
            exact (getD_at hix).symm
          have hWay := fun F => ca_Way (F := F) (b := b) (c := c) (core := core) (s := s) (w := w) (k := k)
          rw [e0] at hWay
          repeat (first | rintro _ _ ⟨rfl, rfl⟩ | refine exq fun _ => ?_ | intro _ | refine go ?_ | refine drq ?_ | refine cal @hWay ?_)
          rename_i p2 c2
          refine WE_loop (w + 1, p2, c2) (by dsimp only; omega) (by dsimp only; omega) ?_ ?_
          · dsimp only; (repeat (first | exact Sub.nil | (refine Sub.cons (by first | rfl | (simp only [Nat.zero_add]; rfl)) ?_)))
          · dsimp only
            rw [show s * c.ways.toNat + (w + 1) = s * c.ways.toNat + w + 1 by omega, ← take_next hix]
            exact entu0
        · have hww : w = c.ways.toNat := by omega
          subst hww
          repeat (first | rintro _ _ ⟨rfl, rfl⟩ | refine exq fun _ => ?_ | intro _ | refine go ?_ | refine drq ?_)
          refine WE_loop (s + 1, p', q') (by dsimp only; omega) (by dsimp only; omega) ?_ ?_
          · dsimp only; (repeat (first | exact Sub.nil | (refine Sub.cons (by first | rfl | (simp only [Nat.zero_add]; rfl)) ?_)))
          · dsimp only; rw [hsl]; exact entu0
    · have hss : s = c.sets.toNat := by omega
      subst hss
      rw [← en, List.take_length]
      repeat (first | rintro _ _ ⟨rfl, rfl⟩ | refine exq fun _ => ?_ | intro _ | refine go ?_ | refine drq ?_ | refine cal @ca_Misses ?_)
      rename_i pm qm
      apply WC_loopE (E0 := [(1, _), (4, _), (5, _), (41, _), (42, _)]) (fun E0 (q : Nat × Option Addr × Nat) => (43, .int .i64 q.1) :: E0)
        (fun r => Own 75 15 (.slice r.2.1 r.1 r.2.2) r.1 (flat msc' (k.mis.take r.1)) :: Cells b5 51 [.slice p k.ways.length q, .slice r.2.1 r.1 r.2.2, .slice none 0 0] :: Own 69 11 (.slice p k.ways.length q) k.ways.length (flat wyc k.ways) :: Own 162 15 (.slice pm k.mis.length qm) k.mis.length (flat msc' k.mis) :: Cells b4 51 [.slice none 0 0, .slice none 0 0, .slice none 0 0] :: CaP b c core k :: F)
        (fun r => r.1 ≤ k.mis.length) (fun r => k.mis.length - r.1) (0, none, 0)
      · (repeat (first | exact Sub.nil | (refine Sub.cons (by first | rfl | (simp only [Nat.zero_add]; rfl)) ?_)))
      · exact Nat.zero_le _
      · dsimp only; simp only [List.take_zero, flat_nil]; exact own_empty (by exact entu0)
      · rintro ⟨i, p2, q2⟩ hi
        dsimp only at hi ⊢
        by_cases hli : i < k.mis.length
        · repeat (first | rintro _ _ ⟨rfl, rfl⟩ | refine exq fun _ => ?_ | intro _ | refine go ?_ | refine drq ?_)
          rename_i p3 c3
          refine WE_loop (i + 1, p3, c3) (by dsimp only; omega) (by dsimp only; omega) ?_ ?_
          · dsimp only; (repeat (first | exact Sub.nil | (refine Sub.cons (by first | rfl | (simp only [Nat.zero_add]; rfl)) ?_)))
          · dsimp only
            rw [← take_next hli]
            exact entu0
        · have hii : i = k.mis.length := by omega
          subst hii
          rw [List.take_length]
          repeat (first | rintro _ _ ⟨rfl, rfl⟩ | refine exq fun _ => ?_ | intro _ | refine go ?_ | refine drq ?_ | refine cal @ca_Written ?_)
          rename_i pb qb
          apply WC_loopE (E0 := [(4, _), (5, _), (55, _), (56, _)]) (fun E0 (q : Nat × Option Addr × Nat) => (57, .int .i64 q.1) :: E0)
            (fun r => Own 77 10 (.slice r.2.1 r.1 r.2.2) r.1 (flat bc (k.buf.take r.1)) :: Cells b5 51 [.slice p k.ways.length q, .slice p2 k.mis.length q2, .slice r.2.1 r.1 r.2.2] :: Own 69 11 (.slice p k.ways.length q) k.ways.length (flat wyc k.ways) :: Own 75 15 (.slice p2 k.mis.length q2) k.mis.length (flat msc' k.mis) :: Own 142 10 (.slice pb k.buf.length qb) k.buf.length (flat bc k.buf) :: Cells b4 51 [.slice none 0 0, .slice none 0 0, .slice none 0 0] :: CaP b c core k :: F)
            (fun r => r.1 ≤ k.buf.length) (fun r => k.buf.length - r.1) (0, none, 0)
          · (repeat (first | exact Sub.nil | (refine Sub.cons (by first | rfl | (simp only [Nat.zero_add]; rfl)) ?_)))
          · exact Nat.zero_le _
          · dsimp only; simp only [List.take_zero, flat_nil]; exact own_empty (by exact entu0)
          · rintro ⟨j, p4, q4⟩ hj
            dsimp only at hj ⊢
            by_cases hlj : j < k.buf.length
            · repeat (first | rintro _ _ ⟨rfl, rfl⟩ | refine exq fun _ => ?_ | intro _ | refine go ?_ | refine drq ?_)
              rename_i p5 c5
              refine WE_loop (j + 1, p5, c5) (by dsimp only; omega) (by dsimp only; omega) ?_ ?_
              · dsimp only; (repeat (first | exact Sub.nil | (refine Sub.cons (by first | rfl | (simp only [Nat.zero_add]; rfl)) ?_)))
              · dsimp only
                rw [← take_next hlj]
                exact entu0
            · have hjj : j = k.buf.length := by omega
              subst hjj
              rw [List.take_length]
              repeat (first | rintro _ _ ⟨rfl, rfl⟩ | refine exq fun _ => ?_ | intro _ | refine go ?_ | refine drq ?_)
              (apply WE_ret rfl rfl (by (repeat (first | exact ResOk.nil | (apply ResOk.tmp; rfl) | (apply resOk_cell; rfl; exact inferInstance; rfl; rfl)))))
              · exact ⟨_, _, _, _, _, _, rfl, rfl⟩
              · exact entu0
theorem law14_same {F : List HP} {v1 v2 v3 u1 u2 u3 : Value} {l1 : List Way} {l2 : List Miss} {l3 : List WbE} (k1 : RdL F 11 v1 l1.length (flat wyc l1)) (k2 : RdL F 15 v2 l2.length (flat msc' l2)) (k3 : RdL F 10 v3 l3.length (flat bc l3))
    (j1 : RdL F 11 u1 l1.length (flat wyc l1)) (j2 : RdL F 15 u2 l2.length (flat msc' l2)) (j3 : RdL F 10 u3 l3.length (flat bc l3)) (h1 : l1.length ≤ 4096) (h2 : l2.length ≤ 4096) (h3 : l3.length ≤ 4096) :
    FnF Tryz.prog 16 [.agg [v1, v2, v3].toArray, .agg [u1, u2, u3].toArray] [] F (fun r L' => r = .bool true ∧ L' = []) := by
  refine FnF.mk' Tryz.func16 rfl rfl Tryz.ntmps16 rfl ?_
  haveI := k1
  haveI := k2
  haveI := k3
  haveI := j1
  haveI := j2
  haveI := j3
  repeat (first | rintro _ _ ⟨rfl, rfl⟩ | refine exq fun _ => ?_ | intro _ | refine go ?_ | refine drq ?_)
  rename_i b2 b3
  apply WC_loopE (E0 := [(2, _), (3, _), (35, _)]) (fun E0 (i : Nat) => (36, .int .i64 i) :: E0) (fun _ => Cells b2 51 [v1, v2, v3] :: Cells b3 51 [u1, u2, u3] :: F) (fun i => i ≤ l1.length) (fun i => l1.length - i) 0
  · (repeat (first | exact Sub.nil | (refine Sub.cons (by first | rfl | (simp only [Nat.zero_add]; rfl)) ?_)))
  · exact Nat.zero_le _
  · exact entu0
  · intro i hi
    by_cases hlt : i < l1.length
    · repeat' (first | rintro _ _ ⟨rfl, rfl⟩ | refine exq fun _ => ?_ | intro _ | refine go ?_ | refine drq ?_ | refine spl ?_ ?_ | fail)
      all_goals refine WE_loop (i + 1) (by omega) (by omega) ?_ ?_
      all_goals first | ((repeat (first | exact Sub.nil | (refine Sub.cons (by first | rfl | (simp only [Nat.zero_add]; rfl)) ?_))); done) | (exact entu0; done)
    · have hii : i = l1.length := by omega
      subst hii
      repeat (first | rintro _ _ ⟨rfl, rfl⟩ | refine exq fun _ => ?_ | intro _ | refine go ?_ | refine drq ?_)
      apply WC_loopE (E0 := [(2, _), (3, _), (53, _)]) (fun E0 (i : Nat) => (54, .int .i64 i) :: E0) (fun _ => Cells b2 51 [v1, v2, v3] :: Cells b3 51 [u1, u2, u3] :: F) (fun i => i ≤ l2.length) (fun i => l2.length - i) 0
      · (repeat (first | exact Sub.nil | (refine Sub.cons (by first | rfl | (simp only [Nat.zero_add]; rfl)) ?_)))
      · exact Nat.zero_le _
      · exact entu0
      · intro i hi
        by_cases hlt : i < l2.length
        · repeat' (first | rintro _ _ ⟨rfl, rfl⟩ | refine exq fun _ => ?_ | intro _ | refine go ?_ | refine drq ?_ | refine spl ?_ ?_ | fail)
          all_goals refine WE_loop (i + 1) (by omega) (by omega) ?_ ?_
          all_goals first | ((repeat (first | exact Sub.nil | (refine Sub.cons (by first | rfl | (simp only [Nat.zero_add]; rfl)) ?_))); done) | (exact entu0; done)
        · have hii : i = l2.length := by omega
          subst hii
          repeat (first | rintro _ _ ⟨rfl, rfl⟩ | refine exq fun _ => ?_ | intro _ | refine go ?_ | refine drq ?_)
          apply WC_loopE (E0 := [(2, _), (3, _), (71, _)]) (fun E0 (i : Nat) => (72, .int .i64 i) :: E0) (fun _ => Cells b2 51 [v1, v2, v3] :: Cells b3 51 [u1, u2, u3] :: F) (fun i => i ≤ l3.length) (fun i => l3.length - i) 0
          · (repeat (first | exact Sub.nil | (refine Sub.cons (by first | rfl | (simp only [Nat.zero_add]; rfl)) ?_)))
          · exact Nat.zero_le _
          · exact entu0
          · intro i hi
            by_cases hlt : i < l3.length
            · repeat' (first | rintro _ _ ⟨rfl, rfl⟩ | refine exq fun _ => ?_ | intro _ | refine go ?_ | refine drq ?_ | refine spl ?_ ?_ | fail)
              all_goals refine WE_loop (i + 1) (by omega) (by omega) ?_ ?_
              all_goals first | ((repeat (first | exact Sub.nil | (refine Sub.cons (by first | rfl | (simp only [Nat.zero_add]; rfl)) ?_))); done) | (exact entu0; done)
            · have hii : i = l3.length := by omega
              subst hii
              repeat (first | rintro _ _ ⟨rfl, rfl⟩ | refine exq fun _ => ?_ | intro _ | refine go ?_ | refine drq ?_)
              exact fin0
/-- A contract whose cache is handed back with what is so of it. -/
theorem FnF.withFacts {f : FuncId} {vs : List Value} {pre F : List HP} {u : Value} {b : Nat} {c : Cfg} {core : Int} {k : CaS} (h : FnF Tryz.prog f vs pre F (fun r L' => r = u ∧ L' = [CaP b c core k])) :
    FnF Tryz.prog f vs pre F (fun r L' => ∃ _ : CaFacts c core k, r = u ∧ L' = [CaP b c core k]) := by
  refine ⟨h.enters, fun w hw => (h.runs w hw).mono ?_⟩
  rintro x w' ⟨v, L', he, ⟨hv, hL⟩, hs⟩
  subst hL
  exact ⟨v, _, he, ⟨ca_facts hs, hv, rfl⟩, hs⟩
theorem caFacts_len {c : Cfg} {core : Int} {k : CaS} (h : CaFacts c core k) : k.ways.length ≤ 4096 ∧ k.mis.length ≤ 4096 ∧ k.buf.length ≤ 4096 := by
  obtain ⟨hc, hn, hm, hb, _, _⟩ := h
  have h1 := (arr_nums hc hn).2.2.2.2.2
  have hr := cfg_rooms hc
  omega
end Go.Sx

/- The law of caches: a line is locked just as long as there is a miss of it. My own work. -/
namespace Go.Sx
open Go Go.Proofs
set_option linter.unusedVariables false
set_option linter.unusedSectionVars false
set_option linter.unusedSimpArgs false
set_option maxRecDepth 100000
set_option maxHeartbeats 4000000
attribute [local irreducible] Go.Exit.then Go.Exit.inBlock Go.Code.wp WC WO WE WQ V LoopQ FnQ Sat Star band bor IntKind.wrap WR Code.rounds WT KO
theorem law14_Locks {W : World} {F : List HP} {c : Cfg} {v : Value} {l : List CStep} {core : Int} (hc : c.wf) (hco : I64 core) (hl : l.length ≤ 9223372036854775807) (k : ROld W 21 v l.length (flat csc l)) (hwf : ∀ x ∈ l, CStep.wf x) :
    FnF Tryz.prog 4 [c.val, .int .i64 core, v] [Old W] F (fun r L' => r = .bool true ∧ L' = [Old W]) := by
  refine FnF.mk' Tryz.func4 rfl rfl Tryz.ntmps4 rfl ?_
  have hLg := fun F => law14_large (F := F) (c := c)
  by_cases hm : 60 < l.length
  · repeat (first | rintro _ _ ⟨rfl, rfl⟩ | refine exq fun _ => ?_ | intro _ | refine go ?_ | refine drq ?_ | refine cal @law14_awake ?_)
    exact fin0
  · cases hL : largeB c with
    | true =>
      rw [hL] at hLg
      repeat (first | rintro _ _ ⟨rfl, rfl⟩ | refine exq fun _ => ?_ | intro _ | refine go ?_ | refine drq ?_ | refine cal @law14_awake ?_ | refine cal @hLg ?_)
      exact fin0
    | false =>
      rw [hL] at hLg
      by_cases he : checkB c = true ∧ 0 ≤ core ∧ core < c.cores
      · have hN := fun F => ca_New (F := F) hc he
        have hroom := cfg_rooms he.1
        repeat (first | rintro _ _ ⟨rfl, rfl⟩ | refine exq fun _ => ?_ | intro _ | refine go ?_ | refine drq ?_ | refine cal @law14_awake ?_ | refine cal @hLg ?_ | refine cal @hN ?_)
        rename_i bx b
        apply WC_loopE (E0 := [(3, _), (7, _), (53, _), (54, _)]) (fun E0 (i : Nat) => (55, .int .i64 i) :: E0) (fun i => CaP b c core (stKs c core ⟨List.replicate (c.sets * c.ways).toNat .zero, [], []⟩ (l.take i)) :: Cells bx 24 c.cells :: Old W :: F) (fun i => i ≤ l.length) (fun i => l.length - i) 0
        · (repeat (first | exact Sub.nil | (refine Sub.cons (by first | rfl | (simp only [Nat.zero_add]; rfl)) ?_)))
        · exact Nat.zero_le _
        · simp only [List.take_zero, stKs, List.foldl_nil]; exact entu0
        · intro i hi
          by_cases hlt : i < l.length
          · have hx := hwf l[i] (List.getElem_mem hlt)
            have hI := stKs_inv (core := core) (l := l) (caInv_new c 0 (c.sets * c.ways).toNat) i hi
            have hI2 := stKs_inv (core := core) (l := l) (caInv_new c 0 (c.sets * c.ways).toNat) (i + 1) hlt
            have hj2 := stKs_j (core := core) (l := l) (caInv_new c 0 (c.sets * c.ways).toNat) (j_new c (c.sets * c.ways).toNat) (i + 1) hlt
            have hsu := stKs_succ (c := c) (core := core) (k := ⟨List.replicate (c.sets * c.ways).toNat .zero, [], []⟩) hlt
            rw [hsu] at hI2 hj2
            generalize stKs c core ⟨List.replicate (c.sets * c.ways).toNat .zero, [], []⟩ (l.take i) = ki at *
            have hD := fun F => law14_do (F := F) (b := b) (core := core) hI (by omega) hx
            have herr := step_err (c := c) (core := core) (k := ki) (s := l[i])
            generalize stK c core ki l[i] = k2 at *
            generalize stM c core ki l[i] = rm at *
            generalize stB c core ki l[i] = rb at *
            generalize stN c ki l[i] = rn at *
            generalize stE c core ki l[i] = re at *
            have hD' := fun F => FnF.withFacts (hD F)
            have hcase : re = 0 ∨ re ≠ 0 ∧ k2 = ki ∧ rm = .zero ∧ rb = false ∧ rn = 0 := by
              by_cases h : re = 0
              · exact .inl h
              · exact .inr ⟨h, herr h⟩
            clear herr
            have hSm := fun F (v1 v2 v3 u1 u2 u3 : Value) (hf : CaFacts c core k2) (k1 : RdL F 11 v1 k2.ways.length (flat wyc k2.ways)) (k2' : RdL F 15 v2 k2.mis.length (flat msc' k2.mis)) (k3 : RdL F 10 v3 k2.buf.length (flat bc k2.buf)) (j1 : RdL F 11 u1 k2.ways.length (flat wyc k2.ways)) (j2 : RdL F 15 u2 k2.mis.length (flat msc' k2.mis)) (j3 : RdL F 10 u3 k2.buf.length (flat bc k2.buf)) =>
              law14_same k1 k2' k3 j1 j2 j3 (caFacts_len hf).1 (caFacts_len hf).2.1 (caFacts_len hf).2.2
            rcases hcase with hre | ⟨hre, rfl, rfl, rfl, rfl⟩
            all_goals
              repeat (first | rintro _ _ ⟨rfl, rfl⟩ | refine exq fun _ => ?_ | intro _ | refine go ?_ | refine drq ?_ | refine cal @law14_drawn ?_ | refine cal @hD' ?_ | refine cal @hSm ?_)
              rename_i b45 a1 d1 a2 d2 a3 d3 bw hf br p1 c1 p2 c2 p3 c3 bn
              obtain ⟨hl1, hl2, hl3⟩ := caFacts_len hf
              have hcnt := lock_count hI2.1 hj2
              have hml : (misLs k2).length = k2.mis.length := by simp [misLs]
              apply WC_loopE (E0 := [(3, _), (7, _), (13, _), (53, _), (54, _), (55, _), (93, _), (94, _)]) (fun E0 (q : Nat) => (95, .int .i64 q) :: (14, .int .i64 (((k2.ways.take q).filter (·.lk)).length : Nat)) :: E0) (fun _ => Cells bn 51 [.slice p1 k2.ways.length c1, .slice p2 k2.mis.length c2, .slice p3 k2.buf.length c3] :: Own 69 11 (.slice p1 k2.ways.length c1) k2.ways.length (flat wyc k2.ways) :: Own 75 15 (.slice p2 k2.mis.length c2) k2.mis.length (flat msc' k2.mis) :: Own 77 10 (.slice p3 k2.buf.length c3) k2.buf.length (flat bc k2.buf) :: CaP b c core k2 :: Cells bx 24 c.cells :: Old W :: F) (fun q => q ≤ k2.ways.length) (fun q => k2.ways.length - q) 0
              · (repeat (first | exact Sub.nil | (refine Sub.cons (by first | rfl | (simp only [Nat.zero_add]; rfl)) ?_)))
              · exact Nat.zero_le _
              · exact entu0
              · intro q hq
                by_cases hlq : q < k2.ways.length
                · have hnx := filter_next hlq
                  have hfl := filter_le k2.ways q
                  cases hlk : k2.ways[q].lk with
                  | true =>
                    rw [hlk, if_pos rfl] at hnx
                    repeat (first | rintro _ _ ⟨rfl, rfl⟩ | refine exq fun _ => ?_ | intro _ | refine go ?_ | refine drq ?_)
                    refine WE_loop (q + 1) (by omega) (by omega) ?_ ?_
                    · rw [hnx]; (repeat (first | exact Sub.nil | (refine Sub.cons (by first | rfl | (simp only [Nat.zero_add]; rfl)) ?_)))
                    · exact entu0
                  | false =>
                    rw [hlk, if_neg Bool.false_ne_true, Nat.add_zero] at hnx
                    repeat (first | rintro _ _ ⟨rfl, rfl⟩ | refine exq fun _ => ?_ | intro _ | refine go ?_ | refine drq ?_)
                    refine WE_loop (q + 1) (by omega) (by omega) ?_ ?_
                    · rw [hnx]; (repeat (first | exact Sub.nil | (refine Sub.cons (by first | rfl | (simp only [Nat.zero_add]; rfl)) ?_)))
                    · exact entu0
                · have hqq : q = k2.ways.length := by omega
                  subst hqq
                  rw [List.take_length, hcnt, hml]
                  obtain ⟨_, _, hr1, hr2, _, _⟩ := hf
                  repeat (first | rintro _ _ ⟨rfl, rfl⟩ | refine exq fun _ => ?_ | intro _ | refine go ?_ | refine drq ?_)
                  apply WC_loopE (E0 := [(3, _), (7, _), (13, _), (53, _), (54, _), (55, _), (126, _), (127, _)]) (fun E0 (q : Nat) => (128, .int .i64 q) :: E0) (fun _ => Cells bn 51 [.slice p1 k2.ways.length c1, .slice p2 k2.mis.length c2, .slice p3 k2.buf.length c3] :: Own 69 11 (.slice p1 k2.ways.length c1) k2.ways.length (flat wyc k2.ways) :: Own 75 15 (.slice p2 k2.mis.length c2) k2.mis.length (flat msc' k2.mis) :: Own 77 10 (.slice p3 k2.buf.length c3) k2.buf.length (flat bc k2.buf) :: CaP b c core k2 :: Cells bx 24 c.cells :: Old W :: F) (fun q => q ≤ k2.mis.length) (fun q => k2.mis.length - q) 0
                  · (repeat (first | exact Sub.nil | (refine Sub.cons (by first | rfl | (simp only [Nat.zero_add]; rfl)) ?_)))
                  · exact Nat.zero_le _
                  · exact entu0
                  · intro q hq
                    by_cases hlq : q < k2.mis.length
                    · have hmem : k2.mis[q].line ∈ misLs k2 := List.mem_map.2 ⟨_, List.getElem_mem hlq, rfl⟩
                      have hmi : I64 k2.mis[q].line := okLine_i64 (hI2.2.2 _ (List.getElem_mem hlq)).1
                      obtain ⟨y, hy, hyk⟩ := hj2.ml _ hmem
                      have hfb : findB c k2.ways k2.mis[q].line = true := by rw [vw_findB, hy]; rfl
                      have hfw : findW c k2.ways k2.mis[q].line = y := (vw_some hy).2.2.2.2
                      have hne : ∀ (r : Nat) (hr : r < k2.buf.length), k2.buf[r].line ≠ k2.mis[q].line := fun r hr e => by
                        have := hj2.bn k2.buf[r].line (List.mem_map.2 ⟨_, List.getElem_mem hr, rfl⟩)
                        rw [e, hy] at this; cases this
                      have hLook := fun F => ca_Look (F := F) (b := b) (c := c) (core := core) (k := k2) hmi
                      rw [hfb, hfw] at hLook
                      repeat (first | rintro _ _ ⟨rfl, rfl⟩ | refine exq fun _ => ?_ | intro _ | refine go ?_ | refine drq ?_ | refine cal @hLook ?_)
                      rename_i bm bw
                      apply WC_loopE (E0 := [(3, _), (7, _), (13, _), (18, _), (53, _), (54, _), (55, _), (126, _), (127, _), (128, _), (147, _), (148, _)]) (fun E0 (r : Nat) => (149, .int .i64 r) :: E0) (fun _ => Cells bm 75 (msc' k2.mis[q]) :: Cells bn 51 [.slice p1 k2.ways.length c1, .slice p2 k2.mis.length c2, .slice p3 k2.buf.length c3] :: Own 69 11 (.slice p1 k2.ways.length c1) k2.ways.length (flat wyc k2.ways) :: Own 75 15 (.slice p2 k2.mis.length c2) k2.mis.length (flat msc' k2.mis) :: Own 77 10 (.slice p3 k2.buf.length c3) k2.buf.length (flat bc k2.buf) :: CaP b c core k2 :: Cells bx 24 c.cells :: Old W :: F) (fun r => r ≤ k2.buf.length) (fun r => k2.buf.length - r) 0
                      · (repeat (first | exact Sub.nil | (refine Sub.cons (by first | rfl | (simp only [Nat.zero_add]; rfl)) ?_)))
                      · exact Nat.zero_le _
                      · exact entu0
                      · intro r hr
                        by_cases hlr : r < k2.buf.length
                        · have hnr := hne r hlr
                          repeat (first | rintro _ _ ⟨rfl, rfl⟩ | refine exq fun _ => ?_ | intro _ | refine go ?_ | refine drq ?_)
                          refine WE_loop (r + 1) (by omega) (by omega) ?_ ?_
                          · (repeat (first | exact Sub.nil | (refine Sub.cons (by first | rfl | (simp only [Nat.zero_add]; rfl)) ?_)))
                          · exact entu0
                        · repeat (first | rintro _ _ ⟨rfl, rfl⟩ | refine exq fun _ => ?_ | intro _ | refine go ?_ | refine drq ?_)
                          refine WE_loop (q + 1) (by omega) (by omega) ?_ ?_
                          · (repeat (first | exact Sub.nil | (refine Sub.cons (by first | rfl | (simp only [Nat.zero_add]; rfl)) ?_)))
                          · exact entu0
                    · repeat (first | rintro _ _ ⟨rfl, rfl⟩ | refine exq fun _ => ?_ | intro _ | refine go ?_ | refine drq ?_)
                      refine WE_loop (i + 1) (by omega) hlt ?_ ?_
                      · (repeat (first | exact Sub.nil | (refine Sub.cons (by first | rfl | (simp only [Nat.zero_add]; rfl)) ?_)))
                      · rw [hsu]; exact entu0
          · have hil : i = l.length := by omega
            subst hil
            repeat (first | rintro _ _ ⟨rfl, rfl⟩ | refine exq fun _ => ?_ | intro _ | refine go ?_ | refine drq ?_)
            exact fin0
      · have hN := fun F => ca_New_no (F := F) hc he
        have hCk := fun F => shape_Check (F := F) hc
        by_cases h1 : checkB c = true
        · simp only [checkE, h1, if_true] at hCk
          by_cases h2 : core < 0
          · repeat (first | rintro _ _ ⟨rfl, rfl⟩ | refine exq fun _ => ?_ | intro _ | refine go ?_ | refine drq ?_ | refine cal @law14_awake ?_ | refine cal @hLg ?_ | refine cal @hN ?_ | refine cal @hCk ?_)
            exact fin0
          · have h3 : core ≥ c.cores := Int.not_lt.1 fun h3 => he ⟨h1, by omega, h3⟩
            repeat (first | rintro _ _ ⟨rfl, rfl⟩ | refine exq fun _ => ?_ | intro _ | refine go ?_ | refine drq ?_ | refine cal @law14_awake ?_ | refine cal @hLg ?_ | refine cal @hN ?_ | refine cal @hCk ?_)
            exact fin0
        · have h1' : checkB c = false := by simpa using h1
          simp only [checkE, h1', Bool.false_eq_true, if_false] at hCk
          repeat (first | rintro _ _ ⟨rfl, rfl⟩ | refine exq fun _ => ?_ | intro _ | refine go ?_ | refine drq ?_ | refine cal @law14_awake ?_ | refine cal @hLg ?_ | refine cal @hN ?_ | refine cal @hCk ?_)
          exact fin0
end Go.Sx

/- Steps of the laws of caches, read. My own work. -/
namespace Go.Sx
open Go Go.Proofs Go.ChangeShapes Go.WideShapes
set_option linter.unusedVariables false
section
variable {H : Type} (enc : TypeId × Value → H) (P : Program) (W : World)
theorem rd_CStep {cs : List Value} (h : LeafsOk enc P W (List.replicate 21 (.int .i64)) cs) : ∃ x : CStep, x.wf ∧ cs = csc x ∧ (csc x).all one = true := by
  obtain ⟨l, h1, h2, rfl⟩ := leafs_ints enc P W _ _ h
  match l, h1 with
  | [d, a, b, b0, b1, b2, b3, b4, b5, b6, a0, a1, a2, a3, a4, a5, a6, a7, k, x, v], _ =>
    exact ⟨⟨d, a, b, ⟨b0, b1, b2, b3, b4, b5, b6, ⟨a0, a1, a2, a3, a4, a5, a6, a7⟩⟩, ⟨k, x, v⟩⟩, ⟨h2 _ (by simp), h2 _ (by simp), h2 _ (by simp), ⟨h2 _ (by simp), h2 _ (by simp), h2 _ (by simp), h2 _ (by simp), h2 _ (by simp), h2 _ (by simp), h2 _ (by simp), fun y hy => h2 y (by
      simp only [Words.list, List.mem_cons, List.not_mem_nil, or_false] at hy
      rcases hy with g | g | g | g | g | g | g | g <;> (subst g; simp))⟩, ⟨h2 _ (by simp), h2 _ (by simp), h2 _ (by simp)⟩⟩, rfl, rfl⟩
end
end Go.Sx
