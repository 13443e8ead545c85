/- Shr, Tl: several of my texts as one. My own work. -/
import Derived.Test.YtlaohgngdaglmaaZab
import Derived.Test.YtlaohgngdaglmaaZac
import Derived.Test.YtlaohgngdaglmaaData
/- What package sharer does. My own work. -/
namespace Go.Sx
open Go Go.Proofs
set_option linter.unusedVariables false
set_option linter.unusedSectionVars false
set_option linter.unusedSimpArgs false

/-! ## A set of sharers -/
structure SSet where
  cores : Int
  most : Int
  ps : List Int
  all : Bool
theorem SSet.ext_iff' {a b : SSet} : (a.cores = b.cores ∧ a.most = b.most ∧ a.all = b.all ∧ a.ps = b.ps) ↔ a = b := by
  rcases a with ⟨a1, a2, a3, a4⟩
  rcases b with ⟨b1, b2, b3, b4⟩
  simp only [SSet.mk.injEq]
  constructor <;> (rintro ⟨h1, h2, h3, h4⟩; exact ⟨h1, h2, h4, h3⟩)
instance : DecidableEq SSet := fun a b => decidable_of_iff _ SSet.ext_iff'
abbrev scl (s : SSet) (a : Option Addr) (k : Nat) : List Value := [.int .i64 s.cores, .int .i64 s.most, .slice a s.ps.length k, .bool s.all]
abbrev scw (s : SSet) (a : Option Addr) (k : Nat) : Value := .agg (scl s a k).toArray
abbrev SSet.no : SSet := ⟨0, 0, [], false⟩

def risingB (n : Int) : Int → List Int → Bool
  | _, [] => true
  | last, c :: r => decide (last < c) && decide (c < n) && risingB n c r
def shMay (s : SSet) : Bool := decide (1 ≤ s.cores) && decide (s.cores ≤ 64) && decide (0 ≤ s.most) && decide (s.most ≤ 8) && decide ((s.ps.length : Int) ≤ s.most) && !(s.all && decide (0 < s.ps.length)) && risingB s.cores (-1) s.ps
def shHas (s : SSet) (c : Int) : Bool := if s.all then decide (0 ≤ c) && decide (c < s.cores) else decide (c ∈ s.ps)
def insL (c : Int) (l : List Int) : List Int := l.take (lowL l c) ++ c :: l.drop (lowL l c)
def shAddE (s : SSet) (c : Int) : Int := if shMay s then (if c < 0 ∨ s.cores ≤ c then 5 else 0) else 1
def shAddS (s : SSet) (c : Int) : SSet := if shAddE s c = 0 then (if shHas s c then s else if (s.ps.length : Int) = s.most then ⟨s.cores, s.most, [], true⟩ else ⟨s.cores, s.most, insL c s.ps, s.all⟩) else .no
def upto (n : Nat) : List Int := (List.range n).map fun (i : Nat) => (i : Int)
def shTgt (s : SSet) (but : List Int) (n : Nat) : List Int := (upto n).filter fun c => shHas s c && !decide (c ∈ but)

theorem rising_pw {n : Int} : ∀ {l : List Int} {last : Int}, risingB n last l = true → l.Pairwise (· < ·) ∧ ∀ c ∈ l, last < c ∧ c < n
  | [], _, _ => ⟨List.Pairwise.nil, fun c h => by cases h⟩
  | a :: r, last, h => by
    simp only [risingB, Bool.and_eq_true, decide_eq_true_eq] at h
    obtain ⟨⟨h1, h2⟩, h3⟩ := h
    obtain ⟨p, q⟩ := rising_pw h3
    refine ⟨List.pairwise_cons.2 ⟨fun c hc => (q c hc).1, p⟩, fun c hc => ?_⟩
    rcases List.mem_cons.1 hc with rfl | hc
    · exact ⟨h1, h2⟩
    · have := q c hc; exact ⟨by omega, this.2⟩
theorem rising_of {n : Int} : ∀ {l : List Int} {last : Int}, l.Pairwise (· < ·) → (∀ c ∈ l, last < c ∧ c < n) → risingB n last l = true
  | [], _, _, _ => rfl
  | a :: r, last, p, q => by
    have h := q a (by simp)
    rw [List.pairwise_cons] at p
    simp only [risingB, h.1, h.2, decide_true, Bool.true_and]
    exact rising_of p.2 fun c hc => ⟨p.1 c hc, (q c (List.mem_cons_of_mem _ hc)).2⟩
theorem may_facts' {s : SSet} (h : shMay s = true) : 1 ≤ s.cores ∧ s.cores ≤ 64 ∧ 0 ≤ s.most ∧ s.most ≤ 8 ∧ (s.ps.length : Int) ≤ s.most ∧ (s.all = true → s.ps = []) ∧ s.ps.Pairwise (· < ·) ∧ ∀ c ∈ s.ps, 0 ≤ c ∧ c < s.cores := by
  simp only [shMay, Bool.and_eq_true, decide_eq_true_eq, Bool.not_eq_true', Bool.and_eq_false_iff, decide_eq_false_iff_not] at h
  obtain ⟨⟨⟨⟨⟨⟨h1, h2⟩, h3⟩, h4⟩, h5⟩, h6⟩, h7⟩ := h
  obtain ⟨p, q⟩ := rising_pw h7
  refine ⟨h1, h2, h3, h4, h5, fun ha => ?_, p, fun c hc => by have := q c hc; exact ⟨by omega, this.2⟩⟩
  rcases h6 with h | h
  · rw [ha] at h; cases h
  · exact List.eq_nil_of_length_eq_zero (by omega)
theorem insL_len (c : Int) (l : List Int) : (insL c l).length = l.length + 1 := by
  have := low_le l c
  unfold insL
  rw [List.length_append, List.length_cons, List.length_take, List.length_drop]; omega
set_option maxRecDepth 100000
set_option maxHeartbeats 4000000
attribute [local irreducible] Go.Exit.then Go.Exit.inBlock Go.Code.wp WC WO WE WQ V LoopQ FnQ Sat Star band bor IntKind.wrap WR Code.rounds WT KO
theorem shr_May {F : List HP} {s : SSet} {a : Option Addr} {k : Nat} (hk : RdL F 1 (.slice a s.ps.length k) s.ps.length (flat ic s.ps)) (hn : s.ps.length ≤ 1000) :
    FnF Try.prog 77 [scw s a k] [] F (fun r L' => r = .bool (shMay s) ∧ L' = []) := by
  refine FnF.mk' Try.func77 rfl rfl Try.ntmps77 rfl ?_
  by_cases a1 : 1 ≤ s.cores
  · by_cases a2 : s.cores ≤ 64
    · by_cases a3 : 0 ≤ s.most
      · by_cases a4 : s.most ≤ 8
        · by_cases a5 : (s.ps.length : Int) ≤ s.most
          · by_cases a6 : s.all = true ∧ 0 < s.ps.length
            · obtain ⟨b1, b2⟩ := a6
              repeat (first | rintro _ _ ⟨rfl, rfl⟩ | refine exq fun _ => ?_ | intro _ | refine go ?_ | refine drq ?_)
              (apply WE_ret rfl rfl (by (repeat (first | exact ResOk.nil | (apply ResOk.tmp; rfl) | (apply resOk_cell; rfl; exact inferInstance; rfl; rfl)))); (first | exact ⟨rfl, rfl⟩ | exact ⟨congrArg Value.bool (by decide), rfl⟩ | exact ⟨_, rfl, rfl⟩ | exact ⟨_, _, rfl, rfl⟩ | exact ⟨by first | (simp [shMay, b1, b2]; done) | (simp [shMay, b1, b2] <;> omega), rfl⟩); (repeat (first | exact Ent.refl | exact Ent.nil | apply Ent.pick | apply Ent.drop)))
            · have hb : shMay s = risingB s.cores (-1) s.ps := by
                have : (!(s.all && decide (0 < s.ps.length))) = true := by
                  cases hc : s.all with
                  | false => rfl
                  | true =>
                    have : ¬ 0 < s.ps.length := fun h => a6 ⟨hc, h⟩
                    simp [this]
                simp only [shMay, a1, a2, a3, a4, a5, decide_true, Bool.true_and, this]
              rw [hb]
              cases hc : s.all with
              | false =>
                repeat (first | rintro _ _ ⟨rfl, rfl⟩ | refine exq fun _ => ?_ | intro _ | refine go ?_ | refine drq ?_)
                rename_i bs
                apply WC_loopE (E0 := [(1, _), (43, _), (44, _)]) (fun E0 (q : Nat × Int) => (45, .int .i64 q.1) :: (3, .int .i64 q.2) :: E0) (fun _ => Cells bs 50 (scl s a k) :: F)
                  (fun q => q.1 ≤ s.ps.length ∧ risingB s.cores (-1) s.ps = risingB s.cores q.2 (s.ps.drop q.1)) (fun q => s.ps.length - q.1) (0, -1)
                · (repeat (first | exact Sub.nil | (refine Sub.cons (by first | rfl | (simp only [Nat.zero_add]; rfl)) ?_)))
                · exact ⟨Nat.zero_le _, rfl⟩
                · exact entu0
                · rintro ⟨j, last⟩ ⟨hj, hr⟩
                  dsimp only at hj hr ⊢
                  rw [hr]
                  by_cases hlt : j < s.ps.length
                  · rw [List.drop_eq_getElem_cons hlt] at hr ⊢
                    by_cases c1 : last < s.ps[j]
                    · by_cases c2 : s.ps[j] < s.cores
                      · repeat (first | rintro _ _ ⟨rfl, rfl⟩ | refine exq fun _ => ?_ | intro _ | refine go ?_ | refine drq ?_)
                        refine WE_loop (j + 1, s.ps[j]) (by dsimp only; omega) ⟨by dsimp only; omega, by dsimp only; simp [risingB, c1, c2]⟩ ?_ ?_
                        · (repeat (first | exact Sub.nil | (refine Sub.cons (by first | rfl | (simp only [Nat.zero_add]; rfl)) ?_)))
                        · exact entu0
                      · repeat (first | rintro _ _ ⟨rfl, rfl⟩ | refine exq fun _ => ?_ | intro _ | refine go ?_ | refine drq ?_)
                        (apply WE_ret rfl rfl (by (repeat (first | exact ResOk.nil | (apply ResOk.tmp; rfl) | (apply resOk_cell; rfl; exact inferInstance; rfl; rfl)))); (first | exact ⟨rfl, rfl⟩ | exact ⟨congrArg Value.bool (by decide), rfl⟩ | exact ⟨_, rfl, rfl⟩ | exact ⟨_, _, rfl, rfl⟩ | exact ⟨by first | (simp [risingB, c1, c2]; done) | (simp [risingB, c1, c2] <;> omega), rfl⟩); (repeat (first | exact Ent.refl | exact Ent.nil | apply Ent.pick | apply Ent.drop)))
                    · repeat (first | rintro _ _ ⟨rfl, rfl⟩ | refine exq fun _ => ?_ | intro _ | refine go ?_ | refine drq ?_)
                      (apply WE_ret rfl rfl (by (repeat (first | exact ResOk.nil | (apply ResOk.tmp; rfl) | (apply resOk_cell; rfl; exact inferInstance; rfl; rfl)))); (first | exact ⟨rfl, rfl⟩ | exact ⟨congrArg Value.bool (by decide), rfl⟩ | exact ⟨_, rfl, rfl⟩ | exact ⟨_, _, rfl, rfl⟩ | exact ⟨by first | (simp [risingB, c1]; done) | (simp [risingB, c1] <;> omega), rfl⟩); (repeat (first | exact Ent.refl | exact Ent.nil | apply Ent.pick | apply Ent.drop)))
                  · have hjl : j = s.ps.length := by omega
                    subst hjl
                    rw [List.drop_length]
                    repeat (first | rintro _ _ ⟨rfl, rfl⟩ | refine exq fun _ => ?_ | intro _ | refine go ?_ | refine drq ?_)
                    (apply WE_ret rfl rfl (by (repeat (first | exact ResOk.nil | (apply ResOk.tmp; rfl) | (apply resOk_cell; rfl; exact inferInstance; rfl; rfl)))); (first | exact ⟨rfl, rfl⟩ | exact ⟨congrArg Value.bool (by decide), rfl⟩ | exact ⟨_, rfl, rfl⟩ | exact ⟨_, _, rfl, rfl⟩ | exact ⟨by first | (simp [risingB]; done) | (simp [risingB] <;> omega), rfl⟩); (repeat (first | exact Ent.refl | exact Ent.nil | apply Ent.pick | apply Ent.drop)))
              | true =>
                have b2 : ¬ 0 < s.ps.length := fun h => a6 ⟨hc, h⟩
                repeat (first | rintro _ _ ⟨rfl, rfl⟩ | refine exq fun _ => ?_ | intro _ | refine go ?_ | refine drq ?_)
                rename_i bs
                apply WC_loopE (E0 := [(1, _), (43, _), (44, _)]) (fun E0 (q : Nat × Int) => (45, .int .i64 q.1) :: (3, .int .i64 q.2) :: E0) (fun _ => Cells bs 50 (scl s a k) :: F)
                  (fun q => q.1 ≤ s.ps.length ∧ risingB s.cores (-1) s.ps = risingB s.cores q.2 (s.ps.drop q.1)) (fun q => s.ps.length - q.1) (0, -1)
                · (repeat (first | exact Sub.nil | (refine Sub.cons (by first | rfl | (simp only [Nat.zero_add]; rfl)) ?_)))
                · exact ⟨Nat.zero_le _, rfl⟩
                · exact entu0
                · rintro ⟨j, last⟩ ⟨hj, hr⟩
                  dsimp only at hj hr ⊢
                  rw [hr]
                  by_cases hlt : j < s.ps.length
                  · omega
                  · have hjl : j = s.ps.length := by omega
                    subst hjl
                    rw [List.drop_length]
                    repeat (first | rintro _ _ ⟨rfl, rfl⟩ | refine exq fun _ => ?_ | intro _ | refine go ?_ | refine drq ?_)
                    (apply WE_ret rfl rfl (by (repeat (first | exact ResOk.nil | (apply ResOk.tmp; rfl) | (apply resOk_cell; rfl; exact inferInstance; rfl; rfl)))); (first | exact ⟨rfl, rfl⟩ | exact ⟨congrArg Value.bool (by decide), rfl⟩ | exact ⟨_, rfl, rfl⟩ | exact ⟨_, _, rfl, rfl⟩ | exact ⟨by first | (simp [risingB]; done) | (simp [risingB] <;> omega), rfl⟩); (repeat (first | exact Ent.refl | exact Ent.nil | apply Ent.pick | apply Ent.drop)))
          · repeat (first | rintro _ _ ⟨rfl, rfl⟩ | refine exq fun _ => ?_ | intro _ | refine go ?_ | refine drq ?_)
            (apply WE_ret rfl rfl (by (repeat (first | exact ResOk.nil | (apply ResOk.tmp; rfl) | (apply resOk_cell; rfl; exact inferInstance; rfl; rfl)))); (first | exact ⟨rfl, rfl⟩ | exact ⟨congrArg Value.bool (by decide), rfl⟩ | exact ⟨_, rfl, rfl⟩ | exact ⟨_, _, rfl, rfl⟩ | exact ⟨by first | (simp [shMay, a5]; done) | (simp [shMay, a5] <;> omega), rfl⟩); (repeat (first | exact Ent.refl | exact Ent.nil | apply Ent.pick | apply Ent.drop)))
        · repeat (first | rintro _ _ ⟨rfl, rfl⟩ | refine exq fun _ => ?_ | intro _ | refine go ?_ | refine drq ?_)
          (apply WE_ret rfl rfl (by (repeat (first | exact ResOk.nil | (apply ResOk.tmp; rfl) | (apply resOk_cell; rfl; exact inferInstance; rfl; rfl)))); (first | exact ⟨rfl, rfl⟩ | exact ⟨congrArg Value.bool (by decide), rfl⟩ | exact ⟨_, rfl, rfl⟩ | exact ⟨_, _, rfl, rfl⟩ | exact ⟨by first | (simp [shMay, a4]; done) | (simp [shMay, a4] <;> omega), rfl⟩); (repeat (first | exact Ent.refl | exact Ent.nil | apply Ent.pick | apply Ent.drop)))
      · repeat (first | rintro _ _ ⟨rfl, rfl⟩ | refine exq fun _ => ?_ | intro _ | refine go ?_ | refine drq ?_)
        (apply WE_ret rfl rfl (by (repeat (first | exact ResOk.nil | (apply ResOk.tmp; rfl) | (apply resOk_cell; rfl; exact inferInstance; rfl; rfl)))); (first | exact ⟨rfl, rfl⟩ | exact ⟨congrArg Value.bool (by decide), rfl⟩ | exact ⟨_, rfl, rfl⟩ | exact ⟨_, _, rfl, rfl⟩ | exact ⟨by first | (simp [shMay, a3]; done) | (simp [shMay, a3] <;> omega), rfl⟩); (repeat (first | exact Ent.refl | exact Ent.nil | apply Ent.pick | apply Ent.drop)))
    · repeat (first | rintro _ _ ⟨rfl, rfl⟩ | refine exq fun _ => ?_ | intro _ | refine go ?_ | refine drq ?_)
      (apply WE_ret rfl rfl (by (repeat (first | exact ResOk.nil | (apply ResOk.tmp; rfl) | (apply resOk_cell; rfl; exact inferInstance; rfl; rfl)))); (first | exact ⟨rfl, rfl⟩ | exact ⟨congrArg Value.bool (by decide), rfl⟩ | exact ⟨_, rfl, rfl⟩ | exact ⟨_, _, rfl, rfl⟩ | exact ⟨by first | (simp [shMay, a2]; done) | (simp [shMay, a2] <;> omega), rfl⟩); (repeat (first | exact Ent.refl | exact Ent.nil | apply Ent.pick | apply Ent.drop)))
  · repeat (first | rintro _ _ ⟨rfl, rfl⟩ | refine exq fun _ => ?_ | intro _ | refine go ?_ | refine drq ?_)
    (apply WE_ret rfl rfl (by (repeat (first | exact ResOk.nil | (apply ResOk.tmp; rfl) | (apply resOk_cell; rfl; exact inferInstance; rfl; rfl)))); (first | exact ⟨rfl, rfl⟩ | exact ⟨congrArg Value.bool (by decide), rfl⟩ | exact ⟨_, rfl, rfl⟩ | exact ⟨_, _, rfl, rfl⟩ | exact ⟨by first | (simp [shMay, a1]; done) | (simp [shMay, a1] <;> omega), rfl⟩); (repeat (first | exact Ent.refl | exact Ent.nil | apply Ent.pick | apply Ent.drop)))

theorem shr_Has {F : List HP} {s : SSet} {a : Option Addr} {k : Nat} {c : Int} (hk : RdL F 1 (.slice a s.ps.length k) s.ps.length (flat ic s.ps)) (hm : shMay s = true) :
    FnF Try.prog 74 [scw s a k, .int .i64 c] [] F (fun r L' => r = .bool (shHas s c) ∧ L' = []) := by
  obtain ⟨m1, m2, m3, m4, m5, m6, m7, m8⟩ := may_facts' hm
  refine FnF.mk' Try.func74 rfl rfl Try.ntmps74 rfl ?_
  cases ha : s.all with
  | true =>
    by_cases h0 : 0 ≤ c
    · repeat (first | rintro _ _ ⟨rfl, rfl⟩ | refine exq fun _ => ?_ | intro _ | refine go ?_ | refine drq ?_)
      (apply WE_ret rfl rfl (by (repeat (first | exact ResOk.nil | (apply ResOk.tmp; rfl) | (apply resOk_cell; rfl; exact inferInstance; rfl; rfl)))); (first | exact ⟨rfl, rfl⟩ | exact ⟨congrArg Value.bool (by decide), rfl⟩ | exact ⟨_, rfl, rfl⟩ | exact ⟨_, _, rfl, rfl⟩ | exact ⟨by first | (simp [shHas, ha, h0]; done) | (simp [shHas, ha, h0] <;> omega), rfl⟩); (repeat (first | exact Ent.refl | exact Ent.nil | apply Ent.pick | apply Ent.drop)))
    · repeat (first | rintro _ _ ⟨rfl, rfl⟩ | refine exq fun _ => ?_ | intro _ | refine go ?_ | refine drq ?_)
      (apply WE_ret rfl rfl (by (repeat (first | exact ResOk.nil | (apply ResOk.tmp; rfl) | (apply resOk_cell; rfl; exact inferInstance; rfl; rfl)))); (first | exact ⟨rfl, rfl⟩ | exact ⟨congrArg Value.bool (by decide), rfl⟩ | exact ⟨_, rfl, rfl⟩ | exact ⟨_, _, rfl, rfl⟩ | exact ⟨by first | (simp [shHas, ha, h0]; done) | (simp [shHas, ha, h0] <;> omega), rfl⟩); (repeat (first | exact Ent.refl | exact Ent.nil | apply Ent.pick | apply Ent.drop)))
  | false =>
    repeat (first | rintro _ _ ⟨rfl, rfl⟩ | refine exq fun _ => ?_ | intro _ | refine go ?_ | refine drq ?_ | refine cal @sl_BinarySearch_int ?_)
    (apply WE_ret rfl rfl (by (repeat (first | exact ResOk.nil | (apply ResOk.tmp; rfl) | (apply resOk_cell; rfl; exact inferInstance; rfl; rfl)))); (first | exact ⟨rfl, rfl⟩ | exact ⟨congrArg Value.bool (by decide), rfl⟩ | exact ⟨_, rfl, rfl⟩ | exact ⟨_, _, rfl, rfl⟩ | exact ⟨by first | (simp [shHas, ha]; done) | (simp [shHas, ha] <;> omega), rfl⟩); (repeat (first | exact Ent.refl | exact Ent.nil | apply Ent.pick | apply Ent.drop)))
theorem shr_Clear {F : List HP} {s : SSet} {a : Option Addr} {k : Nat} : FnF Try.prog 80 [scw s a k] [] F (fun r L' => r = scw ⟨s.cores, s.most, [], false⟩ none 0 ∧ L' = []) := by
  refine FnF.mk' Try.func80 rfl rfl Try.ntmps80 rfl ?_
  repeat (first | rintro _ _ ⟨rfl, rfl⟩ | refine exq fun _ => ?_ | intro _ | refine go ?_ | refine drq ?_)
  exact fin0
theorem shr_New {F : List HP} {cores most : Int} : FnF Try.prog 73 [.int .i64 cores, .int .i64 most] [] F
    (fun r L' => r = .tuple [scw (if shMay ⟨cores, most, [], false⟩ then ⟨cores, most, [], false⟩ else .no) none 0, .int .i64 (if shMay ⟨cores, most, [], false⟩ then 0 else 1)].toArray ∧ L' = []) := by
  have hM := fun F => shr_May (F := F) (s := ⟨cores, most, [], false⟩) (a := none) (k := 0) rd_empty (by simp)
  cases e : shMay ⟨cores, most, [], false⟩ with
  | true =>
    simp only [e, List.length_nil] at hM
    refine FnF.mk' Try.func73 rfl rfl Try.ntmps73 rfl ?_
    repeat (first | rintro _ _ ⟨rfl, rfl⟩ | refine exq fun _ => ?_ | intro _ | refine go ?_ | refine drq ?_ | refine cal @hM ?_)
    exact fin0
  | false =>
    simp only [e, List.length_nil] at hM
    refine FnF.mk' Try.func73 rfl rfl Try.ntmps73 rfl ?_
    repeat (first | rintro _ _ ⟨rfl, rfl⟩ | refine exq fun _ => ?_ | intro _ | refine go ?_ | refine drq ?_ | refine cal @hM ?_)
    exact fin0

theorem shr_Targets {F : List HP} {s : SSet} {a : Option Addr} {k : Nat} {u : Value} {but : List Int} (hk : RdL F 1 (.slice a s.ps.length k) s.ps.length (flat ic s.ps)) (hm : shMay s = true) (hb : RdL F 1 u but.length (flat ic but)) (hbn : but.length ≤ 1000) :
    FnF Try.prog 39 [scw s a k, u] [] F (fun r L' => ∃ p c, r = .slice p (shTgt s but s.cores.toNat).length c ∧ L' = [Own 3 1 (.slice p (shTgt s but s.cores.toNat).length c) (shTgt s but s.cores.toNat).length (flat ic (shTgt s but s.cores.toNat))]) := by
  obtain ⟨m1, m2, m3, m4, m5, m6, m7, m8⟩ := may_facts' hm
  obtain ⟨n, hn⟩ : ∃ n : Nat, s.cores = n := ⟨s.cores.toNat, by omega⟩
  refine FnF.mk' Try.func39 rfl rfl Try.ntmps39 rfl ?_
  repeat (first | rintro _ _ ⟨rfl, rfl⟩ | refine exq fun _ => ?_ | intro _ | refine go ?_ | refine drq ?_)
  rename_i bs
  apply WC_loopE (E0 := [(1, _), (2, _), (8, _)]) (fun E0 (q : Nat × Option Addr × Nat) => (9, .int .i64 q.1) :: (5, .slice q.2.1 (shTgt s but q.1).length q.2.2) :: E0)
    (fun q => Own 3 1 (.slice q.2.1 (shTgt s but q.1).length q.2.2) (shTgt s but q.1).length (flat ic (shTgt s but q.1)) :: Cells bs 50 (scl s a k) :: F) (fun q => q.1 ≤ n) (fun q => n - q.1) (0, none, 0)
  · (repeat (first | exact Sub.nil | (refine Sub.cons (by first | rfl | (simp only [Nat.zero_add]; rfl)) ?_)))
  · exact Nat.zero_le _
  · refine Ent.trans ?_ (own_empty Ent.refl)
    exact entu0
  · rintro ⟨j, p, c⟩ hj
    dsimp only at hj ⊢
    have hlen : (shTgt s but j).length ≤ j := by
      have := List.length_filter_le (fun c => shHas s c && !decide (c ∈ but)) (upto j)
      simp only [upto, List.length_map, List.length_range] at this
      exact this
    have hsu : shTgt s but (j + 1) = if shHas s j && !decide ((j : Int) ∈ but) then shTgt s but j ++ [(j : Int)] else shTgt s but j := by
      unfold shTgt upto
      rw [List.range_succ, List.map_append, List.filter_append]
      by_cases h : (shHas s j && !decide ((j : Int) ∈ but)) = true
      · simp [h]
      · simp [h]
    by_cases hlt : j < n
    · cases hh : shHas s j with
      | false =>
        have hH := fun F (hk : RdL F 1 (.slice a s.ps.length k) s.ps.length (flat ic s.ps)) => shr_Has (c := (j : Int)) hk hm
        simp only [hh] at hH
        rw [hh] at hsu
        rw [Bool.false_and, if_neg Bool.false_ne_true] at hsu
        repeat (first | rintro _ _ ⟨rfl, rfl⟩ | refine exq fun _ => ?_ | intro _ | refine go ?_ | refine drq ?_ | refine cal @hH ?_)
        refine WE_loop (j + 1, p, c) (by dsimp only; omega) (by dsimp only; omega) ?_ ?_
        · dsimp only; rw [hsu]; (repeat (first | exact Sub.nil | (refine Sub.cons (by first | rfl | (simp only [Nat.zero_add]; rfl)) ?_)))
        · dsimp only; rw [hsu]; exact entu0
      | true =>
        have hH := fun F (hk : RdL F 1 (.slice a s.ps.length k) s.ps.length (flat ic s.ps)) => shr_Has (c := (j : Int)) hk hm
        simp only [hh] at hH
        rw [hh] at hsu
        by_cases hc : (j : Int) ∈ but
        · have hc' : ¬ ¬ ((j : Int) ∈ but) := fun h => h hc
          rw [if_neg (by simp [hc])] at hsu
          repeat (first | rintro _ _ ⟨rfl, rfl⟩ | refine exq fun _ => ?_ | intro _ | refine go ?_ | refine drq ?_ | refine cal @hH ?_ | refine cal @sl_Contains_int ?_)
          refine WE_loop (j + 1, p, c) (by dsimp only; omega) (by dsimp only; omega) ?_ ?_
          · dsimp only; rw [hsu]; (repeat (first | exact Sub.nil | (refine Sub.cons (by first | rfl | (simp only [Nat.zero_add]; rfl)) ?_)))
          · dsimp only; rw [hsu]; exact entu0
        · rw [if_pos (by simp [hc])] at hsu
          repeat (first | rintro _ _ ⟨rfl, rfl⟩ | refine exq fun _ => ?_ | intro _ | refine go ?_ | refine drq ?_ | refine cal @hH ?_ | refine cal @sl_Contains_int ?_)
          rename_i b2 p2 c2
          refine WE_loop (j + 1, p2, c2) (by dsimp only; omega) (by dsimp only; omega) ?_ ?_
          · dsimp only; rw [hsu, List.length_append, List.length_singleton]; (repeat (first | exact Sub.nil | (refine Sub.cons (by first | rfl | (simp only [Nat.zero_add]; rfl)) ?_)))
          · dsimp only; rw [hsu, List.length_append, List.length_singleton, flat_append, flat_one]; exact entu0
    · have hjn : j = s.cores.toNat := by omega
      repeat (first | rintro _ _ ⟨rfl, rfl⟩ | refine exq fun _ => ?_ | intro _ | refine go ?_ | refine drq ?_)
      subst hjn
      (apply WE_ret rfl rfl (by (repeat (first | exact ResOk.nil | (apply ResOk.tmp; rfl) | (apply resOk_cell; rfl; exact inferInstance; rfl; rfl)))))
      · exact ⟨p, c, rfl, rfl⟩
      · exact entu0
theorem shr_Add {F : List HP} {s : SSet} {a : Option Addr} {k : Nat} {x : Int} (hk : RdL F 1 (.slice a s.ps.length k) s.ps.length (flat ic s.ps)) (hn : s.ps.length ≤ 1000) :
    FnF Try.prog 110 [scw s a k, .int .i64 x] [] F (fun r L' => ∃ a' k', r = .tuple [scw (shAddS s x) a' k', .int .i64 (shAddE s x)].toArray ∧ L' = [Own 3 1 (.slice a' (shAddS s x).ps.length k') (shAddS s x).ps.length (flat ic (shAddS s x).ps)]) := by
  cases hm : shMay s with
  | false =>
    have e1 : shAddE s x = 1 := by simp [shAddE, hm]
    have e2 : shAddS s x = .no := by simp [shAddS, e1]
    rw [e1, e2]
    have hM := fun F (hk : RdL F 1 (.slice a s.ps.length k) s.ps.length (flat ic s.ps)) => shr_May hk hn
    simp only [hm] at hM
    refine FnF.mk' Try.func110 rfl rfl Try.ntmps110 rfl ?_
    repeat (first | rintro _ _ ⟨rfl, rfl⟩ | refine exq fun _ => ?_ | intro _ | refine go ?_ | refine drq ?_ | refine cal @hM ?_)
    (apply WE_ret rfl rfl (by (repeat (first | exact ResOk.nil | (apply ResOk.tmp; rfl) | (apply resOk_cell; rfl; exact inferInstance; rfl; rfl)))))
    · exact ⟨none, 0, rfl, rfl⟩
    · refine Ent.trans ?_ (own_empty Ent.refl)
      exact entu0
  | true =>
    have hM := fun F (hk : RdL F 1 (.slice a s.ps.length k) s.ps.length (flat ic s.ps)) => shr_May hk hn
    simp only [hm] at hM
    obtain ⟨m1, m2, m3, m4, m5, m6, m7, m8⟩ := may_facts' hm
    by_cases hr : x < 0 ∨ s.cores ≤ x
    · have e1 : shAddE s x = 5 := by simp only [shAddE, hm, if_true, if_pos hr]
      have e2 : shAddS s x = .no := by simp [shAddS, e1]
      rw [e1, e2]
      refine FnF.mk' Try.func110 rfl rfl Try.ntmps110 rfl ?_
      by_cases h0 : x < 0
      · repeat (first | rintro _ _ ⟨rfl, rfl⟩ | refine exq fun _ => ?_ | intro _ | refine go ?_ | refine drq ?_ | refine cal @hM ?_)
        (apply WE_ret rfl rfl (by (repeat (first | exact ResOk.nil | (apply ResOk.tmp; rfl) | (apply resOk_cell; rfl; exact inferInstance; rfl; rfl)))))
        · exact ⟨none, 0, rfl, rfl⟩
        · refine Ent.trans ?_ (own_empty Ent.refl)
          exact entu0
      · repeat (first | rintro _ _ ⟨rfl, rfl⟩ | refine exq fun _ => ?_ | intro _ | refine go ?_ | refine drq ?_ | refine cal @hM ?_)
        (apply WE_ret rfl rfl (by (repeat (first | exact ResOk.nil | (apply ResOk.tmp; rfl) | (apply resOk_cell; rfl; exact inferInstance; rfl; rfl)))))
        · exact ⟨none, 0, rfl, rfl⟩
        · refine Ent.trans ?_ (own_empty Ent.refl)
          exact entu0
    · have e1 : shAddE s x = 0 := by simp only [shAddE, hm, if_true, if_neg hr]
      have hx0 : 0 ≤ x := by omega
      have hx1 : x < s.cores := by omega
      have hH := fun F a k (hk : RdL F 1 (.slice a s.ps.length k) s.ps.length (flat ic s.ps)) => shr_Has (c := x) hk hm
      cases hh : shHas s x with
      | true =>
        have e2 : shAddS s x = s := by simp [shAddS, e1, hh]
        rw [e1, e2]
        simp only [hh] at hH
        refine FnF.mk' Try.func110 rfl rfl Try.ntmps110 rfl ?_
        repeat (first | rintro _ _ ⟨rfl, rfl⟩ | refine exq fun _ => ?_ | intro _ | refine go ?_ | refine drq ?_ | refine cal @hM ?_ | refine cal @sl_Clone_int ?_ | refine cal @hH ?_)
        (apply WE_ret rfl rfl (by (repeat (first | exact ResOk.nil | (apply ResOk.tmp; rfl) | (apply resOk_cell; rfl; exact inferInstance; rfl; rfl)))))
        · exact ⟨_, _, rfl, rfl⟩
        · exact entu0
      | false =>
        simp only [hh] at hH
        by_cases hf : (s.ps.length : Int) = s.most
        · have e2 : shAddS s x = ⟨s.cores, s.most, [], true⟩ := by simp [shAddS, e1, hh, hf]
          rw [e1, e2]
          refine FnF.mk' Try.func110 rfl rfl Try.ntmps110 rfl ?_
          repeat (first | rintro _ _ ⟨rfl, rfl⟩ | refine exq fun _ => ?_ | intro _ | refine go ?_ | refine drq ?_ | refine cal @hM ?_ | refine cal @sl_Clone_int ?_ | refine cal @hH ?_)
          (apply WE_ret rfl rfl (by (repeat (first | exact ResOk.nil | (apply ResOk.tmp; rfl) | (apply resOk_cell; rfl; exact inferInstance; rfl; rfl)))))
          · exact ⟨none, 0, rfl, rfl⟩
          · refine Ent.trans ?_ (own_empty Ent.refl)
            exact entu0
        · have e2 : shAddS s x = ⟨s.cores, s.most, insL x s.ps, s.all⟩ := by simp [shAddS, e1, hh, hf]
          rw [e1, e2]
          have hlo := low_le s.ps x
          have hI := fun F p c vb => sl_Insert_int (F := F) (p := p) (c := c) (vb := vb) (i := lowL s.ps x) (l := s.ps) (x := x) hlo hn
          refine FnF.mk' Try.func110 rfl rfl Try.ntmps110 rfl ?_
          repeat (first | rintro _ _ ⟨rfl, rfl⟩ | refine exq fun _ => ?_ | intro _ | refine go ?_ | refine drq ?_ | refine cal @hM ?_ | refine cal @sl_Clone_int ?_ | refine cal @hH ?_ | refine cal @sl_BinarySearch_int ?_ | refine cal @hI ?_)
          have hins : List.take (lowL s.ps x) s.ps ++ x :: List.drop (lowL s.ps x) s.ps = insL x s.ps := rfl
          rw [hins, ← insL_len x s.ps]
          (apply WE_ret rfl rfl (by (repeat (first | exact ResOk.nil | (apply ResOk.tmp; rfl) | (apply resOk_cell; rfl; exact inferInstance; rfl; rfl)))))
          · exact ⟨_, _, rfl, rfl⟩
          · exact entu0
end Go.Sx

/- Slices that may begin within their block: they are owned, appended to, and cut. My own work. -/
namespace Go.Sx
open Go Go.Proofs
set_option linter.unusedVariables false
set_option linter.unusedSectionVars false
set_option linter.unusedSimpArgs false
/-- What is so of such a slice in a block. -/
def TlF (sz : Nat) (v : Value) (n : Nat) (xs : List Value) (g j cap : Nat) (l : List Value) : Prop :=
  v = .slice (some ⟨g, j, none⟩) n cap ∧ n ≤ cap ∧ cap ≤ maxLen ∧ j + cap * sz ≤ l.length ∧ (l.drop j).take (n * sz) = xs ∧ xs.all one = true
def TlS (e : TypeId) (sz : Nat) (v : Value) (n : Nat) (xs : List Value) : HP := Ex fun q : Option (Nat × Nat × Nat × List Value) =>
  match q with
  | none => [Fact ((∃ p, v = .slice p 0 0) ∧ n = 0 ∧ xs = [])]
  | some (g, j, cap, l) => [Cells g e l, Fact (TlF sz v n xs g j cap l)]
section
variable {e : TypeId} {sz n : Nat} {v : Value} {xs : List Value} {L M : List HP} {w : World}
theorem tl_sat (H : Sat (TlS e sz v n xs :: L) w) : ((∃ p, v = .slice p 0 0) ∧ n = 0 ∧ xs = []) ∨ ∃ g j cap l, TlF sz v n xs g j cap l ∧ Sat (Cells g e l :: L) w := by
  obtain ⟨q, hx⟩ := star_ex H
  cases q with
  | none => simp only [app] at hx; exact .inl (fact_of hx)
  | some q =>
    obtain ⟨g, j, cap, l⟩ := q
    simp only [app] at hx
    exact .inr ⟨g, j, cap, l, fact_of (star_drop hx), (Ent.cons (Ent.drop Ent.refl)) _ hx⟩
theorem tl_nil {p : Option Addr} (h : Ent L M) : Ent L (TlS e sz (.slice p 0 0) 0 [] :: M) :=
  Ent.trans h (Ent.trans (star_fact_mk ⟨⟨p, rfl⟩, rfl, rfl⟩) (ex_intro (p := fun q : Option (Nat × Nat × Nat × List Value) => match q with
    | none => [Fact ((∃ p', Value.slice p 0 0 = .slice p' 0 0) ∧ 0 = 0 ∧ ([] : List Value) = [])]
    | some (g, j, cap, l) => [Cells g e l, Fact (TlF sz (.slice p 0 0) 0 [] g j cap l)]) none))
theorem tl_mk {g j cap : Nat} {l : List Value} (hf : TlF sz v n xs g j cap l) (h : Ent L (Cells g e l :: M)) : Ent L (TlS e sz v n xs :: M) :=
  Ent.trans h (Ent.trans (Ent.cons (star_fact_mk hf)) (ex_intro (p := fun q : Option (Nat × Nat × Nat × List Value) => match q with
    | none => [Fact ((∃ p, v = .slice p 0 0) ∧ n = 0 ∧ xs = [])]
    | some (g, j, cap, l) => [Cells g e l, Fact (TlF sz v n xs g j cap l)]) (some (g, j, cap, l))))
theorem tl_len (hf : ∃ g j cap l, TlF sz v n xs g j cap l) : xs.length = n * sz := by
  obtain ⟨g, j, cap, l, h1, h2, h3, h4, h5, h6⟩ := hf
  rw [← h5, List.length_take, List.length_drop]
  have : n * sz ≤ cap * sz := Nat.mul_le_mul_right _ h2
  omega
instance (priority := high) RdL.tl : RdL (TlS e sz v n xs :: L) sz v n xs :=
  ⟨fun w h => by
    rcases tl_sat h with ⟨_, h2, h3⟩ | ⟨g, j, cap, l, hf, _⟩
    · rw [h2, h3]; simp
    · exact tl_len ⟨g, j, cap, l, hf⟩,
   fun w h => by
    rcases tl_sat h with ⟨_, h2, h3⟩ | ⟨g, j, cap, l, hf, _⟩
    · rw [h3]; rfl
    · exact hf.2.2.2.2.2,
   fun w h => by
    rcases tl_sat h with ⟨⟨p, h1⟩, h2, h3⟩ | ⟨g, j, cap, l, hf, hs⟩
    · exact .inl ⟨p, 0, h1, h2⟩
    · obtain ⟨h1, h2, h3, h4, h5, h6⟩ := hf
      refine .inr ⟨g, j, cap, h1, fun i u hu => ?_⟩
      rw [cell_of_heap (sat_cells hs)]
      rw [← h5, List.getElem?_take] at hu
      split at hu
      · rwa [List.getElem?_drop] at hu
      · cases hu⟩
theorem tl_cut {p : Option Addr} {c : Nat} (hn : 1 ≤ n) : Ent (TlS e sz (.slice p n c) n xs :: L) (TlS e sz (cut (.slice p n c) 1 n c sz) (n - 1) (xs.drop sz) :: L) := by
  intro h H
  obtain ⟨q, hx⟩ := star_ex H
  cases q with
  | none => simp only [app] at hx; have := (fact_of hx).2.1; omega
  | some q =>
    obtain ⟨g, j, cap, l⟩ := q
    simp only [app] at hx
    obtain ⟨h1, h2, h3, h4, h5, h6⟩ := fact_of (star_drop hx)
    simp only [Value.slice.injEq, true_and] at h1
    obtain ⟨rfl, rfl⟩ := h1
    have hs : Star (Cells g e l :: L) h := (Ent.cons (Ent.drop Ent.refl)) _ hx
    have hk : n * sz ≤ c * sz := Nat.mul_le_mul_right _ h2
    have hd : (l.drop (j + sz)).take ((n - 1) * sz) = xs.drop sz := by
      rw [← h5, List.drop_take, List.drop_drop, Nat.sub_mul, Nat.one_mul]
    have ho : (xs.drop sz).all one = true := by
      rw [List.all_eq_true] at h6 ⊢
      exact fun x hx => h6 x (List.mem_of_mem_drop hx)
    by_cases hc : c = 1
    · have hn1 : n = 1 := by omega
      subst hc hn1
      have e1 : cut (.slice (some ⟨g, j, none⟩) 1 1) 1 1 1 sz = .slice (some ⟨g, j, none⟩) 0 0 := by simp [cut]
      rw [e1]
      have hz : xs.drop sz = [] := by rw [← hd]; simp
      rw [hz]
      exact tl_nil (Ent.refl) _ ((Ent.drop Ent.refl : Ent (Cells g e l :: L) L) _ hs)
    · rw [cut_at hc, Nat.one_mul]
      have hcs : c * sz = (c - 1) * sz + sz := by
        obtain ⟨c', rfl⟩ : ∃ c', c = c' + 1 := ⟨c - 1, by omega⟩
        rw [Nat.add_mul, Nat.one_mul]; rfl
      exact tl_mk (g := g) (j := j + sz) (cap := c - 1) (l := l) ⟨rfl, by omega, by omega, by omega, hd, ho⟩ Ent.refl _ hs
end
section
variable {P : Program} {N : Nat} {t ty : TypeId} {x y : Operand} {env : Env} {L : List HP}
theorem add_at' (g j k : Nat) : (Addr.add ⟨g, j, none⟩ k) = ⟨g, j + k, none⟩ := by unfold Addr.add; split <;> simp_all
theorem K_appendT {e : TypeId} {sz n m bs : Nat} {z v u : Value} {xs ys zs : List Value} {pos : String} {aft : Array Edge} {d : Nat} [hT : TU P t (.slice e)] [hZ : TZ P e sz z bs]
    (hx : ev env x = some v) (hy : ev env y = some u) (hr : RdL (TlS e sz v n xs :: L) sz u m ys) (hb : (n + m) * bs ≤ 140737488355328) (hl0 : n + m ≤ 9223372036854775807) (hz0 : Nat.blt 0 sz = true) (hm0 : 0 < m) [hco : CO z zs] (hzl : zs.length = sz) (hd : Nat.blt d N = true) :
    KO P N ⟨some d, .call ⟨.builtin .append, [x, y].toArray, [t, t].toArray⟩, ty, pos, aft, none⟩ env (TlS e sz v n xs :: L) (Gives env d (n + m) (fun v' => TlS e sz v' (n + m) (xs ++ ys) :: L)) := by
  intro a w ha hw K Q next
  have hl : n + m ≤ maxLen := by simp only [maxLen]; omega
  have hyl := hr.len w hw
  have hyo := hr.ones w hw
  obtain ⟨i, hi, hpf⟩ := Option.map_eq_some_iff.1 hZ.pf
  simp only [Prod.mk.injEq] at hpf
  obtain ⟨hisz, hiz, hib⟩ := hpf
  have hsz : 0 < sz := by simpa using hz0
  have hzs : z.cells.size = sz := by have := hco.pf; rw [cellsOf_eq, this]; simpa using hzl
  have hxu : ∃ p c, u = .slice p m c := by
    rcases hr.pf w hw with ⟨p, c, h, h'⟩ | ⟨b, o, c, h, _⟩
    · omega
    · exact ⟨_, c, h⟩
  have hfx : ∀ w' : World, w'.heap = w.heap → (Builtin.firstCells sz m u).run P w' = .ok ys.toArray w' := by
    intro w' hh
    rcases hr.pf w hw with ⟨p, c, h, h'⟩ | ⟨b, o, c, h, hc⟩
    · omega
    · subst h
      simp only [Builtin.firstCells]
      exact run_loadCells' hyl (fun j v hj => by
        have := hc j v hj
        unfold World.cell? at this ⊢
        rw [hh]; exact this)
  have run : ∃ v' w', (Builtin.append_ #[t, t] ty #[v, u]).run P w = .ok v' w' ∧ (∃ p c, v' = .slice p (n + m) c) ∧ Sat (TlS e sz v' (n + m) (xs ++ ys) :: L) w' := by
    have h63 : ((n + m : Nat) : Int) ≤ 9223372036854775807 := by have := hl; simp only [maxLen] at this; omega
    have grow : ∀ (base : Option Addr) (old : Nat), v = .slice base n old → xs.length = n * sz → xs.all one = true → (∀ w' : World, w'.heap = w.heap → (Builtin.firstCells sz n (.slice base n old)).run P w' = .ok xs.toArray w') → old < n + m →
        ∃ v' w', (Builtin.append_ #[t, t] ty #[v, u]).run P w = .ok v' w' ∧ (∃ p c, v' = .slice p (n + m) c) ∧ Sat (TlS e sz v' (n + m) (xs ++ ys) :: L) w' := by
      intro base old hv h1 h2 hfo ho
      subst hv
      have hr1 := append_grows (P := P) (w := w) (ty := ty) (base := base) (sLen := n) (sCap := old) (olds := xs) (news := ys) hT.pf hi hiz hxu (by rw [hisz]; exact hfo w.drew rfl) (by rw [hisz]; exact hfx w.drew rfl) ho h63 (growslice_fits (by omega) (by rw [hib]; exact hb))
      have hge := grownCap_ge w (n + m) old e
      have hlen : (xs ++ ys).length = (n + m) * sz := by rw [List.length_append, h1, hyl, Nat.add_mul]
      refine ⟨_, _, hr1, ⟨_, _, rfl⟩, ?_⟩
      have hS2 : Sat (Cells w.heap.size e (xs ++ ys ++ (Builtin.zeroCells z.cells (grownCap w (n + m) old e - (n + m))).toList) :: L) (w.drew.alloc (.cells (xs.toArray ++ ys.toArray ++ Builtin.zeroCells z.cells (grownCap w (n + m) old e - (n + m))) e (0, 0))) :=
        sat_fresh _ rfl (fun h hh => ⟨by rw [hh]; congr 2; apply Array.ext'; simp⟩) hw
      refine (tl_mk (g := w.heap.size) (j := 0) (cap := grownCap w (n + m) old e) ⟨rfl, hge, grownCap_le_maxLen w (n + m) old e hl, ?_, ?_, by rw [List.all_append, h2, hyo]; rfl⟩ Ent.refl) _ hS2
      · simp only [List.length_append, Array.length_toList, zeros_size, hzs]
        rw [← List.length_append, hlen, ← Nat.add_mul]
        have : n + m + (grownCap w (n + m) old e - (n + m)) = grownCap w (n + m) old e := by omega
        rw [this]; omega
      · rw [List.drop_zero, ← hlen]; exact List.take_left
    rcases tl_sat hw with ⟨⟨p, hv⟩, hn, hx0⟩ | ⟨g, j, cap, l, ⟨hv, hnc, hcm, hjl, htk, hon⟩, hs⟩
    · subst hx0
      refine grow p 0 (by rw [hv, hn]) (by rw [hn]; simp) rfl (fun w' _ => ?_) (by omega)
      subst hn
      cases p <;> simp [Builtin.firstCells, loadCells, loadCellsFrom]
    · have h1 : xs.length = n * sz := tl_len (v := v) ⟨g, j, cap, l, hv, hnc, hcm, hjl, htk, hon⟩
      have hg := sat_cells hs
      by_cases hroom : n + m ≤ cap
      · have hfit : n * sz + m * sz ≤ cap * sz := by rw [← Nat.add_mul]; exact Nat.mul_le_mul_right _ hroom
        obtain ⟨w', r1, r2, r3, r4, r5, r6⟩ := run_storeCells (P := P) g e ys l (j + n * sz) 0 w hg (by rw [hyl]; omega) hyo
        refine ⟨.slice (some ⟨g, j, none⟩) (n + m) cap, w', ?_, ⟨_, _, rfl⟩, ?_⟩
        · subst hv
          obtain ⟨p, c, rfl⟩ := hxu
          have hadd := add_at' g j (n * sz)
          have hf := hfx w rfl
          simp [Builtin.append_, run_underlying hT.pf, run_sizeOf hZ, Builtin.lenOf, hroom, hf, hadd, r1]
        · have hS2 : Sat (Cells g e (splice l (j + n * sz) ys) :: L) w' := sat_upd (b := g) (Cells g e (splice l (j + n * sz) ys)) (fun h hp => ⟨_, hp.pf⟩) (fun h e => ⟨e⟩) (by simpa using r2) r3 r4 r5 r6 hs
          have hll : (splice l (j + n * sz) ys).length = l.length := by simp only [splice, List.length_append, List.length_take, List.length_drop, hyl]; omega
          refine (tl_mk (g := g) (j := j) (cap := cap) ⟨rfl, hroom, hcm, by rw [hll]; exact hjl, ?_, by rw [List.all_append, hon, hyo]; rfl⟩ Ent.refl) _ hS2
          apply List.ext_getElem?
          intro k
          rw [List.getElem?_take, List.getElem?_append]
          have hk1 : ∀ q, q < n * sz → l[j + q]? = xs[q]? := fun q hq => by rw [← htk, List.getElem?_take, if_pos hq, List.getElem?_drop]
          split
          · rename_i hk
            rw [List.getElem?_drop]
            simp only [splice]
            rw [Nat.add_mul] at hk
            by_cases h : k < n * sz
            · rw [if_pos (by omega), List.append_assoc, List.getElem?_append_left (by rw [List.length_take]; omega), List.getElem?_take, if_pos (by omega)]
              exact hk1 k h
            · rw [if_neg (by omega), List.append_assoc, List.getElem?_append_right (by rw [List.length_take]; omega), List.getElem?_append_left (by rw [List.length_take, hyl]; omega), List.length_take, h1]
              congr 1; omega
          · rename_i hk
            rw [Nat.add_mul] at hk
            rw [if_neg (by omega), List.getElem?_eq_none (by omega)]
      · refine grow _ cap hv h1 hon (fun w' hh => ?_) (by omega)
        simp only [Builtin.firstCells]
        refine run_loadCells' h1 (fun q u hu => ?_)
        have hg' : w'.heap[g]? = some (.cells l.toArray e (0, 0)) := by rw [hh]; exact hg
        rw [cell_of_heap hg']
        rw [← htk, List.getElem?_take] at hu
        split at hu
        · rwa [List.getElem?_drop] at hu
        · cases hu
  obtain ⟨v', w', r1, ⟨p, c, rfl⟩, r2⟩ := run
  unfold Oper.wp
  have ex := execBuiltin (P := P) (ρ := a.eval) (b := .append) (args := [x, y]) (ats := [t, t].toArray) (ty := ty) (vs := [v, u]) (by simp [ha.ev hx, ha.ev hy]) (w := w) (r := .ok (.value (.slice p (n + m) c)) w') (fun cs => by
    simp [builtin, r1])
  rw [execOp_plain, ex]
  exact next _ _ _ _ ⟨p, c, rfl, rfl⟩ (ha.put hd _) r2
end
section
variable {e : TypeId} {sz n c : Nat} {p : Option Addr} {xs : List Value} {P : Program} {N : Nat} {env : Env} {L : List HP} {Q : Exit → Act → World → Prop}
theorem tl_cap {w : World} (H : Sat (TlS e sz (.slice p n c) n xs :: L) w) : n ≤ c := by
  rcases tl_sat H with ⟨_, hn, _⟩ | ⟨g, j, cap, l, ⟨hv, hnc, _⟩, _⟩
  · omega
  · simp only [Value.slice.injEq] at hv; omega
theorem WC_tlcap {co : Code} (h : n ≤ c → WC P N co env (TlS e sz (.slice p n c) n xs :: L) Q) : WC P N co env (TlS e sz (.slice p n c) n xs :: L) Q := fun a w ha hw => h (tl_cap hw) a w ha hw
end
end Go.Sx
