/- Targets are those that may be sharers, and none of those left out: the law of sharers. My own work. -/
import Derived.Test.YtadedfcjakhfbabShrTells
namespace Go.Sx
open Go Go.Proofs
set_option linter.unusedVariables false
set_option linter.unusedSectionVars false
set_option linter.unusedSimpArgs false
/-- Those left out that might be, each once. -/
def outB (s : SSet) (but : List Int) : List Int := (upto s.cores.toNat).filter fun c => shHas s c && decide (c ∈ but)
theorem has_range {s : SSet} {c : Int} (h : shMay s = true) (hh : shHas s c = true) : 0 ≤ c ∧ c < s.cores := by
  obtain ⟨m1, m2, m3, m4, m5, m6, m7, m8⟩ := may_facts' h
  unfold shHas at hh
  split at hh
  · simpa using hh
  · exact m8 c (of_decide_eq_true hh)
theorem tgt_parts (s : SSet) (but : List Int) (n : Nat) : (shTgt s but n).length + ((upto n).filter fun c => shHas s c && decide (c ∈ but)).length = (shTgt s [] n).length := by
  unfold shTgt
  induction upto n with
  | nil => rfl
  | cons a r ih =>
    cases h1 : shHas s a with
    | false => simpa [h1] using ih
    | true =>
      by_cases h2 : a ∈ but
      · simp [h1, h2] at ih ⊢; omega
      · simp [h1, h2] at ih ⊢; omega
theorem nodup_len {l m : List Int} (hl : l.Nodup) (hm : m.Nodup) (h : ∀ c, c ∈ l ↔ c ∈ m) : l.length = m.length :=
  ((List.perm_ext_iff_of_nodup hl hm).2 h).length_eq
theorem tgt_sorted (s : SSet) (but : List Int) (n : Nat) : (shTgt s but n).Pairwise (· < ·) := (upto_sorted n).sublist List.filter_sublist
theorem tgt_mem {s : SSet} {but : List Int} {n : Nat} {c : Int} : c ∈ shTgt s but n ↔ (0 ≤ c ∧ c < n) ∧ shHas s c = true ∧ ¬ c ∈ but := by
  unfold shTgt
  rw [List.mem_filter, upto_mem]
  simp
theorem mkeys_mget (l : List (Int × Bool)) (k : Int) : k ∈ mkeys l ↔ (mget l k).isSome = true := by
  have := mget_none l k
  cases h : mget l k with
  | none => simp [this.1 h]
  | some x =>
    simp only [Option.isSome_some, iff_true]
    exact Classical.byContradiction fun hn => by rw [this.2 hn] at h; cases h
theorem pw_nodup {l : List Int} (h : l.Pairwise (· < ·)) : l.Nodup := h.imp fun h e => by omega
set_option maxRecDepth 100000
set_option maxHeartbeats 4000000
attribute [local irreducible] Go.Exit.then Go.Exit.inBlock Go.Code.wp WC WO WE WQ V LoopQ FnQ Sat Star band bor IntKind.wrap WR Code.rounds WT KO
theorem law08_But {W : World} {F : List HP} {s : SSet} {a : Option Addr} {k : Nat} {v : Value} {but : List Int} (hk : ROld W 1 (.slice a s.ps.length k) s.ps.length (flat ic s.ps)) (hl : s.ps.length ≤ 9223372036854775807) (hb : ROld W 1 v but.length (flat ic but)) (hbl : but.length ≤ 9223372036854775807) :
    FnF Try.prog 8 [scw s a k, v] [Old W] F (fun r L' => r = .bool true ∧ L' = [Old W]) := by
  haveI := hk
  haveI := hb
  refine FnF.mk' Try.func8 rfl rfl Try.ntmps8 rfl ?_
  by_cases h1 : 100 < s.ps.length
  · repeat (first | rintro _ _ ⟨rfl, rfl⟩ | rintro _ _ ⟨_, rfl, rfl⟩ | rintro _ _ ⟨_, _, rfl, rfl⟩ | intro _ | refine go ?_ | (refine is_draw ?_; refine WC_draw mixed (by kernel_rfl) ?_) | refine cal @law08_awake ?_)
    (apply WE_ret rfl rfl (by (repeat (first | exact ResOk.nil | (apply ResOk.tmp; rfl) | (apply resOk_cell; rfl; exact inferInstance; rfl; rfl)))); (first | exact ⟨rfl, rfl⟩ | exact ⟨congrArg Value.bool (by decide), rfl⟩ | exact ⟨_, rfl, rfl⟩ | exact ⟨_, _, rfl, rfl⟩ | exact ⟨by first | (simp []; done) | (simp [] <;> omega), rfl⟩); (repeat (first | exact Ent.refl | exact Ent.nil | apply Ent.pick | apply Ent.drop)))
  · by_cases h2 : 100 < but.length
    · repeat (first | rintro _ _ ⟨rfl, rfl⟩ | rintro _ _ ⟨_, rfl, rfl⟩ | rintro _ _ ⟨_, _, rfl, rfl⟩ | intro _ | refine go ?_ | (refine is_draw ?_; refine WC_draw mixed (by kernel_rfl) ?_) | refine cal @law08_awake ?_)
      (apply WE_ret rfl rfl (by (repeat (first | exact ResOk.nil | (apply ResOk.tmp; rfl) | (apply resOk_cell; rfl; exact inferInstance; rfl; rfl)))); (first | exact ⟨rfl, rfl⟩ | exact ⟨congrArg Value.bool (by decide), rfl⟩ | exact ⟨_, rfl, rfl⟩ | exact ⟨_, _, rfl, rfl⟩ | exact ⟨by first | (simp []; done) | (simp [] <;> omega), rfl⟩); (repeat (first | exact Ent.refl | exact Ent.nil | apply Ent.pick | apply Ent.drop)))
    · have hM := fun F (hk : RdL F 1 (.slice a s.ps.length k) s.ps.length (flat ic s.ps)) => shr_May (F := F) hk (by omega)
      cases hm : shMay s with
      | false =>
        simp only [hm] at hM
        repeat (first | rintro _ _ ⟨rfl, rfl⟩ | rintro _ _ ⟨_, rfl, rfl⟩ | rintro _ _ ⟨_, _, rfl, rfl⟩ | intro _ | refine go ?_ | (refine is_draw ?_; refine WC_draw mixed (by kernel_rfl) ?_) | refine cal @law08_awake ?_ | refine cal @hM ?_)
        (apply WE_ret rfl rfl (by (repeat (first | exact ResOk.nil | (apply ResOk.tmp; rfl) | (apply resOk_cell; rfl; exact inferInstance; rfl; rfl)))); (first | exact ⟨rfl, rfl⟩ | exact ⟨congrArg Value.bool (by decide), rfl⟩ | exact ⟨_, rfl, rfl⟩ | exact ⟨_, _, rfl, rfl⟩ | exact ⟨by first | (simp []; done) | (simp [] <;> omega), rfl⟩); (repeat (first | exact Ent.refl | exact Ent.nil | apply Ent.pick | apply Ent.drop)))
      | true =>
        simp only [hm] at hM
        obtain ⟨m1, m2, m3, m4, m5, m6, m7, m8⟩ := may_facts' hm
        have hT := fun F (hk : RdL F 1 (.slice a s.ps.length k) s.ps.length (flat ic s.ps)) (hb : RdL F 1 v but.length (flat ic but)) => shr_Targets (F := F) hk hm hb (by omega)
        have hT0 := fun F (hk : RdL F 1 (.slice a s.ps.length k) s.ps.length (flat ic s.ps)) => shr_Targets (F := F) (u := .slice none 0 0) (but := []) hk hm rd_empty (by simp)
        have hTl := tgt_len s but s.cores.toNat
        have hTl0 := tgt_len s [] s.cores.toNat
        generalize htl : shTgt s but s.cores.toNat = tl at hT hTl
        have hts : tl.Pairwise (· < ·) := by rw [← htl]; exact tgt_sorted ..
        have htm : ∀ c ∈ tl, (0 ≤ c ∧ c < s.cores) ∧ shHas s c = true ∧ ¬ c ∈ but := fun c hc => by
          rw [← htl] at hc
          have := tgt_mem.1 hc
          exact ⟨by omega, this.2⟩
        repeat (first | rintro _ _ ⟨rfl, rfl⟩ | rintro _ _ ⟨_, rfl, rfl⟩ | rintro _ _ ⟨_, _, rfl, rfl⟩ | intro _ | refine go ?_ | (refine is_draw ?_; refine WC_draw mixed (by kernel_rfl) ?_) | refine cal @law08_awake ?_ | refine cal @hM ?_ | refine cal @hT ?_)
        rename_i bs p c
        apply WC_loopE (E0 := [(1, _), (2, _), (5, _), (33, _), (34, _)]) (fun E0 (q : Nat × Int) => (35, .int .i64 q.1) :: (6, .int .i64 q.2) :: E0) (fun _ => Own 3 1 (.slice p tl.length c) tl.length (flat ic tl) :: Cells bs 41 (scl s a k) :: Old W :: F)
          (fun q => q.1 ≤ tl.length ∧ ∀ i (hi : i < tl.length), q.1 ≤ i → q.2 < tl[i]) (fun q => tl.length - q.1) (0, -1)
        · (repeat (first | exact Sub.nil | (refine Sub.cons (by first | rfl | (simp only [Nat.zero_add]; rfl)) ?_)))
        · exact ⟨Nat.zero_le _, fun i hi _ => by have := (htm _ (List.getElem_mem hi)).1.1; dsimp only; omega⟩
        · (repeat (first | (with_reducible exact Ent.refl) | exact Ent.nil | (apply ent_pickE; (focus ((repeat (first | (with_reducible exact pk_here) | (apply pk_there))); done))) | apply Ent.drop))
        · rintro ⟨i, last⟩ ⟨hi, hla⟩
          dsimp only at hi hla ⊢
          by_cases hlt : i < tl.length
          · have hlc := hla i hlt (Nat.le_refl _)
            obtain ⟨t1, t2, t3⟩ := htm _ (List.getElem_mem hlt)
            have hH := fun F (hk : RdL F 1 (.slice a s.ps.length k) s.ps.length (flat ic s.ps)) => shr_Has (F := F) (c := tl[i]) hk hm
            simp only [t2] at hH
            repeat (first | rintro _ _ ⟨rfl, rfl⟩ | rintro _ _ ⟨_, rfl, rfl⟩ | rintro _ _ ⟨_, _, rfl, rfl⟩ | intro _ | refine go ?_ | (refine is_draw ?_; refine WC_draw mixed (by kernel_rfl) ?_) | refine cal @hH ?_)
            apply WC_loopE (E0 := [(1, _), (2, _), (5, _), (6, _), (8, _), (33, _), (34, _), (35, _), (49, _), (50, _)]) (fun E0 (j : Nat) => (51, .int .i64 j) :: E0) (fun _ => Own 3 1 (.slice p tl.length c) tl.length (flat ic tl) :: Cells bs 41 (scl s a k) :: Old W :: F) (fun j => j ≤ but.length) (fun j => but.length - j) 0
            · (repeat (first | exact Sub.nil | (refine Sub.cons (by first | rfl | (simp only [Nat.zero_add]; rfl)) ?_)))
            · exact Nat.zero_le _
            · (repeat (first | (with_reducible exact Ent.refl) | exact Ent.nil | (apply ent_pickE; (focus ((repeat (first | (with_reducible exact pk_here) | (apply pk_there))); done))) | apply Ent.drop))
            · rintro j hj
              by_cases hjl : j < but.length
              · have hne : ¬ but[j] = tl[i] := fun h => t3 (by rw [← h]; exact List.getElem_mem hjl)
                repeat (first | rintro _ _ ⟨rfl, rfl⟩ | rintro _ _ ⟨_, rfl, rfl⟩ | rintro _ _ ⟨_, _, rfl, rfl⟩ | intro _ | refine go ?_ | (refine is_draw ?_; refine WC_draw mixed (by kernel_rfl) ?_))
                refine WE_loop (j + 1) (by omega) (by omega) ?_ ?_
                · (repeat (first | exact Sub.nil | (refine Sub.cons (by first | rfl | (simp only [Nat.zero_add]; rfl)) ?_)))
                · (repeat (first | (with_reducible exact Ent.refl) | exact Ent.nil | (apply ent_pickE; (focus ((repeat (first | (with_reducible exact pk_here) | (apply pk_there))); done))) | apply Ent.drop))
              · repeat (first | rintro _ _ ⟨rfl, rfl⟩ | rintro _ _ ⟨_, rfl, rfl⟩ | rintro _ _ ⟨_, _, rfl, rfl⟩ | intro _ | refine go ?_ | (refine is_draw ?_; refine WC_draw mixed (by kernel_rfl) ?_))
                refine WE_loop (i + 1, tl[i]) (by dsimp only; omega) ⟨by dsimp only; omega, fun j hj h => List.pairwise_iff_getElem.1 hts i j hlt hj h⟩ ?_ ?_
                · (repeat (first | exact Sub.nil | (refine Sub.cons (by first | rfl | (simp only [Nat.zero_add]; rfl)) ?_)))
                · (repeat (first | (with_reducible exact Ent.refl) | exact Ent.nil | (apply ent_pickE; (focus ((repeat (first | (with_reducible exact pk_here) | (apply pk_there))); done))) | apply Ent.drop))
          · repeat (first | rintro _ _ ⟨rfl, rfl⟩ | rintro _ _ ⟨_, rfl, rfl⟩ | rintro _ _ ⟨_, _, rfl, rfl⟩ | intro _ | refine go ?_ | (refine is_draw ?_; refine WC_draw mixed (by kernel_rfl) ?_))
            rename_i bm
            apply WC_loopE (E0 := [(2, _), (5, _), (11, _), (61, _), (62, _)]) (fun E0 (q : Nat × List (Int × Bool)) => (63, .int .i64 q.1) :: E0) (fun q => MapAt bm blv q.2 :: Own 3 1 (.slice p tl.length c) tl.length (flat ic tl) :: Cells bs 41 (scl s a k) :: Old W :: F)
              (fun q => q.1 ≤ but.length ∧ ∀ x, (mget q.2 x).isSome = (shHas s x && decide (x ∈ but.take q.1))) (fun q => but.length - q.1) (0, [])
            · (repeat (first | exact Sub.nil | (refine Sub.cons (by first | rfl | (simp only [Nat.zero_add]; rfl)) ?_)))
            · exact ⟨Nat.zero_le _, fun x => by simp [mget_nil]⟩
            · (repeat (first | (with_reducible exact Ent.refl) | exact Ent.nil | (apply ent_pickE; (focus ((repeat (first | (with_reducible exact pk_here) | (apply pk_there))); done))) | apply Ent.drop))
            · rintro ⟨j, mp⟩ ⟨hj, hmp⟩
              dsimp only at hj hmp ⊢
              by_cases hjl : j < but.length
              · have hH := fun F (hk : RdL F 1 (.slice a s.ps.length k) s.ps.length (flat ic s.ps)) => shr_Has (F := F) (c := but[j]) hk hm
                have htk : ∀ x, decide (x ∈ but.take (j + 1)) = (decide (x ∈ but.take j) || decide (x = but[j])) := fun x => by
                  rw [List.take_add_one, List.getElem?_eq_getElem hjl, Option.toList_some, Bool.eq_iff_iff, Bool.or_eq_true, decide_eq_true_eq, decide_eq_true_eq, decide_eq_true_eq, List.mem_append, List.mem_singleton]
                cases hh : shHas s but[j] with
                | true =>
                  simp only [hh] at hH
                  repeat (first | rintro _ _ ⟨rfl, rfl⟩ | rintro _ _ ⟨_, rfl, rfl⟩ | rintro _ _ ⟨_, _, rfl, rfl⟩ | intro _ | refine go ?_ | (refine is_draw ?_; refine WC_draw mixed (by kernel_rfl) ?_) | refine cal @hH ?_)
                  refine WE_loop (j + 1, mset mp but[j] true) (by dsimp only; omega) ⟨by dsimp only; omega, fun x => ?_⟩ ?_ ?_
                  · dsimp only
                    rw [mget_mset, htk]
                    by_cases hx : x = but[j]
                    · subst hx; simp [hh]
                    · rw [if_neg hx, hmp]; simp [hx]
                  · (repeat (first | exact Sub.nil | (refine Sub.cons (by first | rfl | (simp only [Nat.zero_add]; rfl)) ?_)))
                  · (repeat (first | (with_reducible exact Ent.refl) | exact Ent.nil | (apply ent_pickE; (focus ((repeat (first | (with_reducible exact pk_here) | (apply pk_there))); done))) | apply Ent.drop))
                | false =>
                  simp only [hh] at hH
                  repeat (first | rintro _ _ ⟨rfl, rfl⟩ | rintro _ _ ⟨_, rfl, rfl⟩ | rintro _ _ ⟨_, _, rfl, rfl⟩ | intro _ | refine go ?_ | (refine is_draw ?_; refine WC_draw mixed (by kernel_rfl) ?_) | refine cal @hH ?_)
                  refine WE_loop (j + 1, mp) (by dsimp only; omega) ⟨by dsimp only; omega, fun x => ?_⟩ ?_ ?_
                  · dsimp only
                    rw [hmp, htk]
                    by_cases hx : x = but[j]
                    · subst hx; simp [hh]
                    · simp [hx]
                  · (repeat (first | exact Sub.nil | (refine Sub.cons (by first | rfl | (simp only [Nat.zero_add]; rfl)) ?_)))
                  · (repeat (first | (with_reducible exact Ent.refl) | exact Ent.nil | (apply ent_pickE; (focus ((repeat (first | (with_reducible exact pk_here) | (apply pk_there))); done))) | apply Ent.drop))
              · have hjb : j = but.length := by omega
                subst hjb
                rw [List.take_length] at hmp
                repeat (first | rintro _ _ ⟨rfl, rfl⟩ | rintro _ _ ⟨_, rfl, rfl⟩ | rintro _ _ ⟨_, _, rfl, rfl⟩ | intro _ | refine go ?_)
                (first | refine WO_front (MapAt bm blv mp) ?_ | refine WC_front (MapAt bm blv mp) ?_ | refine WE_front (MapAt bm blv mp) ?_)
                refine WO_mapnd fun hnd => ?_
                have hml : mp.length = (outB s but).length := by
                  have e1 : (mkeys mp).length = mp.length := by simp [mkeys]
                  rw [← e1]
                  refine nodup_len hnd (pw_nodup ((upto_sorted _).sublist List.filter_sublist)) fun x => ?_
                  rw [mkeys_mget, hmp, outB, List.mem_filter, upto_mem]
                  constructor
                  · intro h
                    have := has_range hm (Bool.and_eq_true_iff.1 h).1
                    exact ⟨by omega, h⟩
                  · exact fun h => h.2
                have hpt := tgt_parts s but s.cores.toNat
                rw [htl] at hpt
                have hol : (outB s but).length = ((upto s.cores.toNat).filter fun c => shHas s c && decide (c ∈ but)).length := rfl
                have hmb : mp.length + tl.length ≤ 64 := by omega
                have heq : (tl.length : Int) + mp.length = (shTgt s [] s.cores.toNat).length := by omega
                have hw : IntKind.i64.wrap ((tl.length : Int) + (mp.length : Nat)) = (shTgt s [] s.cores.toNat).length := by rw [heq, wrap_id (by omega) (by omega)]
                repeat (first | rintro _ _ ⟨rfl, rfl⟩ | rintro _ _ ⟨_, rfl, rfl⟩ | rintro _ _ ⟨_, _, rfl, rfl⟩ | intro _ | refine go ?_ | (refine is_draw ?_; refine WC_draw mixed (by kernel_rfl) ?_) | refine cal @hT0 ?_)
                simp only [hw, decide_true]
                (apply WE_ret rfl rfl (by (repeat (first | exact ResOk.nil | (apply ResOk.tmp; rfl) | (apply resOk_cell; rfl; exact inferInstance; rfl; rfl)))); (first | exact ⟨rfl, rfl⟩ | exact ⟨congrArg Value.bool (by decide), rfl⟩ | exact ⟨_, rfl, rfl⟩ | exact ⟨_, _, rfl, rfl⟩ | exact ⟨by first | (simp []; done) | (simp [] <;> omega), rfl⟩); (repeat (first | exact Ent.refl | exact Ent.nil | apply Ent.pick | apply Ent.drop)))
end Go.Sx
