/- Who was added may be a sharer: the law of sharers. My own work. -/
import Derived.Test.YtadedfcjakhfbabShrBut
namespace Go.Sx
open Go Go.Proofs
set_option linter.unusedVariables false
set_option linter.unusedSectionVars false
set_option linter.unusedSimpArgs false
theorem may_mk {s : SSet} (h1 : 1 ≤ s.cores) (h2 : s.cores ≤ 64) (h3 : 0 ≤ s.most) (h4 : s.most ≤ 8) (h5 : (s.ps.length : Int) ≤ s.most) (h6 : s.all = true → s.ps = []) (h7 : s.ps.Pairwise (· < ·)) (h8 : ∀ c ∈ s.ps, 0 ≤ c ∧ c < s.cores) : shMay s = true := by
  have h9 : risingB s.cores (-1) s.ps = true := rising_of h7 fun c hc => by have := h8 c hc; exact ⟨by omega, this.2⟩
  have h10 : (!(s.all && decide (0 < s.ps.length))) = true := by
    cases ha : s.all with
    | false => rfl
    | true => rw [h6 ha]; rfl
  simp only [shMay, h1, h2, h3, h4, h5, h9, h10, decide_true, Bool.and_true]
theorem may_add {s : SSet} {x : Int} (h : shMay s = true) (hx0 : 0 ≤ x) (hx1 : x < s.cores) : shMay (shAddS s x) = true ∧ (shAddS s x).cores = s.cores ∧ (shAddS s x).most = s.most := by
  obtain ⟨m1, m2, m3, m4, m5, m6, m7, m8⟩ := may_facts' h
  have e1 : shAddE s x = 0 := by simp only [shAddE, h, if_true]; rw [if_neg (by omega)]
  unfold shAddS
  rw [if_pos e1]
  cases hh : shHas s x with
  | true => exact ⟨h, rfl, rfl⟩
  | false =>
    rw [if_neg Bool.false_ne_true]
    by_cases hf : (s.ps.length : Int) = s.most
    · rw [if_pos hf]
      exact ⟨may_mk m1 m2 m3 m4 (by simpa using m3) (fun _ => rfl) List.Pairwise.nil (fun c hc => by cases hc), rfl, rfl⟩
    · rw [if_neg hf]
      have hal := not_has_all hx0 hx1 hh
      have hx : ¬ x ∈ s.ps := by simpa [shHas, hal] using hh
      refine ⟨may_mk m1 m2 m3 m4 ?_ ?_ (insL_sorted m7 hx) ?_, rfl, rfl⟩
      · simp only [insL_len]; omega
      · intro h; dsimp only at h; rw [hal] at h; cases h
      · intro c hc
        rcases (insL_mem x c s.ps).1 hc with rfl | hc
        · exact ⟨hx0, hx1⟩
        · exact m8 c hc
/-- What a set is, of those that were added. -/
def SIn (s : SSet) (mp : List (Int × Bool)) : Prop := (s.all = false ∧ ∀ x, x ∈ s.ps ↔ (mget mp x).isSome = true) ∨ (s.all = true ∧ s.most < (mkeys mp).length ∧ ∀ x, (mget mp x).isSome = true → 0 ≤ x ∧ x < s.cores)
theorem sin_has {s : SSet} {mp : List (Int × Bool)} (h : SIn s mp) {x : Int} (hx : (mget mp x).isSome = true) : shHas s x = true := by
  unfold shHas
  rcases h with ⟨h1, h2⟩ | ⟨h1, _, h3⟩
  · rw [h1, if_neg Bool.false_ne_true]; exact decide_eq_true ((h2 x).2 hx)
  · rw [h1, if_pos rfl]; have := h3 x hx; simp [this]
theorem mset_keys {mp : List (Int × Bool)} (hn : (mkeys mp).Nodup) {x : Int} (hn2 : (mkeys (mset mp x true)).Nodup) : (mkeys (mset mp x true)).length = if (mget mp x).isSome then (mkeys mp).length else (mkeys mp).length + 1 := by
  cases h : (mget mp x).isSome with
  | true =>
    rw [if_pos rfl]
    refine nodup_len hn2 hn fun c => ?_
    rw [mkeys_mget, mkeys_mget, mget_mset]
    by_cases hc : c = x
    · subst hc; simp [h]
    · simp [hc]
  | false =>
    rw [if_neg Bool.false_ne_true]
    have hx : ¬ x ∈ mkeys mp := by rw [mkeys_mget, h]; simp
    have := nodup_len (l := mkeys (mset mp x true)) (m := x :: mkeys mp) hn2 (List.nodup_cons.2 ⟨hx, hn⟩) fun c => by
      rw [mkeys_mget, mget_mset, List.mem_cons, mkeys_mget]
      by_cases hc : c = x
      · subst hc; simp
      · simp [hc]
    simpa using this
theorem sin_add {s : SSet} {mp : List (Int × Bool)} {x : Int} (hm : shMay s = true) (h : SIn s mp) (hx0 : 0 ≤ x) (hx1 : x < s.cores) (hn : (mkeys mp).Nodup) (hn2 : (mkeys (mset mp x true)).Nodup) : SIn (shAddS s x) (mset mp x true) := by
  obtain ⟨m1, m2, m3, m4, m5, m6, m7, m8⟩ := may_facts' hm
  have e1 : shAddE s x = 0 := by simp only [shAddE, hm, if_true]; rw [if_neg (by omega)]
  have hks := mset_keys hn hn2
  unfold shAddS
  rw [if_pos e1]
  rcases h with ⟨h1, h2⟩ | ⟨h1, h2, h3⟩
  · cases hh : shHas s x with
    | true =>
      have hxp : x ∈ s.ps := by simpa [shHas, h1] using hh
      refine .inl ⟨h1, fun c => ?_⟩
      rw [if_pos rfl, mget_mset]
      by_cases hc : c = x
      · subst hc; simp [hxp]
      · simp only [hc, if_false]; exact h2 c
    | false =>
      have hxp : ¬ x ∈ s.ps := by simpa [shHas, h1] using hh
      rw [if_neg Bool.false_ne_true]
      by_cases hf : (s.ps.length : Int) = s.most
      · rw [if_pos hf]
        have hl : s.ps.length = (mkeys mp).length := nodup_len (pw_nodup m7) hn fun c => by rw [mkeys_mget]; exact h2 c
        have hg : (mget mp x).isSome = false := by
          cases hg : (mget mp x).isSome with
          | false => rfl
          | true => exact absurd ((h2 x).2 hg) hxp
        rw [hg, if_neg Bool.false_ne_true] at hks
        refine .inr ⟨rfl, by rw [hks]; dsimp only; omega, fun c hc => ?_⟩
        rw [mget_mset] at hc
        by_cases hcx : c = x
        · subst hcx; exact ⟨hx0, hx1⟩
        · rw [if_neg hcx] at hc; exact m8 c ((h2 c).2 hc)
      · rw [if_neg hf]
        refine .inl ⟨h1, fun c => ?_⟩
        dsimp only
        rw [insL_mem, mget_mset]
        by_cases hc : c = x
        · simp [hc]
        · simp only [hc, if_false, false_or]; exact h2 c
  · have hh : shHas s x = true := by simp [shHas, h1, hx0, hx1]
    rw [hh, if_pos rfl]
    refine .inr ⟨h1, ?_, fun c hc => ?_⟩
    · rw [hks]; split <;> omega
    · rw [mget_mset] at hc
      by_cases hcx : c = x
      · subst hcx; exact ⟨hx0, hx1⟩
      · rw [if_neg hcx] at hc; exact h3 c hc
theorem sin_tgt {s : SSet} {mp : List (Int × Bool)} (hm : shMay s = true) (h : SIn s mp) (hn : (mkeys mp).Nodup) (hle : ((mkeys mp).length : Int) ≤ s.most) : (shTgt s [] s.cores.toNat).length = (mkeys mp).length := by
  obtain ⟨m1, m2, m3, m4, m5, m6, m7, m8⟩ := may_facts' hm
  rcases h with ⟨h1, h2⟩ | ⟨h1, h2, h3⟩
  · refine nodup_len (pw_nodup ((upto_sorted _).sublist List.filter_sublist)) hn fun c => ?_
    rw [mkeys_mget, ← h2, shTgt, List.mem_filter, upto_mem]
    simp only [shHas, h1, Bool.false_eq_true, if_false, List.not_mem_nil, decide_false, Bool.not_false, Bool.and_true, decide_eq_true_eq]
    constructor
    · exact fun h => h.2
    · exact fun h => ⟨by have := m8 c h; omega, h⟩
  · omega
set_option maxRecDepth 100000
set_option maxHeartbeats 4000000
attribute [local irreducible] Go.Exit.then Go.Exit.inBlock Go.Code.wp WC WO WE WQ V LoopQ FnQ Sat Star band bor IntKind.wrap WR Code.rounds WT KO
theorem law08_Has {W : World} {F : List HP} {cores pointers : Int} {v : Value} {l : List Int} (hl : l.length ≤ 9223372036854775807) (k : ROld W 1 v l.length (flat ic l)) :
    FnF Try.prog 7 [.int .i64 cores, .int .i64 pointers, v] [Old W] F (fun r L' => r = .bool true ∧ L' = [Old W]) := by
  have hN := fun F => shr_New (F := F) (cores := cores) (most := pointers)
  refine FnF.mk' Try.func7 rfl rfl Try.ntmps7 rfl ?_
  by_cases h1 : 100 < l.length
  · repeat (first | rintro _ _ ⟨rfl, rfl⟩ | rintro _ _ ⟨_, rfl, rfl⟩ | rintro _ _ ⟨_, _, rfl, rfl⟩ | intro _ | refine go ?_ | (refine is_draw ?_; refine WC_draw mixed (by kernel_rfl) ?_) | refine cal @law08_awake ?_)
    (apply WE_ret rfl rfl (by (repeat (first | exact ResOk.nil | (apply ResOk.tmp; rfl) | (apply resOk_cell; rfl; exact inferInstance; rfl; rfl)))); (first | exact ⟨rfl, rfl⟩ | exact ⟨congrArg Value.bool (by decide), rfl⟩ | exact ⟨_, rfl, rfl⟩ | exact ⟨_, _, rfl, rfl⟩ | exact ⟨by first | (simp []; done) | (simp [] <;> omega), rfl⟩); (repeat (first | exact Ent.refl | exact Ent.nil | apply Ent.pick | apply Ent.drop)))
  · cases e : shMay ⟨cores, pointers, [], false⟩ with
    | false =>
      simp only [e, Bool.false_eq_true, if_false] at hN
      have hM := fun F => shr_May (F := F) (s := .no) (a := none) (k := 0) rd_empty (by simp)
      simp only [show shMay .no = false by decide] at hM
      repeat (first | rintro _ _ ⟨rfl, rfl⟩ | rintro _ _ ⟨_, rfl, rfl⟩ | rintro _ _ ⟨_, _, rfl, rfl⟩ | intro _ | refine go ?_ | (refine is_draw ?_; refine WC_draw mixed (by kernel_rfl) ?_) | refine cal @law08_awake ?_ | refine cal @hN ?_ | refine cal @hM ?_)
      (apply WE_ret rfl rfl (by (repeat (first | exact ResOk.nil | (apply ResOk.tmp; rfl) | (apply resOk_cell; rfl; exact inferInstance; rfl; rfl)))); (first | exact ⟨rfl, rfl⟩ | exact ⟨congrArg Value.bool (by decide), rfl⟩ | exact ⟨_, rfl, rfl⟩ | exact ⟨_, _, rfl, rfl⟩ | exact ⟨by first | (simp []; done) | (simp [] <;> omega), rfl⟩); (repeat (first | exact Ent.refl | exact Ent.nil | apply Ent.pick | apply Ent.drop)))
    | true =>
      simp only [e, if_true] at hN
      repeat (first | rintro _ _ ⟨rfl, rfl⟩ | rintro _ _ ⟨_, rfl, rfl⟩ | rintro _ _ ⟨_, _, rfl, rfl⟩ | intro _ | refine go ?_ | (refine is_draw ?_; refine WC_draw mixed (by kernel_rfl) ?_) | refine cal @law08_awake ?_ | refine cal @hN ?_)
      rename_i bs bm
      apply WC_loopE (E0 := [(0, _), (1, _), (7, _), (9, _), (32, _), (33, _)]) (fun E0 (q : Nat × SSet × Option Addr × Nat × List (Int × Bool)) => (34, .int .i64 q.1) :: E0)
        (fun q => MapAt bm blv q.2.2.2.2 :: Own 3 1 (.slice q.2.2.1 q.2.1.ps.length q.2.2.2.1) q.2.1.ps.length (flat ic q.2.1.ps) :: Cells bs 41 (scl q.2.1 q.2.2.1 q.2.2.2.1) :: Old W :: F)
        (fun q => q.1 ≤ l.length ∧ shMay q.2.1 = true ∧ q.2.1.cores = cores ∧ q.2.1.most = pointers ∧ SIn q.2.1 q.2.2.2.2) (fun q => l.length - q.1) (0, ⟨cores, pointers, [], false⟩, none, 0, [])
      · (repeat (first | exact Sub.nil | (refine Sub.cons (by first | rfl | (simp only [Nat.zero_add]; rfl)) ?_)))
      · exact ⟨Nat.zero_le _, e, rfl, rfl, .inl ⟨rfl, fun x => by simp [mget_nil]⟩⟩
      · dsimp only
        refine Ent.trans ?_ (Ent.cons (own_empty Ent.refl))
        (repeat (first | (with_reducible exact Ent.refl) | exact Ent.nil | (apply ent_pickE; (focus ((repeat (first | (with_reducible exact pk_here) | (apply pk_there))); done))) | apply Ent.drop))
      · rintro ⟨i, s, a, k', mp⟩ ⟨hi, hm, hc, hp, hin⟩
        dsimp only at hi hm hc hp hin ⊢
        obtain ⟨m1, m2, m3, m4, m5, m6, m7, m8⟩ := may_facts' hm
        by_cases hlt : i < l.length
        · have hA := fun F (hk : RdL F 1 (.slice a s.ps.length k') s.ps.length (flat ic s.ps)) => shr_Add (F := F) (x := l[i]) hk (by omega)
          by_cases hr : l[i] < 0 ∨ s.cores ≤ l[i]
          · have e1 : shAddE s l[i] = 5 := by simp only [shAddE, hm, if_true, if_pos hr]
            have e2 : shAddS s l[i] = .no := by simp [shAddS, e1]
            simp only [e1, e2] at hA
            by_cases h0 : l[i] < 0
            · repeat (first | rintro _ _ ⟨rfl, rfl⟩ | rintro _ _ ⟨_, rfl, rfl⟩ | rintro _ _ ⟨_, _, rfl, rfl⟩ | intro _ | refine go ?_ | (refine is_draw ?_; refine WC_draw mixed (by kernel_rfl) ?_) | refine cal @hA ?_)
              refine WE_loop (i + 1, s, a, k', mp) (by dsimp only; omega) ⟨by dsimp only; omega, hm, hc, hp, hin⟩ ?_ ?_
              · (repeat (first | exact Sub.nil | (refine Sub.cons (by first | rfl | (simp only [Nat.zero_add]; rfl)) ?_)))
              · (repeat (first | (with_reducible exact Ent.refl) | exact Ent.nil | (apply ent_pickE; (focus ((repeat (first | (with_reducible exact pk_here) | (apply pk_there))); done))) | apply Ent.drop))
            · repeat (first | rintro _ _ ⟨rfl, rfl⟩ | rintro _ _ ⟨_, rfl, rfl⟩ | rintro _ _ ⟨_, _, rfl, rfl⟩ | intro _ | refine go ?_ | (refine is_draw ?_; refine WC_draw mixed (by kernel_rfl) ?_) | refine cal @hA ?_)
              refine WE_loop (i + 1, s, a, k', mp) (by dsimp only; omega) ⟨by dsimp only; omega, hm, hc, hp, hin⟩ ?_ ?_
              · (repeat (first | exact Sub.nil | (refine Sub.cons (by first | rfl | (simp only [Nat.zero_add]; rfl)) ?_)))
              · (repeat (first | (with_reducible exact Ent.refl) | exact Ent.nil | (apply ent_pickE; (focus ((repeat (first | (with_reducible exact pk_here) | (apply pk_there))); done))) | apply Ent.drop))
          · have e1 : shAddE s l[i] = 0 := by simp only [shAddE, hm, if_true, if_neg hr]
            simp only [e1] at hA
            obtain ⟨n1, n2, n3⟩ := may_add hm (x := l[i]) (by omega) (by omega)
            repeat (first | rintro _ _ ⟨rfl, rfl⟩ | rintro _ _ ⟨_, rfl, rfl⟩ | rintro _ _ ⟨_, _, rfl, rfl⟩ | intro _ | refine go ?_)
            (first | refine WO_front (MapAt bm blv mp) ?_ | refine WC_front (MapAt bm blv mp) ?_ | refine WE_front (MapAt bm blv mp) ?_)
            refine WO_mapnd fun hnd => ?_
            repeat (first | rintro _ _ ⟨rfl, rfl⟩ | rintro _ _ ⟨_, rfl, rfl⟩ | rintro _ _ ⟨_, _, rfl, rfl⟩ | intro _ | refine go ?_ | refine cal @hA ?_)
            (first | refine WO_front (MapAt bm blv (mset mp l[i] true)) ?_ | refine WC_front (MapAt bm blv (mset mp l[i] true)) ?_ | refine WE_front (MapAt bm blv (mset mp l[i] true)) ?_)
            refine WO_mapnd fun hnd2 => ?_
            have hin2 := sin_add hm hin (x := l[i]) (by omega) (by omega) hnd hnd2
            have hml : (mset mp l[i] true).length = (mkeys (mset mp l[i] true)).length := by simp [mkeys]
            have htl := fun h => sin_tgt n1 hin2 hnd2 h
            have hsh := fun x hx => sin_has hin2 (x := x) hx
            rename_i a2 k2 b2
            generalize shAddS s l[i] = s2 at *
            generalize mset mp l[i] true = mp2 at *
            have hM := fun F (hk : RdL F 1 (.slice a2 s2.ps.length k2) s2.ps.length (flat ic s2.ps)) => shr_May (F := F) hk (by have := (may_facts' n1).2.2; omega)
            simp only [n1] at hM
            apply WO_k
            rfl
            apply K_range
            rfl
            rfl
            refine fresh_intro ?_
            intro it
            repeat (first | rintro _ _ ⟨rfl, rfl⟩ | rintro _ _ ⟨_, rfl, rfl⟩ | rintro _ _ ⟨_, _, rfl, rfl⟩ | intro _ | refine go ?_)
            apply WC_loopE (E0 := [(0, _), (1, _), (7, _), (9, _), (32, _), (33, _), (34, _), (61, _)]) (fun E0 (q : Option (Int × Bool) × Nat) => E0) (fun q => MapIt bm it blv mp2 q.1 q.2 :: Own 3 1 (.slice a2 s2.ps.length k2) s2.ps.length (flat ic s2.ps) :: Cells bs 41 (scl s2 a2 k2) :: Old W :: F) (fun _ => True) (fun q => q.2) (none, mp2.length)
            · (repeat (first | exact Sub.nil | (refine Sub.cons (by first | rfl | (simp only [Nat.zero_add]; rfl)) ?_)))
            · trivial
            · dsimp only; (repeat (first | (with_reducible exact Ent.refl) | exact Ent.nil | (apply ent_pickE; (focus ((repeat (first | (with_reducible exact pk_here) | (apply pk_there))); done))) | apply Ent.drop))
            · rintro ⟨cur, n⟩ _
              dsimp only
              repeat (first | rintro _ _ ⟨rfl, rfl⟩ | rintro _ _ ⟨_, rfl, rfl⟩ | rintro _ _ ⟨_, _, rfl, rfl⟩ | intro _ | refine go ?_)
              apply WO_next
              rfl
              exact inferInstance
              rfl
              · intro x u n' hku hn
                have hg : (mget mp2 x).isSome = true := by rw [mem_mget hnd2 hku]; rfl
                have hHs := hsh x hg
                have hH := fun F (hk : RdL F 1 (.slice a2 s2.ps.length k2) s2.ps.length (flat ic s2.ps)) => shr_Has (F := F) (c := x) hk n1
                simp only [hHs] at hH
                repeat (first | rintro _ _ ⟨rfl, rfl⟩ | rintro _ _ ⟨_, rfl, rfl⟩ | rintro _ _ ⟨_, _, rfl, rfl⟩ | intro _ | refine go ?_ | (refine is_draw ?_; refine WC_draw mixed (by kernel_rfl) ?_) | refine cal @hH ?_)
                refine WE_loop (some (x, u), n') (by dsimp only; omega) trivial ?_ ?_
                · (repeat (first | exact Sub.nil | (refine Sub.cons (by first | rfl | (simp only [Nat.zero_add]; rfl)) ?_)))
                · dsimp only; (repeat (first | (with_reducible exact Ent.refl) | exact Ent.nil | (apply ent_pickE; (focus ((repeat (first | (with_reducible exact pk_here) | (apply pk_there))); done))) | apply Ent.drop))
              · have hT := fun F (hk : RdL F 1 (.slice a2 s2.ps.length k2) s2.ps.length (flat ic s2.ps)) => shr_Targets (F := F) (u := .slice none 0 0) (but := []) hk n1 rd_empty (by simp)
                by_cases hle : (mp2.length : Int) ≤ pointers
                · have htl2 := htl (by omega)
                  have heq : ((shTgt s2 [] s2.cores.toNat).length : Int) = (mp2.length : Nat) := by omega
                  repeat (first | rintro _ _ ⟨rfl, rfl⟩ | rintro _ _ ⟨_, rfl, rfl⟩ | rintro _ _ ⟨_, _, rfl, rfl⟩ | intro _ | refine go ?_ | refine cal @hM ?_)
                  (first | refine WO_ent (mapIt_in) ?_ | refine WC_ent' (mapIt_in) ?_ | refine WE_ent' (mapIt_in) ?_)
                  repeat (first | rintro _ _ ⟨rfl, rfl⟩ | rintro _ _ ⟨_, rfl, rfl⟩ | rintro _ _ ⟨_, _, rfl, rfl⟩ | intro _ | refine go ?_ | (refine is_draw ?_; refine WC_draw mixed (by kernel_rfl) ?_) | refine cal @hM ?_ | refine cal @hT ?_)
                  refine WE_loop (i + 1, s2, a2, k2, mp2) (by dsimp only; omega) ⟨by dsimp only; omega, n1, by dsimp only; omega, by dsimp only; omega, hin2⟩ ?_ ?_
                  · (repeat (first | exact Sub.nil | (refine Sub.cons (by first | rfl | (simp only [Nat.zero_add]; rfl)) ?_)))
                  · dsimp only; (repeat (first | (with_reducible exact Ent.refl) | exact Ent.nil | (apply ent_pickE; (focus ((repeat (first | (with_reducible exact pk_here) | (apply pk_there))); done))) | apply Ent.drop))
                · repeat (first | rintro _ _ ⟨rfl, rfl⟩ | rintro _ _ ⟨_, rfl, rfl⟩ | rintro _ _ ⟨_, _, rfl, rfl⟩ | intro _ | refine go ?_ | refine cal @hM ?_)
                  (first | refine WO_ent (mapIt_in) ?_ | refine WC_ent' (mapIt_in) ?_ | refine WE_ent' (mapIt_in) ?_)
                  repeat (first | rintro _ _ ⟨rfl, rfl⟩ | rintro _ _ ⟨_, rfl, rfl⟩ | rintro _ _ ⟨_, _, rfl, rfl⟩ | intro _ | refine go ?_ | (refine is_draw ?_; refine WC_draw mixed (by kernel_rfl) ?_) | refine cal @hM ?_ | refine cal @hT ?_)
                  refine WE_loop (i + 1, s2, a2, k2, mp2) (by dsimp only; omega) ⟨by dsimp only; omega, n1, by dsimp only; omega, by dsimp only; omega, hin2⟩ ?_ ?_
                  · (repeat (first | exact Sub.nil | (refine Sub.cons (by first | rfl | (simp only [Nat.zero_add]; rfl)) ?_)))
                  · dsimp only; (repeat (first | (with_reducible exact Ent.refl) | exact Ent.nil | (apply ent_pickE; (focus ((repeat (first | (with_reducible exact pk_here) | (apply pk_there))); done))) | apply Ent.drop))
        · have hcl : shMay ⟨s.cores, s.most, [], false⟩ = true := may_mk m1 m2 m3 m4 (by simpa using m3) (fun h => by cases h) List.Pairwise.nil (fun c hc => by cases hc)
          have hT := fun F => shr_Targets (F := F) (s := ⟨s.cores, s.most, [], false⟩) (a := none) (k := 0) (u := .slice none 0 0) (but := []) rd_empty hcl rd_empty (by simp)
          have hz : (shTgt ⟨s.cores, s.most, [], false⟩ [] s.cores.toNat).length = 0 := by simp [shTgt, shHas]
          simp only [hz] at hT
          repeat (first | rintro _ _ ⟨rfl, rfl⟩ | rintro _ _ ⟨_, rfl, rfl⟩ | rintro _ _ ⟨_, _, rfl, rfl⟩ | intro _ | refine go ?_ | (refine is_draw ?_; refine WC_draw mixed (by kernel_rfl) ?_) | refine cal @shr_Clear ?_ | refine cal @hT ?_)
          (apply WE_ret rfl rfl (by (repeat (first | exact ResOk.nil | (apply ResOk.tmp; rfl) | (apply resOk_cell; rfl; exact inferInstance; rfl; rfl)))); (first | exact ⟨rfl, rfl⟩ | exact ⟨congrArg Value.bool (by decide), rfl⟩ | exact ⟨_, rfl, rfl⟩ | exact ⟨_, _, rfl, rfl⟩ | exact ⟨by first | (simp []; done) | (simp [] <;> omega), rfl⟩); (repeat (first | exact Ent.refl | exact Ent.nil | apply Ent.pick | apply Ent.drop)))
end Go.Sx
