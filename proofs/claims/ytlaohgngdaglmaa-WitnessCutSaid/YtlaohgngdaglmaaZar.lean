/- WiRead, MaP2, Wi: several of my texts as one. My own work. -/
import Derived.Test.YtlaohgngdaglmaaZaa
import Derived.Test.YtlaohgngdaglmaaZaq
import Derived.Test.YtlaohgngdaglmaaZaf
import Derived.Test.YtlaohgngdaglmaaZae
/- Programs and commits, read. My own work. -/
namespace Go.Sx
open Go Go.Proofs Go.ChangeShapes Go.WideShapes
set_option linter.unusedVariables false
theorem slice_shape {W : World} {sz : Nat} {v : Value} {n : Nat} {xs : List Value} (k : ROld W sz v n xs) : ∃ a c, v = .slice a n c := by
  rcases k.pf with ⟨q, c, h1, h2⟩ | ⟨b, o, c, h1, _⟩
  · exact ⟨q, c, by rw [h1, h2]⟩
  · exact ⟨_, c, h1⟩
/-- A program, in what was handed in. -/
def PrQ.ok (W : World) (p : PrQ) : Prop := ROld W 3 (.slice p.2.1 p.1.length p.2.2) p.1.length (flat oc p.1) ∧ (∀ x ∈ p.1, x.wf) ∧ p.1.length ≤ 1000000000000000
theorem rd_PrQ {H : Type} (enc : TypeId × Value → H) (W : World) {cs : List Value} (h : LeafsOkS enc Try.prog W [.other 82] cs) : ∃ x : PrQ, x.ok W ∧ cs = prc x ∧ (prc x).all one = true := by
  obtain ⟨c, cs, rfl, hc, h⟩ := leafsS_cons enc _ W h
  obtain rfl := leafsS_nil enc _ W h
  obtain ⟨a, m, e, x, p, rfl, ht, hsm⟩ := leafS_slice enc _ W (e := 39) Try.underlying82 hc
  obtain ⟨xs, hx, kx, lx, bx⟩ := read_listS enc Try.prog W (d := 6) (encA := oc) (wf := Op3.wf) (ks := List.replicate 3 (.int .i64)) Try.underlying82 (by kernel_rfl) (by kernel_rfl) (by decide) (fun cs h => rd_Op3 enc _ W (leafsS_plain enc _ W h)) ⟨a, m, e, rfl⟩ ht hsm
  have hb : Try.prog.bytesOf 39 = 24 := by kernel_rfl
  have hr : reachBytes = 140737488351232 := rfl
  rw [hb, hr] at bx
  obtain ⟨a', c', hv⟩ := slice_shape kx
  rw [hv] at kx ⊢
  exact ⟨(xs, a', c'), ⟨kx, hx, by dsimp only; omega⟩, rfl, rfl⟩
def Com.wf (x : Com) : Prop := I64 x.core ∧ I64 x.pos ∧ x.op.wf ∧ I64 x.res
theorem rd_Com {H : Type} (enc : TypeId × Value → H) (W : World) {cs : List Value} (h : LeafsOkS enc Try.prog W (List.replicate 6 (.int .i64)) cs) : ∃ x : Com, x.wf ∧ cs = cmc x ∧ (cmc x).all one = true := by
  simp only [List.replicate] at h
  obtain ⟨a0, cs, rfl, w0, h⟩ := leafsS_int enc _ W h
  obtain ⟨a1, cs, rfl, w1, h⟩ := leafsS_int enc _ W h
  obtain ⟨a2, cs, rfl, w2, h⟩ := leafsS_int enc _ W h
  obtain ⟨a3, cs, rfl, w3, h⟩ := leafsS_int enc _ W h
  obtain ⟨a4, cs, rfl, w4, h⟩ := leafsS_int enc _ W h
  obtain ⟨a5, cs, rfl, w5, h⟩ := leafsS_int enc _ W h
  obtain rfl := leafsS_nil enc _ W h
  exact ⟨⟨a0, a1, ⟨a2, a3, a4⟩, a5⟩, ⟨w0, w1, ⟨w2, w3, w4⟩, w5⟩, rfl, rfl⟩
end Go.Sx

/- A machine in memory: its caches, its homes. My own work. -/
namespace Go.Sx
open Go Go.Proofs
set_option linter.unusedVariables false
set_option linter.unusedSectionVars false
set_option linter.unusedSimpArgs false
/-- A machine without its i-th cache; without its i-th home; without its net. -/
def MaQc (b : Nat) (c : Cfg) (s : MaS) (x : MaX) (i : Nat) : HP := All [Cells b 129 (mac c s.odd x.kb.length x.ab.length x.hb.length s.tr.length x.pk x.pa x.ph x.pt x.bn),
  Own 130 1 (.slice x.pk.1 x.kb.length x.pk.2) x.kb.length (flat pvc x.kb), Own 133 1 (.slice x.pa.1 x.ab.length x.pa.2) x.ab.length (flat pvc x.ab), Own 45 1 (.slice x.ph.1 x.hb.length x.ph.2) x.hb.length (flat pvc x.hb),
  NetP x.bn c s.n, Own 41 6 (.slice x.pt.1 s.tr.length x.pt.2) s.tr.length (flat cmc s.tr), All ((List.range x.kb.length).map (corH x s)), All (((List.range x.ab.length).eraseIdx i).map (cacH c x s)), All ((List.range x.hb.length).map (homH c x s)), Fact (MaF c s x)]
def MaQh (b : Nat) (c : Cfg) (s : MaS) (x : MaX) (i : Nat) : HP := All [Cells b 129 (mac c s.odd x.kb.length x.ab.length x.hb.length s.tr.length x.pk x.pa x.ph x.pt x.bn),
  Own 130 1 (.slice x.pk.1 x.kb.length x.pk.2) x.kb.length (flat pvc x.kb), Own 133 1 (.slice x.pa.1 x.ab.length x.pa.2) x.ab.length (flat pvc x.ab), Own 45 1 (.slice x.ph.1 x.hb.length x.ph.2) x.hb.length (flat pvc x.hb),
  NetP x.bn c s.n, Own 41 6 (.slice x.pt.1 s.tr.length x.pt.2) s.tr.length (flat cmc s.tr), All ((List.range x.kb.length).map (corH x s)), All ((List.range x.ab.length).map (cacH c x s)), All (((List.range x.hb.length).eraseIdx i).map (homH c x s)), Fact (MaF c s x)]
theorem getD_set {α : Type} {l : List α} {i j : Nat} {a d : α} : (l.set i a).getD j d = if j = i ∧ i < l.length then a else l.getD j d := by
  rw [List.getD_eq_getElem?_getD, List.getElem?_set, List.getD_eq_getElem?_getD]
  by_cases h : i = j
  · subst h
    by_cases h2 : i < l.length <;> simp [h2]
  · rw [if_neg h, if_neg (fun g => h g.1.symm)]
theorem maqc_out {b : Nat} {c : Cfg} {s : MaS} {x : MaX} {i : Nat} {L : List HP} (hi : i < x.ab.length) : Ent (MaQ b c s x :: L) (cacH c x s i :: MaQc b c s x i :: L) := by
  refine Ent.trans all_open (Ent.trans ?_ (Ent.cons all_close))
  show Ent (_ :: _ :: _ :: _ :: _ :: _ :: _ :: All _ :: _ :: _ :: L) (_ :: _ :: _ :: _ :: _ :: _ :: _ :: _ :: All _ :: _ :: _ :: L)
  refine Ent.trans (Ent.cons (Ent.cons (Ent.cons (Ent.cons (Ent.cons (Ent.cons (Ent.cons (rng_take hi)))))))) ?_
  exact ent_perm (List.perm_middle (l₁ := [_, _, _, _, _, _, _]) (l₂ := All _ :: _ :: _ :: L)).symm.symm
theorem maqh_out {b : Nat} {c : Cfg} {s : MaS} {x : MaX} {i : Nat} {L : List HP} (hi : i < x.hb.length) : Ent (MaQ b c s x :: L) (homH c x s i :: MaQh b c s x i :: L) := by
  refine Ent.trans all_open (Ent.trans ?_ (Ent.cons all_close))
  refine Ent.trans (Ent.cons (Ent.cons (Ent.cons (Ent.cons (Ent.cons (Ent.cons (Ent.cons (Ent.cons (rng_take hi))))))))) ?_
  exact ent_perm (List.perm_middle (l₁ := [_, _, _, _, _, _, _, _]) (l₂ := All _ :: _ :: L)).symm.symm
theorem maqc_in {b : Nat} {c : Cfg} {s : MaS} {x : MaX} {i : Nat} {k : CaS} {L M : List HP} (h : Ent L (CaP (x.ab.getD i 0) c (i : Int) k :: MaQc b c s x i :: M)) (hi : i < x.ab.length) (hl : s.cs.length = x.ab.length) : Ent L (MaQ b c (maAs s i k) x :: M) := by
  refine Ent.trans h (Ent.trans (Ent.cons all_open) (Ent.trans ?_ all_close))
  refine Ent.trans (ent_perm (List.perm_middle (l₁ := [_, _, _, _, _, _, _]) (l₂ := All _ :: _ :: _ :: M)).symm) ?_
  refine Ent.cons (Ent.cons (Ent.cons (Ent.cons (Ent.cons (Ent.cons (Ent.cons ?_))))))
  have e : CaP (x.ab.getD i 0) c (i : Int) k = cacH c x (maAs s i k) i := by
    unfold cacH maAs; dsimp only
    rw [Int.toNat_natCast, getD_set, if_pos ⟨rfl, by omega⟩]
  rw [e]
  refine Ent.trans (rng_put (g := cacH c x (maAs s i k)) hi fun j hj hne => ?_) (Ent.cons (Ent.cons ?_))
  · unfold cacH maAs; dsimp only
    rw [Int.toNat_natCast, getD_set, if_neg (fun h => hne h.1)]
  · intro w hw
    have hf := fact_of hw
    exact star_fact_mk (by
      obtain ⟨⟨a1, a2, a3⟩, a4, a5⟩ := hf
      refine ⟨⟨a1, ?_, a3⟩, a4, a5⟩
      unfold maAs; dsimp only; rw [List.length_set]; exact a2) _ (star_drop hw)
theorem maqh_in {b : Nat} {c : Cfg} {s : MaS} {x : MaX} {i : Nat} {k : HomS} {L M : List HP} (h : Ent L (HomP (x.hb.getD i 0) c (i : Int) k :: MaQh b c s x i :: M)) (hi : i < x.hb.length) (hl : s.hs.length = x.hb.length) : Ent L (MaQ b c (maHs s i k) x :: M) := by
  refine Ent.trans h (Ent.trans (Ent.cons all_open) (Ent.trans ?_ all_close))
  refine Ent.trans (ent_perm (List.perm_middle (l₁ := [_, _, _, _, _, _, _, _]) (l₂ := All _ :: _ :: M)).symm) ?_
  refine Ent.cons (Ent.cons (Ent.cons (Ent.cons (Ent.cons (Ent.cons (Ent.cons (Ent.cons ?_)))))))
  have e : HomP (x.hb.getD i 0) c (i : Int) k = homH c x (maHs s i k) i := by
    unfold homH maHs; dsimp only
    rw [Int.toNat_natCast, getD_set, if_pos ⟨rfl, by omega⟩]
  rw [e]
  refine Ent.trans (rng_put (g := homH c x (maHs s i k)) hi fun j hj hne => ?_) (Ent.cons ?_)
  · unfold homH maHs; dsimp only
    rw [Int.toNat_natCast, getD_set, if_neg (fun h => hne h.1)]
  · intro w hw
    have hf := fact_of hw
    exact star_fact_mk (by
      obtain ⟨⟨a1, a2, a3⟩, a4, a5⟩ := hf
      refine ⟨⟨a1, a2, ?_⟩, a4, a5⟩
      unfold maHs; dsimp only; rw [List.length_set]; exact a3) _ (star_drop hw)
theorem maAs_self {s : MaS} {i : Nat} : maAs s i (s.cs.getD i caZ) = s := by
  have : s.cs.set i (s.cs.getD i caZ) = s.cs := by
    by_cases h : i < s.cs.length
    · rw [List.getD_eq_getElem?_getD, List.getElem?_eq_getElem h]; simp
    · rw [List.set_eq_of_length_le (by omega)]
  unfold maAs; rw [Int.toNat_natCast, this]
theorem maHs_self {s : MaS} {i : Nat} : maHs s i (s.hs.getD i hmZ) = s := by
  have : s.hs.set i (s.hs.getD i hmZ) = s.hs := by
    by_cases h : i < s.hs.length
    · rw [List.getD_eq_getElem?_getD, List.getElem?_eq_getElem h]; simp
    · rw [List.set_eq_of_length_le (by omega)]
  unfold maHs; rw [Int.toNat_natCast, this]
theorem maqc_back {b : Nat} {c : Cfg} {s : MaS} {x : MaX} {i : Nat} {L M : List HP} (h : Ent L (CaP (x.ab.getD i 0) c (i : Int) (s.cs.getD i caZ) :: MaQc b c s x i :: M)) (hi : i < x.ab.length) (hl : s.cs.length = x.ab.length) : Ent L (MaQ b c s x :: M) := by
  have := maqc_in h hi hl; rwa [maAs_self] at this
theorem maqh_back {b : Nat} {c : Cfg} {s : MaS} {x : MaX} {i : Nat} {L M : List HP} (h : Ent L (HomP (x.hb.getD i 0) c (i : Int) (s.hs.getD i hmZ) :: MaQh b c s x i :: M)) (hi : i < x.hb.length) (hl : s.hs.length = x.hb.length) : Ent L (MaQ b c s x :: M) := by
  have := maqh_in h hi hl; rwa [maHs_self] at this
section
variable {b : Nat} {c : Cfg} {s : MaS} {x : MaX} {P : Program} {N : Nat} {env : Env} {L : List HP} {Q : Exit → Act → World → Prop}
theorem maqc_openO {all : Array Oper} {o : List Oper} (i : Nat) (hi : i < x.ab.length) (h : WO P N all o env (CaP (x.ab.getD i 0) c (i : Int) (s.cs.getD i caZ) :: MaQc b c s x i :: L) Q) : WO P N all o env (MaQ b c s x :: L) Q := fun a w ha hw => h a w ha ((maqc_out hi).sat hw)
theorem maqh_openO {all : Array Oper} {o : List Oper} (i : Nat) (hi : i < x.hb.length) (h : WO P N all o env (HomP (x.hb.getD i 0) c (i : Int) (s.hs.getD i hmZ) :: MaQh b c s x i :: L) Q) : WO P N all o env (MaQ b c s x :: L) Q := fun a w ha hw => h a w ha ((maqh_out hi).sat hw)
theorem maqc_open {o : Code} (i : Nat) (hi : i < x.ab.length) (h : WC P N o env (CaP (x.ab.getD i 0) c (i : Int) (s.cs.getD i caZ) :: MaQc b c s x i :: L) Q) : WC P N o env (MaQ b c s x :: L) Q := fun a w ha hw => h a w ha ((maqc_out hi).sat hw)
theorem maqh_open {o : Code} (i : Nat) (hi : i < x.hb.length) (h : WC P N o env (HomP (x.hb.getD i 0) c (i : Int) (s.hs.getD i hmZ) :: MaQh b c s x i :: L) Q) : WC P N o env (MaQ b c s x :: L) Q := fun a w ha hw => h a w ha ((maqh_out hi).sat hw)
theorem maq_fact {o : Code} (h : MaF c s x → WC P N o env (MaQ b c s x :: L) Q) : WC P N o env (MaQ b c s x :: L) Q := fun a w ha hw => h (maq_out hw).1 a w ha hw
theorem maq_factO {all : Array Oper} {o : List Oper} (h : MaF c s x → WO P N all o env (MaQ b c s x :: L) Q) : WO P N all o env (MaQ b c s x :: L) Q := fun a w ha hw => h (maq_out hw).1 a w ha hw
end
theorem pv_get {l : List Nat} {i : Nat} (hi : i < l.length) : (flat pvc l)[0 + i * 1]? = some (.pointer (some ⟨l.getD i 0, 0, none⟩)) := by
  rw [List.getD_eq_getElem?_getD, List.getElem?_eq_getElem hi]
  have : flat pvc l = l.map fun n => .pointer (some ⟨n, 0, none⟩) := by
    induction l with
    | nil => rfl
    | cons a r ih =>
      by_cases h : i - 1 < r.length
      · show pvc a ++ flat pvc r = _
        have e : ∀ r : List Nat, flat pvc r = r.map fun n => .pointer (some ⟨n, 0, none⟩) := fun r => by
          induction r with
          | nil => rfl
          | cons a r ih => show pvc a ++ flat pvc r = _; rw [ih]; rfl
        rw [e]; rfl
      · show pvc a ++ flat pvc r = _
        have e : ∀ r : List Nat, flat pvc r = r.map fun n => .pointer (some ⟨n, 0, none⟩) := fun r => by
          induction r with
          | nil => rfl
          | cons a r ih => show pvc a ++ flat pvc r = _; rw [ih]; rfl
        rw [e]; rfl
  rw [this, Nat.zero_add, Nat.mul_one, List.getElem?_map, List.getElem?_eq_getElem hi]
  rfl
theorem maq_same {b : Nat} {c : Cfg} {s : MaS} {x : MaX} {L M : List HP} (h : Ent L (MaO b c s x M)) (hf : MaF c s x) : Ent L (MaQ b c s x :: M) := maq_in h hf ⟨rfl, rfl, rfl, rfl, rfl⟩ rfl rfl rfl rfl rfl rfl rfl rfl
set_option maxRecDepth 100000
set_option maxHeartbeats 4000000
attribute [local irreducible] Go.Exit.then Go.Exit.inBlock Go.Code.wp WC WO WE WQ V LoopQ FnQ Sat Star band bor IntKind.wrap WR Code.rounds WT KO
theorem ma_Cache {F : List HP} {b : Nat} {c : Cfg} {s : MaS} {x : MaX} {i : Nat} (hi : i < x.ab.length) : FnF Try.prog 54 [.pointer (some ⟨b, 0, none⟩), .int .i64 i] [MaQ b c s x] F
    (fun r L' => r = .pointer (some ⟨x.ab.getD i 0, 0, none⟩) ∧ L' = [MaQ b c s x]) := by
  have hg := pv_get hi
  have h0 : 0 ≤ (i : Int) ∧ (i : Int) < x.ab.length := by omega
  have h1 : ¬ ¬ (0 ≤ (i : Int) ∧ (i : Int) < x.ab.length) := fun h => h h0
  refine FnF.mk' Try.func54 rfl rfl Try.ntmps54 rfl ?_
  refine maq_open fun hf => ?_
  repeat (first | rintro _ _ ⟨rfl, rfl⟩ | refine exq fun _ => ?_ | intro _ | refine go ?_ | refine drq ?_ | refine cal @ma_within ?_)
  (apply WE_ret rfl rfl (by (repeat (first | exact ResOk.nil | (apply ResOk.tmp; rfl) | (apply resOk_cell; rfl; exact inferInstance; rfl; rfl)))))
  · exact ⟨by simp [hi], rfl⟩
  · refine maq_same ?_ hf
    exact entu0
theorem ma_Home {F : List HP} {b : Nat} {c : Cfg} {s : MaS} {x : MaX} {i : Nat} (hi : i < x.hb.length) : FnF Try.prog 53 [.pointer (some ⟨b, 0, none⟩), .int .i64 i] [MaQ b c s x] F
    (fun r L' => r = .pointer (some ⟨x.hb.getD i 0, 0, none⟩) ∧ L' = [MaQ b c s x]) := by
  have hg := pv_get hi
  have h0 : 0 ≤ (i : Int) ∧ (i : Int) < x.hb.length := by omega
  have h1 : ¬ ¬ (0 ≤ (i : Int) ∧ (i : Int) < x.hb.length) := fun h => h h0
  refine FnF.mk' Try.func53 rfl rfl Try.ntmps53 rfl ?_
  refine maq_open fun hf => ?_
  repeat (first | rintro _ _ ⟨rfl, rfl⟩ | refine exq fun _ => ?_ | intro _ | refine go ?_ | refine drq ?_ | refine cal @ma_within ?_)
  (apply WE_ret rfl rfl (by (repeat (first | exact ResOk.nil | (apply ResOk.tmp; rfl) | (apply resOk_cell; rfl; exact inferInstance; rfl; rfl)))))
  · exact ⟨by simp [hi], rfl⟩
  · refine maq_same ?_ hf
    exact entu0
end Go.Sx

/- What witnesses do, told of lists. My own work. -/
namespace Go.Sx
open Go Go.Proofs
set_option linter.unusedVariables false
set_option linter.unusedSectionVars false
set_option linter.unusedSimpArgs false
/-! ## The last word of a line -/
def fin1 (c : Cfg) (cs : List CaS) (line : Int) : Option Words := (cs.find? fun k => decide (2 ≤ (findW c k.ways line).st)).map fun k => (findW c k.ways line).words
def liveB (line : Int) (e : WbE) : Bool := decide (e.line = line) && e.live
def fin2 (cs : List CaS) (line : Int) : Option Words := (cs.findSome? fun k => k.buf.find? (liveB line)).map (·.words)
def finL (c : Cfg) (s : MaS) (line : Int) : Words := match fin1 c s.cs line with | some w => w | none => match fin2 s.cs line with | some w => w | none => hmLine c (maH s (lineH c line)) line
def finV (c : Cfg) (s : MaS) (addr : Int) : Int := if okAddr c addr then (finL c s (addrL c addr)).list.getD (addrW c addr).toNat 0 else 0
theorem fin1_no {c : Cfg} {cs : List CaS} {line : Int} (h : ∀ i (hi : i < cs.length), ¬ 2 ≤ (findW c cs[i].ways line).st) : fin1 c cs line = none := by
  unfold fin1
  rw [List.find?_eq_none.2]
  · rfl
  · intro k hk
    obtain ⟨i, hi, rfl⟩ := List.getElem_of_mem hk
    simpa using h i hi
theorem fin1_at {c : Cfg} {cs : List CaS} {line : Int} {i : Nat} (hi : i < cs.length) (h : ∀ j (hj : j < cs.length), j < i → ¬ 2 ≤ (findW c cs[j].ways line).st) (h2 : 2 ≤ (findW c cs[i].ways line).st) : fin1 c cs line = some (findW c cs[i].ways line).words := by
  unfold fin1
  have : cs.find? (fun k => decide (2 ≤ (findW c k.ways line).st)) = some cs[i] := by
    rw [List.find?_eq_some_iff_getElem]
    exact ⟨by simpa using h2, i, hi, rfl, fun j hj => by simpa using h j (by omega) hj⟩
  rw [this]; rfl
theorem fin2_no {cs : List CaS} {line : Int} (h : ∀ i (hi : i < cs.length), cs[i].buf.find? (liveB line) = none) : fin2 cs line = none := by
  unfold fin2
  rw [List.findSome?_eq_none_iff.2]
  · rfl
  · intro k hk
    obtain ⟨i, hi, rfl⟩ := List.getElem_of_mem hk
    exact h i hi
theorem fin2_at {cs : List CaS} {line : Int} {i : Nat} {e : WbE} (hi : i < cs.length) (h : ∀ j (hj : j < cs.length), j < i → cs[j].buf.find? (liveB line) = none) (h2 : cs[i].buf.find? (liveB line) = some e) : fin2 cs line = some e.words := by
  unfold fin2
  have : ∀ (l : List CaS) (i : Nat) (hi : i < l.length), (∀ j (hj : j < l.length), j < i → l[j].buf.find? (liveB line) = none) → l[i].buf.find? (liveB line) = some e → l.findSome? (fun k => k.buf.find? (liveB line)) = some e := by
    intro l
    induction l with
    | nil => intro i hi; simp at hi
    | cons a r ih =>
      intro i hi h h2
      cases i with
      | zero => rw [List.findSome?_cons]; simp only [List.getElem_cons_zero] at h2; rw [h2]
      | succ i =>
        rw [List.findSome?_cons]
        have := h 0 (by simp) (by omega)
        simp only [List.getElem_cons_zero] at this
        rw [this]
        exact ih i (by simpa using hi) (fun j hj hji => by have := h (j + 1) (by simpa using hj) (by omega); simpa using this) (by simpa using h2)
  rw [this cs i hi h h2]; rfl
theorem w_get (w : Words) {i : Nat} (h : i < 8) : (wc w)[0 + ((i : Nat) : Int).toNat * 1]? = some (.int .i64 (w.list.getD i 0)) := by
  rw [Int.toNat_natCast, Nat.zero_add, Nat.mul_one]
  match i, h with
  | 0, _ => rfl | 1, _ => rfl | 2, _ => rfl | 3, _ => rfl | 4, _ => rfl | 5, _ => rfl | 6, _ => rfl | 7, _ => rfl
theorem WC_ownmax {e : TypeId} {sz n : Nat} {v : Value} {xs : List Value} {P : Program} {N : Nat} {env : Env} {L : List HP} {Q : Exit → Act → World → Prop} {co : Code} (h : n ≤ 9223372036854775807 → WC P N co env (Own e sz v n xs :: L) Q) : WC P N co env (Own e sz v n xs :: L) Q := fun a w ha hw => h (by
  rcases (own_open hw).2.2 with ⟨_, _, hn, _⟩ | ⟨g, cap, spare, hv, hnc, hm, _⟩
  · omega
  · simp only [maxLen] at hm; omega) a w ha hw
set_option maxRecDepth 100000
set_option maxHeartbeats 4000000
attribute [local irreducible] Go.Exit.then Go.Exit.inBlock Go.Code.wp WC WO WE WQ V LoopQ FnQ Sat Star band bor IntKind.wrap WR Code.rounds WT KO
theorem wi_Final {F : List HP} {b : Nat} {c : Cfg} {s : MaS} {x : MaX} {addr : Int} (hc : c.wf) (ha : I64 addr) : FnF Try.prog 26 [.pointer (some ⟨b, 0, none⟩), c.val, .int .i64 addr] [MaQ b c s x] F
    (fun r L' => r = .tuple [.int .i64 (finV c s addr), .bool (okAddr c addr)].toArray ∧ L' = [MaQ b c s x]) := by
  have hAd := fun F => split_Addr (F := F) (c := c) (a := addr) hc ha
  refine FnF.mk' Try.func26 rfl rfl Try.ntmps26 rfl ?_
  cases hok : okAddr c addr with
  | false =>
    have he : addrE c addr ≠ 0 := by unfold addrE; rw [hok]; simp
    have hv : finV c s addr = 0 := by unfold finV; rw [hok]; rfl
    rw [hv]
    repeat (first | rintro _ _ ⟨rfl, rfl⟩ | refine exq fun _ => ?_ | intro _ | refine go ?_ | refine drq ?_)
    apply WC_scope (P := Try.prog) (l := 0) (fun _ : Unit => []) (fun _ => []) (fun _ => False) (by rfl)
    · repeat (first | rintro _ _ ⟨rfl, rfl⟩ | refine exq fun _ => ?_ | intro _ | refine go ?_ | refine drq ?_ | refine cal @hAd ?_)
      refine WE_jump_ret ?_
      repeat (first | rintro _ _ ⟨rfl, rfl⟩ | refine exq fun _ => ?_ | intro _ | refine go ?_ | refine drq ?_)
      exact fin0
    · intro _ h
      exact absurd h id
  | true =>
    have he : addrE c addr = 0 := by unfold addrE; rw [hok]; rfl
    obtain ⟨hck, h0, h1⟩ := addr_big hok
    have hcf := check_words hck
    have hline : okLine c (addrL c addr) = true := by
      unfold addrL okLine
      rw [if_pos hok, hck]
      have : 0 ≤ addr / c.words := Int.ediv_nonneg h0 (by omega)
      have : addr / c.words < c.lines := Int.ediv_lt_of_lt_mul (by omega) (by rw [Int.mul_comm]; exact h1)
      simp; omega
    have hlI := okLine_i64 hline
    have hLn := fun F => split_Line (F := F) (c := c) (a := addrL c addr) hc hlI
    generalize hL : addrL c addr = line at hline hlI hLn hAd
    have hH0 : 0 ≤ lineH c line ∧ lineH c line < c.homes := by
      unfold lineH; rw [if_pos hline]
      have := cfg_homes hck
      exact ⟨Int.emod_nonneg _ (by omega), Int.emod_lt_of_pos _ (by omega)⟩
    obtain ⟨hn, hhn⟩ : ∃ n : Nat, lineH c line = n := ⟨(lineH c line).toNat, by omega⟩
    have hW0 : 0 ≤ addrW c addr ∧ addrW c addr < c.words := by
      unfold addrW; rw [if_pos hok]
      exact ⟨Int.emod_nonneg _ (by omega), Int.emod_lt_of_pos _ (by omega)⟩
    obtain ⟨wn, hwn⟩ : ∃ n : Nat, addrW c addr = n := ⟨(addrW c addr).toNat, by omega⟩
    have hw8 : wn < 8 := by have := hcf.2.1; omega
    have hv : finV c s addr = (finL c s line).list.getD wn 0 := by unfold finV; rw [if_pos hok, hL, hwn]; rfl
    rw [hv]
    rw [hhn] at hLn
    rw [hwn] at hAd
    repeat (first | rintro _ _ ⟨rfl, rfl⟩ | refine exq fun _ => ?_ | intro _ | refine go ?_ | refine drq ?_)
    rename_i b4
    apply WC_scope (P := Try.prog) (l := 0) (fun q : Nat => [(9, .int .i64 (wn : Int)), (15, .pointer (some ⟨q, 0, none⟩))]) (fun q => Cells q 56 (wc (finL c s line)) :: MaQ b c s x :: F) (fun _ => True) (by rfl)
    · (first | refine WO_front (MaQ b c s x) ?_ | refine WC_front (MaQ b c s x) ?_ | refine WE_front (MaQ b c s x) ?_)
      refine maq_fact fun hf => ?_
      have hhb : hn < x.hb.length := by have := hf.2.1.2.2; omega
      have hHo := fun F => ma_Home (F := F) (b := b) (c := c) (s := s) (x := x) hhb
      have hLi := fun F => hm_Line (F := F) (b := x.hb.getD hn 0) (c := c) (num := (hn : Int)) (s := s.hs.getD hn hmZ) (line := line) hc hlI
      have hmH : maH s (lineH c line) = s.hs.getD hn hmZ := by unfold maH; rw [hhn]; rfl
      repeat (first | rintro _ _ ⟨rfl, rfl⟩ | refine exq fun _ => ?_ | intro _ | refine go ?_ | refine drq ?_ | refine cal @hAd ?_ | refine cal @hLn ?_ | refine cal @hHo ?_)
      (first | refine WO_front (MaQ b c s x) ?_ | refine WC_front (MaQ b c s x) ?_ | refine WE_front (MaQ b c s x) ?_)
      refine maqh_openO hn hhb ?_
      repeat (first | rintro _ _ ⟨rfl, rfl⟩ | refine exq fun _ => ?_ | intro _ | refine go ?_ | refine drq ?_ | refine cal @hLi ?_)
      rename_i b15
      generalize hwH : hmLine c (s.hs.getD hn hmZ) line = wH
      have hfin : finL c s line = match fin1 c s.cs line with | some w => w | none => match fin2 s.cs line with | some w => w | none => wH := by unfold finL; rw [hmH, hwH]
      have hcl : s.cs.length = x.ab.length := hf.1.2.1
      have hhl : s.hs.length = x.hb.length := hf.1.2.2
      have hab : x.ab.length ≤ 64 := by have := (check_facts hck).1; have := hf.2.1.2.1; omega
      have hcc : (x.ab.length : Int) = c.cores := hf.2.1.2.1
      apply WC_loopE (E0 := [(0, _), (4, _), (8, _), (9, _), (15, _), (53, _)]) (fun E0 (i : Nat) => (54, .int .i64 i) :: E0) (fun _ => Cells b15 56 (wc wH) :: MaQ b c s x :: Cells b4 24 c.cells :: F) (fun i => i ≤ x.ab.length ∧ ∀ j (hj : j < s.cs.length), j < i → ¬ 2 ≤ (findW c s.cs[j].ways line).st) (fun i => x.ab.length - i) 0
      · (repeat (first | exact Sub.nil | (refine Sub.cons (by first | rfl | (simp only [Nat.zero_add]; rfl)) ?_)))
      · exact ⟨Nat.zero_le _, fun j _ h => absurd h (Nat.not_lt_zero _)⟩
      · ((repeat (first | (with_reducible exact Ent.refl) | exact Ent.nil | (apply ent_pickE; (focus ((repeat (first | (with_reducible exact pk_here) | (apply pk_there))); done))) | (apply maqh_back) | apply Ent.drop)); all_goals (first | rfl | (with_reducible assumption) | (simp; done) | (simp; omega) | omega | (constructor <;> (simp) <;> omega)))
      · rintro i ⟨hi, hno⟩
        by_cases hlt : i < x.ab.length
        · have hCa := fun F => ma_Cache (F := F) (b := b) (c := c) (s := s) (x := x) hlt
          have hgi : s.cs.getD i caZ = s.cs[i] := by simp [show i < s.cs.length by omega]
          have hLk := fun F => ca_Look (F := F) (b := x.ab.getD i 0) (c := c) (core := (i : Int)) (k := s.cs.getD i caZ) (line := line) hlI
          repeat (first | rintro _ _ ⟨rfl, rfl⟩ | refine exq fun _ => ?_ | intro _ | refine go ?_ | refine drq ?_ | refine cal @hCa ?_)
          (first | refine WO_front (MaQ b c s x) ?_ | refine WC_front (MaQ b c s x) ?_ | refine WE_front (MaQ b c s x) ?_)
          refine maqc_openO i hlt ?_
          by_cases h2 : 2 ≤ (findW c (s.cs.getD i caZ).ways line).st
          · repeat (first | rintro _ _ ⟨rfl, rfl⟩ | refine exq fun _ => ?_ | intro _ | refine go ?_ | refine drq ?_ | refine cal @hLk ?_)
            (repeat (first | refine WC_goto ?_ | refine WE_then_goto ?_ | refine WE_block_goto ?_ | refine WE_loop_goto ?_))
            have hfw : wc (findW c (s.cs.getD i caZ).ways line).words = wc (finL c s line) := by
              rw [hfin, hgi] at *
              rw [fin1_at (by omega) hno h2]
            refine WE_jump b15 trivial ?_ ?_
            · (repeat (first | exact Sub.nil | (refine Sub.cons (by first | rfl | (simp only [Nat.zero_add]; rfl)) ?_)))
            · simp only [← hfw]
              ((repeat (first | (with_reducible exact Ent.refl) | exact Ent.nil | (apply ent_pickE; (focus ((repeat (first | (with_reducible exact pk_here) | (apply pk_there))); done))) | (apply maqc_back) | apply Ent.drop)); all_goals (first | rfl | (with_reducible assumption) | (simp; done) | (simp; omega) | omega | (constructor <;> (simp) <;> omega)))
          · have hno2 : i + 1 ≤ x.ab.length ∧ ∀ j (hj : j < s.cs.length), j < i + 1 → ¬ 2 ≤ (findW c s.cs[j].ways line).st := by
              refine ⟨by omega, fun j hj hji => ?_⟩
              by_cases e : j = i
              · subst e; rw [← hgi]; exact h2
              · exact hno j hj (by omega)
            repeat (first | rintro _ _ ⟨rfl, rfl⟩ | refine exq fun _ => ?_ | intro _ | refine go ?_ | refine drq ?_ | refine cal @hLk ?_)
            refine WE_loop (i + 1) (by omega) hno2 ?_ ?_
            · (repeat (first | exact Sub.nil | (refine Sub.cons (by first | rfl | (simp only [Nat.zero_add]; rfl)) ?_)))
            · ((repeat (first | (with_reducible exact Ent.refl) | exact Ent.nil | (apply ent_pickE; (focus ((repeat (first | (with_reducible exact pk_here) | (apply pk_there))); done))) | (apply maqc_back) | apply Ent.drop)); all_goals (first | rfl | (with_reducible assumption) | (simp; done) | (simp; omega) | omega | (constructor <;> (simp) <;> omega)))
        · have hf1 : fin1 c s.cs line = none := fin1_no fun j hj => hno j hj (by omega)
          have hfin2 : finL c s line = match fin2 s.cs line with | some w => w | none => wH := by rw [hfin, hf1]
          repeat (first | rintro _ _ ⟨rfl, rfl⟩ | refine exq fun _ => ?_ | intro _ | refine go ?_ | refine drq ?_)
          apply WC_loopE (E0 := [(0, _), (8, _), (9, _), (15, _), (72, _)]) (fun E0 (i : Nat) => (73, .int .i64 i) :: E0) (fun _ => Cells b15 56 (wc wH) :: MaQ b c s x :: F) (fun i => i ≤ x.ab.length ∧ ∀ j (hj : j < s.cs.length), j < i → s.cs[j].buf.find? (liveB line) = none) (fun i => x.ab.length - i) 0
          · (repeat (first | exact Sub.nil | (refine Sub.cons (by first | rfl | (simp only [Nat.zero_add]; rfl)) ?_)))
          · exact ⟨Nat.zero_le _, fun j _ h => absurd h (Nat.not_lt_zero _)⟩
          · exact entu0
          · rintro i ⟨hi2, hnl⟩
            by_cases hlt2 : i < x.ab.length
            · have hCa := fun F => ma_Cache (F := F) (b := b) (c := c) (s := s) (x := x) hlt2
              have hgi : s.cs.getD i caZ = s.cs[i] := by simp [show i < s.cs.length by omega]
              have hWr := fun F => ca_Written (F := F) (b := x.ab.getD i 0) (c := c) (core := (i : Int)) (k := s.cs.getD i caZ)
              repeat (first | rintro _ _ ⟨rfl, rfl⟩ | refine exq fun _ => ?_ | intro _ | refine go ?_ | refine drq ?_ | refine cal @hCa ?_)
              (first | refine WO_front (MaQ b c s x) ?_ | refine WC_front (MaQ b c s x) ?_ | refine WE_front (MaQ b c s x) ?_)
              refine maqc_openO i hlt2 ?_
              repeat (first | rintro _ _ ⟨rfl, rfl⟩ | refine exq fun _ => ?_ | intro _ | refine go ?_ | refine drq ?_ | refine cal @hWr ?_)
              rename_i pw cw
              obtain ⟨bf, hbf⟩ : ∃ bf, (s.cs.getD i caZ).buf = bf := ⟨_, rfl⟩
              have hbf' : s.cs[i].buf = bf := by rw [← hgi]; exact hbf
              rw [hbf]
              (first | refine WO_front (Own 149 10 (.slice pw bf.length cw) bf.length (flat bc bf)) ?_ | refine WC_front (Own 149 10 (.slice pw bf.length cw) bf.length (flat bc bf)) ?_ | refine WE_front (Own 149 10 (.slice pw bf.length cw) bf.length (flat bc bf)) ?_)
              refine WC_ownmax fun hbm => ?_
              apply WC_loopE (E0 := [(0, _), (8, _), (9, _), (15, _), (72, _), (73, _), (79, _), (80, _)]) (fun E0 (j : Nat) => (81, .int .i64 j) :: E0) (fun _ => Own 149 10 (.slice pw bf.length cw) bf.length (flat bc bf) :: Cells b15 56 (wc wH) :: MaQ b c s x :: F) (fun j => j ≤ bf.length ∧ ∀ k (hk : k < bf.length), k < j → liveB line bf[k] = false) (fun j => bf.length - j) 0
              · (repeat (first | exact Sub.nil | (refine Sub.cons (by first | rfl | (simp only [Nat.zero_add]; rfl)) ?_)))
              · exact ⟨Nat.zero_le _, fun j _ h => absurd h (Nat.not_lt_zero _)⟩
              · ((repeat (first | (with_reducible exact Ent.refl) | exact Ent.nil | (apply ent_pickE; (focus ((repeat (first | (with_reducible exact pk_here) | (apply pk_there))); done))) | (apply maqc_back) | apply Ent.drop)); all_goals (first | rfl | (with_reducible assumption) | (simp; done) | (simp; omega) | omega | (constructor <;> (simp) <;> omega)))
              · rintro j ⟨hj, hnj⟩
                by_cases hlt3 : j < bf.length
                · by_cases h3 : bf[j].line = line
                  · cases h4 : bf[j].live with
                    | true =>
                      repeat (first | rintro _ _ ⟨rfl, rfl⟩ | refine exq fun _ => ?_ | intro _ | refine go ?_ | refine drq ?_)
                      (repeat (first | refine WC_goto ?_ | refine WE_then_goto ?_ | refine WE_block_goto ?_ | refine WE_loop_goto ?_))
                      have hfw : wc bf[j].words = wc (finL c s line) := by
                        have hfd : bf.find? (liveB line) = some bf[j] := by
                          rw [List.find?_eq_some_iff_getElem]
                          exact ⟨by simp [liveB, h3, h4], j, hlt3, rfl, fun k hk => by simp [hnj k (by omega) hk]⟩
                        rw [hfin2, fin2_at (i := i) (by omega) hnl (by rw [hbf']; exact hfd)]
                      refine WE_jump b15 trivial ?_ ?_
                      · (repeat (first | exact Sub.nil | (refine Sub.cons (by first | rfl | (simp only [Nat.zero_add]; rfl)) ?_)))
                      · simp only [← hfw]
                        exact entu0
                    | false =>
                      have hnj2 : j + 1 ≤ bf.length ∧ ∀ k (hk : k < bf.length), k < j + 1 → liveB line bf[k] = false := by
                        refine ⟨by omega, fun k hk hkj => ?_⟩
                        by_cases e : k = j
                        · subst e; simp [liveB, h4]
                        · exact hnj k hk (by omega)
                      repeat (first | rintro _ _ ⟨rfl, rfl⟩ | refine exq fun _ => ?_ | intro _ | refine go ?_ | refine drq ?_)
                      refine WE_loop (j + 1) (by omega) hnj2 ?_ ?_
                      · (repeat (first | exact Sub.nil | (refine Sub.cons (by first | rfl | (simp only [Nat.zero_add]; rfl)) ?_)))
                      · exact entu0
                  · have hnj2 : j + 1 ≤ bf.length ∧ ∀ k (hk : k < bf.length), k < j + 1 → liveB line bf[k] = false := by
                      refine ⟨by omega, fun k hk hkj => ?_⟩
                      by_cases e : k = j
                      · subst e; simp [liveB, h3]
                      · exact hnj k hk (by omega)
                    repeat (first | rintro _ _ ⟨rfl, rfl⟩ | refine exq fun _ => ?_ | intro _ | refine go ?_ | refine drq ?_)
                    refine WE_loop (j + 1) (by omega) hnj2 ?_ ?_
                    · (repeat (first | exact Sub.nil | (refine Sub.cons (by first | rfl | (simp only [Nat.zero_add]; rfl)) ?_)))
                    · exact entu0
                · have hnl2 : i + 1 ≤ x.ab.length ∧ ∀ j (hj : j < s.cs.length), j < i + 1 → s.cs[j].buf.find? (liveB line) = none := by
                    refine ⟨by omega, fun k hk hki => ?_⟩
                    by_cases e : k = i
                    · subst e
                      rw [hbf', List.find?_eq_none]
                      intro e he
                      obtain ⟨q, hq, rfl⟩ := List.getElem_of_mem he
                      simp [hnj q hq (by omega)]
                    · exact hnl k hk (by omega)
                  repeat (first | rintro _ _ ⟨rfl, rfl⟩ | refine exq fun _ => ?_ | intro _ | refine go ?_ | refine drq ?_)
                  refine WE_loop (i + 1) (by omega) hnl2 ?_ ?_
                  · (repeat (first | exact Sub.nil | (refine Sub.cons (by first | rfl | (simp only [Nat.zero_add]; rfl)) ?_)))
                  · exact entu0
            · have hf2 : fin2 s.cs line = none := fin2_no fun j hj => hnl j hj (by omega)
              have hfin3 : finL c s line = wH := by rw [hfin2, hf2]
              rw [hfin3]
              repeat (first | rintro _ _ ⟨rfl, rfl⟩ | refine exq fun _ => ?_ | intro _ | refine go ?_ | refine drq ?_)
              refine WC_label ?_
              have hg := w_get wH hw8
              repeat (first | rintro _ _ ⟨rfl, rfl⟩ | refine exq fun _ => ?_ | intro _ | refine go ?_ | refine drq ?_)
              refine WE_jump_ret ?_
              repeat (first | rintro _ _ ⟨rfl, rfl⟩ | refine exq fun _ => ?_ | intro _ | refine go ?_ | refine drq ?_)
              exact fin0
    · rintro b15 _
      have hg := w_get (finL c s line) hw8
      repeat (first | rintro _ _ ⟨rfl, rfl⟩ | refine exq fun _ => ?_ | intro _ | refine go ?_ | refine drq ?_)
      refine WE_jump_ret ?_
      repeat (first | rintro _ _ ⟨rfl, rfl⟩ | refine exq fun _ => ?_ | intro _ | refine go ?_ | refine drq ?_)
      exact fin0
end Go.Sx
