/- Strings, interface values, and calls through these. My own work; names no program. -/
import Derived.Test.YtcjagmphobdbbaaGo
import Derived.Laws.BytesString
import Derived.Laws.Strings
set_option linter.unusedVariables false
set_option linter.unusedSimpArgs false
namespace Go.Sx
open Go

/-! ## Bytes -/
/-- The string of these bytes. -/
def bstr (ns : List Int) : ByteArray := ns.foldl (fun r n => r.push (UInt8.ofNat n.toNat)) ByteArray.empty
/-- A string's byte. -/
def bat (s : ByteArray) (n : Nat) : Int := match s.data.toList[n]? with | some b => (b.toNat : Int) | none => 0
abbrev byc (n : Int) : List Value := [.int .u8 n]
theorem bfold_data : ∀ (ns : List Int) (r : ByteArray), (ns.foldl (fun r n => r.push (UInt8.ofNat n.toNat)) r).data.toList = r.data.toList ++ ns.map fun n => UInt8.ofNat n.toNat
  | [], r => by simp
  | n :: ns, r => by
    rw [List.foldl_cons, bfold_data ns]
    simp [ByteArray.push]
theorem bstr_data (ns : List Int) : (bstr ns).data.toList = ns.map fun n => UInt8.ofNat n.toNat := by
  unfold bstr
  rw [bfold_data]
  rfl
theorem bstr_size (ns : List Int) : (bstr ns).size = ns.length := by
  have := congrArg List.length (bstr_data ns)
  simpa using this
theorem bat_lt (s : ByteArray) (n : Nat) : 0 ≤ bat s n ∧ bat s n < 256 := by
  unfold bat
  split
  · rename_i b _
    have := b.toNat_lt
    omega
  · omega
theorem bat_bstr {ns : List Int} (h : ∀ n ∈ ns, 0 ≤ n ∧ n < 256) (i : Nat) (hi : i < ns.length) : bat (bstr ns) i = ns[i] := by
  unfold bat
  rw [bstr_data, List.getElem?_map, List.getElem?_eq_getElem hi]
  have := h _ (List.getElem_mem hi)
  simp only [Option.map_some]
  have e : (UInt8.ofNat ns[i].toNat).toNat = ns[i].toNat := by
    rw [UInt8.toNat_ofNat']
    exact Nat.mod_eq_of_lt (by omega)
  rw [e]; omega
theorem bytes_ext {a b : ByteArray} (h : a.size = b.size) (h2 : ∀ i, i < a.size → bat a i = bat b i) : a = b := by
  have e : a.data.toList = b.data.toList := by
    refine List.ext_getElem (by simpa using h) fun i h1 h3 => ?_
    have := h2 i (by simpa using h1)
    unfold bat at this
    rw [List.getElem?_eq_getElem h1, List.getElem?_eq_getElem h3] at this
    have this : (a.data.toList[i].toNat : Int) = b.data.toList[i].toNat := this
    exact UInt8.toNat_inj.1 (by omega)
  cases a; cases b
  simp only [Array.toList_inj] at e
  simp [e]
theorem bat_extract {s : ByteArray} {l i : Nat} (h : l ≤ s.size) : bat (s.extract l s.size) i = bat s (l + i) := by
  unfold bat
  have : (s.extract l s.size).data.toList = s.data.toList.drop l := by
    rw [ByteArray.data_extract, Array.toList_extract]
    simp only [List.extract_eq_take_drop]
    exact List.take_of_length_le (by simp)
  rw [this, List.getElem?_drop]
theorem size_extract {s : ByteArray} {l : Nat} (h : l ≤ s.size) : (s.extract l s.size).size = s.size - l := by
  rw [ByteArray.size_extract]; simp
theorem extract_extract {s : ByteArray} {l m : Nat} (h : l + m ≤ s.size) : (s.extract l s.size).extract m (s.size - l) = s.extract (l + m) s.size := by
  have e1 := size_extract (s := s) (l := l) (by omega)
  refine bytes_ext ?_ fun i hi => ?_
  · rw [← e1, size_extract (by rw [e1]; omega), size_extract h, e1]; omega
  · rw [← e1, bat_extract (by rw [e1]; omega), bat_extract (by omega), bat_extract h]; congr 1; omega
theorem extract_zero (s : ByteArray) : s.extract 0 s.size = s := by
  refine bytes_ext (by rw [size_extract (by omega)]; rfl) fun i hi => ?_
  rw [bat_extract (by omega), Nat.zero_add]

/-! ## Steps -/
section
variable {P : Program} {N : Nat} {t ty xt yt : TypeId} {x y : Operand} {env : Env} {L : List HP}
theorem v_index_string {k : IntKind} {i : Int} {s : ByteArray} [hT : TU P t .string] (hx : ev env x = some (.string s)) (hy : ev env y = some (.int k i)) (h0 : 0 ≤ i) (h1 : i < (s.size : Int)) :
    V P N (.index t x y) ty env L (.int .u8 (bat s i.toNat)) := by
  intro a w ha _
  have h2 : i.toNat < s.size := by omega
  have h3 : s[i.toNat]? = some s[i.toNat] := getElem?_pos s _ h2
  have h4 : bat s i.toNat = ((s[i.toNat]).toNat : Int) := by
    unfold bat
    rw [Array.getElem?_toList, Array.getElem?_eq_getElem (by simpa using h2)]
    rfl
  simp only [execOp, ha.ev hx, ha.ev hy, Instr.index, asIntOf, run_underlying hT.pf, Sem.run_bind, Sem.run_pure, Result.andThen_ok, if_pos h0, h3, h4]
theorem v_eq_string {a b : ByteArray} (hx : ev env x = some (.string a)) (hy : ev env y = some (.string b)) : V P N (.binOp .eql xt x y yt) ty env L (.bool (decide (a = b))) := by
  intro f w ha _
  have e : (eqGuard .eql xt x y (.string a) (.string b)).run P w = .ok () w := by unfold eqGuard; simp
  have hb : (a.toList == b.toList) = decide (a = b) := by
    rw [ByteArray.toList_eq, ByteArray.toList_eq, Bool.eq_iff_iff, beq_iff_eq, decide_eq_true_iff]
    constructor
    · intro h; cases a; cases b; simp only [Array.toList_inj] at h; simp [h]
    · intro h; rw [h]
  simp [execOp, ha.ev hx, ha.ev hy, e, binOp, Op.stringOp, hb]
theorem v_ne_string {a b : ByteArray} (hx : ev env x = some (.string a)) (hy : ev env y = some (.string b)) : V P N (.binOp .neq xt x y yt) ty env L (.bool (decide (a ≠ b))) := by
  intro f w ha _
  have e : (eqGuard .neq xt x y (.string a) (.string b)).run P w = .ok () w := by unfold eqGuard; simp
  have hb : (a.toList == b.toList) = decide (a = b) := by
    rw [ByteArray.toList_eq, ByteArray.toList_eq, Bool.eq_iff_iff, beq_iff_eq, decide_eq_true_iff]
    constructor
    · intro h; cases a; cases b; simp only [Array.toList_inj] at h; simp [h]
    · intro h; rw [h]
  simp [execOp, ha.ev hx, ha.ev hy, e, binOp, Op.stringOp, hb]
theorem v_slice_string {lo : Option Operand} {l : Nat} {s : ByteArray} [hT : TU P t .string] (hx : ev env x = some (.string s)) (hl : Bnd env lo 0 l) (h : l ≤ s.size) :
    V P N (.slice t x lo none none) ty env L (.string (s.extract l s.size)) := by
  intro a w ha hw
  have e1 : (Instr.sliceAt t (.string s) (lo.map a.eval) none none).run P w = .ok (.string (s.extract l s.size)) w := by
    cases hl with
    | none => simp [Instr.sliceAt, Instr.slice, Instr.sliceBounds, run_underlying hT.pf]
    | some q q0 => simp [Instr.sliceAt, Instr.slice, Instr.sliceBounds, run_underlying hT.pf, ha.ev q, run_bound q0 h]
  simp [execOp, ha.ev hx, e1]
theorem v_bytes {src dst e : TypeId} {v : Value} {n : Nat} {xs : List Value} {ns : List Int} [hs : TU P src (.slice e)] [he : TU P e (.int .u8)] [hd : TU P dst .string] (hx : ev env x = some v) (hr : RdL L 1 v n xs) (hn : xs = flat byc ns) :
    V P N (.convert src dst x) ty env L (.string (bstr ns)) := by
  intro a w ha hw
  have hfl : flat byc ns = ns.map (Value.int .u8) := by
    clear hn
    induction ns with
    | nil => rfl
    | cons b r ih => rw [List.map_cons, ← ih]; rfl
  have hlen := hr.len w hw
  have e1 : (convert src dst v).run P w = .ok (.string (bstr ns)) w := by
    rcases hr.pf w hw with ⟨p, c, rfl, rfl⟩ | ⟨b, o, c, rfl, hc⟩
    · rw [run_convert_bytes_string w src dst e _ _ _ hs.pf he.pf hd.pf]
      have hnil : ns = [] := by rw [hn, hfl] at hlen; exact List.eq_nil_of_length_eq_zero (by simpa using hlen)
      subst hnil
      cases p with
      | none => simp [Conv.bytesToString, bstr]
      | some p =>
        rw [run_bytesToString w p 0 c [] (by simp [loadCells, loadCellsFrom])]
        rfl
    · rw [run_convert_bytes_string w src dst e _ _ _ hs.pf he.pf hd.pf]
      rw [run_bytesToString w _ n c ns ?_]
      · rfl
      · rw [← hfl, ← hn]
        exact run_loadCells' (by omega) hc
  simp [execOp, ha.ev hx, e1]

/-! ## Interface values -/
def isIfaceD : TypeDesc → Bool
  | .interface _ => true
  | _ => false
theorem v_iface {d : TypeDesc} {u : Value} [hT : TU P t d] (hx : ev env x = some u) (hd : isIfaceD d = false) : V P N (.makeInterface t x) ty env L (.iface t u) := by
  intro a w ha _
  have e1 : (Instr.makeInterface t u).run P w = .ok (.iface t u) w := by
    cases d <;> first | (cases hd; done) | simp [Instr.makeInterface, run_underlying hT.pf]
  simp [execOp, ha.ev hx, e1]
/-- Whether a type's methods are those that another one wants. -/
def missL (want : Array (String × TypeId)) (got : Array Method) : List (String × TypeId) := want.toList.filter fun p => !got.any fun m => m.name == p.1 && m.sig == p.2
theorem miss_none {want : Array (String × TypeId)} {got : Array Method} (h : missL want got = []) : Instr.missingMethod want got = none := by
  unfold Instr.missingMethod
  unfold missL at h
  simp only [h, List.map_nil, List.partition_eq_filter_filter, List.filter_nil]
  rfl
theorem least_some {l : List String} (h : l ≠ []) : ∃ m, Instr.least l = some m := by
  cases l with
  | nil => exact absurd rfl h
  | cons a r => exact ⟨_, rfl⟩
theorem miss_some {want : Array (String × TypeId)} {got : Array Method} (h : missL want got ≠ []) : ∃ m, Instr.missingMethod want got = some m := by
  unfold Instr.missingMethod
  unfold missL at h
  simp only [List.partition_eq_filter_filter]
  generalize List.filter (fun p => !got.any fun m => m.name == p.1 && m.sig == p.2) want.toList = l at h
  by_cases h1 : List.filter (not ∘ fun x : String => x.contains '.') (List.map (fun x => x.1) l) = []
  · rw [h1]
    have h2 : List.filter (fun x : String => x.contains '.') (List.map (fun x => x.1) l) ≠ [] := fun h2 => by
      cases l with
      | nil => exact h rfl
      | cons a r =>
        have k1 := List.filter_eq_nil_iff.1 h1 a.1 (by simp)
        have k2 := List.filter_eq_nil_iff.1 h2 a.1 (by simp)
        simp only [Function.comp] at k1
        revert k1 k2
        generalize (a.1.contains '.') = b
        cases b <;> simp
    obtain ⟨m, hm⟩ := least_some (l := List.map (fun id => (String.splitOn id ".").getLastD id) (List.filter (fun x : String => x.contains '.') (List.map (fun x => x.1) l))) (by simpa using h2)
    exact ⟨m, by rw [hm]; rfl⟩
  · obtain ⟨m, hm⟩ := least_some h1
    exact ⟨m, by rw [hm]; rfl⟩
def hasO (P : Program) (t at' : TypeId) : Option Bool := match P.underlying at', P.info? t with
  | some (.interface want), some i => some (missL want i.methods).isEmpty
  | _, _ => none
class Has (P : Program) (t at' : TypeId) (b : outParam Bool) : Prop where
  pf : hasO P t at' = some b
theorem has_of {t at' : TypeId} {b : Bool} (h : hasO P t at' = some b) : ∃ want i, P.underlying at' = some (.interface want) ∧ P.info? t = some i ∧ (missL want i.methods).isEmpty = b := by
  unfold hasO at h
  split at h
  · rename_i want i h1 h2
    exact ⟨want, i, h1, h2, by simpa using h⟩
  · cases h
theorem v_assert_t {u : Value} {at' : TypeId} (hx : ev env x = some (.iface t u)) (h : Has P t at' true) : V P N (.typeAssert x xt at' true) ty env L (.tuple [.iface t u, .bool true].toArray) := by
  obtain ⟨want, i, h1, h2, h3⟩ := has_of h.pf
  intro a w ha _
  have h4 : Instr.missingMethod want i.methods = none := miss_none (by simpa using h3)
  simp [execOp, ha.ev hx, Instr.typeAssert, run_underlying h1, typeInfo, h2, h4]
theorem v_assert_f {u z : Value} {at' : TypeId} {n bs : Nat} [hZ : TZ P at' n z bs] (hx : ev env x = some (.iface t u)) (h : Has P t at' false) : V P N (.typeAssert x xt at' true) ty env L (.tuple [z, .bool false].toArray) := by
  obtain ⟨want, i, h1, h2, h3⟩ := has_of h.pf
  intro a w ha _
  obtain ⟨m, e⟩ := miss_some (want := want) (got := i.methods) (fun h => by rw [h] at h3; cases h3)
  simp [execOp, ha.ev hx, Instr.typeAssert, run_underlying h1, typeInfo, h2, e, run_zeroValue hZ]

/-- What a value's method is. -/
class Meth (P : Program) (t : TypeId) (v : Value) (name : String) (k : outParam FuncId) (r : outParam Value) : Prop where
  pf : ∀ w, (method (P.types.size + Made.depth) t v name).run P w = .ok (k, r) w
theorem execInvoke {ρ : Operand → Value} {f : Operand} {args : List Operand} {ats : Array TypeId} {k : FuncId} {tv : TypeId} {v r : Value} {name : String} {vs : List Value} (hf : ρ f = .iface tv v) (hm : Meth P tv v name k r) (ha : r :: args.map ρ = vs)
    (he : Enters P k) (w : World) : (execOp ρ ⟨none, .call ⟨.invoke f name, args.toArray, ats⟩, ty, "", #[], none⟩).run P w = .ok (.enter k vs.toArray) w := by
  have e1 : (program).run P w = .ok P w := by simp
  simp only [execOp, resolve, hf, Sem.run_bind, Sem.run_pure, Result.andThen_ok, invoke]
  have e2 : ((#[Value.iface tv v] ++ args.toArray.map ρ)[0]? : Option Value) = some (.iface tv v) := by simp
  simp only [e2, callMethod, Sem.run_bind, e1, Result.andThen_ok, hm.pf]
  rw [he]
  congr 2
  apply Array.ext'
  simp only [← ha, Array.toList_append, Array.toList_extract, List.map_toArray]
  simp [List.extract_eq_take_drop]
  exact List.take_of_length_le (by simp)
theorem K_callI {recv : Operand} {args : List Operand} {ats : Array TypeId} {k : FuncId} {tv : TypeId} {v r : Value} {name : String} {avs vs : List Value} {pre F : List HP} {post : Value → List HP → Prop}
    {pos : String} {aft : Array Edge} {d : Option Nat}
    (hf : ev env recv = some (.iface tv v)) (hm : Meth P tv v name k r) (ha : evs env args = some avs) (hv : r :: avs = vs) (hd : dstOk N d = true) (C : FnF P k vs pre F post) (hE : PickL pre L F) :
    KO P N ⟨d, .call ⟨.invoke recv name, args.toArray, ats⟩, ty, pos, aft, none⟩ env L (Called env d F post) := by
  intro a w hA hw K Q next
  unfold Oper.wp
  rw [execOp_plain, execInvoke (vs := vs) (hA.ev hf) hm (by rw [hA.evs ha]; exact hv) C.enters w]
  refine (C.runs w (hE.pf.sat hw)).mono fun e w' ⟨v, L', he, hp, hs⟩ => ?_
  subst he
  exact next _ _ _ w' ⟨v, L', hp, rfl, rfl⟩ (hA.puts hd v) hs
end
set_option maxRecDepth 100000
/-- A step with strings or interface values. -/
theorem str {Q P : Prop} (k : Q) (h : Hid Q → P := by
  intro k
  (first | (apply WO_v; (first | (apply v_index_string; rfl; rfl; omega; omega) | (apply v_eq_string; rfl; rfl) | (apply v_ne_string; rfl; rfl) | (apply v_slice_string; rfl; (first | exact Bnd.none | (apply bnd_nat; rfl) | (apply Bnd.some; rfl; omega)); omega) | (apply v_bytes; rfl; exact inferInstance; (first | rfl | (with_reducible assumption))) | (apply v_iface; rfl; rfl) | (apply v_assert_t; rfl; exact inferInstance) | (apply v_assert_f; rfl; exact inferInstance)); rfl) | (apply WT_p; rfl; (first | exact GIn.none | (apply gin_t; rfl; rfl; (first | (with_reducible rfl) | exact congrArg Value.bool (by with_reducible assumption) | exact congrArg Value.bool (dec_t (by first | (with_reducible assumption) | (with_reducible rfl) | (with_reducible exact nn_eq) | (with_reducible exact nn_ne) | omega | decide | exact rfl)))) | (apply gin_f; rfl; rfl; (first | (with_reducible rfl) | exact congrArg Value.bool (by with_reducible assumption) | exact congrArg Value.bool (dec_f (by first | (with_reducible assumption) | (with_reducible rfl) | (with_reducible exact nn_eq) | (with_reducible exact nn_ne) | omega | decide | exact rfl))))); (first | (apply v_index_string; rfl; rfl; omega; omega) | (apply v_eq_string; rfl; rfl) | (apply v_ne_string; rfl; rfl) | (apply v_slice_string; rfl; (first | exact Bnd.none | (apply bnd_nat; rfl) | (apply Bnd.some; rfl; omega)); omega) | (apply v_bytes; rfl; exact inferInstance; (first | rfl | (with_reducible assumption))) | (apply v_iface; rfl; rfl) | (apply v_assert_t; rfl; exact inferInstance) | (apply v_assert_f; rfl; exact inferInstance)); rfl) | (apply WT_r; rfl; (first | exact GIn.none | (apply gin_t; rfl; rfl; (first | (with_reducible rfl) | exact congrArg Value.bool (by with_reducible assumption) | exact congrArg Value.bool (dec_t (by first | (with_reducible assumption) | (with_reducible rfl) | (with_reducible exact nn_eq) | (with_reducible exact nn_ne) | omega | decide | exact rfl)))) | (apply gin_f; rfl; rfl; (first | (with_reducible rfl) | exact congrArg Value.bool (by with_reducible assumption) | exact congrArg Value.bool (dec_f (by first | (with_reducible assumption) | (with_reducible rfl) | (with_reducible exact nn_eq) | (with_reducible exact nn_ne) | omega | decide | exact rfl))))); (first | (apply v_index_string; rfl; rfl; omega; omega) | (apply v_eq_string; rfl; rfl) | (apply v_ne_string; rfl; rfl) | (apply v_slice_string; rfl; (first | exact Bnd.none | (apply bnd_nat; rfl) | (apply Bnd.some; rfl; omega)); omega) | (apply v_bytes; rfl; exact inferInstance; (first | rfl | (with_reducible assumption))) | (apply v_iface; rfl; rfl) | (apply v_assert_t; rfl; exact inferInstance) | (apply v_assert_f; rfl; exact inferInstance)); rfl) | (apply WT_v; rfl; (first | exact GIn.none | (apply gin_t; rfl; rfl; (first | (with_reducible rfl) | exact congrArg Value.bool (by with_reducible assumption) | exact congrArg Value.bool (dec_t (by first | (with_reducible assumption) | (with_reducible rfl) | (with_reducible exact nn_eq) | (with_reducible exact nn_ne) | omega | decide | exact rfl)))) | (apply gin_f; rfl; rfl; (first | (with_reducible rfl) | exact congrArg Value.bool (by with_reducible assumption) | exact congrArg Value.bool (dec_f (by first | (with_reducible assumption) | (with_reducible rfl) | (with_reducible exact nn_eq) | (with_reducible exact nn_ne) | omega | decide | exact rfl))))); (first | (apply v_index_string; rfl; rfl; omega; omega) | (apply v_eq_string; rfl; rfl) | (apply v_ne_string; rfl; rfl) | (apply v_slice_string; rfl; (first | exact Bnd.none | (apply bnd_nat; rfl) | (apply Bnd.some; rfl; omega)); omega) | (apply v_bytes; rfl; exact inferInstance; (first | rfl | (with_reducible assumption))) | (apply v_iface; rfl; rfl) | (apply v_assert_t; rfl; exact inferInstance) | (apply v_assert_f; rfl; exact inferInstance)); rfl) | (apply WQ_op; (first | (apply v_index_string; rfl; rfl; omega; omega) | (apply v_eq_string; rfl; rfl) | (apply v_ne_string; rfl; rfl) | (apply v_slice_string; rfl; (first | exact Bnd.none | (apply bnd_nat; rfl) | (apply Bnd.some; rfl; omega)); omega) | (apply v_bytes; rfl; exact inferInstance; (first | rfl | (with_reducible assumption))) | (apply v_iface; rfl; rfl) | (apply v_assert_t; rfl; exact inferInstance) | (apply v_assert_f; rfl; exact inferInstance)); rfl))
  exact k.out) : P := h ⟨k⟩
/-- A call through an interface value, by its contract. -/
theorem cali {C Q P : Prop} (c : C) (k : Q) (h : C → Hid Q → P := by
  intro c k
  first
  | (apply WO_k; rfl; (focus (apply K_callI; rfl; exact inferInstance; rfl; rfl; rfl; apply c; (all_goals (try (focus ((repeat (first | (with_reducible exact pl_nil) | (apply pl_cons; focus (repeat (first | (with_reducible exact pk_here) | (apply pk_there)))))); done)))); (all_goals (focus (first | (with_reducible assumption) | exact inferInstance | exact rd_lit inferInstance rfl rfl | (with_reducible rfl) | omega | (unfold I64; omega) | (constructor <;> omega) | decide))))); refine called_some ?_; exact k.out)
  | (apply WT_k; rfl; (first | exact GIn.none | (apply gin_t; rfl; rfl; (first | (with_reducible rfl) | exact congrArg Value.bool (by with_reducible assumption) | exact congrArg Value.bool (dec_t (by first | (with_reducible assumption) | (with_reducible rfl) | (with_reducible exact nn_eq) | (with_reducible exact nn_ne) | omega | decide | exact rfl)))) | (apply gin_f; rfl; rfl; (first | (with_reducible rfl) | exact congrArg Value.bool (by with_reducible assumption) | exact congrArg Value.bool (dec_f (by first | (with_reducible assumption) | (with_reducible rfl) | (with_reducible exact nn_eq) | (with_reducible exact nn_ne) | omega | decide | exact rfl))))); (focus (apply K_callI; rfl; exact inferInstance; rfl; rfl; rfl; apply c; (all_goals (try (focus ((repeat (first | (with_reducible exact pl_nil) | (apply pl_cons; focus (repeat (first | (with_reducible exact pk_here) | (apply pk_there)))))); done)))); (all_goals (focus (first | (with_reducible assumption) | exact inferInstance | exact rd_lit inferInstance rfl rfl | (with_reducible rfl) | omega | (unfold I64; omega) | (constructor <;> omega) | decide))))); refine called_some ?_; exact k.out)) : P := h c ⟨k⟩
end Go.Sx
