/- Str, Msg, Msg2, Msg3, Ca: several of my texts as one. My own work. -/
import Derived.Test.YtlaohgngdaglmaaGreatGo
import Derived.Laws.BytesString
import Derived.Laws.Strings
import Derived.Test.YtlaohgngdaglmaaGreatZCacheLocksad
import Derived.Test.YtlaohgngdaglmaaGreatZCacheLocksac
import Derived.Test.YtlaohgngdaglmaaGreatZCacheLocksae
/- Strings, interface values, and calls through these. My own work; names no program. -/
set_option linter.unusedVariables false
set_option linter.unusedSimpArgs false
namespace Go.Sx
open Go

/-! ## Bytes -/
/-- The string of these bytes. -/
def bstr (ns : List Int) : ByteArray := ns.foldl (fun r n => r.push (UInt8.ofNat n.toNat)) ByteArray.empty
/-- A string's byte. -/
def bat (s : ByteArray) (n : Nat) : Int := match s.data.toList[n]? with | some b => (b.toNat : Int) | none => 0
abbrev byc (n : Int) : List Value := [.int .u8 n]
theorem bfold_data : ∀ (ns : List Int) (r : ByteArray), (ns.foldl (fun r n => r.push (UInt8.ofNat n.toNat)) r).data.toList = r.data.toList ++ ns.map fun n => UInt8.ofNat n.toNat
  | [], r => by simp
  | n :: ns, r => by
    rw [List.foldl_cons, bfold_data ns]
    simp [ByteArray.push]
theorem bstr_data (ns : List Int) : (bstr ns).data.toList = ns.map fun n => UInt8.ofNat n.toNat := by
  unfold bstr
  rw [bfold_data]
  rfl
theorem bstr_size (ns : List Int) : (bstr ns).size = ns.length := by
  have := congrArg List.length (bstr_data ns)
  simpa using this
theorem bat_lt (s : ByteArray) (n : Nat) : 0 ≤ bat s n ∧ bat s n < 256 := by
  unfold bat
  split
  · rename_i b _
    have := b.toNat_lt
    omega
  · omega
theorem bat_bstr {ns : List Int} (h : ∀ n ∈ ns, 0 ≤ n ∧ n < 256) (i : Nat) (hi : i < ns.length) : bat (bstr ns) i = ns[i] := by
  unfold bat
  rw [bstr_data, List.getElem?_map, List.getElem?_eq_getElem hi]
  have := h _ (List.getElem_mem hi)
  simp only [Option.map_some]
  have e : (UInt8.ofNat ns[i].toNat).toNat = ns[i].toNat := by
    rw [UInt8.toNat_ofNat']
    exact Nat.mod_eq_of_lt (by omega)
  rw [e]; omega
theorem bytes_ext {a b : ByteArray} (h : a.size = b.size) (h2 : ∀ i, i < a.size → bat a i = bat b i) : a = b := by
  have e : a.data.toList = b.data.toList := by
    refine List.ext_getElem (by simpa using h) fun i h1 h3 => ?_
    have := h2 i (by simpa using h1)
    unfold bat at this
    rw [List.getElem?_eq_getElem h1, List.getElem?_eq_getElem h3] at this
    have this : (a.data.toList[i].toNat : Int) = b.data.toList[i].toNat := this
    exact UInt8.toNat_inj.1 (by omega)
  cases a; cases b
  simp only [Array.toList_inj] at e
  simp [e]
theorem bat_extract {s : ByteArray} {l i : Nat} (h : l ≤ s.size) : bat (s.extract l s.size) i = bat s (l + i) := by
  unfold bat
  have : (s.extract l s.size).data.toList = s.data.toList.drop l := by
    rw [ByteArray.data_extract, Array.toList_extract]
    simp only [List.extract_eq_take_drop]
    exact List.take_of_length_le (by simp)
  rw [this, List.getElem?_drop]
theorem size_extract {s : ByteArray} {l : Nat} (h : l ≤ s.size) : (s.extract l s.size).size = s.size - l := by
  rw [ByteArray.size_extract]; simp
theorem extract_extract {s : ByteArray} {l m : Nat} (h : l + m ≤ s.size) : (s.extract l s.size).extract m (s.size - l) = s.extract (l + m) s.size := by
  have e1 := size_extract (s := s) (l := l) (by omega)
  refine bytes_ext ?_ fun i hi => ?_
  · rw [← e1, size_extract (by rw [e1]; omega), size_extract h, e1]; omega
  · rw [← e1, bat_extract (by rw [e1]; omega), bat_extract (by omega), bat_extract h]; congr 1; omega
theorem extract_zero (s : ByteArray) : s.extract 0 s.size = s := by
  refine bytes_ext (by rw [size_extract (by omega)]; rfl) fun i hi => ?_
  rw [bat_extract (by omega), Nat.zero_add]

/-! ## Steps -/
section
variable {P : Program} {N : Nat} {t ty xt yt : TypeId} {x y : Operand} {env : Env} {L : List HP}
theorem v_index_string {k : IntKind} {i : Int} {s : ByteArray} [hT : TU P t .string] (hx : ev env x = some (.string s)) (hy : ev env y = some (.int k i)) (h0 : 0 ≤ i) (h1 : i < (s.size : Int)) :
    V P N (.index t x y) ty env L (.int .u8 (bat s i.toNat)) := by
  intro a w ha _
  have h2 : i.toNat < s.size := by omega
  have h3 : s[i.toNat]? = some s[i.toNat] := getElem?_pos s _ h2
  have h4 : bat s i.toNat = ((s[i.toNat]).toNat : Int) := by
    unfold bat
    rw [Array.getElem?_toList, Array.getElem?_eq_getElem (by simpa using h2)]
    rfl
  simp only [execOp, ha.ev hx, ha.ev hy, Instr.index, asIntOf, run_underlying hT.pf, Sem.run_bind, Sem.run_pure, Result.andThen_ok, if_pos h0, h3, h4]
theorem v_eq_string {a b : ByteArray} (hx : ev env x = some (.string a)) (hy : ev env y = some (.string b)) : V P N (.binOp .eql xt x y yt) ty env L (.bool (decide (a = b))) := by
  intro f w ha _
  have e : (eqGuard .eql xt x y (.string a) (.string b)).run P w = .ok () w := by unfold eqGuard; simp
  have hb : (a.toList == b.toList) = decide (a = b) := by
    rw [ByteArray.toList_eq, ByteArray.toList_eq, Bool.eq_iff_iff, beq_iff_eq, decide_eq_true_iff]
    constructor
    · intro h; cases a; cases b; simp only [Array.toList_inj] at h; simp [h]
    · intro h; rw [h]
  simp [execOp, ha.ev hx, ha.ev hy, e, binOp, Op.stringOp, hb]
theorem v_ne_string {a b : ByteArray} (hx : ev env x = some (.string a)) (hy : ev env y = some (.string b)) : V P N (.binOp .neq xt x y yt) ty env L (.bool (decide (a ≠ b))) := by
  intro f w ha _
  have e : (eqGuard .neq xt x y (.string a) (.string b)).run P w = .ok () w := by unfold eqGuard; simp
  have hb : (a.toList == b.toList) = decide (a = b) := by
    rw [ByteArray.toList_eq, ByteArray.toList_eq, Bool.eq_iff_iff, beq_iff_eq, decide_eq_true_iff]
    constructor
    · intro h; cases a; cases b; simp only [Array.toList_inj] at h; simp [h]
    · intro h; rw [h]
  simp [execOp, ha.ev hx, ha.ev hy, e, binOp, Op.stringOp, hb]
theorem v_slice_string {lo : Option Operand} {l : Nat} {s : ByteArray} [hT : TU P t .string] (hx : ev env x = some (.string s)) (hl : Bnd env lo 0 l) (h : l ≤ s.size) :
    V P N (.slice t x lo none none) ty env L (.string (s.extract l s.size)) := by
  intro a w ha hw
  have e1 : (Instr.sliceAt t (.string s) (lo.map a.eval) none none).run P w = .ok (.string (s.extract l s.size)) w := by
    cases hl with
    | none => simp [Instr.sliceAt, Instr.slice, Instr.sliceBounds, run_underlying hT.pf]
    | some q q0 => simp [Instr.sliceAt, Instr.slice, Instr.sliceBounds, run_underlying hT.pf, ha.ev q, run_bound q0 h]
  simp [execOp, ha.ev hx, e1]
theorem v_bytes {src dst e : TypeId} {v : Value} {n : Nat} {xs : List Value} {ns : List Int} [hs : TU P src (.slice e)] [he : TU P e (.int .u8)] [hd : TU P dst .string] (hx : ev env x = some v) (hr : RdL L 1 v n xs) (hn : xs = flat byc ns) :
    V P N (.convert src dst x) ty env L (.string (bstr ns)) := by
  intro a w ha hw
  have hfl : flat byc ns = ns.map (Value.int .u8) := by
    clear hn
    induction ns with
    | nil => rfl
    | cons b r ih => rw [List.map_cons, ← ih]; rfl
  have hlen := hr.len w hw
  have e1 : (convert src dst v).run P w = .ok (.string (bstr ns)) w := by
    rcases hr.pf w hw with ⟨p, c, rfl, rfl⟩ | ⟨b, o, c, rfl, hc⟩
    · rw [run_convert_bytes_string w src dst e _ _ _ hs.pf he.pf hd.pf]
      have hnil : ns = [] := by rw [hn, hfl] at hlen; exact List.eq_nil_of_length_eq_zero (by simpa using hlen)
      subst hnil
      cases p with
      | none => simp [Conv.bytesToString, bstr]
      | some p =>
        rw [run_bytesToString w p 0 c [] (by simp [loadCells, loadCellsFrom])]
        rfl
    · rw [run_convert_bytes_string w src dst e _ _ _ hs.pf he.pf hd.pf]
      rw [run_bytesToString w _ n c ns ?_]
      · rfl
      · rw [← hfl, ← hn]
        exact run_loadCells' (by omega) hc
  simp [execOp, ha.ev hx, e1]

/-! ## Interface values -/
def isIfaceD : TypeDesc → Bool
  | .interface _ => true
  | _ => false
theorem v_iface {d : TypeDesc} {u : Value} [hT : TU P t d] (hx : ev env x = some u) (hd : isIfaceD d = false) : V P N (.makeInterface t x) ty env L (.iface t u) := by
  intro a w ha _
  have e1 : (Instr.makeInterface t u).run P w = .ok (.iface t u) w := by
    cases d <;> first | (cases hd; done) | simp [Instr.makeInterface, run_underlying hT.pf]
  simp [execOp, ha.ev hx, e1]
/-- Whether a type's methods are those that another one wants. -/
def missL (want : Array (String × TypeId)) (got : Array Method) : List (String × TypeId) := want.toList.filter fun p => !got.any fun m => m.name == p.1 && m.sig == p.2
theorem miss_none {want : Array (String × TypeId)} {got : Array Method} (h : missL want got = []) : Instr.missingMethod want got = none := by
  unfold Instr.missingMethod
  unfold missL at h
  simp only [h, List.map_nil, List.partition_eq_filter_filter, List.filter_nil]
  rfl
theorem least_some {l : List String} (h : l ≠ []) : ∃ m, Instr.least l = some m := by
  cases l with
  | nil => exact absurd rfl h
  | cons a r => exact ⟨_, rfl⟩
theorem miss_some {want : Array (String × TypeId)} {got : Array Method} (h : missL want got ≠ []) : ∃ m, Instr.missingMethod want got = some m := by
  unfold Instr.missingMethod
  unfold missL at h
  simp only [List.partition_eq_filter_filter]
  generalize List.filter (fun p => !got.any fun m => m.name == p.1 && m.sig == p.2) want.toList = l at h
  by_cases h1 : List.filter (not ∘ fun x : String => x.contains '.') (List.map (fun x => x.1) l) = []
  · rw [h1]
    have h2 : List.filter (fun x : String => x.contains '.') (List.map (fun x => x.1) l) ≠ [] := fun h2 => by
      cases l with
      | nil => exact h rfl
      | cons a r =>
        have k1 := List.filter_eq_nil_iff.1 h1 a.1 (by simp)
        have k2 := List.filter_eq_nil_iff.1 h2 a.1 (by simp)
        simp only [Function.comp] at k1
        revert k1 k2
        generalize (a.1.contains '.') = b
        cases b <;> simp
    obtain ⟨m, hm⟩ := least_some (l := List.map (fun id => (String.splitOn id ".").getLastD id) (List.filter (fun x : String => x.contains '.') (List.map (fun x => x.1) l))) (by simpa using h2)
    exact ⟨m, by rw [hm]; rfl⟩
  · obtain ⟨m, hm⟩ := least_some h1
    exact ⟨m, by rw [hm]; rfl⟩
def hasO (P : Program) (t at' : TypeId) : Option Bool := match P.underlying at', P.info? t with
  | some (.interface want), some i => some (missL want i.methods).isEmpty
  | _, _ => none
class Has (P : Program) (t at' : TypeId) (b : outParam Bool) : Prop where
  pf : hasO P t at' = some b
theorem has_of {t at' : TypeId} {b : Bool} (h : hasO P t at' = some b) : ∃ want i, P.underlying at' = some (.interface want) ∧ P.info? t = some i ∧ (missL want i.methods).isEmpty = b := by
  unfold hasO at h
  split at h
  · rename_i want i h1 h2
    exact ⟨want, i, h1, h2, by simpa using h⟩
  · cases h
theorem v_assert_t {u : Value} {at' : TypeId} (hx : ev env x = some (.iface t u)) (h : Has P t at' true) : V P N (.typeAssert x xt at' true) ty env L (.tuple [.iface t u, .bool true].toArray) := by
  obtain ⟨want, i, h1, h2, h3⟩ := has_of h.pf
  intro a w ha _
  have h4 : Instr.missingMethod want i.methods = none := miss_none (by simpa using h3)
  simp [execOp, ha.ev hx, Instr.typeAssert, run_underlying h1, typeInfo, h2, h4]
theorem v_assert_f {u z : Value} {at' : TypeId} {n bs : Nat} [hZ : TZ P at' n z bs] (hx : ev env x = some (.iface t u)) (h : Has P t at' false) : V P N (.typeAssert x xt at' true) ty env L (.tuple [z, .bool false].toArray) := by
  obtain ⟨want, i, h1, h2, h3⟩ := has_of h.pf
  intro a w ha _
  obtain ⟨m, e⟩ := miss_some (want := want) (got := i.methods) (fun h => by rw [h] at h3; cases h3)
  simp [execOp, ha.ev hx, Instr.typeAssert, run_underlying h1, typeInfo, h2, e, run_zeroValue hZ]

/-- What a value's method is. -/
class Meth (P : Program) (t : TypeId) (v : Value) (name : String) (k : outParam FuncId) (r : outParam Value) : Prop where
  pf : ∀ w, (method (P.types.size + Made.depth) t v name).run P w = .ok (k, r) w
theorem execInvoke {ρ : Operand → Value} {f : Operand} {args : List Operand} {ats : Array TypeId} {k : FuncId} {tv : TypeId} {v r : Value} {name : String} {vs : List Value} (hf : ρ f = .iface tv v) (hm : Meth P tv v name k r) (ha : r :: args.map ρ = vs)
    (he : Enters P k) (w : World) : (execOp ρ ⟨none, .call ⟨.invoke f name, args.toArray, ats⟩, ty, "", #[], none⟩).run P w = .ok (.enter k vs.toArray) w := by
  have e1 : (program).run P w = .ok P w := by simp
  simp only [execOp, resolve, hf, Sem.run_bind, Sem.run_pure, Result.andThen_ok, invoke]
  have e2 : ((#[Value.iface tv v] ++ args.toArray.map ρ)[0]? : Option Value) = some (.iface tv v) := by simp
  simp only [e2, callMethod, Sem.run_bind, e1, Result.andThen_ok, hm.pf]
  rw [he]
  congr 2
  apply Array.ext'
  simp only [← ha, Array.toList_append, Array.toList_extract, List.map_toArray]
  simp [List.extract_eq_take_drop]
  exact List.take_of_length_le (by simp)
theorem K_callI {recv : Operand} {args : List Operand} {ats : Array TypeId} {k : FuncId} {tv : TypeId} {v r : Value} {name : String} {avs vs : List Value} {pre F : List HP} {post : Value → List HP → Prop}
    {pos : String} {aft : Array Edge} {d : Option Nat}
    (hf : ev env recv = some (.iface tv v)) (hm : Meth P tv v name k r) (ha : evs env args = some avs) (hv : r :: avs = vs) (hd : dstOk N d = true) (C : FnF P k vs pre F post) (hE : PickL pre L F) :
    KO P N ⟨d, .call ⟨.invoke recv name, args.toArray, ats⟩, ty, pos, aft, none⟩ env L (Called env d F post) := by
  intro a w hA hw K Q next
  unfold Oper.wp
  rw [execOp_plain, execInvoke (vs := vs) (hA.ev hf) hm (by rw [hA.evs ha]; exact hv) C.enters w]
  refine (C.runs w (hE.pf.sat hw)).mono fun e w' ⟨v, L', he, hp, hs⟩ => ?_
  subst he
  exact next _ _ _ w' ⟨v, L', hp, rfl, rfl⟩ (hA.puts hd v) hs
end
set_option maxRecDepth 100000
/-- A step with strings or interface values. -/
theorem str {Q P : Prop} (k : Q) (h : Hid Q → P := by
  intro k
  (first | (apply WO_v; (first | (apply v_index_string; rfl; rfl; omega; omega) | (apply v_eq_string; rfl; rfl) | (apply v_ne_string; rfl; rfl) | (apply v_slice_string; rfl; (first | exact Bnd.none | (apply bnd_nat; rfl) | (apply Bnd.some; rfl; omega)); omega) | (apply v_bytes; rfl; exact inferInstance; (first | rfl | (with_reducible assumption))) | (apply v_iface; rfl; rfl) | (apply v_assert_t; rfl; exact inferInstance) | (apply v_assert_f; rfl; exact inferInstance)); rfl) | (apply WT_p; rfl; (first | exact GIn.none | (apply gin_t; rfl; rfl; (first | (with_reducible rfl) | exact congrArg Value.bool (by with_reducible assumption) | exact congrArg Value.bool (dec_t (by first | (with_reducible assumption) | (with_reducible rfl) | (with_reducible exact nn_eq) | (with_reducible exact nn_ne) | omega | decide | exact rfl)))) | (apply gin_f; rfl; rfl; (first | (with_reducible rfl) | exact congrArg Value.bool (by with_reducible assumption) | exact congrArg Value.bool (dec_f (by first | (with_reducible assumption) | (with_reducible rfl) | (with_reducible exact nn_eq) | (with_reducible exact nn_ne) | omega | decide | exact rfl))))); (first | (apply v_index_string; rfl; rfl; omega; omega) | (apply v_eq_string; rfl; rfl) | (apply v_ne_string; rfl; rfl) | (apply v_slice_string; rfl; (first | exact Bnd.none | (apply bnd_nat; rfl) | (apply Bnd.some; rfl; omega)); omega) | (apply v_bytes; rfl; exact inferInstance; (first | rfl | (with_reducible assumption))) | (apply v_iface; rfl; rfl) | (apply v_assert_t; rfl; exact inferInstance) | (apply v_assert_f; rfl; exact inferInstance)); rfl) | (apply WT_r; rfl; (first | exact GIn.none | (apply gin_t; rfl; rfl; (first | (with_reducible rfl) | exact congrArg Value.bool (by with_reducible assumption) | exact congrArg Value.bool (dec_t (by first | (with_reducible assumption) | (with_reducible rfl) | (with_reducible exact nn_eq) | (with_reducible exact nn_ne) | omega | decide | exact rfl)))) | (apply gin_f; rfl; rfl; (first | (with_reducible rfl) | exact congrArg Value.bool (by with_reducible assumption) | exact congrArg Value.bool (dec_f (by first | (with_reducible assumption) | (with_reducible rfl) | (with_reducible exact nn_eq) | (with_reducible exact nn_ne) | omega | decide | exact rfl))))); (first | (apply v_index_string; rfl; rfl; omega; omega) | (apply v_eq_string; rfl; rfl) | (apply v_ne_string; rfl; rfl) | (apply v_slice_string; rfl; (first | exact Bnd.none | (apply bnd_nat; rfl) | (apply Bnd.some; rfl; omega)); omega) | (apply v_bytes; rfl; exact inferInstance; (first | rfl | (with_reducible assumption))) | (apply v_iface; rfl; rfl) | (apply v_assert_t; rfl; exact inferInstance) | (apply v_assert_f; rfl; exact inferInstance)); rfl) | (apply WT_v; rfl; (first | exact GIn.none | (apply gin_t; rfl; rfl; (first | (with_reducible rfl) | exact congrArg Value.bool (by with_reducible assumption) | exact congrArg Value.bool (dec_t (by first | (with_reducible assumption) | (with_reducible rfl) | (with_reducible exact nn_eq) | (with_reducible exact nn_ne) | omega | decide | exact rfl)))) | (apply gin_f; rfl; rfl; (first | (with_reducible rfl) | exact congrArg Value.bool (by with_reducible assumption) | exact congrArg Value.bool (dec_f (by first | (with_reducible assumption) | (with_reducible rfl) | (with_reducible exact nn_eq) | (with_reducible exact nn_ne) | omega | decide | exact rfl))))); (first | (apply v_index_string; rfl; rfl; omega; omega) | (apply v_eq_string; rfl; rfl) | (apply v_ne_string; rfl; rfl) | (apply v_slice_string; rfl; (first | exact Bnd.none | (apply bnd_nat; rfl) | (apply Bnd.some; rfl; omega)); omega) | (apply v_bytes; rfl; exact inferInstance; (first | rfl | (with_reducible assumption))) | (apply v_iface; rfl; rfl) | (apply v_assert_t; rfl; exact inferInstance) | (apply v_assert_f; rfl; exact inferInstance)); rfl) | (apply WQ_op; (first | (apply v_index_string; rfl; rfl; omega; omega) | (apply v_eq_string; rfl; rfl) | (apply v_ne_string; rfl; rfl) | (apply v_slice_string; rfl; (first | exact Bnd.none | (apply bnd_nat; rfl) | (apply Bnd.some; rfl; omega)); omega) | (apply v_bytes; rfl; exact inferInstance; (first | rfl | (with_reducible assumption))) | (apply v_iface; rfl; rfl) | (apply v_assert_t; rfl; exact inferInstance) | (apply v_assert_f; rfl; exact inferInstance)); rfl))
  exact k.out) : P := h ⟨k⟩
/-- A call through an interface value, by its contract. -/
theorem cali {C Q P : Prop} (c : C) (k : Q) (h : C → Hid Q → P := by
  intro c k
  first
  | (apply WO_k; rfl; (focus (apply K_callI; rfl; exact inferInstance; rfl; rfl; rfl; apply c; (all_goals (try (focus ((repeat (first | (with_reducible exact pl_nil) | (apply pl_cons; focus (repeat (first | (with_reducible exact pk_here) | (apply pk_there)))))); done)))); (all_goals (focus (first | (with_reducible assumption) | exact inferInstance | exact rd_lit inferInstance rfl rfl | (with_reducible rfl) | omega | (unfold I64; omega) | (constructor <;> omega) | decide))))); refine called_some ?_; exact k.out)
  | (apply WT_k; rfl; (first | exact GIn.none | (apply gin_t; rfl; rfl; (first | (with_reducible rfl) | exact congrArg Value.bool (by with_reducible assumption) | exact congrArg Value.bool (dec_t (by first | (with_reducible assumption) | (with_reducible rfl) | (with_reducible exact nn_eq) | (with_reducible exact nn_ne) | omega | decide | exact rfl)))) | (apply gin_f; rfl; rfl; (first | (with_reducible rfl) | exact congrArg Value.bool (by with_reducible assumption) | exact congrArg Value.bool (dec_f (by first | (with_reducible assumption) | (with_reducible rfl) | (with_reducible exact nn_eq) | (with_reducible exact nn_ne) | omega | decide | exact rfl))))); (focus (apply K_callI; rfl; exact inferInstance; rfl; rfl; rfl; apply c; (all_goals (try (focus ((repeat (first | (with_reducible exact pl_nil) | (apply pl_cons; focus (repeat (first | (with_reducible exact pk_here) | (apply pk_there)))))); done)))); (all_goals (focus (first | (with_reducible assumption) | exact inferInstance | exact rd_lit inferInstance rfl rfl | (with_reducible rfl) | omega | (unfold I64; omega) | (constructor <;> omega) | decide))))); refine called_some ?_; exact k.out)) : P := h c ⟨k⟩
end Go.Sx

/- Messages: what the functions of package message do, and the document's. My own work. -/
namespace Go.Sx
open Go Go.Proofs
set_option linter.unusedVariables false
set_option linter.unusedSectionVars false
set_option linter.unusedSimpArgs false

/-! ## What a message must be like -/
def netK (k : Int) : Int := if 1 ≤ k ∧ k ≤ 3 then 0 else if 4 ≤ k ∧ k ≤ 6 then 1 else if 7 ≤ k ∧ k ≤ 11 then 2 else -1
def HomeP (k : Int) : Prop := (1 ≤ k ∧ k ≤ 3) ∨ k = 11
instance (k : Int) : Decidable (HomeP k) := by unfold HomeP; infer_instance
def homeN (c : Cfg) (m : Msg) : Int := m.line.tmod c.homes
def InP (n k : Int) : Prop := 0 ≤ n ∧ n < k
instance (n k : Int) : Decidable (InP n k) := by unfold InP; infer_instance
def PlainP (c : Cfg) (m : Msg) (a : Bool) : Prop := m.who = 0 ∧ m.own = 0 ∧ 0 ≤ m.acks ∧ m.acks < (if a then c.cores else 1)
instance (c : Cfg) (m : Msg) (a : Bool) : Decidable (PlainP c m a) := by unfold PlainP; infer_instance
def UpP (c : Cfg) (m : Msg) : Prop := (0 ≤ m.src ∧ m.src < c.cores) ∧ m.dst = homeN c m ∧ PlainP c m false
instance (c : Cfg) (m : Msg) : Decidable (UpP c m) := by unfold UpP; infer_instance
def DownP (c : Cfg) (m : Msg) (a : Bool) : Prop := m.src = homeN c m ∧ (0 ≤ m.dst ∧ m.dst < c.cores) ∧ PlainP c m a
instance (c : Cfg) (m : Msg) (a : Bool) : Decidable (DownP c m a) := by unfold DownP; infer_instance
def AcrossP (c : Cfg) (m : Msg) : Prop := (0 ≤ m.src ∧ m.src < c.cores) ∧ (0 ≤ m.dst ∧ m.dst < c.cores) ∧ m.src ≠ m.dst ∧ PlainP c m false
instance (c : Cfg) (m : Msg) : Decidable (AcrossP c m) := by unfold AcrossP; infer_instance
def ForwardP (c : Cfg) (m : Msg) (a : Bool) : Prop := (0 ≤ m.who ∧ m.who < c.cores) ∧ m.who ≠ m.dst ∧ DownP c { m with who := 0 } a
instance (c : Cfg) (m : Msg) (a : Bool) : Decidable (ForwardP c m a) := by unfold ForwardP; infer_instance
def DataP (c : Cfg) (m : Msg) : Prop := (m.own = 1 ∨ m.own = 2 ∨ m.own = 4) ∧ (0 ≤ m.acks ∧ m.acks < c.cores) ∧ (0 ≤ m.dst ∧ m.dst < c.cores) ∧ ((m.who = 0 ∧ m.src = homeN c m) ∨ (m.who = 1 ∧ (0 ≤ m.src ∧ m.src < c.cores) ∧ m.src ≠ m.dst))
instance (c : Cfg) (m : Msg) : Decidable (DataP c m) := by unfold DataP; infer_instance
def Words.at (w : Words) (i : Nat) : Int := w.list.getD i 0
def OkAt (c : Cfg) (w : Words) (i : Nat) : Prop := -2147483648 ≤ w.at i ∧ w.at i ≤ 2147483647 ∧ (c.words ≤ i → w.at i = 0)
instance (c : Cfg) (w : Words) (i : Nat) : Decidable (OkAt c w i) := by unfold OkAt; infer_instance
def ValsP (c : Cfg) (w : Words) : Prop := ∀ i, i < 8 → OkAt c w i
instance (c : Cfg) (w : Words) : Decidable (ValsP c w) := by unfold ValsP; infer_instance
def FormP (c : Cfg) (m : Msg) : Prop :=
  if HomeP m.kind then UpP c m else if m.kind = 4 ∨ m.kind = 6 then ForwardP c m false else if m.kind = 5 then ForwardP c m true else if m.kind = 7 then DataP c m else if m.kind = 8 then DownP c m true else if m.kind = 10 then DownP c m false else AcrossP c m
instance (c : Cfg) (m : Msg) : Decidable (FormP c m) := by unfold FormP; infer_instance
def Wordy (k : Int) : Prop := k = 3 ∨ k = 7
instance (k : Int) : Decidable (Wordy k) := by unfold Wordy; infer_instance
def WordsP (c : Cfg) (m : Msg) : Prop := if Wordy m.kind then ValsP c m.words else m.words = .zero
instance (c : Cfg) (m : Msg) : Decidable (WordsP c m) := by unfold WordsP; infer_instance
def MayP (c : Cfg) (m : Msg) : Prop := checkB c = true ∧ (1 ≤ m.kind ∧ m.kind ≤ 11) ∧ (0 ≤ m.line ∧ m.line < c.lines) ∧ FormP c m ∧ WordsP c m
instance (c : Cfg) (m : Msg) : Decidable (MayP c m) := by unfold MayP; infer_instance

instance : Meth Tryz.prog 294 (.agg #[]) "mesne/message.fits" 263 (.agg #[]) := ⟨fun w => by kernel_rfl⟩
instance : Meth Tryz.prog 296 (.agg #[]) "mesne/message.fits" 263 (.agg #[]) := ⟨fun w => by kernel_rfl⟩
instance : Meth Tryz.prog 296 (.agg #[]) "mesne/message.words" 266 (.agg #[]) := ⟨fun w => by kernel_rfl⟩
instance : Meth Tryz.prog 299 (.agg #[]) "mesne/message.fits" 270 (.agg #[]) := ⟨fun w => by kernel_rfl⟩
instance : Meth Tryz.prog 299 (.agg #[]) "mesne/message.words" 271 (.agg #[]) := ⟨fun w => by kernel_rfl⟩
instance : Meth Tryz.prog 301 (.agg #[]) "mesne/message.fits" 272 (.agg #[]) := ⟨fun w => by kernel_rfl⟩
instance : Meth Tryz.prog 298 (.agg #[.bool false]) "mesne/message.fits" 268 (.agg #[.bool false]) := ⟨fun w => by kernel_rfl⟩
instance : Meth Tryz.prog 298 (.agg #[.bool true]) "mesne/message.fits" 268 (.agg #[.bool true]) := ⟨fun w => by kernel_rfl⟩
instance : Meth Tryz.prog 300 (.agg #[.bool false]) "mesne/message.fits" 269 (.agg #[.bool false]) := ⟨fun w => by kernel_rfl⟩
instance : Meth Tryz.prog 300 (.agg #[.bool true]) "mesne/message.fits" 269 (.agg #[.bool true]) := ⟨fun w => by kernel_rfl⟩
instance : Has Tryz.prog 296 255 true := ⟨by kernel_rfl⟩
instance : Has Tryz.prog 299 255 true := ⟨by kernel_rfl⟩
instance : Has Tryz.prog 294 255 false := ⟨by kernel_rfl⟩
instance : Has Tryz.prog 300 255 false := ⟨by kernel_rfl⟩
instance : Has Tryz.prog 301 255 false := ⟨by kernel_rfl⟩
instance : Has Tryz.prog 298 255 false := ⟨by kernel_rfl⟩
set_option maxRecDepth 100000
set_option maxHeartbeats 4000000
attribute [local irreducible] Go.Exit.then Go.Exit.inBlock Go.Code.wp WC WO WE WQ V LoopQ FnQ Sat Star band bor IntKind.wrap WR Code.rounds WT KO
theorem msg_Net {F : List HP} {k : Int} : FnF Tryz.prog 151 [.int .i64 k] [] F (fun r L' => r = .int .i64 (netK k) ∧ L' = []) := by
  refine FnF.mk' Tryz.func151 rfl rfl Tryz.ntmps151 rfl ?_
  repeat' (first | rintro _ _ ⟨rfl, rfl⟩ | refine exq fun _ => ?_ | intro _ | refine go ?_ | refine drq ?_ | refine spl ?_ ?_ | fail)
  all_goals ((apply WE_ret rfl rfl (by (repeat (first | exact ResOk.nil | (apply ResOk.tmp; rfl) | (apply resOk_cell; rfl; exact inferInstance; rfl; rfl))))); (refine ⟨congrArg (Value.int .i64) ?_, rfl⟩; unfold netK; repeat (first | rfl | (rw [if_pos (by omega)]) | (rw [if_neg (by omega)]))); exact entu0)
theorem msg_Home {F : List HP} {k : Int} : FnF Tryz.prog 74 [.int .i64 k] [] F (fun r L' => r = .bool (decide (HomeP k)) ∧ L' = []) := by
  have h : netK k = 0 ↔ (1 ≤ k ∧ k ≤ 3) := by unfold netK; split <;> (try split) <;> (try split) <;> omega
  refine FnF.mk' Tryz.func74 rfl rfl Tryz.ntmps74 rfl ?_
  repeat' (first | rintro _ _ ⟨rfl, rfl⟩ | refine exq fun _ => ?_ | intro _ | refine go ?_ | refine drq ?_ | refine cal @msg_Net ?_ | refine spl ?_ ?_ | fail)
  all_goals (apply WE_ret rfl rfl (by (repeat (first | exact ResOk.nil | (apply ResOk.tmp; rfl) | (apply resOk_cell; rfl; exact inferInstance; rfl; rfl)))); (refine ⟨congrArg Value.bool ?_, rfl⟩; (first | (refine decide_eq_decide.2 ?_) | (refine (decide_eq_true ?_).symm) | (refine (decide_eq_false ?_).symm)); (first | omega | (simp only [HomeP, h]; omega))); (repeat (first | exact Ent.refl | exact Ent.nil | apply Ent.pick | apply Ent.drop)))
theorem msg_within {F : List HP} {n k : Int} : FnF Tryz.prog 152 [.int .i64 n, .int .i64 k] [] F (fun r L' => r = .bool (decide (InP n k)) ∧ L' = []) := by
  refine FnF.mk' Tryz.func152 rfl rfl Tryz.ntmps152 rfl ?_
  repeat' (first | rintro _ _ ⟨rfl, rfl⟩ | refine exq fun _ => ?_ | intro _ | refine go ?_ | refine drq ?_ | refine spl ?_ ?_ | fail)
  all_goals (apply WE_ret rfl rfl (by (repeat (first | exact ResOk.nil | (apply ResOk.tmp; rfl) | (apply resOk_cell; rfl; exact inferInstance; rfl; rfl)))); (refine ⟨congrArg Value.bool ?_, rfl⟩; (first | (refine decide_eq_decide.2 ?_) | (refine (decide_eq_true ?_).symm) | (refine (decide_eq_false ?_).symm)); (first | omega | (simp only [InP]; omega))); (repeat (first | exact Ent.refl | exact Ent.nil | apply Ent.pick | apply Ent.drop)))
theorem msg_home {F : List HP} {c : Cfg} {m : Msg} (h : c.homes ≠ 0) : FnF Tryz.prog 264 [c.val, mv m] [] F (fun r L' => r = .int .i64 (homeN c m) ∧ L' = []) := by
  refine FnF.mk' Tryz.func264 rfl rfl Tryz.ntmps264 rfl ?_
  repeat (first | rintro _ _ ⟨rfl, rfl⟩ | refine exq fun _ => ?_ | intro _ | refine go ?_ | refine drq ?_)
  (apply WE_ret rfl rfl (by (repeat (first | exact ResOk.nil | (apply ResOk.tmp; rfl) | (apply resOk_cell; rfl; exact inferInstance; rfl; rfl)))); (first | exact ⟨rfl, rfl⟩ | exact ⟨congrArg Value.bool (by decide), rfl⟩ | exact ⟨_, rfl, rfl⟩ | exact ⟨_, _, rfl, rfl⟩ | exact ⟨by first | (simp [homeN]; done) | (simp [homeN] <;> omega), rfl⟩); (repeat (first | exact Ent.refl | exact Ent.nil | apply Ent.pick | apply Ent.drop)))
theorem msg_plain {F : List HP} {c : Cfg} {m : Msg} {a : Bool} : FnF Tryz.prog 265 [c.val, mv m, .bool a] [] F (fun r L' => r = .bool (decide (PlainP c m a)) ∧ L' = []) := by
  refine FnF.mk' Tryz.func265 rfl rfl Tryz.ntmps265 rfl ?_
  cases a with
  | true =>
    repeat' (first | rintro _ _ ⟨rfl, rfl⟩ | refine exq fun _ => ?_ | intro _ | refine go ?_ | refine drq ?_ | refine cal @msg_within ?_ | refine spl ?_ ?_ | fail)
    all_goals (apply WE_ret rfl rfl (by (repeat (first | exact ResOk.nil | (apply ResOk.tmp; rfl) | (apply resOk_cell; rfl; exact inferInstance; rfl; rfl)))); (refine ⟨congrArg Value.bool ?_, rfl⟩; (first | (refine decide_eq_decide.2 ?_) | (refine (decide_eq_true ?_).symm) | (refine (decide_eq_false ?_).symm)); (first | omega | (simp only [PlainP, InP, if_true]; omega))); (repeat (first | exact Ent.refl | exact Ent.nil | apply Ent.pick | apply Ent.drop)))
  | false =>
    repeat' (first | rintro _ _ ⟨rfl, rfl⟩ | refine exq fun _ => ?_ | intro _ | refine go ?_ | refine drq ?_ | refine cal @msg_within ?_ | refine spl ?_ ?_ | fail)
    all_goals (apply WE_ret rfl rfl (by (repeat (first | exact ResOk.nil | (apply ResOk.tmp; rfl) | (apply resOk_cell; rfl; exact inferInstance; rfl; rfl)))); (refine ⟨congrArg Value.bool ?_, rfl⟩; (first | (refine decide_eq_decide.2 ?_) | (refine (decide_eq_true ?_).symm) | (refine (decide_eq_false ?_).symm)); (first | omega | (simp only [PlainP, InP, Bool.false_eq_true, if_false]; omega))); (repeat (first | exact Ent.refl | exact Ent.nil | apply Ent.pick | apply Ent.drop)))
theorem msg_up {F : List HP} {c : Cfg} {m : Msg} (h : c.homes ≠ 0) : FnF Tryz.prog 263 [.agg #[], c.val, mv m] [] F (fun r L' => r = .bool (decide (UpP c m)) ∧ L' = []) := by
  have hW := fun F => msg_within (F := F) (n := m.src) (k := c.cores)
  simp only [InP] at hW
  refine FnF.mk' Tryz.func263 rfl rfl Tryz.ntmps263 rfl ?_
  repeat' (first | rintro _ _ ⟨rfl, rfl⟩ | refine exq fun _ => ?_ | intro _ | refine go ?_ | refine drq ?_ | refine cal @hW ?_ | refine cal @msg_home ?_ | refine cal @msg_plain ?_ | refine spl ?_ ?_ | fail)
  all_goals (apply WE_ret rfl rfl (by (repeat (first | exact ResOk.nil | (apply ResOk.tmp; rfl) | (apply resOk_cell; rfl; exact inferInstance; rfl; rfl)))); (refine ⟨congrArg Value.bool ?_, rfl⟩; (first | (refine decide_eq_decide.2 ?_) | (refine (decide_eq_true ?_).symm) | (refine (decide_eq_false ?_).symm)); (first | omega | (simp only [UpP, PlainP, Bool.false_eq_true, if_false]; omega))); (repeat (first | exact Ent.refl | exact Ent.nil | apply Ent.pick | apply Ent.drop)))
theorem msg_down {F : List HP} {c : Cfg} {m : Msg} {a : Bool} (h : c.homes ≠ 0) : FnF Tryz.prog 269 [.agg #[.bool a], c.val, mv m] [] F (fun r L' => r = .bool (decide (DownP c m a)) ∧ L' = []) := by
  have hW := fun F => msg_within (F := F) (n := m.dst) (k := c.cores)
  simp only [InP] at hW
  refine FnF.mk' Tryz.func269 rfl rfl Tryz.ntmps269 rfl ?_
  repeat' (first | rintro _ _ ⟨rfl, rfl⟩ | refine exq fun _ => ?_ | intro _ | refine go ?_ | refine drq ?_ | refine cal @hW ?_ | refine cal @msg_home ?_ | refine cal @msg_plain ?_ | refine spl ?_ ?_ | fail)
  all_goals first | (apply WE_ret rfl rfl (by (repeat (first | exact ResOk.nil | (apply ResOk.tmp; rfl) | (apply resOk_cell; rfl; exact inferInstance; rfl; rfl)))); (refine ⟨congrArg Value.bool ?_, rfl⟩; (first | (refine decide_eq_decide.2 ?_) | (refine (decide_eq_true ?_).symm) | (refine (decide_eq_false ?_).symm)); (first | omega | (simp only [DownP]; omega))); (repeat (first | exact Ent.refl | exact Ent.nil | apply Ent.pick | apply Ent.drop))) | (apply WE_ret rfl rfl (by repeat (first | exact ResOk.nil | (apply ResOk.tmp; rfl))); (refine ⟨congrArg Value.bool (decide_eq_decide.2 ⟨fun h => ⟨by assumption, by assumption, h⟩, fun h => h.2.2⟩), rfl⟩); (repeat (first | exact Ent.refl | exact Ent.nil | apply Ent.pick | apply Ent.drop)))
theorem msg_across {F : List HP} {c : Cfg} {m : Msg} : FnF Tryz.prog 272 [.agg #[], c.val, mv m] [] F (fun r L' => r = .bool (decide (AcrossP c m)) ∧ L' = []) := by
  have hW := fun F => msg_within (F := F) (n := m.src) (k := c.cores)
  have hV := fun F => msg_within (F := F) (n := m.dst) (k := c.cores)
  simp only [InP] at hW hV
  refine FnF.mk' Tryz.func272 rfl rfl Tryz.ntmps272 rfl ?_
  repeat' (first | rintro _ _ ⟨rfl, rfl⟩ | refine exq fun _ => ?_ | intro _ | refine go ?_ | refine drq ?_ | refine cal @hW ?_ | refine cal @hV ?_ | refine cal @msg_plain ?_ | refine spl ?_ ?_ | fail)
  all_goals (apply WE_ret rfl rfl (by (repeat (first | exact ResOk.nil | (apply ResOk.tmp; rfl) | (apply resOk_cell; rfl; exact inferInstance; rfl; rfl)))); (refine ⟨congrArg Value.bool ?_, rfl⟩; (first | (refine decide_eq_decide.2 ?_) | (refine (decide_eq_true ?_).symm) | (refine (decide_eq_false ?_).symm)); (first | omega | (simp only [AcrossP, PlainP, Bool.false_eq_true, if_false]; omega))); (repeat (first | exact Ent.refl | exact Ent.nil | apply Ent.pick | apply Ent.drop)))
theorem msg_forward {F : List HP} {c : Cfg} {m : Msg} {a : Bool} (h : c.homes ≠ 0) : FnF Tryz.prog 268 [.agg #[.bool a], c.val, mv m] [] F (fun r L' => r = .bool (decide (ForwardP c m a)) ∧ L' = []) := by
  have hW := fun F => msg_within (F := F) (n := m.who) (k := c.cores)
  have hD := fun F => msg_down (F := F) (c := c) (m := { m with who := 0 }) (a := a) h
  simp only [InP] at hW
  refine FnF.mk' Tryz.func268 rfl rfl Tryz.ntmps268 rfl ?_
  repeat' (first | rintro _ _ ⟨rfl, rfl⟩ | refine exq fun _ => ?_ | intro _ | refine go ?_ | refine drq ?_ | refine cal @hW ?_ | refine cal @hD ?_ | refine spl ?_ ?_ | fail)
  all_goals first | (apply WE_ret rfl rfl (by (repeat (first | exact ResOk.nil | (apply ResOk.tmp; rfl) | (apply resOk_cell; rfl; exact inferInstance; rfl; rfl)))); (refine ⟨congrArg Value.bool ?_, rfl⟩; (first | (refine decide_eq_decide.2 ?_) | (refine (decide_eq_true ?_).symm) | (refine (decide_eq_false ?_).symm)); (first | omega | (simp only [ForwardP]; omega))); (repeat (first | exact Ent.refl | exact Ent.nil | apply Ent.pick | apply Ent.drop))) | (apply WE_ret rfl rfl (by repeat (first | exact ResOk.nil | (apply ResOk.tmp; rfl))); (refine ⟨congrArg Value.bool (decide_eq_decide.2 ⟨fun h => ⟨by assumption, by assumption, h⟩, fun h => h.2.2⟩), rfl⟩); (repeat (first | exact Ent.refl | exact Ent.nil | apply Ent.pick | apply Ent.drop)))
theorem dr_Msg_270 {Q P : Prop} (k : Q) (h : Hid Q → P := by
  intro k
  first
  | (refine is_draw ?_; apply WC_mix (id := 6) .false _ (pl := .p 0 <| .r 1 <| .r 2 <| .r 3 <| .e true [(4, .p 5 <| .p 6 <| .done)]); exact mixed; kernel_rfl; kernel_rfl; exact Ent.refl; exact k.out)) : P := h ⟨k⟩
theorem msg_data {F : List HP} {c : Cfg} {m : Msg} (h : c.homes ≠ 0) : FnF Tryz.prog 270 [.agg #[], c.val, mv m] [] F (fun r L' => r = .bool (decide (DataP c m)) ∧ L' = []) := by
  have hW := fun F => msg_within (F := F) (n := m.src) (k := c.cores)
  have hV := fun F => msg_within (F := F) (n := m.dst) (k := c.cores)
  have hP := fun F => msg_plain (F := F) (c := c) (m := { m with who := 0, own := 0 }) (a := true)
  have hH := fun F => msg_home (F := F) (c := c) (m := { m with who := 0, own := 0 }) h
  simp only [PlainP, if_true, InP, true_and] at hW hV hP
  have hh : homeN c { m with who := 0, own := 0 } = homeN c m := rfl
  simp only [hh] at hH
  refine FnF.mk' Tryz.func270 rfl rfl Tryz.ntmps270 rfl ?_
  repeat' (first | rintro _ _ ⟨rfl, rfl⟩ | refine exq fun _ => ?_ | intro _ | refine go ?_ | refine dr_Msg_270 ?_ | refine drq ?_ | refine cal @hW ?_ | refine cal @hV ?_ | refine cal @hP ?_ | refine cal @hH ?_ | refine spl ?_ ?_ | fail)
  all_goals (apply WE_ret rfl rfl (by (repeat (first | exact ResOk.nil | (apply ResOk.tmp; rfl) | (apply resOk_cell; rfl; exact inferInstance; rfl; rfl)))); (refine ⟨congrArg Value.bool ?_, rfl⟩; (first | (refine decide_eq_decide.2 ?_) | (refine (decide_eq_true ?_).symm) | (refine (decide_eq_false ?_).symm)); (first | omega | (simp only [DataP]; omega))); (repeat (first | exact Ent.refl | exact Ent.nil | apply Ent.pick | apply Ent.drop)))
end Go.Sx

/- Messages, second part: words, forms, May. My own work. -/
namespace Go.Sx
open Go Go.Proofs
set_option linter.unusedVariables false
set_option linter.unusedSectionVars false
set_option linter.unusedSimpArgs false
set_option maxRecDepth 100000
set_option maxHeartbeats 4000000
attribute [local irreducible] Go.Exit.then Go.Exit.inBlock Go.Code.wp WC WO WE WQ V LoopQ FnQ Sat Star band bor IntKind.wrap WR Code.rounds WT KO
theorem msg_values {F : List HP} {c : Cfg} {m : Msg} : FnF Tryz.prog 267 [c.val, mv m] [] F (fun r L' => r = .bool (decide (ValsP c m.words)) ∧ L' = []) := by
  refine FnF.mk' Tryz.func267 rfl rfl Tryz.ntmps267 rfl ?_
  repeat (first | rintro _ _ ⟨rfl, rfl⟩ | refine exq fun _ => ?_ | intro _ | refine go ?_ | refine drq ?_)
  rename_i bs bm
  apply WC_loopE (E0 := [(2, _), (8, _)]) (fun E0 (i : Nat) => (9, .int .i64 i) :: E0) (fun _ => Cells bm 38 (mc m) :: Cells bs 24 c.cells :: F) (fun i => i ≤ 8 ∧ ∀ j, j < i → OkAt c m.words j) (fun i => 8 - i) 0
  · (repeat (first | exact Sub.nil | (refine Sub.cons (by first | rfl | (simp only [Nat.zero_add]; rfl)) ?_)))
  · exact ⟨by omega, fun j hj => by omega⟩
  · exact entu0
  · rintro i ⟨hi, hok⟩
    by_cases hlt : i < 8
    · have hcase : i = 0 ∨ i = 1 ∨ i = 2 ∨ i = 3 ∨ i = 4 ∨ i = 5 ∨ i = 6 ∨ i = 7 := by omega
      rcases hcase with rfl | rfl | rfl | rfl | rfl | rfl | rfl | rfl
      · have ho : OkAt c m.words 0 ↔ (-2147483648 ≤ m.words.w0 ∧ m.words.w0 ≤ 2147483647 ∧ (c.words ≤ 0 → m.words.w0 = 0)) := Iff.rfl
        have hn : ¬ OkAt c m.words 0 → ¬ ValsP c m.words := fun h hv => h (hv 0 (by omega))
        repeat' (first | rintro _ _ ⟨rfl, rfl⟩ | refine exq fun _ => ?_ | intro _ | refine go ?_ | refine drq ?_ | refine spl ?_ ?_ | fail)
        all_goals first
        | (have hno := hn (fun h => by have := ho.1 h; omega)
           (apply WE_ret rfl rfl (by (repeat (first | exact ResOk.nil | (apply ResOk.tmp; rfl) | (apply resOk_cell; rfl; exact inferInstance; rfl; rfl)))); (first | exact ⟨rfl, rfl⟩ | exact ⟨congrArg Value.bool (by decide), rfl⟩ | exact ⟨_, rfl, rfl⟩ | exact ⟨_, _, rfl, rfl⟩ | exact ⟨by first | (simp [hno]; done) | (simp [hno] <;> omega), rfl⟩); (repeat (first | exact Ent.refl | exact Ent.nil | apply Ent.pick | apply Ent.drop))))
        | (have hyes := ho.2 (by omega)
           refine WE_loop 1 (by omega) ⟨by omega, fun j hj => ?_⟩ ?_ ?_
           · by_cases hjl : j = 0
             · subst hjl; exact hyes
             · exact hok j (by omega)
           · (repeat (first | exact Sub.nil | (refine Sub.cons (by first | rfl | (simp only [Nat.zero_add]; rfl)) ?_)))
           · exact entu0)
      · have ho : OkAt c m.words 1 ↔ (-2147483648 ≤ m.words.w1 ∧ m.words.w1 ≤ 2147483647 ∧ (c.words ≤ 1 → m.words.w1 = 0)) := Iff.rfl
        have hn : ¬ OkAt c m.words 1 → ¬ ValsP c m.words := fun h hv => h (hv 1 (by omega))
        repeat' (first | rintro _ _ ⟨rfl, rfl⟩ | refine exq fun _ => ?_ | intro _ | refine go ?_ | refine drq ?_ | refine spl ?_ ?_ | fail)
        all_goals first
        | (have hno := hn (fun h => by have := ho.1 h; omega)
           (apply WE_ret rfl rfl (by (repeat (first | exact ResOk.nil | (apply ResOk.tmp; rfl) | (apply resOk_cell; rfl; exact inferInstance; rfl; rfl)))); (first | exact ⟨rfl, rfl⟩ | exact ⟨congrArg Value.bool (by decide), rfl⟩ | exact ⟨_, rfl, rfl⟩ | exact ⟨_, _, rfl, rfl⟩ | exact ⟨by first | (simp [hno]; done) | (simp [hno] <;> omega), rfl⟩); (repeat (first | exact Ent.refl | exact Ent.nil | apply Ent.pick | apply Ent.drop))))
        | (have hyes := ho.2 (by omega)
           refine WE_loop 2 (by omega) ⟨by omega, fun j hj => ?_⟩ ?_ ?_
           · by_cases hjl : j = 1
             · subst hjl; exact hyes
             · exact hok j (by omega)
           · (repeat (first | exact Sub.nil | (refine Sub.cons (by first | rfl | (simp only [Nat.zero_add]; rfl)) ?_)))
           · exact entu0)
      · have ho : OkAt c m.words 2 ↔ (-2147483648 ≤ m.words.w2 ∧ m.words.w2 ≤ 2147483647 ∧ (c.words ≤ 2 → m.words.w2 = 0)) := Iff.rfl
        have hn : ¬ OkAt c m.words 2 → ¬ ValsP c m.words := fun h hv => h (hv 2 (by omega))
        repeat' (first | rintro _ _ ⟨rfl, rfl⟩ | refine exq fun _ => ?_ | intro _ | refine go ?_ | refine drq ?_ | refine spl ?_ ?_ | fail)
        all_goals first
        | (have hno := hn (fun h => by have := ho.1 h; omega)
           (apply WE_ret rfl rfl (by (repeat (first | exact ResOk.nil | (apply ResOk.tmp; rfl) | (apply resOk_cell; rfl; exact inferInstance; rfl; rfl)))); (first | exact ⟨rfl, rfl⟩ | exact ⟨congrArg Value.bool (by decide), rfl⟩ | exact ⟨_, rfl, rfl⟩ | exact ⟨_, _, rfl, rfl⟩ | exact ⟨by first | (simp [hno]; done) | (simp [hno] <;> omega), rfl⟩); (repeat (first | exact Ent.refl | exact Ent.nil | apply Ent.pick | apply Ent.drop))))
        | (have hyes := ho.2 (by omega)
           refine WE_loop 3 (by omega) ⟨by omega, fun j hj => ?_⟩ ?_ ?_
           · by_cases hjl : j = 2
             · subst hjl; exact hyes
             · exact hok j (by omega)
           · (repeat (first | exact Sub.nil | (refine Sub.cons (by first | rfl | (simp only [Nat.zero_add]; rfl)) ?_)))
           · exact entu0)
      · have ho : OkAt c m.words 3 ↔ (-2147483648 ≤ m.words.w3 ∧ m.words.w3 ≤ 2147483647 ∧ (c.words ≤ 3 → m.words.w3 = 0)) := Iff.rfl
        have hn : ¬ OkAt c m.words 3 → ¬ ValsP c m.words := fun h hv => h (hv 3 (by omega))
        repeat' (first | rintro _ _ ⟨rfl, rfl⟩ | refine exq fun _ => ?_ | intro _ | refine go ?_ | refine drq ?_ | refine spl ?_ ?_ | fail)
        all_goals first
        | (have hno := hn (fun h => by have := ho.1 h; omega)
           (apply WE_ret rfl rfl (by (repeat (first | exact ResOk.nil | (apply ResOk.tmp; rfl) | (apply resOk_cell; rfl; exact inferInstance; rfl; rfl)))); (first | exact ⟨rfl, rfl⟩ | exact ⟨congrArg Value.bool (by decide), rfl⟩ | exact ⟨_, rfl, rfl⟩ | exact ⟨_, _, rfl, rfl⟩ | exact ⟨by first | (simp [hno]; done) | (simp [hno] <;> omega), rfl⟩); (repeat (first | exact Ent.refl | exact Ent.nil | apply Ent.pick | apply Ent.drop))))
        | (have hyes := ho.2 (by omega)
           refine WE_loop 4 (by omega) ⟨by omega, fun j hj => ?_⟩ ?_ ?_
           · by_cases hjl : j = 3
             · subst hjl; exact hyes
             · exact hok j (by omega)
           · (repeat (first | exact Sub.nil | (refine Sub.cons (by first | rfl | (simp only [Nat.zero_add]; rfl)) ?_)))
           · exact entu0)
      · have ho : OkAt c m.words 4 ↔ (-2147483648 ≤ m.words.w4 ∧ m.words.w4 ≤ 2147483647 ∧ (c.words ≤ 4 → m.words.w4 = 0)) := Iff.rfl
        have hn : ¬ OkAt c m.words 4 → ¬ ValsP c m.words := fun h hv => h (hv 4 (by omega))
        repeat' (first | rintro _ _ ⟨rfl, rfl⟩ | refine exq fun _ => ?_ | intro _ | refine go ?_ | refine drq ?_ | refine spl ?_ ?_ | fail)
        all_goals first
        | (have hno := hn (fun h => by have := ho.1 h; omega)
           (apply WE_ret rfl rfl (by (repeat (first | exact ResOk.nil | (apply ResOk.tmp; rfl) | (apply resOk_cell; rfl; exact inferInstance; rfl; rfl)))); (first | exact ⟨rfl, rfl⟩ | exact ⟨congrArg Value.bool (by decide), rfl⟩ | exact ⟨_, rfl, rfl⟩ | exact ⟨_, _, rfl, rfl⟩ | exact ⟨by first | (simp [hno]; done) | (simp [hno] <;> omega), rfl⟩); (repeat (first | exact Ent.refl | exact Ent.nil | apply Ent.pick | apply Ent.drop))))
        | (have hyes := ho.2 (by omega)
           refine WE_loop 5 (by omega) ⟨by omega, fun j hj => ?_⟩ ?_ ?_
           · by_cases hjl : j = 4
             · subst hjl; exact hyes
             · exact hok j (by omega)
           · (repeat (first | exact Sub.nil | (refine Sub.cons (by first | rfl | (simp only [Nat.zero_add]; rfl)) ?_)))
           · exact entu0)
      · have ho : OkAt c m.words 5 ↔ (-2147483648 ≤ m.words.w5 ∧ m.words.w5 ≤ 2147483647 ∧ (c.words ≤ 5 → m.words.w5 = 0)) := Iff.rfl
        have hn : ¬ OkAt c m.words 5 → ¬ ValsP c m.words := fun h hv => h (hv 5 (by omega))
        repeat' (first | rintro _ _ ⟨rfl, rfl⟩ | refine exq fun _ => ?_ | intro _ | refine go ?_ | refine drq ?_ | refine spl ?_ ?_ | fail)
        all_goals first
        | (have hno := hn (fun h => by have := ho.1 h; omega)
           (apply WE_ret rfl rfl (by (repeat (first | exact ResOk.nil | (apply ResOk.tmp; rfl) | (apply resOk_cell; rfl; exact inferInstance; rfl; rfl)))); (first | exact ⟨rfl, rfl⟩ | exact ⟨congrArg Value.bool (by decide), rfl⟩ | exact ⟨_, rfl, rfl⟩ | exact ⟨_, _, rfl, rfl⟩ | exact ⟨by first | (simp [hno]; done) | (simp [hno] <;> omega), rfl⟩); (repeat (first | exact Ent.refl | exact Ent.nil | apply Ent.pick | apply Ent.drop))))
        | (have hyes := ho.2 (by omega)
           refine WE_loop 6 (by omega) ⟨by omega, fun j hj => ?_⟩ ?_ ?_
           · by_cases hjl : j = 5
             · subst hjl; exact hyes
             · exact hok j (by omega)
           · (repeat (first | exact Sub.nil | (refine Sub.cons (by first | rfl | (simp only [Nat.zero_add]; rfl)) ?_)))
           · exact entu0)
      · have ho : OkAt c m.words 6 ↔ (-2147483648 ≤ m.words.w6 ∧ m.words.w6 ≤ 2147483647 ∧ (c.words ≤ 6 → m.words.w6 = 0)) := Iff.rfl
        have hn : ¬ OkAt c m.words 6 → ¬ ValsP c m.words := fun h hv => h (hv 6 (by omega))
        repeat' (first | rintro _ _ ⟨rfl, rfl⟩ | refine exq fun _ => ?_ | intro _ | refine go ?_ | refine drq ?_ | refine spl ?_ ?_ | fail)
        all_goals first
        | (have hno := hn (fun h => by have := ho.1 h; omega)
           (apply WE_ret rfl rfl (by (repeat (first | exact ResOk.nil | (apply ResOk.tmp; rfl) | (apply resOk_cell; rfl; exact inferInstance; rfl; rfl)))); (first | exact ⟨rfl, rfl⟩ | exact ⟨congrArg Value.bool (by decide), rfl⟩ | exact ⟨_, rfl, rfl⟩ | exact ⟨_, _, rfl, rfl⟩ | exact ⟨by first | (simp [hno]; done) | (simp [hno] <;> omega), rfl⟩); (repeat (first | exact Ent.refl | exact Ent.nil | apply Ent.pick | apply Ent.drop))))
        | (have hyes := ho.2 (by omega)
           refine WE_loop 7 (by omega) ⟨by omega, fun j hj => ?_⟩ ?_ ?_
           · by_cases hjl : j = 6
             · subst hjl; exact hyes
             · exact hok j (by omega)
           · (repeat (first | exact Sub.nil | (refine Sub.cons (by first | rfl | (simp only [Nat.zero_add]; rfl)) ?_)))
           · exact entu0)
      · have ho : OkAt c m.words 7 ↔ (-2147483648 ≤ m.words.w7 ∧ m.words.w7 ≤ 2147483647 ∧ (c.words ≤ 7 → m.words.w7 = 0)) := Iff.rfl
        have hn : ¬ OkAt c m.words 7 → ¬ ValsP c m.words := fun h hv => h (hv 7 (by omega))
        repeat' (first | rintro _ _ ⟨rfl, rfl⟩ | refine exq fun _ => ?_ | intro _ | refine go ?_ | refine drq ?_ | refine spl ?_ ?_ | fail)
        all_goals first
        | (have hno := hn (fun h => by have := ho.1 h; omega)
           (apply WE_ret rfl rfl (by (repeat (first | exact ResOk.nil | (apply ResOk.tmp; rfl) | (apply resOk_cell; rfl; exact inferInstance; rfl; rfl)))); (first | exact ⟨rfl, rfl⟩ | exact ⟨congrArg Value.bool (by decide), rfl⟩ | exact ⟨_, rfl, rfl⟩ | exact ⟨_, _, rfl, rfl⟩ | exact ⟨by first | (simp [hno]; done) | (simp [hno] <;> omega), rfl⟩); (repeat (first | exact Ent.refl | exact Ent.nil | apply Ent.pick | apply Ent.drop))))
        | (have hyes := ho.2 (by omega)
           refine WE_loop 8 (by omega) ⟨by omega, fun j hj => ?_⟩ ?_ ?_
           · by_cases hjl : j = 7
             · subst hjl; exact hyes
             · exact hok j (by omega)
           · (repeat (first | exact Sub.nil | (refine Sub.cons (by first | rfl | (simp only [Nat.zero_add]; rfl)) ?_)))
           · exact entu0)
    · have hi8 : i = 8 := by omega
      subst hi8
      have hv : ValsP c m.words := hok
      repeat (first | rintro _ _ ⟨rfl, rfl⟩ | refine exq fun _ => ?_ | intro _ | refine go ?_ | refine drq ?_)
      (apply WE_ret rfl rfl (by (repeat (first | exact ResOk.nil | (apply ResOk.tmp; rfl) | (apply resOk_cell; rfl; exact inferInstance; rfl; rfl)))); (first | exact ⟨rfl, rfl⟩ | exact ⟨congrArg Value.bool (by decide), rfl⟩ | exact ⟨_, rfl, rfl⟩ | exact ⟨_, _, rfl, rfl⟩ | exact ⟨by first | (simp [hv]; done) | (simp [hv] <;> omega), rfl⟩); (repeat (first | exact Ent.refl | exact Ent.nil | apply Ent.pick | apply Ent.drop)))
theorem msg_pwords {F : List HP} {c : Cfg} {m : Msg} : FnF Tryz.prog 266 [.agg #[], c.val, mv m] [] F (fun r L' => r = .bool (decide (ValsP c m.words)) ∧ L' = []) := by
  refine FnF.mk' Tryz.func266 rfl rfl Tryz.ntmps266 rfl ?_
  repeat (first | rintro _ _ ⟨rfl, rfl⟩ | refine exq fun _ => ?_ | intro _ | refine go ?_ | refine drq ?_ | refine cal @msg_values ?_)
  exact fin0
theorem msg_dwords {F : List HP} {c : Cfg} {m : Msg} : FnF Tryz.prog 271 [.agg #[], c.val, mv m] [] F (fun r L' => r = .bool (decide (ValsP c m.words)) ∧ L' = []) := by
  refine FnF.mk' Tryz.func271 rfl rfl Tryz.ntmps271 rfl ?_
  repeat (first | rintro _ _ ⟨rfl, rfl⟩ | refine exq fun _ => ?_ | intro _ | refine go ?_ | refine drq ?_ | refine cal @msg_values ?_)
  exact fin0
def formV (k : Int) : Value :=
  if k = 3 then .iface 296 (.agg #[]) else if k = 1 ∨ k = 2 ∨ k = 11 then .iface 294 (.agg #[]) else if k = 4 ∨ k = 6 then .iface 298 (.agg #[.bool false]) else if k = 5 then .iface 298 (.agg #[.bool true])
  else if k = 7 then .iface 299 (.agg #[]) else if k = 8 then .iface 300 (.agg #[.bool true]) else if k = 10 then .iface 300 (.agg #[.bool false]) else .iface 301 (.agg #[])
theorem msg_formed {F : List HP} {k : Int} : FnF Tryz.prog 153 [.int .i64 k] [] F (fun r L' => r = formV k ∧ L' = []) := by
  refine FnF.mk' Tryz.func153 rfl rfl Tryz.ntmps153 rfl ?_
  repeat' (first | rintro _ _ ⟨rfl, rfl⟩ | refine exq fun _ => ?_ | intro _ | refine go ?_ | refine drq ?_ | refine str ?_ | refine spl ?_ ?_ | fail)
  all_goals ((apply WE_ret rfl rfl (by (repeat (first | exact ResOk.nil | (apply ResOk.tmp; rfl) | (apply resOk_cell; rfl; exact inferInstance; rfl; rfl))))); (refine ⟨?_, rfl⟩; unfold formV; repeat (first | rfl | (rw [if_pos (by omega)]) | (rw [if_neg (by omega)]))); exact entu0)
end Go.Sx

/- Messages, third part: May. My own work. -/
namespace Go.Sx
open Go Go.Proofs
set_option linter.unusedVariables false
set_option linter.unusedSectionVars false
set_option linter.unusedSimpArgs false
theorem cfg_bnd {c : Cfg} (h : checkB c = true) : (1 ≤ c.cores ∧ c.cores ≤ 64) ∧ (1 ≤ c.homes ∧ c.homes ≤ 16) ∧ (1 ≤ c.words ∧ c.words ≤ 8) ∧ (1 ≤ c.lines ∧ c.lines ≤ 1024) := by
  simp only [checkB, fitsB, Bool.and_eq_true, decide_eq_true_eq] at h
  omega
theorem words_zero (w : Words) : ([Value.int .i64 w.w0, Value.int .i64 w.w1, Value.int .i64 w.w2, Value.int .i64 w.w3, Value.int .i64 w.w4, Value.int .i64 w.w5, Value.int .i64 w.w6, Value.int .i64 w.w7] = [Value.int .i64 0, Value.int .i64 0, Value.int .i64 0, Value.int .i64 0, Value.int .i64 0, Value.int .i64 0, Value.int .i64 0, Value.int .i64 0]) ↔ w = .zero := by
  cases w; simp [Words.zero]
set_option maxRecDepth 100000
set_option maxHeartbeats 4000000
attribute [local irreducible] Go.Exit.then Go.Exit.inBlock Go.Code.wp WC WO WE WQ V LoopQ FnQ Sat Star band bor IntKind.wrap WR Code.rounds WT KO
theorem msg_May {F : List HP} {c : Cfg} {m : Msg} (hc : c.wf) : FnF Tryz.prog 73 [c.val, mv m] [] F (fun r L' => r = .bool (decide (MayP c m)) ∧ L' = []) := by
  have hC := fun F => shape_Check (F := F) hc
  have hW := fun F => msg_within (F := F) (n := m.line) (k := c.lines)
  have hN := fun F => msg_Net (F := F) (k := m.kind)
  have hF := fun F => msg_formed (F := F) (k := m.kind)
  by_cases he : checkB c = true
  · simp only [checkE, he, if_true] at hC
    obtain ⟨b1, b2, b3, b4⟩ := cfg_bnd he
    have h0 : c.homes ≠ 0 := by omega
    by_cases hk : 1 ≤ m.kind ∧ m.kind ≤ 11
    · have hnk : netK m.kind = 0 ∨ netK m.kind = 1 ∨ netK m.kind = 2 := by unfold netK; split <;> (try split) <;> (try split) <;> omega
      by_cases hl : InP m.line c.lines
      · simp only [hl, decide_true] at hW
        have hl' : 0 ≤ m.line ∧ m.line < c.lines := hl
        have hcase : m.kind = 1 ∨ m.kind = 2 ∨ m.kind = 3 ∨ m.kind = 4 ∨ m.kind = 5 ∨ m.kind = 6 ∨ m.kind = 7 ∨ m.kind = 8 ∨ m.kind = 9 ∨ m.kind = 10 ∨ m.kind = 11 := by omega
        rcases hcase with h | h | h | h | h | h | h | h | h | h | h
        · have hmay : MayP c m ↔ (UpP c m ∧ m.words = .zero) := by simp [MayP, FormP, WordsP, HomeP, Wordy, he, h, hl']
          have hfv : formV m.kind = .iface 294 (.agg #[]) := by rw [h]; rfl
          simp only [hfv] at hF
          have hU := fun F => msg_up (F := F) (c := c) (m := m) h0
          refine FnF.mk' Tryz.func73 rfl rfl Tryz.ntmps73 rfl ?_
          by_cases hx : UpP c m
          · simp only [hx, decide_true] at hU
            by_cases hy : m.words = .zero
            · repeat (first | rintro _ _ ⟨rfl, rfl⟩ | refine exq fun _ => ?_ | intro _ | refine go ?_ | refine drq ?_ | refine cal @hC ?_ | refine cal @hN ?_ | refine cal @hW ?_ | refine cal @hF ?_ | refine str ?_ | refine cali @hU ?_)
              simp only [words_zero, hy, decide_true]
              (apply WE_ret rfl rfl (by (repeat (first | exact ResOk.nil | (apply ResOk.tmp; rfl) | (apply resOk_cell; rfl; exact inferInstance; rfl; rfl)))); (first | exact ⟨rfl, rfl⟩ | exact ⟨congrArg Value.bool (by decide), rfl⟩ | exact ⟨_, rfl, rfl⟩ | exact ⟨_, _, rfl, rfl⟩ | exact ⟨by first | (simp [hmay, hx, hy]; done) | (simp [hmay, hx, hy] <;> omega), rfl⟩); (repeat (first | exact Ent.refl | exact Ent.nil | apply Ent.pick | apply Ent.drop)))
            · repeat (first | rintro _ _ ⟨rfl, rfl⟩ | refine exq fun _ => ?_ | intro _ | refine go ?_ | refine drq ?_ | refine cal @hC ?_ | refine cal @hN ?_ | refine cal @hW ?_ | refine cal @hF ?_ | refine str ?_ | refine cali @hU ?_)
              try simp only [words_zero, hy, decide_false]
              (apply WE_ret rfl rfl (by (repeat (first | exact ResOk.nil | (apply ResOk.tmp; rfl) | (apply resOk_cell; rfl; exact inferInstance; rfl; rfl)))); (first | exact ⟨rfl, rfl⟩ | exact ⟨congrArg Value.bool (by decide), rfl⟩ | exact ⟨_, rfl, rfl⟩ | exact ⟨_, _, rfl, rfl⟩ | exact ⟨by first | (simp [hmay, hx, hy]; done) | (simp [hmay, hx, hy] <;> omega), rfl⟩); (repeat (first | exact Ent.refl | exact Ent.nil | apply Ent.pick | apply Ent.drop)))
          · simp only [hx, decide_false] at hU
            repeat (first | rintro _ _ ⟨rfl, rfl⟩ | refine exq fun _ => ?_ | intro _ | refine go ?_ | refine drq ?_ | refine cal @hC ?_ | refine cal @hN ?_ | refine cal @hW ?_ | refine cal @hF ?_ | refine str ?_ | refine cali @hU ?_)
            (apply WE_ret rfl rfl (by (repeat (first | exact ResOk.nil | (apply ResOk.tmp; rfl) | (apply resOk_cell; rfl; exact inferInstance; rfl; rfl)))); (first | exact ⟨rfl, rfl⟩ | exact ⟨congrArg Value.bool (by decide), rfl⟩ | exact ⟨_, rfl, rfl⟩ | exact ⟨_, _, rfl, rfl⟩ | exact ⟨by first | (simp [hmay, hx]; done) | (simp [hmay, hx] <;> omega), rfl⟩); (repeat (first | exact Ent.refl | exact Ent.nil | apply Ent.pick | apply Ent.drop)))
        · have hmay : MayP c m ↔ (UpP c m ∧ m.words = .zero) := by simp [MayP, FormP, WordsP, HomeP, Wordy, he, h, hl']
          have hfv : formV m.kind = .iface 294 (.agg #[]) := by rw [h]; rfl
          simp only [hfv] at hF
          have hU := fun F => msg_up (F := F) (c := c) (m := m) h0
          refine FnF.mk' Tryz.func73 rfl rfl Tryz.ntmps73 rfl ?_
          by_cases hx : UpP c m
          · simp only [hx, decide_true] at hU
            by_cases hy : m.words = .zero
            · repeat (first | rintro _ _ ⟨rfl, rfl⟩ | refine exq fun _ => ?_ | intro _ | refine go ?_ | refine drq ?_ | refine cal @hC ?_ | refine cal @hN ?_ | refine cal @hW ?_ | refine cal @hF ?_ | refine str ?_ | refine cali @hU ?_)
              simp only [words_zero, hy, decide_true]
              (apply WE_ret rfl rfl (by (repeat (first | exact ResOk.nil | (apply ResOk.tmp; rfl) | (apply resOk_cell; rfl; exact inferInstance; rfl; rfl)))); (first | exact ⟨rfl, rfl⟩ | exact ⟨congrArg Value.bool (by decide), rfl⟩ | exact ⟨_, rfl, rfl⟩ | exact ⟨_, _, rfl, rfl⟩ | exact ⟨by first | (simp [hmay, hx, hy]; done) | (simp [hmay, hx, hy] <;> omega), rfl⟩); (repeat (first | exact Ent.refl | exact Ent.nil | apply Ent.pick | apply Ent.drop)))
            · repeat (first | rintro _ _ ⟨rfl, rfl⟩ | refine exq fun _ => ?_ | intro _ | refine go ?_ | refine drq ?_ | refine cal @hC ?_ | refine cal @hN ?_ | refine cal @hW ?_ | refine cal @hF ?_ | refine str ?_ | refine cali @hU ?_)
              try simp only [words_zero, hy, decide_false]
              (apply WE_ret rfl rfl (by (repeat (first | exact ResOk.nil | (apply ResOk.tmp; rfl) | (apply resOk_cell; rfl; exact inferInstance; rfl; rfl)))); (first | exact ⟨rfl, rfl⟩ | exact ⟨congrArg Value.bool (by decide), rfl⟩ | exact ⟨_, rfl, rfl⟩ | exact ⟨_, _, rfl, rfl⟩ | exact ⟨by first | (simp [hmay, hx, hy]; done) | (simp [hmay, hx, hy] <;> omega), rfl⟩); (repeat (first | exact Ent.refl | exact Ent.nil | apply Ent.pick | apply Ent.drop)))
          · simp only [hx, decide_false] at hU
            repeat (first | rintro _ _ ⟨rfl, rfl⟩ | refine exq fun _ => ?_ | intro _ | refine go ?_ | refine drq ?_ | refine cal @hC ?_ | refine cal @hN ?_ | refine cal @hW ?_ | refine cal @hF ?_ | refine str ?_ | refine cali @hU ?_)
            (apply WE_ret rfl rfl (by (repeat (first | exact ResOk.nil | (apply ResOk.tmp; rfl) | (apply resOk_cell; rfl; exact inferInstance; rfl; rfl)))); (first | exact ⟨rfl, rfl⟩ | exact ⟨congrArg Value.bool (by decide), rfl⟩ | exact ⟨_, rfl, rfl⟩ | exact ⟨_, _, rfl, rfl⟩ | exact ⟨by first | (simp [hmay, hx]; done) | (simp [hmay, hx] <;> omega), rfl⟩); (repeat (first | exact Ent.refl | exact Ent.nil | apply Ent.pick | apply Ent.drop)))
        · have hmay : MayP c m ↔ (UpP c m ∧ ValsP c m.words) := by simp [MayP, FormP, WordsP, HomeP, Wordy, he, h, hl']
          have hfv : formV m.kind = .iface 296 (.agg #[]) := by rw [h]; rfl
          simp only [hfv] at hF
          have hU := fun F => msg_up (F := F) (c := c) (m := m) h0
          refine FnF.mk' Tryz.func73 rfl rfl Tryz.ntmps73 rfl ?_
          by_cases hx : UpP c m
          · simp only [hx, decide_true] at hU
            by_cases hy : ValsP c m.words
            · have hV := fun F => msg_pwords (F := F) (c := c) (m := m)
              simp only [hy, decide_true] at hV
              repeat (first | rintro _ _ ⟨rfl, rfl⟩ | refine exq fun _ => ?_ | intro _ | refine go ?_ | refine drq ?_ | refine cal @hC ?_ | refine cal @hN ?_ | refine cal @hW ?_ | refine cal @hF ?_ | refine str ?_ | refine cali @hU ?_ | refine cali @hV ?_)
              (apply WE_ret rfl rfl (by (repeat (first | exact ResOk.nil | (apply ResOk.tmp; rfl) | (apply resOk_cell; rfl; exact inferInstance; rfl; rfl)))); (first | exact ⟨rfl, rfl⟩ | exact ⟨congrArg Value.bool (by decide), rfl⟩ | exact ⟨_, rfl, rfl⟩ | exact ⟨_, _, rfl, rfl⟩ | exact ⟨by first | (simp [hmay, hx, hy]; done) | (simp [hmay, hx, hy] <;> omega), rfl⟩); (repeat (first | exact Ent.refl | exact Ent.nil | apply Ent.pick | apply Ent.drop)))
            · have hV := fun F => msg_pwords (F := F) (c := c) (m := m)
              simp only [hy, decide_false] at hV
              repeat (first | rintro _ _ ⟨rfl, rfl⟩ | refine exq fun _ => ?_ | intro _ | refine go ?_ | refine drq ?_ | refine cal @hC ?_ | refine cal @hN ?_ | refine cal @hW ?_ | refine cal @hF ?_ | refine str ?_ | refine cali @hU ?_ | refine cali @hV ?_)
              (apply WE_ret rfl rfl (by (repeat (first | exact ResOk.nil | (apply ResOk.tmp; rfl) | (apply resOk_cell; rfl; exact inferInstance; rfl; rfl)))); (first | exact ⟨rfl, rfl⟩ | exact ⟨congrArg Value.bool (by decide), rfl⟩ | exact ⟨_, rfl, rfl⟩ | exact ⟨_, _, rfl, rfl⟩ | exact ⟨by first | (simp [hmay, hx, hy]; done) | (simp [hmay, hx, hy] <;> omega), rfl⟩); (repeat (first | exact Ent.refl | exact Ent.nil | apply Ent.pick | apply Ent.drop)))
          · simp only [hx, decide_false] at hU
            repeat (first | rintro _ _ ⟨rfl, rfl⟩ | refine exq fun _ => ?_ | intro _ | refine go ?_ | refine drq ?_ | refine cal @hC ?_ | refine cal @hN ?_ | refine cal @hW ?_ | refine cal @hF ?_ | refine str ?_ | refine cali @hU ?_)
            (apply WE_ret rfl rfl (by (repeat (first | exact ResOk.nil | (apply ResOk.tmp; rfl) | (apply resOk_cell; rfl; exact inferInstance; rfl; rfl)))); (first | exact ⟨rfl, rfl⟩ | exact ⟨congrArg Value.bool (by decide), rfl⟩ | exact ⟨_, rfl, rfl⟩ | exact ⟨_, _, rfl, rfl⟩ | exact ⟨by first | (simp [hmay, hx]; done) | (simp [hmay, hx] <;> omega), rfl⟩); (repeat (first | exact Ent.refl | exact Ent.nil | apply Ent.pick | apply Ent.drop)))
        · have hmay : MayP c m ↔ (ForwardP c m false ∧ m.words = .zero) := by simp [MayP, FormP, WordsP, HomeP, Wordy, he, h, hl']
          have hfv : formV m.kind = .iface 298 (.agg #[.bool false]) := by rw [h]; rfl
          simp only [hfv] at hF
          have hU := fun F => msg_forward (F := F) (c := c) (m := m) (a := false) h0
          refine FnF.mk' Tryz.func73 rfl rfl Tryz.ntmps73 rfl ?_
          by_cases hx : ForwardP c m false
          · simp only [hx, decide_true] at hU
            by_cases hy : m.words = .zero
            · repeat (first | rintro _ _ ⟨rfl, rfl⟩ | refine exq fun _ => ?_ | intro _ | refine go ?_ | refine drq ?_ | refine cal @hC ?_ | refine cal @hN ?_ | refine cal @hW ?_ | refine cal @hF ?_ | refine str ?_ | refine cali @hU ?_)
              simp only [words_zero, hy, decide_true]
              (apply WE_ret rfl rfl (by (repeat (first | exact ResOk.nil | (apply ResOk.tmp; rfl) | (apply resOk_cell; rfl; exact inferInstance; rfl; rfl)))); (first | exact ⟨rfl, rfl⟩ | exact ⟨congrArg Value.bool (by decide), rfl⟩ | exact ⟨_, rfl, rfl⟩ | exact ⟨_, _, rfl, rfl⟩ | exact ⟨by first | (simp [hmay, hx, hy]; done) | (simp [hmay, hx, hy] <;> omega), rfl⟩); (repeat (first | exact Ent.refl | exact Ent.nil | apply Ent.pick | apply Ent.drop)))
            · repeat (first | rintro _ _ ⟨rfl, rfl⟩ | refine exq fun _ => ?_ | intro _ | refine go ?_ | refine drq ?_ | refine cal @hC ?_ | refine cal @hN ?_ | refine cal @hW ?_ | refine cal @hF ?_ | refine str ?_ | refine cali @hU ?_)
              try simp only [words_zero, hy, decide_false]
              (apply WE_ret rfl rfl (by (repeat (first | exact ResOk.nil | (apply ResOk.tmp; rfl) | (apply resOk_cell; rfl; exact inferInstance; rfl; rfl)))); (first | exact ⟨rfl, rfl⟩ | exact ⟨congrArg Value.bool (by decide), rfl⟩ | exact ⟨_, rfl, rfl⟩ | exact ⟨_, _, rfl, rfl⟩ | exact ⟨by first | (simp [hmay, hx, hy]; done) | (simp [hmay, hx, hy] <;> omega), rfl⟩); (repeat (first | exact Ent.refl | exact Ent.nil | apply Ent.pick | apply Ent.drop)))
          · simp only [hx, decide_false] at hU
            repeat (first | rintro _ _ ⟨rfl, rfl⟩ | refine exq fun _ => ?_ | intro _ | refine go ?_ | refine drq ?_ | refine cal @hC ?_ | refine cal @hN ?_ | refine cal @hW ?_ | refine cal @hF ?_ | refine str ?_ | refine cali @hU ?_)
            (apply WE_ret rfl rfl (by (repeat (first | exact ResOk.nil | (apply ResOk.tmp; rfl) | (apply resOk_cell; rfl; exact inferInstance; rfl; rfl)))); (first | exact ⟨rfl, rfl⟩ | exact ⟨congrArg Value.bool (by decide), rfl⟩ | exact ⟨_, rfl, rfl⟩ | exact ⟨_, _, rfl, rfl⟩ | exact ⟨by first | (simp [hmay, hx]; done) | (simp [hmay, hx] <;> omega), rfl⟩); (repeat (first | exact Ent.refl | exact Ent.nil | apply Ent.pick | apply Ent.drop)))
        · have hmay : MayP c m ↔ (ForwardP c m true ∧ m.words = .zero) := by simp [MayP, FormP, WordsP, HomeP, Wordy, he, h, hl']
          have hfv : formV m.kind = .iface 298 (.agg #[.bool true]) := by rw [h]; rfl
          simp only [hfv] at hF
          have hU := fun F => msg_forward (F := F) (c := c) (m := m) (a := true) h0
          refine FnF.mk' Tryz.func73 rfl rfl Tryz.ntmps73 rfl ?_
          by_cases hx : ForwardP c m true
          · simp only [hx, decide_true] at hU
            by_cases hy : m.words = .zero
            · repeat (first | rintro _ _ ⟨rfl, rfl⟩ | refine exq fun _ => ?_ | intro _ | refine go ?_ | refine drq ?_ | refine cal @hC ?_ | refine cal @hN ?_ | refine cal @hW ?_ | refine cal @hF ?_ | refine str ?_ | refine cali @hU ?_)
              simp only [words_zero, hy, decide_true]
              (apply WE_ret rfl rfl (by (repeat (first | exact ResOk.nil | (apply ResOk.tmp; rfl) | (apply resOk_cell; rfl; exact inferInstance; rfl; rfl)))); (first | exact ⟨rfl, rfl⟩ | exact ⟨congrArg Value.bool (by decide), rfl⟩ | exact ⟨_, rfl, rfl⟩ | exact ⟨_, _, rfl, rfl⟩ | exact ⟨by first | (simp [hmay, hx, hy]; done) | (simp [hmay, hx, hy] <;> omega), rfl⟩); (repeat (first | exact Ent.refl | exact Ent.nil | apply Ent.pick | apply Ent.drop)))
            · repeat (first | rintro _ _ ⟨rfl, rfl⟩ | refine exq fun _ => ?_ | intro _ | refine go ?_ | refine drq ?_ | refine cal @hC ?_ | refine cal @hN ?_ | refine cal @hW ?_ | refine cal @hF ?_ | refine str ?_ | refine cali @hU ?_)
              try simp only [words_zero, hy, decide_false]
              (apply WE_ret rfl rfl (by (repeat (first | exact ResOk.nil | (apply ResOk.tmp; rfl) | (apply resOk_cell; rfl; exact inferInstance; rfl; rfl)))); (first | exact ⟨rfl, rfl⟩ | exact ⟨congrArg Value.bool (by decide), rfl⟩ | exact ⟨_, rfl, rfl⟩ | exact ⟨_, _, rfl, rfl⟩ | exact ⟨by first | (simp [hmay, hx, hy]; done) | (simp [hmay, hx, hy] <;> omega), rfl⟩); (repeat (first | exact Ent.refl | exact Ent.nil | apply Ent.pick | apply Ent.drop)))
          · simp only [hx, decide_false] at hU
            repeat (first | rintro _ _ ⟨rfl, rfl⟩ | refine exq fun _ => ?_ | intro _ | refine go ?_ | refine drq ?_ | refine cal @hC ?_ | refine cal @hN ?_ | refine cal @hW ?_ | refine cal @hF ?_ | refine str ?_ | refine cali @hU ?_)
            (apply WE_ret rfl rfl (by (repeat (first | exact ResOk.nil | (apply ResOk.tmp; rfl) | (apply resOk_cell; rfl; exact inferInstance; rfl; rfl)))); (first | exact ⟨rfl, rfl⟩ | exact ⟨congrArg Value.bool (by decide), rfl⟩ | exact ⟨_, rfl, rfl⟩ | exact ⟨_, _, rfl, rfl⟩ | exact ⟨by first | (simp [hmay, hx]; done) | (simp [hmay, hx] <;> omega), rfl⟩); (repeat (first | exact Ent.refl | exact Ent.nil | apply Ent.pick | apply Ent.drop)))
        · have hmay : MayP c m ↔ (ForwardP c m false ∧ m.words = .zero) := by simp [MayP, FormP, WordsP, HomeP, Wordy, he, h, hl']
          have hfv : formV m.kind = .iface 298 (.agg #[.bool false]) := by rw [h]; rfl
          simp only [hfv] at hF
          have hU := fun F => msg_forward (F := F) (c := c) (m := m) (a := false) h0
          refine FnF.mk' Tryz.func73 rfl rfl Tryz.ntmps73 rfl ?_
          by_cases hx : ForwardP c m false
          · simp only [hx, decide_true] at hU
            by_cases hy : m.words = .zero
            · repeat (first | rintro _ _ ⟨rfl, rfl⟩ | refine exq fun _ => ?_ | intro _ | refine go ?_ | refine drq ?_ | refine cal @hC ?_ | refine cal @hN ?_ | refine cal @hW ?_ | refine cal @hF ?_ | refine str ?_ | refine cali @hU ?_)
              simp only [words_zero, hy, decide_true]
              (apply WE_ret rfl rfl (by (repeat (first | exact ResOk.nil | (apply ResOk.tmp; rfl) | (apply resOk_cell; rfl; exact inferInstance; rfl; rfl)))); (first | exact ⟨rfl, rfl⟩ | exact ⟨congrArg Value.bool (by decide), rfl⟩ | exact ⟨_, rfl, rfl⟩ | exact ⟨_, _, rfl, rfl⟩ | exact ⟨by first | (simp [hmay, hx, hy]; done) | (simp [hmay, hx, hy] <;> omega), rfl⟩); (repeat (first | exact Ent.refl | exact Ent.nil | apply Ent.pick | apply Ent.drop)))
            · repeat (first | rintro _ _ ⟨rfl, rfl⟩ | refine exq fun _ => ?_ | intro _ | refine go ?_ | refine drq ?_ | refine cal @hC ?_ | refine cal @hN ?_ | refine cal @hW ?_ | refine cal @hF ?_ | refine str ?_ | refine cali @hU ?_)
              try simp only [words_zero, hy, decide_false]
              (apply WE_ret rfl rfl (by (repeat (first | exact ResOk.nil | (apply ResOk.tmp; rfl) | (apply resOk_cell; rfl; exact inferInstance; rfl; rfl)))); (first | exact ⟨rfl, rfl⟩ | exact ⟨congrArg Value.bool (by decide), rfl⟩ | exact ⟨_, rfl, rfl⟩ | exact ⟨_, _, rfl, rfl⟩ | exact ⟨by first | (simp [hmay, hx, hy]; done) | (simp [hmay, hx, hy] <;> omega), rfl⟩); (repeat (first | exact Ent.refl | exact Ent.nil | apply Ent.pick | apply Ent.drop)))
          · simp only [hx, decide_false] at hU
            repeat (first | rintro _ _ ⟨rfl, rfl⟩ | refine exq fun _ => ?_ | intro _ | refine go ?_ | refine drq ?_ | refine cal @hC ?_ | refine cal @hN ?_ | refine cal @hW ?_ | refine cal @hF ?_ | refine str ?_ | refine cali @hU ?_)
            (apply WE_ret rfl rfl (by (repeat (first | exact ResOk.nil | (apply ResOk.tmp; rfl) | (apply resOk_cell; rfl; exact inferInstance; rfl; rfl)))); (first | exact ⟨rfl, rfl⟩ | exact ⟨congrArg Value.bool (by decide), rfl⟩ | exact ⟨_, rfl, rfl⟩ | exact ⟨_, _, rfl, rfl⟩ | exact ⟨by first | (simp [hmay, hx]; done) | (simp [hmay, hx] <;> omega), rfl⟩); (repeat (first | exact Ent.refl | exact Ent.nil | apply Ent.pick | apply Ent.drop)))
        · have hmay : MayP c m ↔ (DataP c m ∧ ValsP c m.words) := by simp [MayP, FormP, WordsP, HomeP, Wordy, he, h, hl']
          have hfv : formV m.kind = .iface 299 (.agg #[]) := by rw [h]; rfl
          simp only [hfv] at hF
          have hU := fun F => msg_data (F := F) (c := c) (m := m) h0
          refine FnF.mk' Tryz.func73 rfl rfl Tryz.ntmps73 rfl ?_
          by_cases hx : DataP c m
          · simp only [hx, decide_true] at hU
            by_cases hy : ValsP c m.words
            · have hV := fun F => msg_dwords (F := F) (c := c) (m := m)
              simp only [hy, decide_true] at hV
              repeat (first | rintro _ _ ⟨rfl, rfl⟩ | refine exq fun _ => ?_ | intro _ | refine go ?_ | refine drq ?_ | refine cal @hC ?_ | refine cal @hN ?_ | refine cal @hW ?_ | refine cal @hF ?_ | refine str ?_ | refine cali @hU ?_ | refine cali @hV ?_)
              (apply WE_ret rfl rfl (by (repeat (first | exact ResOk.nil | (apply ResOk.tmp; rfl) | (apply resOk_cell; rfl; exact inferInstance; rfl; rfl)))); (first | exact ⟨rfl, rfl⟩ | exact ⟨congrArg Value.bool (by decide), rfl⟩ | exact ⟨_, rfl, rfl⟩ | exact ⟨_, _, rfl, rfl⟩ | exact ⟨by first | (simp [hmay, hx, hy]; done) | (simp [hmay, hx, hy] <;> omega), rfl⟩); (repeat (first | exact Ent.refl | exact Ent.nil | apply Ent.pick | apply Ent.drop)))
            · have hV := fun F => msg_dwords (F := F) (c := c) (m := m)
              simp only [hy, decide_false] at hV
              repeat (first | rintro _ _ ⟨rfl, rfl⟩ | refine exq fun _ => ?_ | intro _ | refine go ?_ | refine drq ?_ | refine cal @hC ?_ | refine cal @hN ?_ | refine cal @hW ?_ | refine cal @hF ?_ | refine str ?_ | refine cali @hU ?_ | refine cali @hV ?_)
              (apply WE_ret rfl rfl (by (repeat (first | exact ResOk.nil | (apply ResOk.tmp; rfl) | (apply resOk_cell; rfl; exact inferInstance; rfl; rfl)))); (first | exact ⟨rfl, rfl⟩ | exact ⟨congrArg Value.bool (by decide), rfl⟩ | exact ⟨_, rfl, rfl⟩ | exact ⟨_, _, rfl, rfl⟩ | exact ⟨by first | (simp [hmay, hx, hy]; done) | (simp [hmay, hx, hy] <;> omega), rfl⟩); (repeat (first | exact Ent.refl | exact Ent.nil | apply Ent.pick | apply Ent.drop)))
          · simp only [hx, decide_false] at hU
            repeat (first | rintro _ _ ⟨rfl, rfl⟩ | refine exq fun _ => ?_ | intro _ | refine go ?_ | refine drq ?_ | refine cal @hC ?_ | refine cal @hN ?_ | refine cal @hW ?_ | refine cal @hF ?_ | refine str ?_ | refine cali @hU ?_)
            (apply WE_ret rfl rfl (by (repeat (first | exact ResOk.nil | (apply ResOk.tmp; rfl) | (apply resOk_cell; rfl; exact inferInstance; rfl; rfl)))); (first | exact ⟨rfl, rfl⟩ | exact ⟨congrArg Value.bool (by decide), rfl⟩ | exact ⟨_, rfl, rfl⟩ | exact ⟨_, _, rfl, rfl⟩ | exact ⟨by first | (simp [hmay, hx]; done) | (simp [hmay, hx] <;> omega), rfl⟩); (repeat (first | exact Ent.refl | exact Ent.nil | apply Ent.pick | apply Ent.drop)))
        · have hmay : MayP c m ↔ (DownP c m true ∧ m.words = .zero) := by simp [MayP, FormP, WordsP, HomeP, Wordy, he, h, hl']
          have hfv : formV m.kind = .iface 300 (.agg #[.bool true]) := by rw [h]; rfl
          simp only [hfv] at hF
          have hU := fun F => msg_down (F := F) (c := c) (m := m) (a := true) h0
          refine FnF.mk' Tryz.func73 rfl rfl Tryz.ntmps73 rfl ?_
          by_cases hx : DownP c m true
          · simp only [hx, decide_true] at hU
            by_cases hy : m.words = .zero
            · repeat (first | rintro _ _ ⟨rfl, rfl⟩ | refine exq fun _ => ?_ | intro _ | refine go ?_ | refine drq ?_ | refine cal @hC ?_ | refine cal @hN ?_ | refine cal @hW ?_ | refine cal @hF ?_ | refine str ?_ | refine cali @hU ?_)
              simp only [words_zero, hy, decide_true]
              (apply WE_ret rfl rfl (by (repeat (first | exact ResOk.nil | (apply ResOk.tmp; rfl) | (apply resOk_cell; rfl; exact inferInstance; rfl; rfl)))); (first | exact ⟨rfl, rfl⟩ | exact ⟨congrArg Value.bool (by decide), rfl⟩ | exact ⟨_, rfl, rfl⟩ | exact ⟨_, _, rfl, rfl⟩ | exact ⟨by first | (simp [hmay, hx, hy]; done) | (simp [hmay, hx, hy] <;> omega), rfl⟩); (repeat (first | exact Ent.refl | exact Ent.nil | apply Ent.pick | apply Ent.drop)))
            · repeat (first | rintro _ _ ⟨rfl, rfl⟩ | refine exq fun _ => ?_ | intro _ | refine go ?_ | refine drq ?_ | refine cal @hC ?_ | refine cal @hN ?_ | refine cal @hW ?_ | refine cal @hF ?_ | refine str ?_ | refine cali @hU ?_)
              try simp only [words_zero, hy, decide_false]
              (apply WE_ret rfl rfl (by (repeat (first | exact ResOk.nil | (apply ResOk.tmp; rfl) | (apply resOk_cell; rfl; exact inferInstance; rfl; rfl)))); (first | exact ⟨rfl, rfl⟩ | exact ⟨congrArg Value.bool (by decide), rfl⟩ | exact ⟨_, rfl, rfl⟩ | exact ⟨_, _, rfl, rfl⟩ | exact ⟨by first | (simp [hmay, hx, hy]; done) | (simp [hmay, hx, hy] <;> omega), rfl⟩); (repeat (first | exact Ent.refl | exact Ent.nil | apply Ent.pick | apply Ent.drop)))
          · simp only [hx, decide_false] at hU
            repeat (first | rintro _ _ ⟨rfl, rfl⟩ | refine exq fun _ => ?_ | intro _ | refine go ?_ | refine drq ?_ | refine cal @hC ?_ | refine cal @hN ?_ | refine cal @hW ?_ | refine cal @hF ?_ | refine str ?_ | refine cali @hU ?_)
            (apply WE_ret rfl rfl (by (repeat (first | exact ResOk.nil | (apply ResOk.tmp; rfl) | (apply resOk_cell; rfl; exact inferInstance; rfl; rfl)))); (first | exact ⟨rfl, rfl⟩ | exact ⟨congrArg Value.bool (by decide), rfl⟩ | exact ⟨_, rfl, rfl⟩ | exact ⟨_, _, rfl, rfl⟩ | exact ⟨by first | (simp [hmay, hx]; done) | (simp [hmay, hx] <;> omega), rfl⟩); (repeat (first | exact Ent.refl | exact Ent.nil | apply Ent.pick | apply Ent.drop)))
        · have hmay : MayP c m ↔ (AcrossP c m ∧ m.words = .zero) := by simp [MayP, FormP, WordsP, HomeP, Wordy, he, h, hl']
          have hfv : formV m.kind = .iface 301 (.agg #[]) := by rw [h]; rfl
          simp only [hfv] at hF
          have hU := fun F => msg_across (F := F) (c := c) (m := m)
          refine FnF.mk' Tryz.func73 rfl rfl Tryz.ntmps73 rfl ?_
          by_cases hx : AcrossP c m
          · simp only [hx, decide_true] at hU
            by_cases hy : m.words = .zero
            · repeat (first | rintro _ _ ⟨rfl, rfl⟩ | refine exq fun _ => ?_ | intro _ | refine go ?_ | refine drq ?_ | refine cal @hC ?_ | refine cal @hN ?_ | refine cal @hW ?_ | refine cal @hF ?_ | refine str ?_ | refine cali @hU ?_)
              simp only [words_zero, hy, decide_true]
              (apply WE_ret rfl rfl (by (repeat (first | exact ResOk.nil | (apply ResOk.tmp; rfl) | (apply resOk_cell; rfl; exact inferInstance; rfl; rfl)))); (first | exact ⟨rfl, rfl⟩ | exact ⟨congrArg Value.bool (by decide), rfl⟩ | exact ⟨_, rfl, rfl⟩ | exact ⟨_, _, rfl, rfl⟩ | exact ⟨by first | (simp [hmay, hx, hy]; done) | (simp [hmay, hx, hy] <;> omega), rfl⟩); (repeat (first | exact Ent.refl | exact Ent.nil | apply Ent.pick | apply Ent.drop)))
            · repeat (first | rintro _ _ ⟨rfl, rfl⟩ | refine exq fun _ => ?_ | intro _ | refine go ?_ | refine drq ?_ | refine cal @hC ?_ | refine cal @hN ?_ | refine cal @hW ?_ | refine cal @hF ?_ | refine str ?_ | refine cali @hU ?_)
              try simp only [words_zero, hy, decide_false]
              (apply WE_ret rfl rfl (by (repeat (first | exact ResOk.nil | (apply ResOk.tmp; rfl) | (apply resOk_cell; rfl; exact inferInstance; rfl; rfl)))); (first | exact ⟨rfl, rfl⟩ | exact ⟨congrArg Value.bool (by decide), rfl⟩ | exact ⟨_, rfl, rfl⟩ | exact ⟨_, _, rfl, rfl⟩ | exact ⟨by first | (simp [hmay, hx, hy]; done) | (simp [hmay, hx, hy] <;> omega), rfl⟩); (repeat (first | exact Ent.refl | exact Ent.nil | apply Ent.pick | apply Ent.drop)))
          · simp only [hx, decide_false] at hU
            repeat (first | rintro _ _ ⟨rfl, rfl⟩ | refine exq fun _ => ?_ | intro _ | refine go ?_ | refine drq ?_ | refine cal @hC ?_ | refine cal @hN ?_ | refine cal @hW ?_ | refine cal @hF ?_ | refine str ?_ | refine cali @hU ?_)
            (apply WE_ret rfl rfl (by (repeat (first | exact ResOk.nil | (apply ResOk.tmp; rfl) | (apply resOk_cell; rfl; exact inferInstance; rfl; rfl)))); (first | exact ⟨rfl, rfl⟩ | exact ⟨congrArg Value.bool (by decide), rfl⟩ | exact ⟨_, rfl, rfl⟩ | exact ⟨_, _, rfl, rfl⟩ | exact ⟨by first | (simp [hmay, hx]; done) | (simp [hmay, hx] <;> omega), rfl⟩); (repeat (first | exact Ent.refl | exact Ent.nil | apply Ent.pick | apply Ent.drop)))
        · have hmay : MayP c m ↔ (DownP c m false ∧ m.words = .zero) := by simp [MayP, FormP, WordsP, HomeP, Wordy, he, h, hl']
          have hfv : formV m.kind = .iface 300 (.agg #[.bool false]) := by rw [h]; rfl
          simp only [hfv] at hF
          have hU := fun F => msg_down (F := F) (c := c) (m := m) (a := false) h0
          refine FnF.mk' Tryz.func73 rfl rfl Tryz.ntmps73 rfl ?_
          by_cases hx : DownP c m false
          · simp only [hx, decide_true] at hU
            by_cases hy : m.words = .zero
            · repeat (first | rintro _ _ ⟨rfl, rfl⟩ | refine exq fun _ => ?_ | intro _ | refine go ?_ | refine drq ?_ | refine cal @hC ?_ | refine cal @hN ?_ | refine cal @hW ?_ | refine cal @hF ?_ | refine str ?_ | refine cali @hU ?_)
              simp only [words_zero, hy, decide_true]
              (apply WE_ret rfl rfl (by (repeat (first | exact ResOk.nil | (apply ResOk.tmp; rfl) | (apply resOk_cell; rfl; exact inferInstance; rfl; rfl)))); (first | exact ⟨rfl, rfl⟩ | exact ⟨congrArg Value.bool (by decide), rfl⟩ | exact ⟨_, rfl, rfl⟩ | exact ⟨_, _, rfl, rfl⟩ | exact ⟨by first | (simp [hmay, hx, hy]; done) | (simp [hmay, hx, hy] <;> omega), rfl⟩); (repeat (first | exact Ent.refl | exact Ent.nil | apply Ent.pick | apply Ent.drop)))
            · repeat (first | rintro _ _ ⟨rfl, rfl⟩ | refine exq fun _ => ?_ | intro _ | refine go ?_ | refine drq ?_ | refine cal @hC ?_ | refine cal @hN ?_ | refine cal @hW ?_ | refine cal @hF ?_ | refine str ?_ | refine cali @hU ?_)
              try simp only [words_zero, hy, decide_false]
              (apply WE_ret rfl rfl (by (repeat (first | exact ResOk.nil | (apply ResOk.tmp; rfl) | (apply resOk_cell; rfl; exact inferInstance; rfl; rfl)))); (first | exact ⟨rfl, rfl⟩ | exact ⟨congrArg Value.bool (by decide), rfl⟩ | exact ⟨_, rfl, rfl⟩ | exact ⟨_, _, rfl, rfl⟩ | exact ⟨by first | (simp [hmay, hx, hy]; done) | (simp [hmay, hx, hy] <;> omega), rfl⟩); (repeat (first | exact Ent.refl | exact Ent.nil | apply Ent.pick | apply Ent.drop)))
          · simp only [hx, decide_false] at hU
            repeat (first | rintro _ _ ⟨rfl, rfl⟩ | refine exq fun _ => ?_ | intro _ | refine go ?_ | refine drq ?_ | refine cal @hC ?_ | refine cal @hN ?_ | refine cal @hW ?_ | refine cal @hF ?_ | refine str ?_ | refine cali @hU ?_)
            (apply WE_ret rfl rfl (by (repeat (first | exact ResOk.nil | (apply ResOk.tmp; rfl) | (apply resOk_cell; rfl; exact inferInstance; rfl; rfl)))); (first | exact ⟨rfl, rfl⟩ | exact ⟨congrArg Value.bool (by decide), rfl⟩ | exact ⟨_, rfl, rfl⟩ | exact ⟨_, _, rfl, rfl⟩ | exact ⟨by first | (simp [hmay, hx]; done) | (simp [hmay, hx] <;> omega), rfl⟩); (repeat (first | exact Ent.refl | exact Ent.nil | apply Ent.pick | apply Ent.drop)))
        · have hmay : MayP c m ↔ (UpP c m ∧ m.words = .zero) := by simp [MayP, FormP, WordsP, HomeP, Wordy, he, h, hl']
          have hfv : formV m.kind = .iface 294 (.agg #[]) := by rw [h]; rfl
          simp only [hfv] at hF
          have hU := fun F => msg_up (F := F) (c := c) (m := m) h0
          refine FnF.mk' Tryz.func73 rfl rfl Tryz.ntmps73 rfl ?_
          by_cases hx : UpP c m
          · simp only [hx, decide_true] at hU
            by_cases hy : m.words = .zero
            · repeat (first | rintro _ _ ⟨rfl, rfl⟩ | refine exq fun _ => ?_ | intro _ | refine go ?_ | refine drq ?_ | refine cal @hC ?_ | refine cal @hN ?_ | refine cal @hW ?_ | refine cal @hF ?_ | refine str ?_ | refine cali @hU ?_)
              simp only [words_zero, hy, decide_true]
              (apply WE_ret rfl rfl (by (repeat (first | exact ResOk.nil | (apply ResOk.tmp; rfl) | (apply resOk_cell; rfl; exact inferInstance; rfl; rfl)))); (first | exact ⟨rfl, rfl⟩ | exact ⟨congrArg Value.bool (by decide), rfl⟩ | exact ⟨_, rfl, rfl⟩ | exact ⟨_, _, rfl, rfl⟩ | exact ⟨by first | (simp [hmay, hx, hy]; done) | (simp [hmay, hx, hy] <;> omega), rfl⟩); (repeat (first | exact Ent.refl | exact Ent.nil | apply Ent.pick | apply Ent.drop)))
            · repeat (first | rintro _ _ ⟨rfl, rfl⟩ | refine exq fun _ => ?_ | intro _ | refine go ?_ | refine drq ?_ | refine cal @hC ?_ | refine cal @hN ?_ | refine cal @hW ?_ | refine cal @hF ?_ | refine str ?_ | refine cali @hU ?_)
              try simp only [words_zero, hy, decide_false]
              (apply WE_ret rfl rfl (by (repeat (first | exact ResOk.nil | (apply ResOk.tmp; rfl) | (apply resOk_cell; rfl; exact inferInstance; rfl; rfl)))); (first | exact ⟨rfl, rfl⟩ | exact ⟨congrArg Value.bool (by decide), rfl⟩ | exact ⟨_, rfl, rfl⟩ | exact ⟨_, _, rfl, rfl⟩ | exact ⟨by first | (simp [hmay, hx, hy]; done) | (simp [hmay, hx, hy] <;> omega), rfl⟩); (repeat (first | exact Ent.refl | exact Ent.nil | apply Ent.pick | apply Ent.drop)))
          · simp only [hx, decide_false] at hU
            repeat (first | rintro _ _ ⟨rfl, rfl⟩ | refine exq fun _ => ?_ | intro _ | refine go ?_ | refine drq ?_ | refine cal @hC ?_ | refine cal @hN ?_ | refine cal @hW ?_ | refine cal @hF ?_ | refine str ?_ | refine cali @hU ?_)
            (apply WE_ret rfl rfl (by (repeat (first | exact ResOk.nil | (apply ResOk.tmp; rfl) | (apply resOk_cell; rfl; exact inferInstance; rfl; rfl)))); (first | exact ⟨rfl, rfl⟩ | exact ⟨congrArg Value.bool (by decide), rfl⟩ | exact ⟨_, rfl, rfl⟩ | exact ⟨_, _, rfl, rfl⟩ | exact ⟨by first | (simp [hmay, hx]; done) | (simp [hmay, hx] <;> omega), rfl⟩); (repeat (first | exact Ent.refl | exact Ent.nil | apply Ent.pick | apply Ent.drop)))
      · simp only [hl, decide_false] at hW
        have hno : ¬ MayP c m := fun h => hl h.2.2.1
        refine FnF.mk' Tryz.func73 rfl rfl Tryz.ntmps73 rfl ?_
        repeat (first | rintro _ _ ⟨rfl, rfl⟩ | refine exq fun _ => ?_ | intro _ | refine go ?_ | refine drq ?_ | refine cal @hC ?_ | refine cal @hN ?_ | refine cal @hW ?_)
        (apply WE_ret rfl rfl (by (repeat (first | exact ResOk.nil | (apply ResOk.tmp; rfl) | (apply resOk_cell; rfl; exact inferInstance; rfl; rfl)))); (first | exact ⟨rfl, rfl⟩ | exact ⟨congrArg Value.bool (by decide), rfl⟩ | exact ⟨_, rfl, rfl⟩ | exact ⟨_, _, rfl, rfl⟩ | exact ⟨by first | (simp [hno]; done) | (simp [hno] <;> omega), rfl⟩); (repeat (first | exact Ent.refl | exact Ent.nil | apply Ent.pick | apply Ent.drop)))
    · have hnk : netK m.kind = -1 := by unfold netK; rw [if_neg (by omega), if_neg (by omega), if_neg (by omega)]
      have hno : ¬ MayP c m := fun h => hk h.2.1
      simp only [hnk] at hN
      refine FnF.mk' Tryz.func73 rfl rfl Tryz.ntmps73 rfl ?_
      repeat (first | rintro _ _ ⟨rfl, rfl⟩ | refine exq fun _ => ?_ | intro _ | refine go ?_ | refine drq ?_ | refine cal @hC ?_ | refine cal @hN ?_)
      (apply WE_ret rfl rfl (by (repeat (first | exact ResOk.nil | (apply ResOk.tmp; rfl) | (apply resOk_cell; rfl; exact inferInstance; rfl; rfl)))); (first | exact ⟨rfl, rfl⟩ | exact ⟨congrArg Value.bool (by decide), rfl⟩ | exact ⟨_, rfl, rfl⟩ | exact ⟨_, _, rfl, rfl⟩ | exact ⟨by first | (simp [hno]; done) | (simp [hno] <;> omega), rfl⟩); (repeat (first | exact Ent.refl | exact Ent.nil | apply Ent.pick | apply Ent.drop)))
  · simp only [checkE, if_neg he] at hC
    have hno : ¬ MayP c m := fun h => he h.1
    refine FnF.mk' Tryz.func73 rfl rfl Tryz.ntmps73 rfl ?_
    repeat (first | rintro _ _ ⟨rfl, rfl⟩ | refine exq fun _ => ?_ | intro _ | refine go ?_ | refine drq ?_ | refine cal @hC ?_)
    (apply WE_ret rfl rfl (by (repeat (first | exact ResOk.nil | (apply ResOk.tmp; rfl) | (apply resOk_cell; rfl; exact inferInstance; rfl; rfl)))); (first | exact ⟨rfl, rfl⟩ | exact ⟨congrArg Value.bool (by decide), rfl⟩ | exact ⟨_, rfl, rfl⟩ | exact ⟨_, _, rfl, rfl⟩ | exact ⟨by first | (simp [hno]; done) | (simp [hno] <;> omega), rfl⟩); (repeat (first | exact Ent.refl | exact Ent.nil | apply Ent.pick | apply Ent.drop)))
end Go.Sx

/- What caches do, told of lists; what only looks. The program's. My own work. -/
namespace Go.Sx
open Go Go.Proofs
set_option linter.unusedVariables false
set_option linter.unusedSectionVars false
set_option linter.unusedSimpArgs false
/-! ## Told of lists -/
/-- A cache: its ways, its misses, its buffer. -/
structure CaS where
  ways : List Way
  mis : List Miss
  buf : List WbE
/-- What is so of each cache. -/
def CaOk (c : Cfg) (k : CaS) : Prop := ArrInv c k.ways ∧ (∀ m ∈ k.mis, okLine c m.line = true) ∧ (∀ m ∈ k.mis, -9223372036854775808 ≤ m.got ∧ m.got ≤ 9223372036854775806)
def caW (c : Cfg) (k : CaS) (line : Int) : Way := findW c k.ways line
def caCan (c : Cfg) (k : CaS) (line kind : Int) : Bool := if kind = 1 then decide ((findW c k.ways line).st ≠ 0) else decide ((findW c k.ways line).st = 2 ∨ (findW c k.ways line).st = 4)
def homeMsg (c : Cfg) (core kind line : Int) (w : Words) : Msg := ⟨kind, line, core, lineH c line, 0, 0, 0, w⟩
def caAskE (c : Cfg) (k : CaS) (line kind : Int) : Int :=
  if okLine c line = false ∨ (kind ≠ 1 ∧ kind ≠ 2) then 1
  else if misIn k.mis line = true ∨ wbIn k.buf line = true ∨ caCan c k line kind = true then 6
  else if (k.mis.length : Int) = c.mshrs then 4
  else if findB c k.ways line = false ∧ arrFree c k.ways line < 0 then 5
  else 0
def caAskK (c : Cfg) (k : CaS) (line kind : Int) : CaS :=
  if caAskE c k line kind = 0 then ⟨if findB c k.ways line then lockL c k.ways line true else layL c k.ways line (arrFree c k.ways line), openL c.mshrs k.mis line kind, k.buf⟩ else k
def caAskM (c : Cfg) (core : Int) (k : CaS) (line kind : Int) : Msg := if caAskE c k line kind = 0 then homeMsg c core kind line .zero else .zero
def caEvE (c : Cfg) (k : CaS) (s w : Int) : Int :=
  if inWay c s w = false ∨ (atW c k.ways s w).st = 0 then 5
  else if (atW c k.ways s w).lk = true then 6
  else if 2 ≤ (atW c k.ways s w).st ∧ wbPutE c.writebacks k.buf (atW c k.ways s w).line ≠ 0 then 4
  else 0
def caEvB (c : Cfg) (k : CaS) (s w : Int) : Bool := decide (caEvE c k s w = 0 ∧ 2 ≤ (atW c k.ways s w).st)
def caEvM (c : Cfg) (core : Int) (k : CaS) (s w : Int) : Msg := if caEvB c k s w then homeMsg c core 3 (atW c k.ways s w).line (atW c k.ways s w).words else .zero
def caEvK (c : Cfg) (k : CaS) (s w : Int) : CaS :=
  if caEvE c k s w = 0 then ⟨setL c k.ways (atW c k.ways s w).line 0 .zero, k.mis, if 2 ≤ (atW c k.ways s w).st then wbPutL c.writebacks k.buf (atW c k.ways s w).line (atW c k.ways s w).words else k.buf⟩ else k
def caTellE (c : Cfg) (k : CaS) (line : Int) : Int := if 2 ≤ (findW c k.ways line).st then 0 else if wbTellE k.buf line = 0 then 0 else 7
def caTellW (c : Cfg) (k : CaS) (line : Int) : Words := if 2 ≤ (findW c k.ways line).st then (findW c k.ways line).words else wbTellW k.buf line
def caTellK (c : Cfg) (k : CaS) (line st : Int) (give : Bool) : CaS :=
  if 2 ≤ (findW c k.ways line).st then ⟨setL c k.ways line st (findW c k.ways line).words, k.mis, k.buf⟩ else if give then ⟨k.ways, k.mis, wbGiveL k.buf line⟩ else k
def caTellM (c : Cfg) (core : Int) (k : CaS) (m : Msg) (own : Int) : Msg := if caTellE c k m.line = 0 then ⟨7, m.line, core, m.who, 1, m.acks, own, caTellW c k m.line⟩ else .zero
def caInvE (c : Cfg) (k : CaS) (line : Int) : Int := if 2 ≤ (findW c k.ways line).st then 7 else 0
def caInvK (c : Cfg) (k : CaS) (line : Int) : CaS := if (findW c k.ways line).st = 1 then ⟨setL c k.ways line 0 .zero, k.mis, k.buf⟩ else k
def caInvM (c : Cfg) (core : Int) (k : CaS) (m : Msg) : Msg := if caInvE c k m.line = 0 then ⟨9, m.line, core, m.who, 0, 0, 0, .zero⟩ else .zero
/-- Of misses that are turned: filled, if all came. -/
def caFill (c : Cfg) (k : CaS) (line : Int) : CaS :=
  if oweB k.mis line then ⟨setL c k.ways line (oweM k.mis line).own (if (oweM k.mis line).granted then (findW c k.ways line).words else (oweM k.mis line).words), oweL k.mis line, k.buf⟩ else k
def err7 (e : Int) : Int := if e = 0 then 0 else 7
def caDataK (c : Cfg) (k : CaS) (m : Msg) : CaS := if dataE k.mis m.line m.acks m.own = 0 then caFill c ⟨k.ways, dataL k.mis m.line m.acks m.own m.words, k.buf⟩ m.line else k
def caGrE (c : Cfg) (k : CaS) (m : Msg) : Int := if (findW c k.ways m.line).st = 3 then err7 (dataE k.mis m.line m.acks 4) else 7
def caGrK (c : Cfg) (k : CaS) (m : Msg) : CaS := if caGrE c k m = 0 then caFill c ⟨k.ways, grantL k.mis m.line m.acks, k.buf⟩ m.line else k
def caAckK (c : Cfg) (k : CaS) (m : Msg) : CaS := if ackE k.mis m.line = 0 then caFill c ⟨k.ways, ackL k.mis m.line, k.buf⟩ m.line else k
def caPaK (k : CaS) (line : Int) : CaS := ⟨k.ways, k.mis, wbDropL k.buf line⟩
def caTakeOk (c : Cfg) (core : Int) (m : Msg) : Bool := decide (MayP c m) && !decide (HomeP m.kind) && decide (m.dst = core)
def caTakeE (c : Cfg) (core : Int) (k : CaS) (m : Msg) : Int :=
  if caTakeOk c core m then (if m.kind = 4 ∨ m.kind = 5 then caTellE c k m.line else if m.kind = 6 then caInvE c k m.line else if m.kind = 7 then err7 (dataE k.mis m.line m.acks m.own) else if m.kind = 8 then caGrE c k m
    else if m.kind = 9 then err7 (ackE k.mis m.line) else err7 (wbDropE k.buf m.line)) else 1
def caTakeB (c : Cfg) (core : Int) (k : CaS) (m : Msg) : Bool := decide (caTakeE c core k m = 0 ∧ 4 ≤ m.kind ∧ m.kind ≤ 6)
def caTakeM (c : Cfg) (core : Int) (k : CaS) (m : Msg) : Msg :=
  if caTakeOk c core m then (if m.kind = 4 then caTellM c core k m 1 else if m.kind = 5 then caTellM c core k m 4 else if m.kind = 6 then caInvM c core k m else .zero) else .zero
def caTakeK (c : Cfg) (core : Int) (k : CaS) (m : Msg) : CaS :=
  if caTakeOk c core m then (if m.kind = 4 then caTellK c k m.line 3 false else if m.kind = 5 then caTellK c k m.line 0 true else if m.kind = 6 then (if caInvE c k m.line = 0 then caInvK c k m.line else k) else if m.kind = 7 then caDataK c k m
    else if m.kind = 8 then caGrK c k m else if m.kind = 9 then caAckK c k m else caPaK k m.line) else k
def caFinB (k : CaS) : Bool := decide (0 ≤ owingP k.mis)
def caFinL (k : CaS) : Int := if 0 ≤ owingP k.mis then (k.mis.getD (owingP k.mis).toNat .zero).line else 0
def caFinM (c : Cfg) (core : Int) (k : CaS) : Msg := if caFinB k then homeMsg c core 11 (caFinL k) .zero else .zero
def caFinK (c : Cfg) (k : CaS) : CaS := if caFinB k then ⟨lockL c k.ways (caFinL k) false, closeL k.mis (caFinL k), k.buf⟩ else k
def kindOf (x : Op3) : Int := if x.kind = 1 then 1 else 2
def caDoE (c : Cfg) (k : CaS) (x : Op3) : Int := if apE c x = 0 then (if caCan c k (addrL c x.addr) (kindOf x) then 0 else 5) else apE c x
def caDoV (c : Cfg) (k : CaS) (x : Op3) : Int := if caDoE c k x = 0 then apV c (findW c k.ways (addrL c x.addr)).words x else 0
def caDoK (c : Cfg) (k : CaS) (x : Op3) : CaS := if caDoE c k x = 0 ∧ x.kind ≠ 1 then ⟨setL c k.ways (addrL c x.addr) 4 (apW c (findW c k.ways (addrL c x.addr)).words x), k.mis, k.buf⟩ else k

/-! ## Caches in memory: of the program, and of the document -/
def CaG (T : TypeId) (A M W : Nat → HP) (b : Nat) (c : Cfg) (core : Int) : HP :=
  Ex fun q : Nat × Nat × Nat => [Cells b T (c.cells ++ [.int .i64 core, .pointer (some ⟨q.1, 0, none⟩), .pointer (some ⟨q.2.1, 0, none⟩), .pointer (some ⟨q.2.2, 0, none⟩)]), A q.1, M q.2.1, W q.2.2, Fact (checkB c = true ∧ 0 ≤ core ∧ core < c.cores)]
theorem ca_in {T : TypeId} {A M W : Nat → HP} {b a f e : Nat} {c : Cfg} {core : Int} {L R : List HP}
    (h : Ent L (Cells b T (c.cells ++ [.int .i64 core, .pointer (some ⟨a, 0, none⟩), .pointer (some ⟨f, 0, none⟩), .pointer (some ⟨e, 0, none⟩)]) :: A a :: M f :: W e :: R)) (hf : checkB c = true ∧ 0 ≤ core ∧ core < c.cores) : Ent L (CaG T A M W b c core :: R) := by
  refine Ent.trans h (Ent.trans ?_ (ex_intro (p := fun q : Nat × Nat × Nat => [Cells b T (c.cells ++ [.int .i64 core, .pointer (some ⟨q.1, 0, none⟩), .pointer (some ⟨q.2.1, 0, none⟩), .pointer (some ⟨q.2.2, 0, none⟩)]), A q.1, M q.2.1, W q.2.2, Fact (checkB c = true ∧ 0 ≤ core ∧ core < c.cores)]) (a, f, e)))
  exact Ent.cons (Ent.cons (Ent.cons (Ent.cons (star_fact_mk hf))))
theorem ca_sat {T : TypeId} {A M W : Nat → HP} {b : Nat} {c : Cfg} {core : Int} {L : List HP} {w : World} (h : Sat (CaG T A M W b c core :: L) w) : ∃ a f e, (checkB c = true ∧ 0 ≤ core ∧ core < c.cores) ∧
    Sat (Cells b T (c.cells ++ [.int .i64 core, .pointer (some ⟨a, 0, none⟩), .pointer (some ⟨f, 0, none⟩), .pointer (some ⟨e, 0, none⟩)]) :: A a :: M f :: W e :: L) w := by
  obtain ⟨⟨a, f, e⟩, hx⟩ := star_ex h
  simp only [app] at hx
  exact ⟨a, f, e, fact_of (star_drop (star_drop (star_drop (star_drop hx)))), (Ent.cons (Ent.cons (Ent.cons (Ent.cons (Ent.drop Ent.refl))))) _ hx⟩
section
variable {T : TypeId} {A M W : Nat → HP} {b : Nat} {c : Cfg} {core : Int} {P : Program} {N : Nat} {env : Env} {L : List HP} {Q : Exit → Act → World → Prop}
theorem ca_open {co : Code} (h : ∀ a f e, (checkB c = true ∧ 0 ≤ core ∧ core < c.cores) → WC P N co env (Cells b T (c.cells ++ [.int .i64 core, .pointer (some ⟨a, 0, none⟩), .pointer (some ⟨f, 0, none⟩), .pointer (some ⟨e, 0, none⟩)]) :: A a :: M f :: W e :: L) Q) : WC P N co env (CaG T A M W b c core :: L) Q := by
  intro x w ha hw
  obtain ⟨a, f, e, hf, hx⟩ := ca_sat hw
  exact h a f e hf x w ha hx
theorem ca_openO {all : Array Oper} {o : List Oper} (h : ∀ a f e, (checkB c = true ∧ 0 ≤ core ∧ core < c.cores) → WO P N all o env (Cells b T (c.cells ++ [.int .i64 core, .pointer (some ⟨a, 0, none⟩), .pointer (some ⟨f, 0, none⟩), .pointer (some ⟨e, 0, none⟩)]) :: A a :: M f :: W e :: L) Q) : WO P N all o env (CaG T A M W b c core :: L) Q := by
  intro x w ha hw
  obtain ⟨a, f, e, hf, hx⟩ := ca_sat hw
  exact h a f e hf x w ha hx
end
theorem ca_close {T : TypeId} {A A' M M' W W' : Nat → HP} {b : Nat} {c : Cfg} {core : Int} {P : Program} {fn : FuncId} {vs : List Value} {F : List HP} {u : Value}
    (h : ∀ a f e, (checkB c = true ∧ 0 ≤ core ∧ core < c.cores) → FnF P fn vs [Cells b T (c.cells ++ [.int .i64 core, .pointer (some ⟨a, 0, none⟩), .pointer (some ⟨f, 0, none⟩), .pointer (some ⟨e, 0, none⟩)]), A a, M f, W e] F
      (fun r L' => r = u ∧ L' = [Cells b T (c.cells ++ [.int .i64 core, .pointer (some ⟨a, 0, none⟩), .pointer (some ⟨f, 0, none⟩), .pointer (some ⟨e, 0, none⟩)]), A' a, M' f, W' e]))
    (en : Enters P fn) : FnF P fn vs [CaG T A M W b c core] F (fun r L' => r = u ∧ L' = [CaG T A' M' W' b c core]) := by
  refine ⟨en, fun w hw => ?_⟩
  obtain ⟨a, f, e, hf, hx⟩ := ca_sat hw
  refine ((h a f e hf).runs w hx).mono ?_
  rintro x w' ⟨v, L', he, ⟨hv, hL⟩, hs⟩
  subst hL
  exact ⟨v, _, he, ⟨hv, rfl⟩, (ca_in Ent.refl hf).sat hs⟩
theorem cfg_wf {c : Cfg} (h : checkB c = true) : c.wf := by
  simp only [checkB, fitsB, Bool.and_eq_true, decide_eq_true_eq] at h
  unfold Cfg.wf I64
  omega
theorem cfg_rooms {c : Cfg} (h : checkB c = true) : (1 ≤ c.mshrs ∧ c.mshrs ≤ 8) ∧ (1 ≤ c.buffer ∧ c.buffer ≤ 16) ∧ (1 ≤ c.writebacks ∧ c.writebacks ≤ 8) ∧ (1 ≤ c.r0 ∧ c.r0 ≤ 64) ∧ (1 ≤ c.r1 ∧ c.r1 ≤ 64) ∧ (1 ≤ c.r2 ∧ c.r2 ≤ 64) := by
  simp only [checkB, fitsB, Bool.and_eq_true, decide_eq_true_eq] at h
  omega
theorem okLine_i64 {c : Cfg} {line : Int} (h : okLine c line = true) : I64 line := by
  obtain ⟨hc, h0, h1⟩ := line_big h
  have := (check_words hc).2.2
  unfold I64; omega
set_option maxRecDepth 100000
set_option maxHeartbeats 4000000
attribute [local irreducible] Go.Exit.then Go.Exit.inBlock Go.Code.wp WC WO WE WQ V LoopQ FnQ Sat Star band bor IntKind.wrap WR Code.rounds WT KO
abbrev CaO (b a f e : Nat) (c : Cfg) (core : Int) (k : CaS) : List HP := [Cells b 155 (c.cells ++ [.int .i64 core, .pointer (some ⟨a, 0, none⟩), .pointer (some ⟨f, 0, none⟩), .pointer (some ⟨e, 0, none⟩)]), ArrP a c k.ways, Msh f c.mshrs k.mis, Wb e c.writebacks k.buf]
abbrev CaP (b : Nat) (c : Cfg) (core : Int) (k : CaS) : HP := CaG 155 (fun a => ArrP a c k.ways) (fun f => Msh f c.mshrs k.mis) (fun e => Wb e c.writebacks k.buf) b c core
theorem ca_New {F : List HP} {c : Cfg} {core : Int} (hw : c.wf) (h : checkB c = true ∧ 0 ≤ core ∧ core < c.cores) :
    FnF Tryz.prog 11 [c.val, .int .i64 core] [] F (fun r L' => ∃ b, r = .tuple [.pointer (some ⟨b, 0, none⟩), .int .i64 0].toArray ∧ L' = [CaP b c core ⟨List.replicate (c.sets * c.ways).toNat .zero, [], []⟩]) := by
  obtain ⟨hc, h0, h1⟩ := h
  have hr := cfg_rooms hc
  have hA := fun F => arr_New (F := F) hw hc
  have hM := fun F => msh_New (F := F) (room := c.mshrs) hr.1
  have hB := fun F => wb_New (F := F) (room := c.writebacks) hr.2.2.1
  refine FnF.mk' Tryz.func11 rfl rfl Tryz.ntmps11 rfl ?_
  repeat (first | rintro _ _ ⟨rfl, rfl⟩ | refine exq fun _ => ?_ | intro _ | refine go ?_ | refine drq ?_ | refine cal @hA ?_ | refine cal @hM ?_ | refine cal @hB ?_)
  rename_i b0 a f e b1
  (apply WE_ret rfl rfl (by (repeat (first | exact ResOk.nil | (apply ResOk.tmp; rfl) | (apply resOk_cell; rfl; exact inferInstance; rfl; rfl)))))
  · exact ⟨_, rfl, rfl⟩
  · refine ca_in (a := a) (f := f) (e := e) ?_ ⟨hc, h0, h1⟩
    change Ent (Cells _ _ (c.cells ++ [.int .i64 core, .pointer (some ⟨a, 0, none⟩), .pointer (some ⟨f, 0, none⟩), .pointer (some ⟨e, 0, none⟩)]) :: _) _
    exact entu0
theorem ca_New_no {F : List HP} {c : Cfg} {core : Int} (hw : c.wf) (h : ¬ (checkB c = true ∧ 0 ≤ core ∧ core < c.cores)) :
    FnF Tryz.prog 11 [c.val, .int .i64 core] [] F (fun r L' => r = .tuple [.pointer none, .int .i64 1].toArray ∧ L' = []) := by
  cases hc : checkB c with
  | false =>
    have hA := fun F => arr_New_no (F := F) hw hc
    refine FnF.mk' Tryz.func11 rfl rfl Tryz.ntmps11 rfl ?_
    repeat (first | rintro _ _ ⟨rfl, rfl⟩ | refine exq fun _ => ?_ | intro _ | refine go ?_ | refine drq ?_ | refine cal @hA ?_)
    exact fin0
  | true =>
    have hA := fun F => arr_New (F := F) hw hc
    refine FnF.mk' Tryz.func11 rfl rfl Tryz.ntmps11 rfl ?_
    by_cases h0 : core < 0
    · repeat (first | rintro _ _ ⟨rfl, rfl⟩ | refine exq fun _ => ?_ | intro _ | refine go ?_ | refine drq ?_ | refine cal @hA ?_)
      exact fin0
    · have h1 : core ≥ c.cores := Int.not_lt.1 fun h2 => h ⟨hc, by omega, h2⟩
      repeat (first | rintro _ _ ⟨rfl, rfl⟩ | refine exq fun _ => ?_ | intro _ | refine go ?_ | refine drq ?_ | refine cal @hA ?_)
      exact fin0
theorem ca_LookO {F : List HP} {b a f e : Nat} {c : Cfg} {core line : Int} {k : CaS} (hc : checkB c = true) (hli : I64 line) :
    FnF Tryz.prog 17 [.pointer (some ⟨b, 0, none⟩), .int .i64 line] (CaO b a f e c core k) F (fun r L' => r = .tuple [wyv (findW c k.ways line), .bool (findB c k.ways line)].toArray ∧ L' = CaO b a f e c core k) := by
  refine FnF.mk' Tryz.func17 rfl rfl Tryz.ntmps17 rfl ?_
  have hA := fun F => arr_Find (F := F) (b := a) (c := c) (l := k.ways) (line := line) (cfg_wf hc) hli
  repeat (first | rintro _ _ ⟨rfl, rfl⟩ | refine exq fun _ => ?_ | intro _ | refine go ?_ | refine drq ?_ | refine cal @hA ?_)
  (apply WE_ret rfl rfl (by (repeat (first | exact ResOk.nil | (apply ResOk.tmp; rfl) | (apply resOk_cell; rfl; exact inferInstance; rfl; rfl)))))
  · exact ⟨rfl, rfl⟩
  · exact entu0
theorem ca_Look {F : List HP} {b : Nat} {c : Cfg} {core line : Int} {k : CaS} (hli : I64 line) :
    FnF Tryz.prog 17 [.pointer (some ⟨b, 0, none⟩), .int .i64 line] [CaP b c core k] F (fun r L' => r = .tuple [wyv (findW c k.ways line), .bool (findB c k.ways line)].toArray ∧ L' = [CaP b c core k]) :=
  ca_close (fun a f e hf => ca_LookO hf.1 hli) (enters_of Tryz.func17 rfl rfl)
theorem ca_Way {F : List HP} {b : Nat} {c : Cfg} {core s w : Int} {k : CaS} :
    FnF Tryz.prog 22 [.pointer (some ⟨b, 0, none⟩), .int .i64 s, .int .i64 w] [CaP b c core k] F (fun r L' => r = .tuple [wyv (atW c k.ways s w), .bool (inWay c s w)].toArray ∧ L' = [CaP b c core k]) := by
  refine FnF.mk' Tryz.func22 rfl rfl Tryz.ntmps22 rfl ?_
  refine ca_open fun a f e hf => ?_
  have hA := fun F => arr_At (F := F) (b := a) (c := c) (l := k.ways) (s := s) (k := w)
  repeat (first | rintro _ _ ⟨rfl, rfl⟩ | refine exq fun _ => ?_ | intro _ | refine go ?_ | refine drq ?_ | refine cal @hA ?_)
  (apply WE_ret rfl rfl (by (repeat (first | exact ResOk.nil | (apply ResOk.tmp; rfl) | (apply resOk_cell; rfl; exact inferInstance; rfl; rfl)))))
  · exact ⟨rfl, rfl⟩
  · (apply ca_in; (focus (exact entu0)); all_goals (first | rfl | (with_reducible assumption) | (simp; done) | (simp; omega) | omega | (constructor <;> (simp) <;> omega)))
theorem ca_Misses {F : List HP} {b : Nat} {c : Cfg} {core : Int} {k : CaS} :
    FnF Tryz.prog 46 [.pointer (some ⟨b, 0, none⟩)] [CaP b c core k] F (fun r L' => ∃ p q, r = .slice p k.mis.length q ∧ L' = [Own 162 15 (.slice p k.mis.length q) k.mis.length (flat msc' k.mis), CaP b c core k]) := by
  refine FnF.mk' Tryz.func46 rfl rfl Tryz.ntmps46 rfl ?_
  refine ca_open fun a f e hf => ?_
  repeat (first | rintro _ _ ⟨rfl, rfl⟩ | refine exq fun _ => ?_ | intro _ | refine go ?_ | refine drq ?_ | refine cal @msh_List ?_)
  (apply WE_ret rfl rfl (by (repeat (first | exact ResOk.nil | (apply ResOk.tmp; rfl) | (apply resOk_cell; rfl; exact inferInstance; rfl; rfl)))))
  · exact ⟨_, _, rfl, rfl⟩
  · refine Ent.cons ?_
    (apply ca_in; (focus (exact entu0)); all_goals (first | rfl | (with_reducible assumption) | (simp; done) | (simp; omega) | omega | (constructor <;> (simp) <;> omega)))
theorem ca_Written {F : List HP} {b : Nat} {c : Cfg} {core : Int} {k : CaS} :
    FnF Tryz.prog 45 [.pointer (some ⟨b, 0, none⟩)] [CaP b c core k] F (fun r L' => ∃ p q, r = .slice p k.buf.length q ∧ L' = [Own 142 10 (.slice p k.buf.length q) k.buf.length (flat bc k.buf), CaP b c core k]) := by
  refine FnF.mk' Tryz.func45 rfl rfl Tryz.ntmps45 rfl ?_
  refine ca_open fun a f e hf => ?_
  repeat (first | rintro _ _ ⟨rfl, rfl⟩ | refine exq fun _ => ?_ | intro _ | refine go ?_ | refine drq ?_ | refine cal @wb_List ?_)
  (apply WE_ret rfl rfl (by (repeat (first | exact ResOk.nil | (apply ResOk.tmp; rfl) | (apply resOk_cell; rfl; exact inferInstance; rfl; rfl)))))
  · exact ⟨_, _, rfl, rfl⟩
  · refine Ent.cons ?_
    (apply ca_in; (focus (exact entu0)); all_goals (first | rfl | (with_reducible assumption) | (simp; done) | (simp; omega) | omega | (constructor <;> (simp) <;> omega)))
theorem ca_owns {F : List HP} {st : Int} : FnF Tryz.prog 70 [.int .i64 st] [] F (fun r L' => r = .bool (decide (2 ≤ st)) ∧ L' = []) := by
  refine FnF.mk' Tryz.func70 rfl rfl Tryz.ntmps70 rfl ?_
  repeat (first | rintro _ _ ⟨rfl, rfl⟩ | refine exq fun _ => ?_ | intro _ | refine go ?_ | refine drq ?_)
  exact fin0
theorem ca_homeO {F : List HP} {b a f e : Nat} {c : Cfg} {core kind line : Int} {k : CaS} (hc : checkB c = true) (hli : I64 line) :
    FnF Tryz.prog 72 [.pointer (some ⟨b, 0, none⟩), .int .i64 kind, .int .i64 line] (CaO b a f e c core k) F (fun r L' => r = mv (homeMsg c core kind line .zero) ∧ L' = CaO b a f e c core k) := by
  refine FnF.mk' Tryz.func72 rfl rfl Tryz.ntmps72 rfl ?_
  have hL := fun F => split_Line (F := F) (c := c) (a := line) (cfg_wf hc) hli
  repeat (first | rintro _ _ ⟨rfl, rfl⟩ | refine exq fun _ => ?_ | intro _ | refine go ?_ | refine drq ?_ | refine cal @hL ?_)
  (apply WE_ret rfl rfl (by (repeat (first | exact ResOk.nil | (apply ResOk.tmp; rfl) | (apply resOk_cell; rfl; exact inferInstance; rfl; rfl)))))
  · exact ⟨rfl, rfl⟩
  · exact entu0
theorem ca_home {F : List HP} {b : Nat} {c : Cfg} {core kind line : Int} {k : CaS} (hli : I64 line) :
    FnF Tryz.prog 72 [.pointer (some ⟨b, 0, none⟩), .int .i64 kind, .int .i64 line] [CaP b c core k] F (fun r L' => r = mv (homeMsg c core kind line .zero) ∧ L' = [CaP b c core k]) :=
  ca_close (fun a f e hf => ca_homeO hf.1 hli) (enters_of Tryz.func72 rfl rfl)
theorem dr_Ca_158 {Q P : Prop} (k : Q) (h : Hid Q → P := by
  intro k
  first
  | (refine is_draw ?_; apply WC_mix (id := 1) .true _ (pl := .p 0 <| .p 1 <| .p 3 <| .p 4 <| .p 5 <| .p 7 <| .r 2 <| .r 6 <| .r 8 <| .p 9 <| .e true [(10, .done)]); exact mixed; kernel_rfl; kernel_rfl; exact Ent.refl; exact k.out)) : P := h ⟨k⟩
theorem ca_toO {F : List HP} {b a f e : Nat} {c : Cfg} {core kind : Int} {m : Msg} {k : CaS} :
    FnF Tryz.prog 158 [.pointer (some ⟨b, 0, none⟩), mv m, .int .i64 kind] (CaO b a f e c core k) F (fun r L' => r = mv ⟨kind, m.line, core, m.who, 0, 0, 0, .zero⟩ ∧ L' = CaO b a f e c core k) := by
  refine FnF.mk' Tryz.func158 rfl rfl Tryz.ntmps158 rfl ?_
  repeat (first | rintro _ _ ⟨rfl, rfl⟩ | refine exq fun _ => ?_ | intro _ | refine go ?_ | refine dr_Ca_158 ?_ | refine drq ?_)
  (apply WE_ret rfl rfl (by (repeat (first | exact ResOk.nil | (apply ResOk.tmp; rfl) | (apply resOk_cell; rfl; exact inferInstance; rfl; rfl)))))
  · exact ⟨rfl, rfl⟩
  · exact entu0
theorem ca_to {F : List HP} {b : Nat} {c : Cfg} {core kind : Int} {m : Msg} {k : CaS} :
    FnF Tryz.prog 158 [.pointer (some ⟨b, 0, none⟩), mv m, .int .i64 kind] [CaP b c core k] F (fun r L' => r = mv ⟨kind, m.line, core, m.who, 0, 0, 0, .zero⟩ ∧ L' = [CaP b c core k]) :=
  ca_close (fun a f e hf => ca_toO ) (enters_of Tryz.func158 rfl rfl)
theorem ca_canO {F : List HP} {b a f e : Nat} {c : Cfg} {core line kind : Int} {k : CaS} (hc : checkB c = true) (hli : I64 line) :
    FnF Tryz.prog 67 [.pointer (some ⟨b, 0, none⟩), .int .i64 line, .int .i64 kind] (CaO b a f e c core k) F (fun r L' => r = .bool (caCan c k line kind) ∧ L' = CaO b a f e c core k) := by
  have hL := fun F => ca_LookO (F := F) (b := b) (a := a) (f := f) (e := e) (c := c) (core := core) (k := k) hc hli
  refine FnF.mk' Tryz.func67 rfl rfl Tryz.ntmps67 rfl ?_
  unfold caCan
  by_cases h1 : kind = 1
  · rw [if_pos h1]
    repeat (first | rintro _ _ ⟨rfl, rfl⟩ | refine exq fun _ => ?_ | intro _ | refine go ?_ | refine drq ?_ | refine cal @hL ?_)
    (apply WE_ret rfl rfl (by (repeat (first | exact ResOk.nil | (apply ResOk.tmp; rfl) | (apply resOk_cell; rfl; exact inferInstance; rfl; rfl)))))
    · exact ⟨rfl, rfl⟩
    · exact entu0
  · rw [if_neg h1]
    by_cases h2 : (findW c k.ways line).st = 2
    · repeat (first | rintro _ _ ⟨rfl, rfl⟩ | refine exq fun _ => ?_ | intro _ | refine go ?_ | refine drq ?_ | refine cal @hL ?_)
      (apply WE_ret rfl rfl (by (repeat (first | exact ResOk.nil | (apply ResOk.tmp; rfl) | (apply resOk_cell; rfl; exact inferInstance; rfl; rfl)))))
      · exact ⟨by simp [h2], rfl⟩
      · exact entu0
    · repeat (first | rintro _ _ ⟨rfl, rfl⟩ | refine exq fun _ => ?_ | intro _ | refine go ?_ | refine drq ?_ | refine cal @hL ?_)
      (apply WE_ret rfl rfl (by (repeat (first | exact ResOk.nil | (apply ResOk.tmp; rfl) | (apply resOk_cell; rfl; exact inferInstance; rfl; rfl)))))
      · exact ⟨by simp [h2], rfl⟩
      · exact entu0
theorem ca_can {F : List HP} {b : Nat} {c : Cfg} {core line kind : Int} {k : CaS} (hli : I64 line) :
    FnF Tryz.prog 67 [.pointer (some ⟨b, 0, none⟩), .int .i64 line, .int .i64 kind] [CaP b c core k] F (fun r L' => r = .bool (caCan c k line kind) ∧ L' = [CaP b c core k]) :=
  ca_close (fun a f e hf => ca_canO hf.1 hli) (enters_of Tryz.func67 rfl rfl)
end Go.Sx
