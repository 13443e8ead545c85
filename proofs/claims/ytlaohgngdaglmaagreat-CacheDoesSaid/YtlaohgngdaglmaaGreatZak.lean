/- Ca, MshR5, MshR6, MshR7, MshR8, MshR9: several of my texts as one. My own work. -/
import Derived.Test.YtlaohgngdaglmaaGreatZad
import Derived.Test.YtlaohgngdaglmaaGreatZag
import Derived.Test.YtlaohgngdaglmaaGreatZae
import Derived.Test.YtlaohgngdaglmaaGreatZaj
import Derived.Test.YtlaohgngdaglmaaGreatZai
/- What caches do, told of lists; what only looks. The program's. My own work. -/
namespace Go.Sx
open Go Go.Proofs
set_option linter.unusedVariables false
set_option linter.unusedSectionVars false
set_option linter.unusedSimpArgs false
/-! ## Told of lists -/
/-- A cache: its ways, its misses, its buffer. -/
structure CaS where
  ways : List Way
  mis : List Miss
  buf : List WbE
/-- What is so of each cache. -/
def CaOk (c : Cfg) (k : CaS) : Prop := ArrInv c k.ways ∧ (∀ m ∈ k.mis, okLine c m.line = true) ∧ (∀ m ∈ k.mis, -9223372036854775808 ≤ m.got ∧ m.got ≤ 9223372036854775806)
def caW (c : Cfg) (k : CaS) (line : Int) : Way := findW c k.ways line
def caCan (c : Cfg) (k : CaS) (line kind : Int) : Bool := if kind = 1 then decide ((findW c k.ways line).st ≠ 0) else decide ((findW c k.ways line).st = 2 ∨ (findW c k.ways line).st = 4)
def homeMsg (c : Cfg) (core kind line : Int) (w : Words) : Msg := ⟨kind, line, core, lineH c line, 0, 0, 0, w⟩
def caAskE (c : Cfg) (k : CaS) (line kind : Int) : Int :=
  if okLine c line = false ∨ (kind ≠ 1 ∧ kind ≠ 2) then 1
  else if misIn k.mis line = true ∨ wbIn k.buf line = true ∨ caCan c k line kind = true then 6
  else if (k.mis.length : Int) = c.mshrs then 4
  else if findB c k.ways line = false ∧ arrFree c k.ways line < 0 then 5
  else 0
def caAskK (c : Cfg) (k : CaS) (line kind : Int) : CaS :=
  if caAskE c k line kind = 0 then ⟨if findB c k.ways line then lockL c k.ways line true else layL c k.ways line (arrFree c k.ways line), openL c.mshrs k.mis line kind, k.buf⟩ else k
def caAskM (c : Cfg) (core : Int) (k : CaS) (line kind : Int) : Msg := if caAskE c k line kind = 0 then homeMsg c core kind line .zero else .zero
def caEvE (c : Cfg) (k : CaS) (s w : Int) : Int :=
  if inWay c s w = false ∨ (atW c k.ways s w).st = 0 then 5
  else if (atW c k.ways s w).lk = true then 6
  else if 2 ≤ (atW c k.ways s w).st ∧ wbPutE c.writebacks k.buf (atW c k.ways s w).line ≠ 0 then 4
  else 0
def caEvB (c : Cfg) (k : CaS) (s w : Int) : Bool := decide (caEvE c k s w = 0 ∧ 2 ≤ (atW c k.ways s w).st)
def caEvM (c : Cfg) (core : Int) (k : CaS) (s w : Int) : Msg := if caEvB c k s w then homeMsg c core 3 (atW c k.ways s w).line (atW c k.ways s w).words else .zero
def caEvK (c : Cfg) (k : CaS) (s w : Int) : CaS :=
  if caEvE c k s w = 0 then ⟨setL c k.ways (atW c k.ways s w).line 0 .zero, k.mis, if 2 ≤ (atW c k.ways s w).st then wbPutL c.writebacks k.buf (atW c k.ways s w).line (atW c k.ways s w).words else k.buf⟩ else k
def caTellE (c : Cfg) (k : CaS) (line : Int) : Int := if 2 ≤ (findW c k.ways line).st then 0 else if wbTellE k.buf line = 0 then 0 else 7
def caTellW (c : Cfg) (k : CaS) (line : Int) : Words := if 2 ≤ (findW c k.ways line).st then (findW c k.ways line).words else wbTellW k.buf line
def caTellK (c : Cfg) (k : CaS) (line st : Int) (give : Bool) : CaS :=
  if 2 ≤ (findW c k.ways line).st then ⟨setL c k.ways line st (findW c k.ways line).words, k.mis, k.buf⟩ else if give then ⟨k.ways, k.mis, wbGiveL k.buf line⟩ else k
def caTellM (c : Cfg) (core : Int) (k : CaS) (m : Msg) (own : Int) : Msg := if caTellE c k m.line = 0 then ⟨7, m.line, core, m.who, 1, m.acks, own, caTellW c k m.line⟩ else .zero
def caInvE (c : Cfg) (k : CaS) (line : Int) : Int := if 2 ≤ (findW c k.ways line).st then 7 else 0
def caInvK (c : Cfg) (k : CaS) (line : Int) : CaS := if (findW c k.ways line).st = 1 then ⟨setL c k.ways line 0 .zero, k.mis, k.buf⟩ else k
def caInvM (c : Cfg) (core : Int) (k : CaS) (m : Msg) : Msg := if caInvE c k m.line = 0 then ⟨9, m.line, core, m.who, 0, 0, 0, .zero⟩ else .zero
/-- Of misses that are turned: filled, if all came. -/
def caFill (c : Cfg) (k : CaS) (line : Int) : CaS :=
  if oweB k.mis line then ⟨setL c k.ways line (oweM k.mis line).own (if (oweM k.mis line).granted then (findW c k.ways line).words else (oweM k.mis line).words), oweL k.mis line, k.buf⟩ else k
def err7 (e : Int) : Int := if e = 0 then 0 else 7
def caDataK (c : Cfg) (k : CaS) (m : Msg) : CaS := if dataE k.mis m.line m.acks m.own = 0 then caFill c ⟨k.ways, dataL k.mis m.line m.acks m.own m.words, k.buf⟩ m.line else k
def caGrE (c : Cfg) (k : CaS) (m : Msg) : Int := if (findW c k.ways m.line).st = 3 then err7 (dataE k.mis m.line m.acks 4) else 7
def caGrK (c : Cfg) (k : CaS) (m : Msg) : CaS := if caGrE c k m = 0 then caFill c ⟨k.ways, grantL k.mis m.line m.acks, k.buf⟩ m.line else k
def caAckK (c : Cfg) (k : CaS) (m : Msg) : CaS := if ackE k.mis m.line = 0 then caFill c ⟨k.ways, ackL k.mis m.line, k.buf⟩ m.line else k
def caPaK (k : CaS) (line : Int) : CaS := ⟨k.ways, k.mis, wbDropL k.buf line⟩
def caTakeOk (c : Cfg) (core : Int) (m : Msg) : Bool := decide (MayP c m) && !decide (HomeP m.kind) && decide (m.dst = core)
def caTakeE (c : Cfg) (core : Int) (k : CaS) (m : Msg) : Int :=
  if caTakeOk c core m then (if m.kind = 4 ∨ m.kind = 5 then caTellE c k m.line else if m.kind = 6 then caInvE c k m.line else if m.kind = 7 then err7 (dataE k.mis m.line m.acks m.own) else if m.kind = 8 then caGrE c k m
    else if m.kind = 9 then err7 (ackE k.mis m.line) else err7 (wbDropE k.buf m.line)) else 1
def caTakeB (c : Cfg) (core : Int) (k : CaS) (m : Msg) : Bool := decide (caTakeE c core k m = 0 ∧ 4 ≤ m.kind ∧ m.kind ≤ 6)
def caTakeM (c : Cfg) (core : Int) (k : CaS) (m : Msg) : Msg :=
  if caTakeOk c core m then (if m.kind = 4 then caTellM c core k m 1 else if m.kind = 5 then caTellM c core k m 4 else if m.kind = 6 then caInvM c core k m else .zero) else .zero
def caTakeK (c : Cfg) (core : Int) (k : CaS) (m : Msg) : CaS :=
  if caTakeOk c core m then (if m.kind = 4 then caTellK c k m.line 3 false else if m.kind = 5 then caTellK c k m.line 0 true else if m.kind = 6 then (if caInvE c k m.line = 0 then caInvK c k m.line else k) else if m.kind = 7 then caDataK c k m
    else if m.kind = 8 then caGrK c k m else if m.kind = 9 then caAckK c k m else caPaK k m.line) else k
def caFinB (k : CaS) : Bool := decide (0 ≤ owingP k.mis)
def caFinL (k : CaS) : Int := if 0 ≤ owingP k.mis then (k.mis.getD (owingP k.mis).toNat .zero).line else 0
def caFinM (c : Cfg) (core : Int) (k : CaS) : Msg := if caFinB k then homeMsg c core 11 (caFinL k) .zero else .zero
def caFinK (c : Cfg) (k : CaS) : CaS := if caFinB k then ⟨lockL c k.ways (caFinL k) false, closeL k.mis (caFinL k), k.buf⟩ else k
def kindOf (x : Op3) : Int := if x.kind = 1 then 1 else 2
def caDoE (c : Cfg) (k : CaS) (x : Op3) : Int := if apE c x = 0 then (if caCan c k (addrL c x.addr) (kindOf x) then 0 else 5) else apE c x
def caDoV (c : Cfg) (k : CaS) (x : Op3) : Int := if caDoE c k x = 0 then apV c (findW c k.ways (addrL c x.addr)).words x else 0
def caDoK (c : Cfg) (k : CaS) (x : Op3) : CaS := if caDoE c k x = 0 ∧ x.kind ≠ 1 then ⟨setL c k.ways (addrL c x.addr) 4 (apW c (findW c k.ways (addrL c x.addr)).words x), k.mis, k.buf⟩ else k

/-! ## Caches in memory: of the program, and of the document -/
def CaG (T : TypeId) (A M W : Nat → HP) (b : Nat) (c : Cfg) (core : Int) : HP :=
  Ex fun q : Nat × Nat × Nat => [Cells b T (c.cells ++ [.int .i64 core, .pointer (some ⟨q.1, 0, none⟩), .pointer (some ⟨q.2.1, 0, none⟩), .pointer (some ⟨q.2.2, 0, none⟩)]), A q.1, M q.2.1, W q.2.2, Fact (checkB c = true ∧ 0 ≤ core ∧ core < c.cores)]
theorem ca_in {T : TypeId} {A M W : Nat → HP} {b a f e : Nat} {c : Cfg} {core : Int} {L R : List HP}
    (h : Ent L (Cells b T (c.cells ++ [.int .i64 core, .pointer (some ⟨a, 0, none⟩), .pointer (some ⟨f, 0, none⟩), .pointer (some ⟨e, 0, none⟩)]) :: A a :: M f :: W e :: R)) (hf : checkB c = true ∧ 0 ≤ core ∧ core < c.cores) : Ent L (CaG T A M W b c core :: R) := by
  refine Ent.trans h (Ent.trans ?_ (ex_intro (p := fun q : Nat × Nat × Nat => [Cells b T (c.cells ++ [.int .i64 core, .pointer (some ⟨q.1, 0, none⟩), .pointer (some ⟨q.2.1, 0, none⟩), .pointer (some ⟨q.2.2, 0, none⟩)]), A q.1, M q.2.1, W q.2.2, Fact (checkB c = true ∧ 0 ≤ core ∧ core < c.cores)]) (a, f, e)))
  exact Ent.cons (Ent.cons (Ent.cons (Ent.cons (star_fact_mk hf))))
theorem ca_sat {T : TypeId} {A M W : Nat → HP} {b : Nat} {c : Cfg} {core : Int} {L : List HP} {w : World} (h : Sat (CaG T A M W b c core :: L) w) : ∃ a f e, (checkB c = true ∧ 0 ≤ core ∧ core < c.cores) ∧
    Sat (Cells b T (c.cells ++ [.int .i64 core, .pointer (some ⟨a, 0, none⟩), .pointer (some ⟨f, 0, none⟩), .pointer (some ⟨e, 0, none⟩)]) :: A a :: M f :: W e :: L) w := by
  obtain ⟨⟨a, f, e⟩, hx⟩ := star_ex h
  simp only [app] at hx
  exact ⟨a, f, e, fact_of (star_drop (star_drop (star_drop (star_drop hx)))), (Ent.cons (Ent.cons (Ent.cons (Ent.cons (Ent.drop Ent.refl))))) _ hx⟩
section
variable {T : TypeId} {A M W : Nat → HP} {b : Nat} {c : Cfg} {core : Int} {P : Program} {N : Nat} {env : Env} {L : List HP} {Q : Exit → Act → World → Prop}
theorem ca_open {co : Code} (h : ∀ a f e, (checkB c = true ∧ 0 ≤ core ∧ core < c.cores) → WC P N co env (Cells b T (c.cells ++ [.int .i64 core, .pointer (some ⟨a, 0, none⟩), .pointer (some ⟨f, 0, none⟩), .pointer (some ⟨e, 0, none⟩)]) :: A a :: M f :: W e :: L) Q) : WC P N co env (CaG T A M W b c core :: L) Q := by
  intro x w ha hw
  obtain ⟨a, f, e, hf, hx⟩ := ca_sat hw
  exact h a f e hf x w ha hx
theorem ca_openO {all : Array Oper} {o : List Oper} (h : ∀ a f e, (checkB c = true ∧ 0 ≤ core ∧ core < c.cores) → WO P N all o env (Cells b T (c.cells ++ [.int .i64 core, .pointer (some ⟨a, 0, none⟩), .pointer (some ⟨f, 0, none⟩), .pointer (some ⟨e, 0, none⟩)]) :: A a :: M f :: W e :: L) Q) : WO P N all o env (CaG T A M W b c core :: L) Q := by
  intro x w ha hw
  obtain ⟨a, f, e, hf, hx⟩ := ca_sat hw
  exact h a f e hf x w ha hx
end
theorem ca_close {T : TypeId} {A A' M M' W W' : Nat → HP} {b : Nat} {c : Cfg} {core : Int} {P : Program} {fn : FuncId} {vs : List Value} {F : List HP} {u : Value}
    (h : ∀ a f e, (checkB c = true ∧ 0 ≤ core ∧ core < c.cores) → FnF P fn vs [Cells b T (c.cells ++ [.int .i64 core, .pointer (some ⟨a, 0, none⟩), .pointer (some ⟨f, 0, none⟩), .pointer (some ⟨e, 0, none⟩)]), A a, M f, W e] F
      (fun r L' => r = u ∧ L' = [Cells b T (c.cells ++ [.int .i64 core, .pointer (some ⟨a, 0, none⟩), .pointer (some ⟨f, 0, none⟩), .pointer (some ⟨e, 0, none⟩)]), A' a, M' f, W' e]))
    (en : Enters P fn) : FnF P fn vs [CaG T A M W b c core] F (fun r L' => r = u ∧ L' = [CaG T A' M' W' b c core]) := by
  refine ⟨en, fun w hw => ?_⟩
  obtain ⟨a, f, e, hf, hx⟩ := ca_sat hw
  refine ((h a f e hf).runs w hx).mono ?_
  rintro x w' ⟨v, L', he, ⟨hv, hL⟩, hs⟩
  subst hL
  exact ⟨v, _, he, ⟨hv, rfl⟩, (ca_in Ent.refl hf).sat hs⟩
theorem cfg_wf {c : Cfg} (h : checkB c = true) : c.wf := by
  simp only [checkB, fitsB, Bool.and_eq_true, decide_eq_true_eq] at h
  unfold Cfg.wf I64
  omega
theorem cfg_rooms {c : Cfg} (h : checkB c = true) : (1 ≤ c.mshrs ∧ c.mshrs ≤ 8) ∧ (1 ≤ c.buffer ∧ c.buffer ≤ 16) ∧ (1 ≤ c.writebacks ∧ c.writebacks ≤ 8) ∧ (1 ≤ c.r0 ∧ c.r0 ≤ 64) ∧ (1 ≤ c.r1 ∧ c.r1 ≤ 64) ∧ (1 ≤ c.r2 ∧ c.r2 ≤ 64) := by
  simp only [checkB, fitsB, Bool.and_eq_true, decide_eq_true_eq] at h
  omega
theorem okLine_i64 {c : Cfg} {line : Int} (h : okLine c line = true) : I64 line := by
  obtain ⟨hc, h0, h1⟩ := line_big h
  have := (check_words hc).2.2
  unfold I64; omega
set_option maxRecDepth 100000
set_option maxHeartbeats 4000000
attribute [local irreducible] Go.Exit.then Go.Exit.inBlock Go.Code.wp WC WO WE WQ V LoopQ FnQ Sat Star band bor IntKind.wrap WR Code.rounds WT KO
abbrev CaO (b a f e : Nat) (c : Cfg) (core : Int) (k : CaS) : List HP := [Cells b 155 (c.cells ++ [.int .i64 core, .pointer (some ⟨a, 0, none⟩), .pointer (some ⟨f, 0, none⟩), .pointer (some ⟨e, 0, none⟩)]), ArrP a c k.ways, Msh f c.mshrs k.mis, Wb e c.writebacks k.buf]
abbrev CaP (b : Nat) (c : Cfg) (core : Int) (k : CaS) : HP := CaG 155 (fun a => ArrP a c k.ways) (fun f => Msh f c.mshrs k.mis) (fun e => Wb e c.writebacks k.buf) b c core
theorem ca_New {F : List HP} {c : Cfg} {core : Int} (hw : c.wf) (h : checkB c = true ∧ 0 ≤ core ∧ core < c.cores) :
    FnF Tryz.prog 11 [c.val, .int .i64 core] [] F (fun r L' => ∃ b, r = .tuple [.pointer (some ⟨b, 0, none⟩), .int .i64 0].toArray ∧ L' = [CaP b c core ⟨List.replicate (c.sets * c.ways).toNat .zero, [], []⟩]) := by
  obtain ⟨hc, h0, h1⟩ := h
  have hr := cfg_rooms hc
  have hA := fun F => arr_New (F := F) hw hc
  have hM := fun F => msh_New (F := F) (room := c.mshrs) hr.1
  have hB := fun F => wb_New (F := F) (room := c.writebacks) hr.2.2.1
  refine FnF.mk' Tryz.func11 rfl rfl Tryz.ntmps11 rfl ?_
  repeat (first | rintro _ _ ⟨rfl, rfl⟩ | refine exq fun _ => ?_ | intro _ | refine go ?_ | refine drq ?_ | refine cal @hA ?_ | refine cal @hM ?_ | refine cal @hB ?_)
  rename_i b0 a f e b1
  (apply WE_ret rfl rfl (by (repeat (first | exact ResOk.nil | (apply ResOk.tmp; rfl) | (apply resOk_cell; rfl; exact inferInstance; rfl; rfl)))))
  · exact ⟨_, rfl, rfl⟩
  · refine ca_in (a := a) (f := f) (e := e) ?_ ⟨hc, h0, h1⟩
    change Ent (Cells _ _ (c.cells ++ [.int .i64 core, .pointer (some ⟨a, 0, none⟩), .pointer (some ⟨f, 0, none⟩), .pointer (some ⟨e, 0, none⟩)]) :: _) _
    exact entu0
theorem ca_New_no {F : List HP} {c : Cfg} {core : Int} (hw : c.wf) (h : ¬ (checkB c = true ∧ 0 ≤ core ∧ core < c.cores)) :
    FnF Tryz.prog 11 [c.val, .int .i64 core] [] F (fun r L' => r = .tuple [.pointer none, .int .i64 1].toArray ∧ L' = []) := by
  cases hc : checkB c with
  | false =>
    have hA := fun F => arr_New_no (F := F) hw hc
    refine FnF.mk' Tryz.func11 rfl rfl Tryz.ntmps11 rfl ?_
    repeat (first | rintro _ _ ⟨rfl, rfl⟩ | refine exq fun _ => ?_ | intro _ | refine go ?_ | refine drq ?_ | refine cal @hA ?_)
    exact fin0
  | true =>
    have hA := fun F => arr_New (F := F) hw hc
    refine FnF.mk' Tryz.func11 rfl rfl Tryz.ntmps11 rfl ?_
    by_cases h0 : core < 0
    · repeat (first | rintro _ _ ⟨rfl, rfl⟩ | refine exq fun _ => ?_ | intro _ | refine go ?_ | refine drq ?_ | refine cal @hA ?_)
      exact fin0
    · have h1 : core ≥ c.cores := Int.not_lt.1 fun h2 => h ⟨hc, by omega, h2⟩
      repeat (first | rintro _ _ ⟨rfl, rfl⟩ | refine exq fun _ => ?_ | intro _ | refine go ?_ | refine drq ?_ | refine cal @hA ?_)
      exact fin0
theorem ca_LookO {F : List HP} {b a f e : Nat} {c : Cfg} {core line : Int} {k : CaS} (hc : checkB c = true) (hli : I64 line) :
    FnF Tryz.prog 17 [.pointer (some ⟨b, 0, none⟩), .int .i64 line] (CaO b a f e c core k) F (fun r L' => r = .tuple [wyv (findW c k.ways line), .bool (findB c k.ways line)].toArray ∧ L' = CaO b a f e c core k) := by
  refine FnF.mk' Tryz.func17 rfl rfl Tryz.ntmps17 rfl ?_
  have hA := fun F => arr_Find (F := F) (b := a) (c := c) (l := k.ways) (line := line) (cfg_wf hc) hli
  repeat (first | rintro _ _ ⟨rfl, rfl⟩ | refine exq fun _ => ?_ | intro _ | refine go ?_ | refine drq ?_ | refine cal @hA ?_)
  (apply WE_ret rfl rfl (by (repeat (first | exact ResOk.nil | (apply ResOk.tmp; rfl) | (apply resOk_cell; rfl; exact inferInstance; rfl; rfl)))))
  · exact ⟨rfl, rfl⟩
  · exact entu0
theorem ca_Look {F : List HP} {b : Nat} {c : Cfg} {core line : Int} {k : CaS} (hli : I64 line) :
    FnF Tryz.prog 17 [.pointer (some ⟨b, 0, none⟩), .int .i64 line] [CaP b c core k] F (fun r L' => r = .tuple [wyv (findW c k.ways line), .bool (findB c k.ways line)].toArray ∧ L' = [CaP b c core k]) :=
  ca_close (fun a f e hf => ca_LookO hf.1 hli) (enters_of Tryz.func17 rfl rfl)
theorem ca_Way {F : List HP} {b : Nat} {c : Cfg} {core s w : Int} {k : CaS} :
    FnF Tryz.prog 22 [.pointer (some ⟨b, 0, none⟩), .int .i64 s, .int .i64 w] [CaP b c core k] F (fun r L' => r = .tuple [wyv (atW c k.ways s w), .bool (inWay c s w)].toArray ∧ L' = [CaP b c core k]) := by
  refine FnF.mk' Tryz.func22 rfl rfl Tryz.ntmps22 rfl ?_
  refine ca_open fun a f e hf => ?_
  have hA := fun F => arr_At (F := F) (b := a) (c := c) (l := k.ways) (s := s) (k := w)
  repeat (first | rintro _ _ ⟨rfl, rfl⟩ | refine exq fun _ => ?_ | intro _ | refine go ?_ | refine drq ?_ | refine cal @hA ?_)
  (apply WE_ret rfl rfl (by (repeat (first | exact ResOk.nil | (apply ResOk.tmp; rfl) | (apply resOk_cell; rfl; exact inferInstance; rfl; rfl)))))
  · exact ⟨rfl, rfl⟩
  · (apply ca_in; (focus (exact entu0)); all_goals (first | rfl | (with_reducible assumption) | (simp; done) | (simp; omega) | omega | (constructor <;> (simp) <;> omega)))
theorem ca_Misses {F : List HP} {b : Nat} {c : Cfg} {core : Int} {k : CaS} :
    FnF Tryz.prog 46 [.pointer (some ⟨b, 0, none⟩)] [CaP b c core k] F (fun r L' => ∃ p q, r = .slice p k.mis.length q ∧ L' = [Own 162 15 (.slice p k.mis.length q) k.mis.length (flat msc' k.mis), CaP b c core k]) := by
  refine FnF.mk' Tryz.func46 rfl rfl Tryz.ntmps46 rfl ?_
  refine ca_open fun a f e hf => ?_
  repeat (first | rintro _ _ ⟨rfl, rfl⟩ | refine exq fun _ => ?_ | intro _ | refine go ?_ | refine drq ?_ | refine cal @msh_List ?_)
  (apply WE_ret rfl rfl (by (repeat (first | exact ResOk.nil | (apply ResOk.tmp; rfl) | (apply resOk_cell; rfl; exact inferInstance; rfl; rfl)))))
  · exact ⟨_, _, rfl, rfl⟩
  · refine Ent.cons ?_
    (apply ca_in; (focus (exact entu0)); all_goals (first | rfl | (with_reducible assumption) | (simp; done) | (simp; omega) | omega | (constructor <;> (simp) <;> omega)))
theorem ca_Written {F : List HP} {b : Nat} {c : Cfg} {core : Int} {k : CaS} :
    FnF Tryz.prog 45 [.pointer (some ⟨b, 0, none⟩)] [CaP b c core k] F (fun r L' => ∃ p q, r = .slice p k.buf.length q ∧ L' = [Own 142 10 (.slice p k.buf.length q) k.buf.length (flat bc k.buf), CaP b c core k]) := by
  refine FnF.mk' Tryz.func45 rfl rfl Tryz.ntmps45 rfl ?_
  refine ca_open fun a f e hf => ?_
  repeat (first | rintro _ _ ⟨rfl, rfl⟩ | refine exq fun _ => ?_ | intro _ | refine go ?_ | refine drq ?_ | refine cal @wb_List ?_)
  (apply WE_ret rfl rfl (by (repeat (first | exact ResOk.nil | (apply ResOk.tmp; rfl) | (apply resOk_cell; rfl; exact inferInstance; rfl; rfl)))))
  · exact ⟨_, _, rfl, rfl⟩
  · refine Ent.cons ?_
    (apply ca_in; (focus (exact entu0)); all_goals (first | rfl | (with_reducible assumption) | (simp; done) | (simp; omega) | omega | (constructor <;> (simp) <;> omega)))
theorem ca_owns {F : List HP} {st : Int} : FnF Tryz.prog 70 [.int .i64 st] [] F (fun r L' => r = .bool (decide (2 ≤ st)) ∧ L' = []) := by
  refine FnF.mk' Tryz.func70 rfl rfl Tryz.ntmps70 rfl ?_
  repeat (first | rintro _ _ ⟨rfl, rfl⟩ | refine exq fun _ => ?_ | intro _ | refine go ?_ | refine drq ?_)
  exact fin0
theorem ca_homeO {F : List HP} {b a f e : Nat} {c : Cfg} {core kind line : Int} {k : CaS} (hc : checkB c = true) (hli : I64 line) :
    FnF Tryz.prog 72 [.pointer (some ⟨b, 0, none⟩), .int .i64 kind, .int .i64 line] (CaO b a f e c core k) F (fun r L' => r = mv (homeMsg c core kind line .zero) ∧ L' = CaO b a f e c core k) := by
  refine FnF.mk' Tryz.func72 rfl rfl Tryz.ntmps72 rfl ?_
  have hL := fun F => split_Line (F := F) (c := c) (a := line) (cfg_wf hc) hli
  repeat (first | rintro _ _ ⟨rfl, rfl⟩ | refine exq fun _ => ?_ | intro _ | refine go ?_ | refine drq ?_ | refine cal @hL ?_)
  (apply WE_ret rfl rfl (by (repeat (first | exact ResOk.nil | (apply ResOk.tmp; rfl) | (apply resOk_cell; rfl; exact inferInstance; rfl; rfl)))))
  · exact ⟨rfl, rfl⟩
  · exact entu0
theorem ca_home {F : List HP} {b : Nat} {c : Cfg} {core kind line : Int} {k : CaS} (hli : I64 line) :
    FnF Tryz.prog 72 [.pointer (some ⟨b, 0, none⟩), .int .i64 kind, .int .i64 line] [CaP b c core k] F (fun r L' => r = mv (homeMsg c core kind line .zero) ∧ L' = [CaP b c core k]) :=
  ca_close (fun a f e hf => ca_homeO hf.1 hli) (enters_of Tryz.func72 rfl rfl)
theorem dr_Ca_158 {Q P : Prop} (k : Q) (h : Hid Q → P := by
  intro k
  first
  | (refine is_draw ?_; apply WC_mix (id := 1) .true _ (pl := .p 0 <| .p 1 <| .p 3 <| .p 4 <| .p 5 <| .p 7 <| .r 2 <| .r 6 <| .r 8 <| .p 9 <| .e true [(10, .done)]); exact mixed; kernel_rfl; kernel_rfl; exact Ent.refl; exact k.out)) : P := h ⟨k⟩
theorem ca_toO {F : List HP} {b a f e : Nat} {c : Cfg} {core kind : Int} {m : Msg} {k : CaS} :
    FnF Tryz.prog 158 [.pointer (some ⟨b, 0, none⟩), mv m, .int .i64 kind] (CaO b a f e c core k) F (fun r L' => r = mv ⟨kind, m.line, core, m.who, 0, 0, 0, .zero⟩ ∧ L' = CaO b a f e c core k) := by
  refine FnF.mk' Tryz.func158 rfl rfl Tryz.ntmps158 rfl ?_
  repeat (first | rintro _ _ ⟨rfl, rfl⟩ | refine exq fun _ => ?_ | intro _ | refine go ?_ | refine dr_Ca_158 ?_ | refine drq ?_)
  (apply WE_ret rfl rfl (by (repeat (first | exact ResOk.nil | (apply ResOk.tmp; rfl) | (apply resOk_cell; rfl; exact inferInstance; rfl; rfl)))))
  · exact ⟨rfl, rfl⟩
  · exact entu0
theorem ca_to {F : List HP} {b : Nat} {c : Cfg} {core kind : Int} {m : Msg} {k : CaS} :
    FnF Tryz.prog 158 [.pointer (some ⟨b, 0, none⟩), mv m, .int .i64 kind] [CaP b c core k] F (fun r L' => r = mv ⟨kind, m.line, core, m.who, 0, 0, 0, .zero⟩ ∧ L' = [CaP b c core k]) :=
  ca_close (fun a f e hf => ca_toO ) (enters_of Tryz.func158 rfl rfl)
theorem ca_canO {F : List HP} {b a f e : Nat} {c : Cfg} {core line kind : Int} {k : CaS} (hc : checkB c = true) (hli : I64 line) :
    FnF Tryz.prog 67 [.pointer (some ⟨b, 0, none⟩), .int .i64 line, .int .i64 kind] (CaO b a f e c core k) F (fun r L' => r = .bool (caCan c k line kind) ∧ L' = CaO b a f e c core k) := by
  have hL := fun F => ca_LookO (F := F) (b := b) (a := a) (f := f) (e := e) (c := c) (core := core) (k := k) hc hli
  refine FnF.mk' Tryz.func67 rfl rfl Tryz.ntmps67 rfl ?_
  unfold caCan
  by_cases h1 : kind = 1
  · rw [if_pos h1]
    repeat (first | rintro _ _ ⟨rfl, rfl⟩ | refine exq fun _ => ?_ | intro _ | refine go ?_ | refine drq ?_ | refine cal @hL ?_)
    (apply WE_ret rfl rfl (by (repeat (first | exact ResOk.nil | (apply ResOk.tmp; rfl) | (apply resOk_cell; rfl; exact inferInstance; rfl; rfl)))))
    · exact ⟨rfl, rfl⟩
    · exact entu0
  · rw [if_neg h1]
    by_cases h2 : (findW c k.ways line).st = 2
    · repeat (first | rintro _ _ ⟨rfl, rfl⟩ | refine exq fun _ => ?_ | intro _ | refine go ?_ | refine drq ?_ | refine cal @hL ?_)
      (apply WE_ret rfl rfl (by (repeat (first | exact ResOk.nil | (apply ResOk.tmp; rfl) | (apply resOk_cell; rfl; exact inferInstance; rfl; rfl)))))
      · exact ⟨by simp [h2], rfl⟩
      · exact entu0
    · repeat (first | rintro _ _ ⟨rfl, rfl⟩ | refine exq fun _ => ?_ | intro _ | refine go ?_ | refine drq ?_ | refine cal @hL ?_)
      (apply WE_ret rfl rfl (by (repeat (first | exact ResOk.nil | (apply ResOk.tmp; rfl) | (apply resOk_cell; rfl; exact inferInstance; rfl; rfl)))))
      · exact ⟨by simp [h2], rfl⟩
      · exact entu0
theorem ca_can {F : List HP} {b : Nat} {c : Cfg} {core line kind : Int} {k : CaS} (hli : I64 line) :
    FnF Tryz.prog 67 [.pointer (some ⟨b, 0, none⟩), .int .i64 line, .int .i64 kind] [CaP b c core k] F (fun r L' => r = .bool (caCan c k line kind) ∧ L' = [CaP b c core k]) :=
  ca_close (fun a f e hf => ca_canO hf.1 hli) (enters_of Tryz.func67 rfl rfl)
end Go.Sx

/- The document's files of misses, fifth part. My own work. -/
namespace Go.Sx
open Go Go.Proofs
set_option linter.unusedVariables false
set_option linter.unusedSectionVars false
set_option linter.unusedSimpArgs false
/-- What holds of each miss. -/
def MisOk (m : Miss) : Prop := (m.kind = 1 ∨ m.kind = 2) ∧ -1 ≤ m.needs ∧ 0 ≤ m.got ∧ (0 ≤ m.needs → m.got ≤ m.needs)
set_option maxRecDepth 100000
set_option maxHeartbeats 4000000
attribute [local irreducible] Go.Exit.then Go.Exit.inBlock Go.Code.wp WC WO WE WQ V LoopQ FnQ Sat Star band bor IntKind.wrap WR Code.rounds WT KO
theorem dr_MshR5_136 {Q P : Prop} (k : Q) (h : Hid Q → P := by
  intro k
  first
  | (refine is_draw ?_; apply WC_mix (id := 7) .true _ (pl := .p 0 <| .p 1 <| .p 2 <| .p 4 <| .p 5 <| .r 3 <| .r 6 <| .p 7 <| .p 8 <| .p 9 <| .e true [(10, .done)]); exact mixed; kernel_rfl; kernel_rfl; exact Ent.refl; exact k.out)) : P := h ⟨k⟩
theorem ref10_Ack {F : List HP} {b : Nat} {room : Int} {l : List Miss} {line : Int} (hg : ∀ m ∈ l, MisOk m ∧ m.got ≤ 9223372036854775806) :
    FnF Tryz.prog 136 [.pointer (some ⟨b, 0, none⟩), .int .i64 line] [MshR b room l] F (fun r L' => r = .int .i64 (ackE l line) ∧ L' = [MshR b room (ackL l line)]) := by
  refine FnF.mk' Tryz.func136 rfl rfl Tryz.ntmps136 rfl ?_
  refine RL_open fun p c hl => ?_
  have hP := fun F => ref10_placeO (F := F) (b := b) (room := room) (l := l) (line := line) (p := p) (c := c) (by omega)
  cases h : misIn l line with
  | false =>
    have e1 : ackE l line = 5 := by unfold ackE; rw [h]; rfl
    have e2 : ackL l line = l := by unfold ackL; rw [e1]; rfl
    rw [e1, e2]
    rw [misIn_f h] at hP
    repeat' (first | rintro _ _ ⟨rfl, rfl⟩ | refine exq fun _ => ?_ | intro _ | refine go ?_ | refine dr_MshR5_136 ?_ | refine drq ?_ | refine cal @hP ?_ | refine spl ?_ ?_ | fail)
    all_goals (apply WE_ret rfl rfl (by (repeat (first | exact ResOk.nil | (apply ResOk.tmp; rfl) | (apply resOk_cell; rfl; exact inferInstance; rfl; rfl)))))
    all_goals first | exact ⟨rfl, rfl⟩ | (apply RL_in; (focus (exact entu0)); all_goals (first | rfl | (with_reducible assumption) | (simp; done) | (simp; omega) | omega | (constructor <;> (simp) <;> omega)))
  | true =>
    obtain ⟨i, hi, e0, ea, _⟩ := misIn_t h
    rw [e0] at hP
    obtain ⟨⟨hk, hn1, hg0, hgn⟩, hgx⟩ := hg _ (List.getElem_mem hi)
    (first | (refine WO_some (Value.slice p l.length c) inferInstance (by omega) ?_; intro _) | (refine WC_some (Value.slice p l.length c) inferInstance (by omega) ?_; intro _))
    by_cases h1 : l[i].kind = 1
    · have e1 : ackE l line = 7 := by unfold ackE; rw [if_pos h, ea, if_pos (.inl h1)]
      have e2 : ackL l line = l := by unfold ackL; rw [e1]; rfl
      rw [e1, e2]
      repeat' (first | rintro _ _ ⟨rfl, rfl⟩ | refine exq fun _ => ?_ | intro _ | refine go ?_ | refine dr_MshR5_136 ?_ | refine drq ?_ | refine cal @hP ?_ | refine spl ?_ ?_ | fail)
      all_goals (apply WE_ret rfl rfl (by (repeat (first | exact ResOk.nil | (apply ResOk.tmp; rfl) | (apply resOk_cell; rfl; exact inferInstance; rfl; rfl)))))
      all_goals first | exact ⟨rfl, rfl⟩ | (apply RL_in; (focus (exact entu0)); all_goals (first | rfl | (with_reducible assumption) | (simp; done) | (simp; omega) | omega | (constructor <;> (simp) <;> omega)))
    · by_cases h2 : l[i].needs = l[i].got
      · have e1 : ackE l line = 7 := by unfold ackE; rw [if_pos h, ea, if_pos (.inr h2)]
        have e2 : ackL l line = l := by unfold ackL; rw [e1]; rfl
        rw [e1, e2]
        repeat' (first | rintro _ _ ⟨rfl, rfl⟩ | refine exq fun _ => ?_ | intro _ | refine go ?_ | refine dr_MshR5_136 ?_ | refine drq ?_ | refine cal @hP ?_ | refine spl ?_ ?_ | fail)
        all_goals (apply WE_ret rfl rfl (by (repeat (first | exact ResOk.nil | (apply ResOk.tmp; rfl) | (apply resOk_cell; rfl; exact inferInstance; rfl; rfl)))))
        all_goals first | exact ⟨rfl, rfl⟩ | (apply RL_in; (focus (exact entu0)); all_goals (first | rfl | (with_reducible assumption) | (simp; done) | (simp; omega) | omega | (constructor <;> (simp) <;> omega)))
      · have e1 : ackE l line = 0 := by unfold ackE; rw [if_pos h, ea, if_neg (by omega)]
        have e2 : ackL l line = l.set i { l[i] with got := l[i].got + 1 } := by unfold ackL; rw [if_pos e1, e0, Int.toNat_natCast, ea]
        rw [e1, e2]
        by_cases h3 : 0 ≤ l[i].needs
        · repeat' (first | rintro _ _ ⟨rfl, rfl⟩ | refine exq fun _ => ?_ | intro _ | refine go ?_ | refine dr_MshR5_136 ?_ | refine drq ?_ | refine cal @hP ?_ | refine spl ?_ ?_ | fail)
          all_goals rw [mis_g hi]
          all_goals (apply WE_ret rfl rfl (by (repeat (first | exact ResOk.nil | (apply ResOk.tmp; rfl) | (apply resOk_cell; rfl; exact inferInstance; rfl; rfl)))))
          all_goals first | exact ⟨rfl, rfl⟩ | (rw [show l.length = (l.set i { l[i] with got := l[i].got + 1 }).length by simp]; (apply RL_in; (focus (exact entu0)); all_goals (first | rfl | (with_reducible assumption) | (simp; done) | (simp; omega) | omega | (constructor <;> (simp) <;> omega))))
        · repeat' (first | rintro _ _ ⟨rfl, rfl⟩ | refine exq fun _ => ?_ | intro _ | refine go ?_ | refine dr_MshR5_136 ?_ | refine drq ?_ | refine cal @hP ?_ | refine spl ?_ ?_ | fail)
          all_goals rw [mis_g hi]
          all_goals (apply WE_ret rfl rfl (by (repeat (first | exact ResOk.nil | (apply ResOk.tmp; rfl) | (apply resOk_cell; rfl; exact inferInstance; rfl; rfl)))))
          all_goals first | exact ⟨rfl, rfl⟩ | (rw [show l.length = (l.set i { l[i] with got := l[i].got + 1 }).length by simp]; (apply RL_in; (focus (exact entu0)); all_goals (first | rfl | (with_reducible assumption) | (simp; done) | (simp; omega) | omega | (constructor <;> (simp) <;> omega))))
end Go.Sx

/- The document's files of misses, sixth part. My own work. -/
namespace Go.Sx
open Go Go.Proofs
set_option linter.unusedVariables false
set_option linter.unusedSectionVars false
set_option linter.unusedSimpArgs false
theorem mis_all {l : List Miss} {i : Nat} (hi : i < l.length) (x : Miss) : splice (flat msc' l) (i * 15) (msc' x) = flat msc' (l.set i x) :=
  splice_flatJ0 (enc := msc') (n := 15) (fun _ => rfl) l i hi (cs := msc' x) (x := x) (by simp) rfl
/-- As the document tells it. -/
theorem fits_iff {m : Miss} {acks own : Int} (h : MisOk m) : fitsM m acks own = true ↔ ¬ (0 ≤ m.needs ∨ acks < 0 ∨ acks < m.got ∨ own ≠ 4 ∧ 0 < acks) ∧ ¬ (m.kind = 2 ∧ own ≠ 4 ∨ m.kind = 1 ∧ own ≠ 1 ∧ own ≠ 2) := by
  obtain ⟨hk, hn, hg, _⟩ := h
  unfold fitsM
  rw [Bool.and_eq_true, decide_eq_true_eq]
  by_cases h2 : m.kind = 2
  · rw [if_pos h2, decide_eq_true_eq]
    constructor
    · rintro ⟨⟨a, b⟩, c⟩
      exact ⟨by omega, by omega⟩
    · rintro ⟨a, b⟩
      exact ⟨⟨by omega, by omega⟩, by omega⟩
  · rw [if_neg h2, decide_eq_true_eq]
    constructor
    · rintro ⟨⟨a, b⟩, c, d⟩
      exact ⟨by omega, by omega⟩
    · rintro ⟨a, b⟩
      exact ⟨⟨by omega, by omega⟩, by omega, by omega⟩
end Go.Sx

/- The document's files of misses, seventh part. My own work. -/
namespace Go.Sx
open Go Go.Proofs
set_option linter.unusedVariables false
set_option linter.unusedSectionVars false
set_option linter.unusedSimpArgs false
set_option maxRecDepth 100000
set_option maxHeartbeats 4000000
attribute [local irreducible] Go.Exit.then Go.Exit.inBlock Go.Code.wp WC WO WE WQ V LoopQ FnQ Sat Star band bor IntKind.wrap WR Code.rounds WT KO
theorem dr_MshR7_134 {Q P : Prop} (k : Q) (h : Hid Q → P := by
  intro k
  first
  | (refine is_draw ?_; apply WC_mix (id := 12) .true _ (pl := .p 0 <| .p 1 <| .p 2 <| .p 4 <| .r 3 <| .r 5 <| .p 6 <| .e true [(7, .done)]); exact mixed; kernel_rfl; kernel_rfl; exact Ent.refl; exact k.out)) : P := h ⟨k⟩
theorem ref10_Data {F : List HP} {b : Nat} {room : Int} {l : List Miss} {line acks own : Int} {w : Words} (hg : ∀ m ∈ l, MisOk m) :
    FnF Tryz.prog 134 [.pointer (some ⟨b, 0, none⟩), .int .i64 line, .int .i64 acks, .int .i64 own, wv w] [MshR b room l] F (fun r L' => r = .int .i64 (dataE l line acks own) ∧ L' = [MshR b room (dataL l line acks own w)]) := by
  refine FnF.mk' Tryz.func134 rfl rfl Tryz.ntmps134 rfl ?_
  refine RL_open fun p c hl => ?_
  have hP := fun F => ref10_placeO (F := F) (b := b) (room := room) (l := l) (line := line) (p := p) (c := c) (by omega)
  cases h : misIn l line with
  | false =>
    have e1 : dataE l line acks own = 5 := by unfold dataE; rw [h]; rfl
    have e2 : dataL l line acks own w = l := by unfold dataL; rw [e1]; rfl
    rw [e1, e2]
    rw [misIn_f h] at hP
    repeat' (first | rintro _ _ ⟨rfl, rfl⟩ | refine exq fun _ => ?_ | intro _ | refine go ?_ | refine dr_MshR7_134 ?_ | refine drq ?_ | refine cal @hP ?_ | refine spl ?_ ?_ | fail)
    all_goals (apply WE_ret rfl rfl (by (repeat (first | exact ResOk.nil | (apply ResOk.tmp; rfl) | (apply resOk_cell; rfl; exact inferInstance; rfl; rfl)))))
    all_goals first | exact ⟨rfl, rfl⟩ | (apply RL_in; (focus (exact entu0)); all_goals (first | rfl | (with_reducible assumption) | (simp; done) | (simp; omega) | omega | (constructor <;> (simp) <;> omega)))
  | true =>
    obtain ⟨i, hi, e0, ea, _⟩ := misIn_t h
    rw [e0] at hP
    have hok := hg _ (List.getElem_mem hi)
    have hff := fits_iff (acks := acks) (own := own) hok
    obtain ⟨hk, hn1, hg0, hgn⟩ := hok
    (first | (refine WO_some (Value.slice p l.length c) inferInstance (by omega) ?_; intro _) | (refine WC_some (Value.slice p l.length c) inferInstance (by omega) ?_; intro _))
    cases hf : fitsM l[i] acks own with
    | false =>
      rw [hf] at hff
      have hno : (0 ≤ l[i].needs ∨ acks < 0 ∨ acks < l[i].got ∨ own ≠ 4 ∧ 0 < acks) ∨ (l[i].kind = 2 ∧ own ≠ 4 ∨ l[i].kind = 1 ∧ own ≠ 1 ∧ own ≠ 2) := by
        apply Classical.byContradiction
        intro hc
        have := hff.2 ⟨fun h => hc (.inl h), fun h => hc (.inr h)⟩
        cases this
      clear hff
      have e1 : dataE l line acks own = 7 := by unfold dataE; rw [if_pos h, ea, hf]; rfl
      have e2 : dataL l line acks own w = l := by unfold dataL; rw [e1]; rfl
      rw [e1, e2]
      repeat' (first | rintro _ _ ⟨rfl, rfl⟩ | refine exq fun _ => ?_ | intro _ | refine go ?_ | refine dr_MshR7_134 ?_ | refine drq ?_ | refine cal @hP ?_ | refine spl ?_ ?_ | fail)
      all_goals first | (exfalso; omega) | skip
      all_goals (apply WE_ret rfl rfl (by (repeat (first | exact ResOk.nil | (apply ResOk.tmp; rfl) | (apply resOk_cell; rfl; exact inferInstance; rfl; rfl)))))
      all_goals first | exact ⟨rfl, rfl⟩ | (apply RL_in; (focus (exact entu0)); all_goals (first | rfl | (with_reducible assumption) | (simp; done) | (simp; omega) | omega | (constructor <;> (simp) <;> omega)))
    | true =>
      obtain ⟨hn1', hn2'⟩ := hff.1 hf
      have e1 : dataE l line acks own = 0 := by unfold dataE; rw [if_pos h, ea, hf]; rfl
      have e2 : dataL l line acks own w = l.set i { l[i] with needs := acks, own := own, words := w } := by unfold dataL; rw [if_pos e1, e0, Int.toNat_natCast, ea]
      rw [e1, e2]
      have hall := mis_all hi { l[i] with needs := acks, own := own, words := w }
      repeat' (first | rintro _ _ ⟨rfl, rfl⟩ | refine exq fun _ => ?_ | intro _ | refine go ?_ | refine dr_MshR7_134 ?_ | refine drq ?_ | refine cal @hP ?_ | refine spl ?_ ?_ | fail)
      all_goals first | (exfalso; omega) | skip
      all_goals first | rw [hall] | skip
      all_goals (apply WE_ret rfl rfl (by (repeat (first | exact ResOk.nil | (apply ResOk.tmp; rfl) | (apply resOk_cell; rfl; exact inferInstance; rfl; rfl)))))
      all_goals first | exact ⟨rfl, rfl⟩ | (rw [show l.length = (l.set i { l[i] with needs := acks, own := own, words := w }).length by simp]; (apply RL_in; (focus (exact entu0)); all_goals (first | rfl | (with_reducible assumption) | (simp; done) | (simp; omega) | omega | (constructor <;> (simp) <;> omega))))
end Go.Sx

/- The document's files of misses, eighth part. My own work. -/
namespace Go.Sx
open Go Go.Proofs
set_option linter.unusedVariables false
set_option linter.unusedSectionVars false
set_option linter.unusedSimpArgs false
set_option maxRecDepth 100000
set_option maxHeartbeats 4000000
attribute [local irreducible] Go.Exit.then Go.Exit.inBlock Go.Code.wp WC WO WE WQ V LoopQ FnQ Sat Star band bor IntKind.wrap WR Code.rounds WT KO
theorem dr_MshR8_135 {Q P : Prop} (k : Q) (h : Hid Q → P := by
  intro k
  first
  | (refine is_draw ?_; apply WC_mix (id := 4) .false _ (pl := .p 0 <| .p 1 <| .p 2 <| .p 4 <| .p 5 <| .r 3 <| .e true [(6, .p 7 <| .p 8 <| .e true [(9, .done)])]); exact mixed; kernel_rfl; kernel_rfl; exact Ent.refl; exact k.out)) : P := h ⟨k⟩
theorem ref10_Grant {F : List HP} {b : Nat} {room : Int} {l : List Miss} {line acks : Int} (hg : ∀ m ∈ l, MisOk m) :
    FnF Tryz.prog 135 [.pointer (some ⟨b, 0, none⟩), .int .i64 line, .int .i64 acks] [MshR b room l] F (fun r L' => r = .int .i64 (dataE l line acks 4) ∧ L' = [MshR b room (grantL l line acks)]) := by
  have hD := fun F => ref10_Data (F := F) (b := b) (room := room) (l := l) (line := line) (acks := acks) (own := 4) (w := .zero) hg
  refine FnF.mk' Tryz.func135 rfl rfl Tryz.ntmps135 rfl ?_
  by_cases h : dataE l line acks 4 = 0
  · have hin : misIn l line = true := by
      cases e : misIn l line with
      | true => rfl
      | false => unfold dataE at h; rw [e] at h; cases h
    obtain ⟨i, hi, e0, ea, el⟩ := misIn_t hin
    have e1 : dataL l line acks 4 .zero = l.set i { l[i] with needs := acks, own := 4, words := .zero } := by unfold dataL; rw [if_pos h, e0, Int.toNat_natCast, ea]
    have e2 : grantL l line acks = l.set i { l[i] with needs := acks, own := 4, words := .zero, granted := true } := by unfold grantL; rw [if_pos h, e0, Int.toNat_natCast, ea]
    have e3 : misP (l.set i { l[i] with needs := acks, own := 4, words := .zero }) line = i := by
      have h9 := indexBy_same (q := fun m : Miss => decide (m.line = line)) (l := l) (i := i) (x := { l[i] with needs := acks, own := 4, words := .zero }) hi rfl
      exact h9.trans e0
    rw [h, e1] at hD
    rw [h, e2]
    have hi2 : i < (l.set i { l[i] with needs := acks, own := 4, words := .zero }).length := by rw [List.length_set]; exact hi
    repeat (first | rintro _ _ ⟨rfl, rfl⟩ | refine exq fun _ => ?_ | intro _ | refine go ?_ | refine cal @hD ?_)
    (first | refine WO_front (MshR b room (l.set i { l[i] with needs := acks, own := 4, words := .zero })) ?_ | refine WC_front (MshR b room (l.set i { l[i] with needs := acks, own := 4, words := .zero })) ?_ | refine WE_front (MshR b room (l.set i { l[i] with needs := acks, own := 4, words := .zero })) ?_)
    first | refine RL_openO fun p c hl => ?_ | refine RL_open fun p c hl => ?_
    have hP := fun F => ref10_placeO (F := F) (b := b) (room := room) (l := l.set i { l[i] with needs := acks, own := 4, words := .zero }) (line := line) (p := p) (c := c) (by omega)
    rw [e3] at hP
    (first | (refine WO_some (Value.slice p (l.set i { l[i] with needs := acks, own := 4, words := .zero }).length c) inferInstance (by omega) ?_; intro _) | (refine WC_some (Value.slice p (l.set i { l[i] with needs := acks, own := 4, words := .zero }).length c) inferInstance (by omega) ?_; intro _))
    repeat' (first | rintro _ _ ⟨rfl, rfl⟩ | refine exq fun _ => ?_ | intro _ | refine go ?_ | refine dr_MshR8_135 ?_ | refine drq ?_ | refine cal @hP ?_ | refine spl ?_ ?_ | fail)
    all_goals rw [mis_gr hi2]
    all_goals simp only [List.set_set, List.getElem_set_self]
    all_goals (apply WE_ret rfl rfl (by (repeat (first | exact ResOk.nil | (apply ResOk.tmp; rfl) | (apply resOk_cell; rfl; exact inferInstance; rfl; rfl)))))
    all_goals first | exact ⟨rfl, rfl⟩ | (rw [show (l.set i { l[i] with needs := acks, own := 4, words := .zero }).length = (l.set i { l[i] with needs := acks, own := 4, words := .zero, granted := true }).length by simp] at hl ⊢; (apply RL_in; (focus (exact entu0)); all_goals (first | rfl | (with_reducible assumption) | (simp; done) | (simp; omega) | omega | (constructor <;> (simp) <;> omega))))
  · have e2 : grantL l line acks = l := if_neg h
    have e1 : dataL l line acks 4 .zero = l := if_neg h
    rw [e1] at hD
    rw [e2]
    repeat (first | rintro _ _ ⟨rfl, rfl⟩ | refine exq fun _ => ?_ | intro _ | refine go ?_ | refine dr_MshR8_135 ?_ | refine drq ?_ | refine cal @hD ?_)
    exact fin0
end Go.Sx

/- The document's files of misses, ninth part. My own work. -/
namespace Go.Sx
open Go Go.Proofs
set_option linter.unusedVariables false
set_option linter.unusedSectionVars false
set_option linter.unusedSimpArgs false
set_option maxRecDepth 100000
set_option maxHeartbeats 4000000
attribute [local irreducible] Go.Exit.then Go.Exit.inBlock Go.Code.wp WC WO WE WQ V LoopQ FnQ Sat Star band bor IntKind.wrap WR Code.rounds WT KO
theorem ref10_Close {F : List HP} {b : Nat} {room : Int} {l : List Miss} {line : Int} :
    FnF Tryz.prog 140 [.pointer (some ⟨b, 0, none⟩), .int .i64 line] [MshR b room l] F (fun r L' => r = .int .i64 (closeE l line) ∧ L' = [MshR b room (closeL l line)]) := by
  refine FnF.mk' Tryz.func140 rfl rfl Tryz.ntmps140 rfl ?_
  refine RL_open fun p c hl => ?_
  have hP := fun F => ref10_placeO (F := F) (b := b) (room := room) (l := l) (line := line) (p := p) (c := c) (by omega)
  cases h : misIn l line with
  | false =>
    have e1 : closeE l line = 5 := by unfold closeE; rw [h]; rfl
    have e2 : closeL l line = l := by unfold closeL; rw [e1]; rfl
    rw [e1, e2]
    rw [misIn_f h] at hP
    repeat' (first | rintro _ _ ⟨rfl, rfl⟩ | refine exq fun _ => ?_ | intro _ | refine go ?_ | refine drq ?_ | refine cal @hP ?_ | refine spl ?_ ?_ | fail)
    all_goals (apply WE_ret rfl rfl (by (repeat (first | exact ResOk.nil | (apply ResOk.tmp; rfl) | (apply resOk_cell; rfl; exact inferInstance; rfl; rfl)))))
    all_goals first | exact ⟨rfl, rfl⟩ | (apply RL_in; (focus (exact entu0)); all_goals (first | rfl | (with_reducible assumption) | (simp; done) | (simp; omega) | omega | (constructor <;> (simp) <;> omega)))
  | true =>
    obtain ⟨n, hn, e0, ea, _⟩ := misIn_t h
    rw [e0] at hP
    cases ho : l[n].owes with
    | false =>
      have e1 : closeE l line = 7 := by unfold closeE; rw [if_pos h, ea, ho]; rfl
      have e2 : closeL l line = l := by unfold closeL; rw [e1]; rfl
      rw [e1, e2]
      repeat' (first | rintro _ _ ⟨rfl, rfl⟩ | refine exq fun _ => ?_ | intro _ | refine go ?_ | refine drq ?_ | refine cal @hP ?_ | refine spl ?_ ?_ | fail)
      all_goals (apply WE_ret rfl rfl (by (repeat (first | exact ResOk.nil | (apply ResOk.tmp; rfl) | (apply resOk_cell; rfl; exact inferInstance; rfl; rfl)))))
      all_goals first | exact ⟨rfl, rfl⟩ | (apply RL_in; (focus (exact entu0)); all_goals (first | rfl | (with_reducible assumption) | (simp; done) | (simp; omega) | omega | (constructor <;> (simp) <;> omega)))
    | true =>
      have e1 : closeE l line = 0 := by unfold closeE; rw [if_pos h, ea, ho]; rfl
      have e2 : closeL l line = l.eraseIdx n := by unfold closeL; rw [if_pos e1, e0, Int.toNat_natCast]
      rw [e1, e2]
      repeat (first | rintro _ _ ⟨rfl, rfl⟩ | refine exq fun _ => ?_ | intro _ | refine go ?_ | refine drq ?_ | refine cal @hP ?_)
      rename_i b0
      apply WC_loopE (E0 := [(0, _), (5, _)]) (fun E0 (q : Nat × Option Addr × Nat) => (7, .int .i64 q.1) :: (6, .slice q.2.1 ((l.take q.1).eraseIdx n).length q.2.2) :: E0)
        (fun q => Own 75 15 (.slice q.2.1 ((l.take q.1).eraseIdx n).length q.2.2) ((l.take q.1).eraseIdx n).length (flat msc' ((l.take q.1).eraseIdx n)) :: Cells b 62 [.int .i64 room, .slice p l.length c] :: Own 75 15 (.slice p l.length c) l.length (flat msc' l) :: F) (fun q => q.1 ≤ l.length) (fun q => l.length - q.1) (0, some ⟨b0, 0, none⟩, 0)
      · (repeat (first | exact Sub.nil | (refine Sub.cons (by first | rfl | (simp only [Nat.zero_add]; rfl)) ?_)))
      · exact Nat.zero_le _
      · dsimp only; simp only [List.take_zero, List.eraseIdx_nil, List.length_nil, flat_nil]; exact entu0
      · rintro ⟨i, p', c'⟩ hi
        dsimp only at hi ⊢
        have hlen := erase_len (l.take i) n
        rw [List.length_take] at hlen
        by_cases hlt : i < l.length
        · by_cases he : i = n
          · repeat (first | rintro _ _ ⟨rfl, rfl⟩ | refine exq fun _ => ?_ | intro _ | refine go ?_ | refine drq ?_)
            refine WE_loop (i + 1, p', c') (by dsimp only; omega) (by dsimp only; omega) ?_ ?_
            · dsimp only; rw [take_erase l n i hlt, if_pos he]; (repeat (first | exact Sub.nil | (refine Sub.cons (by first | rfl | (simp only [Nat.zero_add]; rfl)) ?_)))
            · dsimp only; rw [take_erase l n i hlt, if_pos he]; exact Ent.refl
          · repeat (first | rintro _ _ ⟨rfl, rfl⟩ | refine exq fun _ => ?_ | intro _ | refine go ?_ | refine drq ?_)
            rename_i p2 c2
            refine WE_loop (i + 1, p2, c2) (by dsimp only; omega) (by dsimp only; omega) ?_ ?_
            · dsimp only; rw [take_erase l n i hlt, if_neg he]
              rw [List.length_append, List.length_singleton]
              (repeat (first | exact Sub.nil | (refine Sub.cons (by first | rfl | (simp only [Nat.zero_add]; rfl)) ?_)))
            · dsimp only; rw [take_erase l n i hlt, if_neg he]
              rw [List.length_append, List.length_singleton, flat_append, flat_one]
              exact entu0
        · repeat (first | rintro _ _ ⟨rfl, rfl⟩ | refine exq fun _ => ?_ | intro _ | refine go ?_ | refine drq ?_)
          have hil : i = l.length := by omega
          subst hil
          rw [List.take_length]
          (apply WE_ret rfl rfl (by (repeat (first | exact ResOk.nil | (apply ResOk.tmp; rfl) | (apply resOk_cell; rfl; exact inferInstance; rfl; rfl)))))
          · exact ⟨rfl, rfl⟩
          · have hlen := erase_len l n
            ((repeat (first | (with_reducible exact Ent.refl) | exact Ent.nil | (apply ent_pickE; (focus ((repeat (first | (with_reducible exact pk_here) | (apply pk_there))); done))) | (apply RL_in) | apply Ent.drop)); all_goals (first | rfl | (with_reducible assumption) | (simp; done) | (simp; omega) | omega | (constructor <;> (simp) <;> omega)))
end Go.Sx
