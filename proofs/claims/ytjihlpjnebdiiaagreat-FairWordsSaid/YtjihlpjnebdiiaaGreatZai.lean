/- Ca, Shr, ShrR, ShrLaw, ShrTells, CaPl: several of my texts as one. My own work. -/
import Derived.Test.YtjihlpjnebdiiaaGreatZah
set_option linter.unusedVariables false
set_option linter.unusedSectionVars false
set_option linter.unusedSimpArgs false
set_option maxRecDepth 100000
set_option maxHeartbeats 4000000
namespace Go.Sx
open Go Go.Proofs
section
structure CaS where
  ways:List Way
  mis:List Miss
  buf:List WbE
def mU (c:Cfg) (k:CaS) (line kind:Int):Bool:=if kind=1 then decide ((aP c k.ways line).st≠0) else decide ((aP c k.ways line).st=2∨(aP c k.ways line).st=4)
def cP (c:Cfg) (core kind line:Int) (w:Words):Msg:=⟨kind,line,core,cU c line,0,0,0,w⟩
def dV (c:Cfg) (k:CaS) (line kind:Int):Int:=
  if aL c line=false∨(kind≠1∧kind≠2) then 1
  else if dB k.mis line=true∨lJ k.buf line=true∨mU c k line kind=true then 6
  else if (k.mis.length:Int)=c.mshrs then 4
  else if jA c k.ways line=false∧cZ c k.ways line<0 then 5
  else 0
def bM (c:Cfg) (k:CaS) (line kind:Int):CaS:=
  if dV c k line kind=0 then ⟨if jA c k.ways line then fS c k.ways line true else kR c k.ways line (cZ c k.ways line),jS c.mshrs k.mis line kind,k.buf⟩ else k
def d9 (c:Cfg) (core:Int) (k:CaS) (line kind:Int):Msg:=if dV c k line kind=0 then cP c core kind line .zero else .zero
def lM (c:Cfg) (k:CaS) (s w:Int):Int:=
  if pF c s w=false∨(oH c k.ways s w).st=0 then 5
  else if (oH c k.ways s w).lk=true then 6
  else if 2≤(oH c k.ways s w).st∧pZ c.writebacks k.buf (oH c k.ways s w).line≠0 then 4
  else 0
def kZ (c:Cfg) (k:CaS) (s w:Int):Bool:=decide (lM c k s w=0∧2≤(oH c k.ways s w).st)
def mV (c:Cfg) (core:Int) (k:CaS) (s w:Int):Msg:=if kZ c k s w then cP c core 3 (oH c k.ways s w).line (oH c k.ways s w).words else .zero
def d5 (c:Cfg) (k:CaS) (s w:Int):CaS:=
  if lM c k s w=0 then ⟨fD c k.ways (oH c k.ways s w).line 0 .zero,k.mis,if 2≤(oH c k.ways s w).st then mD c.writebacks k.buf (oH c k.ways s w).line (oH c k.ways s w).words else k.buf⟩ else k
def iM (c:Cfg) (k:CaS) (line:Int):Int:=if 2≤(aP c k.ways line).st then 0 else if lK k.buf line=0 then 0 else 7
def mM (c:Cfg) (k:CaS) (line:Int):Words:=if 2≤(aP c k.ways line).st then (aP c k.ways line).words else mQ k.buf line
def cQ (c:Cfg) (k:CaS) (line st:Int) (give:Bool):CaS:=
  if 2≤(aP c k.ways line).st then ⟨fD c k.ways line st (aP c k.ways line).words,k.mis,k.buf⟩ else if give then ⟨k.ways,k.mis,kH k.buf line⟩ else k
def jJ (c:Cfg) (core:Int) (k:CaS) (m:Msg) (own:Int):Msg:=if iM c k m.line=0 then ⟨7,m.line,core,m.who,1,m.acks,own,mM c k m.line⟩ else .zero
def s9 (c:Cfg) (k:CaS) (line:Int):Int:=if 2≤(aP c k.ways line).st then 7 else 0
def i5 (c:Cfg) (k:CaS) (line:Int):CaS:=if (aP c k.ways line).st=1 then ⟨fD c k.ways line 0 .zero,k.mis,k.buf⟩ else k
def a1a (c:Cfg) (core:Int) (k:CaS) (m:Msg):Msg:=if s9 c k m.line=0 then ⟨9,m.line,core,m.who,0,0,0,.zero⟩ else .zero
def cC (c:Cfg) (k:CaS) (line:Int):CaS:=
  if yT k.mis line then ⟨fD c k.ways line (vU k.mis line).own (if (vU k.mis line).granted then (aP c k.ways line).words else (vU k.mis line).words),sO k.mis line,k.buf⟩ else k
def a6b (e:Int):Int:=if e=0 then 0 else 7
def lH (c:Cfg) (k:CaS) (m:Msg):CaS:=if iV k.mis m.line m.acks m.own=0 then cC c ⟨k.ways,iW k.mis m.line m.acks m.own m.words,k.buf⟩ m.line else k
def a5i (c:Cfg) (k:CaS) (m:Msg):Int:=if (aP c k.ways m.line).st=3 then a6b (iV k.mis m.line m.acks 4) else 7
def sC (c:Cfg) (k:CaS) (m:Msg):CaS:=if a5i c k m=0 then cC c ⟨k.ways,gL k.mis m.line m.acks,k.buf⟩ m.line else k
def pB (c:Cfg) (k:CaS) (m:Msg):CaS:=if xD k.mis m.line=0 then cC c ⟨k.ways,nS k.mis m.line,k.buf⟩ m.line else k
def b2g (k:CaS) (line:Int):CaS:=⟨k.ways,k.mis,mR k.buf line⟩
def nL (c:Cfg) (core:Int) (m:Msg):Bool:=decide (fG c m)&& !decide (cK m.kind)&& decide (m.dst=core)
def bO (c:Cfg) (core:Int) (k:CaS) (m:Msg):Int:=
  if nL c core m then (if m.kind=4∨m.kind=5 then iM c k m.line else if m.kind=6 then s9 c k m.line else if m.kind=7 then a6b (iV k.mis m.line m.acks m.own) else if m.kind=8 then a5i c k m
   else if m.kind=9 then a6b (xD k.mis m.line) else a6b (qQ k.buf m.line)) else 1
def dP (c:Cfg) (core:Int) (k:CaS) (m:Msg):Bool:=decide (bO c core k m=0∧4≤m.kind∧m.kind≤6)
def eF (c:Cfg) (core:Int) (k:CaS) (m:Msg):Msg:=
  if nL c core m then (if m.kind=4 then jJ c core k m 1 else if m.kind=5 then jJ c core k m 4 else if m.kind=6 then a1a c core k m else .zero) else .zero
def aS (c:Cfg) (core:Int) (k:CaS) (m:Msg):CaS:=
  if nL c core m then (if m.kind=4 then cQ c k m.line 3 false else if m.kind=5 then cQ c k m.line 0 true else if m.kind=6 then (if s9 c k m.line=0 then i5 c k m.line else k) else if m.kind=7 then lH c k m
   else if m.kind=8 then sC c k m else if m.kind=9 then pB c k m else b2g k m.line) else k
def gD (k:CaS):Bool:=decide (0≤jH k.mis)
def cG (k:CaS):Int:=if 0≤jH k.mis then (k.mis.getD (jH k.mis).toNat .zero).line else 0
def jG (c:Cfg) (core:Int) (k:CaS):Msg:=if gD k then cP c core 11 (cG k) .zero else .zero
def dY (c:Cfg) (k:CaS):CaS:=if gD k then ⟨fS c k.ways (cG k) false,i4 k.mis (cG k),k.buf⟩ else k
def bD (x:Op3):Int:=if x.kind=1 then 1 else 2
def mW (c:Cfg) (k:CaS) (x:Op3):Int:=if d7f c x=0 then (if mU c k (bS c x.addr) (bD x) then 0 else 5) else d7f c x
def lN (c:Cfg) (k:CaS) (x:Op3):Int:=if mW c k x=0 then f1v c (aP c k.ways (bS c x.addr)).words x else 0
def dR (c:Cfg) (k:CaS) (x:Op3):CaS:=if mW c k x=0∧x.kind≠1 then ⟨fD c k.ways (bS c x.addr) 4 (d2d c (aP c k.ways (bS c x.addr)).words x),k.mis,k.buf⟩ else k
def f4j (T:TypeId) (A M W:Nat→HP) (b:Nat) (c:Cfg) (core:Int):HP:=
  Ex fun q:Nat×Nat×Nat=>[Cells b T (c.cells++[.int .i64 core,.pointer (some ⟨q.1,0,none⟩),.pointer (some ⟨q.2.1,0,none⟩),.pointer (some ⟨q.2.2,0,none⟩)]),A q.1,M q.2.1,W q.2.2,Fact (aF c=true∧0≤core∧core<c.cores)]
theorem d1t {T:TypeId} {A M W:Nat→HP} {b a f e:Nat} {c:Cfg} {core:Int} {L R:List HP}
    (h:Ent L (Cells b T (c.cells++[.int .i64 core,.pointer (some ⟨a,0,none⟩),.pointer (some ⟨f,0,none⟩),.pointer (some ⟨e,0,none⟩)])::A a::M f::W e::R)) (hf:aF c=true∧0≤core∧core<c.cores):Ent L (f4j T A M W b c core::R):=by
  refine Ent.trans h (Ent.trans ?_ (kW (p:=fun q:Nat×Nat×Nat=>[Cells b T (c.cells++[.int .i64 core,.pointer (some ⟨q.1,0,none⟩),.pointer (some ⟨q.2.1,0,none⟩),.pointer (some ⟨q.2.2,0,none⟩)]),A q.1,M q.2.1,W q.2.2,Fact (aF c=true∧0≤core∧core<c.cores)]) (a,f,e)))
  exact Ent.cons (Ent.cons (Ent.cons (Ent.cons (dS hf))))
theorem d8p {T:TypeId} {A M W:Nat→HP} {b:Nat} {c:Cfg} {core:Int} {L:List HP} {w:World} (h:fP (f4j T A M W b c core::L) w):∃ a f e,(aF c=true∧0≤core∧core<c.cores)∧
    fP (Cells b T (c.cells++[.int .i64 core,.pointer (some ⟨a,0,none⟩),.pointer (some ⟨f,0,none⟩),.pointer (some ⟨e,0,none⟩)])::A a::M f::W e::L) w:=by
  obtain ⟨⟨a,f,e⟩,hx⟩:=kD h
  simp only [pO] at hx
  exact ⟨a,f,e,jK (aU (aU (aU (aU hx)))),(Ent.cons (Ent.cons (Ent.cons (Ent.cons (Ent.drop Ent.refl))))) _ hx⟩
section
variable {T:TypeId} {A M W:Nat→HP} {b:Nat} {c:Cfg} {core:Int} {P:Program} {N:Nat} {env:Env} {L:List HP} {Q:Exit→Act→World→Prop}
theorem c7b {co:Code} (h:∀ a f e,(aF c=true∧0≤core∧core<c.cores)→WC P N co env (Cells b T (c.cells++[.int .i64 core,.pointer (some ⟨a,0,none⟩),.pointer (some ⟨f,0,none⟩),.pointer (some ⟨e,0,none⟩)])::A a::M f::W e::L) Q):WC P N co env (f4j T A M W b c core::L) Q:=by
  intro x w ha hw
  obtain ⟨a,f,e,hf,hx⟩:=d8p hw
  exact h a f e hf x w ha hx
end
theorem tA {T:TypeId} {A A' M M' W W':Nat→HP} {b:Nat} {c:Cfg} {core:Int} {P:Program} {fn:FuncId} {vs:List Value} {F:List HP} {u:Value}
    (h:∀ a f e,(aF c=true∧0≤core∧core<c.cores)→FnF P fn vs [Cells b T (c.cells++[.int .i64 core,.pointer (some ⟨a,0,none⟩),.pointer (some ⟨f,0,none⟩),.pointer (some ⟨e,0,none⟩)]),A a,M f,W e] F
     (fun r L'=>r=u∧L'=[Cells b T (c.cells++[.int .i64 core,.pointer (some ⟨a,0,none⟩),.pointer (some ⟨f,0,none⟩),.pointer (some ⟨e,0,none⟩)]),A' a,M' f,W' e]))
    (en:a1d P fn):FnF P fn vs [f4j T A M W b c core] F (fun r L'=>r=u∧L'=[f4j T A' M' W' b c core]):=by
  refine ⟨en,fun w hw=>?_⟩
  obtain ⟨a,f,e,hf,hx⟩:=d8p hw
  refine ((h a f e hf).runs w hx).mono ?_
  rintro x w' ⟨v,L',he,⟨hv,hL⟩,hs⟩
  subst hL
  exact ⟨v,_,he,⟨hv,rfl⟩,(d1t Ent.refl hf).sat hs⟩
theorem l3 {c:Cfg} (h:aF c=true):c.wf:=by
  simp only [aF,gI,Bool.and_eq_true,decide_eq_true_eq] at h
  unfold Cfg.wf nA
  omega
theorem sK {c:Cfg} (h:aF c=true):(1≤c.mshrs∧c.mshrs≤8)∧(1≤c.buffer∧c.buffer≤16)∧(1≤c.writebacks∧c.writebacks≤8)∧(1≤c.r0∧c.r0≤64)∧(1≤c.r1∧c.r1≤64)∧(1≤c.r2∧c.r2≤64):=by
  simp only [aF,gI,Bool.and_eq_true,decide_eq_true_eq] at h
  omega
theorem uE {c:Cfg} {line:Int} (h:aL c line=true):nA line:=by
  obtain ⟨hc,h0,h1⟩:=b0c h
  have:=(dF hc).2.2
  unfold nA;omega
attribute [local irreducible] Exit.then Exit.inBlock Code.wp WC WO WE WQ V bT vL fP cY eI v8 IntKind.wrap WR Code.rounds WT KO
abbrev b5a (b a f e:Nat) (c:Cfg) (core:Int) (k:CaS):List HP:=[Cells b 105 (c.cells++[.int .i64 core,.pointer (some ⟨a,0,none⟩),.pointer (some ⟨f,0,none⟩),.pointer (some ⟨e,0,none⟩)]),a5y a c k.ways,d0m f c.mshrs k.mis,Wb e c.writebacks k.buf]
abbrev b2h (b:Nat) (c:Cfg) (core:Int) (k:CaS):HP:=f4j 105 (fun a=>a5y a c k.ways) (fun f=>d0m f c.mshrs k.mis) (fun e=>Wb e c.writebacks k.buf) b c core
theorem d8q {F:List HP} {c:Cfg} {core:Int} (hw:c.wf) (h:aF c=true∧0≤core∧core<c.cores) :
    FnF Tryz.prog 47 [c.val,.int .i64 core] [] F (fun r L'=>∃ b,r= .tuple [.pointer (some ⟨b,0,none⟩),.int .i64 0].toArray∧L'=[b2h b c core ⟨List.replicate (c.sets*c.ways).toNat .zero,[],[]⟩]):=by
  obtain ⟨hc,h0,h1⟩:=h
  have hr:=sK hc
  have hA:=fun F=>e0t (F:=F) hw hc
  have hM:=fun F=>e3n (F:=F) (room:=c.mshrs) hr.1
  have hB:=fun F=>f0u (F:=F) (room:=c.writebacks) hr.2.2.1
  refine FnF.mk' Tryz.func47 rfl rfl Tryz.ntmps47 rfl ?_
  repeat first|refine gd ?_|intro _|refine aD @hA ?_|refine aD @hM ?_|refine aD @hB ?_
  rename_i b0 a f e b1
  (apply aA rfl rfl bH)
  · exact ⟨_,rfl,rfl⟩
  · refine d1t (a:=a) (f:=f) (e:=e) ?_ ⟨hc,h0,h1⟩
    change Ent (Cells _ _ (c.cells++[.int .i64 core,.pointer (some ⟨a,0,none⟩),.pointer (some ⟨f,0,none⟩),.pointer (some ⟨e,0,none⟩)])::_) _
    exact aB
theorem oW {F:List HP} {b a f e:Nat} {c:Cfg} {core line:Int} {k:CaS} (hc:aF c=true) (hli:nA line) :
    FnF Tryz.prog 68 [.pointer (some ⟨b,0,none⟩),.int .i64 line] (b5a b a f e c core k) F (fun r L'=>r= .tuple [f3w (aP c k.ways line),.bool (jA c k.ways line)].toArray∧L'=b5a b a f e c core k):=by
  refine FnF.mk' Tryz.func68 rfl rfl Tryz.ntmps68 rfl ?_
  have hA:=fun F=>d2i (F:=F) (b:=a) (c:=c) (l:=k.ways) (line:=line) (l3 hc) hli
  repeat first|refine gd ?_|intro _|refine aD @hA ?_
  (apply aA rfl rfl bH)
  · exact ⟨rfl,rfl⟩
  · exact aB
theorem e3a {F:List HP} {b:Nat} {c:Cfg} {core line:Int} {k:CaS} (hli:nA line) :
    FnF Tryz.prog 68 [.pointer (some ⟨b,0,none⟩),.int .i64 line] [b2h b c core k] F (fun r L'=>r= .tuple [f3w (aP c k.ways line),.bool (jA c k.ways line)].toArray∧L'=[b2h b c core k]):=
  tA (fun a f e hf=>oW hf.1 hli) (k6 Tryz.func68 rfl rfl)
theorem a3k {F:List HP} {b:Nat} {c:Cfg} {core:Int} {k:CaS} :
    FnF Tryz.prog 25 [.pointer (some ⟨b,0,none⟩)] [b2h b c core k] F (fun r L'=>∃ p q,r= .slice p k.mis.length q∧L'=[Own 182 15 (.slice p k.mis.length q) k.mis.length (aC k9 k.mis),b2h b c core k]):=by
  refine FnF.mk' Tryz.func25 rfl rfl Tryz.ntmps25 rfl ?_
  refine c7b fun a f e hf=>?_
  repeat first|refine gd ?_|intro _|refine aD @nM ?_
  (apply aA rfl rfl bH)
  · exact ⟨_,_,rfl,rfl⟩
  · refine Ent.cons ?_
    (apply d1t;(focus (exact aB));all_goals exact mZ)
theorem a7x {F:List HP} {b:Nat} {c:Cfg} {core:Int} {k:CaS} :
    FnF Tryz.prog 26 [.pointer (some ⟨b,0,none⟩)] [b2h b c core k] F (fun r L'=>∃ p q,r= .slice p k.buf.length q∧L'=[Own 125 10 (.slice p k.buf.length q) k.buf.length (aC bc k.buf),b2h b c core k]):=by
  refine FnF.mk' Tryz.func26 rfl rfl Tryz.ntmps26 rfl ?_
  refine c7b fun a f e hf=>?_
  repeat first|refine gd ?_|intro _|refine aD @e6a ?_
  (apply aA rfl rfl bH)
  · exact ⟨_,_,rfl,rfl⟩
  · refine Ent.cons ?_
    (apply d1t;(focus (exact aB));all_goals exact mZ)
theorem qK {F:List HP} {st:Int}:FnF Tryz.prog 165 [.int .i64 st] [] F (fun r L'=>r= .bool (decide (2≤st))∧L'=[]):=by
  refine FnF.mk' Tryz.func165 rfl rfl Tryz.ntmps165 rfl ?_
  repeat first|refine gd ?_|intro _
  exact bF
theorem b0f {F:List HP} {b a f e:Nat} {c:Cfg} {core kind line:Int} {k:CaS} (hc:aF c=true) (hli:nA line) :
    FnF Tryz.prog 156 [.pointer (some ⟨b,0,none⟩),.int .i64 kind,.int .i64 line] (b5a b a f e c core k) F (fun r L'=>r=mv (cP c core kind line .zero)∧L'=b5a b a f e c core k):=by
  refine FnF.mk' Tryz.func156 rfl rfl Tryz.ntmps156 rfl ?_
  have hL:=fun F=>n3 (F:=F) (c:=c) (a:=line) (l3 hc) hli
  repeat first|refine gd ?_|intro _|refine aD @hL ?_
  (apply aA rfl rfl bH)
  · exact ⟨rfl,rfl⟩
  · exact aB
theorem d0h {Q P:Prop} (k:Q) (h:Hid Q→P:=by
  intro k
  first
  |(refine aI ?_;refine uU (id:=1) .true (pl:= .p 0 <| .p 1 <| .p 3 <| .p 4 <| .p 5 <| .p 7 <| .r 2 <| .r 6 <| .r 8 <| .p 9 <| .e true [(10,.done)]) k.out)):P:=h ⟨k⟩
theorem d8r {F:List HP} {b a f e:Nat} {c:Cfg} {core kind:Int} {m:Msg} {k:CaS} :
    FnF Tryz.prog 220 [.pointer (some ⟨b,0,none⟩),mv m,.int .i64 kind] (b5a b a f e c core k) F (fun r L'=>r=mv ⟨kind,m.line,core,m.who,0,0,0,.zero⟩∧L'=b5a b a f e c core k):=by
  refine FnF.mk' Tryz.func220 rfl rfl Tryz.ntmps220 rfl ?_
  repeat first|refine go ?_|intro _|refine d0h ?_|refine dM ?_
  (apply aA rfl rfl bH)
  · exact ⟨rfl,rfl⟩
  · exact aB
theorem c7c {F:List HP} {b a f e:Nat} {c:Cfg} {core line kind:Int} {k:CaS} (hc:aF c=true) (hli:nA line) :
    FnF Tryz.prog 161 [.pointer (some ⟨b,0,none⟩),.int .i64 line,.int .i64 kind] (b5a b a f e c core k) F (fun r L'=>r= .bool (mU c k line kind)∧L'=b5a b a f e c core k):=by
  have hL:=fun F=>oW (F:=F) (b:=b) (a:=a) (f:=f) (e:=e) (c:=c) (core:=core) (k:=k) hc hli
  refine FnF.mk' Tryz.func161 rfl rfl Tryz.ntmps161 rfl ?_
  unfold mU
  by_cases h1:kind=1
  · rw [if_pos h1]
    repeat first|refine gd ?_|intro _|refine aD @hL ?_
    (apply aA rfl rfl bH)
    · exact ⟨rfl,rfl⟩
    · exact aB
  · rw [if_neg h1]
    by_cases h2:(aP c k.ways line).st=2
    · repeat first|refine gd ?_|intro _|refine aD @hL ?_
      (apply aA rfl rfl bH)
      · exact ⟨by simp [h2],rfl⟩
      · exact aB
    · repeat first|refine gd ?_|intro _|refine aD @hL ?_
      (apply aA rfl rfl bH)
      · exact ⟨by simp [h2],rfl⟩
      · exact aB
end
section
structure SSet where
  cores:Int
  most:Int
  ps:List Int
  all:Bool
theorem SSet.ext_iff' {a b:SSet}:(a.cores=b.cores∧a.most=b.most∧a.all=b.all∧a.ps=b.ps)↔a=b:=by
  rcases a with ⟨a1,a2,a3,a4⟩
  rcases b with ⟨b1,b2,b3,b4⟩
  simp only [SSet.mk.injEq]
  constructor<;>(rintro ⟨h1,h2,h3,h4⟩;exact ⟨h1,h2,h4,h3⟩)
instance:DecidableEq SSet:=fun a b=>decidable_of_iff _ SSet.ext_iff'
abbrev f5j (s:SSet) (a:Option Addr) (k:Nat):List Value:=[.int .i64 s.cores,.int .i64 s.most,.slice a s.ps.length k,.bool s.all]
abbrev f3x (s:SSet) (a:Option Addr) (k:Nat):Value:= .agg (f5j s a k).toArray
abbrev SSet.no:SSet:=⟨0,0,[],false⟩
def iN (n:Int):Int→List Int→Bool
  |_,[]=>true
  |last,c::r=>decide (last<c)&& decide (c<n)&& iN n c r
def d6 (s:SSet):Bool:=decide (1≤s.cores)&& decide (s.cores≤64)&& decide (0≤s.most)&& decide (s.most≤8)&& decide ((s.ps.length:Int)≤s.most)&& !(s.all&& decide (0<s.ps.length))&& iN s.cores (-1) s.ps
def cS (s:SSet) (c:Int):Bool:=if s.all then decide (0≤c)&& decide (c<s.cores) else decide (c∈s.ps)
def b5q (c:Int) (l:List Int):List Int:=l.take (a0l l c)++c::l.drop (a0l l c)
def pM (s:SSet) (c:Int):Int:=if d6 s then (if c<0∨s.cores≤c then 5 else 0) else 1
def dH (s:SSet) (c:Int):SSet:=if pM s c=0 then (if cS s c then s else if (s.ps.length:Int)=s.most then ⟨s.cores,s.most,[],true⟩ else ⟨s.cores,s.most,b5q c s.ps,s.all⟩) else .no
def u5 (n:Nat):List Int:=(List.range n).map fun (i:Nat)=>(i:Int)
def jR (s:SSet) (but:List Int) (n:Nat):List Int:=(u5 n).filter fun c=>cS s c&& !decide (c∈but)
theorem a3l {n:Int}:∀ {l:List Int} {last:Int},iN n last l=true→l.Pairwise (· < ·)∧∀ c∈l,last<c∧c<n
  | [],_,_=>⟨List.Pairwise.nil,fun c h=>by cases h⟩
  |a::r,last,h=>by
   simp only [iN,Bool.and_eq_true,decide_eq_true_eq] at h
   obtain ⟨⟨h1,h2⟩,h3⟩:=h
   obtain ⟨p,q⟩:=a3l h3
   refine ⟨List.pairwise_cons.2 ⟨fun c hc=>(q c hc).1,p⟩,fun c hc=>?_⟩
   rcases List.mem_cons.1 hc with rfl|hc
   · exact ⟨h1,h2⟩
   · have:=q c hc;exact ⟨om,this.2⟩
theorem b3m {n:Int}:∀ {l:List Int} {last:Int},l.Pairwise (· < ·)→(∀ c∈l,last<c∧c<n)→iN n last l=true
  | [],_,_,_=>rfl
  |a::r,last,p,q=>by
   have h:=q a (by simp)
   rw [List.pairwise_cons] at p
   simp only [iN,h.1,h.2,decide_true,Bool.true_and]
   exact b3m p.2 fun c hc=>⟨p.1 c hc,(q c (List.mem_cons_of_mem _ hc)).2⟩
theorem e9 {s:SSet} (h:d6 s=true):1≤s.cores∧s.cores≤64∧0≤s.most∧s.most≤8∧(s.ps.length:Int)≤s.most∧(s.all=true→s.ps=[])∧s.ps.Pairwise (· < ·)∧∀ c∈s.ps,0≤c∧c<s.cores:=by
  simp only [d6,Bool.and_eq_true,decide_eq_true_eq,Bool.not_eq_true',Bool.and_eq_false_iff,decide_eq_false_iff_not] at h
  obtain ⟨⟨⟨⟨⟨⟨h1,h2⟩,h3⟩,h4⟩,h5⟩,h6⟩,h7⟩:=h
  obtain ⟨p,q⟩:=a3l h7
  refine ⟨h1,h2,h3,h4,h5,fun ha=>?_,p,fun c hc=>by have:=q c hc;exact ⟨om,this.2⟩⟩
  rcases h6 with h|h
  · rw [ha] at h;cases h
  · exact List.eq_nil_of_length_eq_zero (om)
theorem b0g (c:Int) (l:List Int):(b5q c l).length=l.length+1:=by
  have:=d7q l c
  unfold b5q
  rw [List.length_append,List.length_cons,List.length_take,List.length_drop];omega
attribute [local irreducible] Exit.then Exit.inBlock Code.wp WC WO WE WQ V bT vL fP cY eI v8 IntKind.wrap WR Code.rounds WT KO
theorem a7y {F:List HP} {s:SSet} {a:Option Addr} {k:Nat} (hk:RdL F 1 (.slice a s.ps.length k) s.ps.length (aC ic s.ps)) (hn:s.ps.length≤1000) :
    FnF Tryz.prog 176 [f3x s a k] [] F (fun r L'=>r= .bool (d6 s)∧L'=[]):=by
  refine FnF.mk' Tryz.func176 rfl rfl Tryz.ntmps176 rfl ?_
  by_cases a1:1≤s.cores
  · by_cases a2:s.cores≤64
    · by_cases a3:0≤s.most
      · by_cases a4:s.most≤8
        · by_cases a5:(s.ps.length:Int)≤s.most
          · by_cases a6:s.all=true∧0<s.ps.length
            · obtain ⟨b1,b2⟩:=a6
              repeat first|refine gd ?_|intro _
              (apply aA rfl rfl bH;(first|exact oO|exact ⟨by simp [d6,b1,b2]<;>omega,rfl⟩);exact jM)
            · have hb:d6 s=iN s.cores (-1) s.ps:=by
                have:(!(s.all&& decide (0<s.ps.length)))=true:=by
                  cases hc:s.all with
                  |false=>rfl
                  |true=>
                   have:¬0<s.ps.length:=fun h=>a6 ⟨hc,h⟩
                   simp [this]
                simp only [d6,a1,a2,a3,a4,a5,decide_true,Bool.true_and,this]
              rw [hb]
              cases hc:s.all with
              |false=>
               repeat first|refine gd ?_|intro _
               rename_i bs
               apply aW (E0:=[(1,_),(43,_),(44,_)]) (fun E0 (q:Nat×Int)=>(45,.int .i64 q.1)::(3,.int .i64 q.2)::E0) (fun _=>Cells bs 133 (f5j s a k)::F)
                 (fun q=>q.1≤s.ps.length∧iN s.cores (-1) s.ps=iN s.cores q.2 (s.ps.drop q.1)) (fun q=>s.ps.length-q.1) (0,-1)
               · exact m9
               · exact ⟨Nat.zero_le _,rfl⟩
               · exact aB
               · rintro ⟨j,last⟩ ⟨hj,hr⟩
                 dsimp only at hj hr ⊢
                 rw [hr]
                 by_cases hlt:j<s.ps.length
                 · rw [List.drop_eq_getElem_cons hlt] at hr ⊢
                   by_cases c1:last<s.ps[j]
                   · by_cases c2:s.ps[j]<s.cores
                     · repeat first|refine gd ?_|intro _
                       refine aT (j+1,s.ps[j]) (by dsimp only;omega) ⟨by dsimp only;omega,by dsimp only;simp [iN,c1,c2]⟩ ?_ ?_
                       · exact m9
                       · exact aB
                     · repeat first|refine gd ?_|intro _
                       (apply aA rfl rfl bH;(first|exact oO|exact ⟨by simp [iN,c1,c2]<;>omega,rfl⟩);exact jM)
                   · repeat first|refine gd ?_|intro _
                     (apply aA rfl rfl bH;(first|exact oO|exact ⟨by simp [iN,c1]<;>omega,rfl⟩);exact jM)
                 · have hjl:j=s.ps.length:=by omega
                   subst hjl
                   rw [List.drop_length]
                   repeat first|refine gd ?_|intro _
                   (apply aA rfl rfl bH;(first|exact oO|exact ⟨by simp [iN]<;>omega,rfl⟩);exact jM)
              |true=>
               have b2:¬0<s.ps.length:=fun h=>a6 ⟨hc,h⟩
               repeat first|refine gd ?_|intro _
               rename_i bs
               apply aW (E0:=[(1,_),(43,_),(44,_)]) (fun E0 (q:Nat×Int)=>(45,.int .i64 q.1)::(3,.int .i64 q.2)::E0) (fun _=>Cells bs 133 (f5j s a k)::F)
                 (fun q=>q.1≤s.ps.length∧iN s.cores (-1) s.ps=iN s.cores q.2 (s.ps.drop q.1)) (fun q=>s.ps.length-q.1) (0,-1)
               · exact m9
               · exact ⟨Nat.zero_le _,rfl⟩
               · exact aB
               · rintro ⟨j,last⟩ ⟨hj,hr⟩
                 dsimp only at hj hr ⊢
                 rw [hr]
                 by_cases hlt:j<s.ps.length
                 · omega
                 · have hjl:j=s.ps.length:=by omega
                   subst hjl
                   rw [List.drop_length]
                   repeat first|refine gd ?_|intro _
                   (apply aA rfl rfl bH;(first|exact oO|exact ⟨by simp [iN]<;>omega,rfl⟩);exact jM)
          · repeat first|refine gd ?_|intro _
            (apply aA rfl rfl bH;(first|exact oO|exact ⟨by simp [d6,a5]<;>omega,rfl⟩);exact jM)
        · repeat first|refine gd ?_|intro _
          (apply aA rfl rfl bH;(first|exact oO|exact ⟨by simp [d6,a4]<;>omega,rfl⟩);exact jM)
      · repeat first|refine gd ?_|intro _
        (apply aA rfl rfl bH;(first|exact oO|exact ⟨by simp [d6,a3]<;>omega,rfl⟩);exact jM)
    · repeat first|refine gd ?_|intro _
      (apply aA rfl rfl bH;(first|exact oO|exact ⟨by simp [d6,a2]<;>omega,rfl⟩);exact jM)
  · repeat first|refine gd ?_|intro _
    (apply aA rfl rfl bH;(first|exact oO|exact ⟨by simp [d6,a1]<;>omega,rfl⟩);exact jM)
theorem b5r {F:List HP} {s:SSet} {a:Option Addr} {k:Nat} {c:Int} (hk:RdL F 1 (.slice a s.ps.length k) s.ps.length (aC ic s.ps)) (hm:d6 s=true) :
    FnF Tryz.prog 84 [f3x s a k,.int .i64 c] [] F (fun r L'=>r= .bool (cS s c)∧L'=[]):=by
  obtain ⟨m1,m2,m3,m4,m5,m6,m7,m8⟩:=e9 hm
  refine FnF.mk' Tryz.func84 rfl rfl Tryz.ntmps84 rfl ?_
  cases ha:s.all with
  |true=>
   by_cases h0:0≤c
   · repeat first|refine gd ?_|intro _
     (apply aA rfl rfl bH;(first|exact oO|exact ⟨by simp [cS,ha,h0]<;>omega,rfl⟩);exact jM)
   · repeat first|refine gd ?_|intro _
     (apply aA rfl rfl bH;(first|exact oO|exact ⟨by simp [cS,ha,h0]<;>omega,rfl⟩);exact jM)
  |false=>
   repeat first|refine gd ?_|intro _|refine aD @oR ?_
   (apply aA rfl rfl bH;(first|exact oO|exact ⟨by simp [cS,ha]<;>omega,rfl⟩);exact jM)
theorem b3n {F:List HP} {s:SSet} {a:Option Addr} {k:Nat}:FnF Tryz.prog 245 [f3x s a k] [] F (fun r L'=>r=f3x ⟨s.cores,s.most,[],false⟩ none 0∧L'=[]):=by
  refine FnF.mk' Tryz.func245 rfl rfl Tryz.ntmps245 rfl ?_
  repeat first|refine gd ?_|intro _
  exact bF
theorem e3b {F:List HP} {cores most:Int}:FnF Tryz.prog 137 [.int .i64 cores,.int .i64 most] [] F
    (fun r L'=>r= .tuple [f3x (if d6 ⟨cores,most,[],false⟩ then ⟨cores,most,[],false⟩ else .no) none 0,.int .i64 (if d6 ⟨cores,most,[],false⟩ then 0 else 1)].toArray∧L'=[]):=by
  have hM:=fun F=>a7y (F:=F) (s:=⟨cores,most,[],false⟩) (a:=none) (k:=0) qS (by simp)
  cases e:d6 ⟨cores,most,[],false⟩ with
  |true=>
   simp only [e,List.length_nil] at hM
   refine FnF.mk' Tryz.func137 rfl rfl Tryz.ntmps137 rfl ?_
   repeat first|refine gd ?_|intro _|refine aD @hM ?_
   exact bF
  |false=>
   simp only [e,List.length_nil] at hM
   refine FnF.mk' Tryz.func137 rfl rfl Tryz.ntmps137 rfl ?_
   repeat first|refine gd ?_|intro _|refine aD @hM ?_
   exact bF
theorem a4p {F:List HP} {s:SSet} {a:Option Addr} {k:Nat} {u:Value} {but:List Int} (hk:RdL F 1 (.slice a s.ps.length k) s.ps.length (aC ic s.ps)) (hm:d6 s=true) (hb:RdL F 1 u but.length (aC ic but)) (hbn:but.length≤1000) :
    FnF Tryz.prog 134 [f3x s a k,u] [] F (fun r L'=>∃ p c,r= .slice p (jR s but s.cores.toNat).length c∧L'=[Own 3 1 (.slice p (jR s but s.cores.toNat).length c) (jR s but s.cores.toNat).length (aC ic (jR s but s.cores.toNat))]):=by
  obtain ⟨m1,m2,m3,m4,m5,m6,m7,m8⟩:=e9 hm
  obtain ⟨n,hn⟩:∃ n:Nat,s.cores=n:=⟨s.cores.toNat,om⟩
  refine FnF.mk' Tryz.func134 rfl rfl Tryz.ntmps134 rfl ?_
  repeat first|refine gd ?_|intro _
  rename_i bs
  apply aW (E0:=[(1,_),(2,_),(8,_)]) (fun E0 (q:Nat×Option Addr×Nat)=>(9,.int .i64 q.1)::(5,.slice q.2.1 (jR s but q.1).length q.2.2)::E0)
    (fun q=>Own 3 1 (.slice q.2.1 (jR s but q.1).length q.2.2) (jR s but q.1).length (aC ic (jR s but q.1))::Cells bs 133 (f5j s a k)::F) (fun q=>q.1≤n) (fun q=>n-q.1) (0,none,0)
  · exact m9
  · exact Nat.zero_le _
  · refine Ent.trans ?_ (aO Ent.refl)
    exact aB
  · rintro ⟨j,p,c⟩ hj
    dsimp only at hj ⊢
    have hlen:(jR s but j).length≤j:=by
      have:=List.length_filter_le (fun c=>cS s c&& !decide (c∈but)) (u5 j)
      simp only [u5,List.length_map,List.length_range] at this
      exact this
    have hsu:jR s but (j+1)=if cS s j&& !decide ((j:Int)∈but) then jR s but j++[(j:Int)] else jR s but j:=by
      unfold jR u5
      rw [List.range_succ,List.map_append,List.filter_append]
      by_cases h:(cS s j&& !decide ((j:Int)∈but))=true
      · simp [h]
      · simp [h]
    by_cases hlt:j<n
    · cases hh:cS s j with
      |false=>
       have hH:=fun F (hk:RdL F 1 (.slice a s.ps.length k) s.ps.length (aC ic s.ps))=>b5r (c:=(j:Int)) hk hm
       simp only [hh] at hH
       rw [hh] at hsu
       rw [Bool.false_and,if_neg Bool.false_ne_true] at hsu
       repeat first|refine gd ?_|intro _|refine aD @hH ?_
       refine aT (j+1,p,c) (by dsimp only;omega) (by dsimp only;omega) ?_ ?_
       · dsimp only;rw [hsu];exact m9
       · dsimp only;rw [hsu];exact aB
      |true=>
       have hH:=fun F (hk:RdL F 1 (.slice a s.ps.length k) s.ps.length (aC ic s.ps))=>b5r (c:=(j:Int)) hk hm
       simp only [hh] at hH
       rw [hh] at hsu
       by_cases hc:(j:Int)∈but
       · have hc':¬¬((j:Int)∈but):=fun h=>h hc
         rw [if_neg (by simp [hc])] at hsu
         repeat first|refine gd ?_|intro _|refine aD @hH ?_|refine aD @tV ?_
         refine aT (j+1,p,c) (by dsimp only;omega) (by dsimp only;omega) ?_ ?_
         · dsimp only;rw [hsu];exact m9
         · dsimp only;rw [hsu];exact aB
       · rw [if_pos (by simp [hc])] at hsu
         repeat first|refine gd ?_|intro _|refine aD @hH ?_|refine aD @tV ?_
         rename_i b2 p2 c2
         refine aT (j+1,p2,c2) (by dsimp only;omega) (by dsimp only;omega) ?_ ?_
         · dsimp only;rw [hsu,List.length_append,List.length_singleton];exact m9
         · dsimp only;rw [hsu,List.length_append,List.length_singleton,bJ,dW];exact aB
    · have hjn:j=s.cores.toNat:=by omega
      repeat first|refine gd ?_|intro _
      subst hjn
      (apply aA rfl rfl bH)
      · exact ⟨p,c,rfl,rfl⟩
      · exact aB
theorem e3c {F:List HP} {s:SSet} {a:Option Addr} {k:Nat} {x:Int} (hk:RdL F 1 (.slice a s.ps.length k) s.ps.length (aC ic s.ps)) (hn:s.ps.length≤1000) :
    FnF Tryz.prog 247 [f3x s a k,.int .i64 x] [] F (fun r L'=>∃ a' k',r= .tuple [f3x (dH s x) a' k',.int .i64 (pM s x)].toArray∧L'=[Own 3 1 (.slice a' (dH s x).ps.length k') (dH s x).ps.length (aC ic (dH s x).ps)]):=by
  cases hm:d6 s with
  |false=>
   have e1:pM s x=1:=by simp [pM,hm]
   have e2:dH s x= .no:=by simp [dH,e1]
   rw [e1,e2]
   have hM:=fun F (hk:RdL F 1 (.slice a s.ps.length k) s.ps.length (aC ic s.ps))=>a7y hk hn
   simp only [hm] at hM
   refine FnF.mk' Tryz.func247 rfl rfl Tryz.ntmps247 rfl ?_
   repeat first|refine gd ?_|intro _|refine aD @hM ?_
   (apply aA rfl rfl bH)
   · exact ⟨none,0,rfl,rfl⟩
   · refine Ent.trans ?_ (aO Ent.refl)
     exact aB
  |true=>
   have hM:=fun F (hk:RdL F 1 (.slice a s.ps.length k) s.ps.length (aC ic s.ps))=>a7y hk hn
   simp only [hm] at hM
   obtain ⟨m1,m2,m3,m4,m5,m6,m7,m8⟩:=e9 hm
   by_cases hr:x<0∨s.cores≤x
   · have e1:pM s x=5:=by simp only [pM,hm,if_true,if_pos hr]
     have e2:dH s x= .no:=by simp [dH,e1]
     rw [e1,e2]
     refine FnF.mk' Tryz.func247 rfl rfl Tryz.ntmps247 rfl ?_
     by_cases h0:x<0
     · repeat first|refine gd ?_|intro _|refine aD @hM ?_
       (apply aA rfl rfl bH)
       · exact ⟨none,0,rfl,rfl⟩
       · refine Ent.trans ?_ (aO Ent.refl)
         exact aB
     · repeat first|refine gd ?_|intro _|refine aD @hM ?_
       (apply aA rfl rfl bH)
       · exact ⟨none,0,rfl,rfl⟩
       · refine Ent.trans ?_ (aO Ent.refl)
         exact aB
   · have e1:pM s x=0:=by simp only [pM,hm,if_true,if_neg hr]
     have hx0:0≤x:=by omega
     have hx1:x<s.cores:=by omega
     have hH:=fun F a k (hk:RdL F 1 (.slice a s.ps.length k) s.ps.length (aC ic s.ps))=>b5r (c:=x) hk hm
     cases hh:cS s x with
     |true=>
      have e2:dH s x=s:=by simp [dH,e1,hh]
      rw [e1,e2]
      simp only [hh] at hH
      refine FnF.mk' Tryz.func247 rfl rfl Tryz.ntmps247 rfl ?_
      repeat first|refine gd ?_|intro _|refine aD @hM ?_|refine aD @tL ?_|refine aD @hH ?_
      (apply aA rfl rfl bH)
      · exact ⟨_,_,rfl,rfl⟩
      · exact aB
     |false=>
      simp only [hh] at hH
      by_cases hf:(s.ps.length:Int)=s.most
      · have e2:dH s x=⟨s.cores,s.most,[],true⟩:=by simp [dH,e1,hh,hf]
        rw [e1,e2]
        refine FnF.mk' Tryz.func247 rfl rfl Tryz.ntmps247 rfl ?_
        repeat first|refine gd ?_|intro _|refine aD @hM ?_|refine aD @tL ?_|refine aD @hH ?_
        (apply aA rfl rfl bH)
        · exact ⟨none,0,rfl,rfl⟩
        · refine Ent.trans ?_ (aO Ent.refl)
          exact aB
      · have e2:dH s x=⟨s.cores,s.most,b5q x s.ps,s.all⟩:=by simp [dH,e1,hh,hf]
        rw [e1,e2]
        have hlo:=d7q s.ps x
        have hI:=fun F p c vb=>b1g (F:=F) (p:=p) (c:=c) (vb:=vb) (i:=a0l s.ps x) (l:=s.ps) (x:=x) hlo hn
        refine FnF.mk' Tryz.func247 rfl rfl Tryz.ntmps247 rfl ?_
        repeat first|refine gd ?_|intro _|refine aD @hM ?_|refine aD @tL ?_|refine aD @hH ?_|refine aD @oR ?_|refine aD @hI ?_
        have hins:List.take (a0l s.ps x) s.ps++x::List.drop (a0l s.ps x) s.ps=b5q x s.ps:=rfl
        rw [hins,←b0g x s.ps]
        (apply aA rfl rfl bH)
        · exact ⟨_,_,rfl,rfl⟩
        · exact aB
end
section
theorem d4x (c x:Int) (l:List Int):x∈b5q c l↔x=c∨x∈l:=by
  unfold b5q
  rw [List.mem_append,List.mem_cons]
  have h:x∈l↔x∈l.take (a0l l c)∨x∈l.drop (a0l l c):=by rw [←List.mem_append,List.take_append_drop]
  rw [h]
  constructor
  · rintro (h|h|h)
    · exact .inr (.inl h)
    · exact .inl h
    · exact .inr (.inr h)
  · rintro (h|h|h)
    · exact .inr (.inl h)
    · exact .inl h
    · exact .inr (.inr h)
theorem d4y (l:List Int) (c:Int):l.take (a0l l c)=l.takeWhile fun x=>decide (x<c):=by
  unfold a0l
  induction l with
  |nil=>rfl
  |cons a r ih=>by_cases h:a<c<;>simp [h,ih]
theorem d4z (l:List Int) (c:Int):l.drop (a0l l c)=l.dropWhile fun x=>decide (x<c):=by
  unfold a0l
  induction l with
  |nil=>rfl
  |cons a r ih=>by_cases h:a<c<;>simp [h,ih]
theorem b8j {c:Int} {l:List Int} (h:l.Pairwise (· < ·)) (hc:¬c∈l):(b5q c l).Pairwise (· < ·):=by
  have hp:∀ x∈l.takeWhile (fun x=>decide (x<c)),x<c:=by
    have:∀ (r:List Int),∀ x∈r.takeWhile (fun x=>decide (x<c)),x<c:=by
      intro r
      induction r with
      |nil=>intro x hx;simp at hx
      |cons a r ih=>
       intro x hx
       by_cases ha:a<c
       · simp [ha] at hx
         rcases hx with rfl|hx
         · exact ha
         · exact ih x hx
       · simp [ha] at hx
    exact this l
  have hq:∀ x∈l.dropWhile (fun x=>decide (x<c)),c<x:=by
    have:∀ (r:List Int),r.Pairwise (· < ·)→(¬c∈r)→∀ x∈r.dropWhile (fun x=>decide (x<c)),c<x:=by
      intro r
      induction r with
      |nil=>intro _ _ x hx;simp at hx
      |cons a r ih=>
       intro hr hn x hx
       rw [List.pairwise_cons] at hr
       by_cases ha:a<c
       · simp [ha] at hx
         exact ih hr.2 (fun h=>hn (List.mem_cons_of_mem _ h)) x hx
       · simp [ha] at hx
         have:c≠a:=fun e=>hn (by simp [e])
         rcases hx with rfl|hx
         · omega
         · have:=hr.1 x hx;omega
    exact this l h hc
  unfold b5q
  rw [d4y,d4z,List.pairwise_append,List.pairwise_cons]
  refine ⟨h.sublist (List.takeWhile_sublist _),⟨hq,h.sublist (List.dropWhile_sublist _)⟩,fun x hx y hy=>?_⟩
  rcases List.mem_cons.1 hy with rfl|hy
  · exact hp x hx
  · have:=hp x hx;have:=hq y hy;omega
theorem b8k (n:Nat):(u5 n).Pairwise (· < ·):=by
  unfold u5
  rw [List.pairwise_map]
  exact List.pairwise_lt_range.imp fun h=>by omega
theorem d5a {n:Nat} {c:Int}:c∈u5 n↔0≤c∧c<n:=by
  unfold u5
  simp only [List.mem_map,List.mem_range]
  constructor
  · rintro ⟨i,hi,rfl⟩;omega
  · rintro ⟨h1,h2⟩;exact ⟨c.toNat,om,om⟩
theorem b8l {s:SSet} {x:Int} (h0:0≤x) (h1:x<s.cores) (hn:cS s x=false):s.all=false:=by
  cases ha:s.all with
  |false=>rfl
  |true=>simp [cS,ha] at hn;omega
attribute [local irreducible] Exit.then Exit.inBlock Code.wp WC WO WE WQ V bT vL fP cY eI v8 IntKind.wrap WR Code.rounds WT KO
end
section
instance:MapT Tryz.prog 126 f4b false:=⟨_,_,_,_,_,Tryz.underlying126,Tryz.underlying3,TZ.pf⟩
attribute [local irreducible] Exit.then Exit.inBlock Code.wp WC WO WE WQ V bT vL fP cY eI v8 IntKind.wrap WR Code.rounds WT KO
end
section
theorem d5b (s:SSet) (x:Int):(dH s x).ps.length≤s.ps.length+1:=by
  unfold dH
  split
  · split
    · omega
    · split
      · simp
      · simp only [b0g];omega
  · simp
theorem c7d (s:SSet) (but:List Int) (n:Nat):(jR s but n).length≤n:=by
  have:=List.length_filter_le (fun c=>cS s c&& !decide (c∈but)) (u5 n)
  simp only [u5,List.length_map,List.length_range] at this
  exact this
attribute [local irreducible] Exit.then Exit.inBlock Code.wp WC WO WE WQ V bT vL fP cY eI v8 IntKind.wrap WR Code.rounds WT KO
end
section
theorem e3d {P:Program} {N:Nat} {st:St} {ops:Array Oper} {LS L L':List HP} {pl:Plan} {env:Env} {Q:Exit→Act→World→Prop} (e:Ent L L') (h:WT st P N ops LS pl env L' Q):WT st P N ops LS pl env L Q:=fun a w ha hw=>h a w ha (e.sat hw)
theorem e8y {c:Cfg} {l:List Way} {line:Int} {i:Nat} (hI:cF c l) (hi:cZ c l line=i) (hno:jA c l line=false) :
    ∃ h:cT c line+i<l.length,a2d c l line i=0∧kR c l line i=l.set (cT c line+i) ⟨0,line,.zero,true⟩∧cJ c (kR c l line i) line=i∧aP c (kR c l line i) line=⟨0,line,.zero,true⟩:=by
  have hn:cJ c l line= -1:=by
    have:=p5 c l line
    simp [jA] at hno;omega
  obtain ⟨j,hj,e,h1,h2⟩:=cR (show 0≤bA (fun w=> !bC w) (bW c l line) by unfold cZ at hi;omega)
  have hji:j=i:=by unfold cZ at hi;omega
  subst hji
  have hok:aL c line=true:=by
    cases h:aL c line with
    |true=>rfl
    |false=>rw [oD h] at hj;simp at hj
  obtain ⟨hb,eg⟩:=nF hok hj
  have hlw:j<c.ways.toNat:=by rw [mF hok,List.length_take] at hj;omega
  have h3:bC ((bW c l line).getD j .zero)=false:=by rw [←lI hj];simpa using h1
  have e1:a2d c l line j=0:=by
    unfold a2d
    rw [if_pos ⟨om,om⟩,if_pos hn,Int.toNat_natCast,h3];rfl
  have e2:kR c l line j=l.set (cT c line+j) ⟨0,line,.zero,true⟩:=by unfold kR;rw [if_pos e1,Int.toNat_natCast]
  have hI2:cF c (kR c l line j):=a9n hI
  have hb2:cT c line+j<(kR c l line j).length:=by rw [b9l];exact hb
  have e3:(kR c l line j)[cT c line+j]=⟨0,line,.zero,true⟩:=by simp only [e2];rw [List.getElem_set_self]
  have h4:=yF (line:=line) hI2 hb2 (by rw [e3];simp [oG,bC])
  have e4:cJ c (kR c l line j) line=j:=by rw [h4.2];omega
  exact ⟨hb,e1,e2,e4,by rw [kT e4 hb2,e3]⟩
theorem gO {α:Type} {P:α→Prop} {l:List α} {i:Nat} {x:α} (h:∀ m∈l,P m) (hx:P x):∀ m∈l.set i x,P m:=fun m hm=>by
  rcases List.mem_or_eq_of_mem_set hm with g|g
  · exact h m g
  · rw [g];exact hx
end
end Go.Sx
