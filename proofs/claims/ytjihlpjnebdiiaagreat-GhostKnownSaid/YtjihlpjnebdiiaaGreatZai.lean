/- Ca, CaPl, CaInv, Vw, CaInv2, CaV: several of my texts as one. My own work. -/
import Derived.Test.YtjihlpjnebdiiaaGreatZad
import Derived.Test.YtjihlpjnebdiiaaGreatZah
set_option linter.unusedVariables false
set_option linter.unusedSectionVars false
set_option linter.unusedSimpArgs false
set_option maxRecDepth 100000
set_option maxHeartbeats 4000000
namespace Go.Sx
open Go Go.Proofs
section
structure CaS where
  ways:List Way
  mis:List Miss
  buf:List WbE
def q6 (c:Cfg) (k:CaS) (line kind:Int):Bool:=if kind=1 then decide ((aT c k.ways line).st≠0) else decide ((aT c k.ways line).st=2∨(aT c k.ways line).st=4)
def cX (c:Cfg) (core kind line:Int) (w:Words):Msg:=⟨kind,line,core,dA c line,0,0,0,w⟩
def dT (c:Cfg) (k:CaS) (line kind:Int):Int:=
  if aP c line=false∨(kind≠1∧kind≠2) then 1
  else if cR k.mis line=true∨lO k.buf line=true∨q6 c k line kind=true then 6
  else if (k.mis.length:Int)=c.mshrs then 4
  else if iQ c k.ways line=false∧dD c k.ways line<0 then 5
  else 0
def cO (c:Cfg) (k:CaS) (line kind:Int):CaS:=
  if dT c k line kind=0 then ⟨if iQ c k.ways line then gJ c k.ways line true else kM c k.ways line (dD c k.ways line),kL c.mshrs k.mis line kind,k.buf⟩ else k
def fO (c:Cfg) (core:Int) (k:CaS) (line kind:Int):Msg:=if dT c k line kind=0 then cX c core kind line .zero else .zero
def oG (c:Cfg) (k:CaS) (s w:Int):Int:=
  if vX c s w=false∨(uP c k.ways s w).st=0 then 5
  else if (uP c k.ways s w).lk=true then 6
  else if 2≤(uP c k.ways s w).st∧sK c.writebacks k.buf (uP c k.ways s w).line≠0 then 4
  else 0
def mL (c:Cfg) (k:CaS) (s w:Int):Bool:=decide (oG c k s w=0∧2≤(uP c k.ways s w).st)
def tH (c:Cfg) (core:Int) (k:CaS) (s w:Int):Msg:=if mL c k s w then cX c core 3 (uP c k.ways s w).line (uP c k.ways s w).words else .zero
def gQ (c:Cfg) (k:CaS) (s w:Int):CaS:=
  if oG c k s w=0 then ⟨e7 c k.ways (uP c k.ways s w).line 0 .zero,k.mis,if 2≤(uP c k.ways s w).st then mV c.writebacks k.buf (uP c k.ways s w).line (uP c k.ways s w).words else k.buf⟩ else k
def gS (c:Cfg) (k:CaS) (line:Int):Int:=if 2≤(aT c k.ways line).st then 0 else if kJ k.buf line=0 then 0 else 7
def lK (c:Cfg) (k:CaS) (line:Int):Words:=if 2≤(aT c k.ways line).st then (aT c k.ways line).words else lP k.buf line
def dS (c:Cfg) (k:CaS) (line st:Int) (give:Bool):CaS:=
  if 2≤(aT c k.ways line).st then ⟨e7 c k.ways line st (aT c k.ways line).words,k.mis,k.buf⟩ else if give then ⟨k.ways,k.mis,jL k.buf line⟩ else k
def lL (c:Cfg) (core:Int) (k:CaS) (m:Msg) (own:Int):Msg:=if gS c k m.line=0 then ⟨7,m.line,core,m.who,1,m.acks,own,lK c k m.line⟩ else .zero
def sB (c:Cfg) (k:CaS) (line:Int):Int:=if 2≤(aT c k.ways line).st then 7 else 0
def kX (c:Cfg) (k:CaS) (line:Int):CaS:=if (aT c k.ways line).st=1 then ⟨e7 c k.ways line 0 .zero,k.mis,k.buf⟩ else k
def a3b (c:Cfg) (core:Int) (k:CaS) (m:Msg):Msg:=if sB c k m.line=0 then ⟨9,m.line,core,m.who,0,0,0,.zero⟩ else .zero
def dM (c:Cfg) (k:CaS) (line:Int):CaS:=
  if wV k.mis line then ⟨e7 c k.ways line (uV k.mis line).own (if (uV k.mis line).granted then (aT c k.ways line).words else (uV k.mis line).words),rM k.mis line,k.buf⟩ else k
def a3q (e:Int):Int:=if e=0 then 0 else 7
def qT (c:Cfg) (k:CaS) (m:Msg):CaS:=if iB k.mis m.line m.acks m.own=0 then dM c ⟨k.ways,iS k.mis m.line m.acks m.own m.words,k.buf⟩ m.line else k
def a9d (c:Cfg) (k:CaS) (m:Msg):Int:=if (aT c k.ways m.line).st=3 then a3q (iB k.mis m.line m.acks 4) else 7
def zQ (c:Cfg) (k:CaS) (m:Msg):CaS:=if a9d c k m=0 then dM c ⟨k.ways,gZ k.mis m.line m.acks,k.buf⟩ m.line else k
def wT (c:Cfg) (k:CaS) (m:Msg):CaS:=if vQ k.mis m.line=0 then dM c ⟨k.ways,nJ k.mis m.line,k.buf⟩ m.line else k
def a9e (k:CaS) (line:Int):CaS:=⟨k.ways,k.mis,n3 k.buf line⟩
def l9 (c:Cfg) (core:Int) (m:Msg):Bool:=decide (d6 c m)&& !decide (cE m.kind)&& decide (m.dst=core)
def bI (c:Cfg) (core:Int) (k:CaS) (m:Msg):Int:=
  if l9 c core m then (if m.kind=4∨m.kind=5 then gS c k m.line else if m.kind=6 then sB c k m.line else if m.kind=7 then a3q (iB k.mis m.line m.acks m.own) else if m.kind=8 then a9d c k m
   else if m.kind=9 then a3q (vQ k.mis m.line) else a3q (pR k.buf m.line)) else 1
def dK (c:Cfg) (core:Int) (k:CaS) (m:Msg):Bool:=decide (bI c core k m=0∧4≤m.kind∧m.kind≤6)
def gT (c:Cfg) (core:Int) (k:CaS) (m:Msg):Msg:=
  if l9 c core m then (if m.kind=4 then lL c core k m 1 else if m.kind=5 then lL c core k m 4 else if m.kind=6 then a3b c core k m else .zero) else .zero
def bH (c:Cfg) (core:Int) (k:CaS) (m:Msg):CaS:=
  if l9 c core m then (if m.kind=4 then dS c k m.line 3 false else if m.kind=5 then dS c k m.line 0 true else if m.kind=6 then (if sB c k m.line=0 then kX c k m.line else k) else if m.kind=7 then qT c k m
   else if m.kind=8 then zQ c k m else if m.kind=9 then wT c k m else a9e k m.line) else k
def kH (k:CaS):Bool:=decide (0≤kG k.mis)
def bU (k:CaS):Int:=if 0≤kG k.mis then (k.mis.getD (kG k.mis).toNat .zero).line else 0
def n8 (c:Cfg) (core:Int) (k:CaS):Msg:=if kH k then cX c core 11 (bU k) .zero else .zero
def gG (c:Cfg) (k:CaS):CaS:=if kH k then ⟨gJ c k.ways (bU k) false,iN k.mis (bU k),k.buf⟩ else k
def cP (x:Op3):Int:=if x.kind=1 then 1 else 2
def mM (c:Cfg) (k:CaS) (x:Op3):Int:=if e1r c x=0 then (if q6 c k (cQ c x.addr) (cP x) then 0 else 5) else e1r c x
def pJ (c:Cfg) (k:CaS) (x:Op3):Int:=if mM c k x=0 then e7u c (aT c k.ways (cQ c x.addr)).words x else 0
def fG (c:Cfg) (k:CaS) (x:Op3):CaS:=if mM c k x=0∧x.kind≠1 then ⟨e7 c k.ways (cQ c x.addr) 4 (c9a c (aT c k.ways (cQ c x.addr)).words x),k.mis,k.buf⟩ else k
def e9w (T:TypeId) (A M W:Nat→HP) (b:Nat) (c:Cfg) (core:Int):HP:=
  Ex fun q:Nat×Nat×Nat=>[Cells b T (c.cells++[.int .i64 core,.pointer (some ⟨q.1,0,none⟩),.pointer (some ⟨q.2.1,0,none⟩),.pointer (some ⟨q.2.2,0,none⟩)]),A q.1,M q.2.1,W q.2.2,Fact (aF c=true∧0≤core∧core<c.cores)]
theorem c8n {T:TypeId} {A M W:Nat→HP} {b a f e:Nat} {c:Cfg} {core:Int} {L R:List HP}
    (h:Ent L (Cells b T (c.cells++[.int .i64 core,.pointer (some ⟨a,0,none⟩),.pointer (some ⟨f,0,none⟩),.pointer (some ⟨e,0,none⟩)])::A a::M f::W e::R)) (hf:aF c=true∧0≤core∧core<c.cores):Ent L (e9w T A M W b c core::R):=by
  refine Ent.trans h (Ent.trans ?_ (i0 (p:=fun q:Nat×Nat×Nat=>[Cells b T (c.cells++[.int .i64 core,.pointer (some ⟨q.1,0,none⟩),.pointer (some ⟨q.2.1,0,none⟩),.pointer (some ⟨q.2.2,0,none⟩)]),A q.1,M q.2.1,W q.2.2,Fact (aF c=true∧0≤core∧core<c.cores)]) (a,f,e)))
  exact Ent.cons (Ent.cons (Ent.cons (Ent.cons (cY hf))))
theorem d4s {T:TypeId} {A M W:Nat→HP} {b:Nat} {c:Cfg} {core:Int} {L:List HP} {w:World} (h:d3 (e9w T A M W b c core::L) w):∃ a f e,(aF c=true∧0≤core∧core<c.cores)∧
    d3 (Cells b T (c.cells++[.int .i64 core,.pointer (some ⟨a,0,none⟩),.pointer (some ⟨f,0,none⟩),.pointer (some ⟨e,0,none⟩)])::A a::M f::W e::L) w:=by
  obtain ⟨⟨a,f,e⟩,hx⟩:=gW h
  simp only [oI] at hx
  exact ⟨a,f,e,iW (aR (aR (aR (aR hx)))),(Ent.cons (Ent.cons (Ent.cons (Ent.cons (Ent.drop Ent.refl))))) _ hx⟩
section
variable {T:TypeId} {A M W:Nat→HP} {b:Nat} {c:Cfg} {core:Int} {P:Program} {N:Nat} {env:Env} {L:List HP} {Q:Exit→Act→World→Prop}
theorem c3q {co:Code} (h:∀ a f e,(aF c=true∧0≤core∧core<c.cores)→WC P N co env (Cells b T (c.cells++[.int .i64 core,.pointer (some ⟨a,0,none⟩),.pointer (some ⟨f,0,none⟩),.pointer (some ⟨e,0,none⟩)])::A a::M f::W e::L) Q):WC P N co env (e9w T A M W b c core::L) Q:=by
  intro x w ha hw
  obtain ⟨a,f,e,hf,hx⟩:=d4s hw
  exact h a f e hf x w ha hx
end
theorem sC {T:TypeId} {A A' M M' W W':Nat→HP} {b:Nat} {c:Cfg} {core:Int} {P:Program} {fn:FuncId} {vs:List Value} {F:List HP} {u:Value}
    (h:∀ a f e,(aF c=true∧0≤core∧core<c.cores)→FnF P fn vs [Cells b T (c.cells++[.int .i64 core,.pointer (some ⟨a,0,none⟩),.pointer (some ⟨f,0,none⟩),.pointer (some ⟨e,0,none⟩)]),A a,M f,W e] F
     (fun r L'=>r=u∧L'=[Cells b T (c.cells++[.int .i64 core,.pointer (some ⟨a,0,none⟩),.pointer (some ⟨f,0,none⟩),.pointer (some ⟨e,0,none⟩)]),A' a,M' f,W' e]))
    (en:zG P fn):FnF P fn vs [e9w T A M W b c core] F (fun r L'=>r=u∧L'=[e9w T A' M' W' b c core]):=by
  refine ⟨en,fun w hw=>?_⟩
  obtain ⟨a,f,e,hf,hx⟩:=d4s hw
  refine ((h a f e hf).runs w hx).mono ?_
  rintro x w' ⟨v,L',he,⟨hv,hL⟩,hs⟩
  subst hL
  exact ⟨v,_,he,⟨hv,rfl⟩,(c8n Ent.refl hf).sat hs⟩
theorem kY {c:Cfg} (h:aF c=true):c.wf:=by
  simp only [aF,fI,Bool.and_eq_true,decide_eq_true_eq] at h
  unfold Cfg.wf kP
  omega
theorem c6x {c:Cfg} (h:aF c=true):(1≤c.mshrs∧c.mshrs≤8)∧(1≤c.buffer∧c.buffer≤16)∧(1≤c.writebacks∧c.writebacks≤8)∧(1≤c.r0∧c.r0≤64)∧(1≤c.r1∧c.r1≤64)∧(1≤c.r2∧c.r2≤64):=by
  simp only [aF,fI,Bool.and_eq_true,decide_eq_true_eq] at h
  omega
theorem yF {c:Cfg} {line:Int} (h:aP c line=true):kP line:=by
  obtain ⟨hc,h0,h1⟩:=a7h h
  have:=(dO hc).2.2
  unfold kP;omega
attribute [local irreducible] Exit.then Exit.inBlock Code.wp WC WO WE WQ V bF tV d3 bW dF uH IntKind.wrap WR Code.rounds WT KO
abbrev b2e (b a f e:Nat) (c:Cfg) (core:Int) (k:CaS):List HP:=[Cells b 105 (c.cells++[.int .i64 core,.pointer (some ⟨a,0,none⟩),.pointer (some ⟨f,0,none⟩),.pointer (some ⟨e,0,none⟩)]),a3l a c k.ways,c6w f c.mshrs k.mis,Wb e c.writebacks k.buf]
abbrev a8y (b:Nat) (c:Cfg) (core:Int) (k:CaS):HP:=e9w 105 (fun a=>a3l a c k.ways) (fun f=>c6w f c.mshrs k.mis) (fun e=>Wb e c.writebacks k.buf) b c core
theorem d4t {F:List HP} {c:Cfg} {core:Int} (hw:c.wf) (h:aF c=true∧0≤core∧core<c.cores) :
    FnF Tryz.prog 47 [c.val,.int .i64 core] [] F (fun r L'=>∃ b,r= .tuple [.pointer (some ⟨b,0,none⟩),.int .i64 0].toArray∧L'=[a8y b c core ⟨List.replicate (c.sets*c.ways).toNat .zero,[],[]⟩]):=by
  obtain ⟨hc,h0,h1⟩:=h
  have hr:=c6x hc
  have hA:=fun F=>d6t (F:=F) hw hc
  have hM:=fun F=>d8r (F:=F) (room:=c.mshrs) hr.1
  have hB:=fun F=>e6n (F:=F) (room:=c.writebacks) hr.2.2.1
  refine FnF.mk' Tryz.func47 rfl rfl Tryz.ntmps47 rfl ?_
  repeat first|refine gd ?_|intro _|refine aD @hA ?_|refine aD @hM ?_|refine aD @hB ?_
  rename_i b0 a f e b1
  (apply aA rfl rfl bB)
  · exact ⟨_,rfl,rfl⟩
  · refine c8n (a:=a) (f:=f) (e:=e) ?_ ⟨hc,h0,h1⟩
    change Ent (Cells _ _ (c.cells++[.int .i64 core,.pointer (some ⟨a,0,none⟩),.pointer (some ⟨f,0,none⟩),.pointer (some ⟨e,0,none⟩)])::_) _
    exact aB
theorem nW {F:List HP} {b a f e:Nat} {c:Cfg} {core line:Int} {k:CaS} (hc:aF c=true) (hli:kP line) :
    FnF Tryz.prog 68 [.pointer (some ⟨b,0,none⟩),.int .i64 line] (b2e b a f e c core k) F (fun r L'=>r= .tuple [e2g (aT c k.ways line),.bool (iQ c k.ways line)].toArray∧L'=b2e b a f e c core k):=by
  refine FnF.mk' Tryz.func68 rfl rfl Tryz.ntmps68 rfl ?_
  have hA:=fun F=>c9b (F:=F) (b:=a) (c:=c) (l:=k.ways) (line:=line) (kY hc) hli
  repeat first|refine gd ?_|intro _|refine aD @hA ?_
  (apply aA rfl rfl bB)
  · exact ⟨rfl,rfl⟩
  · exact aB
theorem d8u {F:List HP} {b:Nat} {c:Cfg} {core line:Int} {k:CaS} (hli:kP line) :
    FnF Tryz.prog 68 [.pointer (some ⟨b,0,none⟩),.int .i64 line] [a8y b c core k] F (fun r L'=>r= .tuple [e2g (aT c k.ways line),.bool (iQ c k.ways line)].toArray∧L'=[a8y b c core k]):=
  sC (fun a f e hf=>nW hf.1 hli) (kB Tryz.func68 rfl rfl)
theorem a1e {F:List HP} {b:Nat} {c:Cfg} {core:Int} {k:CaS} :
    FnF Tryz.prog 25 [.pointer (some ⟨b,0,none⟩)] [a8y b c core k] F (fun r L'=>∃ p q,r= .slice p k.mis.length q∧L'=[Own 182 15 (.slice p k.mis.length q) k.mis.length (aC jF k.mis),a8y b c core k]):=by
  refine FnF.mk' Tryz.func25 rfl rfl Tryz.ntmps25 rfl ?_
  refine c3q fun a f e hf=>?_
  repeat first|refine gd ?_|intro _|refine aD @l8 ?_
  (apply aA rfl rfl bB)
  · exact ⟨_,_,rfl,rfl⟩
  · refine Ent.cons ?_
    (apply c8n;(focus (exact aB));all_goals exact mG)
theorem c0j {F:List HP} {b:Nat} {c:Cfg} {core:Int} {k:CaS} :
    FnF Tryz.prog 26 [.pointer (some ⟨b,0,none⟩)] [a8y b c core k] F (fun r L'=>∃ p q,r= .slice p k.buf.length q∧L'=[Own 125 10 (.slice p k.buf.length q) k.buf.length (aC bc k.buf),a8y b c core k]):=by
  refine FnF.mk' Tryz.func26 rfl rfl Tryz.ntmps26 rfl ?_
  refine c3q fun a f e hf=>?_
  repeat first|refine gd ?_|intro _|refine aD @e1p ?_
  (apply aA rfl rfl bB)
  · exact ⟨_,_,rfl,rfl⟩
  · refine Ent.cons ?_
    (apply c8n;(focus (exact aB));all_goals exact mG)
theorem pK {F:List HP} {st:Int}:FnF Tryz.prog 165 [.int .i64 st] [] F (fun r L'=>r= .bool (decide (2≤st))∧L'=[]):=by
  refine FnF.mk' Tryz.func165 rfl rfl Tryz.ntmps165 rfl ?_
  repeat first|refine gd ?_|intro _
  exact aU
theorem a7i {F:List HP} {b a f e:Nat} {c:Cfg} {core kind line:Int} {k:CaS} (hc:aF c=true) (hli:kP line) :
    FnF Tryz.prog 156 [.pointer (some ⟨b,0,none⟩),.int .i64 kind,.int .i64 line] (b2e b a f e c core k) F (fun r L'=>r=mv (cX c core kind line .zero)∧L'=b2e b a f e c core k):=by
  refine FnF.mk' Tryz.func156 rfl rfl Tryz.ntmps156 rfl ?_
  have hL:=fun F=>pB (F:=F) (c:=c) (a:=line) (kY hc) hli
  repeat first|refine gd ?_|intro _|refine aD @hL ?_
  (apply aA rfl rfl bB)
  · exact ⟨rfl,rfl⟩
  · exact aB
theorem c6y {Q P:Prop} (k:Q) (h:Hid Q→P:=by
  intro k
  first
  |(refine aG ?_;refine q9 (id:=1) .true (pl:= .p 0 <| .p 1 <| .p 3 <| .p 4 <| .p 5 <| .p 7 <| .r 2 <| .r 6 <| .r 8 <| .p 9 <| .e true [(10,.done)]) k.out)):P:=h ⟨k⟩
theorem d4u {F:List HP} {b a f e:Nat} {c:Cfg} {core kind:Int} {m:Msg} {k:CaS} :
    FnF Tryz.prog 220 [.pointer (some ⟨b,0,none⟩),mv m,.int .i64 kind] (b2e b a f e c core k) F (fun r L'=>r=mv ⟨kind,m.line,core,m.who,0,0,0,.zero⟩∧L'=b2e b a f e c core k):=by
  refine FnF.mk' Tryz.func220 rfl rfl Tryz.ntmps220 rfl ?_
  repeat first|refine go ?_|intro _|refine c6y ?_|refine cM ?_
  (apply aA rfl rfl bB)
  · exact ⟨rfl,rfl⟩
  · exact aB
theorem c3r {F:List HP} {b a f e:Nat} {c:Cfg} {core line kind:Int} {k:CaS} (hc:aF c=true) (hli:kP line) :
    FnF Tryz.prog 161 [.pointer (some ⟨b,0,none⟩),.int .i64 line,.int .i64 kind] (b2e b a f e c core k) F (fun r L'=>r= .bool (q6 c k line kind)∧L'=b2e b a f e c core k):=by
  have hL:=fun F=>nW (F:=F) (b:=b) (a:=a) (f:=f) (e:=e) (c:=c) (core:=core) (k:=k) hc hli
  refine FnF.mk' Tryz.func161 rfl rfl Tryz.ntmps161 rfl ?_
  unfold q6
  by_cases h1:kind=1
  · rw [if_pos h1]
    repeat first|refine gd ?_|intro _|refine aD @hL ?_
    (apply aA rfl rfl bB)
    · exact ⟨rfl,rfl⟩
    · exact aB
  · rw [if_neg h1]
    by_cases h2:(aT c k.ways line).st=2
    · repeat first|refine gd ?_|intro _|refine aD @hL ?_
      (apply aA rfl rfl bB)
      · exact ⟨by simp [h2],rfl⟩
      · exact aB
    · repeat first|refine gd ?_|intro _|refine aD @hL ?_
      (apply aA rfl rfl bB)
      · exact ⟨by simp [h2],rfl⟩
      · exact aB
end
section
theorem d8v {P:Program} {N:Nat} {st:St} {ops:Array Oper} {LS L L':List HP} {pl:Plan} {env:Env} {Q:Exit→Act→World→Prop} (e:Ent L L') (h:WT st P N ops LS pl env L' Q):WT st P N ops LS pl env L Q:=fun a w ha hw=>h a w ha (e.sat hw)
theorem e4o {c:Cfg} {l:List Way} {line:Int} {i:Nat} (hI:bT c l) (hi:dD c l line=i) (hno:iQ c l line=false) :
    ∃ h:cF c line+i<l.length,z7 c l line i=0∧kM c l line i=l.set (cF c line+i) ⟨0,line,.zero,true⟩∧bZ c (kM c l line i) line=i∧aT c (kM c l line i) line=⟨0,line,.zero,true⟩:=by
  have hn:bZ c l line= -1:=by
    have:=oY c l line
    simp [iQ] at hno;omega
  obtain ⟨j,hj,e,h1,h2⟩:=cL (show 0≤aV (fun w=> !c6 w) (cN c l line) by unfold dD at hi;omega)
  have hji:j=i:=by unfold dD at hi;omega
  subst hji
  have hok:aP c line=true:=by
    cases h:aP c line with
    |true=>rfl
    |false=>rw [mZ h] at hj;simp at hj
  obtain ⟨hb,eg⟩:=l5 hok hj
  have hlw:j<c.ways.toNat:=by rw [lF hok,List.length_take] at hj;omega
  have h3:c6 ((cN c l line).getD j .zero)=false:=by rw [←kI hj];simpa using h1
  have e1:z7 c l line j=0:=by
    unfold z7
    rw [if_pos ⟨om,om⟩,if_pos hn,Int.toNat_natCast,h3];rfl
  have e2:kM c l line j=l.set (cF c line+j) ⟨0,line,.zero,true⟩:=by unfold kM;rw [if_pos e1,Int.toNat_natCast]
  have hI2:bT c (kM c l line j):=a6x hI
  have hb2:cF c line+j<(kM c l line j).length:=by rw [c9e];exact hb
  have e3:(kM c l line j)[cF c line+j]=⟨0,line,.zero,true⟩:=by simp only [e2];rw [List.getElem_set_self]
  have h4:=wI (line:=line) hI2 hb2 (by rw [e3];simp [oX,c6])
  have e4:bZ c (kM c l line j) line=j:=by rw [h4.2];omega
  exact ⟨hb,e1,e2,e4,by rw [jY e4 hb2,e3]⟩
theorem fT {α:Type} {P:α→Prop} {l:List α} {i:Nat} {x:α} (h:∀ m∈l,P m) (hx:P x):∀ m∈l.set i x,P m:=fun m hm=>by
  rcases List.mem_or_eq_of_mem_set hm with g|g
  · exact h m g
  · rw [g];exact hx
end
section
def b7n (x:Way):Prop:=0≤x.st∧x.st≤4
def a3r (c:Cfg) (n:Nat) (m:Miss):Prop:=aP c m.line=true∧e2j m∧m.got≤n
def mN (c:Cfg) (n:Nat) (k:CaS):Prop:=bT c k.ways∧(∀ x∈k.ways,b7n x)∧(∀ m∈k.mis,a3r c n m)
theorem a0j {c:Cfg} {n n':Nat} {m:Miss} (hn:n≤n') (h:a3r c n m):a3r c n' m:=⟨h.1,h.2.1,by have:=h.2.2;omega⟩
theorem a5i {c:Cfg} {n n':Nat} {k:CaS} (hn:n≤n') (h:mN c n k):mN c n' k:=⟨h.1,h.2.1,fun m hm=>a0j hn (h.2.2 m hm)⟩
theorem c6z (c:Cfg) (n:Nat) (w:Nat):mN c n ⟨List.replicate w .zero,[],[]⟩:=
  ⟨b9b c w,fun x hx=>by rw [(List.mem_replicate.1 hx).2];exact ⟨by decide,by decide⟩,fun m hm=>by cases hm⟩
theorem b0g {P:Way→Prop} {c:Cfg} {l:List Way} {line:Int} (h:∀ x∈l,P x) (hz:P .zero):P (aT c l line):=by
  by_cases g:bZ c l line<0
  · unfold aT;rw [if_pos g];exact hz
  · obtain ⟨i,hi⟩:∃ i:Nat,bZ c l line=i:=⟨(bZ c l line).toNat,om⟩
    obtain ⟨h2,_⟩:=oZ hi
    rw [jY hi h2]
    exact h _ (List.getElem_mem h2)
theorem c3s:b7n .zero:=⟨by decide,by decide⟩
theorem e4p {c:Cfg} {l:List Way} {line way:Int} (h:∀ x∈l,b7n x):∀ x∈kM c l line way,b7n x:=by
  unfold kM
  split
  · exact fT h c3s
  · exact h
theorem c3t {c:Cfg} {l:List Way} {line:Int} {lk:Bool} (h:∀ x∈l,b7n x):∀ x∈gJ c l line lk,b7n x:=by
  unfold gJ
  split
  · exact fT h (b0g (P:=b7n) h c3s)
  · exact h
theorem a8k {c:Cfg} {l:List Way} {line st:Int} {w:Words} (h:∀ x∈l,b7n x):∀ x∈e7 c l line st w,b7n x:=by
  unfold e7
  split
  · rename_i h0
    refine fT h ?_
    unfold pZ at h0
    split at h0
    · cases h0
    · split at h0
      · cases h0
      · rename_i h1 h2
        unfold b7n;dsimp only;omega
  · exact h
theorem rH {l:List Miss} {line:Int} (h:cR l line=true):bV l line∈l∧(bV l line).line=line:=by
  obtain ⟨i,hi,_,e,el⟩:=nV h
  rw [e];exact ⟨List.getElem_mem hi,el⟩
theorem d8w {c:Cfg} {n:Nat} {room line kind:Int} {l:List Miss} (hl:aP c line=true) (h:∀ m∈l,a3r c n m):∀ m∈kL room l line kind,a3r c n m:=by
  unfold kL
  split
  · rename_i h0
    intro m hm
    rcases List.mem_append.1 hm with g|g
    · exact h m g
    · simp only [List.mem_singleton] at g
      subst g
      have hk:kind=1∨kind=2:=by
        unfold tG at h0
        split at h0
        · cases h0
        · omega
      exact ⟨hl,⟨hk,by dsimp only;omega,by dsimp only;omega,fun g=>by dsimp only at g;omega⟩,by dsimp only;omega⟩
  · exact h
theorem zR {l:List Miss} {line acks own:Int} (h:iB l line acks own=0):cR l line=true∧a5y (bV l line) acks own=true:=by
  unfold iB at h
  split at h
  · rename_i h1
    split at h
    · rename_i h2;exact ⟨h1,h2⟩
    · cases h
  · cases h
theorem a5j {m:Miss} {acks own:Int} (h:a5y m acks own=true):m.needs= -1∧m.got≤acks:=by
  unfold a5y at h
  rw [Bool.and_eq_true,decide_eq_true_eq] at h
  exact h.1
theorem c3u {c:Cfg} {n:Nat} {l:List Miss} {line acks own:Int} {w:Words} (h:∀ m∈l,a3r c n m):∀ m∈iS l line acks own w,a3r c n m:=by
  unfold iS
  split
  · rename_i h0
    obtain ⟨h1,h2⟩:=zR h0
    obtain ⟨g1,g2⟩:=a5j h2
    obtain ⟨a1,a2,a3⟩:=h _ (rH h1).1
    obtain ⟨b1,b2,b3,b4⟩:=a2
    exact fT h ⟨a1,⟨b1,by dsimp only;omega,b3,fun _=>by dsimp only;omega⟩,a3⟩
  · exact h
theorem b7o {c:Cfg} {n:Nat} {l:List Miss} {line acks:Int} (h:∀ m∈l,a3r c n m):∀ m∈gZ l line acks,a3r c n m:=by
  unfold gZ
  split
  · rename_i h0
    obtain ⟨h1,h2⟩:=zR h0
    obtain ⟨g1,g2⟩:=a5j h2
    obtain ⟨a1,a2,a3⟩:=h _ (rH h1).1
    obtain ⟨b1,b2,b3,b4⟩:=a2
    exact fT h ⟨a1,⟨b1,by dsimp only;omega,b3,fun _=>by dsimp only;omega⟩,a3⟩
  · exact h
theorem c3v {l:List Miss} {line:Int} (h:vQ l line=0):cR l line=true∧(bV l line).kind≠1∧(bV l line).needs≠(bV l line).got:=by
  unfold vQ at h
  split at h
  · rename_i h1
    split at h
    · cases h
    · rename_i h2;exact ⟨h1,fun g=>h2 (.inl g),fun g=>h2 (.inr g)⟩
  · cases h
theorem d4v {c:Cfg} {n:Nat} {l:List Miss} {line:Int} (h:∀ m∈l,a3r c n m):∀ m∈nJ l line,a3r c (n+1) m:=by
  unfold nJ
  split
  · rename_i h0
    obtain ⟨h1,h2,h3⟩:=c3v h0
    obtain ⟨a1,a2,a3⟩:=h _ (rH h1).1
    obtain ⟨b1,b2,b3,b4⟩:=a2
    exact fT (fun m hm=>a0j (om) (h m hm)) ⟨a1,⟨b1,b2,by dsimp only;omega,fun g=>by have:=b4 g;dsimp only at g ⊢;omega⟩,by dsimp only;omega⟩
  · exact fun m hm=>a0j (om) (h m hm)
theorem e4q {c:Cfg} {n:Nat} {l:List Miss} {line:Int} (h:∀ m∈l,a3r c n m):∀ m∈rM l line,a3r c n m:=by
  unfold rM
  split
  · rename_i h0
    have h1:cR l line=true:=by
      unfold wV at h0;simp only [Bool.and_eq_true] at h0;exact h0.1.1
    obtain ⟨a1,a2,a3⟩:=h _ (rH h1).1
    exact fT h ⟨a1,a2,a3⟩
  · exact h
theorem d1h {c:Cfg} {n:Nat} {l:List Miss} {line:Int} (h:∀ m∈l,a3r c n m):∀ m∈iN l line,a3r c n m:=by
  unfold iN
  split
  · exact fun m hm=>h m (List.mem_of_mem_eraseIdx hm)
  · exact h
theorem a7j {c:Cfg} {n:Nat} {k:CaS} {line:Int} (h:mN c n k):mN c n (dM c k line):=by
  unfold dM
  split
  · exact ⟨vH h.1,a8k h.2.1,e4q h.2.2⟩
  · exact h
theorem d4w {c:Cfg} {k:CaS} {line kind:Int} (h:dT c k line kind=0):aP c line=true:=by
  unfold dT at h
  split at h
  · cases h
  · rename_i h1
    cases g:aP c line with
    |true=>rfl
    |false=>exact absurd (.inl g) h1
theorem d8x {c:Cfg} {n:Nat} {k:CaS} {line kind:Int} (h:mN c n k):mN c n (cO c k line kind):=by
  unfold cO
  split
  · rename_i h0
    refine ⟨?_,?_,d8w (d4w h0) h.2.2⟩
    · dsimp only;split
      · exact a9j h.1
      · exact a6x h.1
    · dsimp only;split
      · exact c3t h.2.1
      · exact e4p h.2.1
  · exact h
theorem e4r {c:Cfg} {n:Nat} {k:CaS} {s w:Int} (h:mN c n k):mN c n (gQ c k s w):=by
  unfold gQ
  split
  · exact ⟨vH h.1,a8k h.2.1,h.2.2⟩
  · exact h
theorem b7p {c:Cfg} {n:Nat} {k:CaS} {line st:Int} {g:Bool} (h:mN c n k):mN c n (dS c k line st g):=by
  unfold dS
  split
  · exact ⟨vH h.1,a8k h.2.1,h.2.2⟩
  · split
    · exact ⟨h.1,h.2.1,h.2.2⟩
    · exact h
theorem d1i {c:Cfg} {n:Nat} {core:Int} {k:CaS} {m:Msg} (h:mN c n k):mN c (n+1) (bH c core k m):=by
  have h':mN c (n+1) k:=a5i (om) h
  unfold bH
  split
  · split
    · exact b7p h'
    · split
      · exact b7p h'
      · split
        · split
          · unfold kX
            split
            · exact ⟨vH h'.1,a8k h'.2.1,h'.2.2⟩
            · exact h'
          · exact h'
        · split
          · unfold qT
            split
            · exact a7j ⟨h'.1,h'.2.1,c3u h'.2.2⟩
            · exact h'
          · split
            · unfold zQ
              split
              · exact a7j ⟨h'.1,h'.2.1,b7o h'.2.2⟩
              · exact h'
            · split
              · unfold wT
                split
                · exact a7j ⟨h'.1,h'.2.1,d4v h.2.2⟩
                · exact h'
              · exact ⟨h'.1,h'.2.1,h'.2.2⟩
  · exact h'
theorem d8y {c:Cfg} {n:Nat} {k:CaS} (h:mN c n k):mN c n (gG c k):=by
  unfold gG
  split
  · exact ⟨a9j h.1,c3t h.2.1,d1h h.2.2⟩
  · exact h
theorem e4s {c:Cfg} {n:Nat} {k:CaS} {x:Op3} (h:mN c n k):mN c n (fG c k x):=by
  unfold fG
  split
  · exact ⟨vH h.1,a8k h.2.1,h.2.2⟩
  · exact h
end
section
def vw (c:Cfg) (l:List Way) (line:Int):Option Way:=if bZ c l line<0 then none else some (aT c l line)
theorem t7 {c:Cfg} {l:List Way} {line:Int} (h:bZ c l line= -1):vw c l line=none:=by unfold vw;rw [h];rfl
theorem a5k {c:Cfg} {l:List Way} {line:Int} {i:Nat} (h:bZ c l line=i):vw c l line=some (aT c l line):=by unfold vw;rw [if_neg (om)]
theorem a0k {c:Cfg} {l:List Way} {line:Int}:bZ c l line= -1∨∃ i:Nat,bZ c l line=i:=by
  have:=oY c l line
  by_cases h:bZ c l line= -1
  · exact .inl h
  · exact .inr ⟨(bZ c l line).toNat,om⟩
theorem pT {c:Cfg} {l:List Way} {line:Int}:iQ c l line=(vw c l line).isSome:=by
  rcases a0k (c:=c) (l:=l) (line:=line) with h|⟨i,h⟩
  · rw [(a0w h).1,t7 h];rfl
  · rw [(z9 h).1,a5k h];rfl
theorem b7q {c:Cfg} {l:List Way} {line:Int}:aT c l line=(vw c l line).getD .zero:=by
  rcases a0k (c:=c) (l:=l) (line:=line) with h|⟨i,h⟩
  · rw [(a0w h).2.2,t7 h];rfl
  · rw [a5k h];rfl
theorem a5l {c:Cfg} {l:List Way} {line:Int} {w:Way} (h:vw c l line=some w):w.line=line∧c6 w=true∧w∈l∧aP c line=true∧aT c l line=w:=by
  rcases a0k (c:=c) (l:=l) (line:=line) with g|⟨i,g⟩
  · rw [t7 g] at h;cases h
  · rw [a5k g] at h
    cases h
    obtain ⟨b1,b2,b3,_⟩:=oZ g
    have e:=jY g b1
    exact ⟨a0v g,by rw [e];exact (jX.1 b3).1,by rw [e];exact List.getElem_mem b1,b2,rfl⟩
theorem d4x {c:Cfg} {l:List Way} {w:Way} (hI:bT c l) (hw:w∈l) (ht:c6 w=true):vw c l w.line=some w:=by
  obtain ⟨i,hi,rfl⟩:=List.getElem_of_mem hw
  obtain ⟨h1,h2⟩:=wI (line:=l[i].line) hI hi (by simp [oX,ht])
  rw [a5k h2,jY h2 (om)]
  congr 2;omega
theorem b2w {c:Cfg} {l:List Way} {line st:Int} {w:Words}:pZ c l line st w=if (vw c l line).isNone then 5 else if st<0∨st>4∨a4d c w=true then 1 else 0:=by
  unfold pZ
  rcases a0k (c:=c) (l:=l) (line:=line) with h|⟨i,h⟩
  · rw [t7 h,if_pos h];rfl
  · rw [a5k h,if_neg (om)];rfl
theorem c2a {c:Cfg} {l:List Way} {line st:Int} {w:Words} (hI:bT c l) (x:Int):vw c (e7 c l line st w) x =
    if x=line∧pZ c l line st w=0 then (match vw c l line with|some y=>if y.lk=true∨st≠0 then some ⟨st,line,if st=0 then .zero else w,y.lk⟩ else none|none=>none) else vw c l x:=by
  by_cases hx:x=line
  · subst hx
    by_cases he:pZ c l x st w=0
    · rw [if_pos ⟨rfl,he⟩]
      obtain ⟨h1,h2,h3⟩:=c9g hI he
      have e:=pT (c:=c) (l:=l) (line:=x)
      rw [h1] at e
      cases hv:vw c l x with
      |none=>rw [hv] at e;cases e
      |some y=>
       have hy:=(a5l hv).2.2.2.2
       rw [hy] at h2 h3
       dsimp only
       by_cases hlk:y.lk=true∨st≠0
       · rw [if_pos hlk]
         obtain ⟨g1,_,g3⟩:=h2 hlk
         have e2:=pT (c:=c) (l:=e7 c l x st w) (line:=x)
         rw [g1] at e2
         cases hv2:vw c (e7 c l x st w) x with
         |none=>rw [hv2] at e2;cases e2
         |some z=>rw [←g3,(a5l hv2).2.2.2.2]
       · rw [if_neg hlk]
         obtain ⟨g1,_,_⟩:=h3 ⟨by cases hl:y.lk with|false=>rfl|true=>exact absurd (.inl hl) hlk,Decidable.byContradiction fun g=>hlk (.inr g)⟩
         have e2:=pT (c:=c) (l:=e7 c l x st w) (line:=x)
         rw [g1] at e2
         cases hv2:vw c (e7 c l x st w) x with
         |none=>rfl
         |some z=>rw [hv2] at e2;cases e2
    · rw [if_neg (fun h=>he h.2)]
      have:e7 c l x st w=l:=if_neg he
      rw [this]
  · rw [if_neg (fun h=>hx h.1)]
    obtain ⟨h1,h2⟩:=c5j (st:=st) (w:=w) hI (Ne.symm hx)
    unfold vw;rw [h1,h2]
theorem b2x {c:Cfg} {l:List Way} {line:Int} {lk:Bool} (hI:bT c l) (x:Int):vw c (gJ c l line lk) x =
    if x=line then (match vw c l line with|some y=>if lk=true∨y.st≠0 then some ⟨y.st,line,y.words,lk⟩ else none|none=>none) else vw c l x:=by
  by_cases hx:x=line
  · subst hx
    rw [if_pos rfl]
    rcases a0k (c:=c) (l:=l) (line:=x) with h|⟨i,h⟩
    · have:gJ c l x lk=l:=by unfold gJ a4e;rw [if_pos h];rfl
      rw [this,t7 h]
    · have hl:=a0v h
      have he:a4e c l x=0:=if_neg (om)
      have e1:gJ c l x lk=l.set (cF c x+i) { aT c l x with lk:=lk}:=by unfold gJ;rw [if_pos he,h,Int.toNat_natCast]
      obtain ⟨t1,t2⟩:=a9k (w:={ aT c l x with lk:=lk}) hI h hl
      rw [e1,a5k h]
      dsimp only
      by_cases hc:lk=true∨(aT c l x).st≠0
      · rw [if_pos hc]
        have ht:c6 { aT c l x with lk:=lk}=true:=by
          unfold c6;dsimp only
          rcases hc with g|g
          · rw [g];simp
          · simp [g]
        obtain ⟨g1,g2⟩:=t1 ht
        rw [a5k g1,g2]
        simp only [hl]
      · rw [if_neg hc]
        have ht:c6 { aT c l x with lk:=lk}=false:=by
          unfold c6;dsimp only
          cases lk with
          |true=>exact absurd (.inl rfl) hc
          |false=>simp;exact Decidable.byContradiction fun g=>hc (.inr g)
        exact t7 (t2 ht)
  · rw [if_neg hx]
    obtain ⟨h1,h2⟩:=b9c (lk:=lk) hI (Ne.symm hx)
    unfold vw;rw [h1,h2]
theorem d4y {c:Cfg} {l:List Way} {line:Int} (hI:bT c l) (hf:¬dD c l line<0) (hno:vw c l line=none) (x:Int):vw c (kM c l line (dD c l line)) x=if x=line then some ⟨0,line,.zero,true⟩ else vw c l x:=by
  by_cases hx:x=line
  · subst hx
    rw [if_pos rfl]
    obtain ⟨i,hi⟩:∃ i:Nat,dD c l x=i:=⟨(dD c l x).toNat,om⟩
    obtain ⟨_,_,_,h4,h5⟩:=e4o hI hi (by rw [pT,hno];rfl)
    rw [hi,a5k h4,h5]
  · rw [if_neg hx]
    obtain ⟨h1,h2⟩:=c5i (way:=dD c l line) hI (Ne.symm hx)
    unfold vw;rw [h1,h2]
end
section
def mA (k:CaS):List Int:=k.mis.map (·.line)
def b4f (k:CaS):List Int:=k.buf.map (·.line)
structure CaI2 (c:Cfg) (ways:List Way) (M B:List Int):Prop where
  wd:∀ x w,vw c ways x=some w→a4d c w.words=false∧(w.st=0→w.words= .zero)
  ml:∀ x∈M,∃ w,vw c ways x=some w∧w.lk=true
  lm:∀ x w,vw c ways x=some w→w.lk=true→x∈M
  bn:∀ x∈B,vw c ways x=none
  nd:M.Nodup
  bd:B.Nodup
theorem vO (c:Cfg):a4d c .zero=false:=by
  unfold a4d
  rw [fX]
  · decide
  · intro j hj _
    have:(Words.zero.list.drop c.words.toNat)[j]=0:=by
      have hm:(Words.zero.list.drop c.words.toNat)[j]∈Words.zero.list:=List.mem_of_mem_drop (List.getElem_mem hj)
      have hz:∀ y∈Words.zero.list,y=0:=by decide
      exact hz _ hm
    rw [this];rfl
theorem c3w {c:Cfg} {l:List Way} {line st:Int} {w:Words} (h:pZ c l line st w=0):(∃ y,vw c l line=some y)∧0≤st∧st≤4∧a4d c w=false:=by
  rw [b2w] at h
  cases hv:vw c l line with
  |none=>rw [hv] at h;cases h
  |some y=>
   rw [hv] at h
   simp only [Option.isNone_some,Bool.false_eq_true,if_false] at h
   split at h
   · cases h
   · rename_i h1
     refine ⟨⟨y,rfl⟩,om,om,?_⟩
     cases g:a4d c w with
     |false=>rfl
     |true=>exact absurd (.inr (.inr g)) h1
theorem a8l {c:Cfg} {ways:List Way} {M B:List Int} {line st:Int} {w:Words} (hI:bT c ways) (h:CaI2 c ways M B):CaI2 c (e7 c ways line st w) M B:=by
  have hv:=c2a (line:=line) (st:=st) (w:=w) hI
  by_cases he:pZ c ways line st w=0
  · obtain ⟨⟨y,hy⟩,h0,h4,ho⟩:=c3w he
    have hl:vw c (e7 c ways line st w) line=if y.lk=true∨st≠0 then some ⟨st,line,if st=0 then .zero else w,y.lk⟩ else none:=by rw [hv,if_pos ⟨rfl,he⟩,hy]
    have hx:∀ x,x≠line→vw c (e7 c ways line st w) x=vw c ways x:=fun x g=>by rw [hv,if_neg (fun g2=>g g2.1)]
    refine ⟨fun x z hz=>?_,fun x hm=>?_,fun x z hz hk=>?_,fun x hb=>?_,h.nd,h.bd⟩
    · by_cases g:x=line
      · subst g
        rw [hl] at hz
        split at hz
        · cases hz
          dsimp only
          refine ⟨?_,fun g0=>by rw [if_pos g0]⟩
          split
          · exact vO c
          · exact ho
        · cases hz
      · rw [hx x g] at hz;exact h.wd x z hz
    · by_cases g:x=line
      · subst g
        obtain ⟨z,hz,hk⟩:=h.ml x hm
        rw [hy] at hz;cases hz
        exact ⟨⟨st,x,if st=0 then .zero else w,y.lk⟩,by rw [hl,if_pos (.inl hk)],hk⟩
      · rw [hx x g];exact h.ml x hm
    · by_cases g:x=line
      · subst g
        rw [hl] at hz
        split at hz
        · cases hz;exact h.lm x y hy hk
        · cases hz
      · rw [hx x g] at hz;exact h.lm x z hz hk
    · by_cases g:x=line
      · subst g
        have:=h.bn x hb
        rw [hy] at this;cases this
      · rw [hx x g];exact h.bn x hb
  · have:e7 c ways line st w=ways:=if_neg he
    rw [this];exact h
theorem v8 {l:List Miss} {line:Int}:cR l line=true↔line∈l.map (·.line):=by
  constructor
  · intro h
    obtain ⟨h1,h2⟩:=rH h
    exact List.mem_map.2 ⟨_,h1,h2⟩
  · intro h
    obtain ⟨m,hm,e⟩:=List.mem_map.1 h
    cases g:cR l line with
    |true=>rfl
    |false=>
     have:=(dY (of_decide_eq_false g)).2 m hm
     simp [e] at this
theorem b7r {l:List WbE} {line:Int}:lO l line=true↔line∈l.map (·.line):=by
  constructor
  · intro h
    obtain ⟨i,hi,_,_,e⟩:=a3j h
    exact List.mem_map.2 ⟨_,List.getElem_mem hi,e⟩
  · intro h
    obtain ⟨m,hm,e⟩:=List.mem_map.1 h
    cases g:lO l line with
    |true=>rfl
    |false=>
     have:=(dY (of_decide_eq_false g)).2 m hm
     simp [e] at this
theorem a5m {l:List Miss} {line:Int} {x:Miss} (h:cR l line=true) (hx:x.line=(bV l line).line):(l.set (qS l line).toNat x).map (·.line)=l.map (·.line):=by
  obtain ⟨i,hi,e0,ea,el⟩:=nV h
  rw [e0,Int.toNat_natCast,List.map_set,hx,ea]
  have:(l.map (·.line)).set i l[i].line=l.map (·.line):=by
    have e:l[i].line=(l.map (·.line))[i]'(by simpa using hi):=by simp
    rw [e,List.set_getElem_self]
  exact this
theorem c3x {l:List Miss} {line acks own:Int} {w:Words}:(iS l line acks own w).map (·.line)=l.map (·.line):=by
  unfold iS
  split
  · rename_i h;exact a5m (zR h).1 rfl
  · rfl
theorem b7s {l:List Miss} {line acks:Int}:(gZ l line acks).map (·.line)=l.map (·.line):=by
  unfold gZ
  split
  · rename_i h;exact a5m (zR h).1 rfl
  · rfl
theorem d4z {l:List Miss} {line:Int}:(nJ l line).map (·.line)=l.map (·.line):=by
  unfold nJ
  split
  · rename_i h;exact a5m (c3v h).1 rfl
  · rfl
theorem e4t {l:List Miss} {line:Int} (h:wV l line=true):cR l line=true:=by
  unfold wV at h;simp only [Bool.and_eq_true] at h;exact h.1.1
theorem e4u {l:List Miss} {line:Int}:(rM l line).map (·.line)=l.map (·.line):=by
  unfold rM
  split
  · rename_i h;exact a5m (e4t h) rfl
  · rfl
abbrev c2b (c:Cfg) (k:CaS):Prop:=CaI2 c k.ways (mA k) (b4f k)
theorem c2c {c:Cfg} {k:CaS} {line:Int} (hI:bT c k.ways) (h:c2b c k):c2b c (dM c k line):=by
  unfold dM
  split
  · unfold c2b mA b4f
    rw [e4u]
    exact a8l hI h
  · exact h
theorem e8c {c:Cfg} {k:CaS} {line kind:Int} (hI:bT c k.ways) (h:c2b c k):c2b c (cO c k line kind):=by
  unfold cO
  split
  · rename_i h0
    unfold dT at h0
    split at h0
    · cases h0
    · rename_i hb
      split at h0
      · cases h0
      · rename_i h6
        split at h0
        · cases h0
        · rename_i h4
          split at h0
          · cases h0
          · rename_i h5
            have hm:cR k.mis line=false:=by cases g:cR k.mis line with|false=>rfl|true=>exact absurd (.inl g) h6
            have hw:lO k.buf line=false:=by cases g:lO k.buf line with|false=>rfl|true=>exact absurd (.inr (.inl g)) h6
            have hM:line∉mA k:=fun g=>by rw [v8.2 g] at hm;cases hm
            have hB:line∉b4f k:=fun g=>by rw [b7r.2 g] at hw;cases hw
            have hkd:¬(kind≠1∧kind≠2):=fun g=>hb (.inr g)
            have hop:kL c.mshrs k.mis line kind=k.mis++[⟨line,kind,-1,0,0,.zero,false,false⟩]:=by
              have:tG c.mshrs k.mis line kind=0:=by
                unfold tG
                rw [if_neg hkd,hm,if_neg Bool.false_ne_true,if_neg h4]
              unfold kL;rw [if_pos this]
            have eM:mA ⟨if iQ c k.ways line then gJ c k.ways line true else kM c k.ways line (dD c k.ways line),kL c.mshrs k.mis line kind,k.buf⟩=mA k++[line]:=by
              unfold mA;dsimp only;rw [hop,List.map_append];rfl
            obtain ⟨y,hy,hyk,hyo⟩:∃ y:Way,(∀ x,vw c (if iQ c k.ways line then gJ c k.ways line true else kM c k.ways line (dD c k.ways line)) x=if x=line then some y else vw c k.ways x)∧y.lk=true∧(a4d c y.words=false∧(y.st=0→y.words= .zero)):=by
              cases hf:vw c k.ways line with
              |none=>
               have hfb:iQ c k.ways line=false:=by rw [pT,hf];rfl
               rw [hfb,if_neg Bool.false_ne_true]
               exact ⟨⟨0,line,.zero,true⟩,d4y hI (fun g=>h5 ⟨hfb,g⟩) hf,rfl,vO c,fun _=>rfl⟩
              |some z=>
               have hfb:iQ c k.ways line=true:=by rw [pT,hf];rfl
               rw [hfb,if_pos rfl]
               exact ⟨⟨z.st,line,z.words,true⟩,fun x=>by rw [b2x hI,hf];simp,rfl,h.wd line z hf⟩
            unfold c2b
            rw [eM]
            refine ⟨fun x w hx=>?_,fun x hx=>?_,fun x w hx hk=>?_,fun x hx=>?_,?_,h.bd⟩
            · dsimp only at hx
              rw [hy] at hx
              split at hx
              · cases hx;exact hyo
              · exact h.wd x w hx
            · dsimp only
              rw [hy]
              split
              · exact ⟨y,rfl,hyk⟩
              · rename_i g
                rcases List.mem_append.1 hx with g2|g2
                · exact h.ml x g2
                · exact absurd (by simpa using g2) g
            · dsimp only at hx
              rw [hy] at hx
              split at hx
              · rename_i g;exact List.mem_append.2 (.inr (by simp [g]))
              · exact List.mem_append.2 (.inl (h.lm x w hx hk))
            · dsimp only
              have hne:x≠line:=fun g=>by subst g;exact hB hx
              rw [hy,if_neg hne]
              exact h.bn x hx
            · rw [List.nodup_append]
              exact ⟨h.nd,by simp,fun a ha b hb2=>by simp at hb2;subst hb2;exact fun g=>hM (g▸ha)⟩
  · exact h
theorem a0l {c:Cfg} {l:List Way} {s k:Int} (h:(uP c l s k).st≠0):uP c l s k∈l:=by
  unfold uP at h ⊢
  by_cases h1:vX c s k=true
  · rw [if_pos h1] at h ⊢
    by_cases h2:s.toNat*c.ways.toNat+k.toNat<l.length
    · rw [←kI h2];exact List.getElem_mem h2
    · rw [List.getD_eq_getElem?_getD,List.getElem?_eq_none (om)] at h
      exact absurd rfl h
  · rw [if_neg h1] at h
    exact absurd rfl h
theorem f0d {c:Cfg} {k:CaS} {s w:Int} (hI:bT c k.ways) (h:c2b c k):c2b c (gQ c k s w):=by
  unfold gQ
  split
  · rename_i h0
    unfold oG at h0
    split at h0
    · cases h0
    · rename_i h1
      split at h0
      · cases h0
      · rename_i h2
        split at h0
        · cases h0
        · rename_i h3
          have hst:(uP c k.ways s w).st≠0:=fun g=>h1 (.inr g)
          have hmem:=a0l hst
          have hlk:(uP c k.ways s w).lk=false:=by cases g:(uP c k.ways s w).lk with|false=>rfl|true=>exact absurd g h2
          generalize uP c k.ways s w=x at *
          have hvx:=d4x hI hmem (by simp [c6,hst])
          have hset:pZ c k.ways x.line 0 .zero=0:=by rw [b2w,hvx];simp [vO]
          have h':=a8l (line:=x.line) (st:=0) (w:= .zero) hI h
          have hgone:vw c (e7 c k.ways x.line 0 .zero) x.line=none:=by rw [c2a hI,if_pos ⟨rfl,hset⟩,hvx];simp [hlk]
          refine ⟨h'.wd,h'.ml,h'.lm,fun z hz=>?_,h'.nd,?_⟩
          · unfold b4f at hz
            dsimp only at hz ⊢
            split at hz
            · unfold mV at hz
              split at hz
              · exact h'.bn z hz
              · split at hz
                · exact h'.bn z hz
                · rw [List.map_append] at hz
                  rcases List.mem_append.1 hz with g|g
                  · exact h'.bn z g
                  · simp at g;subst g;exact hgone
            · exact h'.bn z hz
          · unfold b4f
            dsimp only
            split
            · unfold mV
              split
              · exact h.bd
              · split
                · exact h.bd
                · rename_i g1 g2
                  rw [List.map_append,List.nodup_append]
                  exact ⟨h.bd,by simp,fun a ha b hb2=>by simp at hb2;subst hb2;exact fun g=>g1 (b7r.2 (g▸ha))⟩
            · exact h.bd
  · exact h
theorem d8z {l:List WbE} {line:Int}:(jL l line).map (·.line)=l.map (·.line):=by
  unfold jL
  split
  · rename_i h
    simp only [Bool.and_eq_true] at h
    obtain ⟨i,hi,e0,ea,el⟩:=a3j h.1
    rw [e0,Int.toNat_natCast,List.map_set,ea]
    have e:l[i].line=(l.map (·.line))[i]'(by simpa using hi):=by simp
    dsimp only
    rw [e,List.set_getElem_self]
  · rfl
theorem d5a {c:Cfg} {k:CaS} {line st:Int} {g:Bool} (hI:bT c k.ways) (h:c2b c k):c2b c (dS c k line st g):=by
  unfold dS
  split
  · exact a8l hI h
  · split
    · unfold c2b b4f;dsimp only;rw [d8z];exact h
    · exact h
theorem b0h {α:Type} {l m:List α} (h:l.Sublist m) (hn:m.Nodup):l.Nodup:=List.Nodup.sublist h hn
theorem e4v {c:Cfg} {k:CaS} {line:Int} (h:c2b c k):c2b c (a9e k line):=by
  have hs:((n3 k.buf line).map (·.line)).Sublist (k.buf.map (·.line)):=by
    unfold n3
    split
    · exact (List.eraseIdx_sublist _ _).map _
    · exact List.Sublist.refl _
  exact ⟨h.wd,h.ml,h.lm,fun x hx=>h.bn x (hs.mem hx),h.nd,b0h hs h.bd⟩
theorem e4w {c:Cfg} {core:Int} {k:CaS} {m:Msg} (hI:bT c k.ways) (h:c2b c k):c2b c (bH c core k m):=by
  have ms:∀ mis':List Miss,mis'.map (·.line)=k.mis.map (·.line)→c2b c ⟨k.ways,mis',k.buf⟩:=fun mis' e=>by
    unfold c2b mA;dsimp only;rw [e];exact h
  unfold bH
  split
  · split
    · exact d5a hI h
    · split
      · exact d5a hI h
      · split
        · split
          · unfold kX
            split
            · exact a8l hI h
            · exact h
          · exact h
        · split
          · unfold qT
            split
            · exact c2c hI (ms _ c3x)
            · exact h
          · split
            · unfold zQ
              split
              · exact c2c hI (ms _ b7s)
              · exact h
            · split
              · unfold wT
                split
                · exact c2c hI (ms _ d4z)
                · exact h
              · exact e4v h
  · exact h
theorem b7t {l:List Int} (hn:l.Nodup) {i j:Nat} (hi:i<l.length) (hj:j<l.length) (e:l[i]=l[j]):i=j:=by
  rw [List.nodup_iff_pairwise_ne,List.pairwise_iff_getElem] at hn
  rcases Nat.lt_trichotomy i j with g|g|g
  · exact absurd e (hn i j hi hj g)
  · exact g
  · exact absurd e.symm (hn j i hj hi g)
theorem a2c {l:List Int} (hn:l.Nodup) {i:Nat} (hi:i<l.length) (x:Int):x∈l.eraseIdx i↔x∈l∧x≠l[i]:=by
  constructor
  · intro h
    obtain ⟨j,hj,hne,e⟩:=List.mem_eraseIdx_iff_getElem.1 h
    exact ⟨e▸List.getElem_mem hj,fun g=>hne (b7t hn hj hi (by rw [e,g]))⟩
  · rintro ⟨h,hne⟩
    obtain ⟨j,hj,e⟩:=List.getElem_of_mem h
    exact List.mem_eraseIdx_iff_getElem.2 ⟨j,hj,fun g=>hne (by subst g;exact e.symm),e⟩
theorem d5b {α β:Type} {f:α→β} {l:List α} {i:Nat}:(l.eraseIdx i).map f=(l.map f).eraseIdx i:=by
  simp [List.eraseIdx_eq_take_drop_succ,List.map_take,List.map_drop]
theorem b0i {k:CaS} (hn:(mA k).Nodup) (h:kH k=true):r8 k.mis (bU k)=0∧∃ i,∃ hi:i<k.mis.length,qS k.mis (bU k)=i∧bU k=k.mis[i].line∧k.mis[i].owes=true:=by
  have h':0≤kG k.mis:=of_decide_eq_true h
  obtain ⟨i,hi,e0,ho,_⟩:=cL h'
  have e0':kG k.mis=i:=e0
  have el:bU k=k.mis[i].line:=by unfold bU;rw [if_pos h',e0',Int.toNat_natCast,←kI hi]
  have hin:cR k.mis (bU k)=true:=v8.2 (List.mem_map.2 ⟨_,List.getElem_mem hi,el.symm⟩)
  obtain ⟨j,hj,e1,ea,ej⟩:=nV hin
  have hij:j=i:=b7t hn (by simpa [mA] using hj) (by simpa [mA] using hi) (by simp [mA,ej,el])
  subst hij
  refine ⟨?_,j,hi,e1,el,ho⟩
  unfold r8
  rw [if_pos hin,ea,ho];rfl
theorem e8d {c:Cfg} {k:CaS} (hI:bT c k.ways) (h:c2b c k):c2b c (gG c k):=by
  unfold gG
  split
  · rename_i h0
    obtain ⟨he,i,hi,ep,el,_⟩:=b0i h.nd h0
    have hcl:iN k.mis (bU k)=k.mis.eraseIdx i:=by unfold iN;rw [if_pos he,ep,Int.toNat_natCast]
    have eM:mA ⟨gJ c k.ways (bU k) false,iN k.mis (bU k),k.buf⟩=(mA k).eraseIdx i:=by
      unfold mA;dsimp only;rw [hcl,d5b]
    have hi':i<(mA k).length:=by simpa [mA] using hi
    have ei:(mA k)[i]=bU k:=by rw [el];simp [mA]
    have hmem:=a2c h.nd hi'
    rw [ei] at hmem
    obtain ⟨y,hy,hyk⟩:=h.ml (bU k) (by rw [←ei];exact List.getElem_mem hi')
    have hv:=b2x (line:=bU k) (lk:=false) hI
    rw [hy] at hv
    unfold c2b
    rw [eM]
    refine ⟨fun x w hx=>?_,fun x hx=>?_,fun x w hx hk=>?_,fun x hx=>?_,b0h (List.eraseIdx_sublist _ _) h.nd,h.bd⟩
    · dsimp only at hx
      rw [hv] at hx
      split at hx
      · dsimp only at hx
        split at hx
        · cases hx;exact h.wd _ y hy
        · cases hx
      · exact h.wd x w hx
    · obtain ⟨g1,g2⟩:=(hmem x).1 hx
      dsimp only
      rw [hv,if_neg g2]
      exact h.ml x g1
    · dsimp only at hx
      rw [hv] at hx
      split at hx
      · dsimp only at hx
        split at hx
        · cases hx;cases hk
        · cases hx
      · rename_i g
        exact (hmem x).2 ⟨h.lm x w hx hk,g⟩
    · dsimp only
      rw [hv]
      have hb:=h.bn x hx
      split
      · rename_i g
        rw [g,hy] at hb;cases hb
      · exact hb
  · exact h
theorem f0e {c:Cfg} {k:CaS} {x:Op3} (hI:bT c k.ways) (h:c2b c k):c2b c (fG c k x):=by
  unfold fG
  split
  · exact a8l hI h
  · exact h
theorem e8e (c:Cfg) (n:Nat):c2b c ⟨List.replicate n .zero,[],[]⟩:=by
  have hv:∀ x,vw c (List.replicate n .zero) x=none:=fun x=>t7 (b2h fun k hk=>by
    rw [List.getElem_replicate];rfl)
  exact ⟨fun x w h=>(by dsimp only at h;rw [hv] at h;cases h),fun x h=>(by cases h),fun x w h=>(by dsimp only at h;rw [hv] at h;cases h),fun x h=>(by cases h),List.nodup_nil,List.nodup_nil⟩
end
section
def d9a (c:Cfg) (k:CaS):Prop:=(∀ w∈k.ways,bJ c w.words)∧(∀ m∈k.mis,bJ c m.words)∧(∀ e∈k.buf,bJ c e.words)
section
variable {c:Cfg} {k:CaS}
theorem dP (c:Cfg):bJ c .zero:=fun i hi=>by
  have:Words.zero.at i=0:=by
    rcases i with _|_|_|_|_|_|_|_|i
    all_goals first|rfl|omega
  unfold tY
  rw [this]
  omega
theorem zD {l:List Way} {line:Int} (h:∀ w∈l,bJ c w.words):bJ c (aT c l line).words:=b0g (P:=fun w=>bJ c w.words) h (dP c)
theorem c0k {l:List Way} {line st:Int} {u:Words} (h:∀ w∈l,bJ c w.words) (hw:bJ c u):∀ w∈e7 c l line st u,bJ c w.words:=by
  unfold e7
  split
  · refine fT (P:=fun w:Way=>bJ c w.words) h ?_
    dsimp only
    split
    · exact dP c
    · exact hw
  · exact h
theorem d5c {l:List Way} {line:Int} {lk:Bool} (h:∀ w∈l,bJ c w.words):∀ w∈gJ c l line lk,bJ c w.words:=by
  unfold gJ
  split
  · exact fT (P:=fun w:Way=>bJ c w.words) h (zD h)
  · exact h
theorem e8f {l:List Way} {line way:Int} (h:∀ w∈l,bJ c w.words):∀ w∈kM c l line way,bJ c w.words:=by
  unfold kM
  split
  · exact fT (P:=fun w:Way=>bJ c w.words) h (dP c)
  · exact h
theorem a5n {l:List Miss} {line:Int} (h:∀ m∈l,bJ c m.words):bJ c (bV l line).words:=by
  unfold bV
  rw [List.getD_eq_getElem?_getD]
  cases e:l[(qS l line).toNat]? with
  |none=>exact dP c
  |some x=>exact h x (List.mem_of_getElem? e)
theorem d5d {l:List WbE} {line:Int} (h:∀ m∈l,bJ c m.words):bJ c (tP l line).words:=by
  unfold tP
  rw [List.getD_eq_getElem?_getD]
  cases e:l[(fY l line).toNat]? with
  |none=>exact dP c
  |some x=>exact h x (List.mem_of_getElem? e)
theorem c3y {l:List Miss} {line acks own:Int} {u:Words} (h:∀ m∈l,bJ c m.words) (hm:bJ c u):∀ m∈iS l line acks own u,bJ c m.words:=by
  unfold iS
  split
  · exact fT (P:=fun m:Miss=>bJ c m.words) h hm
  · exact h
theorem b7u {l:List Miss} {line acks:Int} (h:∀ m∈l,bJ c m.words):∀ m∈gZ l line acks,bJ c m.words:=by
  unfold gZ
  split
  · exact fT (P:=fun m:Miss=>bJ c m.words) h (dP c)
  · exact h
theorem d5e {l:List Miss} {line:Int} (h:∀ m∈l,bJ c m.words):∀ m∈nJ l line,bJ c m.words:=by
  unfold nJ
  split
  · exact fT (P:=fun m:Miss=>bJ c m.words) h (a5n (c:=c) h)
  · exact h
theorem e4x {l:List Miss} {line:Int} (h:∀ m∈l,bJ c m.words):∀ m∈rM l line,bJ c m.words:=by
  unfold rM
  split
  · exact fT (P:=fun m:Miss=>bJ c m.words) h (a5n (c:=c) h)
  · exact h
theorem c2d (h:d9a c k) (line:Int):d9a c (dM c k line):=by
  unfold dM
  split
  · rename_i h0
    refine ⟨c0k h.1 ?_,e4x h.2.1,h.2.2⟩
    split
    · exact zD h.1
    · unfold uV;rw [if_pos h0];exact a5n h.2.1
  · exact h
theorem e8g (h:d9a c k) (line kind:Int):d9a c (cO c k line kind):=by
  unfold cO
  split
  · refine ⟨?_,?_,h.2.2⟩
    · dsimp only;split
      · exact d5c h.1
      · exact e8f h.1
    · show ∀ m∈kL c.mshrs k.mis line kind,_
      unfold kL
      split
      · intro m hm
        rcases List.mem_append.1 hm with g|g
        · exact h.2.1 m g
        · obtain rfl:=List.mem_singleton.1 g
          exact dP c
      · exact h.2.1
  · exact h
theorem e2s (h:∀ w∈k.ways,bJ c w.words) (s w:Int):bJ c (uP c k.ways s w).words:=by
  by_cases h0:(uP c k.ways s w).st=0
  · unfold uP at h0 ⊢
    split
    · rw [List.getD_eq_getElem?_getD]
      cases e:k.ways[s.toNat*c.ways.toNat+w.toNat]? with
      |none=>exact dP c
      |some x=>exact h x (List.mem_of_getElem? e)
    · exact dP c
  · exact h _ (a0l h0)
theorem f0f (h:d9a c k) (s w:Int):d9a c (gQ c k s w):=by
  unfold gQ
  split
  · refine ⟨c0k h.1 (dP c),h.2.1,?_⟩
    dsimp only
    split
    · unfold mV
      split
      · exact h.2.2
      · split
        · exact h.2.2
        · intro m hm
          rcases List.mem_append.1 hm with g|g
          · exact h.2.2 m g
          · obtain rfl:=List.mem_singleton.1 g
            exact e2s h.1 s w
    · exact h.2.2
  · exact h
theorem d5f (h:d9a c k) (line st:Int) (g:Bool):d9a c (dS c k line st g):=by
  unfold dS
  split
  · exact ⟨c0k h.1 (zD h.1),h.2.1,h.2.2⟩
  · split
    · refine ⟨h.1,h.2.1,?_⟩
      show ∀ e∈jL k.buf line,_
      unfold jL
      split
      · exact fT (P:=fun e:WbE=>bJ c e.words) h.2.2 (d5d (c:=c) h.2.2)
      · exact h.2.2
    · exact h
theorem b7v {m:Msg} (h:d6 c m):bJ c m.words:=by
  have h5:=h.2.2.2.2
  unfold iD at h5
  split at h5
  · exact h5
  · rw [h5];exact dP c
theorem e4y {core:Int} {m:Msg} (h:d9a c k):d9a c (bH c core k m):=by
  unfold bH
  split
  · rename_i hok
    have hm:bJ c m.words:=by
      unfold l9 at hok
      simp only [Bool.and_eq_true,decide_eq_true_eq] at hok
      exact b7v hok.1.1
    split
    · exact d5f h _ _ _
    · split
      · exact d5f h _ _ _
      · split
        · split
          · unfold kX
            split
            · exact ⟨c0k h.1 (dP c),h.2.1,h.2.2⟩
            · exact h
          · exact h
        · split
          · unfold qT
            split
            · exact c2d (k:=⟨k.ways,iS k.mis m.line m.acks m.own m.words,k.buf⟩) ⟨h.1,c3y h.2.1 hm,h.2.2⟩ _
            · exact h
          · split
            · unfold zQ
              split
              · exact c2d (k:=⟨k.ways,gZ k.mis m.line m.acks,k.buf⟩) ⟨h.1,b7u h.2.1,h.2.2⟩ _
              · exact h
            · split
              · unfold wT
                split
                · exact c2d (k:=⟨k.ways,nJ k.mis m.line,k.buf⟩) ⟨h.1,d5e h.2.1,h.2.2⟩ _
                · exact h
              · refine ⟨h.1,h.2.1,?_⟩
                show ∀ e∈n3 k.buf m.line,_
                unfold n3
                split
                · exact fun e he=>h.2.2 e (List.mem_of_mem_eraseIdx he)
                · exact h.2.2
  · exact h
theorem e8h (h:d9a c k):d9a c (gG c k):=by
  unfold gG
  split
  · refine ⟨d5c h.1,?_,h.2.2⟩
    show ∀ m∈iN k.mis (bU k),_
    unfold iN
    split
    · exact fun m hm=>h.2.1 m (List.mem_of_mem_eraseIdx hm)
    · exact h.2.1
  · exact h
theorem e9n {w:Words} {x:Op3} (h:bJ c w):bJ c (c9a c w x):=by
  unfold c9a
  split
  · rename_i hok
    unfold a0q at hok
    simp only [Bool.and_eq_true] at hok
    obtain ⟨⟨h1,h2⟩,h3⟩:=hok
    obtain ⟨hck,g0,g1⟩:=a7g h1
    have hcb:=iE hck
    have hw:0≤p7 c x.addr∧p7 c x.addr<c.words:=by
      unfold p7;rw [if_pos h1]
      exact ⟨Int.emod_nonneg _ (om),Int.emod_lt_of_pos _ (om)⟩
    unfold jT
    split
    · rename_i hk
      have hv: -2147483648≤x.value∧x.value≤2147483647:=by
        unfold uE at h2
        rw [if_neg (om),if_neg (om),if_pos hk] at h2
        simp only [Bool.and_eq_true,decide_eq_true_eq] at h2
        exact ⟨h2.1.2,h2.2⟩
      obtain ⟨i,hi⟩:∃ i:Nat,(p7 c x.addr).toNat=i:=⟨_,rfl⟩
      rw [hi]
      intro j hj
      have hat:(Words.of (w.list.set i x.value)).at j=if i=j then x.value else w.at j:=by
        have hlen:(w.list.set i x.value).length=8:=by rw [List.length_set];rfl
        unfold Words.at
        rw [Words.list_of hlen,List.getD_eq_getElem?_getD,List.getElem?_set]
        have hj':j<w.list.length:=hj
        split
        · rename_i e;subst e;rw [if_pos hj'];rfl
        · rw [←List.getD_eq_getElem?_getD]
      unfold tY
      rw [hat]
      split
      · exact ⟨hv.1,hv.2,fun g=>by omega⟩
      · exact h j hj
    · rw [Words.of_list];exact h
  · exact dP c
theorem f0g (h:d9a c k) (x:Op3):d9a c (fG c k x):=by
  unfold fG
  split
  · exact ⟨c0k h.1 (e9n (zD h.1)),h.2.1,h.2.2⟩
  · exact h
theorem e8i (c:Cfg) (n:Nat):d9a c ⟨List.replicate n .zero,[],[]⟩:=by
  refine ⟨fun w hw=>?_,?_,?_⟩
  · obtain ⟨_,rfl⟩:=List.mem_replicate.1 hw;exact dP c
  · intro m hm;cases hm
  · intro m hm;cases hm
end
def mO (c:Cfg) (n:Nat) (k:CaS):Prop:=mN c n k∧c2b c k∧d9a c k
section
variable {c:Cfg} {n:Nat} {k:CaS}
theorem d9b {n':Nat} (hn:n≤n') (h:mO c n k):mO c n' k:=⟨a5i hn h.1,h.2⟩
theorem d5g {line kind:Int} (h:mO c n k):mO c n (cO c k line kind):=⟨d8x h.1,e8c h.1.1 h.2.1,e8g h.2.2 _ _⟩
theorem e2t {s w:Int} (h:mO c n k):mO c n (gQ c k s w):=⟨e4r h.1,f0d h.1.1 h.2.1,f0f h.2.2 _ _⟩
theorem d9c {core:Int} {m:Msg} (h:mO c n k):mO c (n+1) (bH c core k m):=⟨d1i h.1,e4w h.1.1 h.2.1,e4y h.2.2⟩
theorem e4z (h:mO c n k):mO c n (gG c k):=⟨d8y h.1,e8d h.1.1 h.2.1,e8h h.2.2⟩
theorem e8j {x:Op3} (h:mO c n k):mO c n (fG c k x):=⟨e4s h.1,f0e h.1.1 h.2.1,f0g h.2.2 _⟩
theorem d5h (c:Cfg) (n m:Nat):mO c n ⟨List.replicate m .zero,[],[]⟩:=⟨c6z c n m,e8e c m,e8i c m⟩
end
end
end Go.Sx
