/- Ma, Ca4, Ca5: several of my texts as one. My own work. -/
import Derived.Test.YtjihlpjnebdiiabGreatZap
import Derived.Test.YtjihlpjnebdiiabGreatZaq
set_option linter.unusedVariables false
set_option linter.unusedSectionVars false
set_option linter.unusedSimpArgs false
set_option maxRecDepth 100000
set_option maxHeartbeats 4000000
namespace Go.Sx
open Go Go.Proofs Tryz
section
structure l7 where
  l:List c5
  rs:List Int
  tr:List (Int×Bool)
structure Aq where
  ap:Int
  pos:Int
  op:c5
  pR:Int
structure cg where
  ks:List l7
  cs:List cT
  hs:List di
  n:fK
  tr:List Aq
  aR:Int
abbrev bQ:l7:=⟨[],[],[]⟩
abbrev aL:cT:=⟨[],[],[]⟩
abbrev dl:di:=⟨[],[],[],0⟩
def cI (s:cg) (i:Int):l7:=s.ks.getD i.toNat bQ
def gF (s:cg) (i:Int):cT:=s.cs.getD i.toNat aL
def sx (s:cg) (i:Int):di:=s.hs.getD i.toNat dl
def F5 (s:cg) (i:Int) (k:l7):cg:=⟨s.ks.set i.toNat k,s.cs,s.hs,s.n,s.tr,s.aR⟩
def re (s:cg) (i:Int) (k:cT):cg:=⟨s.ks,s.cs.set i.toNat k,s.hs,s.n,s.tr,s.aR⟩
def wy (s:cg) (i:Int) (k:di):cg:=⟨s.ks,s.cs,s.hs.set i.toNat k,s.n,s.tr,s.aR⟩
def vH (s:cg) (n:fK):cg:=⟨s.ks,s.cs,s.hs,n,s.tr,s.aR⟩
def Cn (s:cg) (b:Bool):cg:=⟨s.ks,s.cs,s.hs,s.n,s.tr,if b then s.aR+1 else s.aR⟩
def kZ (k:l7):Bool:=kY k.l k.rs
def gw (k:l7):c5:=kC k.l k.rs
def u6 (k:l7) (n:Int):l7:=⟨k.l,k.rs++[n],vD k.tr k.rs.length⟩
def o4 (k:l7) (d:Int):l7:=⟨k.l,k.rs,iS k.tr ((k.rs.length:Int)+d) true⟩
def kl (k:l7):Int:=(k.l.length:Int)-k.rs.length
def Co (s:cg) (i:Int) (x:c5) (n:Int):cg:=⟨s.ks.set i.toNat (u6 (cI s i) n),s.cs,s.hs,s.n,s.tr++[⟨i,(cI s i).rs.length,x,n⟩],s.aR⟩
def so (c:au) (s:cg) (m:bA):cg:=vH s (fG c s.n m)
def pz (c:au) (s:cg) (m:bA):Bool:=decide (lq c s.n m=0)
def bT (c:au) (x:c5):Int:=dS c x.addr
def nP (c:au) (s:cg) (i:Int) (x:c5):Bool:=decide (kf c (gF s i) x=0)
def q5 (c:au) (s:cg) (i:Int) (x:c5):cg:=if nP c s i x then Co (re s i (ff c (gF s i) x)) i x (nJ c (gF s i) x) else s
def V8 (c:au) (s:cg) (i:Int):cg:=so c (re s i (gU c (gF s i))) (iW c i (gF s i))
def RX (c:au) (s:cg) (i:Int) (x:c5):cg:=so c (re s i (cH c (gF s i) (bT c x) (bJ x))) (dm c i (gF s i) (bT c x) (bJ x))
def pA (c:au) (s:cg) (i:Int) (x:c5):Int:=dd c (gF s i) (bT c x) (bJ x)
def gu (c:au) (x:c5):Int:=nI c (bT c x)
def AE (c:au) (s:cg) (i:Int) (x:c5) (w:Int):cg:=
  if iI c (gF s i) (gu c x) w then so c (re s i (gr c (gF s i) (gu c x) w)) (jT c i (gF s i) (gu c x) w) else re s i (gr c (gF s i) (gu c x) w)
def cN (c:au) (s:cg) (i w:Int):Bool:=
  if 0<c8 c s.n 2∧gT (gF s i)=true then pz c s (iW c i (gF s i))
  else if kZ (cI s i)=false then false
  else if (gw (cI s i)).ah=4 then decide ((gF s i).aP.length=0)
  else if nP c s i (gw (cI s i)) then true
  else if c8 c s.n 0=0 then false
  else if pA c s i (gw (cI s i))=0 then pz c s (dm c i (gF s i) (bT c (gw (cI s i))) (bJ (gw (cI s i))))
  else if pA c s i (gw (cI s i))=5 then decide (jH c (gF s i) (gu c (gw (cI s i))) (w.tmod c.al)=0)&& (!iI c (gF s i) (gu c (gw (cI s i))) (w.tmod c.al)|| pz c s (jT c i (gF s i) (gu c (gw (cI s i))) (w.tmod c.al)))
  else false
def cm (c:au) (s:cg) (i w:Int):cg:=
  if 0<c8 c s.n 2∧gT (gF s i)=true then V8 c s i
  else if kZ (cI s i)=false then s
  else if (gw (cI s i)).ah=4 then (if (gF s i).aP.length=0 then Co s i (gw (cI s i)) 0 else s)
  else if nP c s i (gw (cI s i)) then q5 c s i (gw (cI s i))
  else if c8 c s.n 0=0 then s
  else if pA c s i (gw (cI s i))=0 then RX c s i (gw (cI s i))
  else if pA c s i (gw (cI s i))=5 then AE c s i (gw (cI s i)) (w.tmod c.al)
  else s
def q6 (c:au) (s:cg) (m:bA):cg:=
  if cJ c m.dst (gF s m.dst) m then so c (Cn (re s m.dst (cw c m.dst (gF s m.dst) m)) (decide (c4 c m.dst (gF s m.dst) m≠0))) (dg c m.dst (gF s m.dst) m)
  else Cn (re s m.dst (cw c m.dst (gF s m.dst) m)) (decide (c4 c m.dst (gF s m.dst) m≠0))
def jX (c:au) (s:cg) (m:bA):cg:=
  if kZ (cI s m.dst)=true∧(gw (cI s m.dst)).ah≠4∧bT c (gw (cI s m.dst))=m.aa then q5 c s m.dst (gw (cI s m.dst)) else s
def Hq (c:au) (s:cg) (m:bA):cg:=Cn (wy s m.dst (iB c m.dst (sx s m.dst) m)) (decide (fZ c m.dst (sx s m.dst) m≠0))
def dY (c:au) (s:cg) (k i:Int):Bool:=
  if gv s.n k i=false∨(k=1∧c8 c s.n 2=0) then false
  else if k=0 then decide (jv c (bE s.n 0 i).dst (sx s (bE s.n 0 i).dst) (bE s.n 0 i)=0)
  else true
def dA (c:au) (s:cg) (k i:Int):cg:=
  if gv s.n k i=false∨(k=1∧c8 c s.n 2=0) then s
  else if k=0 then (if jv c (bE s.n 0 i).dst (sx s (bE s.n 0 i).dst) (bE s.n 0 i)=0 then vH (wy s (bE s.n 0 i).dst (iK c (bE s.n 0 i).dst (sx s (bE s.n 0 i).dst) (bE s.n 0 i))) (cU s.n 0 i) else s)
  else if k=1 then q6 c (vH s (cU s.n 1 i)) (bE s.n 1 i)
  else if (bE s.n k i).ah=11 then Hq c (vH s (cU s.n k i)) (bE s.n k i)
  else jX c (q6 c (vH s (cU s.n k i)) (bE s.n k i)) (bE s.n k i)
def zK (c:au) (s:cg):L3:=(c8 c s.n 0,c8 c s.n 1,c8 c s.n 2)
def wP (c:au) (s:cg) (i j:Int):Bool:=jG (sx s i) j (zK c s)
def jC (c:au) (s:cg) (i j:Int):cg:=
  if dG (sx s i) j (zK c s) then so c (wy s i (cQ c (sx s i) j (zK c s))) (ec (sx s i) j (zK c s)) else wy s i (cQ c (sx s i) j (zK c s))
def p9 (k:l7) (d:Int):Bool:=fF k.l k.rs k.tr d
def rn (k:l7) (d:Int):c5:=jW k.l k.rs k.tr d
def gl (c:au) (s:cg) (i d:Int):Bool:=
  if p9 (cI s i) d=false∨c8 c s.n 0=0 then false
  else if pA c s i (rn (cI s i) d)=0 then pz c s (dm c i (gF s i) (bT c (rn (cI s i) d)) (bJ (rn (cI s i) d)))
  else false
def fq (c:au) (s:cg) (i d:Int):cg:=
  if p9 (cI s i) d=false∨c8 c s.n 0=0 then s
  else if pA c s i (rn (cI s i) d)=0 then RX c (F5 s i (o4 (cI s i) d)) i (rn (cI s i) d)
  else s
structure Pk where
  ah:Int
  a:Int
  b:Int
def qK (n:Int) (k:Nat):Bool:=decide (0≤n∧n<k)
def dH (c:au) (s:cg) (p:Pk):Bool:=
  if p.a<0∨p.b<0 then false
  else if p.ah=1 then dY c s p.a p.b
  else if p.ah=2∧qK p.a s.hs.length=true then wP c s p.a p.b
  else if p.ah=0∧qK p.a s.ks.length=true then cN c s p.a p.b
  else if p.ah=3∧qK p.a s.ks.length=true then gl c s p.a (1+p.b.tmod 4)
  else false
def dN (c:au) (s:cg) (p:Pk):cg:=
  if p.a<0∨p.b<0 then s
  else if p.ah=1 then dA c s p.a p.b
  else if p.ah=2∧qK p.a s.hs.length=true then jC c s p.a p.b
  else if p.ah=0∧qK p.a s.ks.length=true then cm c s p.a p.b
  else if p.ah=3∧qK p.a s.ks.length=true then fq c s p.a (1+p.b.tmod 4)
  else s
abbrev mi (c:au):cT:=⟨List.replicate (c.cl*c.al).toNat .zero,[],[]⟩
def cx (c:au) (ps:List (List c5)):cg:=⟨ps.map fun l=>⟨l,[],[]⟩,ps.map fun _=>mi c,(List.range c.bY.toNat).map fun (i:Nat)=>lT c (i:Int),.no,[],0⟩
def sM (c:au) (ps:List (List c5)):Bool:=aB c&& decide ((ps.length:Int)=c.ax)&& ps.all (fl c)
def DL (s:cg):Int:=s.hs.foldl (fun n h=>n+h.aR) s.aR
def iC (s:cg):Bool:=decide (jZ s.n=[])&& s.ks.all (fun k=>decide (kl k=0))&& s.cs.all (fun a=>decide (a.aP=[]∧a.bD=[]))&& s.hs.all fun h=>decide (h.q.length=0)
end
section
abbrev anc (m:bA) (b:Bool):List Value:=[.int .i64 m.ah,.int .i64 m.aa,.int .i64 m.src,.int .i64 m.dst,.int .i64 m.mu,.int .i64 m.aH,.int .i64 m.bI,.int .i64 m.ag.w0,.int .i64 m.ag.w1,.int .i64 m.ag.w2,.int .i64 m.ag.w3,.int .i64 m.ag.w4,.int .i64 m.ag.w5,.int .i64 m.ag.w6,.int .i64 m.ag.w7,.bool b]
abbrev L9 (m:bA) (b:Bool):Value:= .agg (anc m b).toArray
theorem Oi {c:au} {m:bA} (h:bU c m):bG c m.aa=true:=by
  obtain ⟨h1,_,h2,_⟩:=h;simp [bG,h1,h2]
attribute [local irreducible] Exit.then Exit.inBlock Code.wp WC WO WE WQ V aW dL Sat bz bK dU IntKind.wrap WR Code.rounds WT KO
theorem wz {Q P:Prop} (k:Q) (h:Hid Q→P:=by
  intro k
  first
  |(refine an ?_;refine bF (id:=4) .true (pl:= .p 0 <| .p 1 <| .p 2 <| .p 4 <| .p 6 <| .r 3 <| .r 5 <| .r 7 <| .e true [(8,.done)]) k.out)
  |(refine an ?_;apply nC (id:=10) .true [] (pl:= .p 0 <| .p 1 <| .p 4 <| .e true [(2,.e true [(3,.e true [(5,.p 6 <| .e false [(7,.p 8 <| .e false [(9,.p 10 <| .e false [(11,.done)])])])]),(5,.p 6 <| .e false [(3,.e false [(7,.p 8 <| .e false [(9,.p 10 <| .e false [(11,.done)])])]),(7,.p 8 <| .e false [(3,.e false [(9,.p 10 <| .e false [(11,.done)])]),(9,.e false [(3,.p 10 <| .e false [(11,.done)])])])])]),(3,.e true [(2,.e true [(5,.p 6 <| .e false [(7,.p 8 <| .e false [(9,.p 10 <| .e false [(11,.done)])])])]),(5,.p 6 <| .e false [(2,.e false [(7,.p 8 <| .e false [(9,.p 10 <| .e false [(11,.done)])])]),(7,.e false [(2,.p 8 <| .e false [(9,.p 10 <| .e false [(11,.done)])])])])]),(5,.p 6 <| .e false [(2,.e false [(3,.e false [(7,.p 8 <| .e false [(9,.p 10 <| .e false [(11,.done)])])]),(7,.p 8 <| .e false [(3,.e false [(9,.p 10 <| .e false [(11,.done)])]),(9,.e false [(3,.p 10 <| .e false [(11,.done)])])])]),(3,.e false [(2,.e false [(7,.p 8 <| .e false [(9,.p 10 <| .e false [(11,.done)])])]),(7,.e false [(2,.p 8 <| .e false [(9,.p 10 <| .e false [(11,.done)])])])]),(7,.e false [(2,.p 8 <| .e false [(3,.e false [(9,.p 10 <| .e false [(11,.done)])]),(9,.e false [(3,.p 10 <| .e false [(11,.done)])])]),(3,.e false [(2,.p 8 <| .e false [(9,.p 10 <| .e false [(11,.done)])])])])])]);exact mixed;kernel_rfl;kernel_rfl;exact ai.nil;exact k.out)):P:=h ⟨k⟩
theorem FJ {F:List HP} {b a f e:Nat} {c:au} {ap bI st:Int} {m:bA} {k:cT} {fk:FuncId} {vG:Bool} (hc:aB c=true) (iD:dZ m.aa)
    (H:∀ F,az prog fk [.pointer (some ⟨e,0,none⟩),.int .i64 m.aa] [Wb e c.aw k.bD] F (fun r L'=>r= .tuple [wv (jB k.bD m.aa),.int .i64 (fY k.bD m.aa)].toArray∧L'=[Wb e c.aw (if vG then iA k.bD m.aa else k.bD)])) :
    az prog 331 [.pointer (some ⟨b,0,none⟩),mv m,.int .i64 bI,.int .i64 st,.func (.func fk) [.pointer (some ⟨e,0,none⟩)].toArray [].toArray] (pU b a f e c ap k) F
      (fun r L'=>r= .tuple [L9 (fp c ap k m bI) (decide (fe c k m.aa=0)),.int .i64 (fe c k m.aa)].toArray∧L'=pU b a f e c ap (eo c k m.aa st vG)):=by
  have fS:=fun F=>pZ (F:=F) (b:=b) (a:=a) (f:=f) (e:=e) (ap:=ap) (k:=k) hc iD;have j9:=fun F=>uy (F:=F) (b:=a) (c:=c) (l:=k.al) (aa:=m.aa) (st:=st) (w:=(bg c k.al m.aa).ag) (gA hc) iD;have UF:=fun F k'=>MM (F:=F) (b:=b) (a:=a) (f:=f) (e:=e) (c:=c) (ap:=ap) (k:=k') (ah:=7) (m:=m);by_cases h2:2≤(bg c k.al m.aa).st
  ·have e1:fe c k m.aa=0:=if_pos h2;have e2:fp c ap k m bI=⟨7,m.aa,ap,m.mu,1,m.aH,bI,(bg c k.al m.aa).ag⟩:=by unfold fp sI;rw [if_pos e1,if_pos h2]
   have e3:eo c k m.aa st vG=⟨db c k.al m.aa st (bg c k.al m.aa).ag,k.aP,k.bD⟩:=if_pos h2;rw [e1,e2,e3,decide_eq_true rfl];have F6:=fun F=>UF F ⟨db c k.al m.aa st (bg c k.al m.aa).ag,k.aP,k.bD⟩;refine ay func331 ntmps331 ?_;repeat' (first|refine go ?_|intro _|refine wz ?_|refine av ?_|refine ae @fS ?_|refine ae @o9 ?_|refine ae @j9 ?_|refine ae @F6 ?_|refine bj ?_ ?_|fail)
   all_goals exact aM
  ·by_cases h3:fY k.bD m.aa=0
   ·have e1:fe c k m.aa=0:=by unfold fe;rw [if_neg h2,if_pos h3]
    have e2:fp c ap k m bI=⟨7,m.aa,ap,m.mu,1,m.aH,bI,jB k.bD m.aa⟩:=by unfold fp sI;rw [if_pos e1,if_neg h2]
    have e3:eo c k m.aa st vG=⟨k.al,k.aP,if vG then iA k.bD m.aa else k.bD⟩:=by unfold eo;rw [if_neg h2];cases vG<;>rfl
    rw [e1,e2,e3,decide_eq_true rfl];simp only [h3] at H;have F6:=fun F=>UF F ⟨k.al,k.aP,if vG then iA k.bD m.aa else k.bD⟩;refine ay func331 ntmps331 ?_;repeat' (first|refine go ?_|intro _|refine wz ?_|refine av ?_|refine ae @fS ?_|refine ae @o9 ?_|refine ae @H ?_|refine ae @F6 ?_|refine bj ?_ ?_|fail)
    all_goals exact aM
   ·have e1:fe c k m.aa=7:=by unfold fe;rw [if_neg h2,if_neg h3]
    have e2:fp c ap k m bI= .zero:=by unfold fp;rw [e1];rfl
    have e4:iA k.bD m.aa=k.bD:=by
      unfold iA;unfold fY at h3;cases g1:iP k.bD m.aa with
      |false=>rfl
      |true=>
       cases g2:(rb k.bD m.aa).live with
       |false=>rfl
       |true=>rw [g1,if_pos rfl,g2,if_pos rfl] at h3;exact absurd rfl h3
    have e3:eo c k m.aa st vG=k:=by unfold eo;rw [if_neg h2,e4];cases vG<;>rfl
    rw [e4] at H;have e5:(if vG=true then k.bD else k.bD)=k.bD:=by split<;>rfl
    rw [e5] at H;rw [e1,e2,e3,decide_eq_false (by decide)];refine ay func331 ntmps331 ?_;repeat' (first|refine go ?_|intro _|refine wz ?_|refine av ?_|refine ae @fS ?_|refine ae @o9 ?_|refine ae @H ?_|refine bj ?_ ?_|fail)
    all_goals exact aM
theorem IB {Q P:Prop} (k:Q) (h:Hid Q→P:=by
  intro k
  first
  |(refine an ?_;refine bF (id:=1) .true (pl:= .p 0 <| .p 2 <| .p 3 <| .p 4 <| .r 1 <| .r 5 <| .p 6 <| .e true [(7,.p 8 <| .p 9 <| .e false [(10,.p 11 <| .done)])]) k.out)):P:=h ⟨k⟩
theorem Oj {F:List HP} {b a f e:Nat} {c:au} {ap:Int} {m:bA} {k:cT} (hc:aB c=true) (iD:dZ m.aa) :
    az prog 288 [.pointer (some ⟨b,0,none⟩),mv m] (pU b a f e c ap k) F
      (fun r L'=>r= .tuple [L9 (fp c ap k m 1) (decide (fe c k m.aa=0)),.int .i64 (fe c k m.aa)].toArray∧L'=pU b a f e c ap (eo c k m.aa 3 false)):=by
  have hT:=fun F=>FJ (F:=F) (b:=b) (a:=a) (f:=f) (e:=e) (ap:=ap) (bI:=1) (st:=3) (m:=m) (k:=k) (vG:=false) hc iD (fun F=>NL);refine ay func288 ntmps288 ?_;repeat first|refine go ?_|intro _|refine IB ?_|refine av ?_|refine ae @hT ?_
  exact aM
theorem IC {Q P:Prop} (k:Q) (h:Hid Q→P:=by
  intro k
  first
  |(refine an ?_;refine bF (id:=1) .true (pl:= .p 0 <| .p 2 <| .p 3 <| .p 4 <| .r 1 <| .r 5 <| .p 6 <| .e true [(7,.p 8 <| .p 9 <| .e false [(10,.p 11 <| .done)])]) k.out)):P:=h ⟨k⟩
theorem Ok {F:List HP} {b a f e:Nat} {c:au} {ap:Int} {m:bA} {k:cT} (hc:aB c=true) (iD:dZ m.aa) :
    az prog 289 [.pointer (some ⟨b,0,none⟩),mv m] (pU b a f e c ap k) F
      (fun r L'=>r= .tuple [L9 (fp c ap k m 4) (decide (fe c k m.aa=0)),.int .i64 (fe c k m.aa)].toArray∧L'=pU b a f e c ap (eo c k m.aa 0 true)):=by
  have hT:=fun F=>FJ (F:=F) (b:=b) (a:=a) (f:=f) (e:=e) (ap:=ap) (bI:=4) (st:=0) (m:=m) (k:=k) (vG:=true) hc iD (fun F=>Qo);refine ay func289 ntmps289 ?_;repeat first|refine go ?_|intro _|refine IC ?_|refine av ?_|refine ae @hT ?_
  exact aM
theorem wA {Q P:Prop} (k:Q) (h:Hid Q→P:=by
  intro k
  first
  |(refine an ?_;refine bF (id:=5) .true (pl:= .p 0 <| .p 1 <| .p 2 <| .p 4 <| .p 6 <| .r 3 <| .r 5 <| .e true [(7,.done)]) k.out)):P:=h ⟨k⟩
theorem Q3 {F:List HP} {b a f e:Nat} {c:au} {ap:Int} {m:bA} {k:cT} (hc:aB c=true) (iD:dZ m.aa) :
    az prog 290 [.pointer (some ⟨b,0,none⟩),mv m] (pU b a f e c ap k) F
      (fun r L'=>r= .tuple [L9 (tN c ap k m) (decide (q4 c k m.aa=0)),.int .i64 (q4 c k m.aa)].toArray∧L'=pU b a f e c ap (if q4 c k m.aa=0 then sm c k m.aa else k)):=by
  have fS:=fun F=>pZ (F:=F) (b:=b) (a:=a) (f:=f) (e:=e) (ap:=ap) (k:=k) hc iD;have j9:=fun F=>uy (F:=F) (b:=a) (c:=c) (l:=k.al) (aa:=m.aa) (st:=0) (w:= .zero) (gA hc) iD;have UF:=fun F k'=>MM (F:=F) (b:=b) (a:=a) (f:=f) (e:=e) (c:=c) (ap:=ap) (k:=k') (ah:=9) (m:=m);by_cases h2:2≤(bg c k.al m.aa).st
  ·have e1:q4 c k m.aa=7:=if_pos h2;have e2:tN c ap k m= .zero:=by unfold tN;rw [e1];rfl
   rw [e1,e2,decide_eq_false (by decide),if_neg (by decide)];refine ay func290 ntmps290 ?_;repeat' (first|refine go ?_|intro _|refine wA ?_|refine av ?_|refine ae @fS ?_|refine ae @o9 ?_|refine bj ?_ ?_|fail)
   all_goals exact aM
  ·have e1:q4 c k m.aa=0:=if_neg h2;have e2:tN c ap k m=⟨9,m.aa,ap,m.mu,0,0,0,.zero⟩:=if_pos e1;rw [e1,e2,decide_eq_true rfl,if_pos rfl];by_cases h1:(bg c k.al m.aa).st=1
   ·have e3:sm c k m.aa=⟨db c k.al m.aa 0 .zero,k.aP,k.bD⟩:=if_pos h1;rw [e3];have F6:=fun F=>UF F ⟨db c k.al m.aa 0 .zero,k.aP,k.bD⟩;refine ay func290 ntmps290 ?_;repeat' (first|refine go ?_|intro _|refine wA ?_|refine av ?_|refine ae @fS ?_|refine ae @o9 ?_|refine ae @j9 ?_|refine ae @F6 ?_|refine bj ?_ ?_|fail)
    all_goals exact aM
   ·have e3:sm c k m.aa=k:=if_neg h1;rw [e3];have F6:=fun F=>UF F k;refine ay func290 ntmps290 ?_;repeat' (first|refine go ?_|intro _|refine wA ?_|refine av ?_|refine ae @fS ?_|refine ae @o9 ?_|refine ae @F6 ?_|refine bj ?_ ?_|fail)
    all_goals exact aM
theorem s5 {Q P:Prop} (k:Q) (h:Hid Q→P:=by
  intro k
  first
  |(refine an ?_;refine bF (id:=10) .true (pl:= .p 0 <| .p 1 <| .p 2 <| .p 4 <| .p 5 <| .r 3 <| .r 6 <| .r 7 <| .e true [(8,.done)]) k.out)):P:=h ⟨k⟩
theorem wB {F:List HP} {b a f e:Nat} {c:au} {ap aa er:Int} {k:cT} (hc:aB c=true) (iD:dZ aa) :
    az prog 335 [.pointer (some ⟨b,0,none⟩),.int .i64 aa,.int .i64 er] (pU b a f e c ap k) F
      (fun r L'=>r= .tuple [L9 .zero false,.int .i64 (qz er)].toArray∧L'=pU b a f e c ap (if er=0 then dn c k aa else k)):=by
  have fS:=fun F k'=>pZ (F:=F) (b:=b) (a:=a) (f:=f) (e:=e) (ap:=ap) (k:=k') hc iD;have oG:=fun F=>Qm (F:=F) (b:=f) (ak:=c.aS) (l:=k.aP) (aa:=aa);by_cases h0:er=0
  ·have e1:qz er=0:=if_pos h0;rw [e1,if_pos h0];cases h1:l9 k.aP aa with
   |false=>
    have e2:dn c k aa=k:=by unfold dn;rw [h1];rfl
    have e3:iz k.aP aa=k.aP:=by unfold iz;rw [h1];rfl
    rw [e2];simp only [h1,e3] at oG;refine ay func335 ntmps335 ?_;repeat' (first|refine go ?_|intro _|refine s5 ?_|refine av ?_|refine ae @oG ?_|refine bj ?_ ?_|fail)
    all_goals exact aM
   |true=>
    simp only [h1] at oG;cases h2:(fR k.aP aa).granted with
    |false=>
     have e2:dn c k aa=⟨db c k.al aa (fR k.aP aa).bI (fR k.aP aa).ag,iz k.aP aa,k.bD⟩:=by unfold dn;rw [h1,if_pos rfl,h2];rfl
     rw [e2];have j9:=fun F=>uy (F:=F) (b:=a) (c:=c) (l:=k.al) (aa:=aa) (st:=(fR k.aP aa).bI) (w:=(fR k.aP aa).ag) (gA hc) iD;refine ay func335 ntmps335 ?_;repeat' (first|refine go ?_|intro _|refine s5 ?_|refine av ?_|refine ae @oG ?_|refine ae @j9 ?_|refine bj ?_ ?_|fail)
     all_goals exact aM
    |true=>
     have e2:dn c k aa=⟨db c k.al aa (fR k.aP aa).bI (bg c k.al aa).ag,iz k.aP aa,k.bD⟩:=by unfold dn;rw [h1,if_pos rfl,h2];rfl
     rw [e2];have j9:=fun F=>uy (F:=F) (b:=a) (c:=c) (l:=k.al) (aa:=aa) (st:=(fR k.aP aa).bI) (w:=(bg c k.al aa).ag) (gA hc) iD;have Tv:=fun F=>fS F ⟨k.al,iz k.aP aa,k.bD⟩;refine ay func335 ntmps335 ?_;repeat' (first|refine go ?_|intro _|refine s5 ?_|refine av ?_|refine ae @oG ?_|refine ae @Tv ?_|refine ae @j9 ?_|refine bj ?_ ?_|fail)
     all_goals exact aM
  ·have e1:qz er=7:=if_neg h0;rw [e1,if_neg h0];refine ay func335 ntmps335 ?_;repeat' (first|refine go ?_|intro _|refine s5 ?_|refine av ?_|refine bj ?_ ?_|fail)
   all_goals exact aM
theorem GN {Q P:Prop} (k:Q) (h:Hid Q→P:=by
  intro k
  first
  |(refine an ?_;refine bF (id:=1) .true (pl:= .p 0 <| .p 1 <| .p 3 <| .p 4 <| .p 5 <| .p 7 <| .p 9 <| .p 11 <| .p 13 <| .r 6 <| .r 8 <| .r 10 <| .r 12 <| .r 14 <| .e true [(2,.e true [(15,.e false [(16,.p 17 <| .p 18 <| .e false [(19,.p 20 <| .done)])])]),(15,.e false [(2,.e false [(16,.p 17 <| .p 18 <| .e false [(19,.p 20 <| .done)])])])]) k.out)):P:=h ⟨k⟩
theorem Ol {F:List HP} {b a f e:Nat} {c:au} {ap:Int} {m:bA} {k:cT} (hc:aB c=true) (iD:dZ m.aa) :
    az prog 291 [.pointer (some ⟨b,0,none⟩),mv m] (pU b a f e c ap k) F
      (fun r L'=>r= .tuple [L9 .zero false,.int .i64 (qz (fm k.aP m.aa m.aH m.bI))].toArray∧L'=pU b a f e c ap (o8 c k m)):=by
  have hD:=fun F=>Fv (F:=F) (b:=f) (ak:=c.aS) (l:=k.aP) (aa:=m.aa) (aH:=m.aH) (bI:=m.bI) (w:=m.ag);have hF:=fun F=>wB (F:=F) (b:=b) (a:=a) (f:=f) (e:=e) (ap:=ap) (er:=fm k.aP m.aa m.aH m.bI) (k:=⟨k.al,dw k.aP m.aa m.aH m.bI m.ag,k.bD⟩) hc iD;have e1:o8 c k m=if fm k.aP m.aa m.aH m.bI=0 then dn c ⟨k.al,dw k.aP m.aa m.aH m.bI m.ag,k.bD⟩ m.aa else ⟨k.al,dw k.aP m.aa m.aH m.bI m.ag,k.bD⟩:=by
    unfold o8;by_cases h:fm k.aP m.aa m.aH m.bI=0
    ·rw [if_pos h,if_pos h]
    ·have:dw k.aP m.aa m.aH m.bI m.ag=k.aP:=if_neg h;rw [if_neg h,if_neg h,this]
  rw [e1];refine ay func291 ntmps291 ?_;repeat' (first|refine go ?_|intro _|refine GN ?_|refine av ?_|refine ae @hD ?_|refine ae @hF ?_|refine bj ?_ ?_|fail)
  all_goals exact aM
theorem zA {Q P:Prop} (k:Q) (h:Hid Q→P:=by
  intro k
  first
  |(refine an ?_;refine bF (id:=4) .true (pl:= .p 0 <| .p 1 <| .p 3 <| .p 4 <| .p 5 <| .p 7 <| .p 9 <| .r 6 <| .r 8 <| .r 10 <| .e true [(2,.e true [(11,.e false [(12,.p 13 <| .p 14 <| .e false [(15,.p 16 <| .done)])])]),(11,.e false [(2,.e false [(12,.p 13 <| .p 14 <| .e false [(15,.p 16 <| .done)])])])]) k.out)):P:=h ⟨k⟩
theorem Lk {F:List HP} {b a f e:Nat} {c:au} {ap:Int} {m:bA} {k:cT} (hc:aB c=true) (iD:dZ m.aa) :
    az prog 292 [.pointer (some ⟨b,0,none⟩),mv m] (pU b a f e c ap k) F
      (fun r L'=>r= .tuple [L9 .zero false,.int .i64 (u5 c k m)].toArray∧L'=pU b a f e c ap (p8 c k m)):=by
  have fS:=fun F=>pZ (F:=F) (b:=b) (a:=a) (f:=f) (e:=e) (ap:=ap) (k:=k) hc iD;have hD:=fun F=>KN (F:=F) (b:=f) (ak:=c.aS) (l:=k.aP) (aa:=m.aa) (aH:=m.aH);have hF:=fun F=>wB (F:=F) (b:=b) (a:=a) (f:=f) (e:=e) (ap:=ap) (er:=fm k.aP m.aa m.aH 4) (k:=⟨k.al,dy k.aP m.aa m.aH,k.bD⟩) hc iD;by_cases h3:(bg c k.al m.aa).st=3
  ·have e0:u5 c k m=qz (fm k.aP m.aa m.aH 4):=if_pos h3;have e1:p8 c k m=if fm k.aP m.aa m.aH 4=0 then dn c ⟨k.al,dy k.aP m.aa m.aH,k.bD⟩ m.aa else ⟨k.al,dy k.aP m.aa m.aH,k.bD⟩:=by
     unfold p8;rw [e0];by_cases h:fm k.aP m.aa m.aH 4=0
     ·rw [if_pos h,h];rfl
     ·have:dy k.aP m.aa m.aH=k.aP:=if_neg h;rw [if_neg h,this,if_neg (by unfold qz;rw [if_neg h];decide)]
   rw [e0,e1];refine ay func292 ntmps292 ?_;repeat' (first|refine go ?_|intro _|refine zA ?_|refine av ?_|refine ae @fS ?_|refine ae @hD ?_|refine ae @hF ?_|refine bj ?_ ?_|fail)
   all_goals exact aM
  ·have e0:u5 c k m=7:=if_neg h3;have e1:p8 c k m=k:=by unfold p8;rw [e0];rfl
   rw [e0,e1];refine ay func292 ntmps292 ?_;repeat' (first|refine go ?_|intro _|refine zA ?_|refine av ?_|refine ae @fS ?_|refine bj ?_ ?_|fail)
   all_goals exact aM
theorem GO {Q P:Prop} (k:Q) (h:Hid Q→P:=by
  intro k
  first
  |(refine an ?_;refine bF (id:=1) .true (pl:= .p 0 <| .p 1 <| .p 3 <| .p 4 <| .p 5 <| .p 7 <| .r 6 <| .r 8 <| .e true [(2,.e true [(9,.e false [(10,.p 11 <| .p 12 <| .e false [(13,.p 14 <| .done)])])]),(9,.e false [(2,.e false [(10,.p 11 <| .p 12 <| .e false [(13,.p 14 <| .done)])])])]) k.out)):P:=h ⟨k⟩
theorem Q4 {F:List HP} {b a f e:Nat} {c:au} {ap:Int} {m:bA} {k:cT} (hc:aB c=true) (iD:dZ m.aa) (hg:∀ m∈k.aP,-9223372036854775808≤m.gY∧m.gY≤9223372036854775806) :
    az prog 293 [.pointer (some ⟨b,0,none⟩),mv m] (pU b a f e c ap k) F
      (fun r L'=>r= .tuple [L9 .zero false,.int .i64 (qz (lB k.aP m.aa))].toArray∧L'=pU b a f e c ap (sn c k m)):=by
  have hD:=fun F=>Ql (F:=F) (b:=f) (ak:=c.aS) (l:=k.aP) (aa:=m.aa) hg;have hF:=fun F=>wB (F:=F) (b:=b) (a:=a) (f:=f) (e:=e) (ap:=ap) (er:=lB k.aP m.aa) (k:=⟨k.al,fW k.aP m.aa,k.bD⟩) hc iD;have e1:sn c k m=if lB k.aP m.aa=0 then dn c ⟨k.al,fW k.aP m.aa,k.bD⟩ m.aa else ⟨k.al,fW k.aP m.aa,k.bD⟩:=by
    unfold sn;by_cases h:lB k.aP m.aa=0
    ·rw [if_pos h,if_pos h]
    ·have:fW k.aP m.aa=k.aP:=if_neg h;rw [if_neg h,if_neg h,this]
  rw [e1];refine ay func293 ntmps293 ?_;repeat' (first|refine go ?_|intro _|refine GO ?_|refine av ?_|refine ae @hD ?_|refine ae @hF ?_|refine bj ?_ ?_|fail)
  all_goals exact aM
theorem BE {Q P:Prop} (k:Q) (h:Hid Q→P:=by
  intro k
  first
  |(refine an ?_;refine bF (id:=1) .true (pl:= .p 0 <| .p 1 <| .p 2 <| .p 4 <| .r 3 <| .r 5 <| .e true [(6,.p 7 <| .done)]) k.out)):P:=h ⟨k⟩
theorem ID {F:List HP} {b a f e:Nat} {c:au} {ap:Int} {m:bA} {k:cT} (hc:aB c=true) :
    az prog 287 [.pointer (some ⟨b,0,none⟩),mv m] (pU b a f e c ap k) F
      (fun r L'=>r= .tuple [L9 .zero false,.int .i64 (qz (kK k.bD m.aa))].toArray∧L'=pU b a f e c ap (EU k m.aa)):=by
  have hD:=fun F=>Qp (F:=F) (b:=e) (ak:=c.aw) (l:=k.bD) (aa:=m.aa);unfold EU;by_cases h:kK k.bD m.aa=0
  ·have e0:qz (kK k.bD m.aa)=0:=if_pos h;rw [e0];simp only [h] at hD;refine ay func287 ntmps287 ?_;repeat' (first|refine go ?_|intro _|refine BE ?_|refine av ?_|refine ae @hD ?_|refine bj ?_ ?_|fail)
   all_goals exact aM
  ·have e0:qz (kK k.bD m.aa)=7:=if_neg h;rw [e0];refine ay func287 ntmps287 ?_;repeat' (first|refine go ?_|intro _|refine BE ?_|refine av ?_|refine ae @hD ?_|refine bj ?_ ?_|fail)
   all_goals exact aM
end
section
attribute [local irreducible] Exit.then Exit.inBlock Code.wp WC WO WE WQ V aW dL Sat bz bK dU IntKind.wrap WR Code.rounds WT KO
theorem jw {Q P:Prop} (k:Q) (h:Hid Q→P:=by
  intro k
  first
  |(refine an ?_;refine bF (id:=18) .true (pl:= .p 0 <| .p 2 <| .p 4 <| .r 1 <| .e true [(3,.e true [(5,.p 6 <| .p 7 <| .done)]),(5,.e false [(3,.p 6 <| .p 7 <| .done)])]) k.out)):P:=h ⟨k⟩
theorem Om {F:List HP} {b a f e:Nat} {c:au} {ap:Int} {m:bA} {k:cT} (hc:aB c=true) (hg:∀ m∈k.aP,-9223372036854775808≤m.gY∧m.gY≤9223372036854775806) :
    az prog 226 [.pointer (some ⟨b,0,none⟩),mv m] (pU b a f e c ap k) F
      (fun r L'=>r= .tuple [mv (dg c ap k m),.bool (cJ c ap k m),.int .i64 (c4 c ap k m)].toArray∧L'=pU b a f e c ap (cw c ap k m)):=by
  have fB:=fun F=>D4 (F:=F) (m:=m) (gA hc);by_cases h:dI c ap m=true
  ·have h':=h;simp only [dI,Bool.and_eq_true,decide_eq_true_eq,Bool.not_eq_true',decide_eq_false_iff_not] at h';obtain ⟨⟨h1,h2⟩,h3⟩:=h';have iD:dZ m.aa:=wx (Oi h1);have hk:=h1.2.1;have sR:m.ah=4∨m.ah=5∨m.ah=6∨m.ah=7∨m.ah=8∨m.ah=9∨m.ah=10:=by
     unfold cA at h2;omega
   simp only [decide_eq_true h1] at fB;have cZ:=fun F=>wX (F:=F) (k:=m.ah);simp only [decide_eq_false h2] at cZ;have hS:=fun F=>Oj (F:=F) (b:=b) (a:=a) (f:=f) (e:=e) (ap:=ap) (m:=m) (k:=k) hc iD;have hM:=fun F=>Ok (F:=F) (b:=b) (a:=a) (f:=f) (e:=e) (ap:=ap) (m:=m) (k:=k) hc iD;have hI:=fun F=>Q3 (F:=F) (b:=b) (a:=a) (f:=f) (e:=e) (ap:=ap) (m:=m) (k:=k) hc iD;have hD:=fun F=>Ol (F:=F) (b:=b) (a:=a) (f:=f) (e:=e) (ap:=ap) (m:=m) (k:=k) hc iD;have hG:=fun F=>Lk (F:=F) (b:=b) (a:=a) (f:=f) (e:=e) (ap:=ap) (m:=m) (k:=k) hc iD;have hA:=fun F=>Q4 (F:=F) (b:=b) (a:=a) (f:=f) (e:=e) (ap:=ap) (m:=m) (k:=k) hc iD hg;have hP:=fun F=>ID (F:=F) (b:=b) (a:=a) (f:=f) (e:=e) (c:=c) (ap:=ap) (m:=m) (k:=k) hc;unfold dg cJ c4 cw;rcases sR with g|g|g|g|g|g|g<;>simp only [h,g,if_true,Int.reduceEq,if_false,or_true,or_false,Int.reduceLE,and_true,and_false,decide_false,true_or,false_or]
   ·refine ay func226 ntmps226 ?_;repeat' (first|refine go ?_|intro _|refine jw ?_|refine av ?_|refine ae @fB ?_|refine ae @cZ ?_|refine ae @hS ?_|refine bj ?_ ?_|fail)
    all_goals exact aM
   ·refine ay func226 ntmps226 ?_;repeat' (first|refine go ?_|intro _|refine jw ?_|refine av ?_|refine ae @fB ?_|refine ae @cZ ?_|refine ae @hM ?_|refine bj ?_ ?_|fail)
    all_goals exact aM
   ·refine ay func226 ntmps226 ?_;repeat' (first|refine go ?_|intro _|refine jw ?_|refine av ?_|refine ae @fB ?_|refine ae @cZ ?_|refine ae @hI ?_|refine bj ?_ ?_|fail)
    all_goals exact aM
   ·refine ay func226 ntmps226 ?_;repeat' (first|refine go ?_|intro _|refine jw ?_|refine av ?_|refine ae @fB ?_|refine ae @cZ ?_|refine ae @hD ?_|refine bj ?_ ?_|fail)
    all_goals exact aM
   ·refine ay func226 ntmps226 ?_;repeat' (first|refine go ?_|intro _|refine jw ?_|refine av ?_|refine ae @fB ?_|refine ae @cZ ?_|refine ae @hG ?_|refine bj ?_ ?_|fail)
    all_goals exact aM
   ·refine ay func226 ntmps226 ?_;repeat' (first|refine go ?_|intro _|refine jw ?_|refine av ?_|refine ae @fB ?_|refine ae @cZ ?_|refine ae @hA ?_|refine bj ?_ ?_|fail)
    all_goals exact aM
   ·refine ay func226 ntmps226 ?_;repeat' (first|refine go ?_|intro _|refine jw ?_|refine av ?_|refine ae @fB ?_|refine ae @cZ ?_|refine ae @hP ?_|refine bj ?_ ?_|fail)
    all_goals exact aM
  ·have e1:c4 c ap k m=1:=if_neg h;have e2:cJ c ap k m=false:=by unfold cJ;rw [e1];simp
   have e3:dg c ap k m= .zero:=if_neg h;have e4:cw c ap k m=k:=if_neg h;rw [e1,e2,e3,e4];by_cases h1:bU c m
   ·simp only [decide_eq_true h1] at fB;by_cases h2:cA m.ah
    ·have cZ:=fun F=>wX (F:=F) (k:=m.ah);simp only [decide_eq_true h2] at cZ;refine ay func226 ntmps226 ?_;repeat' (first|refine go ?_|intro _|refine jw ?_|refine av ?_|refine ae @fB ?_|refine ae @cZ ?_|refine bj ?_ ?_|fail)
     all_goals exact aM
    ·have cZ:=fun F=>wX (F:=F) (k:=m.ah);simp only [decide_eq_false h2] at cZ;have h3:¬m.dst=ap:=fun h3=>h (by simp [dI,h1,h2,h3]);refine ay func226 ntmps226 ?_;repeat' (first|refine go ?_|intro _|refine jw ?_|refine av ?_|refine ae @fB ?_|refine ae @cZ ?_|refine bj ?_ ?_|fail)
     all_goals exact aM
   ·simp only [decide_eq_false h1] at fB;refine ay func226 ntmps226 ?_;repeat' (first|refine go ?_|intro _|refine jw ?_|refine av ?_|refine ae @fB ?_|refine bj ?_ ?_|fail)
    all_goals exact aM
theorem Q5 {F:List HP} {b:Nat} {c:au} {ap:Int} {m:bA} {k:cT} (hg:∀ m∈k.aP,-9223372036854775808≤m.gY∧m.gY≤9223372036854775806) :
    az prog 226 [.pointer (some ⟨b,0,none⟩),mv m] [oL b c ap k] F
      (fun r L'=>r= .tuple [mv (dg c ap k m),.bool (cJ c ap k m),.int .i64 (c4 c ap k m)].toArray∧L'=[oL b c ap (cw c ap k m)]):=
  lZ (fun a f e hf=>Om hf.1 hg) (fb func226 rfl rfl)
end
end Go.Sx
