/- Pro1, Pro7, LnW: several of my texts as one. My own work. -/
import Derived.Test.YtjihlpjnebdiiaaGreatZaf
set_option linter.unusedVariables false
set_option linter.unusedSectionVars false
set_option linter.unusedSimpArgs false
set_option maxRecDepth 100000
set_option maxHeartbeats 4000000
namespace Go.Sx
open Go Go.Proofs
section
section
variable {W:Type}
theorem rU {v v':LV W} (h:LI v)
    (hst:∀ x,v'.st x=v.st x) (hwd:∀ x,v'.st x≠0→v'.wd x=v.wd x) (hms:∀ x,v'.ms x=v.ms x) (hbf:∀ x,v'.bf x=v.bf x) (hrq:v'.rq.Perm v.rq) (hfly:v'.fly.Perm v.fly) (hact:v'.act=v.act) (ho:v'.o=v.o) (hsh:∀ x,v'.sh x=v.sh x) (hmem:v'.mem=v.mem) (hnow:v'.now=v.now):LI v':=by
  obtain ⟨qm,cg,cp⟩:=a3z hrq
  obtain ⟨fm,ck,ct,ci,cd⟩:=b6s hfly
  have hbu:∀ x,v'.busy x↔v.busy x:=fun x=>by unfold LV.busy;rw [hact,cd]
  have hho:∀ x,v'.holds x↔v.holds x:=fun x=>by unfold LV.holds;rw [hst,hbf,cp]
  constructor
  case rqk=>intro x hx;have:=h.rqk x;exact cH
  case g0=>intro r1 h1;have:=h.g0 r1;exact cH
  case g1=>intro r1 m1 h1 h2;have:=h.g1 r1 m1;exact cH
  case gk=>intro k1 r1 h1;have:=h.gk k1 r1;exact cH
  case gA=>intro r1 h1;have:=h.gA r1;exact cH
  case aK=>intro k1 r1 h1;have:=h.aK k1 r1;exact cH
  case mK=>intro r1 m1 h1;have:=h.mK r1 m1;exact cH
  case ml=>intro r1 m1 h1 h2;have:=h.ml r1 m1;exact cH
  case b0=>intro r1 h1;have:=h.b0 r1;exact cH
  case b1=>intro r1 w1 l1 h1;have:=h.b1 r1 w1 l1;exact cH
  case bw=>intro r1 w1 h1;have:=h.bw r1 w1;exact cH
  case bl=>intro r1 w1 h1 h2;have:=h.bl r1 w1;exact cH
  case f0=>intro h1 x hx;have:=h.f0;exact cH
  case f1=>intro r1 h1 x hx;have:=h.f1 r1;exact cH
  case f2=>intro r1 h1 x hx;have:=h.f2 r1;exact cH
  case p=>intro k1 r1 h1;have:=h.p k1 r1;exact cH
  case a2=>intro r1 h1;have:=h.a2 r1;exact cH
  case tf=>intro k1 o1 r1 n1 h1;have:=h.tf k1 o1 r1 n1;exact cH
  case td=>intro r1 own1 n1 w1 h1;have:=h.td r1 own1 n1 w1;exact cH
  case tg=>intro r1 n1 h1;have:=h.tg r1 n1;exact cH
  case iv=>intro c1 r1 h1;have:=h.iv c1 r1;exact cH
  case e=>intro c1 h1;have:=h.e c1;exact cH
  case h=>intro h1;have:=h.h;exact cH
  case s=>intro c1 h1 c2 h2;have:=h.s c1;exact cH
  case wn=>intro c1 h1;have:=h.wn c1;exact cH
  case mn=>intro h1;have:=h.mn;exact cH
  case k=>intro c1 h1;have:=h.k c1;exact cH
  case r=>intro c1;have:=h.r c1;exact cH
  case rg=>intro c1 h1;have:=h.rg c1;exact cH
theorem e9d {v v':LV W} (h:LI v) {r k:Int} {z:W} (hr:0≤r) (hm:v.ms r=none) (hb:v.bf r=none) (hk:(k=1∧v.st r=0)∨(k=2∧v.st r≠2∧v.st r≠4))
    (hst:∀ x,v'.st x=v.st x) (hwd:∀ x,v'.st x≠0→v'.wd x=v.wd x) (hms:∀ x,v'.ms x=if x=r then some ⟨k,-1,0,0,z,false,false⟩ else v.ms x) (hbf:∀ x,v'.bf x=v.bf x) (hrq:v'.rq.Perm (.get k r::v.rq)) (hfly:v'.fly.Perm v.fly) (hact:v'.act=v.act) (ho:v'.o=v.o) (hsh:∀ x,v'.sh x=v.sh x) (hmem:v'.mem=v.mem) (hnow:v'.now=v.now):LI v':=by
  have qm:∀ y,y∈v'.rq↔y= .get k r∨y∈v.rq:=fun y=>oT hrq y
  have cg:∀ x,v'.cg x=v.cg x+if a6y x (.get k r)=true then 1 else 0:=fun x=>cW hrq _
  have cp:∀ x,v'.cp x=v.cp x+if qB x (.get k r)=true then 1 else 0:=fun x=>cW hrq _
  obtain ⟨fm,ck,ct,ci,cd⟩:=b6s hfly
  have hbu:∀ x,v'.busy x↔v.busy x:=fun x=>by unfold LV.busy;rw [hact,cd]
  have hnb:¬v.busy r:=fun ⟨k',h1,h2⟩=>by have:=h.p k' r h1;grind
  have hho:∀ x,v'.holds x↔v.holds x:=fun x=>by unfold LV.holds;rw [hst,hbf,cp];simp [qB,LV.cp]
  refine { g1:=?zg1}
  case zg1=>
    intro r1 m1 h1 h2
    have:=h.g1 r1 m1
    have:=h.g0 r1;exact cH
theorem d0k {v v':LV W} (h:LI v) {r:Int} (hm:v.ms r=none) (hs:v.st r=1)
    (hst:∀ x,v'.st x=if x=r then 0 else v.st x) (hwd:∀ x,v'.st x≠0→v'.wd x=v.wd x) (hms:∀ x,v'.ms x=v.ms x) (hbf:∀ x,v'.bf x=v.bf x) (hrq:v'.rq.Perm v.rq) (hfly:v'.fly.Perm v.fly) (hact:v'.act=v.act) (ho:v'.o=v.o) (hsh:∀ x,v'.sh x=v.sh x) (hmem:v'.mem=v.mem) (hnow:v'.now=v.now):LI v':=by
  obtain ⟨qm,cg,cp⟩:=a3z hrq
  obtain ⟨fm,ck,ct,ci,cd⟩:=b6s hfly
  have hbu:∀ x,v'.busy x↔v.busy x:=fun x=>by unfold LV.busy;rw [hact,cd]
  have hho:∀ x,v.holds x→v'.holds x:=fun x=>by unfold LV.holds;rw [hst,hbf,cp];grind
  refine { p:=?zp}
  case zp=>
    intro k1 r1 h1
    have:=h.p k1 r1
    rcases this (by grind) with ⟨m,g1,g2⟩|⟨m,g1,g2⟩|⟨m,g1,g2⟩|g2
    · refine .inl ⟨m,?_⟩;exact cH
    · refine .inr (.inl ⟨m,?_⟩);exact cH
    · refine .inr (.inr (.inl ⟨m,?_⟩));exact cH
    · refine .inr (.inr (.inr ?_));exact cH
theorem d0l {v v':LV W} (h:LI v) {r:Int} (hm:v.ms r=none) (hs:2≤v.st r)
    (hst:∀ x,v'.st x=if x=r then 0 else v.st x) (hwd:∀ x,v'.st x≠0→v'.wd x=v.wd x) (hms:∀ x,v'.ms x=v.ms x) (hbf:∀ x,v'.bf x=if x=r then some (v.wd r,true) else v.bf x) (hrq:v'.rq.Perm (.put r (v.wd r)::v.rq)) (hfly:v'.fly.Perm v.fly) (hact:v'.act=v.act) (ho:v'.o=v.o) (hsh:∀ x,v'.sh x=v.sh x) (hmem:v'.mem=v.mem) (hnow:v'.now=v.now):LI v':=by
  have qm:∀ y,y∈v'.rq↔y= .put r (v.wd r)∨y∈v.rq:=fun y=>oT hrq y
  have cg:∀ x,v'.cg x=v.cg x+if a6y x (.put r (v.wd r))=true then 1 else 0:=fun x=>cW hrq _
  have cp:∀ x,v'.cp x=v.cp x+if qB x (.put r (v.wd r))=true then 1 else 0:=fun x=>cW hrq _
  obtain ⟨fm,ck,ct,ci,cd⟩:=b6s hfly
  have hbu:∀ x,v'.busy x↔v.busy x:=fun x=>by unfold LV.busy;rw [hact,cd]
  have hb:v.bf r=none:=by cases e:v.bf r with|none=>rfl|some x=>(have:=h.b1 r x.1 x.2 e;omega)
  have h0:=h.b0 r hb
  have hw:=h.wn r (om)
  have he:=h.e r hs
  have hho:∀ x,v.holds x→v'.holds x:=fun x=>by unfold LV.holds;rw [hst,hbf,cp];grind [qB]
  have htm:∀ x,x∈v.fly→cX x=true→∃ m,v.ms (b2u x)=some m∧m.ow=false:=fun x hx ht=>by obtain ⟨k,r',m,g⟩:=mG h hx ht;grind
  refine { p:=?zp,tg:=?ztg}
  case zp=>
    intro k1 r1 h1
    have:=h.p k1 r1
    rcases this (by grind) with ⟨m,g1,g2⟩|⟨m,g1,g2⟩|⟨m,g1,g2⟩|g2
    · refine .inl ⟨m,?_⟩;exact cH
    · refine .inr (.inl ⟨m,?_⟩);exact cH
    · refine .inr (.inr (.inl ⟨m,?_⟩));exact cH
    · refine .inr (.inr (.inr ?_));exact cH
  case ztg=>
    intro r1 n1 h1
    have:=h.tg r1 n1
    have:=htm (.grant r1 n1);grind [cX,b2u]
theorem d5g {v v':LV W} (h:LI v) {r:Int} {w:W} (hr:0≤r) (hs:v.st r=2∨v.st r=4)
    (hst:∀ x,v'.st x=if x=r then 4 else v.st x) (hwd:∀ x,v'.st x≠0→v'.wd x=if x=r then w else v.wd x) (hms:∀ x,v'.ms x=v.ms x) (hbf:∀ x,v'.bf x=v.bf x) (hrq:v'.rq.Perm v.rq) (hfly:v'.fly.Perm v.fly) (hact:v'.act=v.act) (ho:v'.o=v.o) (hsh:∀ x,v'.sh x=v.sh x) (hmem:v'.mem=v.mem) (hnow:v'.now=w):LI v':=by
  obtain ⟨qm,cg,cp⟩:=a3z hrq
  obtain ⟨fm,ck,ct,ci,cd⟩:=b6s hfly
  have hbu:∀ x,v'.busy x↔v.busy x:=fun x=>by unfold LV.busy;rw [hact,cd]
  have he:=h.e r (om)
  have hs1:=h.s r hs
  have hho:∀ x,v.holds x↔v'.holds x:=fun x=>by unfold LV.holds;rw [hst,hbf,cp];grind
  have hun:=fun d=>yG h (c:=r) (d:=d) (om)
  have hct:=fun x=>a5n (v:=v) (x:=x)
  refine { bl:=?zbl,p:=?zp,mn:=?zmn}
  case zbl=>
    intro r1 w1 h1 h2
    have:=h.bl r1 w1
    have:=hun r1 (.inr ⟨w1,by grind⟩);have:=h.b1 r1;grind
  case zp=>
    intro k1 r1 h1
    have:=h.p k1 r1
    have aK:=h.aK k1 r1 (by grind)
    rcases this (by grind) with ⟨m,g1,g2⟩|⟨m,g1,g2⟩|⟨m,g1,g2⟩|g2
    · refine .inl ⟨m,?_⟩;exact cH
    · refine .inr (.inl ⟨m,?_⟩);exact cH
    · refine .inr (.inr (.inl ⟨m,?_⟩));exact cH
    · refine .inr (.inr (.inr ?_));exact cH
  case zmn=>
    intro h1
    have:=h.mn
    rcases he with he|⟨r1,n1,he⟩
    · grind
    · have:=mG h he rfl;have:=h.tf _ _ _ _ he;grind [b2u]
end
end
section
section
variable {W:Type}
theorem e3i {v v':LV W} (h:LI v) {r:Int} {m:AMs W} (hm:v.ms r=some m) (hn:m.needs≠ -1) (hg:m.needs=m.got) (hw:m.ow=false)
    (hst:∀ x,v'.st x=if x=r then m.own else v.st x) (hwd:∀ x,v'.st x≠0→v'.wd x=if x=r then (if m.gr=true then v.wd r else m.w) else v.wd x) (hms:∀ x,v'.ms x=if x=r then some { m with ow:=true} else v.ms x) (hbf:∀ x,v'.bf x=v.bf x) (hrq:v'.rq.Perm v.rq) (hfly:v'.fly.Perm v.fly) (hact:v'.act=v.act) (ho:v'.o=v.o) (hsh:∀ x,v'.sh x=v.sh x) (hmem:v'.mem=v.mem) (hnow:v'.now=v.now):LI v':=by
  obtain ⟨qm,cg,cp⟩:=a3z hrq
  obtain ⟨fm,ck,ct,ci,cd⟩:=b6s hfly
  have hbu:∀ x,v'.busy x↔v.busy x:=fun x=>by unfold LV.busy;rw [hact,cd]
  have hbr:v.busy r:=Classical.byContradiction fun hb=>hn (h.g1 r m hm hb).2.1
  have hbr0:=hbr
  obtain ⟨k0,hac,hcd⟩:=hbr0
  have haK:=h.aK _ _ hac
  have hct:=fun x=>a5n (v:=v) (x:=x)
  have hci:=fun x=>b6t (v:=v) (x:=x)
  have hp:m.kind=k0∧0≤m.got∧v.ct=0∧v.ci=0∧(k0=1→m.own=1∨m.own=2)∧(k0=2→m.own=4)∧(m.gr=false→m.w=v.now)∧(m.gr=true→k0=2∧v.st r=3)∧(m.own=1→(∀ c,v.st c≠2∧v.st c≠4)∧v.sh r=true∧v.o≠r)∧(m.own=2→(∀ c,v.st c=0)∧v.o=r)∧(m.own=4→v.o=r∧(m.gr=false→∀ c,v.st c<2)):=by
    rcases h.p k0 r hac with ⟨m1,g1,g2⟩|⟨m1,g1,g2⟩|⟨m1,g1,g2⟩|g2<;>grind
  have hon:∀ x,x≠r→¬v.busy x:=fun x hx ⟨k,e,z⟩=>by grind
  have hgo:=h.g1 v.o
  have hml:=h.ml r m hm hw
  have hbn:v.bf r=none:=by cases e:v.bf r with|none=>rfl|some x=>(have:=(h.b1 r x.1 x.2 e).2.2;rw [hm] at this;cases this)
  have hwr:=h.wn r
  have hk4:m.own=4→∀ c,c≠r→v.st c=0:=fun h4 c hc=>by have:=h.k c;have:=h.a2 r;have:=hci (.inv c r);have:=fun n=>hct (.fwd 2 c r n);grind [cX,rG]
  have hho:∀ x,x≠r→(v.holds x↔v'.holds x):=fun x hx=>by unfold LV.holds;rw [hst,hbf,cp,if_neg hx]
  have hrr:=h.r r
  have hhr:m.own≠1→v'.holds r:=fun ho=>by left;rw [hst,if_pos rfl];grind
  refine { p:=?zp}
  case zp=>
    intro k1 r1 h1
    have:=h.p k1 r1
    obtain ⟨rfl,rfl⟩:k1=k0∧r1=r:=by grind
    refine .inr (.inr (.inl ⟨_,by rw [hms,if_pos rfl],?_⟩));grind
theorem e3j {v v':LV W} (h:LI v) {r:Int}
    (hst:∀ x,v'.st x=v.st x) (hwd:∀ x,v'.st x≠0→v'.wd x=v.wd x) (hms:∀ x,v'.ms x=v.ms x) (hbf:∀ x,v'.bf x=if x=r then none else v.bf x) (hrq:v'.rq.Perm v.rq) {Rf:List (AM W)} (hfly0:v.fly.Perm (.pack r::Rf)) (hfly:v'.fly.Perm Rf) (hact:v'.act=v.act) (ho:v'.o=v.o) (hsh:∀ x,v'.sh x=v.sh x) (hmem:v'.mem=v.mem) (hnow:v'.now=v.now):LI v':=by
  obtain ⟨qm,cg,cp⟩:=a3z hrq
  obtain ⟨fm0,ck0,ct0,ci0,cd0⟩:=qC hfly0
  obtain ⟨fm,ck,ct,ci,cd⟩:=c2f hfly
  have hin:=(fm0 _).2 (.inl rfl)
  have hbu:∀ x,v'.busy x↔v.busy x:=fun x=>by unfold LV.busy;rw [hact];grind [dC]
  have hb0:=h.b0 r
  have hcp:v.cp r=0∧Rf.countP (o8 r)=0:=by cases e:v.bf r with|none=>(have:=h.b0 r e;have:=ck0 r;grind [o8])|some x=>(have:=h.b1 r x.1 x.2 e;have:=ck0 r;grind [o8])
  have hho:∀ x,(v.holds x↔v'.holds x):=fun x=>by unfold LV.holds;rw [hst,hbf,cp];grind
  refine { bw:=?zbw,p:=?zp}
  case zbw=>
    intro r1 w1 h1
    have:=h.bw r1 w1
    have:=e7u (v:=v) (r:=r1) (w:=w1);exact cH
  case zp=>
    intro k1 r1 h1
    have:=h.p k1 r1
    rcases this (by grind) with ⟨m,g1,g2⟩|⟨m,g1,g2⟩|⟨m,g1,g2⟩|g2
    · refine .inl ⟨m,?_⟩;exact cH
    · refine .inr (.inl ⟨m,?_⟩);exact cH
    · refine .inr (.inr (.inl ⟨m,?_⟩));exact cH
    · refine .inr (.inr (.inr ?_));exact cH
theorem e3k {v v':LV W} (h:LI v) {r:Int}
    (hst:∀ x,v'.st x=v.st x) (hwd:∀ x,v'.st x≠0→v'.wd x=v.wd x) (hms:∀ x,v'.ms x=v.ms x) (hbf:∀ x,v'.bf x=v.bf x) (hrq:v'.rq.Perm v.rq) {Rf:List (AM W)} (hfly0:v.fly.Perm (.done r::Rf)) (hfly:v'.fly.Perm Rf) (hact:v'.act=none) (ho:v'.o=v.o) (hsh:∀ x,v'.sh x=v.sh x) (hmem:v'.mem=v.mem) (hnow:v'.now=v.now):LI v':=by
  obtain ⟨qm,cg,cp⟩:=a3z hrq
  obtain ⟨fm0,ck0,ct0,ci0,cd0⟩:=qC hfly0
  obtain ⟨fm,ck,ct,ci,cd⟩:=c2f hfly
  have hin:=(fm0 _).2 (.inl rfl)
  obtain ⟨k0,hac⟩:∃ k,v.act=some (k,r):=by cases e:v.act with|none=>(have:=h.f0 e _ hin;grind)|some a=>(have:=h.aK a.1 a.2 e;have:=h.f1 a.2;have:=h.f2 a.2;exact ⟨a.1,by grind⟩)
  have hp:=h.p k0 r hac
  have hcd:=d7s hin rfl
  have hpz:v.ct=0∧v.cd=1∧v.ci=0:=by grind
  have hnb:∀ x,¬v.busy x:=fun x ⟨k,e,z⟩=>by omega
  have hnb':=fT hact
  have hR:∀ x∈Rf,cX x=false∧rG x=false∧dC x=false:=fun x hx=>⟨by have:=List.countP_eq_zero.1 (by grind [cX]:Rf.countP cX=0) x hx;simpa using this,by have:=List.countP_eq_zero.1 (by grind [rG]:Rf.countP rG=0) x hx;simpa using this,by have:=List.countP_eq_zero.1 (by grind [dC]:Rf.countP dC=0) x hx;simpa using this⟩
  have haK:=h.aK _ _ hac
  have hho:∀ x,(v.holds x↔v'.holds x):=fun x=>by unfold LV.holds;rw [hst,hbf,cp]
  refine { f0:=?zf0,k:=?zk}
  case zf0=>
    intro h1 x hx
    have:=h.f0
    have:=h.f1 r;have:=h.f2 r;have:=hR x ((fm x).1 hx);grind [cX,rG,dC]
  case zk=>
    intro c1 h1
    have:=h.k c1
    have:=h.k c1;have f:=fun n=>a5n (v:=v) (x:= .fwd 2 c1 r n);have f2:=b6t (v:=v) (x:= .inv c1 r);grind [cX,rG]
theorem e9e {v v':LV W} (h:LI v) {r:Int} {m:AMs W} (hm:v.ms r=some m) (hw:m.ow=true)
    (hst:∀ x,v'.st x=v.st x) (hwd:∀ x,v'.st x≠0→v'.wd x=v.wd x) (hms:∀ x,v'.ms x=if x=r then none else v.ms x) (hbf:∀ x,v'.bf x=v.bf x) (hrq:v'.rq.Perm v.rq) (hfly:v'.fly.Perm (.done r::v.fly)) (hact:v'.act=v.act) (ho:v'.o=v.o) (hsh:∀ x,v'.sh x=v.sh x) (hmem:v'.mem=v.mem) (hnow:v'.now=v.now):LI v':=by
  obtain ⟨qm,cg,cp⟩:=a3z hrq
  obtain ⟨fm,ck,ct,ci,cd⟩:=b6r hfly
  have hbr:v.busy r:=Classical.byContradiction fun hb=>by have:=(h.g1 r m hm hb).2.2.2.2;rw [hw] at this;cases this
  have hbr0:=hbr
  obtain ⟨k0,hac,hcd⟩:=hbr0
  have haK:=h.aK _ _ hac
  have hp:m.kind=k0∧v.ct=0∧v.ci=0:=by rcases h.p k0 r hac with ⟨m1,g1,g2⟩|⟨m1,g1,g2⟩|⟨m1,g1,g2⟩|g2<;>grind
  have hbu:∀ x,¬v'.busy x:=fun x ⟨k,e,z⟩=>by grind [dC]
  have hct:=fun x=>a5n (v:=v) (x:=x)
  have hgA:=h.gA r hbr
  have hho:∀ x,(v.holds x↔v'.holds x):=fun x=>by unfold LV.holds;rw [hst,hbf,cp]
  have hon:∀ x,x≠r→¬v.busy x:=fun x hx ⟨k,e,z⟩=>by grind
  refine { g1:=?zg1,gk:=?zgk}
  case zg1=>
    intro r1 m1 h1 h2
    have:=h.g1 r1 m1
    have:=hon r1;exact cH
  case zgk=>
    intro k1 r1 h1
    have:=h.gk k1 r1
    have:=e7v (v:=v) (k:=k1) (r:=r1);exact cH
end
end
section
theorem z5 {c:Cfg} {ms:List Int} {k line:Int} {w:Words} (hn:(ms.length:Int)=c.words*c.lines) (h:line≠k):aJ c (d9u c ms k w) line=aJ c ms line:=by
  unfold aJ
  split
  · rename_i hj
    congr 1
    unfold d9u
    split
    · rename_i hw
      have hk:fF c k 0=true:=by simp only [a0x,Bool.and_eq_true] at hw;exact hw.1
      obtain ⟨a1,a2,a3,_⟩:=zQ hn hk
      obtain ⟨_,l0,l1,w0,w8,_⟩:=oB hj hn
      obtain ⟨_,k0,k1,_⟩:=oB hk hn
      obtain ⟨W,eW⟩:∃ n:Nat,c.words=n:=⟨c.words.toNat,om⟩
      obtain ⟨L,rfl⟩:∃ n:Nat,line=n:=⟨line.toNat,om⟩
      obtain ⟨K,rfl⟩:∃ n:Nat,k=n:=⟨k.toNat,om⟩
      have fL:gW c (L:Int)=L*W:=by unfold gW;rw [eW];exact_mod_cast Int.toNat_natCast (L*W)
      have fK:gW c (K:Int)=K*W:=by unfold gW;rw [eW];exact_mod_cast Int.toNat_natCast (K*W)
      have fW:c.words.toNat=W:=by rw [eW];rfl
      unfold kI
      rw [fW] at a1 a3
      rw [fK] at a1
      rw [fL,fK,fW]
      have hwl:w.list.length=8:=rfl
      apply List.ext_getElem?
      intro i
      rw [List.getElem?_take,List.getElem?_take]
      split
      · rename_i hi
        rw [List.getElem?_drop,List.getElem?_drop,List.append_assoc]
        have ht:(ms.take (K*W)).length=K*W:=by rw [List.length_take];omega
        have hu:(w.list.take W).length=W:=by rw [List.length_take,hwl];omega
        rcases Nat.lt_or_gt_of_ne (show L≠K by omega) with hlt|hgt
        · have:(L+1)*W≤K*W:=Nat.mul_le_mul_right W hlt
          rw [Nat.add_mul,Nat.one_mul] at this
          rw [List.getElem?_append_left (om),List.getElem?_take,if_pos (om)]
        · have:(K+1)*W≤L*W:=Nat.mul_le_mul_right W hgt
          rw [Nat.add_mul,Nat.one_mul] at this
          rw [List.getElem?_append_right (om),List.getElem?_append_right (om),List.getElem?_drop]
          congr 1
          omega
      · rfl
    · rfl
  · rfl
theorem tO {c:Cfg} {ms:List Int} {line:Int} {w:Words} (hn:(ms.length:Int)=c.words*c.lines) (h:a0x c line w=true):aJ c (d9u c ms line w) line=w:=by
  have hk:fF c line 0=true:=by simp only [a0x,Bool.and_eq_true] at h;exact h.1
  have ht:a2c c w=true:=by simp only [a0x,Bool.and_eq_true] at h;exact h.2
  obtain ⟨a1,a2,a3,_⟩:=zQ hn hk
  unfold aJ d9u
  rw [if_pos hk,if_pos h]
  have hwl:w.list.length=8:=rfl
  have e:kI c (ms.take (gW c line)++w.list.take c.words.toNat++ms.drop (gW c line+c.words.toNat)) line=w.list.take c.words.toNat:=by
    unfold kI
    have h1:(ms.take (gW c line)).length=gW c line:=by rw [List.length_take];omega
    have h2:(w.list.take c.words.toNat).length=c.words.toNat:=by rw [List.length_take,hwl];omega
    rw [List.append_assoc,List.drop_append_of_le_length (om),List.drop_of_length_le (om),List.nil_append,List.take_append_of_le_length (om),List.take_of_length_le (om)]
  rw [e]
  have hz:∀ i,c.words.toNat≤i→i<8→w.list.getD i 0=0:=by
    intro i h1 h2
    unfold a2c at ht
    rw [List.all_eq_true] at ht
    have hi:i<w.list.length:=by rw [hwl];exact h2
    have:=ht w.list[i] (List.mem_iff_getElem.2 ⟨i-c.words.toNat,by simp [hwl];omega,by rw [List.getElem_drop];congr 1;omega⟩)
    simpa [hi] using this
  have hg:∀ i,i<8→(w.list.take c.words.toNat).getD i 0=w.list.getD i 0:=by
    intro i hi
    by_cases h1:i<c.words.toNat
    · simp [List.getD_eq_getElem?_getD,List.getElem?_take,h1]
    · rw [hz i (om) hi]
      simp [List.getD_eq_getElem?_getD,List.getElem?_take,h1]
  obtain ⟨w0,w1,w2,w3,w4,w5,w6,w7⟩:=w
  unfold Words.of
  simp only [hg 0 (om),hg 1 (om),hg 2 (om),hg 3 (om),hg 4 (om),hg 5 (om),hg 6 (om),hg 7 (om)]
  rfl
theorem b5v {c:Cfg} {ms:List Int} {x:Op3} (hn:(ms.length:Int)=c.words*c.lines) (h:d7f c x=0) (line:Int):aJ c (kQ ms x) line=if line=bS c x.addr then d2d c (aJ c ms line) x else aJ c ms line:=by
  have hok:xJ c x=true:=Decidable.byContradiction fun e=>by unfold d7f at h;rw [if_neg e] at h;cases h
  obtain ⟨_,_,_,_,_,_,g1,g2,_⟩:=uP hn hok
  rw [←g2]
  by_cases hl:line=bS c x.addr
  · rw [if_pos hl,hl];exact tO hn g1
  · rw [if_neg hl];exact z5 hn hl
theorem e3l {c:Cfg} {w:Words} {x:Op3} (h:d7f c x=0) (hk:x.kind=1):d2d c w x=w:=by
  have hok:xJ c x=true:=Decidable.byContradiction fun e=>by unfold d7f at h;rw [if_neg e] at h;cases h
  unfold d2d
  rw [if_pos hok]
  unfold kP
  rw [if_neg (om),Words.of_list]
end
end Go.Sx
