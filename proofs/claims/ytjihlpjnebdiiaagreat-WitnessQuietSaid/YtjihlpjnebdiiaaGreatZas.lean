/- Pro1, Pro7, LnW: several of my texts as one. My own work. -/
import Derived.Test.YtjihlpjnebdiiaaGreatZr
import Derived.Test.YtjihlpjnebdiiaaGreatZaf
import Derived.Test.YtjihlpjnebdiiaaGreatZae
set_option linter.unusedVariables false
set_option linter.unusedSectionVars false
set_option linter.unusedSimpArgs false
/- One line of a machine: its steps, 1. Written by a program of mine (pro/genpro.py). -/
namespace Go.Sx
section
variable {W:Type}
theorem li_same {v v':LV W} (h:LI v)
    (hst:∀ x,v'.st x=v.st x) (hwd:∀ x,v'.st x≠0→v'.wd x=v.wd x) (hms:∀ x,v'.ms x=v.ms x) (hbf:∀ x,v'.bf x=v.bf x) (hrq:v'.rq.Perm v.rq) (hfly:v'.fly.Perm v.fly) (hact:v'.act=v.act) (ho:v'.o=v.o) (hsh:∀ x,v'.sh x=v.sh x) (hmem:v'.mem=v.mem) (hnow:v'.now=v.now):LI v':=by
  obtain ⟨qm,cg,cp⟩:=rq_c hrq
  obtain ⟨fm,ck,ct,ci,cd⟩:=fly_c hfly
  have hbu:∀ x,v'.busy x↔v.busy x:=fun x=>by unfold LV.busy;rw [hact,cd]
  have hho:∀ x,v'.holds x↔v.holds x:=fun x=>by unfold LV.holds;rw [hst,hbf,cp]
  constructor
  case rqk=>intro x hx;have:=h.rqk x;exact zqE
  case g0=>intro r1 h1;have:=h.g0 r1;exact zqE
  case g1=>intro r1 m1 h1 h2;have:=h.g1 r1 m1;exact zqE
  case gk=>intro k1 r1 h1;have:=h.gk k1 r1;exact zqE
  case gA=>intro r1 h1;have:=h.gA r1;exact zqE
  case aK=>intro k1 r1 h1;have:=h.aK k1 r1;exact zqE
  case mK=>intro r1 m1 h1;have:=h.mK r1 m1;exact zqE
  case ml=>intro r1 m1 h1 h2;have:=h.ml r1 m1;exact zqE
  case b0=>intro r1 h1;have:=h.b0 r1;exact zqE
  case b1=>intro r1 w1 l1 h1;have:=h.b1 r1 w1 l1;exact zqE
  case bw=>intro r1 w1 h1;have:=h.bw r1 w1;exact zqE
  case bl=>intro r1 w1 h1 h2;have:=h.bl r1 w1;exact zqE
  case f0=>intro h1 x hx;have:=h.f0;exact zqE
  case f1=>intro r1 h1 x hx;have:=h.f1 r1;exact zqE
  case f2=>intro r1 h1 x hx;have:=h.f2 r1;exact zqE
  case p=>intro k1 r1 h1;have:=h.p k1 r1;exact zqE
  case a2=>intro r1 h1;have:=h.a2 r1;exact zqE
  case tf=>intro k1 o1 r1 n1 h1;have:=h.tf k1 o1 r1 n1;exact zqE
  case td=>intro r1 own1 n1 w1 h1;have:=h.td r1 own1 n1 w1;exact zqE
  case tg=>intro r1 n1 h1;have:=h.tg r1 n1;exact zqE
  case iv=>intro c1 r1 h1;have:=h.iv c1 r1;exact zqE
  case e=>intro c1 h1;have:=h.e c1;exact zqE
  case h=>intro h1;have:=h.h;exact zqE
  case s=>intro c1 h1 c2 h2;have:=h.s c1;exact zqE
  case wn=>intro c1 h1;have:=h.wn c1;exact zqE
  case mn=>intro h1;have:=h.mn;exact zqE
  case k=>intro c1 h1;have:=h.k c1;exact zqE
  case r=>intro c1;have:=h.r c1;exact zqE
  case rg=>intro c1 h1;have:=h.rg c1;exact zqE
theorem li_ask {v v':LV W} (h:LI v) {r k:Int} {z:W} (hr:0≤r) (hm:v.ms r=none) (hb:v.bf r=none) (hk:(k=1∧v.st r=0)∨(k=2∧v.st r≠2∧v.st r≠4))
    (hst:∀ x,v'.st x=v.st x) (hwd:∀ x,v'.st x≠0→v'.wd x=v.wd x) (hms:∀ x,v'.ms x=if x=r then some ⟨k,-1,0,0,z,false,false⟩ else v.ms x) (hbf:∀ x,v'.bf x=v.bf x) (hrq:v'.rq.Perm (.get k r::v.rq)) (hfly:v'.fly.Perm v.fly) (hact:v'.act=v.act) (ho:v'.o=v.o) (hsh:∀ x,v'.sh x=v.sh x) (hmem:v'.mem=v.mem) (hnow:v'.now=v.now):LI v':=by
  have qm:∀ y,y∈v'.rq↔y= .get k r∨y∈v.rq:=fun y=>perm_mem hrq y
  have cg:∀ x,v'.cg x=v.cg x+if isGet x (.get k r)=true then 1 else 0:=fun x=>perm_cnt hrq _
  have cp:∀ x,v'.cp x=v.cp x+if isPut x (.get k r)=true then 1 else 0:=fun x=>perm_cnt hrq _
  obtain ⟨fm,ck,ct,ci,cd⟩:=fly_c hfly
  have hbu:∀ x,v'.busy x↔v.busy x:=fun x=>by unfold LV.busy;rw [hact,cd]
  have hnb:¬v.busy r:=fun ⟨k',h1,h2⟩=>by have:=h.p k' r h1;grind
  have hho:∀ x,v'.holds x↔v.holds x:=fun x=>by unfold LV.holds;rw [hst,hbf,cp];simp [isPut,LV.cp]
  refine { g1:=?zg1}
  case zg1=>
    intro r1 m1 h1 h2
    have:=h.g1 r1 m1
    have:=h.g0 r1;exact zqE
theorem li_evictS {v v':LV W} (h:LI v) {r:Int} (hm:v.ms r=none) (hs:v.st r=1)
    (hst:∀ x,v'.st x=if x=r then 0 else v.st x) (hwd:∀ x,v'.st x≠0→v'.wd x=v.wd x) (hms:∀ x,v'.ms x=v.ms x) (hbf:∀ x,v'.bf x=v.bf x) (hrq:v'.rq.Perm v.rq) (hfly:v'.fly.Perm v.fly) (hact:v'.act=v.act) (ho:v'.o=v.o) (hsh:∀ x,v'.sh x=v.sh x) (hmem:v'.mem=v.mem) (hnow:v'.now=v.now):LI v':=by
  obtain ⟨qm,cg,cp⟩:=rq_c hrq
  obtain ⟨fm,ck,ct,ci,cd⟩:=fly_c hfly
  have hbu:∀ x,v'.busy x↔v.busy x:=fun x=>by unfold LV.busy;rw [hact,cd]
  have hho:∀ x,v.holds x→v'.holds x:=fun x=>by unfold LV.holds;rw [hst,hbf,cp];grind
  refine { p:=?zp}
  case zp=>
    intro k1 r1 h1
    have:=h.p k1 r1
    rcases this (by grind) with ⟨m,g1,g2⟩|⟨m,g1,g2⟩|⟨m,g1,g2⟩|g2
    · refine .inl ⟨m,?_⟩;exact zqE
    · refine .inr (.inl ⟨m,?_⟩);exact zqE
    · refine .inr (.inr (.inl ⟨m,?_⟩));exact zqE
    · refine .inr (.inr (.inr ?_));exact zqE
theorem li_evictO {v v':LV W} (h:LI v) {r:Int} (hm:v.ms r=none) (hs:2≤v.st r)
    (hst:∀ x,v'.st x=if x=r then 0 else v.st x) (hwd:∀ x,v'.st x≠0→v'.wd x=v.wd x) (hms:∀ x,v'.ms x=v.ms x) (hbf:∀ x,v'.bf x=if x=r then some (v.wd r,true) else v.bf x) (hrq:v'.rq.Perm (.put r (v.wd r)::v.rq)) (hfly:v'.fly.Perm v.fly) (hact:v'.act=v.act) (ho:v'.o=v.o) (hsh:∀ x,v'.sh x=v.sh x) (hmem:v'.mem=v.mem) (hnow:v'.now=v.now):LI v':=by
  have qm:∀ y,y∈v'.rq↔y= .put r (v.wd r)∨y∈v.rq:=fun y=>perm_mem hrq y
  have cg:∀ x,v'.cg x=v.cg x+if isGet x (.put r (v.wd r))=true then 1 else 0:=fun x=>perm_cnt hrq _
  have cp:∀ x,v'.cp x=v.cp x+if isPut x (.put r (v.wd r))=true then 1 else 0:=fun x=>perm_cnt hrq _
  obtain ⟨fm,ck,ct,ci,cd⟩:=fly_c hfly
  have hbu:∀ x,v'.busy x↔v.busy x:=fun x=>by unfold LV.busy;rw [hact,cd]
  have hb:v.bf r=none:=by cases e:v.bf r with|none=>rfl|some x=>(have:=h.b1 r x.1 x.2 e;omega)
  have h0:=h.b0 r hb
  have hw:=h.wn r (by omega)
  have he:=h.e r hs
  have hho:∀ x,v.holds x→v'.holds x:=fun x=>by unfold LV.holds;rw [hst,hbf,cp];grind [isPut]
  have htm:∀ x,x∈v.fly→isTok x=true→∃ m,v.ms (tokR x)=some m∧m.ow=false:=fun x hx ht=>by obtain ⟨k,r',m,g⟩:=tok_act h hx ht;grind
  refine { p:=?zp,tg:=?ztg}
  case zp=>
    intro k1 r1 h1
    have:=h.p k1 r1
    rcases this (by grind) with ⟨m,g1,g2⟩|⟨m,g1,g2⟩|⟨m,g1,g2⟩|g2
    · refine .inl ⟨m,?_⟩;exact zqE
    · refine .inr (.inl ⟨m,?_⟩);exact zqE
    · refine .inr (.inr (.inl ⟨m,?_⟩));exact zqE
    · refine .inr (.inr (.inr ?_));exact zqE
  case ztg=>
    intro r1 n1 h1
    have:=h.tg r1 n1
    have:=htm (.grant r1 n1);grind [isTok,tokR]
theorem li_store {v v':LV W} (h:LI v) {r:Int} {w:W} (hr:0≤r) (hs:v.st r=2∨v.st r=4)
    (hst:∀ x,v'.st x=if x=r then 4 else v.st x) (hwd:∀ x,v'.st x≠0→v'.wd x=if x=r then w else v.wd x) (hms:∀ x,v'.ms x=v.ms x) (hbf:∀ x,v'.bf x=v.bf x) (hrq:v'.rq.Perm v.rq) (hfly:v'.fly.Perm v.fly) (hact:v'.act=v.act) (ho:v'.o=v.o) (hsh:∀ x,v'.sh x=v.sh x) (hmem:v'.mem=v.mem) (hnow:v'.now=w):LI v':=by
  obtain ⟨qm,cg,cp⟩:=rq_c hrq
  obtain ⟨fm,ck,ct,ci,cd⟩:=fly_c hfly
  have hbu:∀ x,v'.busy x↔v.busy x:=fun x=>by unfold LV.busy;rw [hact,cd]
  have he:=h.e r (by omega)
  have hs1:=h.s r hs
  have hho:∀ x,v.holds x↔v'.holds x:=fun x=>by unfold LV.holds;rw [hst,hbf,cp];grind
  have hun:=fun d=>own_uni h (c:=r) (d:=d) (by omega)
  have hct:=fun x=>ct_pos (v:=v) (x:=x)
  refine { bl:=?zbl,p:=?zp,mn:=?zmn}
  case zbl=>
    intro r1 w1 h1 h2
    have:=h.bl r1 w1
    have:=hun r1 (.inr ⟨w1,by grind⟩);have:=h.b1 r1;grind
  case zp=>
    intro k1 r1 h1
    have:=h.p k1 r1
    have aK:=h.aK k1 r1 (by grind)
    rcases this (by grind) with ⟨m,g1,g2⟩|⟨m,g1,g2⟩|⟨m,g1,g2⟩|g2
    · refine .inl ⟨m,?_⟩;exact zqE
    · refine .inr (.inl ⟨m,?_⟩);exact zqE
    · refine .inr (.inr (.inl ⟨m,?_⟩));exact zqE
    · refine .inr (.inr (.inr ?_));exact zqE
  case zmn=>
    intro h1
    have:=h.mn
    rcases he with he|⟨r1,n1,he⟩
    · grind
    · have:=tok_act h he rfl;have:=h.tf _ _ _ _ he;grind [tokR]
end
end Go.Sx

/- One line of a machine: its steps, 7. Written by a program of mine (pro/genpro.py). -/
namespace Go.Sx
section
variable {W:Type}
theorem li_fill {v v':LV W} (h:LI v) {r:Int} {m:AMs W} (hm:v.ms r=some m) (hn:m.needs≠ -1) (hg:m.needs=m.got) (hw:m.ow=false)
    (hst:∀ x,v'.st x=if x=r then m.own else v.st x) (hwd:∀ x,v'.st x≠0→v'.wd x=if x=r then (if m.gr=true then v.wd r else m.w) else v.wd x) (hms:∀ x,v'.ms x=if x=r then some { m with ow:=true} else v.ms x) (hbf:∀ x,v'.bf x=v.bf x) (hrq:v'.rq.Perm v.rq) (hfly:v'.fly.Perm v.fly) (hact:v'.act=v.act) (ho:v'.o=v.o) (hsh:∀ x,v'.sh x=v.sh x) (hmem:v'.mem=v.mem) (hnow:v'.now=v.now):LI v':=by
  obtain ⟨qm,cg,cp⟩:=rq_c hrq
  obtain ⟨fm,ck,ct,ci,cd⟩:=fly_c hfly
  have hbu:∀ x,v'.busy x↔v.busy x:=fun x=>by unfold LV.busy;rw [hact,cd]
  have hbr:v.busy r:=Classical.byContradiction fun hb=>hn (h.g1 r m hm hb).2.1
  have hbr0:=hbr
  obtain ⟨k0,hac,hcd⟩:=hbr0
  have haK:=h.aK _ _ hac
  have hct:=fun x=>ct_pos (v:=v) (x:=x)
  have hci:=fun x=>ci_pos (v:=v) (x:=x)
  have hp:m.kind=k0∧0≤m.got∧v.ct=0∧v.ci=0∧(k0=1→m.own=1∨m.own=2)∧(k0=2→m.own=4)∧(m.gr=false→m.w=v.now)∧(m.gr=true→k0=2∧v.st r=3)∧(m.own=1→(∀ c,v.st c≠2∧v.st c≠4)∧v.sh r=true∧v.o≠r)∧(m.own=2→(∀ c,v.st c=0)∧v.o=r)∧(m.own=4→v.o=r∧(m.gr=false→∀ c,v.st c<2)):=by
    rcases h.p k0 r hac with ⟨m1,g1,g2⟩|⟨m1,g1,g2⟩|⟨m1,g1,g2⟩|g2<;>grind
  have hon:∀ x,x≠r→¬v.busy x:=fun x hx ⟨k,e,z⟩=>by grind
  have hgo:=h.g1 v.o
  have hml:=h.ml r m hm hw
  have hbn:v.bf r=none:=by cases e:v.bf r with|none=>rfl|some x=>(have:=(h.b1 r x.1 x.2 e).2.2;rw [hm] at this;cases this)
  have hwr:=h.wn r
  have hk4:m.own=4→∀ c,c≠r→v.st c=0:=fun h4 c hc=>by have:=h.k c;have:=h.a2 r;have:=hci (.inv c r);have:=fun n=>hct (.fwd 2 c r n);grind [isTok,isIA]
  have hho:∀ x,x≠r→(v.holds x↔v'.holds x):=fun x hx=>by unfold LV.holds;rw [hst,hbf,cp,if_neg hx]
  have hrr:=h.r r
  have hhr:m.own≠1→v'.holds r:=fun ho=>by left;rw [hst,if_pos rfl];grind
  refine { p:=?zp}
  case zp=>
    intro k1 r1 h1
    have:=h.p k1 r1
    obtain ⟨rfl,rfl⟩:k1=k0∧r1=r:=by grind
    refine .inr (.inr (.inl ⟨_,by rw [hms,if_pos rfl],?_⟩));grind
theorem li_pack {v v':LV W} (h:LI v) {r:Int}
    (hst:∀ x,v'.st x=v.st x) (hwd:∀ x,v'.st x≠0→v'.wd x=v.wd x) (hms:∀ x,v'.ms x=v.ms x) (hbf:∀ x,v'.bf x=if x=r then none else v.bf x) (hrq:v'.rq.Perm v.rq) {Rf:List (AM W)} (hfly0:v.fly.Perm (.pack r::Rf)) (hfly:v'.fly.Perm Rf) (hact:v'.act=v.act) (ho:v'.o=v.o) (hsh:∀ x,v'.sh x=v.sh x) (hmem:v'.mem=v.mem) (hnow:v'.now=v.now):LI v':=by
  obtain ⟨qm,cg,cp⟩:=rq_c hrq
  obtain ⟨fm0,ck0,ct0,ci0,cd0⟩:=fly_a hfly0
  obtain ⟨fm,ck,ct,ci,cd⟩:=fly_d hfly
  have hin:=(fm0 _).2 (.inl rfl)
  have hbu:∀ x,v'.busy x↔v.busy x:=fun x=>by unfold LV.busy;rw [hact];grind [isDone]
  have hb0:=h.b0 r
  have hcp:v.cp r=0∧Rf.countP (isPack r)=0:=by cases e:v.bf r with|none=>(have:=h.b0 r e;have:=ck0 r;grind [isPack])|some x=>(have:=h.b1 r x.1 x.2 e;have:=ck0 r;grind [isPack])
  have hho:∀ x,(v.holds x↔v'.holds x):=fun x=>by unfold LV.holds;rw [hst,hbf,cp];grind
  refine { bw:=?zbw,p:=?zp}
  case zbw=>
    intro r1 w1 h1
    have:=h.bw r1 w1
    have:=cp_pos (v:=v) (r:=r1) (w:=w1);exact zqE
  case zp=>
    intro k1 r1 h1
    have:=h.p k1 r1
    rcases this (by grind) with ⟨m,g1,g2⟩|⟨m,g1,g2⟩|⟨m,g1,g2⟩|g2
    · refine .inl ⟨m,?_⟩;exact zqE
    · refine .inr (.inl ⟨m,?_⟩);exact zqE
    · refine .inr (.inr (.inl ⟨m,?_⟩));exact zqE
    · refine .inr (.inr (.inr ?_));exact zqE
theorem li_done {v v':LV W} (h:LI v) {r:Int}
    (hst:∀ x,v'.st x=v.st x) (hwd:∀ x,v'.st x≠0→v'.wd x=v.wd x) (hms:∀ x,v'.ms x=v.ms x) (hbf:∀ x,v'.bf x=v.bf x) (hrq:v'.rq.Perm v.rq) {Rf:List (AM W)} (hfly0:v.fly.Perm (.done r::Rf)) (hfly:v'.fly.Perm Rf) (hact:v'.act=none) (ho:v'.o=v.o) (hsh:∀ x,v'.sh x=v.sh x) (hmem:v'.mem=v.mem) (hnow:v'.now=v.now):LI v':=by
  obtain ⟨qm,cg,cp⟩:=rq_c hrq
  obtain ⟨fm0,ck0,ct0,ci0,cd0⟩:=fly_a hfly0
  obtain ⟨fm,ck,ct,ci,cd⟩:=fly_d hfly
  have hin:=(fm0 _).2 (.inl rfl)
  obtain ⟨k0,hac⟩:∃ k,v.act=some (k,r):=by cases e:v.act with|none=>(have:=h.f0 e _ hin;grind)|some a=>(have:=h.aK a.1 a.2 e;have:=h.f1 a.2;have:=h.f2 a.2;exact ⟨a.1,by grind⟩)
  have hp:=h.p k0 r hac
  have hcd:=cd_pos hin rfl
  have hpz:v.ct=0∧v.cd=1∧v.ci=0:=by grind
  have hnb:∀ x,¬v.busy x:=fun x ⟨k,e,z⟩=>by omega
  have hnb':=rest_busy hact
  have hR:∀ x∈Rf,isTok x=false∧isIA x=false∧isDone x=false:=fun x hx=>⟨by have:=List.countP_eq_zero.1 (by grind [isTok]:Rf.countP isTok=0) x hx;simpa using this,by have:=List.countP_eq_zero.1 (by grind [isIA]:Rf.countP isIA=0) x hx;simpa using this,by have:=List.countP_eq_zero.1 (by grind [isDone]:Rf.countP isDone=0) x hx;simpa using this⟩
  have haK:=h.aK _ _ hac
  have hho:∀ x,(v.holds x↔v'.holds x):=fun x=>by unfold LV.holds;rw [hst,hbf,cp]
  refine { f0:=?zf0,k:=?zk}
  case zf0=>
    intro h1 x hx
    have:=h.f0
    have:=h.f1 r;have:=h.f2 r;have:=hR x ((fm x).1 hx);grind [isTok,isIA,isDone]
  case zk=>
    intro c1 h1
    have:=h.k c1
    have:=h.k c1;have f:=fun n=>ct_pos (v:=v) (x:= .fwd 2 c1 r n);have f2:=ci_pos (v:=v) (x:= .inv c1 r);grind [isTok,isIA]
theorem li_fin {v v':LV W} (h:LI v) {r:Int} {m:AMs W} (hm:v.ms r=some m) (hw:m.ow=true)
    (hst:∀ x,v'.st x=v.st x) (hwd:∀ x,v'.st x≠0→v'.wd x=v.wd x) (hms:∀ x,v'.ms x=if x=r then none else v.ms x) (hbf:∀ x,v'.bf x=v.bf x) (hrq:v'.rq.Perm v.rq) (hfly:v'.fly.Perm (.done r::v.fly)) (hact:v'.act=v.act) (ho:v'.o=v.o) (hsh:∀ x,v'.sh x=v.sh x) (hmem:v'.mem=v.mem) (hnow:v'.now=v.now):LI v':=by
  obtain ⟨qm,cg,cp⟩:=rq_c hrq
  obtain ⟨fm,ck,ct,ci,cd⟩:=fly_b hfly
  have hbr:v.busy r:=Classical.byContradiction fun hb=>by have:=(h.g1 r m hm hb).2.2.2.2;rw [hw] at this;cases this
  have hbr0:=hbr
  obtain ⟨k0,hac,hcd⟩:=hbr0
  have haK:=h.aK _ _ hac
  have hp:m.kind=k0∧v.ct=0∧v.ci=0:=by rcases h.p k0 r hac with ⟨m1,g1,g2⟩|⟨m1,g1,g2⟩|⟨m1,g1,g2⟩|g2<;>grind
  have hbu:∀ x,¬v'.busy x:=fun x ⟨k,e,z⟩=>by grind [isDone]
  have hct:=fun x=>ct_pos (v:=v) (x:=x)
  have hgA:=h.gA r hbr
  have hho:∀ x,(v.holds x↔v'.holds x):=fun x=>by unfold LV.holds;rw [hst,hbf,cp]
  have hon:∀ x,x≠r→¬v.busy x:=fun x hx ⟨k,e,z⟩=>by grind
  refine { g1:=?zg1,gk:=?zgk}
  case zg1=>
    intro r1 m1 h1 h2
    have:=h.g1 r1 m1
    have:=hon r1;exact zqE
  case zgk=>
    intro k1 r1 h1
    have:=h.gk k1 r1
    have:=cg_pos (v:=v) (k:=k1) (r:=r1);exact zqE
end
end Go.Sx

/- A line of a memory, behind a line that is written, and behind an operation. My own work. -/
namespace Go.Sx
open Go Go.Proofs
theorem line_wr_ne {c:Cfg} {ms:List Int} {k line:Int} {w:Words} (hn:(ms.length:Int)=c.words*c.lines) (h:line≠k):lineWo c (wrL c ms k w) line=lineWo c ms line:=by
  unfold lineWo
  split
  · rename_i hj
    congr 1
    unfold wrL
    split
    · rename_i hw
      have hk:okJoin c k 0=true:=by simp only [wrOk,Bool.and_eq_true] at hw;exact hw.1
      obtain ⟨a1,a2,a3,_⟩:=line_rd hn hk
      obtain ⟨_,l0,l1,w0,w8,_⟩:=join_facts hj hn
      obtain ⟨_,k0,k1,_⟩:=join_facts hk hn
      obtain ⟨W,eW⟩:∃ n:Nat,c.words=n:=⟨c.words.toNat,by omega⟩
      obtain ⟨L,rfl⟩:∃ n:Nat,line=n:=⟨line.toNat,by omega⟩
      obtain ⟨K,rfl⟩:∃ n:Nat,k=n:=⟨k.toNat,by omega⟩
      have fL:lineF c (L:Int)=L*W:=by unfold lineF;rw [eW];exact_mod_cast Int.toNat_natCast (L*W)
      have fK:lineF c (K:Int)=K*W:=by unfold lineF;rw [eW];exact_mod_cast Int.toNat_natCast (K*W)
      have fW:c.words.toNat=W:=by rw [eW];rfl
      unfold lineL
      rw [fW] at a1 a3
      rw [fK] at a1
      rw [fL,fK,fW]
      have hwl:w.list.length=8:=rfl
      apply List.ext_getElem?
      intro i
      rw [List.getElem?_take,List.getElem?_take]
      split
      · rename_i hi
        rw [List.getElem?_drop,List.getElem?_drop,List.append_assoc]
        have ht:(ms.take (K*W)).length=K*W:=by rw [List.length_take];omega
        have hu:(w.list.take W).length=W:=by rw [List.length_take,hwl];omega
        rcases Nat.lt_or_gt_of_ne (show L≠K by omega) with hlt|hgt
        · have:(L+1)*W≤K*W:=Nat.mul_le_mul_right W hlt
          rw [Nat.add_mul,Nat.one_mul] at this
          rw [List.getElem?_append_left (by omega),List.getElem?_take,if_pos (by omega)]
        · have:(K+1)*W≤L*W:=Nat.mul_le_mul_right W hgt
          rw [Nat.add_mul,Nat.one_mul] at this
          rw [List.getElem?_append_right (by omega),List.getElem?_append_right (by omega),List.getElem?_drop]
          congr 1
          omega
      · rfl
    · rfl
  · rfl
theorem line_wr_self {c:Cfg} {ms:List Int} {line:Int} {w:Words} (hn:(ms.length:Int)=c.words*c.lines) (h:wrOk c line w=true):lineWo c (wrL c ms line w) line=w:=by
  have hk:okJoin c line 0=true:=by simp only [wrOk,Bool.and_eq_true] at h;exact h.1
  have ht:tailZ c w=true:=by simp only [wrOk,Bool.and_eq_true] at h;exact h.2
  obtain ⟨a1,a2,a3,_⟩:=line_rd hn hk
  unfold lineWo wrL
  rw [if_pos hk,if_pos h]
  have hwl:w.list.length=8:=rfl
  have e:lineL c (ms.take (lineF c line)++w.list.take c.words.toNat++ms.drop (lineF c line+c.words.toNat)) line=w.list.take c.words.toNat:=by
    unfold lineL
    have h1:(ms.take (lineF c line)).length=lineF c line:=by rw [List.length_take];omega
    have h2:(w.list.take c.words.toNat).length=c.words.toNat:=by rw [List.length_take,hwl];omega
    rw [List.append_assoc,List.drop_append_of_le_length (by omega),List.drop_of_length_le (by omega),List.nil_append,List.take_append_of_le_length (by omega),List.take_of_length_le (by omega)]
  rw [e]
  have hz:∀ i,c.words.toNat≤i→i<8→w.list.getD i 0=0:=by
    intro i h1 h2
    unfold tailZ at ht
    rw [List.all_eq_true] at ht
    have hi:i<w.list.length:=by rw [hwl];exact h2
    have:=ht w.list[i] (List.mem_iff_getElem.2 ⟨i-c.words.toNat,by simp [hwl];omega,by rw [List.getElem_drop];congr 1;omega⟩)
    simpa [hi] using this
  have hg:∀ i,i<8→(w.list.take c.words.toNat).getD i 0=w.list.getD i 0:=by
    intro i hi
    by_cases h1:i<c.words.toNat
    · simp [List.getD_eq_getElem?_getD,List.getElem?_take,h1]
    · rw [hz i (by omega) hi]
      simp [List.getD_eq_getElem?_getD,List.getElem?_take,h1]
  obtain ⟨w0,w1,w2,w3,w4,w5,w6,w7⟩:=w
  unfold Words.of
  simp only [hg 0 (by omega),hg 1 (by omega),hg 2 (by omega),hg 3 (by omega),hg 4 (by omega),hg 5 (by omega),hg 6 (by omega),hg 7 (by omega)]
  rfl
theorem line_do {c:Cfg} {ms:List Int} {x:Op3} (hn:(ms.length:Int)=c.words*c.lines) (h:apE c x=0) (line:Int):lineWo c (memDoL ms x) line=if line=addrL c x.addr then apW c (lineWo c ms line) x else lineWo c ms line:=by
  have hok:apOk c x=true:=Decidable.byContradiction fun e=>by unfold apE at h;rw [if_neg e] at h;cases h
  obtain ⟨_,_,_,_,_,_,g1,g2,_⟩:=apply_same hn hok
  rw [←g2]
  by_cases hl:line=addrL c x.addr
  · rw [if_pos hl,hl];exact line_wr_self hn g1
  · rw [if_neg hl];exact line_wr_ne hn hl
theorem ap_load {c:Cfg} {w:Words} {x:Op3} (h:apE c x=0) (hk:x.kind=1):apW c w x=w:=by
  have hok:apOk c x=true:=Decidable.byContradiction fun e=>by unfold apE at h;rw [if_neg e] at h;cases h
  unfold apW
  rw [if_pos hok]
  unfold touchL
  rw [if_neg (by omega),Words.of_list]
end Go.Sx
