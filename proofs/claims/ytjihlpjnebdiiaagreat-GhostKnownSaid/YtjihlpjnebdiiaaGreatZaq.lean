/- Pro6, MaZ, MaD, Pro2, Pro3, MaG: several of my texts as one. My own work. -/
import Derived.Test.YtjihlpjnebdiiaaGreatZap
set_option linter.unusedVariables false
set_option linter.unusedSectionVars false
set_option linter.unusedSimpArgs false
set_option maxRecDepth 100000
set_option maxHeartbeats 4000000
namespace Go.Sx
open Go Go.Proofs
section
section
variable {W:Type}
theorem d7q {v v':LV W} (h:LI v) {r own n:Int} {w:W} {m:AMs W} (hm':v.ms r=some m)
    (hst:∀ x,v'.st x=v.st x) (hwd:∀ x,v'.st x≠0→v'.wd x=v.wd x) (hms:∀ x,v'.ms x=if x=r then some { m with needs:=n,own:=own,w:=w} else v.ms x) (hbf:∀ x,v'.bf x=v.bf x) (hrq:v'.rq.Perm v.rq) {Rf:List (AM W)} (hfly0:v.fly.Perm (.data r own n w::Rf)) (hfly:v'.fly.Perm Rf) (hact:v'.act=v.act) (ho:v'.o=v.o) (hsh:∀ x,v'.sh x=v.sh x) (hmem:v'.mem=v.mem) (hnow:v'.now=v.now):LI v':=by
  obtain ⟨qm,cg,cp⟩:=a1o hrq
  obtain ⟨fm0,ck0,ct0,ci0,cd0⟩:=o7 hfly0
  obtain ⟨fm,ck,ct,ci,cd⟩:=b9e hfly
  have hin:=(fm0 _).2 (.inl rfl)
  obtain ⟨k0,r0,m1,hac,hr0,hm,hmk,hmn,hmo,hmg,hgot,hct,hcd,hn,hrr⟩:=kD h hin rfl
  simp only [a9l,b9d] at hrr hn
  subst hrr
  have hR:∀ x∈Rf,bQ x=false:=fun x hx=>by have:=List.countP_eq_zero.1 (by have:=ct0;simp only [bQ] at this;grind:Rf.countP bQ=0) x hx;simpa using this
  have hbu:∀ x,v'.busy x↔v.busy x:=fun x=>by unfold LV.busy;rw [hact];grind [cH]
  have hmr:=h.ml r m1 hm hmo
  have hbn:v.bf r=none:=by cases e:v.bf r with|none=>rfl|some x=>(have:=(h.b1 r x.1 x.2 e).2.2;rw [hm] at this;cases this)
  obtain rfl:m=m1:=by rw [hm'] at hm;cases hm;rfl
  have htd:=h.td _ _ _ _ hin
  have haK:=h.aK _ _ hac
  have hbr:v.busy r:=⟨_,hac,hcd⟩
  have hho:∀ x,v.holds x↔v'.holds x:=fun x=>by unfold LV.holds;rw [hst,hbf,cp]
  refine { p:=?zp}
  case zp=>
    intro k1 r1 h1
    have:=h.p k1 r1
    have f1:=h.f1 r
    have f2:=h.f2 r
    obtain ⟨rfl,rfl⟩:k1=m.kind∧r1=r:=by grind
    refine .inr (.inl ⟨_,by rw [hms,if_pos rfl],?_⟩)
    grind [bQ,qF,cH]
theorem c9t {v v':LV W} (h:LI v) {r n:Int} {z:W} {m:AMs W} (hm':v.ms r=some m)
    (hst:∀ x,v'.st x=v.st x) (hwd:∀ x,v'.st x≠0→v'.wd x=v.wd x) (hms:∀ x,v'.ms x=if x=r then some { m with needs:=n,own:=4,w:=z,gr:=true} else v.ms x) (hbf:∀ x,v'.bf x=v.bf x) (hrq:v'.rq.Perm v.rq) {Rf:List (AM W)} (hfly0:v.fly.Perm (.grant r n::Rf)) (hfly:v'.fly.Perm Rf) (hact:v'.act=v.act) (ho:v'.o=v.o) (hsh:∀ x,v'.sh x=v.sh x) (hmem:v'.mem=v.mem) (hnow:v'.now=v.now):LI v':=by
  obtain ⟨qm,cg,cp⟩:=a1o hrq
  obtain ⟨fm0,ck0,ct0,ci0,cd0⟩:=o7 hfly0
  obtain ⟨fm,ck,ct,ci,cd⟩:=b9e hfly
  have hin:=(fm0 _).2 (.inl rfl)
  obtain ⟨k0,r0,m1,hac,hr0,hm,hmk,hmn,hmo,hmg,hgot,hct,hcd,hn,hrr⟩:=kD h hin rfl
  simp only [a9l,b9d] at hrr hn
  subst hrr
  have hk0:k0=2:=by rcases (h.aK _ _ hac).1 with e|e<;>subst e<;>first|rfl|(exfalso;have f1:=h.f1 _ hac _ hin;grind)|(exfalso;have f2:=h.f2 _ hac _ hin;grind)
  subst hk0
  have hR:∀ x∈Rf,bQ x=false:=fun x hx=>by have:=List.countP_eq_zero.1 (by have:=ct0;simp only [bQ] at this;grind:Rf.countP bQ=0) x hx;simpa using this
  have hbu:∀ x,v'.busy x↔v.busy x:=fun x=>by unfold LV.busy;rw [hact];grind [cH]
  have hmr:=h.ml r m1 hm hmo
  have hbn:v.bf r=none:=by cases e:v.bf r with|none=>rfl|some x=>(have:=(h.b1 r x.1 x.2 e).2.2;rw [hm] at this;cases this)
  obtain rfl:m=m1:=by rw [hm'] at hm;cases hm;rfl
  have htg:=h.tg _ _ hin
  have hbr:v.busy r:=⟨_,hac,hcd⟩
  have hho:∀ x,v.holds x↔v'.holds x:=fun x=>by unfold LV.holds;rw [hst,hbf,cp]
  constructor
  case rqk=>intro x hx;have:=h.rqk x;exact bP
  case g0=>intro r1 h1;have:=h.g0 r1;exact bP
  case g1=>intro r1 m1 h1 h2;have:=h.g1 r1 m1;exact bP
  case gk=>intro k1 r1 h1;have:=h.gk k1 r1;exact bP
  case gA=>intro r1 h1;have:=h.gA r1;exact bP
  case aK=>intro k1 r1 h1;have:=h.aK k1 r1;exact bP
  case mK=>intro r1 m1 h1;have:=h.mK r1 m1;exact bP
  case ml=>intro r1 m1 h1 h2;have:=h.ml r1 m1;exact bP
  case b0=>intro r1 h1;have:=h.b0 r1;exact bP
  case b1=>intro r1 w1 l1 h1;have:=h.b1 r1 w1 l1;exact bP
  case bw=>intro r1 w1 h1;have:=h.bw r1 w1;exact bP
  case bl=>intro r1 w1 h1 h2;have:=h.bl r1 w1;exact bP
  case f0=>intro h1 x hx;have:=h.f0;exact bP
  case f1=>intro r1 h1 x hx;have:=h.f1 r1;exact bP
  case f2=>intro r1 h1 x hx;have:=h.f2 r1;exact bP
  case p=>intro k1 r1 h1;have:=h.p k1 r1;exact bP
  case a2=>intro r1 h1;have:=h.a2 r1;exact bP
  case tf=>intro k1 o1 r1 n1 h1;have:=h.tf k1 o1 r1 n1;exact bP
  case td=>intro r1 own1 n1 w1 h1;have:=h.td r1 own1 n1 w1;exact bP
  case tg=>intro r1 n1 h1;have:=h.tg r1 n1;exact bP
  case iv=>intro c1 r1 h1;have:=h.iv c1 r1;exact bP
  case e=>intro c1 h1;have:=h.e c1;exact bP
  case h=>intro h1;have:=h.h;exact bP
  case s=>intro c1 h1 c2 h2;have:=h.s c1;exact bP
  case wn=>intro c1 h1;have:=h.wn c1;exact bP
  case mn=>intro h1;have:=h.mn;exact bP
  case k=>intro c1 h1;have:=h.k c1;exact bP
  case r=>intro c1;have:=h.r c1;exact bP
  case rg=>intro c1 h1;have:=h.rg c1;exact bP
theorem e3x {v v':LV W} (h:LI v) {r:Int} {m:AMs W} (hm:v.ms r=some m)
    (hst:∀ x,v'.st x=v.st x) (hwd:∀ x,v'.st x≠0→v'.wd x=v.wd x) (hms:∀ x,v'.ms x=if x=r then some { m with got:=m.got+1} else v.ms x) (hbf:∀ x,v'.bf x=v.bf x) (hrq:v'.rq.Perm v.rq) {Rf:List (AM W)} (hfly0:v.fly.Perm (.ack r::Rf)) (hfly:v'.fly.Perm Rf) (hact:v'.act=v.act) (ho:v'.o=v.o) (hsh:∀ x,v'.sh x=v.sh x) (hmem:v'.mem=v.mem) (hnow:v'.now=v.now):LI v':=by
  obtain ⟨qm,cg,cp⟩:=a1o hrq
  obtain ⟨fm0,ck0,ct0,ci0,cd0⟩:=o7 hfly0
  obtain ⟨fm,ck,ct,ci,cd⟩:=b9e hfly
  have hin:=(fm0 _).2 (.inl rfl)
  have hac:v.act=some (2,r):=by cases e:v.act with|none=>(have:=h.f0 e _ hin;grind)|some a=>(have:=h.aK a.1 a.2 e;have:=h.f1 a.2;have:=h.f2 a.2;grind)
  have hbu:∀ x,v'.busy x↔v.busy x:=fun x=>by unfold LV.busy;rw [hact];grind [cH]
  have hp:=h.p 2 r hac
  have hbr:v.busy r:=⟨_,hac,by grind [qF]⟩
  have hho:∀ x,v.holds x↔v'.holds x:=fun x=>by unfold LV.holds;rw [hst,hbf,cp]
  refine { ml:=?zml,p:=?zp}
  case zml=>
    intro r1 m1 h1 h2
    have:=h.ml r1 m1
    have:=h.ml r m hm;exact bP
  case zp=>
    intro k1 r1 h1
    have:=h.p k1 r1
    obtain ⟨rfl,rfl⟩:k1=2∧r1=r:=by grind
    rcases hp with ⟨m1,g1,g2⟩|⟨m1,g1,g2⟩|⟨m1,g1,g2⟩|g2
    · refine .inl ⟨_,by rw [hms,if_pos rfl],?_⟩;grind [bQ,qF,cH]
    · refine .inr (.inl ⟨_,by rw [hms,if_pos rfl],?_⟩);grind [bQ,qF,cH]
    · grind [bQ,qF,cH]
    · grind [bQ,qF,cH]
end
end
section
def f0s (c:Cfg) (t:MaS) (d L:Int):Prop:=∀ line,aP c line=true→LI (dX c t line)∧∀ r m,(dX c t line).ms r=some m→m.needs=m.got→m.ow=true∨(line=L∧r=d)
section
variable {c:Cfg} {n:Nat} {s:MaS} {line j k:Int}
theorem c9u {t:MaS} {d L:Int} {m:AMs Words} (h:f0s c t d L) (hx:mO c n (cI t d)) (h0:0≤d) (h1:d<t.cs.length) (hm:a1h (cI t d) L=some m) (how:m.ow=false) (hn:m.needs≠ -1) (hown:0≤m.own∧m.own≤4):c1s c (dW t d (dM c (cI t d) L)):=by
  intro line hline
  obtain ⟨hLI,hNF⟩:=h line hline
  obtain ⟨v1,v2,v3,v4⟩:=d7e (c:=c) (s:=t) (line:=line) h0
  by_cases hg:m.needs=m.got
  · have ev:=e1j hx hm hg how hown
    have hp:=vZ (c:=c) (s:=t) (s':=dW t d (dM c (cI t d) L)) (line:=line) h0 h1 rfl ev
    by_cases hL:line=L
    · subst hL
      rw [if_pos rfl,if_pos rfl,if_pos rfl] at hp
      refine ⟨e0x (r:=d) (m:=m) hLI (by rw [v3];exact hm) hn hg how hp.st (fun x hx=>?_) hp.ms (dE hp.bf v4.symm) (List.Perm.refl _) (List.Perm.refl _) rfl rfl (fun _=>rfl) rfl rfl,fun r m' hm' hn'=>?_⟩
      · rw [hp.wd x hx,v2]
      · have e:=(hp.ms r).symm.trans hm'
        by_cases hr:r=d
        · rw [if_pos hr] at e;cases e;rfl
        · rw [if_neg hr] at e
          rcases hNF r m' e hn' with g|g
          · exact g
          · exact absurd g.2 hr
    · rw [if_neg hL,if_neg hL,if_neg hL] at hp
      have hN:NF (dX c t line):=fun r m' hm' hn'=>by
        rcases hNF r m' hm' hn' with g|g
        · exact g
        · exact absurd g.1 hL
      exact nR h0 hp rfl rfl rfl rfl rfl rfl (List.Perm.refl _) (List.Perm.refl _) ⟨hLI,hN⟩
  · rw [b1b hm (.inl hg),b3k]
    refine ⟨hLI,fun r m' hm' hn'=>?_⟩
    rcases hNF r m' hm' hn' with g|⟨g1,g2⟩
    · exact g
    · subst g1 g2
      rw [v3,hm] at hm'
      cases hm'
      exact absurd hn' hg
structure Tk2 (c:Cfg) (s s':MaS) (j:Int) (m:Msg) (k':CaS):Prop where
  cs:s'.cs=(dW s m.dst k').cs
  hs:s'.hs=s.hs
  tr:s'.tr=s.tr
  n:s'.n=aL s.n 2 j
theorem a8b {s':MaS} {m:Msg} {k':CaS} (h:Tk2 c s s' j m k') (hb:jN s.n 2 j=true):(dX c s' line).rq.Perm (dX c s line).rq:=by
  have hH:aO c s' line=aO c s line:=by unfold aO dH;rw [h.hs]
  show (e6g line s'.n (aO c s' line).q).Perm _
  rw [h.n,hH]
  exact (lH (c:=c) (line:=line) hb (.inr rfl)).1.symm
theorem a0a {s':MaS} {m:Msg} {k':CaS} (h:Tk2 c s s' j m k') (hb:jN s.n 2 j=true) (hm:bD s.n 2 j=m):(dX c s line).fly.Perm (if m.line=line then pW m::(dX c s' line).fly else (dX c s' line).fly):=by
  have hH:aO c s' line=aO c s line:=by unfold aO dH;rw [h.hs]
  have:=(lH (c:=c) (line:=line) hb (.inr rfl)).2
  rw [hm] at this
  have e:(dX c s' line).fly=rQ line (aL s.n 2 j) (aO c s line).q:=by
    show rQ line s'.n (aO c s' line).q=_
    rw [h.n,hH]
  rw [e];exact this
theorem zN {s':MaS} {m:Msg} {k':CaS} (h:Tk2 c s s' j m k'):(dX c s' line).act=(dX c s line).act∧(dX c s' line).o=(dX c s line).o∧(∀ x,(dX c s' line).sh x=(dX c s line).sh x)∧(dX c s' line).mem=(dX c s line).mem∧(dX c s' line).now=(dX c s line).now:=by
  have hH:aO c s' line=aO c s line:=by unfold aO dH;rw [h.hs]
  refine ⟨?_,?_,fun x=>?_,?_,?_⟩
  · show gX line (aO c s' line).q=_;rw [hH];rfl
  · show (aJ (aO c s' line) line).o=_;rw [hH];rfl
  · show bN (aJ (aO c s' line) line).s x=_;rw [hH];rfl
  · show aI c (aO c s' line).ms line=_;rw [hH];rfl
  · show aI c (jC c s'.tr) line=_;rw [h.tr];rfl
theorem c9v {v:LV Words} (h:LI v) {d own acks:Int} {w:Words} (hx: .data d own acks w∈v.fly):∃ a,v.ms d=some a∧a.needs= -1∧a.ow=false∧a.got≤acks∧((a.kind=2∧own=4)∨(a.kind=1∧acks=0∧(own=1∨own=2))):=by
  obtain ⟨k0,r0,a,h1,h2,h3,h4,h5,h6,h7,h8,h9,h10,h11,h12⟩:=kD h hx rfl
  have e1:d=r0:=h12
  have e2:acks=a.got+v.ci:=h11
  subst e1
  refine ⟨a,h3,h5,h6,om,?_⟩
  rcases (h.aK _ _ h1).1 with rfl|rfl
  · right
    rcases h.f1 _ h1 _ hx with ⟨_,g⟩|⟨_,g⟩|⟨_,_,g,g2⟩|g
    · cases g
    · cases g
    · cases g;exact ⟨h4,rfl,g2⟩
    · cases g
  · left
    rcases h.f2 _ h1 _ hx with ⟨_,g⟩|⟨_,_,g⟩|⟨_,_,g⟩|⟨_,g⟩|⟨_,g⟩|g|g
    all_goals first|(cases g;exact ⟨h4,rfl⟩)|cases g
theorem b9j {v:LV Words} (h:LI v) {d acks:Int} (hx: .grant d acks∈v.fly):∃ a,v.ms d=some a∧a.needs= -1∧a.ow=false∧a.got≤acks∧a.kind=2∧v.st d=3:=by
  obtain ⟨k0,r0,a,h1,h2,h3,h4,h5,h6,h7,h8,h9,h10,h11,h12⟩:=kD h hx rfl
  have e1:d=r0:=h12
  have e2:acks=a.got+v.ci:=h11
  subst e1
  refine ⟨a,h3,h5,h6,om,?_,(h.tg _ _ hx).1⟩
  rcases (h.aK _ _ h1).1 with rfl|rfl
  · exfalso
    rcases h.f1 _ h1 _ hx with ⟨_,g⟩|⟨_,g⟩|⟨_,_,g,_⟩|g<;>cases g
  · exact h4
theorem c9w {v:LV Words} (h:LI v) {d:Int} (hx: .ack d∈v.fly):∃ a,v.ms d=some a∧a.ow=false∧a.kind=2∧a.needs≠a.got∧(a.needs≠ -1→a.own=4)∧0≤a.got:=by
  have hi:=b3v hx rfl
  have hact:v.act=some (2,d):=by
    cases e:v.act with
    |none=>obtain ⟨_,g⟩:=h.f0 e _ hx;cases g
    |some a=>
     obtain ⟨k0,r0⟩:=a
     rcases (h.aK _ _ e).1 with rfl|rfl
     · rcases h.f1 _ e _ hx with ⟨_,g⟩|⟨_,g⟩|⟨_,_,g,_⟩|g<;>cases g
     · rcases h.f2 _ e _ hx with ⟨_,g⟩|⟨_,_,g⟩|⟨_,_,g⟩|⟨_,g⟩|⟨_,g⟩|g|g
       all_goals first|(cases g;rfl)|cases g
  rcases h.p _ _ hact with ⟨a,g1,g2,g3,g4,g5,g6,g7,g8,g9⟩|⟨a,g1,g2,g3,g4,g5,g6,g7,g8,g9,g10⟩|⟨a,g1,g2,g3,g4,g5,g6,g7,g8,g9⟩|⟨g1,g2,g3⟩
  · exact ⟨a,g1,g5,g2,om,fun e=>absurd g3 e,g4⟩
  · exact ⟨a,g1,g5,g2,om,fun _=>g9 rfl,g3⟩
  · omega
  · omega
theorem a7b {t:MaS} {m:Msg} {k':CaS} {a':AMs Words} (h:c1s c s) (hl:MaL c n s) (hb:jN s.n 2 j=true) (hm:bD s.n 2 j=m) (hd:0≤m.dst∧m.dst<c.cores) (ht:Tk2 c s t j m k')
    (ev:CaEv c (cI s m.dst) k' (y7 c (cI s m.dst)) (b4u c (cI s m.dst)) (fun x=>if x=m.line then some a' else a1h (cI s m.dst) x) (b2f (cI s m.dst)))
    (hli:aP c m.line=true→LI (dX c s m.line)→(∀ x,(dX c t m.line).st x=(dX c s m.line).st x)→(∀ x,(dX c t m.line).st x≠0→(dX c t m.line).wd x=(dX c s m.line).wd x)→(∀ x,(dX c t m.line).ms x=if x=m.dst then some a' else (dX c s m.line).ms x)→(∀ x,(dX c t m.line).bf x=(dX c s m.line).bf x)→LI (dX c t m.line)):f0s c t m.dst m.line:=by
  intro line hline
  obtain ⟨hLI,hNF⟩:=h line hline
  obtain ⟨v1,v2,v3,v4⟩:=d7e (c:=c) (s:=s) (line:=line) hd.1
  have hp:=vZ (c:=c) (s:=s) (s':=t) (line:=line) hd.1 (qI hl hd) ht.cs ev
  have hq:=a8b (c:=c) (line:=line) ht hb
  have hf:=a0a (c:=c) (line:=line) ht hb hm
  by_cases hL:line=m.line
  · subst hL
    rw [if_pos rfl] at hp
    refine ⟨hli hline hLI (dE hp.st v1.symm) (fun x hx=>?_) hp.ms (dE hp.bf v4.symm),fun r m' hm' hn=>?_⟩
    · refine (hp.wd x hx).trans ?_
      split
      · rename_i g;rw [g,v2]
      · rfl
    · have e:=(hp.ms r).symm.trans hm'
      by_cases hr:r=m.dst
      · exact .inr ⟨rfl,hr⟩
      · rw [if_neg hr] at e
        exact .inl (hNF r m' e hn)
  · rw [if_neg hL] at hp
    rw [if_neg (fun g=>hL g.symm)] at hf
    have:=nR hd.1 hp rfl rfl rfl rfl ht.hs (by rw [ht.tr]) hq hf.symm ⟨hLI,hNF⟩
    exact ⟨this.1,fun r m' hm' hn=> .inl (this.2 r m' hm' hn)⟩
theorem n6 (m:Msg) (k':CaS):Tk2 c s (dW (gI s (aL s.n 2 j)) m.dst k') j m k':=⟨rfl,rfl,rfl,rfl⟩
theorem e8a (t:MaS) (d:Int) (k1 k2:CaS):dW (dW t d k1) d k2=dW t d k2:=by unfold dW;simp only [List.set_set]
theorem e2o (hl:MaL c n s) {d:Int} (hd:0≤d∧d<c.cores) (k':CaS):cI (dW (gI s (aL s.n 2 j)) d k') d=k':=by
  have:=qI hl hd
  show (s.cs.set d.toNat k').getD d.toNat caZ=k'
  rw [List.getD_eq_getElem?_getD,List.getElem?_set_self (om)];rfl
theorem b2n (hl:MaL c n s) {m:Msg} {k1:CaS} {a':AMs Words} (hd:0≤m.dst∧m.dst<c.cores) (hx:mO c (n+1) k1) (h:f0s c (dW (gI s (aL s.n 2 j)) m.dst k1) m.dst m.line) (hm:a1h k1 m.line=some a') (how:a'.ow=false) (hn:a'.needs≠ -1) (hown:0≤a'.own∧a'.own≤4) :
    c1s c (dW (gI s (aL s.n 2 j)) m.dst (dM c k1 m.line)):=by
  have e:=e2o (j:=j) hl hd k1
  have:=c9u (t:=dW (gI s (aL s.n 2 j)) m.dst k1) (d:=m.dst) (L:=m.line) (n:=n+1) h (by rw [e];exact hx) hd.1 (by show m.dst<((s.cs.set _ _).length:Int);rw [List.length_set];exact qI hl hd) (by rw [e];exact hm) how hn hown
  rw [e,e8a] at this
  exact this
theorem wO {m:Msg} (h:d6 c m):aP c m.line=true:=by unfold aP;rw [h.1,decide_eq_true h.2.2.1];rfl
theorem c9x {m:Msg} (h:c1s c s) (hl:MaL c n s) (hb:jN s.n 2 j=true) (hm:bD s.n 2 j=m) (hk:m.kind=7):bI c m.dst (cI s m.dst) m=0∧c1s c (dW (gI s (aL s.n 2 j)) m.dst (bH c m.dst (cI s m.dst) m)):=by
  have hmay:=(hl.nt 2 _ (d8 hb)).1
  rw [hm] at hmay
  have hd:=n4 hmay (by unfold cE;omega)
  have hlok:=wO hmay
  have hA:pW m= .data m.dst m.own m.acks m.words:=by
    unfold pW
    rw [if_neg (om),if_neg (om),if_neg (om),if_neg (om),if_neg (om),if_pos hk]
  have hf:=(lH (c:=c) (line:=m.line) hb (.inr rfl)).2
  rw [hm,if_pos rfl,hA] at hf
  obtain ⟨a,a1,a2,a3,a4,a5⟩:=c9v (h _ hlok).1 (hf.mem_iff.2 (List.mem_cons_self ..))
  obtain ⟨v1,v2,v3,v4⟩:=d7e (c:=c) (s:=s) (line:=m.line) hd.1
  have a1':a1h (cI s m.dst) m.line=some a:=v3.symm.trans a1
  obtain ⟨hE,ev⟩:=b8q (c:=c) (w:=m.words) a1' a2 a4 a5
  have hok:=wN hmay (om)
  have hacks:0≤m.acks:=by
    have h4:=hmay.2.2.2.1
    unfold jD at h4
    rw [if_neg (by unfold cE;omega),if_neg (om),if_neg (om),if_pos hk] at h4
    exact h4.2.1.1
  have hE7:a3q (iB (cI s m.dst).mis m.line m.acks m.own)=0:=by rw [hE];rfl
  have hK:bH c m.dst (cI s m.dst) m=dM c ⟨(cI s m.dst).ways,iS (cI s m.dst).mis m.line m.acks m.own m.words,(cI s m.dst).buf⟩ m.line:=by
    unfold bH qT
    rw [if_pos hok,if_neg (om),if_neg (om),if_neg (om),if_pos hk,if_pos hE]
  refine ⟨by unfold bI;rw [if_pos hok,if_neg (om),if_neg (om),if_pos hk,hE7],?_⟩
  rw [hK]
  have hx:=hl.cai m.dst
  have hx':mO c (n+1) ⟨(cI s m.dst).ways,iS (cI s m.dst).mis m.line m.acks m.own m.words,(cI s m.dst).buf⟩:=
    ⟨⟨hx.1.1,hx.1.2.1,c3u (fun m hm=>a0j (Nat.le_succ n) (hx.1.2.2 m hm))⟩,by
      have:=hx.2.1
      unfold c2b mA at this ⊢
      dsimp only
      rw [c3x];exact this,hx.2.2.1,c3y hx.2.2.2.1 (b7v hmay),hx.2.2.2.2⟩
  refine b2n (a':={ a with needs:=m.acks,own:=m.own,w:=m.words}) hl hd hx' ?_ (by rw [ev.ms,if_pos rfl]) a3 (by show m.acks≠ -1;omega) (by show 0≤m.own∧m.own≤4;omega)
  refine a7b h hl hb hm hd (n6 m _) ev fun _ hLI hst hwd hms hbf=>?_
  obtain ⟨r1,r2,r3,r4,r5⟩:=zN (c:=c) (line:=m.line) (n6 (c:=c) (s:=s) (j:=j) m ⟨(cI s m.dst).ways,iS (cI s m.dst).mis m.line m.acks m.own m.words,(cI s m.dst).buf⟩)
  have hfly:=a0a (c:=c) (line:=m.line) (n6 (c:=c) (s:=s) (j:=j) m ⟨(cI s m.dst).ways,iS (cI s m.dst).mis m.line m.acks m.own m.words,(cI s m.dst).buf⟩) hb hm
  rw [if_pos rfl,hA] at hfly
  exact d7q hLI a1 hst hwd hms hbf (a8b (n6 m _) hb) hfly (List.Perm.refl _) r1 r2 r3 r4 r5
theorem c5r {m:Msg} (h:c1s c s) (hl:MaL c n s) (hb:jN s.n 2 j=true) (hm:bD s.n 2 j=m) (hk:m.kind=8):bI c m.dst (cI s m.dst) m=0∧c1s c (dW (gI s (aL s.n 2 j)) m.dst (bH c m.dst (cI s m.dst) m)):=by
  have hmay:=(hl.nt 2 _ (d8 hb)).1
  rw [hm] at hmay
  have hd:=n4 hmay (by unfold cE;omega)
  have hlok:=wO hmay
  have hA:pW m= .grant m.dst m.acks:=by
    unfold pW
    rw [if_neg (om),if_neg (om),if_neg (om),if_neg (om),if_neg (om),if_neg (om),if_pos hk]
  have hf:=(lH (c:=c) (line:=m.line) hb (.inr rfl)).2
  rw [hm,if_pos rfl,hA] at hf
  obtain ⟨a,a1,a2,a3,a4,a5,a6⟩:=b9j (h _ hlok).1 (hf.mem_iff.2 (List.mem_cons_self ..))
  obtain ⟨v1,v2,v3,v4⟩:=d7e (c:=c) (s:=s) (line:=m.line) hd.1
  have a1':a1h (cI s m.dst) m.line=some a:=v3.symm.trans a1
  obtain ⟨hE,ev⟩:=c8d (c:=c) a1' a2 a4 a5
  have hok:=wN hmay (om)
  have hacks:0≤m.acks:=by
    have h4:=hmay.2.2.2.1
    unfold jD at h4
    rw [if_neg (by unfold cE;omega),if_neg (om),if_neg (om),if_neg (om),if_pos hk] at h4
    exact h4.2.2.2.2.1
  have h3:(aT c (cI s m.dst).ways m.line).st=3:=v1.symm.trans a6
  have hG:a9d c (cI s m.dst) m=0:=by unfold a9d;rw [if_pos h3,hE];rfl
  have hK:bH c m.dst (cI s m.dst) m=dM c ⟨(cI s m.dst).ways,gZ (cI s m.dst).mis m.line m.acks,(cI s m.dst).buf⟩ m.line:=by
    unfold bH zQ
    rw [if_pos hok,if_neg (om),if_neg (om),if_neg (om),if_neg (om),if_pos hk,if_pos hG]
  refine ⟨by unfold bI;rw [if_pos hok,if_neg (om),if_neg (om),if_neg (om),if_pos hk,hG],?_⟩
  rw [hK]
  have hx:=hl.cai m.dst
  have hx':mO c (n+1) ⟨(cI s m.dst).ways,gZ (cI s m.dst).mis m.line m.acks,(cI s m.dst).buf⟩:=
    ⟨⟨hx.1.1,hx.1.2.1,b7o (fun m hm=>a0j (Nat.le_succ n) (hx.1.2.2 m hm))⟩,by
      have:=hx.2.1
      unfold c2b mA at this ⊢
      dsimp only
      rw [b7s];exact this,hx.2.2.1,b7u hx.2.2.2.1,hx.2.2.2.2⟩
  refine b2n (a':={ a with needs:=m.acks,own:=4,w:= .zero,gr:=true}) hl hd hx' ?_ (by rw [ev.ms,if_pos rfl]) a3 (by show m.acks≠ -1;omega) (by show (0:Int)≤4∧(4:Int)≤4;omega)
  refine a7b h hl hb hm hd (n6 m _) ev fun _ hLI hst hwd hms hbf=>?_
  obtain ⟨r1,r2,r3,r4,r5⟩:=zN (c:=c) (line:=m.line) (n6 (c:=c) (s:=s) (j:=j) m ⟨(cI s m.dst).ways,gZ (cI s m.dst).mis m.line m.acks,(cI s m.dst).buf⟩)
  have hfly:=a0a (c:=c) (line:=m.line) (n6 (c:=c) (s:=s) (j:=j) m ⟨(cI s m.dst).ways,gZ (cI s m.dst).mis m.line m.acks,(cI s m.dst).buf⟩) hb hm
  rw [if_pos rfl,hA] at hfly
  exact c9t hLI a1 hst hwd hms hbf (a8b (n6 m _) hb) hfly (List.Perm.refl _) r1 r2 r3 r4 r5
theorem d7r {m:Msg} (h:c1s c s) (hl:MaL c n s) (hb:jN s.n 2 j=true) (hm:bD s.n 2 j=m) (hk:m.kind=9):bI c m.dst (cI s m.dst) m=0∧c1s c (dW (gI s (aL s.n 2 j)) m.dst (bH c m.dst (cI s m.dst) m)):=by
  have hmay:=(hl.nt 2 _ (d8 hb)).1
  rw [hm] at hmay
  have hd:=n4 hmay (by unfold cE;omega)
  have hlok:=wO hmay
  have hA:pW m= .ack m.dst:=by
    unfold pW
    rw [if_neg (om),if_neg (om),if_neg (om),if_neg (om),if_neg (om),if_neg (om),if_neg (om),if_pos hk]
  have hf:=(lH (c:=c) (line:=m.line) hb (.inr rfl)).2
  rw [hm,if_pos rfl,hA] at hf
  obtain ⟨a,a1,a3,a5,a4,a7,a8⟩:=c9w (h _ hlok).1 (hf.mem_iff.2 (List.mem_cons_self ..))
  obtain ⟨v1,v2,v3,v4⟩:=d7e (c:=c) (s:=s) (line:=m.line) hd.1
  have a1':a1h (cI s m.dst) m.line=some a:=v3.symm.trans a1
  obtain ⟨hE,ev⟩:=e1i (c:=c) a1' (om) a4
  have hok:=wN hmay (om)
  have hK:bH c m.dst (cI s m.dst) m=dM c ⟨(cI s m.dst).ways,nJ (cI s m.dst).mis m.line,(cI s m.dst).buf⟩ m.line:=by
    unfold bH wT
    rw [if_pos hok,if_neg (om),if_neg (om),if_neg (om),if_neg (om),if_neg (om),if_pos hk,if_pos hE]
  refine ⟨by unfold bI;rw [if_pos hok,if_neg (om),if_neg (om),if_neg (om),if_neg (om),if_pos hk,hE];rfl,?_⟩
  rw [hK]
  have hx:=hl.cai m.dst
  have hx':mO c (n+1) ⟨(cI s m.dst).ways,nJ (cI s m.dst).mis m.line,(cI s m.dst).buf⟩:=
    ⟨⟨hx.1.1,hx.1.2.1,d4v hx.1.2.2⟩,by
      have:=hx.2.1
      unfold c2b mA at this ⊢
      dsimp only
      rw [d4z];exact this,hx.2.2.1,d5e hx.2.2.2.1,hx.2.2.2.2⟩
  have hX:f0s c (dW (gI s (aL s.n 2 j)) m.dst ⟨(cI s m.dst).ways,nJ (cI s m.dst).mis m.line,(cI s m.dst).buf⟩) m.dst m.line:=by
    refine a7b h hl hb hm hd (n6 m _) ev fun _ hLI hst hwd hms hbf=>?_
    obtain ⟨r1,r2,r3,r4,r5⟩:=zN (c:=c) (line:=m.line) (n6 (c:=c) (s:=s) (j:=j) m ⟨(cI s m.dst).ways,nJ (cI s m.dst).mis m.line,(cI s m.dst).buf⟩)
    have hfly:=a0a (c:=c) (line:=m.line) (n6 (c:=c) (s:=s) (j:=j) m ⟨(cI s m.dst).ways,nJ (cI s m.dst).mis m.line,(cI s m.dst).buf⟩) hb hm
    rw [if_pos rfl,hA] at hfly
    exact e3x hLI a1 hst hwd hms hbf (a8b (n6 m _) hb) hfly (List.Perm.refl _) r1 r2 r3 r4 r5
  have hc2:a1h (⟨(cI s m.dst).ways,nJ (cI s m.dst).mis m.line,(cI s m.dst).buf⟩:CaS) m.line=some { a with got:=a.got+1}:=by rw [ev.ms,if_pos rfl]
  by_cases hn1:a.needs= -1
  · have e:=e2o (j:=j) hl hd ⟨(cI s m.dst).ways,nJ (cI s m.dst).mis m.line,(cI s m.dst).buf⟩
    have hno:dM c ⟨(cI s m.dst).ways,nJ (cI s m.dst).mis m.line,(cI s m.dst).buf⟩ m.line=⟨(cI s m.dst).ways,nJ (cI s m.dst).mis m.line,(cI s m.dst).buf⟩:=b1b hc2 (.inl (by show a.needs≠a.got+1;omega))
    rw [hno]
    intro line hline
    obtain ⟨g1,g2⟩:=hX line hline
    refine ⟨g1,fun r m' hm' hn'=>?_⟩
    rcases g2 r m' hm' hn' with g|⟨e1,e2⟩
    · exact g
    · subst e1 e2
      have:=(d7e (c:=c) (s:=dW (gI s (aL s.n 2 j)) m.dst ⟨(cI s m.dst).ways,nJ (cI s m.dst).mis m.line,(cI s m.dst).buf⟩) (line:=m.line) hd.1).2.2.1
      rw [this,e,hc2] at hm'
      cases hm'
      have:a.needs=a.got+1:=hn'
      omega
  · exact b2n (a':={ a with got:=a.got+1}) hl hd hx' hX hc2 a3 hn1 (by have:=a7 hn1;show 0≤a.own∧a.own≤4;omega)
theorem c9y {m:Msg} (h:c1s c s) (hl:MaL c n s) (hb:jN s.n 2 j=true) (hm:bD s.n 2 j=m) (hk:m.kind=10):bI c m.dst (cI s m.dst) m=0∧c1s c (dW (gI s (aL s.n 2 j)) m.dst (bH c m.dst (cI s m.dst) m)):=by
  have hmay:=(hl.nt 2 _ (d8 hb)).1
  rw [hm] at hmay
  have hd:=n4 hmay (by unfold cE;omega)
  have hlok:=wO hmay
  have hA:pW m= .pack m.dst:=by
    unfold pW
    rw [if_neg (om),if_neg (om),if_neg (om),if_neg (om),if_neg (om),if_neg (om),if_neg (om),if_neg (om),if_pos hk]
  have hf:=(lH (c:=c) (line:=m.line) hb (.inr rfl)).2
  rw [hm,if_pos rfl,hA] at hf
  have hx:=hf.mem_iff.2 (List.mem_cons_self ..)
  have hin:lO (cI s m.dst).buf m.line=true:=by
    cases e:lO (cI s m.dst).buf m.line with
    |true=>rfl
    |false=>
     have hb0:(dX c s m.line).bf m.dst=none:=by rw [(d7e (c:=c) (s:=s) (line:=m.line) hd.1).2.2.2];unfold b2f;rw [c1h e];rfl
     have:=((h _ hlok).1.b0 _ hb0).2
     have h1:1≤(dX c s m.line).ck m.dst:=qO hx (by unfold n5;exact decide_eq_true rfl)
     omega
  have hok:=wN hmay (om)
  have hK:bH c m.dst (cI s m.dst) m=a9e (cI s m.dst) m.line:=by
    unfold bH
    rw [if_pos hok,if_neg (om),if_neg (om),if_neg (om),if_neg (om),if_neg (om),if_neg (om)]
  refine ⟨by unfold bI;rw [if_pos hok,if_neg (om),if_neg (om),if_neg (om),if_neg (om),if_neg (om)];unfold pR;rw [if_pos hin];rfl,?_⟩
  rw [hK]
  have ev:=e1h (line:=m.line) (hl.cai m.dst)
  have ht:=n6 (c:=c) (s:=s) (j:=j) m (a9e (cI s m.dst) m.line)
  intro line hline
  obtain ⟨hLI,hNF⟩:=h line hline
  obtain ⟨v1,v2,v3,v4⟩:=d7e (c:=c) (s:=s) (line:=line) hd.1
  have hp:=vZ (c:=c) (s:=s) (line:=line) hd.1 (qI hl hd) ht.cs ev
  have hq:=a8b (c:=c) (line:=line) ht hb
  have hff:=a0a (c:=c) (line:=line) ht hb hm
  by_cases hL:line=m.line
  · subst hL
    rw [if_pos rfl] at hp
    rw [if_pos rfl,hA] at hff
    obtain ⟨r1,r2,r3,r4,r5⟩:=zN (c:=c) (line:=m.line) ht
    have hms:=dE hp.ms v3.symm
    refine ⟨e0y hLI (dE hp.st v1.symm) (fun x hx=>?_) hms hp.bf hq hff (List.Perm.refl _) r1 r2 r3 r4 r5,fun r m' hm' hn=>hNF r m' (by rw [←hms];exact hm') hn⟩
    refine (hp.wd x hx).trans ?_
    split
    · rename_i g;rw [g,v2]
    · rfl
  · rw [if_neg hL] at hp
    rw [if_neg (fun g=>hL g.symm)] at hff
    exact nR hd.1 hp rfl rfl rfl rfl ht.hs (by rw [ht.tr]) hq hff.symm ⟨hLI,hNF⟩
end
end
section
section
variable {c:Cfg} {n:Nat} {s:MaS} {line j k:Int}
theorem d7s {m:Msg} (h:c1s c s) (hl:MaL c n s) (hb:jN s.n 1 j=true) (h2:cA c s.n 2≠0) (hm:bD s.n 1 j=m) (hk:m.kind=6) :
    bI c m.dst (cI s m.dst) m=0∧c1s c (dN c (gI s (aL s.n 1 j)) m):=by
  have hmay:=(hl.nt 1 _ (d8 hb)).1
  rw [hm] at hmay
  obtain ⟨hd,hw,hwd,ha0,ha1,hlok⟩:=a9r hmay (om)
  have hA:pW m= .inv m.dst m.who:=by
    unfold pW
    rw [if_neg (om),if_neg (om),if_neg (om),if_neg (om),if_pos hk]
  have hf0:=(lH (c:=c) (line:=m.line) hb (.inl rfl)).2
  rw [hm,if_pos rfl,hA] at hf0
  obtain ⟨_,hst2⟩:=(h _ hlok).1.iv _ _ (hf0.mem_iff.2 (List.mem_cons_self ..))
  rw [(d7e (c:=c) (s:=s) (line:=m.line) hd.1).1] at hst2
  have hI:sB c (cI s m.dst) m.line=0:=by
    unfold sB
    rw [if_neg (by show ¬2≤y7 c (cI s m.dst) m.line;omega)]
  have hok:=wN hmay (om)
  have hE:bI c m.dst (cI s m.dst) m=0:=by unfold bI;rw [if_pos hok,if_neg (om),if_pos hk,hI]
  have hK:bH c m.dst (cI s m.dst) m=kX c (cI s m.dst) m.line:=by
    unfold bH
    rw [if_pos hok,if_neg (om),if_neg (om),if_pos hk,if_pos hI]
  have hM:gT c m.dst (cI s m.dst) m=⟨9,m.line,m.dst,m.who,0,0,0,.zero⟩:=by
    unfold gT a3b
    rw [if_pos hok,if_neg (om),if_neg (om),if_pos hk,if_pos hI]
  have hB:dK c m.dst (cI s m.dst) m=true:=by unfold dK;exact decide_eq_true ⟨hE,om,om⟩
  refine ⟨hE,?_⟩
  have hS:dN c (gI s (aL s.n 1 j)) m=d9 c (qD (dW (gI s (aL s.n 1 j)) m.dst (kX c (cI s m.dst) m.line)) (decide (bI c m.dst (cI s m.dst) m≠0))) ⟨9,m.line,m.dst,m.who,0,0,0,.zero⟩:=by
    unfold dN
    show (if dK c m.dst (cI s m.dst) m=true then d9 c (qD (dW (gI s (aL s.n 1 j)) m.dst (bH c m.dst (cI s m.dst) m)) (decide (bI c m.dst (cI s m.dst) m≠0))) (gT c m.dst (cI s m.dst) m) else _)=_
    rw [if_pos hB,hK,hM]
  rw [hS]
  have hcl:=qI hl hd
  have hD:d6 c ⟨9,m.line,m.dst,m.who,0,0,0,.zero⟩:=by
    refine ⟨hl.ok,⟨by show (1:Int)≤9;decide,by show (9:Int)≤11;decide⟩,hmay.2.2.1,?_,?_⟩
    · unfold jD
      rw [if_neg (by unfold cE;simp),if_neg (by simp),if_neg (by simp),if_neg (by simp),if_neg (by simp),if_neg (by simp)]
      exact ⟨hd,hw,fun e=>hwd e.symm,rfl,rfl,by show (0:Int)≤0;omega,by show (0:Int)<_;simp⟩
    · unfold iD
      rw [if_neg (by show ¬gK 9;unfold gK;omega)]
  have hroom:0<cA c (aL s.n 1 j) (dJ (⟨9,m.line,m.dst,m.who,0,0,0,.zero⟩:Msg).kind):=by
    show 0<cA c (aL s.n 1 j) 2
    rw [a9q]
    have:=b3l hl (k:=2) rfl
    omega
  generalize hs':d9 c (qD (dW (gI s (aL s.n 1 j)) m.dst (kX c (cI s m.dst) m.line)) (decide (bI c m.dst (cI s m.dst) m≠0))) ⟨9,m.line,m.dst,m.who,0,0,0,.zero⟩=s'
  have hcs:s'.cs=(dW s m.dst (kX c (cI s m.dst) m.line)).cs:=by rw [←hs'];rfl
  have hhs:s'.hs=s.hs:=by rw [←hs'];rfl
  have htr:s'.tr=s.tr:=by rw [←hs'];rfl
  have hns:s'.n=gH c (aL s.n 1 j) ⟨9,m.line,m.dst,m.who,0,0,0,.zero⟩:=by rw [←hs'];rfl
  have hev:CaEv c (cI s m.dst) (kX c (cI s m.dst) m.line) (fun x=>if x=m.line∧y7 c (cI s m.dst) m.line=1 then 0 else y7 c (cI s m.dst) x) (b4u c (cI s m.dst)) (a1h (cI s m.dst)) (b2f (cI s m.dst)):=by
    by_cases h1:y7 c (cI s m.dst) m.line=1
    · have ev:=e1f (hl.cai m.dst) h1
      refine ⟨fun x=>(ev.st x).trans ?_,ev.wd,ev.ms,ev.bf⟩
      by_cases hx:x=m.line
      · rw [if_pos hx,if_pos ⟨hx,h1⟩]
      · rw [if_neg hx,if_neg (fun g=>hx g.1)]
    · rw [e1g h1]
      exact ⟨fun x=>(if_neg (fun g=>h1 g.2)).symm,fun x _=>rfl,fun x=>rfl,fun x=>rfl⟩
  intro line hline
  obtain ⟨hLI,hNF⟩:=h line hline
  have hH:aO c s' line=aO c s line:=by unfold aO dH;rw [hhs]
  obtain ⟨q1,q2⟩:=lH (c:=c) (line:=line) hb (.inl rfl)
  rw [hm] at q2
  have hq:(dX c s' line).rq.Perm (dX c s line).rq:=by
    have:=vS (line:=line) (q:=(aO c s line).q) hD hroom
    rw [if_neg (fun g=>by cases g.2)] at this
    show (e6g line s'.n (aO c s' line).q).Perm _
    rw [hns,hH]
    exact this.trans q1.symm
  have hf:(dX c s' line).fly.Perm (if m.line=line then .ack m.who::rQ line (aL s.n 1 j) (aO c s line).q else rQ line (aL s.n 1 j) (aO c s line).q):=by
    have:=rR (line:=line) (q:=(aO c s line).q) hD hroom
    show (rQ line s'.n (aO c s' line).q).Perm _
    rw [hns,hH]
    refine this.trans ?_
    by_cases hL:m.line=line
    · rw [if_pos hL,if_pos ⟨hL,by show (2:Int)≠0;decide⟩];exact List.Perm.refl _
    · rw [if_neg hL,if_neg (fun g=>hL g.1)]
  obtain ⟨v1,v2,v3,v4⟩:=d7e (c:=c) (s:=s) (line:=line) hd.1
  have hnow:aI c (jC c s'.tr) line=aI c (jC c s.tr) line:=by rw [htr]
  have hp:=vZ (c:=c) (s:=s) (s':=s') (line:=line) hd.1 hcl hcs hev
  by_cases hL:m.line=line
  · subst hL
    rw [if_pos rfl] at hf
    rw [if_pos rfl,hA] at q2
    have e1:(dX c s' m.line).act=(dX c s m.line).act:=by show gX _ (aO c s' _).q=_;rw [hH];rfl
    have e2:(dX c s' m.line).o=(dX c s m.line).o:=by show (aJ (aO c s' _) _).o=_;rw [hH];rfl
    have e3:∀ x,(dX c s' m.line).sh x=(dX c s m.line).sh x:=fun x=>by show bN (aJ (aO c s' _) _).s x=_;rw [hH];rfl
    have e4:(dX c s' m.line).mem=(dX c s m.line).mem:=by show aI c (aO c s' _).ms _=_;rw [hH];rfl
    have hms:=dE hp.ms v3.symm
    have hwd':∀ x,(dX c s' m.line).st x≠0→(dX c s' m.line).wd x=(dX c s m.line).wd x:=fun x hx=>by
      refine (hp.wd x hx).trans ?_
      split
      · rename_i g;rw [g,v2]
      · rfl
    refine ⟨?_,fun r m' hm' hn=>hNF r m' (by rw [←hms];exact hm') hn⟩
    by_cases h1:y7 c (cI s m.dst) m.line=1
    · have hst:=hp.st
      rw [if_pos ⟨rfl,h1⟩] at hst
      exact d7h hLI (v1.trans h1) hst hwd' hms (dE hp.bf v4.symm) hq q2 hf e1 e2 e3 e4 hnow
    · have hst:=hp.st
      rw [if_neg (fun g=>h1 g.2)] at hst
      exact d7i hLI (by rw [v1];exact h1) (dE hst v1.symm) hwd' hms (dE hp.bf v4.symm) hq q2 hf e1 e2 e3 e4 hnow
  · rw [if_neg hL] at hf q2
    rw [if_neg (fun g=>hL g.1.symm)] at hp
    exact nR hd.1 hp rfl rfl rfl rfl hhs hnow hq (hf.trans q2.symm) ⟨hLI,hNF⟩
theorem c3e (m:Msg):(dN c s m).tr=s.tr:=by unfold dN;split<;>rfl
theorem b7b {m:Msg} (h:bI c m.dst (cI s m.dst) m=0):(dN c s m).odd=s.odd:=by
  unfold dN
  have:decide (bI c m.dst (cI s m.dst) m≠0)=false:=decide_eq_false (fun g=>g h)
  rw [this]
  split<;>rfl
theorem b7c (hl:MaL c n s) (hb:jN s.n k j=true):dJ (bD s.n k j).kind=k:=(hl.nt k _ (d8 hb)).2
theorem d7t (h:LT c s) (hl:MaL c n s) (hb:jN s.n 1 j=true) (h2:cA c s.n 2≠0):LT c (dN c (gI s (aL s.n 1 j)) (bD s.n 1 j))∧(dN c (gI s (aL s.n 1 j)) (bD s.n 1 j)).odd=s.odd:=by
  have hk:=b7c hl hb
  have hk':(bD s.n 1 j).kind=4∨(bD s.n 1 j).kind=5∨(bD s.n 1 j).kind=6:=by
    unfold dJ at hk
    split at hk
    · omega
    · split at hk
      · omega
      · split at hk<;>omega
  have key:bI c (bD s.n 1 j).dst (cI s (bD s.n 1 j).dst) (bD s.n 1 j)=0∧c1s c (dN c (gI s (aL s.n 1 j)) (bD s.n 1 j)):=by
    rcases hk' with g|g|g
    · exact c3d (kd:=1) (st:=3) (own:=1) (g:=false) h.1 hl hb h2 rfl (.inl ⟨g,rfl,rfl,rfl,rfl⟩)
    · exact c3d (kd:=2) (st:=0) (own:=4) (g:=true) h.1 hl hb h2 rfl (.inr ⟨g,rfl,rfl,rfl,rfl⟩)
    · exact d7s h.1 hl hb h2 rfl g
  exact ⟨⟨key.2,by rw [c3e];exact h.2⟩,b7b (s:=gI s (aL s.n 1 j)) key.1⟩
theorem d7u (h:LT c s) (hl:MaL c n s) (hb:jN s.n 2 j=true) (h11:(bD s.n 2 j).kind≠11):LT c (kK c (dN c (gI s (aL s.n 2 j)) (bD s.n 2 j)) (bD s.n 2 j))∧(kK c (dN c (gI s (aL s.n 2 j)) (bD s.n 2 j)) (bD s.n 2 j)).odd=s.odd:=by
  have hk:=b7c hl hb
  have hmay:=(hl.nt 2 _ (d8 hb)).1
  have hk':(bD s.n 2 j).kind=7∨(bD s.n 2 j).kind=8∨(bD s.n 2 j).kind=9∨(bD s.n 2 j).kind=10:=by
    unfold dJ at hk
    split at hk
    · omega
    · split at hk
      · omega
      · split at hk<;>omega
  have hd:=n4 hmay (by unfold cE;omega)
  have key:bI c (bD s.n 2 j).dst (cI s (bD s.n 2 j).dst) (bD s.n 2 j)=0∧c1s c (dW (gI s (aL s.n 2 j)) (bD s.n 2 j).dst (bH c (bD s.n 2 j).dst (cI s (bD s.n 2 j).dst) (bD s.n 2 j))):=by
    rcases hk' with g|g|g|g
    · exact c9x h.1 hl hb rfl g
    · exact c5r h.1 hl hb rfl g
    · exact d7r h.1 hl hb rfl g
    · exact c9y h.1 hl hb rfl g
  have hB:dK c (bD s.n 2 j).dst (cI s (bD s.n 2 j).dst) (bD s.n 2 j)=false:=by unfold dK;exact decide_eq_false (om)
  have hT:dN c (gI s (aL s.n 2 j)) (bD s.n 2 j)=qD (dW (gI s (aL s.n 2 j)) (bD s.n 2 j).dst (bH c (bD s.n 2 j).dst (cI s (bD s.n 2 j).dst) (bD s.n 2 j))) (decide (bI c (bD s.n 2 j).dst (cI s (bD s.n 2 j).dst) (bD s.n 2 j)≠0)):=by
    unfold dN
    exact if_neg (by show ¬dK c (bD s.n 2 j).dst (cI s (bD s.n 2 j).dst) (bD s.n 2 j)=true;rw [hB];simp)
  have hLT:LT c (dN c (gI s (aL s.n 2 j)) (bD s.n 2 j)):=⟨by rw [hT];exact key.2,by rw [c3e];exact h.2⟩
  have hML:MaL c (n+1) (dN c (gI s (aL s.n 2 j)) (bD s.n 2 j)):=(hl.take 2 j).taken _
  have ho:=b7b (s:=gI s (aL s.n 2 j)) (c:=c) key.1
  unfold kK
  split
  · refine ⟨c3c hLT hML hd,?_⟩
    unfold mY
    split
    · exact ho
    · exact ho
  · exact ⟨hLT,ho⟩
end
end
section
section
variable {W:Type}
theorem c9z {v v':LV W} (h:LI v) {r:Int} {z:W} (hr:0≤r) (ha:v.act=none) (hO:v.o≠ -1)
    (hst:∀ x,v'.st x=v.st x) (hwd:∀ x,v'.st x≠0→v'.wd x=v.wd x) (hms:∀ x,v'.ms x=v.ms x) (hbf:∀ x,v'.bf x=v.bf x) {Rq:List (AM W)} (hrq0:v.rq.Perm (.get 1 r::Rq)) (hrq:v'.rq.Perm Rq) (hfly:v'.fly.Perm (.fwd 1 v.o r 0::v.fly)) (hact:v'.act=some (1,r)) (ho:v'.o=v.o) (hsh:(∀ x,v.sh x=true→v'.sh x=true)∧v'.sh r=true) (hmem:v'.mem=v.mem) (hnow:v'.now=v.now):LI v':=by
  obtain ⟨qm0,cg0,cp0⟩:=c2t hrq0
  obtain ⟨qm,cg,cp⟩:=c2s hrq
  obtain ⟨fm,ck,ct,ci,cd⟩:=b3t hfly
  have hna:∀ k r,v.act≠some (k,r):=fun k r e=>by rw [ha] at e;cases e
  have hnb:=e8 ha
  obtain ⟨hfr,hct,hci,hcd⟩:=kN h ha
  have hfk:=h.f0 ha
  obtain ⟨m,hm,hk⟩:=h.gk _ r ((qm0 _).2 (.inl rfl))
  obtain ⟨g1,g2,g3,g4,g5⟩:=h.g1 r m hm (hnb r)
  have hml:=h.ml r m hm g5
  have hbn:v.bf r=none:=by cases e:v.bf r with|none=>rfl|some x=>(have:=(h.b1 r x.1 x.2 e).2.2;rw [hm] at this;cases this)
  have hcr:=cg0 r
  have hbu:∀ x,v'.busy x↔x=r:=fun x=>by unfold LV.busy;rw [hact];grind [cH]
  have hh:=rW h ha hO
  have hor:v.o≠r:=fun e=>by rw [e] at hh;unfold LV.holds at hh;grind
  have hho:∀ x,v.holds x↔v'.holds x:=fun x=>by unfold LV.holds;rw [hst,hbf,cp];grind [o6]
  constructor
  case rqk=>intro x hx;have:=h.rqk x;exact bP
  case g0=>intro r1 h1;have:=h.g0 r1;exact bP
  case g1=>intro r1 m1 h1 h2;have:=h.g1 r1 m1;exact bP
  case gk=>intro k1 r1 h1;have:=h.gk k1 r1;exact bP
  case gA=>intro r1 h1;have:=h.gA r1;exact bP
  case aK=>intro k1 r1 h1;have:=h.aK k1 r1;exact bP
  case mK=>intro r1 m1 h1;have:=h.mK r1 m1;exact bP
  case ml=>intro r1 m1 h1 h2;have:=h.ml r1 m1;exact bP
  case b0=>intro r1 h1;have:=h.b0 r1;exact bP
  case b1=>intro r1 w1 l1 h1;have:=h.b1 r1 w1 l1;exact bP
  case bw=>intro r1 w1 h1;have:=h.bw r1 w1;exact bP
  case bl=>intro r1 w1 h1 h2;have:=h.bl r1 w1;exact bP
  case f0=>intro h1 x hx;have:=h.f0;exact bP
  case f1=>intro r1 h1 x hx;have:=h.f1 r1;exact bP
  case f2=>intro r1 h1 x hx;have:=h.f2 r1;exact bP
  case p=>intro k1 r1 h1;have:=h.p k1 r1;exact bP
  case a2=>intro r1 h1;have:=h.a2 r1;exact bP
  case tf=>intro k1 o1 r1 n1 h1;have:=h.tf k1 o1 r1 n1;exact bP
  case td=>intro r1 own1 n1 w1 h1;have:=h.td r1 own1 n1 w1;exact bP
  case tg=>intro r1 n1 h1;have:=h.tg r1 n1;exact bP
  case iv=>intro c1 r1 h1;have:=h.iv c1 r1;exact bP
  case e=>intro c1 h1;have:=h.e c1;exact bP
  case h=>intro h1;have:=h.h;exact bP
  case s=>intro c1 h1 c2 h2;have:=h.s c1;exact bP
  case wn=>intro c1 h1;have:=h.wn c1;exact bP
  case mn=>intro h1;have:=h.mn;exact bP
  case k=>intro c1 h1;have:=h.k c1;exact bP
  case r=>intro c1;have:=h.r c1;exact bP
  case rg=>intro c1 h1;have:=h.rg c1;exact bP
theorem d0a {v v':LV W} (h:LI v) {r:Int} {z:W} (hr:0≤r) (ha:v.act=none) (hO:v.o= -1) (hS:∀ x,v.sh x=false)
    (hst:∀ x,v'.st x=v.st x) (hwd:∀ x,v'.st x≠0→v'.wd x=v.wd x) (hms:∀ x,v'.ms x=v.ms x) (hbf:∀ x,v'.bf x=v.bf x) {Rq:List (AM W)} (hrq0:v.rq.Perm (.get 1 r::Rq)) (hrq:v'.rq.Perm Rq) (hfly:v'.fly.Perm (.data r 2 0 v.mem::v.fly)) (hact:v'.act=some (1,r)) (ho:v'.o=r) (hsh:∀ x,v'.sh x=false) (hmem:v'.mem=v.mem) (hnow:v'.now=v.now):LI v':=by
  obtain ⟨qm0,cg0,cp0⟩:=c2t hrq0
  obtain ⟨qm,cg,cp⟩:=c2s hrq
  obtain ⟨fm,ck,ct,ci,cd⟩:=b3t hfly
  have hna:∀ k r,v.act≠some (k,r):=fun k r e=>by rw [ha] at e;cases e
  have hnb:=e8 ha
  obtain ⟨hfr,hct,hci,hcd⟩:=kN h ha
  have hfk:=h.f0 ha
  obtain ⟨m,hm,hk⟩:=h.gk _ r ((qm0 _).2 (.inl rfl))
  obtain ⟨g1,g2,g3,g4,g5⟩:=h.g1 r m hm (hnb r)
  have hml:=h.ml r m hm g5
  have hbn:v.bf r=none:=by cases e:v.bf r with|none=>rfl|some x=>(have:=(h.b1 r x.1 x.2 e).2.2;rw [hm] at this;cases this)
  have hcr:=cg0 r
  have hbu:∀ x,v'.busy x↔x=r:=fun x=>by unfold LV.busy;rw [hact];grind [cH]
  have hmn:=h.mn hO
  have hnh:∀ x,v.st x=0:=fun x=>Decidable.byContradiction fun hx=>by have:=h.k x hx;have:=h.e x;have:=h.r x;have:=h.rg x;grind [bQ,qF]
  have hho:∀ x,v.holds x↔v'.holds x:=fun x=>by unfold LV.holds;rw [hst,hbf,cp];grind [o6]
  refine { bl:=?zbl}
  case zbl=>
    intro r1 w1 h1 h2
    have:=h.bl r1 w1
    have:=h.rg r1;exact bP
theorem d0b {v v':LV W} (h:LI v) {r:Int} {z:W} (hr:0≤r) (ha:v.act=none) (hO:v.o= -1)
    (hst:∀ x,v'.st x=v.st x) (hwd:∀ x,v'.st x≠0→v'.wd x=v.wd x) (hms:∀ x,v'.ms x=v.ms x) (hbf:∀ x,v'.bf x=v.bf x) {Rq:List (AM W)} (hrq0:v.rq.Perm (.get 1 r::Rq)) (hrq:v'.rq.Perm Rq) (hfly:v'.fly.Perm (.data r 1 0 v.mem::v.fly)) (hact:v'.act=some (1,r)) (ho:v'.o=v.o) (hsh:(∀ x,v.sh x=true→v'.sh x=true)∧v'.sh r=true) (hmem:v'.mem=v.mem) (hnow:v'.now=v.now):LI v':=by
  obtain ⟨qm0,cg0,cp0⟩:=c2t hrq0
  obtain ⟨qm,cg,cp⟩:=c2s hrq
  obtain ⟨fm,ck,ct,ci,cd⟩:=b3t hfly
  have hna:∀ k r,v.act≠some (k,r):=fun k r e=>by rw [ha] at e;cases e
  have hnb:=e8 ha
  obtain ⟨hfr,hct,hci,hcd⟩:=kN h ha
  have hfk:=h.f0 ha
  obtain ⟨m,hm,hk⟩:=h.gk _ r ((qm0 _).2 (.inl rfl))
  obtain ⟨g1,g2,g3,g4,g5⟩:=h.g1 r m hm (hnb r)
  have hml:=h.ml r m hm g5
  have hbn:v.bf r=none:=by cases e:v.bf r with|none=>rfl|some x=>(have:=(h.b1 r x.1 x.2 e).2.2;rw [hm] at this;cases this)
  have hcr:=cg0 r
  have hbu:∀ x,v'.busy x↔x=r:=fun x=>by unfold LV.busy;rw [hact];grind [cH]
  have hmn:=h.mn hO
  have hno:∀ x,v.st x<2:=fun x=>Decidable.byContradiction fun hx=>by have:=h.e x (om);have:=h.rg x;grind [bQ]
  have hho:∀ x,v.holds x↔v'.holds x:=fun x=>by unfold LV.holds;rw [hst,hbf,cp];grind [o6]
  constructor
  case rqk=>intro x hx;have:=h.rqk x;exact bP
  case g0=>intro r1 h1;have:=h.g0 r1;exact bP
  case g1=>intro r1 m1 h1 h2;have:=h.g1 r1 m1;exact bP
  case gk=>intro k1 r1 h1;have:=h.gk k1 r1;exact bP
  case gA=>intro r1 h1;have:=h.gA r1;exact bP
  case aK=>intro k1 r1 h1;have:=h.aK k1 r1;exact bP
  case mK=>intro r1 m1 h1;have:=h.mK r1 m1;exact bP
  case ml=>intro r1 m1 h1 h2;have:=h.ml r1 m1;exact bP
  case b0=>intro r1 h1;have:=h.b0 r1;exact bP
  case b1=>intro r1 w1 l1 h1;have:=h.b1 r1 w1 l1;exact bP
  case bw=>intro r1 w1 h1;have:=h.bw r1 w1;exact bP
  case bl=>intro r1 w1 h1 h2;have:=h.bl r1 w1;exact bP
  case f0=>intro h1 x hx;have:=h.f0;exact bP
  case f1=>intro r1 h1 x hx;have:=h.f1 r1;exact bP
  case f2=>intro r1 h1 x hx;have:=h.f2 r1;exact bP
  case p=>intro k1 r1 h1;have:=h.p k1 r1;exact bP
  case a2=>intro r1 h1;have:=h.a2 r1;exact bP
  case tf=>intro k1 o1 r1 n1 h1;have:=h.tf k1 o1 r1 n1;exact bP
  case td=>intro r1 own1 n1 w1 h1;have:=h.td r1 own1 n1 w1;exact bP
  case tg=>intro r1 n1 h1;have:=h.tg r1 n1;exact bP
  case iv=>intro c1 r1 h1;have:=h.iv c1 r1;exact bP
  case e=>intro c1 h1;have:=h.e c1;exact bP
  case h=>intro h1;have:=h.h;exact bP
  case s=>intro c1 h1 c2 h2;have:=h.s c1;exact bP
  case wn=>intro c1 h1;have:=h.wn c1;exact bP
  case mn=>intro h1;have:=h.mn;exact bP
  case k=>intro c1 h1;have:=h.k c1;exact bP
  case r=>intro c1;have:=h.r c1;exact bP
  case rg=>intro c1 h1;have:=h.rg c1;exact bP
end
end
section
section
variable {W:Type}
theorem c5s {v v':LV W} (h:LI v) {r:Int} (hr:0≤r) (ha:v.act=none) (hO:v.o= -1)
    (hst:∀ x,v'.st x=v.st x) (hwd:∀ x,v'.st x≠0→v'.wd x=v.wd x) (hms:∀ x,v'.ms x=v.ms x) (hbf:∀ x,v'.bf x=v.bf x) {Rq:List (AM W)} (hrq0:v.rq.Perm (.get 2 r::Rq)) (hrq:v'.rq.Perm Rq) {oth:List Int} (hoth:∀ c,c∈oth↔v.sh c=true∧c≠r∧c≠v.o) (hfly:v'.fly.Perm (.data r 4 oth.length v.mem::(oth.map (fun c=>AM.inv c r)++v.fly))) (hact:v'.act=some (2,r)) (ho:v'.o=r) (hsh:∀ x,v'.sh x=false) (hmem:v'.mem=v.mem) (hnow:v'.now=v.now):LI v':=by
  obtain ⟨qm0,cg0,cp0⟩:=c2t hrq0
  obtain ⟨qm,cg,cp⟩:=c2s hrq
  have fm:∀ y,y∈v'.fly↔y= .data r 4 oth.length v.mem∨(∃ c,c∈oth∧AM.inv c r=y)∨y∈v.fly:=fun y=>by rw [nQ hfly y,List.mem_append,List.mem_map]
  have ck:∀ x,v'.ck x=(if false=true then oth.length else 0)+v.ck x+if n5 x (.data r 4 oth.length v.mem:AM W)=true then 1 else 0:=fun x=>by show v'.fly.countP _=_;rw [bX hfly,List.countP_append,lG _ false (fun _=>rfl)];rfl
  have ct:v'.ct=(if false=true then oth.length else 0)+v.ct+if bQ (.data r 4 oth.length v.mem:AM W)=true then 1 else 0:=by show v'.fly.countP _=_;rw [bX hfly,List.countP_append,lG _ false (fun _=>rfl)];rfl
  have ci:v'.ci=(if true=true then oth.length else 0)+v.ci+if qF (.data r 4 oth.length v.mem:AM W)=true then 1 else 0:=by show v'.fly.countP _=_;rw [bX hfly,List.countP_append,lG _ true (fun _=>rfl)];rfl
  have cd:v'.cd=(if false=true then oth.length else 0)+v.cd+if cH (.data r 4 oth.length v.mem:AM W)=true then 1 else 0:=by show v'.fly.countP _=_;rw [bX hfly,List.countP_append,lG _ false (fun _=>rfl)];rfl
  have hna:∀ k r,v.act≠some (k,r):=fun k r e=>by rw [ha] at e;cases e
  have hnb:=e8 ha
  obtain ⟨hfr,hct,hci,hcd⟩:=kN h ha
  have hfk:=h.f0 ha
  obtain ⟨m,hm,hk⟩:=h.gk _ r ((qm0 _).2 (.inl rfl))
  obtain ⟨g1,g2,g3,g4,g5⟩:=h.g1 r m hm (hnb r)
  have hml:=h.ml r m hm g5
  have hbn:v.bf r=none:=by cases e:v.bf r with|none=>rfl|some x=>(have:=(h.b1 r x.1 x.2 e).2.2;rw [hm] at this;cases this)
  have hcr:=cg0 r
  have hbu:∀ x,v'.busy x↔x=r:=fun x=>by unfold LV.busy;rw [hact];grind [cH]
  have hmn:=h.mn hO
  have hno:∀ x,v.st x<2:=fun x=>Decidable.byContradiction fun hx=>by have:=h.e x (om);have:=h.rg x;grind [bQ]
  have hho:∀ x,v.holds x↔v'.holds x:=fun x=>by unfold LV.holds;rw [hst,hbf,cp];grind [o6]
  refine { bl:=?zbl,k:=?zk}
  case zbl=>
    intro r1 w1 h1 h2
    have:=h.bl r1 w1
    have:=h.rg r1;exact bP
  case zk=>
    intro c1 h1
    have:=h.k c1
    have:=hoth c1;have:=fm (.inv c1 r);have:=h.rg c1;exact bP
theorem c5t {v v':LV W} (h:LI v) {r:Int} (hr:0≤r) (ha:v.act=none) (hO:v.o=r)
    (hst:∀ x,v'.st x=v.st x) (hwd:∀ x,v'.st x≠0→v'.wd x=v.wd x) (hms:∀ x,v'.ms x=v.ms x) (hbf:∀ x,v'.bf x=v.bf x) {Rq:List (AM W)} (hrq0:v.rq.Perm (.get 2 r::Rq)) (hrq:v'.rq.Perm Rq) {oth:List Int} (hoth:∀ c,c∈oth↔v.sh c=true∧c≠r∧c≠v.o) (hfly:v'.fly.Perm (.grant r oth.length::(oth.map (fun c=>AM.inv c r)++v.fly))) (hact:v'.act=some (2,r)) (ho:v'.o=v.o) (hsh:∀ x,v'.sh x=false) (hmem:v'.mem=v.mem) (hnow:v'.now=v.now):LI v':=by
  obtain ⟨qm0,cg0,cp0⟩:=c2t hrq0
  obtain ⟨qm,cg,cp⟩:=c2s hrq
  have fm:∀ y,y∈v'.fly↔y= .grant r oth.length∨(∃ c,c∈oth∧AM.inv c r=y)∨y∈v.fly:=fun y=>by rw [nQ hfly y,List.mem_append,List.mem_map]
  have ck:∀ x,v'.ck x=(if false=true then oth.length else 0)+v.ck x+if n5 x (.grant r oth.length:AM W)=true then 1 else 0:=fun x=>by show v'.fly.countP _=_;rw [bX hfly,List.countP_append,lG _ false (fun _=>rfl)];rfl
  have ct:v'.ct=(if false=true then oth.length else 0)+v.ct+if bQ (.grant r oth.length:AM W)=true then 1 else 0:=by show v'.fly.countP _=_;rw [bX hfly,List.countP_append,lG _ false (fun _=>rfl)];rfl
  have ci:v'.ci=(if true=true then oth.length else 0)+v.ci+if qF (.grant r oth.length:AM W)=true then 1 else 0:=by show v'.fly.countP _=_;rw [bX hfly,List.countP_append,lG _ true (fun _=>rfl)];rfl
  have cd:v'.cd=(if false=true then oth.length else 0)+v.cd+if cH (.grant r oth.length:AM W)=true then 1 else 0:=by show v'.fly.countP _=_;rw [bX hfly,List.countP_append,lG _ false (fun _=>rfl)];rfl
  have hna:∀ k r,v.act≠some (k,r):=fun k r e=>by rw [ha] at e;cases e
  have hnb:=e8 ha
  obtain ⟨hfr,hct,hci,hcd⟩:=kN h ha
  have hfk:=h.f0 ha
  obtain ⟨m,hm,hk⟩:=h.gk _ r ((qm0 _).2 (.inl rfl))
  obtain ⟨g1,g2,g3,g4,g5⟩:=h.g1 r m hm (hnb r)
  have hml:=h.ml r m hm g5
  have hbn:v.bf r=none:=by cases e:v.bf r with|none=>rfl|some x=>(have:=(h.b1 r x.1 x.2 e).2.2;rw [hm] at this;cases this)
  have hcr:=cg0 r
  have hbu:∀ x,v'.busy x↔x=r:=fun x=>by unfold LV.busy;rw [hact];grind [cH]
  have hh:=rW h ha (om)
  have hs3:v.st r=3:=by have:=h.r r;unfold LV.holds at hh;grind
  have hun:=fun d=>tW h (c:=r) (d:=d) (om)
  have hho:∀ x,v.holds x↔v'.holds x:=fun x=>by unfold LV.holds;rw [hst,hbf,cp];grind [o6]
  refine { k:=?zk}
  case zk=>
    intro c1 h1
    have:=h.k c1
    have:=hoth c1;have:=fm (.inv c1 r);have:=h.rg c1;exact bP
theorem c5u {v v':LV W} (h:LI v) {r:Int} (hr:0≤r) (ha:v.act=none) (hO:v.o≠ -1) (hor:v.o≠r)
    (hst:∀ x,v'.st x=v.st x) (hwd:∀ x,v'.st x≠0→v'.wd x=v.wd x) (hms:∀ x,v'.ms x=v.ms x) (hbf:∀ x,v'.bf x=v.bf x) {Rq:List (AM W)} (hrq0:v.rq.Perm (.get 2 r::Rq)) (hrq:v'.rq.Perm Rq) {oth:List Int} (hoth:∀ c,c∈oth↔v.sh c=true∧c≠r∧c≠v.o) (hfly:v'.fly.Perm (.fwd 2 v.o r oth.length::(oth.map (fun c=>AM.inv c r)++v.fly))) (hact:v'.act=some (2,r)) (ho:v'.o=r) (hsh:∀ x,v'.sh x=false) (hmem:v'.mem=v.mem) (hnow:v'.now=v.now):LI v':=by
  obtain ⟨qm0,cg0,cp0⟩:=c2t hrq0
  obtain ⟨qm,cg,cp⟩:=c2s hrq
  have fm:∀ y,y∈v'.fly↔y= .fwd 2 v.o r oth.length∨(∃ c,c∈oth∧AM.inv c r=y)∨y∈v.fly:=fun y=>by rw [nQ hfly y,List.mem_append,List.mem_map]
  have ck:∀ x,v'.ck x=(if false=true then oth.length else 0)+v.ck x+if n5 x (.fwd 2 v.o r oth.length:AM W)=true then 1 else 0:=fun x=>by show v'.fly.countP _=_;rw [bX hfly,List.countP_append,lG _ false (fun _=>rfl)];rfl
  have ct:v'.ct=(if false=true then oth.length else 0)+v.ct+if bQ (.fwd 2 v.o r oth.length:AM W)=true then 1 else 0:=by show v'.fly.countP _=_;rw [bX hfly,List.countP_append,lG _ false (fun _=>rfl)];rfl
  have ci:v'.ci=(if true=true then oth.length else 0)+v.ci+if qF (.fwd 2 v.o r oth.length:AM W)=true then 1 else 0:=by show v'.fly.countP _=_;rw [bX hfly,List.countP_append,lG _ true (fun _=>rfl)];rfl
  have cd:v'.cd=(if false=true then oth.length else 0)+v.cd+if cH (.fwd 2 v.o r oth.length:AM W)=true then 1 else 0:=by show v'.fly.countP _=_;rw [bX hfly,List.countP_append,lG _ false (fun _=>rfl)];rfl
  have hna:∀ k r,v.act≠some (k,r):=fun k r e=>by rw [ha] at e;cases e
  have hnb:=e8 ha
  obtain ⟨hfr,hct,hci,hcd⟩:=kN h ha
  have hfk:=h.f0 ha
  obtain ⟨m,hm,hk⟩:=h.gk _ r ((qm0 _).2 (.inl rfl))
  obtain ⟨g1,g2,g3,g4,g5⟩:=h.g1 r m hm (hnb r)
  have hml:=h.ml r m hm g5
  have hbn:v.bf r=none:=by cases e:v.bf r with|none=>rfl|some x=>(have:=(h.b1 r x.1 x.2 e).2.2;rw [hm] at this;cases this)
  have hcr:=cg0 r
  have hbu:∀ x,v'.busy x↔x=r:=fun x=>by unfold LV.busy;rw [hact];grind [cH]
  have hh:=rW h ha hO
  have he:=fun c=>h.e c
  have hho:∀ x,v.holds x↔v'.holds x:=fun x=>by unfold LV.holds;rw [hst,hbf,cp];grind [o6]
  refine { k:=?zk}
  case zk=>
    intro c1 h1
    have:=h.k c1
    have:=hoth c1;have:=fm (.inv c1 r);have:=h.rg c1;exact bP
end
end
section
structure HmF (c:Cfg) (x:HomS):Prop where
  q:a1p x.q
  ml:(x.ms.length:Int)=c.words*c.lines
  od:x.odd=0
  sm:∀ e∈x.q,∀ y∈e.sends,d6 c y
  sk:∀ e∈x.q,e.m.kind≠3→∀ y∈e.sends,y.kind≠10
  sp:∀ e∈x.q,e.m.kind=3→e.st=true→e.sends≠[]
  mv:∀ line,bJ c (aI c x.ms line)
def wP (c:Cfg) (s:MaS):Prop:=∀ x∈s.hs,HmF c x
section
variable {c:Cfg} {n:Nat} {s:MaS} {line j:Int}
theorem d4k (hl:MaL c n s) {d:Int} (hd:0≤d∧d<c.homes):d.toNat<s.hs.length:=by have:=hl.lh;omega
theorem a9b {d:Int} {x:HomS} (hl:MaL c n s) (hd:0≤d∧d<c.homes) (hline:aP c line=true):aO c (dI s d x) line=if dA c line=d then x else aO c s line:=by
  have hr:=d4k hl hd
  have hb:=(iE hl.ok).2.1
  have e0:0≤dA c line:=by unfold dA;rw [if_pos hline];exact Int.emod_nonneg _ (om)
  unfold aO dH
  show (s.hs.set d.toNat x).getD (dA c line).toNat zA=_
  rw [List.getD_eq_getElem?_getD,List.getElem?_set]
  by_cases h:dA c line=d
  · rw [if_pos h,h,if_pos rfl,if_pos hr];rfl
  · rw [if_neg h,if_neg (om),←List.getD_eq_getElem?_getD]
theorem b7d {m:Msg} (hm:d6 c m) (hh:cE m.kind):(0≤m.dst∧m.dst<c.homes)∧(0≤m.src∧m.src<c.cores)∧dA c m.line=m.dst∧aP c m.line=true:=by
  have hd:=pY hm hh
  have hl:=wO hm
  obtain ⟨g1,g2,g3,g4,g5⟩:=hm
  unfold jD at g4
  rw [if_pos hh] at g4
  refine ⟨hd,g4.1,?_,hl⟩
  unfold dA
  rw [if_pos hl,g4.2.1]
  unfold qY
  rw [Int.tmod_eq_emod_of_nonneg g3.1]
theorem e3y {q:List QE} {m:Msg}:oC line (q++[⟨m,false,[]⟩])=oC line q++if m.line=line then [m] else []:=by
  rw [qK,nY]
  by_cases h:m.line=line
  · rw [if_pos ⟨h,rfl⟩,if_pos h];rfl
  · rw [if_neg (fun g=>h g.1),if_neg h];rfl
theorem e3z {q:List QE} {m:Msg}:oP line (q++[⟨m,false,[]⟩])=oP line q:=by
  rw [a8q,a5z]
  split<;>simp [oP]
theorem d7v {q:List QE} {m:Msg}:gX line (q++[⟨m,false,[]⟩])=gX line q:=by
  unfold gX
  rw [List.find?_append]
  simp
theorem c5v {d:Int} {x:HomS} {m:Msg} (h:l3 c d x m=0):iP c d x m={ x with q:=x.q++[⟨m,false,[]⟩]}:=by
  unfold l3 at h
  split at h
  · rename_i hm
    unfold iP
    rw [if_pos hm]
    unfold qZ
    rw [if_pos h]
  · cases h
theorem e4a {m:Msg} (h:LT c s) (hl:MaL c n s) (hb:jN s.n 0 j=true) (hm:bD s.n 0 j=m) (he:l3 c m.dst (dH s m.dst) m=0) :
    LT c (gI (dI s m.dst (iP c m.dst (dH s m.dst) m)) (aL s.n 0 j)):=by
  have hmay:=(hl.nt 0 _ (d8 hb)).1
  have hk:=(hl.nt 0 _ (d8 hb)).2
  rw [hm] at hmay hk
  have hh:cE m.kind:=by
    unfold dJ at hk
    unfold cE
    split at hk
    · exact .inl (by assumption)
    · split at hk
      · omega
      · split at hk<;>omega
  obtain ⟨hd,hsrc,hlh,hlok⟩:=b7d hmay hh
  rw [c5v he]
  refine ⟨fun line hline=>?_,h.2⟩
  obtain ⟨hLI,hNF⟩:=h.1 line hline
  have hH:=a9b (x:={ dH s m.dst with q:=(dH s m.dst).q++[⟨m,false,[]⟩]}) hl hd hline
  have hH':aO c (gI (dI s m.dst { dH s m.dst with q:=(dH s m.dst).q++[⟨m,false,[]⟩]}) (aL s.n 0 j)) line=if dA c line=m.dst then { dH s m.dst with q:=(dH s m.dst).q++[⟨m,false,[]⟩]} else aO c s line:=hH
  have hq0:=b8n (line:=line) (q:=(aO c s line).q) hb rfl
  rw [hm] at hq0
  have key:∀ x:HomS,x=aO c (gI (dI s m.dst { dH s m.dst with q:=(dH s m.dst).q++[⟨m,false,[]⟩]}) (aL s.n 0 j)) line→x.es=(aO c s line).es∧x.ms=(aO c s line).ms∧gX line x.q=gX line (aO c s line).q∧oP line x.q=oP line (aO c s line).q∧oC line x.q=oC line (aO c s line).q++if m.line=line then [m] else []:=by
    intro x hx
    rw [hH'] at hx
    by_cases hL:dA c line=m.dst
    · rw [if_pos hL] at hx
      have e:aO c s line=dH s m.dst:=by unfold aO;rw [hL]
      rw [e,hx]
      exact ⟨rfl,rfl,d7v,e3z,e3y⟩
    · rw [if_neg hL] at hx
      rw [hx]
      refine ⟨rfl,rfl,rfl,rfl,?_⟩
      rw [if_neg (fun g=>hL (by rw [←g];exact hlh)),List.append_nil]
  obtain ⟨k1,k2,k3,k4,k5⟩:=key _ rfl
  generalize hs':gI (dI s m.dst { dH s m.dst with q:=(dH s m.dst).q++[⟨m,false,[]⟩]}) (aL s.n 0 j)=s' at *
  have hcs:s'.cs=s.cs:=by rw [←hs'];rfl
  have htr:s'.tr=s.tr:=by rw [←hs'];rfl
  have hns:s'.n=aL s.n 0 j:=by rw [←hs'];rfl
  have hca:∀ r,eV s' r=eV s r:=fun r=>by unfold eV cI;rw [hcs]
  have hent:aJ (aO c s' line) line=aJ (aO c s line) line:=by unfold aJ;rw [k1]
  have hms:∀ r,(dX c s' line).ms r=(dX c s line).ms r:=fun r=>by show a1h (eV s' r) line=_;rw [hca];rfl
  refine ⟨qX hLI (fun r=>?_) (fun r _=>?_) hms (fun r=>?_) ?_ ?_ k3 ?_ (fun r=>?_) ?_ ?_,fun r m' hm' hn=>hNF r m' (by rw [←hms];exact hm') hn⟩
  · show y7 c (eV s' r) line=_;rw [hca];rfl
  · show b4u c (eV s' r) line=_;rw [hca];rfl
  · show b2f (eV s' r) line=_;rw [hca];rfl
  · show ((b4t line s'.n.l0++oC line (aO c s' line).q).map pW).Perm _
    rw [hns,k5]
    refine List.Perm.trans ?_ hq0.symm
    by_cases hL:m.line=line
    · rw [if_pos hL,if_pos ⟨hL,rfl⟩,←List.append_assoc]
      exact (a7t (l:=b4t line (aL s.n 0 j).l0++oC line (aO c s line).q) (x:=m)).map pW
    · rw [if_neg hL,if_neg (fun g=>hL g.1),List.append_nil]
      exact List.Perm.refl _
  · show ((b4t line (s'.n.l1++s'.n.l2)++oP line (aO c s' line).q).map pW).Perm _
    rw [hns,k4]
    exact List.Perm.refl _
  · show (aJ (aO c s' line) line).o=_;rw [hent];rfl
  · show bN (aJ (aO c s' line) line).s r=_;rw [hent];rfl
  · show aI c (aO c s' line).ms line=_;rw [k2];rfl
  · show aI c (jC c s'.tr) line=_;rw [htr];rfl
theorem d7w {x:HomS} {m:Msg} (h:HmF c x):HmF c { x with q:=x.q++[⟨m,false,[]⟩]}:=by
  refine ⟨b6p h.q,h.ml,h.od,fun e he=>?_,fun e he=>?_,fun e he=>?_,h.mv⟩
  all_goals
    rcases List.mem_append.1 he with g|g
  · exact h.sm e g
  · obtain rfl:=List.mem_singleton.1 g
    intro y hy;cases hy
  · exact h.sk e g
  · obtain rfl:=List.mem_singleton.1 g
    intro _ y hy;cases hy
  · exact h.sp e g
  · obtain rfl:=List.mem_singleton.1 g
    intro _ hst;cases hst
theorem d0c {v:LV Words} (h:LI v) {r:Int} (hx: .done r∈v.fly):∃ k,v.act=some (k,r)∧v.ct=0∧v.ci=0:=by
  have hcd:=d4e hx rfl
  cases e:v.act with
  |none=>obtain ⟨_,g⟩:=h.f0 e _ hx;cases g
  |some a=>
   obtain ⟨k0,r0⟩:=a
   have e0:r0=r:=by
     rcases (h.aK _ _ e).1 with rfl|rfl
     · rcases h.f1 _ e _ hx with ⟨_,g⟩|⟨_,g⟩|⟨_,_,g,_⟩|g
       all_goals first|(cases g;rfl)|cases g
     · rcases h.f2 _ e _ hx with ⟨_,g⟩|⟨_,_,g⟩|⟨_,_,g⟩|⟨_,g⟩|⟨_,g⟩|g|g
       all_goals first|(cases g;rfl)|cases g
   subst e0
   refine ⟨k0,rfl,?_⟩
   rcases h.p _ _ e with ⟨a,g⟩|⟨a,g⟩|⟨a,g⟩|⟨g1,g2,g3⟩
   · have:=g.2.2.2.2.2.2.2.1;omega
   · have:=g.2.2.2.2.2.2.1;omega
   · have:=g.2.2.2.2.2.2.1;omega
   · exact ⟨g1,g3⟩
theorem e4b {y:Msg} (h:4≤y.kind∧y.kind≤9):bQ (pW y)=true∨qF (pW y)=true:=by
  have:y.kind=4∨y.kind=5∨y.kind=6∨y.kind=7∨y.kind=8∨y.kind=9:=by omega
  unfold pW
  rcases this with g|g|g|g|g|g<;>simp [g,bQ,qF]
theorem d0d {q:List QE} {k r:Int} (h:gX line q=some (k,r)):∃ i,∃ hi:i<q.length,q[i].m.line=line∧q[i].st=true∧q[i].m.kind≠3∧q[i].m.kind=k∧q[i].m.src=r:=by
  unfold gX at h
  cases e:q.find? (fun e=>decide (e.m.line=line)&& e.st&& !decide (e.m.kind=3)) with
  |none=>rw [e] at h;cases h
  |some x=>
   rw [e] at h
   have h1:=List.find?_some e
   obtain ⟨i,hi,rfl⟩:=List.getElem_of_mem (List.mem_of_find?_eq_some e)
   simp at h1 h
   exact ⟨i,hi,h1.1.1,h1.1.2,h1.2,h.1,h.2⟩
theorem e8b {q:List QE} {i:Nat} (hQ:a1p q) (hi:i<q.length) (hst:q[i].st=true) (hse:q[i].sends=[]) (x:Int):oC x (q.eraseIdx i)=oC x q∧oP x (q.eraseIdx i)=oP x q∧gX x (q.eraseIdx i)=if x=q[i].m.line then none else gX x q:=by
  obtain ⟨e,_,e3⟩:=d6l hi
  have ht:=d5r hQ hi
  have hh:=e5s hQ hi hst
  rw [e3]
  have eC:oC x q=oC x (q.take i++q[i]::q.drop (i+1)):=congrArg (oC x) e
  have eP:oP x q=oP x (q.take i++q[i]::q.drop (i+1)):=congrArg (oP x) e
  have eA:gX x q=gX x (q.take i++q[i]::q.drop (i+1)):=congrArg (gX x) e
  refine ⟨?_,?_,?_⟩
  · rw [eC,qK,qK,nY,if_neg (fun g=>by rw [hst] at g;cases g.2)];rfl
  · rw [eP,a8q,a8q,a5z]
    split
    · rw [hse];rfl
    · rfl
  · by_cases hx:x=q[i].m.line
    · rw [if_pos hx]
      unfold gX
      rw [Option.map_eq_none_iff,List.find?_eq_none]
      intro y hy
      rcases List.mem_append.1 hy with g|g
      · have:=hh y g
        simp [hx,this]
      · by_cases hy2:y.m.line=q[i].m.line
        · have:=(ht y g hy2).1
          simp [this]
        · simp [hx,hy2]
    · rw [if_neg hx,eA]
      unfold gX
      rw [List.find?_append,List.find?_append,List.find?_cons_of_neg (by simp [Ne.symm hx])]
theorem zC (h:wP c s) (hl:MaL c n s) {d:Int} (hd:0≤d∧d<c.homes):HmF c (dH s d):=by
  have hr:=d4k hl hd
  unfold dH
  rw [List.getD_eq_getElem?_getD,List.getElem?_eq_getElem hr]
  exact h _ (List.getElem_mem hr)
theorem d7x {m:Msg} (h:LT c s) (hl:MaL c n s) (hf:wP c s) (hb:jN s.n 2 j=true) (hm:bD s.n 2 j=m) (hk:m.kind=11) :
    LT c (a3k c (gI s (aL s.n 2 j)) m)∧(a3k c (gI s (aL s.n 2 j)) m).odd=s.odd:=by
  have hmay:=(hl.nt 2 _ (d8 hb)).1
  have hk2:=(hl.nt 2 _ (d8 hb)).2
  rw [hm] at hmay hk2
  obtain ⟨hd,hsrc,hlh,hlok⟩:=b7d hmay (.inr hk)
  have hA:pW m= .done m.src:=by
    unfold pW
    rw [if_neg (om),if_neg (om),if_neg (om),if_neg (om),if_neg (om),if_neg (om),if_neg (om),if_neg (om),if_neg (om)]
  have hfl:=(lH (c:=c) (line:=m.line) hb (.inr rfl)).2
  rw [hm,if_pos rfl,hA] at hfl
  have hin:=hfl.mem_iff.2 (List.mem_cons_self ..)
  obtain ⟨k0,hact,hct,hci⟩:=d0c (h.1 _ hlok).1 hin
  have hHo:aO c s m.line=dH s m.dst:=by unfold aO;rw [hlh]
  have hF:=zC hf hl hd
  have hI:=(hl.hmi hd.1 hd.2).1
  have hact':gX m.line (dH s m.dst).q=some (k0,m.src):=by rw [←hHo];exact hact
  obtain ⟨i,hi,q1,q2,q3,q4,q5⟩:=d0d hact'
  have hse:(dH s m.dst).q[i].sends=[]:=by
    cases e:(dH s m.dst).q[i].sends with
    |nil=>rfl
    |cons y r=>
     exfalso
     have hy:y∈(dH s m.dst).q[i].sends:=by rw [e];exact List.mem_cons_self ..
     have g1:=hI.snd _ (List.getElem_mem hi) y hy
     have g2:=hF.sk _ (List.getElem_mem hi) q3 y hy
     have hyP:y∈oP m.line (dH s m.dst).q:=by
       unfold oP
       rw [List.mem_flatMap]
       exact ⟨_,List.mem_filter.2 ⟨List.getElem_mem hi,decide_eq_true q1⟩,hy⟩
     have hyv:pW y∈(dX c s m.line).fly:=by
       show pW y∈(b4t m.line (s.n.l1++s.n.l2)++oP m.line (aO c s m.line).q).map pW
       rw [hHo]
       exact List.mem_map.2 ⟨y,List.mem_append_right _ hyP,rfl⟩
     rcases e4b (y:=y) (om) with g|g
     · have:=a3a hyv g;omega
     · have:=b3v hyv g;omega
  have hgone:lR m.line m.src (dH s m.dst).q[i]=true:=by unfold lR;simp [q1,q2,q3,q5,hse]
  have hidx:0≤aV (lR m.line m.src) (dH s m.dst).q:=by
    refine Decidable.byContradiction fun g=>?_
    have:=(dY (p:=lR m.line m.src) (l:=(dH s m.dst).q) (om)).2 _ (List.getElem_mem hi)
    rw [hgone] at this;cases this
  obtain ⟨a,ha,ea,ga,_⟩:=cL hidx
  have hga:(dH s m.dst).q[a].m.line=m.line∧(dH s m.dst).q[a].st=true∧(dH s m.dst).q[a].sends=[]:=by
    unfold lR at ga
    simp at ga
    exact ⟨ga.1.1.1.2,ga.1.1.1.1,ga.2⟩
  have hmine:mB c m.dst m 2=true:=by
    unfold mB
    rw [decide_eq_true hmay,decide_eq_true hk2,decide_eq_true (show cE m.kind from .inr hk),decide_eq_true rfl];rfl
  have hE:gU c m.dst (dH s m.dst) m=0:=by unfold gU;rw [if_pos hmine];unfold a4l;rw [if_neg (om)]
  have hS:gV c m.dst (dH s m.dst) m={ dH s m.dst with q:=(dH s m.dst).q.eraseIdx a}:=by
    unfold gV
    rw [if_pos hmine]
    unfold sZ
    rw [if_neg (om),ea,Int.toNat_natCast]
  have hD:a3k c (gI s (aL s.n 2 j)) m=qD (dI (gI s (aL s.n 2 j)) m.dst { dH s m.dst with q:=(dH s m.dst).q.eraseIdx a}) (decide (gU c m.dst (dH s m.dst) m≠0)):=by
    unfold a3k
    show qD (dI _ _ (gV c m.dst (dH s m.dst) m)) (decide (gU c m.dst (dH s m.dst) m≠0))=_
    rw [hS]
  rw [hD]
  refine ⟨⟨fun line hline=>?_,h.2⟩,?_⟩
  · obtain ⟨hLI,hNF⟩:=h.1 line hline
    generalize hs':qD (dI (gI s (aL s.n 2 j)) m.dst { dH s m.dst with q:=(dH s m.dst).q.eraseIdx a}) (decide (gU c m.dst (dH s m.dst) m≠0))=s'
    have hhs:s'.hs=(dI s m.dst { dH s m.dst with q:=(dH s m.dst).q.eraseIdx a}).hs:=by rw [←hs'];rfl
    have hcs:s'.cs=s.cs:=by rw [←hs'];rfl
    have htr:s'.tr=s.tr:=by rw [←hs'];rfl
    have hns:s'.n=aL s.n 2 j:=by rw [←hs'];rfl
    have hH:aO c s' line=if dA c line=m.dst then { dH s m.dst with q:=(dH s m.dst).q.eraseIdx a} else aO c s line:=by
      rw [←a9b (x:={ dH s m.dst with q:=(dH s m.dst).q.eraseIdx a}) hl hd hline]
      unfold aO dH
      rw [hhs];rfl
    have key:(aO c s' line).es=(aO c s line).es∧(aO c s' line).ms=(aO c s line).ms∧oC line (aO c s' line).q=oC line (aO c s line).q∧oP line (aO c s' line).q=oP line (aO c s line).q∧gX line (aO c s' line).q=if line=m.line then none else gX line (aO c s line).q:=by
      rw [hH]
      by_cases hL:dA c line=m.dst
      · rw [if_pos hL]
        have e:aO c s line=dH s m.dst:=by unfold aO;rw [hL]
        obtain ⟨f1,f2,f3⟩:=e8b hF.q ha hga.2.1 hga.2.2 line
        rw [hga.1] at f3
        rw [e]
        exact ⟨rfl,rfl,f1,f2,f3⟩
      · rw [if_neg hL,if_neg (fun g=>hL (by rw [g];exact hlh))]
        exact ⟨rfl,rfl,rfl,rfl,rfl⟩
    obtain ⟨k1,k2,k3,k4,k5⟩:=key
    have hca:∀ r,eV s' r=eV s r:=fun r=>by unfold eV cI;rw [hcs]
    have hent:aJ (aO c s' line) line=aJ (aO c s line) line:=by unfold aJ;rw [k1]
    have hms:∀ r,(dX c s' line).ms r=(dX c s line).ms r:=fun r=>by show a1h (eV s' r) line=_;rw [hca];rfl
    have w1:∀ r,(dX c s' line).st r=(dX c s line).st r:=fun r=>by show y7 c (eV s' r) line=_;rw [hca];rfl
    have w2:∀ r,(dX c s' line).st r≠0→(dX c s' line).wd r=(dX c s line).wd r:=fun r _=>by show b4u c (eV s' r) line=_;rw [hca];rfl
    have w3:∀ r,(dX c s' line).bf r=(dX c s line).bf r:=fun r=>by show b2f (eV s' r) line=_;rw [hca];rfl
    have w4:(dX c s' line).o=(dX c s line).o:=by show (aJ (aO c s' line) line).o=_;rw [hent];rfl
    have w5:∀ r,(dX c s' line).sh r=(dX c s line).sh r:=fun r=>by show bN (aJ (aO c s' line) line).s r=_;rw [hent];rfl
    have w6:(dX c s' line).mem=(dX c s line).mem:=by show aI c (aO c s' line).ms line=_;rw [k2];rfl
    have w7:(dX c s' line).now=(dX c s line).now:=by show aI c (jC c s'.tr) line=_;rw [htr];rfl
    obtain ⟨p1,p2⟩:=lH (c:=c) (line:=line) hb (.inr rfl)
    rw [hm] at p2
    have hq:(dX c s' line).rq.Perm (dX c s line).rq:=by
      show ((b4t line s'.n.l0++oC line (aO c s' line).q).map pW).Perm _
      rw [hns,k3];exact p1.symm
    have hfv:(dX c s' line).fly=rQ line (aL s.n 2 j) (aO c s line).q:=by
      show (b4t line (s'.n.l1++s'.n.l2)++oP line (aO c s' line).q).map pW=_
      rw [hns,k4];rfl
    rw [←hfv] at p2
    refine ⟨?_,fun r m' hm' hn=>hNF r m' (by rw [←hms];exact hm') hn⟩
    by_cases hL:m.line=line
    · subst hL
      rw [if_pos rfl,hA] at p2
      rw [if_pos rfl] at k5
      exact e0z (r:=m.src) hLI w1 w2 hms w3 hq p2 (List.Perm.refl _) k5 w4 w5 w6 w7
    · rw [if_neg hL] at p2
      rw [if_neg (Ne.symm hL)] at k5
      exact qX hLI w1 w2 hms w3 hq p2.symm k5 w4 w5 w6 w7
  · show (if decide (gU c m.dst (dH s m.dst) m≠0)=true then s.odd+1 else s.odd)=s.odd
    rw [if_neg (by rw [hE];simp)]
end
end
end Go.Sx
