/- Mr6, MrN: several of my texts as one. My own work. -/
import Derived.Test.YtjihlpjnebdiiabGreatZbk
set_option linter.unusedVariables false
set_option linter.unusedSectionVars false
set_option linter.unusedSimpArgs false
set_option maxRecDepth 100000
set_option maxHeartbeats 4000000
namespace Go.Sx
open Go Go.Proofs Tryz
section
theorem OL {P:Program} {N:Nat} {co:Code} {env:Env} {L:List HP} {Q:Exit→Act→World→Prop} {b:Nat} {k:l7} (h:∀ td,oI k.l.length k.rs.length k.tr td→WC P N co env (iL b k.l k.rs td::L) Q):WC P N co env (sA b k::L) Q:=by
  intro a w ha hw;obtain ⟨td,hx⟩:=eN hw;exact h td (fc (aG hx)) a w ha ((ai.cons (ai.drop ai.refl)).gX hx)
theorem OM {b:Nat} {k:l7} {L:List HP} {w:World} (h:Sat (sA b k::L) w):k.rs.length≤k.l.length∧k.l.length≤64:=by
  obtain ⟨td,hx⟩:=eN h;have:=(yC hx).1;omega
theorem ON {P:Program} {N:Nat} {co:Code} {env:Env} {L:List HP} {Q:Exit→Act→World→Prop} {G:Prop} (hg:∀ w,Sat L w→G) (h:G→WC P N co env L Q):WC P N co env L Q:=fun a w ha hw=>h (hg w hw) a w ha hw
def B8 (s:cg) (i:Nat):Int:=(s.hs.take i).foldl (fun n h=>n+h.aR) s.aR
theorem yF {s:cg} {i:Nat} (hi:i<s.hs.length):B8 s (i+1)=B8 s i+(s.hs.getD i dl).aR:=by
  unfold B8;rw [List.take_add_one,List.getElem?_eq_getElem hi,Option.toList_some,List.foldl_append,List.getD_eq_getElem?_getD,List.getElem?_eq_getElem hi];rfl
theorem Af {s:cg} {m:Int} (h0:0≤s.aR∧s.aR≤m) (h1:∀ y∈s.hs,0≤y.aR∧y.aR≤m) (i:Nat) (hi:i≤s.hs.length):0≤B8 s i∧B8 s i≤m*(i+1):=by
  induction i with
  |zero=>show 0≤s.aR∧s.aR≤m*((0:Nat)+1);omega
  |succ i ih=>
   obtain ⟨a,b⟩:=ih (om);rw [yF (om)];have e:s.hs.getD i dl=s.hs[i]:=by rw [List.getD_eq_getElem?_getD,List.getElem?_eq_getElem (om)];rfl
   obtain ⟨d,f⟩:=h1 (s.hs[i]'(om)) (List.getElem_mem _);rw [←e] at d f;have:m*(((i+1:Nat):Int)+1)=m*((i:Int)+1)+m:=by rw [Int.natCast_succ,Int.mul_add,Int.mul_one]
   omega
theorem FX {s:cg} {n:Nat} (h:n=s.hs.length):B8 s n=DL s:=by
  subst h;unfold B8 DL;rw [List.take_length]
attribute [local irreducible] Exit.then Exit.inBlock Code.wp WC WO WE WQ V aW dL Sat bz bK dU IntKind.wrap WR Code.rounds WT KO
section
variable {F:List HP} {b:Nat} {c:au} {s:cg} {x:fP}
theorem RE (hx:gG c s x) (h0:0≤s.aR∧s.aR≤1000000000000) (h1:∀ y∈s.hs,0≤y.aR∧y.aR≤1000000000000):az prog 17 [.pointer (some ⟨b,0,none⟩)] [dj b c s x] F (fun r L'=>r= .int .i64 (DL s)∧L'=[dj b c s x]):=by
  obtain ⟨⟨f1,f2,f3⟩,⟨f4,f5,f6⟩,f7⟩:=id hx;have hh:=mB f7;refine ay func17 ntmps17 ?_;refine gZ fun hf=>?_;repeat first|refine gd ?_|intro _
  apply aO (E0:=[(13,_),(14,_)]) (fun E0 (i:Nat)=>(15,.int .i64 i)::(3,.int .i64 (B8 s i))::E0) (fun _=>Cw b c s x F) (fun i=>i≤x.hb.length) (fun i=>x.hb.length-i) 0
  ·exact bH
  ·exact Nat.zero_le _
  ·exact af
  ·rintro i hi;have hb:=Af h0 h1 i (om);by_cases bB:i<x.hb.length
   ·have hg:=dB bB;have J7:=Af h0 h1 (i+1) (om);have qI:=yF (s:=s) (i:=i) (om);have hO:=fun F=>az.VE (F:=F) hx fun F=>JP (F:=F) (b:=b) (c:=c) (s:=s) (x:=x) bB hx;simp only [g8 bB] at hO;repeat first|refine gd ?_|intro _|refine ae @hO ?_
    refine aC (i+1) (om) (om) ?_ ?_
    ·rw [qI];exact bH
    ·exact af
   ·have e:=FX (s:=s) (n:=i) (om);rw [e];repeat first|refine gd ?_|intro _
    (apply ad rfl rfl ar)
    ·exact ⟨rfl,rfl⟩
    ·refine eI ?_ hf;exact af
theorem T8 (hx:gG c s x) (h0:0≤s.aR∧s.aR≤1000000000000) (h1:∀ y∈s.hs,0≤y.aR∧y.aR≤1000000000000):az prog 99 [.pointer (some ⟨b,0,none⟩)] [fy b c s x] F (fun r L'=>r= .int .i64 (DL s)∧L'=[fy b c s x]):=by
  obtain ⟨⟨f1,f2,f3⟩,⟨f4,f5,f6⟩,f7⟩:=id hx;have hh:=mB f7;refine ay func99 ntmps99 ?_;refine ky fun hf=>?_;repeat first|refine gd ?_|intro _
  apply aO (E0:=[(0,_)]) (fun E0 (i:Nat)=>(4,.int .i64 i)::(3,.int .i64 (B8 s i))::E0) (fun _=>fy b c s x::F) (fun i=>i≤x.hb.length) (fun i=>x.hb.length-i) 0
  ·exact bH
  ·exact Nat.zero_le _
  ·refine fv ?_ hf;exact af
  ·rintro i hi;have hb:=Af h0 h1 i (om);by_cases bB:i<x.hb.length
   ·have hg:=dB bB;have J7:=Af h0 h1 (i+1) (om);have qI:=yF (s:=s) (i:=i) (om);have Sv:s.hs=s.hs.set i (s.hs.getD i dl):=bf.symm;refine lH bB fun hf=>?_;(first|refine aD (fI x.hb[i] c (i:Int) (s.hs.getD i dl)) ?_|refine aE (fI x.hb[i] c (i:Int) (s.hs.getD i dl)) ?_|refine aF (fI x.hb[i] c (i:Int) (s.hs.getD i dl)) ?_);refine jD fun p k be bq xs L8=>?_;repeat first|refine gd ?_|intro _
    ((first|apply cy (L':=(fI x.hb[i] c (i:Int) (s.hs.getD i dl))::_)|apply cD (L':=(fI x.hb[i] c (i:Int) (s.hs.getD i dl))::_)|apply cE (L':=(fI x.hb[i] c (i:Int) (s.hs.getD i dl))::_)|apply cR (L':=(fI x.hb[i] c (i:Int) (s.hs.getD i dl))::_));(focus (apply DN;(focus (exact af));all_goals exact bu)));refine aC (i+1) (om) (om) ?_ ?_
    ·rw [qI];exact bH
    ·(apply nR;(focus (exact af));all_goals exact bu)
   ·have e:=FX (s:=s) (n:=i) (om);rw [e];refine ky fun hf=>?_;repeat first|refine gd ?_|intro _
    (apply ad rfl rfl ar)
    ·exact ⟨rfl,rfl⟩
    ·refine fv ?_ hf;exact af
theorem FY {kb:List Nat} {aR:Int} {na nh nt:Nat} {pk pa ph pt:Option Addr×Nat} {bn:Nat} {k:l7} {i:Nat} (hi:i<kb.length) :
    az prog 102 [.pointer (some ⟨b,0,none⟩),.int .i64 i] [sA kb[i] k,Hf b c aR kb.length na nh nt pk pa ph pt bn,Kc pk kb] F (fun r L'=>r= .int .i64 (kl k)∧L'=[sA kb[i] k,Hf b c aR kb.length na nh nt pk pa ph pt bn,Kc pk kb]):=by
  have hg:=dB hi;refine ay func102 ntmps102 ?_;(first|(refine aX (.slice pk.1 kb.length pk.2) inferInstance (om) ?_;intro _)|(refine aY (.slice pk.1 kb.length pk.2) inferInstance (om) ?_;intro _));refine OL fun td htd=>?_;refine qo fun p1 c1 p2 c2 p3 c3 hf=>?_;repeat first|refine gd ?_|intro _
  (apply ad rfl rfl ar)
  ·exact ⟨rfl,rfl⟩
  ·refine Hx (ku (p1:=p1) (c1:=c1) (p2:=p2) (c2:=c2) (p3:=p3) (c3:=c3) ?_ rfl rfl rfl rfl rfl rfl hf) htd;exact af
theorem qx {Q P:Prop} (k:Q) (h:Hid Q→P:=by
  intro k
  first
  |(refine an ?_;refine bF (id:=5) .false (pl:= .p 0 <| .p 1 <| .p 2 <| .p 5 <| .p 6 <| .p 7 <| .p 9 <| .p 20 <| .p 21 <| .p 22 <| .p 24 <| .r 8 <| .p 10 <| .r 11 <| .p 12 <| .p 13 <| .r 14 <| .p 15 <| .p 16 <| .r 17 <| .p 18 <| .r 23 <| .p 25 <| .r 26 <| .p 27 <| .p 28 <| .r 29 <| .p 30 <| .p 31 <| .r 32 <| .p 33 <| .e true [(3,.p 4 <| .p 19 <| .p 34 <| .p 35 <| .done)]) k.out)):P:=h ⟨k⟩
theorem OO (hx:gG c s x):az prog 100 [.pointer (some ⟨b,0,none⟩)] [fy b c s x] F (fun r L'=>r= .bool (iC s)∧L'=[fy b c s x]):=by
  obtain ⟨⟨f1,f2,f3⟩,⟨f4,f5,f6⟩,f7⟩:=id hx;have hh:=mB f7;have YS:=(cp f7).1;have hr:=yv f7;refine ay func100 ntmps100 ?_;refine ky fun hf=>?_;(first|refine aD (dk x.bn c s.n) ?_|refine aE (dk x.bn c s.n) ?_|refine aF (dk x.bn c s.n) ?_);refine mA fun p0 q0 p1 q1 p2 q2 ⟨_,yJ,wS,qJ⟩=>?_;obtain ⟨r0,r1,r2⟩:=ki f7;repeat first|refine go ?_|intro _|refine qx ?_|refine av ?_
  have Wr:((s.n.l0.length:Int)+s.n.l1.length+s.n.l2.length=0)↔jZ s.n=[]:=by
    unfold jZ;constructor
    ·intro h;rw [List.length_eq_zero_iff.1 (by omega:s.n.l0.length=0),List.length_eq_zero_iff.1 (by omega:s.n.l1.length=0),List.length_eq_zero_iff.1 (by omega:s.n.l2.length=0)];rfl
    ·intro h;have:=congrArg List.length h;simp only [List.length_append,List.length_nil] at this;omega
  ((first|apply cy (L':=(dk x.bn c s.n)::_)|apply cD (L':=(dk x.bn c s.n)::_)|apply cE (L':=(dk x.bn c s.n)::_)|apply cR (L':=(dk x.bn c s.n)::_));(focus (apply dE;(focus (exact af));all_goals exact bu)));apply aO (E0:=[(0,_)]) (fun E0 (q:Nat×Int)=>(4,.int .i64 q.1)::(3,.int .i64 q.2)::E0) (fun _=>fy b c s x::F) (fun q=>q.1≤x.kb.length∧(0≤q.2∧q.2≤20000*((q.1:Int)+1))∧(q.2=0↔jZ s.n=[]∧∀ j (h1:j<s.ks.length) (h2:j<s.cs.length),j<q.1→kl s.ks[j]=0∧s.cs[j].aP=[]∧s.cs[j].bD=[])) (fun q=>x.kb.length-q.1) (0,(s.n.l0.length:Int)+s.n.l1.length+s.n.l2.length)
  ·exact bH
  ·refine ⟨Nat.zero_le _,⟨by dsimp only;omega,by dsimp only;omega⟩,Wr.trans ⟨fun h=>⟨h,fun j _ _ g=>absurd g (Nat.not_lt_zero _)⟩,fun h=>h.1⟩⟩
  ·refine fv ?_ hf;exact af
  ·rintro ⟨i,n⟩ ⟨hi,hn,hq⟩;dsimp only at hi hn hq ⊢;by_cases bB:i<x.kb.length
   ·have Ap:i<x.kb.length:=bB;have Hg:i<x.ab.length:=by omega
    have hg:=dB Hg;have hsk:s.ks=s.ks.set i (s.ks.getD i bQ):=bf.symm;have hsc:s.cs=s.cs.set i (s.cs.getD i aL):=bf.symm;have gk:s.ks.getD i bQ=s.ks[i]:=by rw [List.getD_eq_getElem?_getD,List.getElem?_eq_getElem (om)];rfl
    have ga:s.cs.getD i aL=s.cs[i]:=by rw [List.getD_eq_getElem?_getD,List.getElem?_eq_getElem (om)];rfl
    refine gp Ap Hg fun hf=>?_;(first|(refine aX (.slice x.pa.1 x.ab.length x.pa.2) inferInstance (om) ?_;intro _)|(refine aY (.slice x.pa.1 x.ab.length x.pa.2) inferInstance (om) ?_;intro _));(first|refine aD (sA x.kb[i] (s.ks.getD i bQ)) ?_|refine aE (sA x.kb[i] (s.ks.getD i bQ)) ?_|refine aF (sA x.kb[i] (s.ks.getD i bQ)) ?_);refine ON (G:=(s.ks.getD i bQ).rs.length≤(s.ks.getD i bQ).l.length∧(s.ks.getD i bQ).l.length≤64) (fun w hw=>OM hw) fun xY=>?_;have Me:=fun F=>FY (F:=F) (b:=b) (c:=c) (aR:=s.aR) (na:=x.ab.length) (nh:=x.hb.length) (nt:=s.tr.length) (pk:=x.pk) (pa:=x.pa) (ph:=x.ph) (pt:=x.pt) (bn:=x.bn) (k:=s.ks.getD i bQ) Ap;have OT:0≤kl (s.ks.getD i bQ)∧kl (s.ks.getD i bQ)≤64:=by unfold kl;omega
    (first|refine aD (iE x.ab[i] c (i:Int) (s.cs.getD i aL)) ?_|refine aE (iE x.ab[i] c (i:Int) (s.cs.getD i aL)) ?_|refine aF (iE x.ab[i] c (i:Int) (s.cs.getD i aL)) ?_);refine nO fun aA fA eA Hc=>?_;(first|refine aD (cW fA c.aS (s.cs.getD i aL).aP) ?_|refine aE (cW fA c.aS (s.cs.getD i aL).aP) ?_|refine aF (cW fA c.aS (s.cs.getD i aL).aP) ?_);refine cC fun pM cM Su=>?_;(first|refine aD (lj eA c.aw (s.cs.getD i aL).bD) ?_|refine aE (lj eA c.aw (s.cs.getD i aL).bD) ?_|refine aF (lj eA c.aw (s.cs.getD i aL).bD) ?_);refine cC fun pB cB Y0=>?_;repeat first|refine go ?_|intro _|refine qx ?_|refine av ?_|refine ae @Me ?_
    ((first|apply cy (L':=(cW fA c.aS (s.cs.getD i aL).aP)::_)|apply cD (L':=(cW fA c.aS (s.cs.getD i aL).aP)::_)|apply cE (L':=(cW fA c.aS (s.cs.getD i aL).aP)::_)|apply cR (L':=(cW fA c.aS (s.cs.getD i aL).aP)::_));(focus (apply bC;(focus (exact af));all_goals exact bu)));((first|apply cy (L':=(lj eA c.aw (s.cs.getD i aL).bD)::_)|apply cD (L':=(lj eA c.aw (s.cs.getD i aL).bD)::_)|apply cE (L':=(lj eA c.aw (s.cs.getD i aL).bD)::_)|apply cR (L':=(lj eA c.aw (s.cs.getD i aL).bD)::_));(focus (apply bC;(focus (exact af));all_goals exact bu)));((first|apply cy (L':=(iE x.ab[i] c (i:Int) (s.cs.getD i aL))::_)|apply cD (L':=(iE x.ab[i] c (i:Int) (s.cs.getD i aL))::_)|apply cE (L':=(iE x.ab[i] c (i:Int) (s.cs.getD i aL))::_)|apply cR (L':=(iE x.ab[i] c (i:Int) (s.cs.getD i aL))::_));(focus (apply rl;(focus (exact af));all_goals exact bu)));have key:(n+kl (s.ks.getD i bQ)+((s.cs.getD i aL).aP.length:Int)+((s.cs.getD i aL).bD.length:Int)=0)↔jZ s.n=[]∧∀ j (h1:j<s.ks.length) (h2:j<s.cs.length),j<i+1→kl s.ks[j]=0∧s.cs[j].aP=[]∧s.cs[j].bD=[]:=by
      constructor
      ·intro h;obtain ⟨a1,a2⟩:=hq.1 (om);refine ⟨a1,fun j h1 h2 hj=>?_⟩;by_cases e:j=i
       ·subst e;rw [←gk,←ga];exact ⟨om,List.length_eq_zero_iff.1 (om),List.length_eq_zero_iff.1 (om)⟩
       ·exact a2 j h1 h2 (om)
      ·rintro ⟨a1,a2⟩;have e0:=hq.2 ⟨a1,fun j h1 h2 hj=>a2 j h1 h2 (om)⟩;obtain ⟨b1,b2,b3⟩:=a2 i (om) (om) (om);rw [←gk] at b1;rw [←ga] at b2 b3;rw [b1,b2,b3,e0];rfl
    refine aC ((i+1,n+kl (s.ks.getD i bQ)+((s.cs.getD i aL).aP.length:Int)+((s.cs.getD i aL).bD.length:Int)):Nat×Int) (by dsimp only;omega) ⟨by dsimp only;omega,⟨by dsimp only;omega,by dsimp only;omega⟩,key⟩ ?_ ?_
    ·exact bH
    ·(apply eQ;(focus (exact af));all_goals exact bu)
   ·refine ky fun hf=>?_;repeat first|refine go ?_|intro _|refine qx ?_|refine av ?_
    apply aO (E0:=[(0,_)]) (fun E0 (q:Nat×Int)=>(5,.int .i64 q.1)::(3,.int .i64 q.2)::E0) (fun _=>fy b c s x::F) (fun q=>q.1≤x.hb.length∧(0≤q.2∧q.2≤20000*((q.1:Int)+100))∧(q.2=0↔(jZ s.n=[]∧∀ j (h1:j<s.ks.length) (h2:j<s.cs.length),j<i→kl s.ks[j]=0∧s.cs[j].aP=[]∧s.cs[j].bD=[])∧∀ j (h1:j<s.hs.length),j<q.1→s.hs[j].q.length=0)) (fun q=>x.hb.length-q.1) (0,n)
    ·exact bH
    ·exact ⟨Nat.zero_le _,⟨by dsimp only;omega,by dsimp only;omega⟩,hq.trans ⟨fun h=>⟨h,fun j _ g=>absurd g (Nat.not_lt_zero _)⟩,fun h=>h.1⟩⟩
    ·refine fv ?_ hf;exact af
    ·rintro ⟨k,m⟩ ⟨hk,hm,VG⟩;dsimp only at hk hm VG ⊢;by_cases Ka:k<x.hb.length
     ·have hg:=dB Ka;have Sv:s.hs=s.hs.set k (s.hs.getD k dl):=bf.symm;have gh:s.hs.getD k dl=s.hs[k]:=by rw [List.getD_eq_getElem?_getD,List.getElem?_eq_getElem (om)];rfl
      refine lH Ka fun hf=>?_;(first|refine aD (fI x.hb[k] c (k:Int) (s.hs.getD k dl)) ?_|refine aE (fI x.hb[k] c (k:Int) (s.hs.getD k dl)) ?_|refine aF (fI x.hb[k] c (k:Int) (s.hs.getD k dl)) ?_);refine jD fun p k2 be bq xs L8=>?_;(first|refine aD (oJ 196 205 bq c.aQ (s.hs.getD k dl).q) ?_|refine aE (oJ 196 205 bq c.aQ (s.hs.getD k dl).q) ?_|refine aF (oJ 196 205 bq c.aQ (s.hs.getD k dl).q) ?_);refine jY fun pq cq ps LY=>?_;obtain ⟨Sw,VC,Y1,Xm,Y2⟩:=LY;have Pw:ps.length=(s.hs.getD k dl).q.length:=by rw [←Sw,List.length_map]
      have hp16:(ps.length:Int)≤16:=by omega
      repeat first|refine go ?_|intro _|refine qx ?_|refine av ?_
      ((first|apply cy (L':=(oJ 196 205 bq c.aQ (s.hs.getD k dl).q)::_)|apply cD (L':=(oJ 196 205 bq c.aQ (s.hs.getD k dl).q)::_)|apply cE (L':=(oJ 196 205 bq c.aQ (s.hs.getD k dl).q)::_)|apply cR (L':=(oJ 196 205 bq c.aQ (s.hs.getD k dl).q)::_));(focus (apply ed;(focus (exact af));all_goals exact bu)));((first|apply cy (L':=(fI x.hb[k] c (k:Int) (s.hs.getD k dl))::_)|apply cD (L':=(fI x.hb[k] c (k:Int) (s.hs.getD k dl))::_)|apply cE (L':=(fI x.hb[k] c (k:Int) (s.hs.getD k dl))::_)|apply cR (L':=(fI x.hb[k] c (k:Int) (s.hs.getD k dl))::_));(focus (apply DN;(focus (exact af));all_goals exact bu)));refine aC ((k+1,m+(ps.length:Int)):Nat×Int) (by dsimp only;omega) ⟨by dsimp only;omega,⟨by dsimp only;omega,by dsimp only;omega⟩,?_⟩ ?_ ?_
      ·dsimp only;constructor
       ·intro h;obtain ⟨a1,a2⟩:=VG.1 (om);refine ⟨a1,fun j h1 hj=>?_⟩;by_cases e:j=k
        ·subst e;rw [←gh];omega
        ·exact a2 j h1 (om)
       ·rintro ⟨a1,a2⟩;have e0:=VG.2 ⟨a1,fun j h1 hj=>a2 j h1 (om)⟩;have b1:=a2 k (om) (om);rw [←gh] at b1;omega
      ·exact bH
      ·(apply nR;(focus (exact af));all_goals exact bu)
     ·refine ky fun hf=>?_;repeat first|refine go ?_|intro _|refine qx ?_|refine av ?_
      have hqe:decide (m=0)=iC s:=by
        rw [Bool.eq_iff_iff,decide_eq_true_eq,VG,nW];constructor
        ·rintro ⟨⟨a1,a2⟩,a3⟩;exact ⟨a1,fun j h=>(a2 j h (om) (om)).1,fun j h=>(a2 j (om) h (om)).2,fun j h=>a3 j h (om)⟩
        ·rintro ⟨a1,a2,a3,a4⟩;exact ⟨⟨a1,fun j h1 h2 _=>⟨a2 j h1,a3 j h2⟩⟩,fun j h _=>a4 j h⟩
      (apply ad rfl rfl ar)
      ·exact ⟨congrArg Value.bool hqe,rfl⟩
      ·refine fv ?_ hf;exact af
end
end
section
theorem M4 {F:List HP} {c:au} (hc:c.wf) {l:List c5} {v:Value} (k:bN F 3 v l.length (aj oc l)) (hn:l.length≤1099511627776) (h:fl c l=true) :
    az prog 87 [c.val,v] [] F (fun r L'=>∃ b,r= .tuple [.pointer (some ⟨b,0,none⟩),.int .i64 0].toArray∧L'=[sA b ⟨l,[],[]⟩]):=by
  refine az.lift (R:=[]) (Li hc k hn h) ai.refl ?_;rintro v L ⟨b,hv,rfl⟩;exact ⟨_,⟨b,hv,rfl⟩,Hx ai.refl oI.nil⟩
attribute [local irreducible] Exit.then Exit.inBlock Code.wp WC WO WE WQ V aW dL Sat bz bK dU IntKind.wrap WR Code.rounds WT KO
theorem jz {Q P:Prop} (k:Q) (h:Hid Q→P:=by
  intro k
  first
  |(refine an ?_;refine bF (id:=8) (.only [5]) (pl:= .p 1 <| .p 2 <| .p 3 <| .r 0 <| .r 4 <| .e true [(5,.n [] <| .p 6 <| .p 7 <| .p 8 <| .p 9 <| .p 10 <| .done)]) k.out)):P:=h ⟨k⟩
theorem T9 {F:List HP} {c:au} {ps:List tP} {v:Value} (hc:c.wf) (k:bN F 1 v ps.length (aj Am ps)) (kp:sN F ps) (h:sM c (ps.map (·.1))=true) :
    az prog 24 [c.val,v] [] F (fun r L'=>∃ b,r= .tuple [.pointer (some ⟨b,0,none⟩),.int .i64 0].toArray∧L'=[PO b c (cx c (ps.map (·.1)))]):=by
  simp only [sM,Bool.and_eq_true,decide_eq_true_eq,List.all_eq_true,List.length_map] at h;obtain ⟨⟨rH,hlen⟩,kQ⟩:=h;have Hc:=cp rH;have hN:=fun F=>Ds (F:=F) hc rH;have Mg:=fun F=>eC (F:=F) hc;simp only [cF,rH,if_true] at Mg;refine ay func24 ntmps24 ?_;repeat first|refine go ?_|intro _|refine jz ?_|refine av ?_|refine ae @Mg ?_|refine ae @hN ?_
  rename_i b2 bm bn
  apply aO (E0:=[(1,_),(2,_),(6,_)]) (fun E0 (q:Nat×List (Nat×l7)×List (Nat×(Nat×cT))×(Option Addr×Nat)×(Option Addr×Nat))=>(7,.int .i64 q.1)::E0)
    (fun q=>ao bm 72 (BP c 0 q.2.1.length q.2.2.1.length 0 0 q.2.2.2.1 q.2.2.2.2 (none,0) (none,0) bn)::aT 149 1 (.slice q.2.2.2.1.1 q.2.1.length q.2.2.2.1.2) q.2.1.length (aj jA (q.2.1.map (·.1)))::aT 152 1 (.slice q.2.2.2.2.1 q.2.2.1.length q.2.2.2.2.2) q.2.2.1.length (aj jA (q.2.2.1.map (·.1)))
      ::dk bn c .no::bZ (q.2.1.map PP)::bZ (q.2.2.1.map (Pa c))::ao b2 25 c.cells::F)
    (fun q=>q.1≤ps.length∧q.2.1.length=q.1∧q.2.2.1.length=q.1∧q.2.1.map (·.2)=(ps.take q.1).map (fun p=>⟨p.1,[],[]⟩)∧q.2.2.1.map (·.2.2)=List.replicate q.1 (mi c)∧∀ j (hj:j<q.2.2.1.length),q.2.2.1[j].2.1=j) (fun q=>ps.length-q.1) (0,[],[],(none,0),(none,0))
  ·exact bH
  ·exact ⟨Nat.zero_le _,rfl,rfl,rfl,rfl,fun j hj=>absurd hj (Nat.not_lt_zero _)⟩
  ·dsimp only [List.length_nil];refine ai.trans ?_ (ai.cons (aI (aI (ai.cons (ai.trans all_nil (ai.cons all_nil))))));exact af
  ·rintro ⟨i,kq,aq,⟨pk,ck⟩,⟨pa,ca⟩⟩ ⟨hi,xY,vM,BN,L4,O2⟩;dsimp only at hi xY vM BN L4 O2 ⊢;by_cases bB:i<ps.length
   ·have hp:=kQ _ (List.mem_map_of_mem (List.getElem_mem bB));have Pw:=tW hp;haveI W8:=HD kp bB;have hC:=fun F' (k':bN F' 3 (.slice ps[i].2.1 ps[i].1.length ps[i].2.2) ps[i].1.length (aj oc ps[i].1))=>M4 (F:=F') (c:=c) hc (l:=ps[i].1) k' (om) hp;have hA:=fun F'=>Dq (F:=F') (c:=c) (ap:=(i:Int)) hc ⟨rH,om,om⟩
    have key:∀ bk ba:Nat,i+1≤ps.length∧(kq++[(bk,(⟨ps[i].1,[],[]⟩:l7))]).length=i+1∧(aq++[(ba,(i,mi c))]).length=i+1∧(kq++[(bk,(⟨ps[i].1,[],[]⟩:l7))]).map (·.2)=(ps.take (i+1)).map (fun p=>⟨p.1,[],[]⟩)
     ∧(aq++[(ba,(i,mi c))]).map (·.2.2)=List.replicate (i+1) (mi c)∧∀ j (hj:j<(aq++[(ba,(i,mi c))]).length),(aq++[(ba,(i,mi c))])[j].2.1=j:=fun bk ba=>by
      refine ⟨om,by simp [xY],by simp [vM],?_,?_,z9 vM O2⟩
      ·rw [List.take_add_one,List.getElem?_eq_getElem bB,Option.toList_some,List.map_append,List.map_append,BN];rfl
      ·rw [List.map_append,L4,List.replicate_succ'];rfl
    (first|(refine aX (v) inferInstance (om) ?_;intro _)|(refine aY (v) inferInstance (om) ?_;intro _));repeat' (first|refine go ?_|intro _|refine jz ?_|refine av ?_|refine ae @hC ?_|refine ae @hA ?_|refine bj ?_ ?_|fail)
    all_goals apply aC (i+1,kq++[(_,(⟨ps[i].1,[],[]⟩:l7))],aq++[(_,(i,mi c))],(_,_),(_,_))
    all_goals first
    |(dsimp only;omega)
    |(exact bH;done)
    |(dsimp only;simp only [List.length_append,List.length_singleton,List.map_append,List.map_cons,List.map_nil,aJ,bi];((repeat (first|(with_reducible exact ai.refl)|exact ai.nil|(apply iX;exact G4)|(apply Rw)|(apply Rx)|apply ai.drop));all_goals exact bu))
    |skip
    all_goals exact key _ _
   ·have kM:i=ps.length:=by omega
    subst kM;rw [List.take_length] at BN;repeat first|refine go ?_|intro _|refine jz ?_|refine av ?_
    have hh:=mB rH
    apply aO (E0:=[(2,_),(6,_)]) (fun E0 (q:Nat×List (Nat×(Nat×di))×(Option Addr×Nat))=>(12,.int .i64 q.1)::E0)
      (fun q=>ao bm 72 (BP c 0 kq.length aq.length q.2.1.length 0 (pk,ck) (pa,ca) q.2.2 (none,0) bn)::aT 149 1 (.slice pk kq.length ck) kq.length (aj jA (kq.map (·.1)))::aT 152 1 (.slice pa aq.length ca) aq.length (aj jA (aq.map (·.1)))
        ::aT 155 1 (.slice q.2.2.1 q.2.1.length q.2.2.2) q.2.1.length (aj jA (q.2.1.map (·.1)))::dk bn c .no::bZ (kq.map PP)::bZ (aq.map (Pa c))::bZ (q.2.1.map (PQ c))::ao b2 25 c.cells::F)
      (fun q=>(q.1:Int)≤c.bY∧q.2.1.length=q.1∧q.2.1.map (·.2.2)=(List.range q.1).map (fun (j:Nat)=>lT c (j:Int))∧∀ j (hj:j<q.2.1.length),q.2.1[j].2.1=j) (fun q=>c.bY.toNat-q.1) (0,[],(none,0))
    ·exact bH
    ·exact ⟨om,rfl,rfl,fun j hj=>absurd hj (Nat.not_lt_zero _)⟩
    ·dsimp only [List.length_nil];refine ai.trans ?_ (ai.cons (ai.cons (ai.cons (aI (ai.cons (ai.cons (ai.cons all_nil)))))));exact af
    ·rintro ⟨n,hq,⟨ph,ch⟩⟩ ⟨hn,I9,PK,L0⟩;dsimp only at hn I9 PK L0 ⊢;by_cases bB:(n:Int)<c.bY
     ·have hH:=fun F'=>Lr (F:=F') (c:=c) (num:=(n:Int)) hc (by unfold tA;rw [rH,decide_eq_true ⟨om,bB⟩];rfl)
      have key:∀ bh:Nat,((n+1:Nat):Int)≤c.bY∧(hq++[(bh,(n,lT c (n:Int)))]).length=n+1∧(hq++[(bh,(n,lT c (n:Int)))]).map (·.2.2)=(List.range (n+1)).map (fun (j:Nat)=>lT c (j:Int))
       ∧∀ j (hj:j<(hq++[(bh,(n,lT c (n:Int)))]).length),(hq++[(bh,(n,lT c (n:Int)))])[j].2.1=j:=fun bh=>by
        refine ⟨om,by simp [I9],?_,z9 I9 L0⟩;rw [List.map_append,PK,List.range_succ,List.map_append];rfl
      repeat' (first|refine go ?_|intro _|refine jz ?_|refine av ?_|refine ae @hH ?_|refine bj ?_ ?_|fail)
      all_goals apply aC (n+1,hq++[(_,(n,lT c (n:Int)))],(_,_))
      all_goals first
      |(dsimp only;omega)
      |(exact bH;done)
      |(dsimp only;simp only [List.length_append,List.length_singleton,List.map_append,List.map_cons,List.map_nil,aJ,bi];exact eb @Ry)
      |skip
      all_goals exact key _
     ·have UJ:n=c.bY.toNat:=by omega
      repeat first|refine go ?_|intro _|refine jz ?_|refine av ?_
      (apply ad rfl rfl ar)
      ·exact ⟨_,rfl,rfl⟩
      ·have W9:kq.map PP=(List.range (kq.map (·.1)).length).map (BR ⟨kq.map (·.1),aq.map (·.1),hq.map (·.1),(pk,ck),(pa,ca),(ph,ch),(none,0),bn⟩ (cx c (ps.map (·.1)))):=by
         apply List.ext_getElem (by simp);intro j h1 h2;have e1:(cx c (ps.map (·.1))).ks=kq.map (·.2):=by rw [BN];unfold cx;rw [List.map_map];rfl
         have hj:j<kq.length:=by simpa using h1
         simp [BR,e1,hj]
       have Xa:aq.map (Pa c)=(List.range (aq.map (·.1)).length).map (BS c ⟨kq.map (·.1),aq.map (·.1),hq.map (·.1),(pk,ck),(pa,ca),(ph,ch),(none,0),bn⟩ (cx c (ps.map (·.1)))):=by
         apply List.ext_getElem (by simp);intro j h1 h2;have e1:(cx c (ps.map (·.1))).cs=aq.map (·.2.2):=by
           rw [L4]
           show (ps.map (·.1)).map (fun _=>mi c)=_;rw [List.map_const',List.length_map]
         have hj:j<aq.length:=by simpa using h1
         simp [BS,Pa,e1,hj,O2 j hj]
       have Xb:hq.map (PQ c)=(List.range (hq.map (·.1)).length).map (BT c ⟨kq.map (·.1),aq.map (·.1),hq.map (·.1),(pk,ck),(pa,ca),(ph,ch),(none,0),bn⟩ (cx c (ps.map (·.1)))):=by
         apply List.ext_getElem (by simp);intro j h1 h2;have e1:(cx c (ps.map (·.1))).hs=hq.map (·.2.2):=by rw [PK,UJ];rfl
         have hj:j<hq.length:=by simpa using h1
         simp [BT,PQ,e1,hj,L0 j hj]
       refine T3 (x:=⟨kq.map (·.1),aq.map (·.1),hq.map (·.1),(pk,ck),(pa,ca),(ph,ch),(none,0),bn⟩) (M1 (nk:=kq.length) (na:=aq.length) (nh:=hq.length) (nt:=0) (vk:=aj jA (kq.map (·.1))) (va:=aj jA (aq.map (·.1))) (vh:=aj jA (hq.map (·.1))) (vt:=[]) ?_ ⟨⟨?_,?_,?_⟩,⟨?_,?_,?_⟩,rH⟩ ⟨rfl,rfl,rfl,rfl,rfl⟩ (by simp) (by simp) (by simp) rfl rfl rfl rfl rfl)
       ·rw [←W9,←Xa,←Xb];dsimp only [cx];refine ai.trans ?_ (ai.cons (ai.cons (ai.cons (ai.cons (ai.cons (aI ai.refl))))));exact af
       ·unfold cx;simp [xY]
       ·unfold cx;simp [vM]
       ·unfold cx;simp [I9,UJ]
       ·simp only [List.length_map];omega
       ·simp only [List.length_map];omega
       ·simp only [List.length_map];omega
theorem LH {F:List HP} {c:au} {ps:List tP} {v:Value} (hc:c.wf) (k:bN F 1 v ps.length (aj Am ps)) (kp:sN F ps) (hn:∀ p∈ps,p.1.length≤1099511627776) (h:sM c (ps.map (·.1))=false) :
    az prog 24 [c.val,v] [] F (fun r L'=>r= .tuple [.pointer none,.int .i64 1].toArray∧L'=[]):=by
  cases rH:aB c with
  |false=>
   have Mg:=fun F=>eC (F:=F) hc;simp only [cF,rH,Bool.false_eq_true,if_false] at Mg;refine ay func24 ntmps24 ?_;repeat first|refine go ?_|intro _|refine jz ?_|refine av ?_|refine ae @Mg ?_
   exact aM
  |true=>
   have hN:=fun F=>Ds (F:=F) hc rH;have Mg:=fun F=>eC (F:=F) hc;simp only [cF,rH,if_true] at Mg;by_cases hlen:(ps.length:Int)=c.ax
   ·have Hc:=cp rH;obtain ⟨n,hnl,UK⟩:∃ n,∃ h:n<ps.length,fl c ps[n].1=false:=by
      have h1:¬∀ x∈ps.map (·.1),fl c x=true:=fun h2=>by
        rw [sM,rH,List.length_map,decide_eq_true hlen,List.all_eq_true.2 h2] at h;cases h
      refine Classical.byContradiction fun h3=>h1 fun x hx=>?_;obtain ⟨p,hp,rfl⟩:=List.mem_map.1 hx;obtain ⟨i,hi,rfl⟩:=List.getElem_of_mem hp;cases e:fl c ps[i].1 with
      |true=>rfl
      |false=>exact absurd ⟨i,hi,e⟩ h3
    refine ay func24 ntmps24 ?_;repeat first|refine go ?_|intro _|refine jz ?_|refine av ?_|refine ae @Mg ?_|refine ae @hN ?_
    rename_i b2 bm bn
    apply aO (E0:=[(1,_),(2,_),(6,_)]) (fun E0 (q:Nat×List (Nat×l7)×List (Nat×(Nat×cT))×(Option Addr×Nat)×(Option Addr×Nat))=>(7,.int .i64 q.1)::E0)
      (fun q=>ao bm 72 (BP c 0 q.2.1.length q.2.2.1.length 0 0 q.2.2.2.1 q.2.2.2.2 (none,0) (none,0) bn)::aT 149 1 (.slice q.2.2.2.1.1 q.2.1.length q.2.2.2.1.2) q.2.1.length (aj jA (q.2.1.map (·.1)))::aT 152 1 (.slice q.2.2.2.2.1 q.2.2.1.length q.2.2.2.2.2) q.2.2.1.length (aj jA (q.2.2.1.map (·.1)))
        ::ao b2 25 c.cells::F)
      (fun q=>q.1≤n∧q.2.1.length=q.1∧q.2.2.1.length=q.1) (fun q=>ps.length-q.1) (0,[],[],(none,0),(none,0))
    ·exact bH
    ·exact ⟨Nat.zero_le _,rfl,rfl⟩
    ·dsimp only [List.length_nil];refine ai.trans ?_ (ai.cons (aI (aI ai.refl)));exact af
    ·rintro ⟨i,kq,aq,⟨pk,ck⟩,⟨pa,ca⟩⟩ ⟨hi,xY,vM⟩;dsimp only at hi xY vM ⊢;have bB:i<ps.length:=by omega
     have Pw:=hn _ (List.getElem_mem bB);haveI W8:=HD kp bB;cases hp:fl c ps[i].1 with
     |true=>
      have kz:i≠n:=fun e=>by subst e;rw [hp] at UK;cases UK
      have hC:=fun F' (k':bN F' 3 (.slice ps[i].2.1 ps[i].1.length ps[i].2.2) ps[i].1.length (aj oc ps[i].1))=>M4 (F:=F') (c:=c) hc (l:=ps[i].1) k' (om) hp;have hA:=fun F'=>Dq (F:=F') (c:=c) (ap:=(i:Int)) hc ⟨rH,om,om⟩;(first|(refine aX (v) inferInstance (om) ?_;intro _)|(refine aY (v) inferInstance (om) ?_;intro _));repeat' (first|refine go ?_|intro _|refine jz ?_|refine av ?_|refine ae @hC ?_|refine ae @hA ?_|refine bj ?_ ?_|fail)
      all_goals apply aC (i+1,kq++[(_,(⟨ps[i].1,[],[]⟩:l7))],aq++[(_,(i,mi c))],(_,_),(_,_))
      all_goals first
      |(dsimp only;omega)
      |(exact bH;done)
      |(refine ai.trans ai.refl ?_;dsimp only;simp only [List.length_append,List.length_singleton,List.map_append,List.map_cons,List.map_nil,aJ,bi];exact af)
      |skip
      all_goals exact ⟨by dsimp only;omega,by simp [xY],by simp [vM]⟩
     |false=>
      have hC:=fun F' (k':bN F' 3 (.slice ps[i].2.1 ps[i].1.length ps[i].2.2) ps[i].1.length (aj oc ps[i].1))=>EI (F:=F') (c:=c) hc (l:=ps[i].1) k' (om) hp;(first|(refine aX (v) inferInstance (om) ?_;intro _)|(refine aY (v) inferInstance (om) ?_;intro _));repeat first|refine go ?_|intro _|refine jz ?_|refine av ?_|refine ae @hC ?_
      exact aM
   ·refine ay func24 ntmps24 ?_;repeat first|refine go ?_|intro _|refine jz ?_|refine av ?_|refine ae @Mg ?_|refine ae @hN ?_
    exact aM
end
end Go.Sx
