/- Mr4, Mr5, MdP: several of my texts as one. My own work. -/
import Derived.Test.YtjihlpjnebdiiabGreatZbl
import Derived.Test.YtjihlpjnebdiiabGreatZbm
import Derived.Test.YtjihlpjnebdiiabGreatZbn
set_option linter.unusedVariables false
set_option linter.unusedSectionVars false
set_option linter.unusedSimpArgs false
set_option maxRecDepth 100000
set_option maxHeartbeats 4000000
namespace Go.Sx
open Go Go.Proofs Tryz
section
attribute [local irreducible] Exit.then Exit.inBlock Code.wp WC WO WE WQ V aW dL Sat bz bK dU IntKind.wrap WR Code.rounds WT KO
theorem mr {Q P:Prop} (k:Q) (h:Hid Q→P:=by
  intro k
  first
  |(refine an ?_;refine bF (id:=5) (.only [9]) (pl:= .p 0 <| .p 1 <| .p 2 <| .p 4 <| .r 3 <| .r 5 <| .p 6 <| .r 7 <| .r 8 <| .e true [(9,.n [] <| .p 10 <| .done)]) k.out)
  |(refine an ?_;refine bF (id:=13) (.only [9]) (pl:= .p 0 <| .p 1 <| .p 2 <| .p 4 <| .r 3 <| .r 5 <| .p 6 <| .r 7 <| .r 8 <| .e true [(9,.n [] <| .p 10 <| .done)]) k.out)
  |(refine an ?_;refine bF (id:=19) (.only [13]) (pl:= .p 0 <| .p 1 <| .p 2 <| .p 4 <| .r 3 <| .r 5 <| .p 6 <| .r 7 <| .e true [(8,.p 9 <| .p 10 <| .p 11 <| .e true [(12,.e true [(13,.n [] <| .p 14 <| .done)])]),(12,.e true [(8,.p 9 <| .p 10 <| .p 11 <| .e true [(13,.n [] <| .p 14 <| .done)])])]) k.out)
  |(refine an ?_;refine bF (id:=21) (.only [9]) (pl:= .p 0 <| .p 1 <| .p 2 <| .p 4 <| .r 3 <| .r 5 <| .p 6 <| .r 7 <| .r 8 <| .e true [(9,.n [] <| .p 10 <| .p 11 <| .p 12 <| .p 13 <| .p 14 <| .done)]) k.out)):P:=h ⟨k⟩
theorem RF {F:List HP} {b:Nat} {c:au} {s:cg} {x:fP} {n:Nat} {j:Int} (hw:c.wf) (hl:eG c n s) (hn:n≤1000000000000) (hx:gG c s x) (h:gv s.n 2 j=true) (qG:(bE s.n 2 j).ah=11) :
    az prog 91 [.pointer (some ⟨b,0,none⟩),.int .i64 2,.int .i64 j] [fy b c s x] F (fun r L'=>r= .bool (dY c s 2 j)∧L'=[fy b c (dA c s 2 j) x]):=by
  obtain ⟨⟨f1,f2,f3⟩,⟨f4,f5,f6⟩,f7⟩:=id hx;have gP:=hl.nt 2 _ (l6 h);obtain ⟨d0,d1⟩:=rY gP.1 (.inr qG);obtain ⟨d,hd⟩:∃ d:Nat,(bE s.n 2 j).dst=d:=⟨(bE s.n 2 j).dst.toNat,om⟩;have hk:d<x.hb.length:=by omega
  have hg:=dB hk;have ho:=hl.od;have eH:sx s (d:Int)=s.hs.getD d dl:=rfl;have dC:¬(gv s.n 2 j=false∨(2:Int)=1∧c8 c s.n 2=0):=by rw [h];simp
  have hA:=fun F=>rX (F:=F) (b:=x.bn) (c:=c) (n:=s.n) (k:=2) (i:=j);have hT:=fun F=>s6 (F:=F) (b:=x.bn) (c:=c) (n:=s.n) (k:=2) (i:=j);have Eo:=fun F=>Rd (F:=F) (b:=x.hb[d]) (c:=c) (num:=(d:Int)) (s:=s.hs.getD d dl) (m:=bE s.n 2 j) hw;simp only [h] at hA;have eB:dY c s 2 j=true:=by unfold dY;rw [if_neg dC,if_neg (by decide)]
  have eS:dA c s 2 j=⟨s.ks,s.cs,s.hs.set d (iB c d (s.hs.getD d dl) (bE s.n 2 j)),cU s.n 2 j,s.tr,if fZ c d (s.hs.getD d dl) (bE s.n 2 j)=0 then s.aR else s.aR+1⟩:=by
    unfold dA;rw [if_neg dC,if_neg (by decide),if_neg (by decide),if_pos qG];unfold Hq;rw [hd];by_cases g:fZ c d (s.hs.getD d dl) (bE s.n 2 j)=0
    ·rw [if_pos g];have:decide (fZ c (d:Int) (sx (vH s (cU s.n 2 j)) d) (bE s.n 2 j)≠0)=false:=decide_eq_false (fun e=>e g);rw [this];rfl
    ·rw [if_neg g];have:decide (fZ c (d:Int) (sx (vH s (cU s.n 2 j)) d) (bE s.n 2 j)≠0)=true:=decide_eq_true g;rw [this];rfl
  rw [eB,eS];clear eB eS;generalize hm:bE s.n 2 j=m at *;obtain ⟨mk,ml,ms,md,mw,nB,mo,vB⟩:=m;dsimp only at hd qG;subst hd qG;by_cases he:fZ c d (s.hs.getD d dl) ⟨11,ml,ms,d,mw,nB,mo,vB⟩=0
  ·rw [if_pos he];simp only [he] at Eo;refine ay func91 ntmps91 ?_;refine lH hk fun hf=>?_;(first|(refine aX (.slice x.ph.1 x.hb.length x.ph.2) inferInstance (om) ?_;intro _)|(refine aY (.slice x.ph.1 x.hb.length x.ph.2) inferInstance (om) ?_;intro _));repeat first|refine go ?_|intro _|refine mr ?_|refine av ?_|refine ae @hA ?_|refine ae @Eo ?_|refine ae @hT ?_
   (apply ad rfl rfl ar)
   ·exact ⟨rfl,rfl⟩
   ·(apply nR;(focus (exact af));all_goals exact bu)
  ·rw [if_neg he];refine ay func91 ntmps91 ?_;refine lH hk fun hf=>?_;(first|(refine aX (.slice x.ph.1 x.hb.length x.ph.2) inferInstance (om) ?_;intro _)|(refine aY (.slice x.ph.1 x.hb.length x.ph.2) inferInstance (om) ?_;intro _));repeat first|refine go ?_|intro _|refine mr ?_|refine av ?_|refine ae @hA ?_|refine ae @Eo ?_|refine ae @hT ?_
   (apply ad rfl rfl ar)
   ·exact ⟨rfl,rfl⟩
   ·(apply nR;(focus (exact af));all_goals exact bu)
theorem RG {F:List HP} {b:Nat} {c:au} {s:cg} {x:fP} {n:Nat} {j:Int} (hw:c.wf) (hl:eG c n s) (hn:n≤1000000000000) (ht:s.tr.length≤1000000000000) (hx:gG c s x) (h:gv s.n 2 j=true) (qG:(bE s.n 2 j).ah≠11) :
    az prog 91 [.pointer (some ⟨b,0,none⟩),.int .i64 2,.int .i64 j] [fy b c s x] F (fun r L'=>∃ pt:Option Addr×Nat,r= .bool (dY c s 2 j)∧L'=[fy b c (dA c s 2 j) { x with pt:=pt}]):=by
  obtain ⟨⟨f1,f2,f3⟩,⟨f4,f5,f6⟩,f7⟩:=id hx;have gP:=hl.nt 2 _ (l6 h);have sv:=gP.2;obtain ⟨d0,d1⟩:=tY gP.1 (by unfold ee at sv;unfold cA;split at sv<;>(try split at sv)<;>(try split at sv)<;>omega);obtain ⟨i,hd⟩:∃ i:Nat,(bE s.n 2 j).dst=i:=⟨(bE s.n 2 j).dst.toNat,om⟩;have hk:i<x.kb.length:=by omega
  have ha:i<x.ab.length:=by omega
  have eA:gF s (i:Int)=s.cs.getD i aL:=rfl;have eK:cI s (i:Int)=s.ks.getD i bQ:=rfl;have hX:=hl.CN (i:Int);have ho:=hl.od;have YT:=dR f7;have UM:=dB hk;have UN:=dB ha;have dC:¬(gv s.n 2 j=false∨(2:Int)=1∧c8 c s.n 2=0):=by rw [h];simp
  have hA:=fun F=>rX (F:=F) (b:=x.bn) (c:=c) (n:=s.n) (k:=2) (i:=j);have hT:=fun F=>s6 (F:=F) (b:=x.bn) (c:=c) (n:=s.n) (k:=2) (i:=j);have Ep:=fun F=>JT (F:=F) (b:=b) (c:=c) (aR:=s.aR) (nk:=x.kb.length) (nh:=x.hb.length) (nt:=s.tr.length) (pk:=x.pk) (pa:=x.pa) (ph:=x.ph) (pt:=x.pt) (bn:=x.bn) (ab:=x.ab) (a:=s.cs.getD i aL) (n:=cU s.n 2 j) (m:=bE s.n 2 j) hw ha hd ⟨ho.1,om⟩ (JS hX hn);have hH:=fun F=>JQ (F:=F) (b:=x.kb[i]) (k:=s.ks.getD i bQ);simp only [h] at hA;have eB:dY c s 2 j=true:=by unfold dY;rw [if_neg dC,if_neg (by decide)]
  have eS:dA c s 2 j=jX c ⟨s.ks,s.cs.set i (cw c i (s.cs.getD i aL) (bE s.n 2 j)),s.hs,if cJ c i (s.cs.getD i aL) (bE s.n 2 j) then fG c (cU s.n 2 j) (dg c i (s.cs.getD i aL) (bE s.n 2 j)) else cU s.n 2 j,s.tr,if c4 c i (s.cs.getD i aL) (bE s.n 2 j)=0 then s.aR else s.aR+1⟩ (bE s.n 2 j):=by
    unfold dA;rw [if_neg dC,if_neg (by decide),if_neg (by decide),if_neg qG,Ae,hd];rfl
  rw [eB,eS];clear eB eS;generalize hN:(if cJ c i (s.cs.getD i aL) (bE s.n 2 j) then fG c (cU s.n 2 j) (dg c i (s.cs.getD i aL) (bE s.n 2 j)) else cU s.n 2 j)=n' at *;generalize hO:(if c4 c i (s.cs.getD i aL) (bE s.n 2 j)=0 then s.aR else s.aR+1)=mZ at *;generalize Ej:cw c i (s.cs.getD i aL) (bE s.n 2 j)=a' at *;generalize hm:bE s.n 2 j=m at *;obtain ⟨mk,ml,ms,md,mw,nB,mo,vB⟩:=m;dsimp only at hd qG;have h11':¬mk=11:=qG;subst hd;have Pv:(s.cs.set i a').getD i aL=a':=by rw [fV,if_pos ⟨rfl,om⟩]
  cases hh:kZ (cI s i) with
  |false=>
   have zL:kY (s.ks.getD i bQ).l (s.ks.getD i bQ).rs=false:=hh;simp only [zL] at hH;have eT:jX c ⟨s.ks,s.cs.set i a',s.hs,n',s.tr,mZ⟩ ⟨mk,ml,ms,i,mw,nB,mo,vB⟩=⟨s.ks.set i (s.ks.getD i bQ),s.cs.set i a',s.hs,n',s.tr,mZ⟩:=by
     unfold jX;rw [if_neg (fun g=>by have:kZ (cI s i)=true:=g.1;rw [hh] at this;cases this),bf]
   rw [eT];refine ay func91 ntmps91 ?_;refine gp hk ha fun hf=>?_;(first|(refine aX (.slice x.pk.1 x.kb.length x.pk.2) inferInstance (om) ?_;intro _)|(refine aY (.slice x.pk.1 x.kb.length x.pk.2) inferInstance (om) ?_;intro _));repeat' (first|refine go ?_|intro _|refine mr ?_|refine av ?_|refine ae @hA ?_|refine ae @hT ?_|refine ae @Ep ?_|refine ae @hH ?_|refine bj ?_ ?_|fail)
   all_goals (apply ad rfl rfl ar)
   all_goals first|exact ⟨x.pt,rfl,rfl⟩|(apply eQ;(focus (exact af));all_goals exact bu)
  |true=>
   have zL:kY (s.ks.getD i bQ).l (s.ks.getD i bQ).rs=true:=hh;have kz:¬(s.ks.getD i bQ).rs.length=(s.ks.getD i bQ).l.length:=by simpa [kY] using zL
   have Ek:(kC (s.ks.getD i bQ).l (s.ks.getD i bQ).rs).wf:=Ad hl hh;have Ke:fE c (kC (s.ks.getD i bQ).l (s.ks.getD i bQ).rs).addr=true:=JR hl hh;have eO:gw (cI s i)=kC (s.ks.getD i bQ).l (s.ks.getD i bQ).rs:=rfl;simp only [zL] at hH;generalize kC (s.ks.getD i bQ).l (s.ks.getD i bQ).rs=op at *;have Kf:=DF Ke;by_cases hg:op.ah≠4∧bT c op=ml
   ·obtain ⟨h4,PM⟩:=hg;have PI:¬op.ah=4:=h4;have hml':IntKind.i64.wrap (op.addr.tdiv c.ag)=ml:=Kf.trans PM;have At:=fun F=>A2 (F:=F) (b:=x.ab[i]) (c:=c) (ap:=(i:Int)) (x:=op) (k:=a') Ek;have Hd:=fun F n'=>DD (F:=F) (b:=b) (c:=c) (aR:=mZ) (na:=x.ab.length) (nh:=x.hb.length) (pk:=x.pk) (pa:=x.pa) (ph:=x.ph) (pt:=x.pt) (bn:=x.bn) (kb:=x.kb) (k:=s.ks.getD i bQ) (tr:=s.tr) (x:=op) (n:=n') hk kz ht;have eT:jX c ⟨s.ks,s.cs.set i a',s.hs,n',s.tr,mZ⟩ ⟨mk,ml,ms,i,mw,nB,mo,vB⟩=⟨s.ks.set i (BQ c a' (s.ks.getD i bQ) op),s.cs.set i (ff c a' op),s.hs,n',Ar c a' (s.ks.getD i bQ) i op s.tr,mZ⟩:=by
      unfold jX;rw [if_pos ⟨hh,by show (gw (cI s i)).ah≠4;rw [eO];exact h4,by show bT c (gw (cI s i))=ml;rw [eO];exact PM⟩,JM];have e1:gF (⟨s.ks,s.cs.set i a',s.hs,n',s.tr,mZ⟩:cg) (i:Int)=a':=Pv
      show (⟨s.ks.set i (BQ c (gF (⟨s.ks,s.cs.set i a',s.hs,n',s.tr,mZ⟩:cg) (i:Int)) (cI s i) (gw (cI s i))),(s.cs.set i a').set i (ff c (gF (⟨s.ks,s.cs.set i a',s.hs,n',s.tr,mZ⟩:cg) (i:Int)) (gw (cI s i))),s.hs,n',Ar c (gF (⟨s.ks,s.cs.set i a',s.hs,n',s.tr,mZ⟩:cg) (i:Int)) (cI s i) i (gw (cI s i)) s.tr,mZ⟩:cg)=_;rw [e1,eO,List.set_set];rfl
    rw [eT];by_cases hd:kf c a' op=0
    ·simp only [hd] at At;unfold BQ Ar;rw [if_pos hd,if_pos hd];refine ay func91 ntmps91 ?_;refine gp hk ha fun hf=>?_;(first|(refine aX (.slice x.pk.1 x.kb.length x.pk.2) inferInstance (om) ?_;intro _)|(refine aY (.slice x.pk.1 x.kb.length x.pk.2) inferInstance (om) ?_;intro _));(first|(refine aX (.slice x.pa.1 x.ab.length x.pa.2) inferInstance (om) ?_;intro _)|(refine aY (.slice x.pa.1 x.ab.length x.pa.2) inferInstance (om) ?_;intro _));repeat' (first|refine go ?_|intro _|refine mr ?_|refine av ?_|refine ae @hA ?_|refine ae @hT ?_|refine ae @Ep ?_|refine ae @hH ?_|refine ae @At ?_|refine ae @Hd ?_|refine bj ?_ ?_|fail)
     all_goals rename_i rr
     all_goals (apply ad rfl rfl ar)
     all_goals first|exact ⟨rr,rfl,rfl⟩|(apply eQ;(focus (exact af));all_goals exact bu)
    ·have VF:ff c a' op=a':=by unfold ff;rw [if_neg (fun g=>hd g.1)]
     simp only [VF] at At;unfold BQ Ar;rw [if_neg hd,if_neg hd,VF];refine ay func91 ntmps91 ?_;refine gp hk ha fun hf=>?_;(first|(refine aX (.slice x.pk.1 x.kb.length x.pk.2) inferInstance (om) ?_;intro _)|(refine aY (.slice x.pk.1 x.kb.length x.pk.2) inferInstance (om) ?_;intro _));(first|(refine aX (.slice x.pa.1 x.ab.length x.pa.2) inferInstance (om) ?_;intro _)|(refine aY (.slice x.pa.1 x.ab.length x.pa.2) inferInstance (om) ?_;intro _));repeat' (first|refine go ?_|intro _|refine mr ?_|refine av ?_|refine ae @hA ?_|refine ae @hT ?_|refine ae @Ep ?_|refine ae @hH ?_|refine ae @At ?_|refine bj ?_ ?_|fail)
     all_goals (apply ad rfl rfl ar)
     all_goals first|exact ⟨x.pt,rfl,rfl⟩|(apply eQ;(focus (exact af));all_goals exact bu)
   ·have eT:jX c ⟨s.ks,s.cs.set i a',s.hs,n',s.tr,mZ⟩ ⟨mk,ml,ms,i,mw,nB,mo,vB⟩=⟨s.ks.set i (s.ks.getD i bQ),s.cs.set i a',s.hs,n',s.tr,mZ⟩:=by
      unfold jX;rw [if_neg (fun g=>hg ⟨by have:(gw (cI s i)).ah≠4:=g.2.1;rwa [eO] at this,by have:bT c (gw (cI s i))=ml:=g.2.2;rwa [eO] at this⟩),bf]
    rw [eT];by_cases h4:op.ah=4
    ·refine ay func91 ntmps91 ?_;refine gp hk ha fun hf=>?_;(first|(refine aX (.slice x.pk.1 x.kb.length x.pk.2) inferInstance (om) ?_;intro _)|(refine aY (.slice x.pk.1 x.kb.length x.pk.2) inferInstance (om) ?_;intro _));repeat' (first|refine go ?_|intro _|refine mr ?_|refine av ?_|refine ae @hA ?_|refine ae @hT ?_|refine ae @Ep ?_|refine ae @hH ?_|refine bj ?_ ?_|fail)
     all_goals (apply ad rfl rfl ar)
     all_goals first|exact ⟨x.pt,rfl,rfl⟩|(apply eQ;(focus (exact af));all_goals exact bu)
    ·have PM:¬IntKind.i64.wrap (op.addr.tdiv c.ag)=ml:=fun g=>hg ⟨h4,Kf.symm.trans g⟩;refine ay func91 ntmps91 ?_;refine gp hk ha fun hf=>?_;(first|(refine aX (.slice x.pk.1 x.kb.length x.pk.2) inferInstance (om) ?_;intro _)|(refine aY (.slice x.pk.1 x.kb.length x.pk.2) inferInstance (om) ?_;intro _));repeat' (first|refine go ?_|intro _|refine mr ?_|refine av ?_|refine ae @hA ?_|refine ae @hT ?_|refine ae @Ep ?_|refine ae @hH ?_|refine bj ?_ ?_|fail)
     all_goals (apply ad rfl rfl ar)
     all_goals first|exact ⟨x.pt,rfl,rfl⟩|(apply eQ;(focus (exact af));all_goals exact bu)
theorem IY {F:List HP} {b:Nat} {c:au} {s:cg} {x:fP} {n:Nat} {k j:Int} (hw:c.wf) (hl:eG c n s) (hn:n≤1000000000000) (ht:s.tr.length≤1000000000000) (hx:gG c s x) :
    az prog 91 [.pointer (some ⟨b,0,none⟩),.int .i64 k,.int .i64 j] [fy b c s x] F (fun r L'=>∃ pt:Option Addr×Nat,r= .bool (dY c s k j)∧L'=[fy b c (dA c s k j) { x with pt:=pt}]):=by
  by_cases h0:gv s.n k j=false∨k=1∧c8 c s.n 2=0
  ·exact (RB hw hl hx h0).mono fun r L h=>⟨x.pt,h⟩
  ·have hb:gv s.n k j=true:=by cases e:gv s.n k j with|true=>rfl|false=>exact absurd (.inl e) h0
   have hm:=l6 hb;have hk:k=0∨k=1∨k=2:=by
     unfold dK at hm;by_cases g0:k=0
     ·exact .inl g0
     ·rw [if_neg g0] at hm;by_cases g1:k=1
      ·exact .inr (.inl g1)
      ·rw [if_neg g1] at hm;by_cases g2:k=2
       ·exact .inr (.inr g2)
       ·rw [if_neg g2] at hm;cases hm
   rcases hk with rfl|rfl|rfl
   ·exact (RC hw hl hx hb).mono fun r L h=>⟨x.pt,h⟩
   ·exact (RD hw hl hn hx hb (fun e=>h0 (.inr ⟨rfl,e⟩))).mono fun r L h=>⟨x.pt,h⟩
   ·by_cases qG:(bE s.n 2 j).ah=11
    ·exact (RF hw hl hn hx hb qG).mono fun r L h=>⟨x.pt,h⟩
    ·exact RG hw hl hn ht hx hb qG
end
section
attribute [local irreducible] Exit.then Exit.inBlock Code.wp WC WO WE WQ V aW dL Sat bz bK dU IntKind.wrap WR Code.rounds WT KO
theorem lg {Q P:Prop} (k:Q) (h:Hid Q→P:=by
  intro k
  first
  |(refine an ?_;refine bF (id:=8) (.only [24,30]) (pl:= .p 0 <| .p 1 <| .p 2 <| .p 4 <| .p 7 <| .p 8 <| .p 9 <| .p 10 <| .p 13 <| .p 14 <| .p 15 <| .p 18 <| .p 19 <| .p 20 <| .r 3 <| .p 5 <| .r 6 <| .r 11 <| .r 16 <| .r 21 <| .e true [(12,.e true [(17,.e true [(22,.p 23 <| .e true [(24,.n [30] <| .p 25 <| .p 26 <| .p 27 <| .p 28 <| .e true [(29,.e true [(30,.n [] <| .p 31 <| .p 32 <| .done)])]),(29,.e true [(24,.n [30] <| .p 25 <| .p 26 <| .p 27 <| .p 28 <| .e true [(30,.n [] <| .p 31 <| .p 32 <| .done)])])]),(29,.e true [(22,.p 23 <| .e true [(24,.n [30] <| .p 25 <| .p 26 <| .p 27 <| .p 28 <| .e true [(30,.n [] <| .p 31 <| .p 32 <| .done)])])])]),(29,.e true [(17,.e true [(22,.p 23 <| .e true [(24,.n [30] <| .p 25 <| .p 26 <| .p 27 <| .p 28 <| .e true [(30,.n [] <| .p 31 <| .p 32 <| .done)])])])])]),(29,.e true [(12,.e true [(17,.e true [(22,.p 23 <| .e true [(24,.n [30] <| .p 25 <| .p 26 <| .p 27 <| .p 28 <| .e true [(30,.n [] <| .p 31 <| .p 32 <| .done)])])])])])]) k.out)
  |(refine an ?_;refine bF (id:=10) (.only [5]) (pl:= .p 0 <| .p 1 <| .p 2 <| .r 3 <| .r 4 <| .e true [(5,.n [] <| .done)]) k.out)
  |(refine an ?_;refine bF (id:=17) (.only [17,22]) (pl:= .p 0 <| .p 1 <| .p 2 <| .p 4 <| .p 7 <| .p 9 <| .p 10 <| .p 11 <| .p 12 <| .r 3 <| .p 5 <| .r 6 <| .r 8 <| .r 13 <| .p 14 <| .r 15 <| .e true [(16,.e true [(17,.n [22] <| .p 18 <| .p 19 <| .p 20 <| .e true [(21,.e true [(22,.n [] <| .p 23 <| .done)])]),(21,.e true [(17,.n [22] <| .p 18 <| .p 19 <| .p 20 <| .e true [(22,.n [] <| .p 23 <| .done)])])]),(21,.e true [(16,.e true [(17,.n [22] <| .p 18 <| .p 19 <| .p 20 <| .e true [(22,.n [] <| .p 23 <| .done)])])])]) k.out)
  |(refine an ?_;refine bF (id:=21) (.only [5]) (pl:= .p 0 <| .p 1 <| .p 2 <| .r 3 <| .r 4 <| .e true [(5,.n [] <| .done)]) k.out)):P:=h ⟨k⟩
theorem RH {F:List HP} {b:Nat} {c:au} {s:cg} {x:fP} {n:Nat} {p:Pk} (hw:c.wf) (hl:eG c n s) (hn:n≤1000000000000) (ht:s.tr.length≤1000000000000) (hp:dZ p.ah∧dZ p.a∧dZ p.b) (hx:gG c s x) :
    az prog 26 [.pointer (some ⟨b,0,none⟩),.int .i64 p.ah,.int .i64 p.a,.int .i64 p.b] [fy b c s x] F (fun r L'=>∃ pt:Option Addr×Nat,r= .bool (dH c s p)∧L'=[fy b c (dN c s p) { x with pt:=pt}]):=by
  obtain ⟨⟨f1,f2,f3⟩,⟨f4,f5,f6⟩,f7⟩:=id hx;obtain ⟨pk,pa,pb⟩:=p;dsimp only at hp ⊢;by_cases h0:pa<0∨pb<0
  ·have eB:dH c s ⟨pk,pa,pb⟩=false:=by unfold dH;rw [if_pos h0]
   have eS:dN c s ⟨pk,pa,pb⟩=s:=by unfold dN;rw [if_pos h0]
   rw [eB,eS];refine ay func26 ntmps26 ?_;by_cases ha:pa<0
   ·repeat first|refine go ?_|intro _|refine lg ?_|refine av ?_
    (apply ad rfl rfl ar)
    ·exact ⟨x.pt,rfl,rfl⟩
    ·exact af
   ·have hb:pb<0:=by omega
    repeat first|refine go ?_|intro _|refine lg ?_|refine av ?_
    (apply ad rfl rfl ar)
    ·exact ⟨x.pt,rfl,rfl⟩
    ·exact af
  ·have ha:¬pa<0:=fun g=>h0 (.inl g);have hb:¬pb<0:=fun g=>h0 (.inr g);by_cases h1:pk=1
   ·have eB:dH c s ⟨pk,pa,pb⟩=dY c s pa pb:=by unfold dH;rw [if_neg h0,if_pos h1]
    have eS:dN c s ⟨pk,pa,pb⟩=dA c s pa pb:=by unfold dN;rw [if_neg h0,if_pos h1]
    rw [eB,eS];have hD:=fun F=>IY (F:=F) (b:=b) (k:=pa) (j:=pb) hw hl hn ht hx;have k0:¬pk=0:=by omega
    refine ay func26 ntmps26 ?_;repeat first|refine go ?_|intro _|refine lg ?_|refine av ?_|refine ae @hD ?_
    rename_i rr;(apply ad rfl rfl ar)
    ·exact ⟨rr,rfl,rfl⟩
    ·exact af
   ·have xY:(x.kb.length:Int)=s.ks.length:=by omega
    have I9:(x.hb.length:Int)=s.hs.length:=by omega
    by_cases h2:pk=2∧(0≤pa∧pa<(x.hb.length:Int))
    ·obtain ⟨rfl,h2a,h2b⟩:=h2;obtain ⟨d,rfl⟩:∃ d:Nat,pa=d:=⟨pa.toNat,om⟩;have kH:qK (d:Int) s.hs.length=true:=by unfold qK;exact decide_eq_true (om)
     have eB:dH c s ⟨2,d,pb⟩=wP c s d pb:=by unfold dH;dsimp only;rw [if_neg h0,if_neg (by decide),if_pos ⟨rfl,kH⟩]
     have eS:dN c s ⟨2,d,pb⟩=jC c s d pb:=by unfold dN;dsimp only;rw [if_neg h0,if_neg (by decide),if_pos ⟨rfl,kH⟩]
     rw [eB,eS];exact (OJ hw hl hn (om) (om) hx).mono fun r L h=>⟨x.pt,h⟩
    ·by_cases h3:pk=0∧(0≤pa∧pa<(x.kb.length:Int))
     ·obtain ⟨rfl,h3a,h3b⟩:=h3;obtain ⟨d,rfl⟩:∃ d:Nat,pa=d:=⟨pa.toNat,om⟩;have kH:qK (d:Int) s.ks.length=true:=by unfold qK;exact decide_eq_true (om)
      have eB:dH c s ⟨0,d,pb⟩=cN c s d pb:=by unfold dH;dsimp only;rw [if_neg h0,if_neg (by decide),if_neg (fun e=>absurd e.1 (by decide)),if_pos ⟨rfl,kH⟩]
      have eS:dN c s ⟨0,d,pb⟩=cm c s d pb:=by unfold dN;dsimp only;rw [if_neg h0,if_neg (by decide),if_neg (fun e=>absurd e.1 (by decide)),if_pos ⟨rfl,kH⟩]
      rw [eB,eS];have hA:=fun F=>(T5 (F:=F) (b:=b) (w:=pb) (i:=d) hw hl hn ht (om) hp.2.2 hx).RA hx;refine ay func26 ntmps26 ?_;refine ky fun hf=>?_;repeat first|refine go ?_|intro _|refine lg ?_|refine av ?_|refine ae @hA ?_
      rename_i rr;(apply ad rfl rfl ar)
      ·exact ⟨rr,rfl,rfl⟩
      ·exact af
     ·by_cases h4:pk=3∧(0≤pa∧pa<(x.kb.length:Int))
      ·obtain ⟨rfl,h4a,h4b⟩:=h4;obtain ⟨d,rfl⟩:∃ d:Nat,pa=d:=⟨pa.toNat,om⟩;have kH:qK (d:Int) s.ks.length=true:=by unfold qK;exact decide_eq_true (om)
       have eB:dH c s ⟨3,d,pb⟩=gl c s d (1+pb.tmod 4):=by unfold dH;dsimp only;rw [if_neg h0,if_neg (by decide),if_neg (fun e=>absurd e.1 (by decide)),if_neg (fun e=>absurd e.1 (by decide)),if_pos ⟨rfl,kH⟩]
       have eS:dN c s ⟨3,d,pb⟩=fq c s d (1+pb.tmod 4):=by unfold dN;dsimp only;rw [if_neg h0,if_neg (by decide),if_neg (fun e=>absurd e.1 (by decide)),if_neg (fun e=>absurd e.1 (by decide)),if_pos ⟨rfl,kH⟩]
       rw [eB,eS];exact (OK hw hl (om) (om) hx).mono fun r L h=>⟨x.pt,h⟩
      ·have sq:¬(pk=2∧qK pa s.hs.length=true):=fun g=>h2 ⟨g.1,by have:=g.2;unfold qK at this;have:=of_decide_eq_true this;omega⟩;have I2:¬(pk=0∧qK pa s.ks.length=true):=fun g=>h3 ⟨g.1,by have:=g.2;unfold qK at this;have:=of_decide_eq_true this;omega⟩;have UR:¬(pk=3∧qK pa s.ks.length=true):=fun g=>h4 ⟨g.1,by have:=g.2;unfold qK at this;have:=of_decide_eq_true this;omega⟩;have eB:dH c s ⟨pk,pa,pb⟩=false:=by unfold dH;dsimp only;rw [if_neg h0,if_neg h1,if_neg sq,if_neg I2,if_neg UR]
       have eS:dN c s ⟨pk,pa,pb⟩=s:=by unfold dN;dsimp only;rw [if_neg h0,if_neg h1,if_neg sq,if_neg I2,if_neg UR]
       rw [eB,eS];refine ay func26 ntmps26 ?_;refine ky fun hf=>?_;by_cases k2:pk=2
       ·have n2:¬pa<(x.hb.length:Int):=fun g=>h2 ⟨k2,om⟩;have k0:¬pk=0:=by omega
        have k3:pk≠3:=by omega
        repeat first|refine go ?_|intro _|refine lg ?_|refine av ?_
        (apply ad rfl rfl ar)
        ·exact ⟨x.pt,rfl,rfl⟩
        ·refine fv ?_ hf;exact af
       ·by_cases k0:pk=0
        ·have n2:¬pa<(x.kb.length:Int):=fun g=>h3 ⟨k0,om⟩;have k3:pk≠3:=by omega
         repeat first|refine go ?_|intro _|refine lg ?_|refine av ?_
         (apply ad rfl rfl ar)
         ·exact ⟨x.pt,rfl,rfl⟩
         ·refine fv ?_ hf;exact af
        ·by_cases k3:pk=3
         ·have n2:pa≥(x.kb.length:Int):=by have:¬pa<(x.kb.length:Int):=fun g=>h4 ⟨k3,om⟩;omega
          have k3':¬pk≠3:=fun g=>g k3;repeat first|refine go ?_|intro _|refine lg ?_|refine av ?_
          (apply ad rfl rfl ar)
          ·exact ⟨x.pt,rfl,rfl⟩
          ·refine fv ?_ hf;exact af
         ·have k3':pk≠3:=k3;repeat first|refine go ?_|intro _|refine lg ?_|refine av ?_
          (apply ad rfl rfl ar)
          ·exact ⟨x.pt,rfl,rfl⟩
          ·refine fv ?_ hf;exact af
end
section
attribute [local irreducible] Exit.then Exit.inBlock Code.wp WC WO WE WQ V aW dL Sat bz bK dU IntKind.wrap WR Code.rounds WT KO
theorem IZ {F:List HP} {b:Nat} {c:au} {ps:List (List c5)} {l:List Pk} {x:fP} {i:Nat} (hw:c.wf) (cO:sM c ps=true) (hl:l.length≤300) (hp:∀ p∈l,Pk.wf p) (hi:i<l.length) (hx:gG c (dh c (cx c ps) (l.take i)) x) :
    az prog 26 [.pointer (some ⟨b,0,none⟩),.int .i64 l[i].ah,.int .i64 l[i].a,.int .i64 l[i].b] [fy b c (dh c (cx c ps) (l.take i)) x] F (fun r L'=>∃ pt:Option Addr×Nat,r= .bool (dH c (dh c (cx c ps) (l.take i)) l[i])∧L'=[fy b c (dh c (cx c ps) (l.take (i+1))) { x with pt:=pt}]):=by
  have h:=RH (F:=F) (b:=b) (x:=x) (p:=l[i]) hw (DO cO l i (om)) (om) (by have:=Hy cO l i (om);omega) (hp _ (List.getElem_mem hi)) hx;rw [←tl hi] at h;exact h
theorem G3 {F:List HP} {b:Nat} {c:au} {ps:List (List c5)} {l:List Pk} {x:fP} {i:Nat} (hw:c.wf) (cO:sM c ps=true) (hl:l.length≤300) (hp:∀ p∈l,Pk.wf p) (hi:i<l.length) (hx:gG c (dh c (cx c ps) (l.take i)) x) :
    az prog 14 [.pointer (some ⟨b,0,none⟩),Xh l[i]] [dj b c (dh c (cx c ps) (l.take i)) x] F (fun r L'=>∃ pt:Option Addr×Nat,r= .bool (dH c (dh c (cx c ps) (l.take i)) l[i])∧L'=[dj b c (dh c (cx c ps) (l.take (i+1))) { x with pt:=pt}]):=by
  have h:=JN (F:=F) (b:=b) (x:=x) (p:=l[i]) hw (DO cO l i (om)) (om) (by have:=Hy cO l i (om);omega) (hp _ (List.getElem_mem hi)) hx;rw [←tl hi] at h;exact h
end
end Go.Sx
