/- Mr3, Mr1: several of my texts as one. My own work. -/
import Derived.Test.YtjihlpjnebdiiabGreatZbk
set_option linter.unusedVariables false
set_option linter.unusedSectionVars false
set_option linter.unusedSimpArgs false
set_option maxRecDepth 100000
set_option maxHeartbeats 4000000
namespace Go.Sx
open Go Go.Proofs Tryz
section
attribute [local irreducible] Exit.then Exit.inBlock Code.wp WC WO WE WQ V aW dL Sat bz bK dU IntKind.wrap WR Code.rounds WT KO
section
variable {F:List HP} {b:Nat} {c:au} {aR:Int} {nk na nh nt:Nat} {pk pa ph pt:Option Addr×Nat} {bn:Nat}
theorem rF {Q P:Prop} (k:Q) (h:Hid Q→P:=by
  intro k
  first
  |(refine an ?_;refine bF (id:=1) (.only [9,15]) (pl:= .p 0 <| .p 1 <| .p 2 <| .p 4 <| .r 3 <| .r 5 <| .p 6 <| .r 7 <| .r 8 <| .e true [(9,.n [15] <| .p 10 <| .p 11 <| .p 12 <| .p 13 <| .e true [(14,.e true [(15,.n [] <| .p 16 <| .p 17 <| .done)])]),(14,.e true [(9,.n [15] <| .p 10 <| .p 11 <| .p 12 <| .p 13 <| .e true [(15,.n [] <| .p 16 <| .p 17 <| .done)])])]) k.out)
  |(refine an ?_;refine bF (id:=5) (.only [5]) (pl:= .p 0 <| .p 1 <| .p 2 <| .r 3 <| .r 4 <| .e true [(5,.n [] <| .done)]) k.out)):P:=h ⟨k⟩
theorem JT {ab:List Nat} {i:Nat} {a:cT} {n:fK} {m:bA} (hw:c.wf) (hj:i<ab.length) (hd:m.dst=i) (ho:0≤aR∧aR≤1000000000000) (hg:∀ m∈a.aP,nf m∧m.gY≤9223372036854775806) :
    az prog 188 [.pointer (some ⟨b,0,none⟩),mv m] [Hf b c aR nk ab.length nh nt pk pa ph pt bn,Pb pa ab,iE ab[i] c (i:Int) a,dk bn c n] F
    (fun r L'=>r= .tuple [].toArray∧L'=[Hf b c (if c4 c i a m=0 then aR else aR+1) nk ab.length nh nt pk pa ph pt bn,Pb pa ab,iE ab[i] c (i:Int) (cw c i a m),dk bn c (if cJ c i a m then fG c n (dg c i a m) else n)]):=by
  have hgv:=dB hj;have hT:=fun F=>IR (F:=F) (b:=ab[i]) (c:=c) (ap:=(i:Int)) (m:=m) (k:=a) hg;have hS:=fun F n=>s7 (F:=F) (b:=bn) (c:=c) (n:=n) (m:=dg c i a m) hw;obtain ⟨mk,ml,ms,md,mw,nB,mo,vB⟩:=m;dsimp only at hd;subst hd;refine ay func188 ntmps188 ?_;(first|(refine aX (.slice pa.1 ab.length pa.2) inferInstance (om) ?_;intro _)|(refine aY (.slice pa.1 ab.length pa.2) inferInstance (om) ?_;intro _));by_cases he:c4 c i a ⟨mk,ml,ms,i,mw,nB,mo,vB⟩=0
  ·cases hb:cJ c i a ⟨mk,ml,ms,i,mw,nB,mo,vB⟩ with
   |true=>
    simp only [he,hb] at hT;repeat' (first|refine go ?_|intro _|refine rF ?_|refine av ?_|refine ae @hT ?_|refine ae @hS ?_|refine bj ?_ ?_|fail)
    all_goals (apply ad rfl rfl ar)
    all_goals first|exact ⟨rfl,rfl⟩|(simp only [he,hb,if_true];exact af)
   |false=>
    simp only [he,hb] at hT;repeat' (first|refine go ?_|intro _|refine rF ?_|refine av ?_|refine ae @hT ?_|refine ae @hS ?_|refine bj ?_ ?_|fail)
    all_goals (apply ad rfl rfl ar)
    all_goals first|exact ⟨rfl,rfl⟩|(simp only [he,hb,if_true,Bool.false_eq_true,if_false];exact af)
  ·cases hb:cJ c i a ⟨mk,ml,ms,i,mw,nB,mo,vB⟩ with
   |true=>
    simp only [hb] at hT;repeat' (first|refine go ?_|intro _|refine rF ?_|refine av ?_|refine ae @hT ?_|refine ae @hS ?_|refine bj ?_ ?_|fail)
    all_goals (apply ad rfl rfl ar)
    all_goals first|exact ⟨rfl,rfl⟩|(simp only [he,hb,if_true,if_false];exact af)
   |false=>
    simp only [hb] at hT;repeat' (first|refine go ?_|intro _|refine rF ?_|refine av ?_|refine ae @hT ?_|refine ae @hS ?_|refine bj ?_ ?_|fail)
    all_goals (apply ad rfl rfl ar)
    all_goals first|exact ⟨rfl,rfl⟩|(simp only [he,hb,if_false,Bool.false_eq_true];exact af)
end
theorem qu {Q P:Prop} (k:Q) (h:Hid Q→P:=by
  intro k
  first
  |(refine an ?_;refine bF (id:=5) (.only [9]) (pl:= .p 0 <| .p 1 <| .p 2 <| .p 4 <| .r 3 <| .r 5 <| .p 6 <| .r 7 <| .r 8 <| .e true [(9,.n [] <| .p 10 <| .done)]) k.out)
  |(refine an ?_;refine bF (id:=13) (.only [9]) (pl:= .p 0 <| .p 1 <| .p 2 <| .p 4 <| .r 3 <| .r 5 <| .p 6 <| .r 7 <| .r 8 <| .e true [(9,.n [] <| .p 10 <| .done)]) k.out)
  |(refine an ?_;refine bF (id:=19) (.only [13]) (pl:= .p 0 <| .p 1 <| .p 2 <| .p 4 <| .r 3 <| .r 5 <| .p 6 <| .r 7 <| .e true [(8,.p 9 <| .p 10 <| .p 11 <| .e true [(12,.e true [(13,.n [] <| .p 14 <| .done)])]),(12,.e true [(8,.p 9 <| .p 10 <| .p 11 <| .e true [(13,.n [] <| .p 14 <| .done)])])]) k.out)
  |(refine an ?_;refine bF (id:=21) (.only [9]) (pl:= .p 0 <| .p 1 <| .p 2 <| .p 4 <| .r 3 <| .r 5 <| .p 6 <| .r 7 <| .r 8 <| .e true [(9,.n [] <| .p 10 <| .p 11 <| .p 12 <| .p 13 <| .p 14 <| .done)]) k.out)):P:=h ⟨k⟩
theorem RB {F:List HP} {b:Nat} {c:au} {s:cg} {x:fP} {n:Nat} {k j:Int} (hw:c.wf) (hl:eG c n s) (hx:gG c s x) (h:gv s.n k j=false∨k=1∧c8 c s.n 2=0) :
    az prog 91 [.pointer (some ⟨b,0,none⟩),.int .i64 k,.int .i64 j] [fy b c s x] F (fun r L'=>r= .bool (dY c s k j)∧L'=[fy b c (dA c s k j) { x with pt:=x.pt}]):=by
  have eB:dY c s k j=false:=by unfold dY;rw [if_pos h]
  have eS:dA c s k j=s:=by unfold dA;rw [if_pos h]
  rw [eB,eS];have hL:=fun F n k=>qq (F:=F) (b:=x.bn) (c:=c) (n:=n) (k:=k);have hA:=fun F=>rX (F:=F) (b:=x.bn) (c:=c) (n:=s.n) (k:=k) (i:=j);refine ay func91 ntmps91 ?_;refine ky fun hf=>?_;cases hb:gv s.n k j with
  |false=>
   simp only [hb] at hA;repeat first|refine go ?_|intro _|refine qu ?_|refine av ?_|refine ae @hA ?_|refine ae @hL ?_
   (apply ad rfl rfl ar)
   ·exact ⟨rfl,rfl⟩
   ·refine fv ?_ hf;exact af
  |true=>
   rw [hb] at h;have h':k=1∧c8 c s.n 2=0:=h.elim (fun g=>nomatch g) id;obtain ⟨rfl,h2⟩:=h';simp only [hb] at hA;repeat first|refine go ?_|intro _|refine qu ?_|refine av ?_|refine ae @hA ?_|refine ae @hL ?_
   (apply ad rfl rfl ar)
   ·exact ⟨rfl,rfl⟩
   ·refine fv ?_ hf;exact af
theorem RC {F:List HP} {b:Nat} {c:au} {s:cg} {x:fP} {n:Nat} {j:Int} (hw:c.wf) (hl:eG c n s) (hx:gG c s x) (h:gv s.n 0 j=true) :
    az prog 91 [.pointer (some ⟨b,0,none⟩),.int .i64 0,.int .i64 j] [fy b c s x] F (fun r L'=>r= .bool (dY c s 0 j)∧L'=[fy b c (dA c s 0 j) x]):=by
  obtain ⟨⟨f1,f2,f3⟩,⟨f4,f5,f6⟩,f7⟩:=id hx;have gP:=hl.nt 0 _ (l6 h);have hh:cA (bE s.n 0 j).ah:=by
    have:=gP.2;unfold ee at this;unfold cA;split at this
    ·exact .inl (by assumption)
    ·split at this
     ·omega
     ·split at this<;>omega
  obtain ⟨d0,d1⟩:=rY gP.1 hh;obtain ⟨d,hd⟩:∃ d:Nat,(bE s.n 0 j).dst=d:=⟨(bE s.n 0 j).dst.toNat,om⟩;have hk:d<x.hb.length:=by omega
  have hg:=dB hk;have eH:sx s (d:Int)=s.hs.getD d dl:=rfl;have dC:¬(gv s.n 0 j=false∨(0:Int)=1∧c8 c s.n 2=0):=by rw [h];simp
  have hA:=fun F=>rX (F:=F) (b:=x.bn) (c:=c) (n:=s.n) (k:=0) (i:=j);have hT:=fun F=>s6 (F:=F) (b:=x.bn) (c:=c) (n:=s.n) (k:=0) (i:=j);have Mc:=fun F=>Lp (F:=F) (b:=x.hb[d]) (c:=c) (num:=(d:Int)) (s:=s.hs.getD d dl) (m:=bE s.n 0 j) hw;simp only [h] at hA;have eB:dY c s 0 j=decide (jv c d (s.hs.getD d dl) (bE s.n 0 j)=0):=by unfold dY;rw [if_neg dC,if_pos rfl,hd,eH]
  have eS:dA c s 0 j=if jv c d (s.hs.getD d dl) (bE s.n 0 j)=0 then ⟨s.ks,s.cs,s.hs.set d (iK c d (s.hs.getD d dl) (bE s.n 0 j)),cU s.n 0 j,s.tr,s.aR⟩ else ⟨s.ks,s.cs,s.hs.set d (s.hs.getD d dl),s.n,s.tr,s.aR⟩:=by
    unfold dA;rw [if_neg dC,if_pos rfl,hd,eH,bf];rfl
  rw [eB,eS];clear eB eS;generalize hm:bE s.n 0 j=m at *;obtain ⟨mk,ml,ms,md,mw,nB,mo,vB⟩:=m;dsimp only at hd;subst hd;by_cases he:jv c d (s.hs.getD d dl) ⟨mk,ml,ms,d,mw,nB,mo,vB⟩=0
  ·rw [if_pos he,decide_eq_true he];simp only [he] at Mc;refine ay func91 ntmps91 ?_;refine lH hk fun hf=>?_;(first|(refine aX (.slice x.ph.1 x.hb.length x.ph.2) inferInstance (om) ?_;intro _)|(refine aY (.slice x.ph.1 x.hb.length x.ph.2) inferInstance (om) ?_;intro _));repeat first|refine go ?_|intro _|refine qu ?_|refine av ?_|refine ae @hA ?_|refine ae @Mc ?_|refine ae @hT ?_
   (apply ad rfl rfl ar)
   ·exact ⟨rfl,rfl⟩
   ·(apply nR;(focus (exact af));all_goals exact bu)
  ·have eK:iK c d (s.hs.getD d dl) ⟨mk,ml,ms,d,mw,nB,mo,vB⟩=s.hs.getD d dl:=DA he;rw [if_neg he,decide_eq_false he];simp only [eK] at Mc;refine ay func91 ntmps91 ?_;refine lH hk fun hf=>?_;(first|(refine aX (.slice x.ph.1 x.hb.length x.ph.2) inferInstance (om) ?_;intro _)|(refine aY (.slice x.ph.1 x.hb.length x.ph.2) inferInstance (om) ?_;intro _));repeat first|refine go ?_|intro _|refine qu ?_|refine av ?_|refine ae @hA ?_|refine ae @Mc ?_|refine ae @hT ?_
   (apply ad rfl rfl ar)
   ·exact ⟨rfl,rfl⟩
   ·(apply nR;(focus (exact af));all_goals exact bu)
theorem RD {F:List HP} {b:Nat} {c:au} {s:cg} {x:fP} {n:Nat} {j:Int} (hw:c.wf) (hl:eG c n s) (hn:n≤1000000000000) (hx:gG c s x) (h:gv s.n 1 j=true) (h2:c8 c s.n 2≠0) :
    az prog 91 [.pointer (some ⟨b,0,none⟩),.int .i64 1,.int .i64 j] [fy b c s x] F (fun r L'=>r= .bool (dY c s 1 j)∧L'=[fy b c (dA c s 1 j) { x with pt:=x.pt}]):=by
  obtain ⟨⟨f1,f2,f3⟩,⟨f4,f5,f6⟩,f7⟩:=id hx;have gP:=hl.nt 1 _ (l6 h);have sv:=gP.2;obtain ⟨d0,d1⟩:=tY gP.1 (by unfold ee at sv;unfold cA;split at sv<;>(try split at sv)<;>(try split at sv)<;>omega);have qG:¬(bE s.n 1 j).ah=11:=by unfold ee at sv;split at sv<;>(try split at sv)<;>(try split at sv)<;>omega
  obtain ⟨i,hd⟩:∃ i:Nat,(bE s.n 1 j).dst=i:=⟨(bE s.n 1 j).dst.toNat,om⟩;have hk:i<x.kb.length:=by omega
  have ha:i<x.ab.length:=by omega
  have eA:gF s (i:Int)=s.cs.getD i aL:=rfl;have hX:=hl.CN (i:Int);have ho:=hl.od;have Uz:¬c8 c s.n 2<1:=by have:=wQ hl (k:=2) rfl;omega
  have dC:¬(gv s.n 1 j=false∨(1:Int)=1∧c8 c s.n 2=0):=by rw [h];simp [h2]
  have hA:=fun F=>rX (F:=F) (b:=x.bn) (c:=c) (n:=s.n) (k:=1) (i:=j);have hL:=fun F=>qq (F:=F) (b:=x.bn) (c:=c) (n:=s.n) (k:=2);have hT:=fun F=>s6 (F:=F) (b:=x.bn) (c:=c) (n:=s.n) (k:=1) (i:=j);have Ep:=fun F=>JT (F:=F) (b:=b) (c:=c) (aR:=s.aR) (nk:=x.kb.length) (nh:=x.hb.length) (nt:=s.tr.length) (pk:=x.pk) (pa:=x.pa) (ph:=x.ph) (pt:=x.pt) (bn:=x.bn) (ab:=x.ab) (a:=s.cs.getD i aL) (n:=cU s.n 1 j) (m:=bE s.n 1 j) hw ha hd ⟨ho.1,om⟩ (JS hX hn);simp only [h] at hA;have eB:dY c s 1 j=true:=by unfold dY;rw [if_neg dC,if_neg (by decide)]
  have eS:dA c s 1 j=⟨s.ks.set i (s.ks.getD i bQ),s.cs.set i (cw c i (s.cs.getD i aL) (bE s.n 1 j)),s.hs,if cJ c i (s.cs.getD i aL) (bE s.n 1 j) then fG c (cU s.n 1 j) (dg c i (s.cs.getD i aL) (bE s.n 1 j)) else cU s.n 1 j,s.tr,if c4 c i (s.cs.getD i aL) (bE s.n 1 j)=0 then s.aR else s.aR+1⟩:=by
    unfold dA;rw [if_neg dC,if_neg (by decide),if_pos rfl,Ae,hd,bf];rfl
  rw [eB,eS];refine ay func91 ntmps91 ?_;refine gp hk ha fun hf=>?_;repeat first|refine go ?_|intro _|refine qu ?_|refine av ?_|refine ae @hA ?_|refine ae @hL ?_|refine ae @hT ?_|refine ae @Ep ?_
  (apply ad rfl rfl ar)
  ·exact ⟨rfl,rfl⟩
  ·(apply eQ;(focus (exact af));all_goals exact bu)
end
section
attribute [local irreducible] Exit.then Exit.inBlock Code.wp WC WO WE WQ V aW dL Sat bz bK dU IntKind.wrap WR Code.rounds WT KO
theorem da {Q P:Prop} (k:Q) (h:Hid Q→P:=by
  intro k
  first
  |(refine an ?_;refine bF (id:=5) (.only [5]) (pl:= .p 0 <| .p 1 <| .p 2 <| .r 3 <| .r 4 <| .e true [(5,.n [] <| .done)]) k.out)
  |(refine an ?_;refine bF (id:=24) (.only [5]) (pl:= .p 0 <| .p 1 <| .p 2 <| .r 3 <| .r 4 <| .e true [(5,.n [] <| .done)]) k.out)
  |(refine an ?_;refine bF (id:=28) (.only [15,21]) (pl:= .p 0 <| .p 1 <| .p 2 <| .p 3 <| .p 4 <| .p 5 <| .p 8 <| .p 9 <| .p 10 <| .p 11 <| .p 12 <| .r 6 <| .p 7 <| .r 13 <| .p 14 <| .e true [(15,.n [21] <| .p 16 <| .p 17 <| .p 18 <| .p 19 <| .e true [(20,.e true [(21,.n [] <| .p 22 <| .p 23 <| .done)])]),(20,.e true [(15,.n [21] <| .p 16 <| .p 17 <| .p 18 <| .p 19 <| .e true [(21,.n [] <| .p 22 <| .p 23 <| .done)])])]) k.out)
  |(refine an ?_;refine bF (id:=30) (.only [5]) (pl:= .p 0 <| .p 1 <| .p 2 <| .r 3 <| .r 4 <| .e true [(5,.n [] <| .done)]) k.out)):P:=h ⟨k⟩
theorem T5 {F:List HP} {b:Nat} {c:au} {s:cg} {x:fP} {i n:Nat} {w:Int} (hw:c.wf) (hl:eG c n s) (hn:n≤1000000000000) (ht:s.tr.length≤1000000000000) (hi:(i:Int)<c.ax) (hiw:dZ w) (hx:gG c s x) :
    az prog 90 [.pointer (some ⟨b,0,none⟩),.int .i64 i,.int .i64 w] [fy b c s x] F (fun r L'=>∃ pt:Option Addr×Nat,r= .bool (cN c s i w)∧L'=[fy b c (cm c s i w) { x with pt:=pt}]):=by
  obtain ⟨⟨f1,f2,f3⟩,⟨f4,f5,f6⟩,f7⟩:=id hx;have hk:i<x.kb.length:=by omega
  have ha:i<x.ab.length:=by omega
  have hX:=hl.CN (i:Int);have eA:gF s (i:Int)=s.cs.getD i aL:=rfl;have eK:cI s (i:Int)=s.ks.getD i bQ:=rfl;have UM:=dB hk;have UN:=dB ha;have hF:=fun F=>EN (F:=F) (b:=x.ab[i]) (c:=c) (ap:=(i:Int)) (k:=s.cs.getD i aL) (fun m hm=>(hX.1.2.2 m hm).1);have hH:=fun F=>JQ (F:=F) (b:=x.kb[i]) (k:=s.ks.getD i bQ);have hL:=fun F n k=>qq (F:=F) (b:=x.bn) (c:=c) (n:=n) (k:=k);have As:=fun F n m=>s7 (F:=F) (b:=x.bn) (c:=c) (n:=n) (m:=m) hw;refine ay func90 ntmps90 ?_;refine gp hk ha fun hf=>?_;(first|(refine aX (.slice x.pa.1 x.ab.length x.pa.2) inferInstance (om) ?_;intro _)|(refine aY (.slice x.pa.1 x.ab.length x.pa.2) inferInstance (om) ?_;intro _));(first|(refine aX (.slice x.pk.1 x.kb.length x.pk.2) inferInstance (om) ?_;intro _)|(refine aY (.slice x.pk.1 x.kb.length x.pk.2) inferInstance (om) ?_;intro _));have At:=fun F x' (qF:x'.wf)=>A2 (F:=F) (b:=x.ab[i]) (c:=c) (ap:=(i:Int)) (x:=x') (k:=s.cs.getD i aL) qF;have Hd:=fun F (hh:¬(s.ks.getD i bQ).rs.length=(s.ks.getD i bQ).l.length) x' n'=>DD (F:=F) (b:=b) (c:=c) (aR:=s.aR) (na:=x.ab.length) (nh:=x.hb.length) (pk:=x.pk) (pa:=x.pa) (ph:=x.ph) (pt:=x.pt) (bn:=x.bn) (kb:=x.kb) (k:=s.ks.getD i bQ) (tr:=s.tr) (x:=x') (n:=n') hk hh ht;have Cx:=fun F x' (qF:c5.wf x') aR nt pt=>Aa (F:=F) (b:=b) (c:=c) (aR:=aR) (nk:=x.kb.length) (na:=x.ab.length) (nh:=x.hb.length) (nt:=nt) (pk:=x.pk) (pa:=x.pa) (ph:=x.ph) (pt:=pt) (bn:=x.bn) (x:=x') hw qF;have hE:=fun F st w'=>G0 (F:=F) (b:=x.ab[i]) (c:=c) (ap:=(i:Int)) (s:=st) (w:=w') (k:=s.cs.getD i aL) hX.1.1 (fun y hy=>(hX.1.2.1 y hy).1);by_cases fX:0<c8 c s.n 2∧gT (gF s i)=true
  ·have eB:cN c s i w=pz c s (iW c i (gF s i)):=by unfold cN;rw [if_pos fX]
   have eS:cm c s i w=⟨s.ks.set i (s.ks.getD i bQ),s.cs.set i (gU c (s.cs.getD i aL)),s.hs,fG c s.n (iW c i (s.cs.getD i aL)),s.tr,s.aR⟩:=by unfold cm;rw [if_pos fX,bf];rfl
   rw [eB,eS];obtain ⟨h2,rZ⟩:=fX;rw [Lv hl ⟨om,hi⟩ h2 rZ];rw [eA] at rZ;simp only [rZ] at hF;repeat first|refine go ?_|intro _|refine da ?_|refine av ?_|refine ae @hF ?_|refine ae @hL ?_|refine ae @As ?_
   (apply ad rfl rfl ar)
   ·exact ⟨x.pt,rfl,rfl⟩
   ·(apply eQ;(focus (exact af));all_goals exact bu)
  ·have wE:∀ G:Prop,(0<c8 c s.n 2→gT (s.cs.getD i aL)=false→(∀ F,az prog 179 [.pointer (some ⟨x.ab[i],0,none⟩)] [iE x.ab[i] c (i:Int) (s.cs.getD i aL)] F (fun r L'=>r= .tuple [mv (iW c i (s.cs.getD i aL)),.bool false].toArray∧L'=[iE x.ab[i] c (i:Int) (s.cs.getD i aL)]))→G)→(¬0<c8 c s.n 2→G)→G:=fun G g1 g2=>by
     by_cases h2:0<c8 c s.n 2
     ·have rZ:gT (s.cs.getD i aL)=false:=by cases e:gT (s.cs.getD i aL) with|false=>rfl|true=>exact absurd ⟨h2,e⟩ fX
      have Xd:gU c (s.cs.getD i aL)=s.cs.getD i aL:=by unfold gU;rw [rZ];rfl
      simp only [rZ,Xd] at hF;exact g1 h2 rZ hF
     ·exact g2 h2
   clear hF;cases hh:kZ (cI s i) with
   |false=>
    have eB:cN c s i w=false:=by unfold cN;rw [if_neg fX,if_pos hh]
    have eS:cm c s i w=⟨s.ks.set i (s.ks.getD i bQ),s.cs.set i (s.cs.getD i aL),s.hs,s.n,s.tr,s.aR⟩:=by unfold cm;rw [if_neg fX,if_pos hh,bf,bf]
    rw [eB,eS];have zL:kY (s.ks.getD i bQ).l (s.ks.getD i bQ).rs=false:=hh;simp only [zL] at hH;refine wE _ (fun h2 rZ hF=>?_) (fun h2=>?_)
    all_goals
      repeat first|refine go ?_|intro _|refine da ?_|refine av ?_|refine ae @hF ?_|refine ae @hL ?_|refine ae @hH ?_
      (apply ad rfl rfl ar)
      ·exact ⟨x.pt,rfl,rfl⟩
      ·(apply eQ;(focus (exact af));all_goals exact bu)
   |true=>
    have pg:¬kZ (cI s i)=false:=by rw [hh];simp
    have zL:kY (s.ks.getD i bQ).l (s.ks.getD i bQ).rs=true:=hh;have kz:¬(s.ks.getD i bQ).rs.length=(s.ks.getD i bQ).l.length:=by simpa [kY] using zL
    have Ek:(kC (s.ks.getD i bQ).l (s.ks.getD i bQ).rs).wf:=Ad hl hh;have Ke:fE c (kC (s.ks.getD i bQ).l (s.ks.getD i bQ).rs).addr=true:=JR hl hh;have eO:gw (cI s i)=kC (s.ks.getD i bQ).l (s.ks.getD i bQ).rs:=rfl;simp only [zL] at hH;generalize kC (s.ks.getD i bQ).l (s.ks.getD i bQ).rs=op at *;have At:=fun F=>At F op Ek;have Hd:=fun F n'=>Hd F kz op n';have Cx:=fun F=>Cx F op Ek;have x8:=fun F=>DB (F:=F) (b:=x.ab[i]) (c:=c) (ap:=(i:Int)) (aa:=bT c op) (ah:=bJ op) (k:=s.cs.getD i aL) hX.1.1;have CP:=fun F=>FV (F:=F) (x:=op);have VB:=fun F=>nZ (F:=F) (c:=c) (a:=bT c op) hw jL;by_cases h4:op.ah=4
    ·by_cases hm:(s.cs.getD i aL).aP.length=0
     ·have eB:cN c s i w=true:=by unfold cN;rw [if_neg fX,if_neg pg,eO,if_pos h4,eA];exact decide_eq_true hm
      have eS:cm c s i w=⟨s.ks.set i (u6 (s.ks.getD i bQ) 0),s.cs.set i (s.cs.getD i aL),s.hs,s.n,s.tr++[⟨i,(s.ks.getD i bQ).rs.length,op,0⟩],s.aR⟩:=by unfold cm;rw [if_neg fX,if_neg pg,eO,if_pos h4,eA,if_pos hm,bf];rfl
      rw [eB,eS];refine wE _ (fun h2 rZ hF=>?_) (fun h2=>?_)
      all_goals
        repeat first|refine go ?_|intro _|refine da ?_|refine av ?_|refine ae @hF ?_|refine ae @hL ?_|refine ae @hH ?_
        (first|refine aD (iE x.ab[i] c (i:Int) (s.cs.getD i aL)) ?_|refine aE (iE x.ab[i] c (i:Int) (s.cs.getD i aL)) ?_|refine aF (iE x.ab[i] c (i:Int) (s.cs.getD i aL)) ?_);first|refine FD fun aA fA eA Hc=>?_|refine nO fun aA fA eA Hc=>?_
        (first|refine aD (cW fA c.aS (s.cs.getD i aL).aP) ?_|refine aE (cW fA c.aS (s.cs.getD i aL).aP) ?_|refine aF (cW fA c.aS (s.cs.getD i aL).aP) ?_);first|refine lV fun pM cM Su=>?_|refine cC fun pM cM Su=>?_
        repeat first|refine go ?_|intro _|refine da ?_|refine av ?_
        ((first|apply cy (L':=(cW fA c.aS (s.cs.getD i aL).aP)::_)|apply cD (L':=(cW fA c.aS (s.cs.getD i aL).aP)::_)|apply cE (L':=(cW fA c.aS (s.cs.getD i aL).aP)::_)|apply cR (L':=(cW fA c.aS (s.cs.getD i aL).aP)::_));(focus (apply bC;(focus (exact af));all_goals exact bu)));((first|apply cy (L':=(iE x.ab[i] c (i:Int) (s.cs.getD i aL))::_)|apply cD (L':=(iE x.ab[i] c (i:Int) (s.cs.getD i aL))::_)|apply cE (L':=(iE x.ab[i] c (i:Int) (s.cs.getD i aL))::_)|apply cR (L':=(iE x.ab[i] c (i:Int) (s.cs.getD i aL))::_));(focus (apply rl;(focus (exact af));all_goals exact bu)));repeat first|refine go ?_|intro _|refine da ?_|refine av ?_|refine ae @Hd ?_
        rename_i rr;(apply ad rfl rfl ar)
        ·exact ⟨rr,rfl,rfl⟩
        ·(apply eQ;(focus (exact af));all_goals exact bu)
     ·have eB:cN c s i w=false:=by unfold cN;rw [if_neg fX,if_neg pg,eO,if_pos h4,eA];exact decide_eq_false hm
      have eS:cm c s i w=⟨s.ks.set i (s.ks.getD i bQ),s.cs.set i (s.cs.getD i aL),s.hs,s.n,s.tr,s.aR⟩:=by unfold cm;rw [if_neg fX,if_neg pg,eO,if_pos h4,eA,if_neg hm,bf,bf]
      rw [eB,eS];refine wE _ (fun h2 rZ hF=>?_) (fun h2=>?_)
      all_goals
        repeat first|refine go ?_|intro _|refine da ?_|refine av ?_|refine ae @hF ?_|refine ae @hL ?_|refine ae @hH ?_
        (first|refine aD (iE x.ab[i] c (i:Int) (s.cs.getD i aL)) ?_|refine aE (iE x.ab[i] c (i:Int) (s.cs.getD i aL)) ?_|refine aF (iE x.ab[i] c (i:Int) (s.cs.getD i aL)) ?_);first|refine FD fun aA fA eA Hc=>?_|refine nO fun aA fA eA Hc=>?_
        (first|refine aD (cW fA c.aS (s.cs.getD i aL).aP) ?_|refine aE (cW fA c.aS (s.cs.getD i aL).aP) ?_|refine aF (cW fA c.aS (s.cs.getD i aL).aP) ?_);first|refine lV fun pM cM Su=>?_|refine cC fun pM cM Su=>?_
        repeat first|refine go ?_|intro _|refine da ?_|refine av ?_
        ((first|apply cy (L':=(cW fA c.aS (s.cs.getD i aL).aP)::_)|apply cD (L':=(cW fA c.aS (s.cs.getD i aL).aP)::_)|apply cE (L':=(cW fA c.aS (s.cs.getD i aL).aP)::_)|apply cR (L':=(cW fA c.aS (s.cs.getD i aL).aP)::_));(focus (apply bC;(focus (exact af));all_goals exact bu)));((first|apply cy (L':=(iE x.ab[i] c (i:Int) (s.cs.getD i aL))::_)|apply cD (L':=(iE x.ab[i] c (i:Int) (s.cs.getD i aL))::_)|apply cE (L':=(iE x.ab[i] c (i:Int) (s.cs.getD i aL))::_)|apply cR (L':=(iE x.ab[i] c (i:Int) (s.cs.getD i aL))::_));(focus (apply rl;(focus (exact af));all_goals exact bu)));(apply ad rfl rfl ar)
        ·exact ⟨x.pt,rfl,rfl⟩
        ·(apply eQ;(focus (exact af));all_goals exact bu)
    ·by_cases hd:kf c (s.cs.getD i aL) op=0
     ·have Jb:nP c s i op=true:=decide_eq_true hd;have eB:cN c s i w=true:=by unfold cN;rw [if_neg fX,if_neg pg,eO,if_neg h4,if_pos Jb]
      have eS:cm c s i w=⟨s.ks.set i (BQ c (s.cs.getD i aL) (s.ks.getD i bQ) op),s.cs.set i (ff c (s.cs.getD i aL) op),s.hs,s.n,Ar c (s.cs.getD i aL) (s.ks.getD i bQ) i op s.tr,s.aR⟩:=by
        unfold cm q5 BQ Ar;rw [if_neg fX,if_neg pg,eO,if_neg h4,if_pos Jb,if_pos Jb,if_pos hd,if_pos hd];rfl
      rw [eB,eS];simp only [hd] at At;unfold BQ Ar;rw [if_pos hd,if_pos hd];refine wE _ (fun h2 rZ hF=>?_) (fun h2=>?_)
      all_goals
        repeat first|refine go ?_|intro _|refine da ?_|refine av ?_|refine ae @hF ?_|refine ae @hL ?_|refine ae @hH ?_|refine ae @At ?_|refine ae @Hd ?_
        rename_i rr;(apply ad rfl rfl ar)
        ·exact ⟨rr,rfl,rfl⟩
        ·(apply eQ;(focus (exact af));all_goals exact bu)
     ·have Jb:nP c s i op=false:=decide_eq_false hd;have vC:¬nP c s i op=true:=by rw [Jb];simp
      clear At Hd;have VF:ff c (s.cs.getD i aL) op=s.cs.getD i aL:=by unfold ff;rw [if_neg (fun g=>hd g.1)]
      have Eo:=fun F=>A2 (F:=F) (b:=x.ab[i]) (c:=c) (ap:=(i:Int)) (x:=op) (k:=s.cs.getD i aL) Ek;simp only [VF] at Eo;by_cases h0:c8 c s.n 0=0
      ·have eB:cN c s i w=false:=by unfold cN;rw [if_neg fX,if_neg pg,eO,if_neg h4,if_neg vC,if_pos h0]
       have eS:cm c s i w=⟨s.ks.set i (s.ks.getD i bQ),s.cs.set i (s.cs.getD i aL),s.hs,s.n,s.tr,s.aR⟩:=by unfold cm;rw [if_neg fX,if_neg pg,eO,if_neg h4,if_neg vC,if_pos h0,bf,bf]
       rw [eB,eS];refine wE _ (fun h2 rZ hF=>?_) (fun h2=>?_)
       all_goals
         repeat first|refine go ?_|intro _|refine da ?_|refine av ?_|refine ae @hF ?_|refine ae @hL ?_|refine ae @hH ?_|refine ae @Eo ?_
         (apply ad rfl rfl ar)
         ·exact ⟨x.pt,rfl,rfl⟩
         ·(apply eQ;(focus (exact af));all_goals exact bu)
      ·apply mT (P:=prog) (fun q:Nat=>[(92,.bool (decide (c8 c s.n 0<1))),(0,.pointer (some ⟨b,0,none⟩)),(1,.int .i64 i),(2,.int .i64 w),(6,.bool false),(7,.pointer (some ⟨x.ab[i],0,none⟩)),(10,.pointer (some ⟨q,0,none⟩))]) (fun q=>ao q 74 (oc op)::SM b c s x i hk ha F) (fun _=>True)
       ·intro join;refine wE _ (fun h2 rZ hF=>?_) (fun h2=>?_)
        all_goals
          repeat first|refine go ?_|intro _|refine ae @hF ?_|refine ae @hL ?_|refine ae @hH ?_|refine ae @Eo ?_
          exact join _ _ _ trivial (by exact bH) (by exact af)
       intro q _;have yJ:¬c8 c s.n 0<1:=by have:=wQ hl (k:=0) rfl;omega
       have YT:=dR f7;have hse:1≤c.cl:=by
         obtain ⟨_,_,⟨k,hk,e⟩,_⟩:=cp f7;have:=mE hk;rw [e];simpa using this.1
       have YQ:=(cp f7).2.2.2.2.2;have Kf:IntKind.i64.wrap (op.addr.tdiv c.ag)=bT c op:=by
         rw [(xp Ke).1];exact k9 (by have:=(jL (c:=c) (a:=op.addr));unfold dZ at this;omega) (by have:=(jL (c:=c) (a:=op.addr));unfold dZ at this;omega)
       have pS:(bT c op).tmod c.cl=gu c op:=by
         have zF:=(xp Ke).2
         show (dS c op.addr).tmod c.cl=nI c (dS c op.addr);have cO:=Lw Ke;unfold nI;rw [if_pos cO,Int.tmod_eq_emod_of_nonneg (by unfold bG at cO;simp at cO;omega)]
       have gq:pA c s i op=dd c (s.cs.getD i aL) (bT c op) (bJ op):=rfl;by_cases he:dd c (s.cs.getD i aL) (bT c op) (bJ op)=0
       ·have eB:cN c s i w=decide (lq c s.n (dm c i (s.cs.getD i aL) (bT c op) (bJ op))=0):=by
          unfold cN;rw [if_neg fX,if_neg pg,eO,if_neg h4,if_neg vC,if_neg h0,if_pos (gq.trans he)];rfl
        have eS:cm c s i w=⟨s.ks.set i (s.ks.getD i bQ),s.cs.set i (cH c (s.cs.getD i aL) (bT c op) (bJ op)),s.hs,fG c s.n (dm c i (s.cs.getD i aL) (bT c op) (bJ op)),s.tr,s.aR⟩:=by
          unfold cm;rw [if_neg fX,if_neg pg,eO,if_neg h4,if_neg vC,if_neg h0,if_pos (gq.trans he),bf];rfl
        have Sv:decide (lq c s.n (dm c i (s.cs.getD i aL) (bT c op) (bJ op))=0)=true:=Dz hl ⟨om,hi⟩ h0 he;rw [eB,eS,Sv];simp only [he] at x8;repeat' (first|refine go ?_|intro _|refine da ?_|refine av ?_|refine ae @hL ?_|refine bj ?_ ?_|fail)
        all_goals rw [Kf]
        all_goals repeat' (first|refine go ?_|intro _|refine da ?_|refine av ?_|refine ae @CP ?_|refine ae @x8 ?_|refine ae @As ?_|refine bj ?_ ?_|fail)
        all_goals (apply ad rfl rfl ar)
        all_goals first|exact ⟨x.pt,rfl,rfl⟩|(apply eQ;(focus (exact af));all_goals exact bu)
       ·have PL:cH c (s.cs.getD i aL) (bT c op) (bJ op)=s.cs.getD i aL:=by unfold cH;rw [if_neg he]
        simp only [PL] at x8;by_cases h5:dd c (s.cs.getD i aL) (bT c op) (bJ op)=5
        ·simp only [h5] at x8;have eEv:gu c op=nI c (bT c op):=rfl;have hE:=fun F=>hE F (gu c op) (w.tmod c.al);have YQ:=(cp f7).2.2.2.2.2;by_cases h6:jH c (s.cs.getD i aL) (gu c op) (w.tmod c.al)=0
         ·simp only [h6] at hE;cases hb:iI c (s.cs.getD i aL) (gu c op) (w.tmod c.al) with
          |true=>
           simp only [hb] at hE;have eB:cN c s i w=decide (lq c s.n (jT c i (s.cs.getD i aL) (gu c op) (w.tmod c.al))=0):=by
             unfold cN;rw [if_neg fX,if_neg pg,eO,if_neg h4,if_neg vC,if_neg h0,if_neg (fun g=>he (gq.symm.trans g)),if_pos (gq.trans h5),eA,h6,hb];rfl
           have eS:cm c s i w=⟨s.ks.set i (s.ks.getD i bQ),s.cs.set i (gr c (s.cs.getD i aL) (gu c op) (w.tmod c.al)),s.hs,fG c s.n (jT c i (s.cs.getD i aL) (gu c op) (w.tmod c.al)),s.tr,s.aR⟩:=by
             unfold cm AE;rw [if_neg fX,if_neg pg,eO,if_neg h4,if_neg vC,if_neg h0,if_neg (fun g=>he (gq.symm.trans g)),if_pos (gq.trans h5),eA,if_pos hb,bf];rfl
           have Sv:decide (lq c s.n (jT c i (s.cs.getD i aL) (gu c op) (w.tmod c.al))=0)=true:=Oy hl ⟨om,hi⟩ h0 hb;rw [eB,eS,Sv];repeat' (first|refine go ?_|intro _|refine da ?_|refine av ?_|refine ae @hL ?_|refine bj ?_ ?_|fail)
           all_goals rw [Kf]
           all_goals repeat' (first|refine go ?_|intro _|refine da ?_|refine av ?_|refine ae @CP ?_|refine ae @x8 ?_|refine bj ?_ ?_|fail)
           all_goals rw [pS]
           all_goals repeat' (first|refine go ?_|intro _|refine da ?_|refine av ?_|refine ae @hE ?_|refine ae @As ?_|refine bj ?_ ?_|fail)
           all_goals (apply ad rfl rfl ar)
           all_goals first|exact ⟨x.pt,rfl,rfl⟩|(apply eQ;(focus (exact af));all_goals exact bu)
          |false=>
           simp only [hb] at hE;have zG:¬iI c (s.cs.getD i aL) (gu c op) (w.tmod c.al)=true:=by rw [hb];simp
           have eB:cN c s i w=true:=by
             unfold cN;rw [if_neg fX,if_neg pg,eO,if_neg h4,if_neg vC,if_neg h0,if_neg (fun g=>he (gq.symm.trans g)),if_pos (gq.trans h5),eA,h6,hb];rfl
           have eS:cm c s i w=⟨s.ks.set i (s.ks.getD i bQ),s.cs.set i (gr c (s.cs.getD i aL) (gu c op) (w.tmod c.al)),s.hs,s.n,s.tr,s.aR⟩:=by
             unfold cm AE;rw [if_neg fX,if_neg pg,eO,if_neg h4,if_neg vC,if_neg h0,if_neg (fun g=>he (gq.symm.trans g)),if_pos (gq.trans h5),eA,if_neg zG,bf];rfl
           rw [eB,eS];repeat' (first|refine go ?_|intro _|refine da ?_|refine av ?_|refine ae @hL ?_|refine bj ?_ ?_|fail)
           all_goals rw [Kf]
           all_goals repeat' (first|refine go ?_|intro _|refine da ?_|refine av ?_|refine ae @CP ?_|refine ae @x8 ?_|refine bj ?_ ?_|fail)
           all_goals rw [pS]
           all_goals repeat' (first|refine go ?_|intro _|refine da ?_|refine av ?_|refine ae @hE ?_|refine bj ?_ ?_|fail)
           all_goals (apply ad rfl rfl ar)
           all_goals first|exact ⟨x.pt,rfl,rfl⟩|(apply eQ;(focus (exact af));all_goals exact bu)
         ·have UO:gr c (s.cs.getD i aL) (gu c op) (w.tmod c.al)=s.cs.getD i aL:=by unfold gr;rw [if_neg h6]
          have UP:iI c (s.cs.getD i aL) (gu c op) (w.tmod c.al)=false:=by unfold iI;exact decide_eq_false (fun g=>h6 g.1)
          have zG:¬iI c (s.cs.getD i aL) (gu c op) (w.tmod c.al)=true:=by rw [UP];simp
          simp only [UO,UP] at hE;have eB:cN c s i w=false:=by
            unfold cN;rw [if_neg fX,if_neg pg,eO,if_neg h4,if_neg vC,if_neg h0,if_neg (fun g=>he (gq.symm.trans g)),if_pos (gq.trans h5),eA,decide_eq_false h6];rfl
          have eS:cm c s i w=⟨s.ks.set i (s.ks.getD i bQ),s.cs.set i (s.cs.getD i aL),s.hs,s.n,s.tr,s.aR⟩:=by
            unfold cm AE;rw [if_neg fX,if_neg pg,eO,if_neg h4,if_neg vC,if_neg h0,if_neg (fun g=>he (gq.symm.trans g)),if_pos (gq.trans h5),eA,if_neg zG,UO,bf];rfl
          rw [eB,eS];repeat' (first|refine go ?_|intro _|refine da ?_|refine av ?_|refine ae @hL ?_|refine bj ?_ ?_|fail)
          all_goals rw [Kf]
          all_goals repeat' (first|refine go ?_|intro _|refine da ?_|refine av ?_|refine ae @CP ?_|refine ae @x8 ?_|refine bj ?_ ?_|fail)
          all_goals rw [pS]
          all_goals repeat' (first|refine go ?_|intro _|refine da ?_|refine av ?_|refine ae @hE ?_|refine bj ?_ ?_|fail)
          all_goals (apply ad rfl rfl ar)
          all_goals first|exact ⟨x.pt,congrArg Value.bool (decide_eq_false h6),rfl⟩|exact ⟨x.pt,rfl,rfl⟩|(apply eQ;(focus (exact af));all_goals exact bu)
        ·have eB:cN c s i w=false:=by
           unfold cN;rw [if_neg fX,if_neg pg,eO,if_neg h4,if_neg vC,if_neg h0,if_neg (fun g=>he (gq.symm.trans g)),if_neg (fun g=>h5 (gq.symm.trans g))]
         have eS:cm c s i w=⟨s.ks.set i (s.ks.getD i bQ),s.cs.set i (s.cs.getD i aL),s.hs,s.n,s.tr,s.aR⟩:=by
           unfold cm;rw [if_neg fX,if_neg pg,eO,if_neg h4,if_neg vC,if_neg h0,if_neg (fun g=>he (gq.symm.trans g)),if_neg (fun g=>h5 (gq.symm.trans g)),bf,bf]
         rw [eB,eS];repeat' (first|refine go ?_|intro _|refine da ?_|refine av ?_|refine ae @hL ?_|refine bj ?_ ?_|fail)
         all_goals rw [Kf]
         all_goals repeat' (first|refine go ?_|intro _|refine da ?_|refine av ?_|refine ae @CP ?_|refine ae @x8 ?_|refine bj ?_ ?_|fail)
         all_goals (apply ad rfl rfl ar)
         all_goals first|exact ⟨x.pt,rfl,rfl⟩|(apply eQ;(focus (exact af));all_goals exact bu)
end
end Go.Sx
