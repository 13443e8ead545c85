/- Mw2, Mw3, Mw4: several of my texts as one. My own work. -/
import Derived.Test.YtjihlpjnebdiiabGreatZbe
set_option linter.unusedVariables false
set_option linter.unusedSectionVars false
set_option linter.unusedSimpArgs false
set_option maxRecDepth 100000
set_option maxHeartbeats 4000000
namespace Go.Sx
open Go Go.Proofs Tryz
section
abbrev U8 (b:Nat) (c:au) (s:cg) (x:fP) (d:Nat) (hd:d<x.hb.length) (L:List HP):List HP:=MC b c s.aR x.kb.length x.ab.length x.hb.length s.tr.length x.pk x.pa x.ph x.pt x.bn::Mb x.pk x.kb::Ja x.pa x.ab::UL x.ph x.hb::j0 x.bn c s.n::J8 x.pt s.tr
  ::gQ x.hb[d] c (d:Int) (s.hs.getD d dl)::bZ ((List.range x.kb.length).map (rf x s))::bZ ((List.range x.ab.length).map (nL c x s))::bZ (((List.range x.hb.length).eraseIdx d).map (nM c x s))::L
theorem OB {b:Nat} {c:au} {s:cg} {x:fP} {d:Nat} {L:List HP} (hd:d<x.hb.length):ai (Cw b c s x L) (U8 b c s x d hd L):=by
  refine ai.cons (ai.cons (ai.cons (ai.cons (ai.cons (ai.cons ?_)))));refine ai.trans (ai.cons (ai.cons (oA hd))) ?_;have e1:nM c x s d=gQ x.hb[d] c (d:Int) (s.hs.getD d dl):=by unfold nM;rw [g8 hd]
  rw [e1];exact fD (List.Perm.trans (List.Perm.cons _ (List.Perm.swap _ _ _)) (List.Perm.swap _ _ _))
theorem uD {b:Nat} {c:au} {s s':cg} {x:fP} {d:Nat} {hd:d<x.hb.length} {L M:List HP} {k:di} {n:fK} {aR:Int}
    (h:ai L (MC b c aR x.kb.length x.ab.length x.hb.length s.tr.length x.pk x.pa x.ph x.pt x.bn::Mb x.pk x.kb::Ja x.pa x.ab::UL x.ph x.hb::j0 x.bn c n::J8 x.pt s.tr
     ::gQ x.hb[d] c (d:Int) k::bZ ((List.range x.kb.length).map (rf x s))::bZ ((List.range x.ab.length).map (nL c x s))::bZ (((List.range x.hb.length).eraseIdx d).map (nM c x s))::M))
    (hf:gG c s x) (e1:s'.ks=s.ks) (e2:s'.cs=s.cs) (e3:s'.hs=s.hs.set d k) (e4:s'.n=n) (e5:s'.tr=s.tr) (e6:s'.aR=aR):ai L (dj b c s' x::M):=by
  obtain ⟨ks,cs,hs,nn,tt,oo⟩:=s';dsimp only at e1 e2 e3 e4 e5 e6;subst e1 e2 e3 e4 e5 e6;obtain ⟨⟨f1,f2,f3⟩,f4,f5⟩:=hf;refine eI (ai.trans h ?_) ⟨⟨f1,f2,by dsimp only;rw [List.length_set];exact f3⟩,f4,f5⟩;refine ai.cons (ai.cons (ai.cons (ai.cons (ai.cons (ai.cons ?_)))));have e1:gQ x.hb[d] c (d:Int) k=nM c x ⟨s.ks,s.cs,s.hs.set d k,nn,s.tr,oo⟩ d:=by unfold nM;dsimp only;rw [g8 hd,fV,if_pos ⟨rfl,om⟩]
  rw [e1];refine ai.trans (fD (List.Perm.trans (List.Perm.swap _ _ _) (List.Perm.cons _ (List.Perm.swap _ _ _)))) (ai.cons (ai.cons ?_));refine ai.trans (qU (g:=nM c x ⟨s.ks,s.cs,s.hs.set d k,nn,s.tr,oo⟩) hd fun j hj kz=>?_) (ai.cons ai.refl);unfold nM;dsimp only;rw [fV,if_neg (fun h=>kz h.1)]
section
variable {b:Nat} {c:au} {s:cg} {x:fP} {P:Program} {N:Nat} {env:Env} {L:List HP} {Q:Exit→Act→World→Prop}
theorem sg {co:Code} {d:Nat} (hd:d<x.hb.length) (h:gG c s x→WC P N co env (U8 b c s x d hd L) Q):WC P N co env (dj b c s x::L) Q:=
  gZ fun hf a w hA hw=>h hf a w hA ((OB hd).gX hw)
end
theorem OC {c:au} {n:Nat} {s:cg} (hl:eG c n s) {i d:Int} (h:p9 (cI s i) d=true):(rn (cI s i) d).wf:=by
  have h0:=h;unfold p9 fF at h;simp only [Bool.and_eq_true] at h;have h1:=h.1;unfold gD at h1;simp at h1;have hi:i.toNat<s.ks.length:=by
    refine Decidable.byContradiction fun g=>?_;have e:cI s i=bQ:=by unfold cI;rw [List.getD_eq_getElem?_getD,List.getElem?_eq_none (om)];rfl
    rw [e] at h1;have:(bQ.rs.length:Int)+d<bQ.l.length:=h1.1.2.2;have e2:bQ.rs.length=0:=rfl;have e3:bQ.l.length=0:=rfl;omega
  have e:cI s i=s.ks[i.toNat]:=by unfold cI;rw [List.getD_eq_getElem?_getD,List.getElem?_eq_getElem hi];rfl
  have hk:=(hl.kp _ (List.getElem_mem hi)).1;rw [←e] at hk;have bB:(((cI s i).rs.length:Int)+d).toNat<(cI s i).l.length:=by omega
  have hm:rn (cI s i) d∈(cI s i).l:=by
    have Vx:fF (cI s i).l (cI s i).rs (cI s i).tr d=true:=h0;unfold rn jW;rw [if_pos Vx,List.getD_eq_getElem?_getD,List.getElem?_eq_getElem bB];exact List.getElem_mem bB
  unfold fl at hk;simp only [Bool.and_eq_true,List.all_eq_true,decide_eq_true_eq] at hk;exact R3 (hk.1.1 _ hm).1
attribute [local irreducible] Exit.then Exit.inBlock Code.wp WC WO WE WQ V aW dL Sat bz bK dU IntKind.wrap WR Code.rounds WT KO
theorem BI {Q P:Prop} (k:Q) (h:Hid Q→P:=by
  intro k
  first
  |(refine an ?_;refine bF (id:=1) (.only [17]) (pl:= .p 0 <| .p 1 <| .p 2 <| .p 5 <| .p 6 <| .p 7 <| .p 10 <| .p 11 <| .p 12 <| .r 3 <| .r 8 <| .r 13 <| .e true [(4,.e true [(9,.e true [(14,.p 15 <| .e true [(16,.e true [(17,.n [] <| .done)])]),(16,.e true [(14,.p 15 <| .e true [(17,.n [] <| .done)])])]),(16,.e true [(9,.e true [(14,.p 15 <| .e true [(17,.n [] <| .done)])])])]),(16,.e true [(4,.e true [(9,.e true [(14,.p 15 <| .e true [(17,.n [] <| .done)])])])])]) k.out)
  |(refine an ?_;refine bF (id:=2) (.only [9,15]) (pl:= .p 0 <| .p 1 <| .p 2 <| .p 4 <| .p 7 <| .r 3 <| .p 5 <| .r 6 <| .r 8 <| .e true [(9,.n [15] <| .p 10 <| .p 11 <| .p 12 <| .p 13 <| .e true [(14,.e true [(15,.n [] <| .p 16 <| .p 17 <| .done)])]),(14,.e true [(9,.n [15] <| .p 10 <| .p 11 <| .p 12 <| .p 13 <| .e true [(15,.n [] <| .p 16 <| .p 17 <| .done)])])]) k.out)):P:=h ⟨k⟩
theorem Ro {F:List HP} {b:Nat} {c:au} {s:cg} {x:fP} {d n:Nat} {j:Int} (hw:c.wf) (hl:eG c n s) (hn:n≤1000000000000) (hd:(d:Int)<c.bY) (hx:gG c s x) :
    az prog 58 [.pointer (some ⟨b,0,none⟩),.int .i64 d,.int .i64 j] [dj b c s x] F (fun r L'=>r= .bool (wP c s d j)∧L'=[dj b c (jC c s d j) x]):=by
  obtain ⟨⟨f1,f2,f3⟩,⟨f4,f5,f6⟩,f7⟩:=id hx;have hk:d<x.hb.length:=by omega
  have hg:=dB hk;obtain ⟨hI,ho,Xg⟩:=hl.Sq (i:=(d:Int)) (om) hd;have eH:sx s (d:Int)=s.hs.getD d dl:=rfl;rw [eH] at hI ho Xg;have hL:=fun F n k=>tX (F:=F) (b:=x.bn) (c:=c) (n:=n) (k:=k);have hW:=fun F=>QO (F:=F) (b:=x.hb[d]) (c:=c) (num:=(d:Int)) (s:=s.hs.getD d dl) (n:=j) (l:=zK c s) hI ⟨ho,om⟩;have As:=fun F aR n m=>Ab (F:=F) (b:=b) (c:=c) (aR:=aR) (nk:=x.kb.length) (na:=x.ab.length) (nh:=x.hb.length) (nt:=s.tr.length) (pk:=x.pk) (pa:=x.pa) (ph:=x.ph) (pt:=x.pt) (bn:=x.bn) (n:=n) (m:=m) hw;refine ay func58 ntmps58 ?_;refine sg hk fun hf=>?_;(first|(refine aX (.slice x.ph.1 x.hb.length x.ph.2) inferInstance (om) ?_;intro _)|(refine aY (.slice x.ph.1 x.hb.length x.ph.2) inferInstance (om) ?_;intro _));cases hb:dG (s.hs.getD d dl) j (zK c s) with
  |true=>
   have eS:jC c s d j=⟨s.ks,s.cs,s.hs.set d (cQ c (s.hs.getD d dl) j (zK c s)),fG c s.n (ec (s.hs.getD d dl) j (zK c s)),s.tr,s.aR⟩:=by unfold jC;rw [eH,if_pos hb];rfl
   rw [eS];simp only [hb] at hW;repeat' (first|refine go ?_|intro _|refine BI ?_|refine av ?_|refine ae @hL ?_|refine ae @hW ?_|refine ae @As ?_|refine bj ?_ ?_|fail)
   all_goals (apply ad rfl rfl ar)
   all_goals first|exact ⟨rfl,rfl⟩|(apply uD;(focus (exact af));all_goals exact bu)
  |false=>
   have zG:¬dG (s.hs.getD d dl) j (zK c s)=true:=by rw [hb];simp
   have eS:jC c s d j=⟨s.ks,s.cs,s.hs.set d (cQ c (s.hs.getD d dl) j (zK c s)),s.n,s.tr,s.aR⟩:=by unfold jC;rw [eH,if_neg zG];rfl
   rw [eS];simp only [hb] at hW;repeat' (first|refine go ?_|intro _|refine BI ?_|refine av ?_|refine ae @hL ?_|refine ae @hW ?_|refine ae @As ?_|refine bj ?_ ?_|fail)
   all_goals (apply ad rfl rfl ar)
   all_goals first|exact ⟨rfl,rfl⟩|(apply uD;(focus (exact af));all_goals exact bu)
end
section
theorem DA {c:au} {d:Int} {k:di} {m:bA} (h:¬jv c d k m=0):iK c d k m=k:=by
  unfold jv at h;unfold iK;split
  ·rename_i g;rw [if_pos g] at h;unfold mf;rw [if_neg h]
  ·rfl
theorem Ae {c:au} {s:cg} {m:bA}:q6 c s m=⟨s.ks,s.cs.set m.dst.toNat (cw c m.dst (gF s m.dst) m),s.hs,if cJ c m.dst (gF s m.dst) m then fG c s.n (dg c m.dst (gF s m.dst) m) else s.n,s.tr,if c4 c m.dst (gF s m.dst) m=0 then s.aR else s.aR+1⟩:=by
  unfold q6 Cn;by_cases he:c4 c m.dst (gF s m.dst) m=0
  ·cases hb:cJ c m.dst (gF s m.dst) m<;>simp [he,so,vH,re]
  ·cases hb:cJ c m.dst (gF s m.dst) m<;>simp [he,so,vH,re]
attribute [local irreducible] Exit.then Exit.inBlock Code.wp WC WO WE WQ V aW dL Sat bz bK dU IntKind.wrap WR Code.rounds WT KO
theorem qt {Q P:Prop} (k:Q) (h:Hid Q→P:=by
  intro k
  first
  |(refine an ?_;refine bF (id:=4) (.only [12]) (pl:= .p 0 <| .p 1 <| .p 2 <| .p 3 <| .p 4 <| .p 5 <| .p 7 <| .r 6 <| .r 8 <| .p 9 <| .r 10 <| .r 11 <| .e true [(12,.n [] <| .p 13 <| .p 14 <| .p 15 <| .done)]) k.out)
  |(refine an ?_;refine bF (id:=10) (.only [9]) (pl:= .p 0 <| .p 1 <| .p 2 <| .p 4 <| .r 3 <| .r 5 <| .p 6 <| .r 7 <| .r 8 <| .e true [(9,.n [] <| .p 10 <| .done)]) k.out)
  |(refine an ?_;refine bF (id:=14) (.only [13]) (pl:= .p 0 <| .p 1 <| .p 2 <| .p 4 <| .r 3 <| .r 5 <| .p 6 <| .r 7 <| .e true [(8,.p 9 <| .p 10 <| .p 11 <| .e true [(12,.e true [(13,.n [] <| .p 14 <| .done)])]),(12,.e true [(8,.p 9 <| .p 10 <| .p 11 <| .e true [(13,.n [] <| .p 14 <| .done)])])]) k.out)
  |(refine an ?_;refine bF (id:=15) (.only []) (pl:= .p 0 <| .p 1 <| .p 2 <| .r 3 <| .p 4 <| .p 5 <| .p 6 <| .p 7 <| .p 10 <| .r 8 <| .r 11 <| .e true [(9,.p 12 <| .p 13 <| .done)]) k.out)):P:=h ⟨k⟩
theorem Rp {F:List HP} {b:Nat} {c:au} {s:cg} {x:fP} {n:Nat} {k j:Int} (hw:c.wf) (hl:eG c n s) (hx:gG c s x) (h:gv s.n k j=false∨k=1∧c8 c s.n 2=0) :
    az prog 56 [.pointer (some ⟨b,0,none⟩),.int .i64 k,.int .i64 j] [dj b c s x] F (fun r L'=>r= .bool (dY c s k j)∧L'=[dj b c (dA c s k j) { x with pt:=x.pt}]):=by
  have eB:dY c s k j=false:=by unfold dY;rw [if_pos h]
  have eS:dA c s k j=s:=by unfold dA;rw [if_pos h]
  rw [eB,eS];have hL:=fun F n k=>tX (F:=F) (b:=x.bn) (c:=c) (n:=n) (k:=k);have hA:=fun F=>Az (F:=F) (b:=x.bn) (c:=c) (n:=s.n) (k:=k) (i:=j);refine ay func56 ntmps56 ?_;refine gZ fun hf=>?_;cases hb:gv s.n k j with
  |false=>
   simp only [hb] at hA;repeat first|refine go ?_|intro _|refine qt ?_|refine av ?_|refine ae @hA ?_|refine ae @hL ?_
   (apply ad rfl rfl ar)
   ·exact ⟨rfl,rfl⟩
   ·refine eI ?_ hf;exact af
  |true=>
   rw [hb] at h;have h':k=1∧c8 c s.n 2=0:=h.elim (fun g=>nomatch g) id;obtain ⟨rfl,h2⟩:=h';simp only [hb] at hA;repeat first|refine go ?_|intro _|refine qt ?_|refine av ?_|refine ae @hA ?_|refine ae @hL ?_
   (apply ad rfl rfl ar)
   ·exact ⟨rfl,rfl⟩
   ·refine eI ?_ hf;exact af
theorem Rq {F:List HP} {b:Nat} {c:au} {s:cg} {x:fP} {n:Nat} {j:Int} (hw:c.wf) (hl:eG c n s) (hx:gG c s x) (h:gv s.n 0 j=true) :
    az prog 56 [.pointer (some ⟨b,0,none⟩),.int .i64 0,.int .i64 j] [dj b c s x] F (fun r L'=>r= .bool (dY c s 0 j)∧L'=[dj b c (dA c s 0 j) x]):=by
  obtain ⟨⟨f1,f2,f3⟩,⟨f4,f5,f6⟩,f7⟩:=id hx;have gP:=hl.nt 0 _ (l6 h);have hh:cA (bE s.n 0 j).ah:=by
    have:=gP.2;unfold ee at this;unfold cA;split at this
    ·exact .inl (by assumption)
    ·split at this
     ·omega
     ·split at this<;>omega
  obtain ⟨d0,d1⟩:=rY gP.1 hh;obtain ⟨d,hd⟩:∃ d:Nat,(bE s.n 0 j).dst=d:=⟨(bE s.n 0 j).dst.toNat,om⟩;have hk:d<x.hb.length:=by omega
  have hg:=dB hk;have eH:sx s (d:Int)=s.hs.getD d dl:=rfl;have dC:¬(gv s.n 0 j=false∨(0:Int)=1∧c8 c s.n 2=0):=by rw [h];simp
  have hA:=fun F=>Az (F:=F) (b:=x.bn) (c:=c) (n:=s.n) (k:=0) (i:=j);have hT:=fun F=>xm (F:=F) (b:=x.bn) (c:=c) (n:=s.n) (k:=0) (i:=j);have Mc:=fun F=>Lb (F:=F) (b:=x.hb[d]) (c:=c) (num:=(d:Int)) (s:=s.hs.getD d dl) (m:=bE s.n 0 j) hw;simp only [h] at hA;have eB:dY c s 0 j=decide (jv c d (s.hs.getD d dl) (bE s.n 0 j)=0):=by unfold dY;rw [if_neg dC,if_pos rfl,hd,eH]
  have eS:dA c s 0 j=if jv c d (s.hs.getD d dl) (bE s.n 0 j)=0 then ⟨s.ks,s.cs,s.hs.set d (iK c d (s.hs.getD d dl) (bE s.n 0 j)),cU s.n 0 j,s.tr,s.aR⟩ else ⟨s.ks,s.cs,s.hs.set d (s.hs.getD d dl),s.n,s.tr,s.aR⟩:=by
    unfold dA;rw [if_neg dC,if_pos rfl,hd,eH,bf];rfl
  rw [eB,eS];clear eB eS;generalize hm:bE s.n 0 j=m at *;obtain ⟨mk,ml,ms,md,mw,nB,mo,vB⟩:=m;dsimp only at hd;subst hd;by_cases he:jv c d (s.hs.getD d dl) ⟨mk,ml,ms,d,mw,nB,mo,vB⟩=0
  ·rw [if_pos he,decide_eq_true he];simp only [he] at Mc;refine ay func56 ntmps56 ?_;refine sg hk fun hf=>?_;(first|(refine aX (.slice x.ph.1 x.hb.length x.ph.2) inferInstance (om) ?_;intro _)|(refine aY (.slice x.ph.1 x.hb.length x.ph.2) inferInstance (om) ?_;intro _));repeat first|refine go ?_|intro _|refine qt ?_|refine av ?_|refine ae @hA ?_|refine ae @Mc ?_|refine ae @hT ?_
   (apply ad rfl rfl ar)
   ·exact ⟨rfl,rfl⟩
   ·(apply uD;(focus (exact af));all_goals exact bu)
  ·have eK:iK c d (s.hs.getD d dl) ⟨mk,ml,ms,d,mw,nB,mo,vB⟩=s.hs.getD d dl:=DA he;rw [if_neg he,decide_eq_false he];simp only [eK] at Mc;refine ay func56 ntmps56 ?_;refine sg hk fun hf=>?_;(first|(refine aX (.slice x.ph.1 x.hb.length x.ph.2) inferInstance (om) ?_;intro _)|(refine aY (.slice x.ph.1 x.hb.length x.ph.2) inferInstance (om) ?_;intro _));repeat first|refine go ?_|intro _|refine qt ?_|refine av ?_|refine ae @hA ?_|refine ae @Mc ?_|refine ae @hT ?_
   (apply ad rfl rfl ar)
   ·exact ⟨rfl,rfl⟩
   ·(apply uD;(focus (exact af));all_goals exact bu)
theorem Rr {F:List HP} {b:Nat} {c:au} {s:cg} {x:fP} {n:Nat} {j:Int} (hw:c.wf) (hl:eG c n s) (hn:n≤1000000000000) (hx:gG c s x) (h:gv s.n 1 j=true) (h2:c8 c s.n 2≠0) :
    az prog 56 [.pointer (some ⟨b,0,none⟩),.int .i64 1,.int .i64 j] [dj b c s x] F (fun r L'=>r= .bool (dY c s 1 j)∧L'=[dj b c (dA c s 1 j) { x with pt:=x.pt}]):=by
  obtain ⟨⟨f1,f2,f3⟩,⟨f4,f5,f6⟩,f7⟩:=id hx;have gP:=hl.nt 1 _ (l6 h);have sv:=gP.2;obtain ⟨d0,d1⟩:=tY gP.1 (by unfold ee at sv;unfold cA;split at sv<;>(try split at sv)<;>(try split at sv)<;>omega);obtain ⟨i,hd⟩:∃ i:Nat,(bE s.n 1 j).dst=i:=⟨(bE s.n 1 j).dst.toNat,om⟩;have hk:i<x.kb.length:=by omega
  have ha:i<x.ab.length:=by omega
  have eA:gF s (i:Int)=s.cs.getD i aL:=rfl;have hX:=hl.CN (i:Int);have ho:=hl.od;have dC:¬(gv s.n 1 j=false∨(1:Int)=1∧c8 c s.n 2=0):=by rw [h];simp [h2]
  have hA:=fun F=>Az (F:=F) (b:=x.bn) (c:=c) (n:=s.n) (k:=1) (i:=j);have hL:=fun F=>tX (F:=F) (b:=x.bn) (c:=c) (n:=s.n) (k:=2);have hT:=fun F=>xm (F:=F) (b:=x.bn) (c:=c) (n:=s.n) (k:=1) (i:=j);have Ep:=fun F=>zC (F:=F) (b:=b) (c:=c) (aR:=s.aR) (nk:=x.kb.length) (nh:=x.hb.length) (nt:=s.tr.length) (pk:=x.pk) (pa:=x.pa) (ph:=x.ph) (pt:=x.pt) (bn:=x.bn) (ab:=x.ab) (a:=s.cs.getD i aL) (n:=cU s.n 1 j) (m:=bE s.n 1 j) hw ha hd ⟨ho.1,om⟩ (M0 hX hn);simp only [h] at hA;have eB:dY c s 1 j=true:=by unfold dY;rw [if_neg dC,if_neg (by decide)]
  have eS:dA c s 1 j=⟨s.ks.set i (s.ks.getD i bQ),s.cs.set i (cw c i (s.cs.getD i aL) (bE s.n 1 j)),s.hs,if cJ c i (s.cs.getD i aL) (bE s.n 1 j) then fG c (cU s.n 1 j) (dg c i (s.cs.getD i aL) (bE s.n 1 j)) else cU s.n 1 j,s.tr,if c4 c i (s.cs.getD i aL) (bE s.n 1 j)=0 then s.aR else s.aR+1⟩:=by
    unfold dA;rw [if_neg dC,if_neg (by decide),if_pos rfl,Ae,hd,bf];rfl
  rw [eB,eS];refine ay func56 ntmps56 ?_;refine mC hk ha fun hf=>?_;repeat first|refine go ?_|intro _|refine qt ?_|refine av ?_|refine ae @hA ?_|refine ae @hL ?_|refine ae @hT ?_|refine ae @Ep ?_
  (apply ad rfl rfl ar)
  ·exact ⟨rfl,rfl⟩
  ·(apply gm;(focus (exact af));all_goals exact bu)
end
section
theorem JM {c:au} {t:cg} {i:Int} {x:c5}:q5 c t i x=⟨t.ks.set i.toNat (BQ c (gF t i) (cI t i) x),t.cs.set i.toNat (ff c (gF t i) x),t.hs,t.n,Ar c (gF t i) (cI t i) i x t.tr,t.aR⟩:=by
  unfold q5 nP;by_cases h:kf c (gF t i) x=0
  ·rw [if_pos (decide_eq_true h)];unfold BQ Ar;rw [if_pos h,if_pos h];rfl
  ·rw [if_neg (by simp [h])];have e:ff c (gF t i) x=gF t i:=by unfold ff;rw [if_neg (fun g=>h g.1)]
   unfold BQ Ar;rw [if_neg h,if_neg h,e];unfold gF cI;rw [bf,bf]
attribute [local irreducible] Exit.then Exit.inBlock Code.wp WC WO WE WQ V aW dL Sat bz bK dU IntKind.wrap WR Code.rounds WT KO
theorem n8 {Q P:Prop} (k:Q) (h:Hid Q→P:=by
  intro k
  first
  |(refine an ?_;refine bF (id:=4) (.only [12]) (pl:= .p 0 <| .p 1 <| .p 2 <| .p 3 <| .p 4 <| .p 5 <| .p 7 <| .r 6 <| .r 8 <| .p 9 <| .r 10 <| .r 11 <| .e true [(12,.n [] <| .p 13 <| .p 14 <| .p 15 <| .done)]) k.out)
  |(refine an ?_;refine bF (id:=10) (.only [9]) (pl:= .p 0 <| .p 1 <| .p 2 <| .p 4 <| .r 3 <| .r 5 <| .p 6 <| .r 7 <| .r 8 <| .e true [(9,.n [] <| .p 10 <| .done)]) k.out)
  |(refine an ?_;refine bF (id:=14) (.only [13]) (pl:= .p 0 <| .p 1 <| .p 2 <| .p 4 <| .r 3 <| .r 5 <| .p 6 <| .r 7 <| .e true [(8,.p 9 <| .p 10 <| .p 11 <| .e true [(12,.e true [(13,.n [] <| .p 14 <| .done)])]),(12,.e true [(8,.p 9 <| .p 10 <| .p 11 <| .e true [(13,.n [] <| .p 14 <| .done)])])]) k.out)
  |(refine an ?_;refine bF (id:=15) (.only []) (pl:= .p 0 <| .p 1 <| .p 2 <| .r 3 <| .p 4 <| .p 5 <| .p 6 <| .p 7 <| .p 10 <| .r 8 <| .r 11 <| .e true [(9,.p 12 <| .p 13 <| .done)]) k.out)):P:=h ⟨k⟩
theorem Rs {F:List HP} {b:Nat} {c:au} {s:cg} {x:fP} {n:Nat} {j:Int} (hw:c.wf) (hl:eG c n s) (hn:n≤1000000000000) (hx:gG c s x) (h:gv s.n 2 j=true) (qG:(bE s.n 2 j).ah=11) :
    az prog 56 [.pointer (some ⟨b,0,none⟩),.int .i64 2,.int .i64 j] [dj b c s x] F (fun r L'=>r= .bool (dY c s 2 j)∧L'=[dj b c (dA c s 2 j) x]):=by
  obtain ⟨⟨f1,f2,f3⟩,⟨f4,f5,f6⟩,f7⟩:=id hx;have gP:=hl.nt 2 _ (l6 h);obtain ⟨d0,d1⟩:=rY gP.1 (.inr qG);obtain ⟨d,hd⟩:∃ d:Nat,(bE s.n 2 j).dst=d:=⟨(bE s.n 2 j).dst.toNat,om⟩;have hk:d<x.hb.length:=by omega
  have hg:=dB hk;have ho:=hl.od;have eH:sx s (d:Int)=s.hs.getD d dl:=rfl;have dC:¬(gv s.n 2 j=false∨(2:Int)=1∧c8 c s.n 2=0):=by rw [h];simp
  have hA:=fun F=>Az (F:=F) (b:=x.bn) (c:=c) (n:=s.n) (k:=2) (i:=j);have hT:=fun F=>xm (F:=F) (b:=x.bn) (c:=c) (n:=s.n) (k:=2) (i:=j);have Eo:=fun F=>QM (F:=F) (b:=x.hb[d]) (c:=c) (num:=(d:Int)) (s:=s.hs.getD d dl) (m:=bE s.n 2 j) hw;simp only [h] at hA;have eB:dY c s 2 j=true:=by unfold dY;rw [if_neg dC,if_neg (by decide)]
  have eS:dA c s 2 j=⟨s.ks,s.cs,s.hs.set d (iB c d (s.hs.getD d dl) (bE s.n 2 j)),cU s.n 2 j,s.tr,if fZ c d (s.hs.getD d dl) (bE s.n 2 j)=0 then s.aR else s.aR+1⟩:=by
    unfold dA;rw [if_neg dC,if_neg (by decide),if_neg (by decide),if_pos qG];unfold Hq;rw [hd];by_cases g:fZ c d (s.hs.getD d dl) (bE s.n 2 j)=0
    ·rw [if_pos g];have:decide (fZ c (d:Int) (sx (vH s (cU s.n 2 j)) d) (bE s.n 2 j)≠0)=false:=decide_eq_false (fun e=>e g);rw [this];rfl
    ·rw [if_neg g];have:decide (fZ c (d:Int) (sx (vH s (cU s.n 2 j)) d) (bE s.n 2 j)≠0)=true:=decide_eq_true g;rw [this];rfl
  rw [eB,eS];clear eB eS;generalize hm:bE s.n 2 j=m at *;obtain ⟨mk,ml,ms,md,mw,nB,mo,vB⟩:=m;dsimp only at hd qG;subst hd qG;by_cases he:fZ c d (s.hs.getD d dl) ⟨11,ml,ms,d,mw,nB,mo,vB⟩=0
  ·rw [if_pos he];simp only [he] at Eo;refine ay func56 ntmps56 ?_;refine sg hk fun hf=>?_;(first|(refine aX (.slice x.ph.1 x.hb.length x.ph.2) inferInstance (om) ?_;intro _)|(refine aY (.slice x.ph.1 x.hb.length x.ph.2) inferInstance (om) ?_;intro _));repeat first|refine go ?_|intro _|refine n8 ?_|refine av ?_|refine ae @hA ?_|refine ae @Eo ?_|refine ae @hT ?_
   (apply ad rfl rfl ar)
   ·exact ⟨rfl,rfl⟩
   ·(apply uD;(focus (exact af));all_goals exact bu)
  ·rw [if_neg he];refine ay func56 ntmps56 ?_;refine sg hk fun hf=>?_;(first|(refine aX (.slice x.ph.1 x.hb.length x.ph.2) inferInstance (om) ?_;intro _)|(refine aY (.slice x.ph.1 x.hb.length x.ph.2) inferInstance (om) ?_;intro _));repeat first|refine go ?_|intro _|refine n8 ?_|refine av ?_|refine ae @hA ?_|refine ae @Eo ?_|refine ae @hT ?_
   (apply ad rfl rfl ar)
   ·exact ⟨rfl,rfl⟩
   ·(apply uD;(focus (exact af));all_goals exact bu)
theorem Rt {F:List HP} {b:Nat} {c:au} {s:cg} {x:fP} {n:Nat} {j:Int} (hw:c.wf) (hl:eG c n s) (hn:n≤1000000000000) (ht:s.tr.length≤1000000000000) (hx:gG c s x) (h:gv s.n 2 j=true) (qG:(bE s.n 2 j).ah≠11) :
    az prog 56 [.pointer (some ⟨b,0,none⟩),.int .i64 2,.int .i64 j] [dj b c s x] F (fun r L'=>∃ pt:Option Addr×Nat,r= .bool (dY c s 2 j)∧L'=[dj b c (dA c s 2 j) { x with pt:=pt}]):=by
  obtain ⟨⟨f1,f2,f3⟩,⟨f4,f5,f6⟩,f7⟩:=id hx;have gP:=hl.nt 2 _ (l6 h);have sv:=gP.2;obtain ⟨d0,d1⟩:=tY gP.1 (by unfold ee at sv;unfold cA;split at sv<;>(try split at sv)<;>(try split at sv)<;>omega);obtain ⟨i,hd⟩:∃ i:Nat,(bE s.n 2 j).dst=i:=⟨(bE s.n 2 j).dst.toNat,om⟩;have hk:i<x.kb.length:=by omega
  have ha:i<x.ab.length:=by omega
  have eA:gF s (i:Int)=s.cs.getD i aL:=rfl;have eK:cI s (i:Int)=s.ks.getD i bQ:=rfl;have hX:=hl.CN (i:Int);have ho:=hl.od;have UM:=dB hk;have UN:=dB ha;have dC:¬(gv s.n 2 j=false∨(2:Int)=1∧c8 c s.n 2=0):=by rw [h];simp
  have hA:=fun F=>Az (F:=F) (b:=x.bn) (c:=c) (n:=s.n) (k:=2) (i:=j);have hT:=fun F=>xm (F:=F) (b:=x.bn) (c:=c) (n:=s.n) (k:=2) (i:=j);have Ep:=fun F=>zC (F:=F) (b:=b) (c:=c) (aR:=s.aR) (nk:=x.kb.length) (nh:=x.hb.length) (nt:=s.tr.length) (pk:=x.pk) (pa:=x.pa) (ph:=x.ph) (pt:=x.pt) (bn:=x.bn) (ab:=x.ab) (a:=s.cs.getD i aL) (n:=cU s.n 2 j) (m:=bE s.n 2 j) hw ha hd ⟨ho.1,om⟩ (M0 hX hn);have hH:=fun F=>De (F:=F) (b:=x.kb[i]) (l:=(s.ks.getD i bQ).l) (rs:=(s.ks.getD i bQ).rs) (tr:=(s.ks.getD i bQ).tr);simp only [h] at hA;have eB:dY c s 2 j=true:=by unfold dY;rw [if_neg dC,if_neg (by decide)]
  have eS:dA c s 2 j=jX c ⟨s.ks,s.cs.set i (cw c i (s.cs.getD i aL) (bE s.n 2 j)),s.hs,if cJ c i (s.cs.getD i aL) (bE s.n 2 j) then fG c (cU s.n 2 j) (dg c i (s.cs.getD i aL) (bE s.n 2 j)) else cU s.n 2 j,s.tr,if c4 c i (s.cs.getD i aL) (bE s.n 2 j)=0 then s.aR else s.aR+1⟩ (bE s.n 2 j):=by
    unfold dA;rw [if_neg dC,if_neg (by decide),if_neg (by decide),if_neg qG,Ae,hd];rfl
  rw [eB,eS];clear eB eS;generalize hN:(if cJ c i (s.cs.getD i aL) (bE s.n 2 j) then fG c (cU s.n 2 j) (dg c i (s.cs.getD i aL) (bE s.n 2 j)) else cU s.n 2 j)=n' at *;generalize hO:(if c4 c i (s.cs.getD i aL) (bE s.n 2 j)=0 then s.aR else s.aR+1)=mZ at *;generalize Ej:cw c i (s.cs.getD i aL) (bE s.n 2 j)=a' at *;generalize hm:bE s.n 2 j=m at *;obtain ⟨mk,ml,ms,md,mw,nB,mo,vB⟩:=m;dsimp only at hd qG;subst hd;have Pv:(s.cs.set i a').getD i aL=a':=by rw [fV,if_pos ⟨rfl,om⟩]
  cases hh:kZ (cI s i) with
  |false=>
   have zL:kY (s.ks.getD i bQ).l (s.ks.getD i bQ).rs=false:=hh;simp only [zL] at hH;have eT:jX c ⟨s.ks,s.cs.set i a',s.hs,n',s.tr,mZ⟩ ⟨mk,ml,ms,i,mw,nB,mo,vB⟩=⟨s.ks.set i (s.ks.getD i bQ),s.cs.set i a',s.hs,n',s.tr,mZ⟩:=by
     unfold jX;rw [if_neg (fun g=>by have:kZ (cI s i)=true:=g.1;rw [hh] at this;cases this),bf]
   rw [eT];refine ay func56 ntmps56 ?_;refine mC hk ha fun hf=>?_;(first|(refine aX (.slice x.pk.1 x.kb.length x.pk.2) inferInstance (om) ?_;intro _)|(refine aY (.slice x.pk.1 x.kb.length x.pk.2) inferInstance (om) ?_;intro _));repeat' (first|refine go ?_|intro _|refine n8 ?_|refine av ?_|refine ae @hA ?_|refine ae @hT ?_|refine ae @Ep ?_|refine ae @hH ?_|refine bj ?_ ?_|fail)
   all_goals (apply ad rfl rfl ar)
   all_goals first|exact ⟨x.pt,rfl,rfl⟩|(apply gm;(focus (exact af));all_goals exact bu)
  |true=>
   have zL:kY (s.ks.getD i bQ).l (s.ks.getD i bQ).rs=true:=hh;have kz:¬(s.ks.getD i bQ).rs.length=(s.ks.getD i bQ).l.length:=by simpa [kY] using zL
   have Ek:(kC (s.ks.getD i bQ).l (s.ks.getD i bQ).rs).wf:=Ad hl hh;have eO:gw (cI s i)=kC (s.ks.getD i bQ).l (s.ks.getD i bQ).rs:=rfl;simp only [zL] at hH;generalize kC (s.ks.getD i bQ).l (s.ks.getD i bQ).rs=op at *;have Cx:=fun F=>Aa (F:=F) (b:=b) (c:=c) (aR:=mZ) (nk:=x.kb.length) (na:=x.ab.length) (nh:=x.hb.length) (nt:=s.tr.length) (pk:=x.pk) (pa:=x.pa) (ph:=x.ph) (pt:=x.pt) (bn:=x.bn) (x:=op) hw Ek;by_cases hg:op.ah≠4∧bT c op=ml
   ·obtain ⟨h4,PM⟩:=hg;have At:=fun F=>JK (F:=F) (b:=b) (c:=c) (aR:=mZ) (nh:=x.hb.length) (pk:=x.pk) (pa:=x.pa) (ph:=x.ph) (pt:=x.pt) (bn:=x.bn) (kb:=x.kb) (ab:=x.ab) (k:=s.ks.getD i bQ) (a:=a') (tr:=s.tr) (x:=op) hk ha kz ht Ek;have eT:jX c ⟨s.ks,s.cs.set i a',s.hs,n',s.tr,mZ⟩ ⟨mk,ml,ms,i,mw,nB,mo,vB⟩=⟨s.ks.set i (BQ c a' (s.ks.getD i bQ) op),s.cs.set i (ff c a' op),s.hs,n',Ar c a' (s.ks.getD i bQ) i op s.tr,mZ⟩:=by
      unfold jX;rw [if_pos ⟨hh,by show (gw (cI s i)).ah≠4;rw [eO];exact h4,by show bT c (gw (cI s i))=ml;rw [eO];exact PM⟩,JM];have e1:gF (⟨s.ks,s.cs.set i a',s.hs,n',s.tr,mZ⟩:cg) (i:Int)=a':=Pv
      show (⟨s.ks.set i (BQ c (gF (⟨s.ks,s.cs.set i a',s.hs,n',s.tr,mZ⟩:cg) (i:Int)) (cI s i) (gw (cI s i))),(s.cs.set i a').set i (ff c (gF (⟨s.ks,s.cs.set i a',s.hs,n',s.tr,mZ⟩:cg) (i:Int)) (gw (cI s i))),s.hs,n',Ar c (gF (⟨s.ks,s.cs.set i a',s.hs,n',s.tr,mZ⟩:cg) (i:Int)) (cI s i) i (gw (cI s i)) s.tr,mZ⟩:cg)=_;rw [e1,eO,List.set_set];rfl
    rw [eT];subst PM;refine ay func56 ntmps56 ?_;refine mC hk ha fun hf=>?_;(first|(refine aX (.slice x.pk.1 x.kb.length x.pk.2) inferInstance (om) ?_;intro _)|(refine aY (.slice x.pk.1 x.kb.length x.pk.2) inferInstance (om) ?_;intro _));repeat' (first|refine go ?_|intro _|refine n8 ?_|refine av ?_|refine ae @hA ?_|refine ae @hT ?_|refine ae @Ep ?_|refine ae @hH ?_|refine ae @Cx ?_|refine ae @At ?_|refine bj ?_ ?_|fail)
    all_goals rename_i rr
    all_goals (apply ad rfl rfl ar)
    all_goals first|exact ⟨rr,rfl,rfl⟩|(apply gm;(focus (exact af));all_goals exact bu)
   ·have eT:jX c ⟨s.ks,s.cs.set i a',s.hs,n',s.tr,mZ⟩ ⟨mk,ml,ms,i,mw,nB,mo,vB⟩=⟨s.ks.set i (s.ks.getD i bQ),s.cs.set i a',s.hs,n',s.tr,mZ⟩:=by
      unfold jX;rw [if_neg (fun g=>hg ⟨by have:(gw (cI s i)).ah≠4:=g.2.1;rwa [eO] at this,by have:bT c (gw (cI s i))=ml:=g.2.2;rwa [eO] at this⟩),bf]
    rw [eT];by_cases h4:op.ah=4
    ·refine ay func56 ntmps56 ?_;refine mC hk ha fun hf=>?_;(first|(refine aX (.slice x.pk.1 x.kb.length x.pk.2) inferInstance (om) ?_;intro _)|(refine aY (.slice x.pk.1 x.kb.length x.pk.2) inferInstance (om) ?_;intro _));repeat' (first|refine go ?_|intro _|refine n8 ?_|refine av ?_|refine ae @hA ?_|refine ae @hT ?_|refine ae @Ep ?_|refine ae @hH ?_|refine ae @Cx ?_|refine bj ?_ ?_|fail)
     all_goals (apply ad rfl rfl ar)
     all_goals first|exact ⟨x.pt,rfl,rfl⟩|(apply gm;(focus (exact af));all_goals exact bu)
    ·have PM:¬bT c op=ml:=fun g=>hg ⟨h4,g⟩;refine ay func56 ntmps56 ?_;refine mC hk ha fun hf=>?_;(first|(refine aX (.slice x.pk.1 x.kb.length x.pk.2) inferInstance (om) ?_;intro _)|(refine aY (.slice x.pk.1 x.kb.length x.pk.2) inferInstance (om) ?_;intro _));repeat' (first|refine go ?_|intro _|refine n8 ?_|refine av ?_|refine ae @hA ?_|refine ae @hT ?_|refine ae @Ep ?_|refine ae @hH ?_|refine ae @Cx ?_|refine bj ?_ ?_|fail)
     all_goals (apply ad rfl rfl ar)
     all_goals first|exact ⟨x.pt,rfl,rfl⟩|(apply gm;(focus (exact af));all_goals exact bu)
end
end Go.Sx
