/- Mw4: several of my texts as one. My own work. -/
import Derived.Test.YtjihlpjnebdiiaaGreatZaz
set_option linter.unusedVariables false
set_option linter.unusedSectionVars false
set_option linter.unusedSimpArgs false
set_option maxRecDepth 100000
set_option maxHeartbeats 4000000
namespace Go.Sx
open Go Go.Proofs
section
theorem e0a {c:Cfg} {t:MaS} {i:Int} {x:Op3}:mY c t i x=⟨t.ks.set i.toNat (e7r c (cI t i) (iK t i) x),t.cs.set i.toNat (fG c (cI t i) x),t.hs,t.n,e7h c (cI t i) (iK t i) i x t.tr,t.odd⟩:=by
  unfold mY uG
  by_cases h:mM c (cI t i) x=0
  · rw [if_pos (decide_eq_true h)]
    unfold e7r e7h
    rw [if_pos h,if_pos h];rfl
  · rw [if_neg (by simp [h])]
    have e:fG c (cI t i) x=cI t i:=by unfold fG;rw [if_neg (fun g=>h g.1)]
    unfold e7r e7h
    rw [if_neg h,if_neg h,e]
    unfold cI iK
    rw [bM,bM]
attribute [local irreducible] Exit.then Exit.inBlock Code.wp WC WO WE WQ V bF tV d3 bW dF uH IntKind.wrap WR Code.rounds WT KO
theorem mQ {Q P:Prop} (k:Q) (h:Hid Q→P:=by
  intro k
  first
  |(refine aG ?_;refine q9 (id:=4) (.only [12]) (pl:= .p 0 <| .p 1 <| .p 2 <| .p 3 <| .p 4 <| .p 5 <| .p 7 <| .r 6 <| .r 8 <| .p 9 <| .r 10 <| .r 11 <| .e true [(12,.n [] <| .p 13 <| .p 14 <| .p 15 <| .done)]) k.out)
  |(refine aG ?_;refine q9 (id:=10) (.only [9]) (pl:= .p 0 <| .p 1 <| .p 2 <| .p 4 <| .r 3 <| .r 5 <| .p 6 <| .r 7 <| .r 8 <| .e true [(9,.n [] <| .p 10 <| .done)]) k.out)
  |(refine aG ?_;refine q9 (id:=14) (.only [13]) (pl:= .p 0 <| .p 1 <| .p 2 <| .p 4 <| .r 3 <| .r 5 <| .p 6 <| .r 7 <| .e true [(8,.p 9 <| .p 10 <| .p 11 <| .e true [(12,.e true [(13,.n [] <| .p 14 <| .done)])]),(12,.e true [(8,.p 9 <| .p 10 <| .p 11 <| .e true [(13,.n [] <| .p 14 <| .done)])])]) k.out)
  |(refine aG ?_;refine q9 (id:=15) (.only []) (pl:= .p 0 <| .p 1 <| .p 2 <| .r 3 <| .p 4 <| .p 5 <| .p 6 <| .p 7 <| .p 10 <| .r 8 <| .r 11 <| .e true [(9,.p 12 <| .p 13 <| .done)]) k.out)):P:=h ⟨k⟩
theorem e0b {F:List HP} {b:Nat} {c:Cfg} {s:MaS} {x:MaX} {n:Nat} {j:Int} (hw:c.wf) (hl:MaL c n s) (hn:n≤1000000000000) (hx:yS c s x) (h:jN s.n 2 j=true) (h11:(bD s.n 2 j).kind=11) :
    FnF Tryz.prog 49 [.pointer (some ⟨b,0,none⟩),.int .i64 2,.int .i64 j] [i7 b c s x] F (fun r L'=>r= .bool (jW c s 2 j)∧L'=[i7 b c (eX c s 2 j) x]):=by
  obtain ⟨⟨f1,f2,f3⟩,⟨f4,f5,f6⟩,f7⟩:=id hx
  have hmem:=hl.nt 2 _ (d8 h)
  obtain ⟨d0,d1⟩:=pY hmem.1 (.inr h11)
  obtain ⟨d,hd⟩:∃ d:Nat,(bD s.n 2 j).dst=d:=⟨(bD s.n 2 j).dst.toNat,om⟩
  have hk:d<x.hb.length:=by omega
  have hg:=lZ hk
  have ho:=hl.od
  have eH:dH s (d:Int)=s.hs.getD d zA:=rfl
  have hno:¬(jN s.n 2 j=false∨(2:Int)=1∧cA c s.n 2=0):=by rw [h];simp
  have hA:=fun F=>a8w (F:=F) (b:=x.bn) (c:=c) (n:=s.n) (k:=2) (i:=j)
  have hT:=fun F=>z6 (F:=F) (b:=x.bn) (c:=c) (n:=s.n) (k:=2) (i:=j)
  have hDn:=fun F=>e0h (F:=F) (b:=x.hb[d]) (c:=c) (num:=(d:Int)) (s:=s.hs.getD d zA) (m:=bD s.n 2 j) hw
  simp only [h] at hA
  have eB:jW c s 2 j=true:=by unfold jW;rw [if_neg hno,if_neg (by decide)]
  have eS:eX c s 2 j=⟨s.ks,s.cs,s.hs.set d (gV c d (s.hs.getD d zA) (bD s.n 2 j)),aL s.n 2 j,s.tr,if gU c d (s.hs.getD d zA) (bD s.n 2 j)=0 then s.odd else s.odd+1⟩:=by
    unfold eX;rw [if_neg hno,if_neg (by decide),if_neg (by decide),if_pos h11]
    unfold a3k
    rw [hd]
    by_cases g:gU c d (s.hs.getD d zA) (bD s.n 2 j)=0
    · rw [if_pos g]
      have:decide (gU c (d:Int) (dH (gI s (aL s.n 2 j)) d) (bD s.n 2 j)≠0)=false:=decide_eq_false (fun e=>e g)
      rw [this];rfl
    · rw [if_neg g]
      have:decide (gU c (d:Int) (dH (gI s (aL s.n 2 j)) d) (bD s.n 2 j)≠0)=true:=decide_eq_true g
      rw [this];rfl
  rw [eB,eS]
  clear eB eS
  generalize hm:bD s.n 2 j=m at *
  obtain ⟨mk,ml,ms,md,mw,mac',mo,mww⟩:=m
  dsimp only at hd h11
  subst hd h11
  by_cases he:gU c d (s.hs.getD d zA) ⟨11,ml,ms,d,mw,mac',mo,mww⟩=0
  · rw [if_pos he]
    simp only [he] at hDn
    refine FnF.mk' Tryz.func49 rfl rfl Tryz.ntmps49 rfl ?_
    refine rO hk fun hf=>?_
    (first|(refine eN (.slice x.ph.1 x.hb.length x.ph.2) inferInstance (om) ?_;intro _)|(refine eQ (.slice x.ph.1 x.hb.length x.ph.2) inferInstance (om) ?_;intro _))
    repeat first|refine go ?_|intro _|refine mQ ?_|refine cM ?_|refine aD @hA ?_|refine aD @hDn ?_|refine aD @hT ?_
    (apply aA rfl rfl bB)
    · exact ⟨rfl,rfl⟩
    · (apply wW;(focus (exact aB));all_goals exact mG)
  · rw [if_neg he]
    refine FnF.mk' Tryz.func49 rfl rfl Tryz.ntmps49 rfl ?_
    refine rO hk fun hf=>?_
    (first|(refine eN (.slice x.ph.1 x.hb.length x.ph.2) inferInstance (om) ?_;intro _)|(refine eQ (.slice x.ph.1 x.hb.length x.ph.2) inferInstance (om) ?_;intro _))
    repeat first|refine go ?_|intro _|refine mQ ?_|refine cM ?_|refine aD @hA ?_|refine aD @hDn ?_|refine aD @hT ?_
    (apply aA rfl rfl bB)
    · exact ⟨rfl,rfl⟩
    · (apply wW;(focus (exact aB));all_goals exact mG)
theorem e0c {F:List HP} {b:Nat} {c:Cfg} {s:MaS} {x:MaX} {n:Nat} {j:Int} (hw:c.wf) (hl:MaL c n s) (hn:n≤1000000000000) (ht:s.tr.length≤1000000000000) (hx:yS c s x) (h:jN s.n 2 j=true) (h11:(bD s.n 2 j).kind≠11) :
    FnF Tryz.prog 49 [.pointer (some ⟨b,0,none⟩),.int .i64 2,.int .i64 j] [i7 b c s x] F (fun r L'=>∃ pt:Option Addr×Nat,r= .bool (jW c s 2 j)∧L'=[i7 b c (eX c s 2 j) { x with pt:=pt}]):=by
  obtain ⟨⟨f1,f2,f3⟩,⟨f4,f5,f6⟩,f7⟩:=id hx
  have hmem:=hl.nt 2 _ (d8 h)
  have hk':=hmem.2
  obtain ⟨d0,d1⟩:=n4 hmem.1 (by unfold dJ at hk';unfold cE;split at hk'<;>(try split at hk')<;>(try split at hk')<;>omega)
  obtain ⟨i,hd⟩:∃ i:Nat,(bD s.n 2 j).dst=i:=⟨(bD s.n 2 j).dst.toNat,om⟩
  have hk:i<x.kb.length:=by omega
  have ha:i<x.ab.length:=by omega
  have eA:cI s (i:Int)=s.cs.getD i caZ:=rfl
  have eK:iK s (i:Int)=s.ks.getD i coZ:=rfl
  have hX:=hl.cai (i:Int)
  have ho:=hl.od
  have hgk:=lZ hk
  have hga:=lZ ha
  have hno:¬(jN s.n 2 j=false∨(2:Int)=1∧cA c s.n 2=0):=by rw [h];simp
  have hA:=fun F=>a8w (F:=F) (b:=x.bn) (c:=c) (n:=s.n) (k:=2) (i:=j)
  have hT:=fun F=>z6 (F:=F) (b:=x.bn) (c:=c) (n:=s.n) (k:=2) (i:=j)
  have hAn:=fun F=>a2k (F:=F) (b:=b) (c:=c) (odd:=s.odd) (nk:=x.kb.length) (nh:=x.hb.length) (nt:=s.tr.length) (pk:=x.pk) (pa:=x.pa) (ph:=x.ph) (pt:=x.pt) (bn:=x.bn) (ab:=x.ab) (a:=s.cs.getD i caZ) (n:=aL s.n 2 j) (m:=bD s.n 2 j) hw ha hd ⟨ho.1,om⟩ (d5t hX hn)
  have hH:=fun F=>a9m (F:=F) (b:=x.kb[i]) (l:=(s.ks.getD i coZ).l) (rs:=(s.ks.getD i coZ).rs) (tr:=(s.ks.getD i coZ).tr)
  simp only [h] at hA
  have eB:jW c s 2 j=true:=by unfold jW;rw [if_neg hno,if_neg (by decide)]
  have eS:eX c s 2 j=kK c ⟨s.ks,s.cs.set i (bH c i (s.cs.getD i caZ) (bD s.n 2 j)),s.hs,if dK c i (s.cs.getD i caZ) (bD s.n 2 j) then gH c (aL s.n 2 j) (gT c i (s.cs.getD i caZ) (bD s.n 2 j)) else aL s.n 2 j,s.tr,if bI c i (s.cs.getD i caZ) (bD s.n 2 j)=0 then s.odd else s.odd+1⟩ (bD s.n 2 j):=by
    unfold eX;rw [if_neg hno,if_neg (by decide),if_neg (by decide),if_neg h11,c4k,hd];rfl
  rw [eB,eS]
  clear eB eS
  generalize hN:(if dK c i (s.cs.getD i caZ) (bD s.n 2 j) then gH c (aL s.n 2 j) (gT c i (s.cs.getD i caZ) (bD s.n 2 j)) else aL s.n 2 j)=n' at *
  generalize hO:(if bI c i (s.cs.getD i caZ) (bD s.n 2 j)=0 then s.odd else s.odd+1)=odd' at *
  generalize ha':bH c i (s.cs.getD i caZ) (bD s.n 2 j)=a' at *
  generalize hm:bD s.n 2 j=m at *
  obtain ⟨mk,ml,ms,md,mw,mac',mo,mww⟩:=m
  dsimp only at hd h11
  subst hd
  have hcs:(s.cs.set i a').getD i caZ=a':=by rw [jZ,if_pos ⟨rfl,om⟩]
  cases hh:nO (iK s i) with
  |false=>
   have hh':uJ (s.ks.getD i coZ).l (s.ks.getD i coZ).rs=false:=hh
   simp only [hh'] at hH
   have eT:kK c ⟨s.ks,s.cs.set i a',s.hs,n',s.tr,odd'⟩ ⟨mk,ml,ms,i,mw,mac',mo,mww⟩=⟨s.ks.set i (s.ks.getD i coZ),s.cs.set i a',s.hs,n',s.tr,odd'⟩:=by
     unfold kK
     rw [if_neg (fun g=>by have:nO (iK s i)=true:=g.1;rw [hh] at this;cases this),bM]
   rw [eT]
   refine FnF.mk' Tryz.func49 rfl rfl Tryz.ntmps49 rfl ?_
   refine nD hk ha fun hf=>?_
   (first|(refine eN (.slice x.pk.1 x.kb.length x.pk.2) inferInstance (om) ?_;intro _)|(refine eQ (.slice x.pk.1 x.kb.length x.pk.2) inferInstance (om) ?_;intro _))
   repeat' (first|refine go ?_|intro _|refine mQ ?_|refine cM ?_|refine aD @hA ?_|refine aD @hT ?_|refine aD @hAn ?_|refine aD @hH ?_|refine mH ?_ ?_|fail)
   all_goals (apply aA rfl rfl bB)
   all_goals first|exact ⟨x.pt,rfl,rfl⟩|(apply eU;(focus (exact aB));all_goals exact mG)
  |true=>
   have hh':uJ (s.ks.getD i coZ).l (s.ks.getD i coZ).rs=true:=hh
   have hne:¬(s.ks.getD i coZ).rs.length=(s.ks.getD i coZ).l.length:=by simpa [uJ] using hh'
   have hwf:(x6 (s.ks.getD i coZ).l (s.ks.getD i coZ).rs).wf:=c4t hl hh
   have eO:j9 (iK s i)=x6 (s.ks.getD i coZ).l (s.ks.getD i coZ).rs:=rfl
   simp only [hh'] at hH
   generalize x6 (s.ks.getD i coZ).l (s.ks.getD i coZ).rs=op at *
   have hLn:=fun F=>b3e (F:=F) (b:=b) (c:=c) (odd:=odd') (nk:=x.kb.length) (na:=x.ab.length) (nh:=x.hb.length) (nt:=s.tr.length) (pk:=x.pk) (pa:=x.pa) (ph:=x.ph) (pt:=x.pt) (bn:=x.bn) (x:=op) hw hwf
   by_cases hg:op.kind≠4∧c8 c op=ml
   · obtain ⟨h4,hml⟩:=hg
     have hDo:=fun F=>c4j (F:=F) (b:=b) (c:=c) (odd:=odd') (nh:=x.hb.length) (pk:=x.pk) (pa:=x.pa) (ph:=x.ph) (pt:=x.pt) (bn:=x.bn) (kb:=x.kb) (ab:=x.ab) (k:=s.ks.getD i coZ) (a:=a') (tr:=s.tr) (x:=op) hk ha hne ht hwf
     have eT:kK c ⟨s.ks,s.cs.set i a',s.hs,n',s.tr,odd'⟩ ⟨mk,ml,ms,i,mw,mac',mo,mww⟩=⟨s.ks.set i (e7r c a' (s.ks.getD i coZ) op),s.cs.set i (fG c a' op),s.hs,n',e7h c a' (s.ks.getD i coZ) i op s.tr,odd'⟩:=by
       unfold kK
       rw [if_pos ⟨hh,by show (j9 (iK s i)).kind≠4;rw [eO];exact h4,by show c8 c (j9 (iK s i))=ml;rw [eO];exact hml⟩,e0a]
       have e1:cI (⟨s.ks,s.cs.set i a',s.hs,n',s.tr,odd'⟩:MaS) (i:Int)=a':=hcs
       show (⟨s.ks.set i (e7r c (cI (⟨s.ks,s.cs.set i a',s.hs,n',s.tr,odd'⟩:MaS) (i:Int)) (iK s i) (j9 (iK s i))),(s.cs.set i a').set i (fG c (cI (⟨s.ks,s.cs.set i a',s.hs,n',s.tr,odd'⟩:MaS) (i:Int)) (j9 (iK s i))),s.hs,n',e7h c (cI (⟨s.ks,s.cs.set i a',s.hs,n',s.tr,odd'⟩:MaS) (i:Int)) (iK s i) i (j9 (iK s i)) s.tr,odd'⟩:MaS)=_
       rw [e1,eO,List.set_set]
       rfl
     rw [eT]
     subst hml
     refine FnF.mk' Tryz.func49 rfl rfl Tryz.ntmps49 rfl ?_
     refine nD hk ha fun hf=>?_
     (first|(refine eN (.slice x.pk.1 x.kb.length x.pk.2) inferInstance (om) ?_;intro _)|(refine eQ (.slice x.pk.1 x.kb.length x.pk.2) inferInstance (om) ?_;intro _))
     repeat' (first|refine go ?_|intro _|refine mQ ?_|refine cM ?_|refine aD @hA ?_|refine aD @hT ?_|refine aD @hAn ?_|refine aD @hH ?_|refine aD @hLn ?_|refine aD @hDo ?_|refine mH ?_ ?_|fail)
     all_goals rename_i pt'
     all_goals (apply aA rfl rfl bB)
     all_goals first|exact ⟨pt',rfl,rfl⟩|(apply eU;(focus (exact aB));all_goals exact mG)
   · have eT:kK c ⟨s.ks,s.cs.set i a',s.hs,n',s.tr,odd'⟩ ⟨mk,ml,ms,i,mw,mac',mo,mww⟩=⟨s.ks.set i (s.ks.getD i coZ),s.cs.set i a',s.hs,n',s.tr,odd'⟩:=by
       unfold kK
       rw [if_neg (fun g=>hg ⟨by have:(j9 (iK s i)).kind≠4:=g.2.1;rwa [eO] at this,by have:c8 c (j9 (iK s i))=ml:=g.2.2;rwa [eO] at this⟩),bM]
     rw [eT]
     by_cases h4:op.kind=4
     · refine FnF.mk' Tryz.func49 rfl rfl Tryz.ntmps49 rfl ?_
       refine nD hk ha fun hf=>?_
       (first|(refine eN (.slice x.pk.1 x.kb.length x.pk.2) inferInstance (om) ?_;intro _)|(refine eQ (.slice x.pk.1 x.kb.length x.pk.2) inferInstance (om) ?_;intro _))
       repeat' (first|refine go ?_|intro _|refine mQ ?_|refine cM ?_|refine aD @hA ?_|refine aD @hT ?_|refine aD @hAn ?_|refine aD @hH ?_|refine aD @hLn ?_|refine mH ?_ ?_|fail)
       all_goals (apply aA rfl rfl bB)
       all_goals first|exact ⟨x.pt,rfl,rfl⟩|(apply eU;(focus (exact aB));all_goals exact mG)
     · have hml:¬c8 c op=ml:=fun g=>hg ⟨h4,g⟩
       refine FnF.mk' Tryz.func49 rfl rfl Tryz.ntmps49 rfl ?_
       refine nD hk ha fun hf=>?_
       (first|(refine eN (.slice x.pk.1 x.kb.length x.pk.2) inferInstance (om) ?_;intro _)|(refine eQ (.slice x.pk.1 x.kb.length x.pk.2) inferInstance (om) ?_;intro _))
       repeat' (first|refine go ?_|intro _|refine mQ ?_|refine cM ?_|refine aD @hA ?_|refine aD @hT ?_|refine aD @hAn ?_|refine aD @hH ?_|refine aD @hLn ?_|refine mH ?_ ?_|fail)
       all_goals (apply aA rfl rfl bB)
       all_goals first|exact ⟨x.pt,rfl,rfl⟩|(apply eU;(focus (exact aB));all_goals exact mG)
end
end Go.Sx
