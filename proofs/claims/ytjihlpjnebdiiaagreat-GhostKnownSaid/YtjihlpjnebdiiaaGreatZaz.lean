/- Mw2, Mw3, Lg: several of my texts as one. My own work. -/
import Derived.Test.YtjihlpjnebdiiaaGreatZay
set_option linter.unusedVariables false
set_option linter.unusedSectionVars false
set_option linter.unusedSimpArgs false
set_option maxRecDepth 100000
set_option maxHeartbeats 4000000
namespace Go.Sx
open Go Go.Proofs
section
abbrev e9p (b:Nat) (c:Cfg) (s:MaS) (x:MaX) (d:Nat) (hd:d<x.hb.length) (L:List HP):List HP:=MC b c s.odd x.kb.length x.ab.length x.hb.length s.tr.length x.pk x.pa x.ph x.pt x.bn::e8t x.pk x.kb::e7i x.pa x.ab::f0l x.ph x.hb::oB x.bn c s.n::e7s x.pt s.tr
  ::iV x.hb[d] c (d:Int) (s.hs.getD d zA)::All ((List.range x.kb.length).map (yC x s))::All ((List.range x.ab.length).map (s5 c x s))::All (((List.range x.hb.length).eraseIdx d).map (s6 c x s))::L
theorem d2p {b:Nat} {c:Cfg} {s:MaS} {x:MaX} {d:Nat} {L:List HP} (hd:d<x.hb.length):Ent (e9t b c s x L) (e9p b c s x d hd L):=by
  refine Ent.cons (Ent.cons (Ent.cons (Ent.cons (Ent.cons (Ent.cons ?_)))))
  refine Ent.trans (Ent.cons (Ent.cons (vK hd))) ?_
  have e1:s6 c x s d=iV x.hb[d] c (d:Int) (s.hs.getD d zA):=by unfold s6;rw [sJ hd]
  rw [e1]
  exact gR (List.Perm.trans (List.Perm.cons _ (List.Perm.swap _ _ _)) (List.Perm.swap _ _ _))
theorem wW {b:Nat} {c:Cfg} {s s':MaS} {x:MaX} {d:Nat} {hd:d<x.hb.length} {L M:List HP} {k:HomS} {n:Nets} {odd:Int}
    (h:Ent L (MC b c odd x.kb.length x.ab.length x.hb.length s.tr.length x.pk x.pa x.ph x.pt x.bn::e8t x.pk x.kb::e7i x.pa x.ab::f0l x.ph x.hb::oB x.bn c n::e7s x.pt s.tr
     ::iV x.hb[d] c (d:Int) k::All ((List.range x.kb.length).map (yC x s))::All ((List.range x.ab.length).map (s5 c x s))::All (((List.range x.hb.length).eraseIdx d).map (s6 c x s))::M))
    (hf:yS c s x) (e1:s'.ks=s.ks) (e2:s'.cs=s.cs) (e3:s'.hs=s.hs.set d k) (e4:s'.n=n) (e5:s'.tr=s.tr) (e6:s'.odd=odd):Ent L (i7 b c s' x::M):=by
  obtain ⟨ks,cs,hs,nn,tt,oo⟩:=s'
  dsimp only at e1 e2 e3 e4 e5 e6
  subst e1 e2 e3 e4 e5 e6
  obtain ⟨⟨f1,f2,f3⟩,f4,f5⟩:=hf
  refine gM (Ent.trans h ?_) ⟨⟨f1,f2,by dsimp only;rw [List.length_set];exact f3⟩,f4,f5⟩
  refine Ent.cons (Ent.cons (Ent.cons (Ent.cons (Ent.cons (Ent.cons ?_)))))
  have e1:iV x.hb[d] c (d:Int) k=s6 c x ⟨s.ks,s.cs,s.hs.set d k,nn,s.tr,oo⟩ d:=by unfold s6;dsimp only;rw [sJ hd,jZ,if_pos ⟨rfl,om⟩]
  rw [e1]
  refine Ent.trans (gR (List.Perm.trans (List.Perm.swap _ _ _) (List.Perm.cons _ (List.Perm.swap _ _ _)))) (Ent.cons (Ent.cons ?_))
  refine Ent.trans (a0b (g:=s6 c x ⟨s.ks,s.cs,s.hs.set d k,nn,s.tr,oo⟩) hd fun j hj hne=>?_) (Ent.cons Ent.refl)
  unfold s6;dsimp only;rw [jZ,if_neg (fun h=>hne h.1)]
section
variable {b:Nat} {c:Cfg} {s:MaS} {x:MaX} {P:Program} {N:Nat} {env:Env} {L:List HP} {Q:Exit→Act→World→Prop}
theorem rO {co:Code} {d:Nat} (hd:d<x.hb.length) (h:yS c s x→WC P N co env (e9p b c s x d hd L) Q):WC P N co env (i7 b c s x::L) Q:=
  j0 fun hf a w hA hw=>h hf a w hA ((d2p hd).sat hw)
end
theorem d2q {c:Cfg} {n:Nat} {s:MaS} (hl:MaL c n s) {i d:Int} (h:a6u (iK s i) d=true):(a2y (iK s i) d).wf:=by
  have h0:=h
  unfold a6u iM at h
  simp only [Bool.and_eq_true] at h
  have h1:=h.1
  unfold pA at h1
  simp at h1
  have hi:i.toNat<s.ks.length:=by
    refine Decidable.byContradiction fun g=>?_
    have e:iK s i=coZ:=by unfold iK;rw [List.getD_eq_getElem?_getD,List.getElem?_eq_none (om)];rfl
    rw [e] at h1
    have:(coZ.rs.length:Int)+d<coZ.l.length:=h1.1.2.2
    have e2:coZ.rs.length=0:=rfl
    have e3:coZ.l.length=0:=rfl
    omega
  have e:iK s i=s.ks[i.toNat]:=by unfold iK;rw [List.getD_eq_getElem?_getD,List.getElem?_eq_getElem hi];rfl
  have hk:=(hl.kp _ (List.getElem_mem hi)).1
  rw [←e] at hk
  have hlt:(((iK s i).rs.length:Int)+d).toNat<(iK s i).l.length:=by omega
  have hm:a2y (iK s i) d∈(iK s i).l:=by
    have h0':iM (iK s i).l (iK s i).rs (iK s i).tr d=true:=h0
    unfold a2y qH
    rw [if_pos h0',List.getD_eq_getElem?_getD,List.getElem?_eq_getElem hlt]
    exact List.getElem_mem hlt
  unfold kS at hk
  simp only [Bool.and_eq_true,List.all_eq_true,decide_eq_true_eq] at hk
  exact e3b (hk.1.1 _ hm).1
attribute [local irreducible] Exit.then Exit.inBlock Code.wp WC WO WE WQ V bF tV d3 bW dF uH IntKind.wrap WR Code.rounds WT KO
theorem a6c {Q P:Prop} (k:Q) (h:Hid Q→P:=by
  intro k
  first
  |(refine aG ?_;refine q9 (id:=1) (.only [17]) (pl:= .p 0 <| .p 1 <| .p 2 <| .p 5 <| .p 6 <| .p 7 <| .p 10 <| .p 11 <| .p 12 <| .r 3 <| .r 8 <| .r 13 <| .e true [(4,.e true [(9,.e true [(14,.p 15 <| .e true [(16,.e true [(17,.n [] <| .done)])]),(16,.e true [(14,.p 15 <| .e true [(17,.n [] <| .done)])])]),(16,.e true [(9,.e true [(14,.p 15 <| .e true [(17,.n [] <| .done)])])])]),(16,.e true [(4,.e true [(9,.e true [(14,.p 15 <| .e true [(17,.n [] <| .done)])])])])]) k.out)
  |(refine aG ?_;refine q9 (id:=2) (.only [9,15]) (pl:= .p 0 <| .p 1 <| .p 2 <| .p 4 <| .p 7 <| .r 3 <| .p 5 <| .r 6 <| .r 8 <| .e true [(9,.n [15] <| .p 10 <| .p 11 <| .p 12 <| .p 13 <| .e true [(14,.e true [(15,.n [] <| .p 16 <| .p 17 <| .done)])]),(14,.e true [(9,.n [15] <| .p 10 <| .p 11 <| .p 12 <| .p 13 <| .e true [(15,.n [] <| .p 16 <| .p 17 <| .done)])])]) k.out)):P:=h ⟨k⟩
theorem e0l {F:List HP} {b:Nat} {c:Cfg} {s:MaS} {x:MaX} {d n:Nat} {j:Int} (hw:c.wf) (hl:MaL c n s) (hn:n≤1000000000000) (hd:(d:Int)<c.homes) (hx:yS c s x) :
    FnF Tryz.prog 51 [.pointer (some ⟨b,0,none⟩),.int .i64 d,.int .i64 j] [i7 b c s x] F (fun r L'=>r= .bool (xV c s d j)∧L'=[i7 b c (dG c s d j) x]):=by
  obtain ⟨⟨f1,f2,f3⟩,⟨f4,f5,f6⟩,f7⟩:=id hx
  have hk:d<x.hb.length:=by omega
  have hg:=lZ hk
  obtain ⟨hI,ho,ho2⟩:=hl.hmi (i:=(d:Int)) (om) hd
  have eH:dH s (d:Int)=s.hs.getD d zA:=rfl
  rw [eH] at hI ho ho2
  have hL:=fun F n k=>vW (F:=F) (b:=x.bn) (c:=c) (n:=n) (k:=k)
  have hW:=fun F=>d8i (F:=F) (b:=x.hb[d]) (c:=c) (num:=(d:Int)) (s:=s.hs.getD d zA) (n:=j) (l:=d6p c s) hI ⟨ho,om⟩
  have hSn:=fun F odd n m=>a6b (F:=F) (b:=b) (c:=c) (odd:=odd) (nk:=x.kb.length) (na:=x.ab.length) (nh:=x.hb.length) (nt:=s.tr.length) (pk:=x.pk) (pa:=x.pa) (ph:=x.ph) (pt:=x.pt) (bn:=x.bn) (n:=n) (m:=m) hw
  refine FnF.mk' Tryz.func51 rfl rfl Tryz.ntmps51 rfl ?_
  refine rO hk fun hf=>?_
  (first|(refine eN (.slice x.ph.1 x.hb.length x.ph.2) inferInstance (om) ?_;intro _)|(refine eQ (.slice x.ph.1 x.hb.length x.ph.2) inferInstance (om) ?_;intro _))
  cases hb:d7 (s.hs.getD d zA) j (d6p c s) with
  |true=>
   have eS:dG c s d j=⟨s.ks,s.cs,s.hs.set d (bY c (s.hs.getD d zA) j (d6p c s)),gH c s.n (fU (s.hs.getD d zA) j (d6p c s)),s.tr,s.odd⟩:=by unfold dG;rw [eH,if_pos hb];rfl
   rw [eS]
   simp only [hb] at hW
   repeat' (first|refine go ?_|intro _|refine a6c ?_|refine cM ?_|refine aD @hL ?_|refine aD @hW ?_|refine aD @hSn ?_|refine mH ?_ ?_|fail)
   all_goals (apply aA rfl rfl bB)
   all_goals first|exact ⟨rfl,rfl⟩|(apply wW;(focus (exact aB));all_goals exact mG)
  |false=>
   have hbn:¬d7 (s.hs.getD d zA) j (d6p c s)=true:=by rw [hb];simp
   have eS:dG c s d j=⟨s.ks,s.cs,s.hs.set d (bY c (s.hs.getD d zA) j (d6p c s)),s.n,s.tr,s.odd⟩:=by unfold dG;rw [eH,if_neg hbn];rfl
   rw [eS]
   simp only [hb] at hW
   repeat' (first|refine go ?_|intro _|refine a6c ?_|refine cM ?_|refine aD @hL ?_|refine aD @hW ?_|refine aD @hSn ?_|refine mH ?_ ?_|fail)
   all_goals (apply aA rfl rfl bB)
   all_goals first|exact ⟨rfl,rfl⟩|(apply wW;(focus (exact aB));all_goals exact mG)
end
section
theorem c7t {c:Cfg} {d:Int} {k:HomS} {m:Msg} (h:¬l3 c d k m=0):iP c d k m=k:=by
  unfold l3 at h
  unfold iP
  split
  · rename_i g
    rw [if_pos g] at h
    unfold qZ
    rw [if_neg h]
  · rfl
theorem c4k {c:Cfg} {s:MaS} {m:Msg}:dN c s m=⟨s.ks,s.cs.set m.dst.toNat (bH c m.dst (cI s m.dst) m),s.hs,if dK c m.dst (cI s m.dst) m then gH c s.n (gT c m.dst (cI s m.dst) m) else s.n,s.tr,if bI c m.dst (cI s m.dst) m=0 then s.odd else s.odd+1⟩:=by
  unfold dN qD
  by_cases he:bI c m.dst (cI s m.dst) m=0
  · cases hb:dK c m.dst (cI s m.dst) m<;>simp [he,d9,gI,dW]
  · cases hb:dK c m.dst (cI s m.dst) m<;>simp [he,d9,gI,dW]
attribute [local irreducible] Exit.then Exit.inBlock Code.wp WC WO WE WQ V bF tV d3 bW dF uH IntKind.wrap WR Code.rounds WT KO
theorem pP {Q P:Prop} (k:Q) (h:Hid Q→P:=by
  intro k
  first
  |(refine aG ?_;refine q9 (id:=4) (.only [12]) (pl:= .p 0 <| .p 1 <| .p 2 <| .p 3 <| .p 4 <| .p 5 <| .p 7 <| .r 6 <| .r 8 <| .p 9 <| .r 10 <| .r 11 <| .e true [(12,.n [] <| .p 13 <| .p 14 <| .p 15 <| .done)]) k.out)
  |(refine aG ?_;refine q9 (id:=10) (.only [9]) (pl:= .p 0 <| .p 1 <| .p 2 <| .p 4 <| .r 3 <| .r 5 <| .p 6 <| .r 7 <| .r 8 <| .e true [(9,.n [] <| .p 10 <| .done)]) k.out)
  |(refine aG ?_;refine q9 (id:=14) (.only [13]) (pl:= .p 0 <| .p 1 <| .p 2 <| .p 4 <| .r 3 <| .r 5 <| .p 6 <| .r 7 <| .e true [(8,.p 9 <| .p 10 <| .p 11 <| .e true [(12,.e true [(13,.n [] <| .p 14 <| .done)])]),(12,.e true [(8,.p 9 <| .p 10 <| .p 11 <| .e true [(13,.n [] <| .p 14 <| .done)])])]) k.out)
  |(refine aG ?_;refine q9 (id:=15) (.only []) (pl:= .p 0 <| .p 1 <| .p 2 <| .r 3 <| .p 4 <| .p 5 <| .p 6 <| .p 7 <| .p 10 <| .r 8 <| .r 11 <| .e true [(9,.p 12 <| .p 13 <| .done)]) k.out)):P:=h ⟨k⟩
theorem e0m {F:List HP} {b:Nat} {c:Cfg} {s:MaS} {x:MaX} {n:Nat} {k j:Int} (hw:c.wf) (hl:MaL c n s) (hx:yS c s x) (h:jN s.n k j=false∨k=1∧cA c s.n 2=0) :
    FnF Tryz.prog 49 [.pointer (some ⟨b,0,none⟩),.int .i64 k,.int .i64 j] [i7 b c s x] F (fun r L'=>r= .bool (jW c s k j)∧L'=[i7 b c (eX c s k j) { x with pt:=x.pt}]):=by
  have eB:jW c s k j=false:=by unfold jW;rw [if_pos h]
  have eS:eX c s k j=s:=by unfold eX;rw [if_pos h]
  rw [eB,eS]
  have hL:=fun F n k=>vW (F:=F) (b:=x.bn) (c:=c) (n:=n) (k:=k)
  have hA:=fun F=>a8w (F:=F) (b:=x.bn) (c:=c) (n:=s.n) (k:=k) (i:=j)
  refine FnF.mk' Tryz.func49 rfl rfl Tryz.ntmps49 rfl ?_
  refine j0 fun hf=>?_
  cases hb:jN s.n k j with
  |false=>
   simp only [hb] at hA
   repeat first|refine go ?_|intro _|refine pP ?_|refine cM ?_|refine aD @hA ?_|refine aD @hL ?_
   (apply aA rfl rfl bB)
   · exact ⟨rfl,rfl⟩
   · refine gM ?_ hf
     exact aB
  |true=>
   rw [hb] at h
   have h':k=1∧cA c s.n 2=0:=h.elim (fun g=>nomatch g) id
   obtain ⟨rfl,h2⟩:=h'
   simp only [hb] at hA
   repeat first|refine go ?_|intro _|refine pP ?_|refine cM ?_|refine aD @hA ?_|refine aD @hL ?_
   (apply aA rfl rfl bB)
   · exact ⟨rfl,rfl⟩
   · refine gM ?_ hf
     exact aB
theorem e0n {F:List HP} {b:Nat} {c:Cfg} {s:MaS} {x:MaX} {n:Nat} {j:Int} (hw:c.wf) (hl:MaL c n s) (hx:yS c s x) (h:jN s.n 0 j=true) :
    FnF Tryz.prog 49 [.pointer (some ⟨b,0,none⟩),.int .i64 0,.int .i64 j] [i7 b c s x] F (fun r L'=>r= .bool (jW c s 0 j)∧L'=[i7 b c (eX c s 0 j) x]):=by
  obtain ⟨⟨f1,f2,f3⟩,⟨f4,f5,f6⟩,f7⟩:=id hx
  have hmem:=hl.nt 0 _ (d8 h)
  have hh:cE (bD s.n 0 j).kind:=by
    have:=hmem.2
    unfold dJ at this
    unfold cE
    split at this
    · exact .inl (by assumption)
    · split at this
      · omega
      · split at this<;>omega
  obtain ⟨d0,d1⟩:=pY hmem.1 hh
  obtain ⟨d,hd⟩:∃ d:Nat,(bD s.n 0 j).dst=d:=⟨(bD s.n 0 j).dst.toNat,om⟩
  have hk:d<x.hb.length:=by omega
  have hg:=lZ hk
  have eH:dH s (d:Int)=s.hs.getD d zA:=rfl
  have hno:¬(jN s.n 0 j=false∨(0:Int)=1∧cA c s.n 2=0):=by rw [h];simp
  have hA:=fun F=>a8w (F:=F) (b:=x.bn) (c:=c) (n:=s.n) (k:=0) (i:=j)
  have hT:=fun F=>z6 (F:=F) (b:=x.bn) (c:=c) (n:=s.n) (k:=0) (i:=j)
  have hAc:=fun F=>c7s (F:=F) (b:=x.hb[d]) (c:=c) (num:=(d:Int)) (s:=s.hs.getD d zA) (m:=bD s.n 0 j) hw
  simp only [h] at hA
  have eB:jW c s 0 j=decide (l3 c d (s.hs.getD d zA) (bD s.n 0 j)=0):=by unfold jW;rw [if_neg hno,if_pos rfl,hd,eH]
  have eS:eX c s 0 j=if l3 c d (s.hs.getD d zA) (bD s.n 0 j)=0 then ⟨s.ks,s.cs,s.hs.set d (iP c d (s.hs.getD d zA) (bD s.n 0 j)),aL s.n 0 j,s.tr,s.odd⟩ else ⟨s.ks,s.cs,s.hs.set d (s.hs.getD d zA),s.n,s.tr,s.odd⟩:=by
    unfold eX;rw [if_neg hno,if_pos rfl,hd,eH,bM];rfl
  rw [eB,eS]
  clear eB eS
  generalize hm:bD s.n 0 j=m at *
  obtain ⟨mk,ml,ms,md,mw,mac',mo,mww⟩:=m
  dsimp only at hd
  subst hd
  by_cases he:l3 c d (s.hs.getD d zA) ⟨mk,ml,ms,d,mw,mac',mo,mww⟩=0
  · rw [if_pos he,decide_eq_true he]
    simp only [he] at hAc
    refine FnF.mk' Tryz.func49 rfl rfl Tryz.ntmps49 rfl ?_
    refine rO hk fun hf=>?_
    (first|(refine eN (.slice x.ph.1 x.hb.length x.ph.2) inferInstance (om) ?_;intro _)|(refine eQ (.slice x.ph.1 x.hb.length x.ph.2) inferInstance (om) ?_;intro _))
    repeat first|refine go ?_|intro _|refine pP ?_|refine cM ?_|refine aD @hA ?_|refine aD @hAc ?_|refine aD @hT ?_
    (apply aA rfl rfl bB)
    · exact ⟨rfl,rfl⟩
    · (apply wW;(focus (exact aB));all_goals exact mG)
  · have eK:iP c d (s.hs.getD d zA) ⟨mk,ml,ms,d,mw,mac',mo,mww⟩=s.hs.getD d zA:=c7t he
    rw [if_neg he,decide_eq_false he]
    simp only [eK] at hAc
    refine FnF.mk' Tryz.func49 rfl rfl Tryz.ntmps49 rfl ?_
    refine rO hk fun hf=>?_
    (first|(refine eN (.slice x.ph.1 x.hb.length x.ph.2) inferInstance (om) ?_;intro _)|(refine eQ (.slice x.ph.1 x.hb.length x.ph.2) inferInstance (om) ?_;intro _))
    repeat first|refine go ?_|intro _|refine pP ?_|refine cM ?_|refine aD @hA ?_|refine aD @hAc ?_|refine aD @hT ?_
    (apply aA rfl rfl bB)
    · exact ⟨rfl,rfl⟩
    · (apply wW;(focus (exact aB));all_goals exact mG)
theorem e0o {F:List HP} {b:Nat} {c:Cfg} {s:MaS} {x:MaX} {n:Nat} {j:Int} (hw:c.wf) (hl:MaL c n s) (hn:n≤1000000000000) (hx:yS c s x) (h:jN s.n 1 j=true) (h2:cA c s.n 2≠0) :
    FnF Tryz.prog 49 [.pointer (some ⟨b,0,none⟩),.int .i64 1,.int .i64 j] [i7 b c s x] F (fun r L'=>r= .bool (jW c s 1 j)∧L'=[i7 b c (eX c s 1 j) { x with pt:=x.pt}]):=by
  obtain ⟨⟨f1,f2,f3⟩,⟨f4,f5,f6⟩,f7⟩:=id hx
  have hmem:=hl.nt 1 _ (d8 h)
  have hk':=hmem.2
  obtain ⟨d0,d1⟩:=n4 hmem.1 (by unfold dJ at hk';unfold cE;split at hk'<;>(try split at hk')<;>(try split at hk')<;>omega)
  obtain ⟨i,hd⟩:∃ i:Nat,(bD s.n 1 j).dst=i:=⟨(bD s.n 1 j).dst.toNat,om⟩
  have hk:i<x.kb.length:=by omega
  have ha:i<x.ab.length:=by omega
  have eA:cI s (i:Int)=s.cs.getD i caZ:=rfl
  have hX:=hl.cai (i:Int)
  have ho:=hl.od
  have hno:¬(jN s.n 1 j=false∨(1:Int)=1∧cA c s.n 2=0):=by rw [h];simp [h2]
  have hA:=fun F=>a8w (F:=F) (b:=x.bn) (c:=c) (n:=s.n) (k:=1) (i:=j)
  have hL:=fun F=>vW (F:=F) (b:=x.bn) (c:=c) (n:=s.n) (k:=2)
  have hT:=fun F=>z6 (F:=F) (b:=x.bn) (c:=c) (n:=s.n) (k:=1) (i:=j)
  have hAn:=fun F=>a2k (F:=F) (b:=b) (c:=c) (odd:=s.odd) (nk:=x.kb.length) (nh:=x.hb.length) (nt:=s.tr.length) (pk:=x.pk) (pa:=x.pa) (ph:=x.ph) (pt:=x.pt) (bn:=x.bn) (ab:=x.ab) (a:=s.cs.getD i caZ) (n:=aL s.n 1 j) (m:=bD s.n 1 j) hw ha hd ⟨ho.1,om⟩ (d5t hX hn)
  simp only [h] at hA
  have eB:jW c s 1 j=true:=by unfold jW;rw [if_neg hno,if_neg (by decide)]
  have eS:eX c s 1 j=⟨s.ks.set i (s.ks.getD i coZ),s.cs.set i (bH c i (s.cs.getD i caZ) (bD s.n 1 j)),s.hs,if dK c i (s.cs.getD i caZ) (bD s.n 1 j) then gH c (aL s.n 1 j) (gT c i (s.cs.getD i caZ) (bD s.n 1 j)) else aL s.n 1 j,s.tr,if bI c i (s.cs.getD i caZ) (bD s.n 1 j)=0 then s.odd else s.odd+1⟩:=by
    unfold eX;rw [if_neg hno,if_neg (by decide),if_pos rfl,c4k,hd,bM];rfl
  rw [eB,eS]
  refine FnF.mk' Tryz.func49 rfl rfl Tryz.ntmps49 rfl ?_
  refine nD hk ha fun hf=>?_
  repeat first|refine go ?_|intro _|refine pP ?_|refine cM ?_|refine aD @hA ?_|refine aD @hL ?_|refine aD @hT ?_|refine aD @hAn ?_
  (apply aA rfl rfl bB)
  · exact ⟨rfl,rfl⟩
  · (apply eU;(focus (exact aB));all_goals exact mG)
end
section
def wX (ps:List (List Op3)):Nat:=(ps.map List.length).sum
def a0o (c:Cfg) (ps:List (List Op3)) (k:Int):Bool:=decide ((8<c.cores∧c.cores≤64)∨(32<c.lines∧c.lines≤1024)∨80<wX ps∨100<ps.length∨300<k)
theorem c7u {ps:List PrQ} {i:Nat} (hi:i<ps.length):wX ((ps.take (i+1)).map (·.1))=wX ((ps.take i).map (·.1))+ps[i].1.length:=by
  unfold wX
  rw [List.take_add_one,List.getElem?_eq_getElem hi,Option.toList_some,List.map_append,List.map_append,List.sum_append]
  simp
theorem e0p {ps:List PrQ} (i:Nat):wX ((ps.take i).map (·.1))≤wX (ps.map (·.1)):=by
  have:ps.map (·.1)=(ps.take i).map (·.1)++(ps.drop i).map (·.1):=by rw [←List.map_append,List.take_append_drop]
  unfold wX
  rw [this,List.map_append,List.sum_append]
  omega
theorem d2r {ps:List (List Op3)} {l:List Op3} (h:l∈ps):l.length≤wX ps:=by
  unfold wX
  induction ps with
  |nil=>cases h
  |cons a r ih=>
   rw [List.map_cons,List.sum_cons]
   rcases List.mem_cons.1 h with rfl|h
   · omega
   · have:=ih h;omega
attribute [local irreducible] Exit.then Exit.inBlock Code.wp WC WO WE WQ V bF tV d3 bW dF uH IntKind.wrap WR Code.rounds WT KO
theorem c7v {F:List HP} {c:Cfg} {ps:List PrQ} {v:Value} {k:Int} (hk:RdL F 1 v ps.length (aC c8m ps)) (hp:ps.length≤1000000000000000) (hn:∀ p∈ps,p.1.length≤1000000000000000) :
    FnF Tryz.prog 16 [c.val,v,.int .i64 k] [] F (fun r L'=>r= .bool (a0o c (ps.map (·.1)) k)∧L'=[]):=by
  refine FnF.mk' Tryz.func16 rfl rfl Tryz.ntmps16 rfl ?_
  repeat first|refine gd ?_|intro _
  rename_i b3
  apply bC (E0:=[(1,_),(2,_),(3,_)]) (fun E0 (i:Nat)=>(8,.int .i64 i)::(7,.int .i64 (wX ((ps.take i).map (·.1))))::E0) (fun _=>Cells b3 24 c.cells::F) (fun i=>i≤ps.length∧wX ((ps.take i).map (·.1))≤1000000000000080) (fun i=>ps.length-i) 0
  · exact nB
  · exact ⟨Nat.zero_le _,by simp [wX]⟩
  · exact aB
  · rintro i ⟨hi,hb⟩
    by_cases hlt:i<ps.length∧wX ((ps.take i).map (·.1))≤80
    · obtain ⟨hlt,h80⟩:=hlt
      have hst:=c7u hlt
      have hl:=hn _ (List.getElem_mem hlt)
      generalize wX ((ps.take i).map (·.1))=t at hst h80 hb ⊢
      repeat first|refine gd ?_|intro _
      refine aS (i+1) (om) ⟨om,om⟩ ?_ ?_
      · simp only [hst];exact nB
      · exact aB
    · have htot:80<wX (ps.map (·.1))↔80<wX ((ps.take i).map (·.1)):=by
        by_cases h1:80<wX ((ps.take i).map (·.1))
        · have:=e0p (ps:=ps) i;constructor<;>intro<;>omega
        · have h2:i=ps.length:=by omega
          rw [h2,List.take_length]
      have hex:¬(i:Int)<ps.length∨¬((wX ((ps.take i).map (·.1)):Nat):Int)≤80:=by omega
      unfold a0o
      simp only [htot,List.length_map]
      generalize wX ((ps.take i).map (·.1))=t at hlt hb hex ⊢
      rcases hex with hex|hex
      all_goals repeat' (first|refine gd ?_|intro _|refine mH ?_ ?_|fail)
      all_goals (apply aA rfl rfl bB;(refine ⟨congrArg Value.bool ?_,rfl⟩;(first|(refine decide_eq_decide.2 ?_)|(refine (decide_eq_true ?_).symm)|(refine (decide_eq_false ?_).symm));(first|omega|(simp only [];omega)));exact iC)
end
end Go.Sx
