/- Mw2, Mw3, MaZ, MaD, MaN, Pro2: several of my texts as one. My own work. -/
import Derived.Test.YtjihlpjnebdiiaaGreatZau
set_option linter.unusedVariables false
set_option linter.unusedSectionVars false
set_option linter.unusedSimpArgs false
set_option maxRecDepth 100000
set_option maxHeartbeats 4000000
namespace Go.Sx
open Go Go.Proofs
section
abbrev f3v (b:Nat) (c:Cfg) (s:MaS) (x:MaX) (d:Nat) (hd:d<x.hb.length) (L:List HP):List HP:=MC b c s.odd x.kb.length x.ab.length x.hb.length s.tr.length x.pk x.pa x.ph x.pt x.bn::f2o x.pk x.kb::f1m x.pa x.ab::f4t x.ph x.hb::nQ x.bn c s.n::f1t x.pt s.tr
  ::jD x.hb[d] c (d:Int) (s.hs.getD d a5e)::All ((List.range x.kb.length).map (a0i x s))::All ((List.range x.ab.length).map (uS c x s))::All (((List.range x.hb.length).eraseIdx d).map (uT c x s))::L
theorem d4m {b:Nat} {c:Cfg} {s:MaS} {x:MaX} {d:Nat} {L:List HP} (hd:d<x.hb.length):Ent (e6m b c s x L) (f3v b c s x d hd L):=by
  refine Ent.cons (Ent.cons (Ent.cons (Ent.cons (Ent.cons (Ent.cons ?_)))))
  refine Ent.trans (Ent.cons (Ent.cons (xM hd))) ?_
  have e1:uT c x s d=jD x.hb[d] c (d:Int) (s.hs.getD d a5e):=by unfold uT;rw [nI hd]
  rw [e1]
  exact iA (List.Perm.trans (List.Perm.cons _ (List.Perm.swap _ _ _)) (List.Perm.swap _ _ _))
theorem yS {b:Nat} {c:Cfg} {s s':MaS} {x:MaX} {d:Nat} {hd:d<x.hb.length} {L M:List HP} {k:HomS} {n:Nets} {odd:Int}
    (h:Ent L (MC b c odd x.kb.length x.ab.length x.hb.length s.tr.length x.pk x.pa x.ph x.pt x.bn::f2o x.pk x.kb::f1m x.pa x.ab::f4t x.ph x.hb::nQ x.bn c n::f1t x.pt s.tr
     ::jD x.hb[d] c (d:Int) k::All ((List.range x.kb.length).map (a0i x s))::All ((List.range x.ab.length).map (uS c x s))::All (((List.range x.hb.length).eraseIdx d).map (uT c x s))::M))
    (hf:a2v c s x) (e1:s'.ks=s.ks) (e2:s'.cs=s.cs) (e3:s'.hs=s.hs.set d k) (e4:s'.n=n) (e5:s'.tr=s.tr) (e6:s'.odd=odd):Ent L (i9 b c s' x::M):=by
  obtain ⟨ks,cs,hs,nn,tt,oo⟩:=s'
  dsimp only at e1 e2 e3 e4 e5 e6
  subst e1 e2 e3 e4 e5 e6
  obtain ⟨⟨f1,f2,f3⟩,f4,f5⟩:=hf
  refine eV (Ent.trans h ?_) ⟨⟨f1,f2,by dsimp only;rw [List.length_set];exact f3⟩,f4,f5⟩
  refine Ent.cons (Ent.cons (Ent.cons (Ent.cons (Ent.cons (Ent.cons ?_)))))
  have e1:jD x.hb[d] c (d:Int) k=uT c x ⟨s.ks,s.cs,s.hs.set d k,nn,s.tr,oo⟩ d:=by unfold uT;dsimp only;rw [nI hd,kX,if_pos ⟨rfl,om⟩]
  rw [e1]
  refine Ent.trans (iA (List.Perm.trans (List.Perm.swap _ _ _) (List.Perm.cons _ (List.Perm.swap _ _ _)))) (Ent.cons (Ent.cons ?_))
  refine Ent.trans (a2w (g:=uT c x ⟨s.ks,s.cs,s.hs.set d k,nn,s.tr,oo⟩) hd fun j hj hne=>?_) (Ent.cons Ent.refl)
  unfold uT;dsimp only;rw [kX,if_neg (fun h=>hne h.1)]
section
variable {b:Nat} {c:Cfg} {s:MaS} {x:MaX} {P:Program} {N:Nat} {env:Env} {L:List HP} {Q:Exit→Act→World→Prop}
theorem sI {co:Code} {d:Nat} (hd:d<x.hb.length) (h:a2v c s x→WC P N co env (f3v b c s x d hd L) Q):WC P N co env (i9 b c s x::L) Q:=
  i6 fun hf a w hA hw=>h hf a w hA ((d4m hd).sat hw)
end
theorem d4n {c:Cfg} {n:Nat} {s:MaS} (hl:MaL c n s) {i d:Int} (h:xT (cO s i) d=true):(iF (cO s i) d).wf:=by
  have h0:=h
  unfold xT iY at h
  simp only [Bool.and_eq_true] at h
  have h1:=h.1
  unfold oS at h1
  simp at h1
  have hi:i.toNat<s.ks.length:=by
    refine Decidable.byContradiction fun g=>?_
    have e:cO s i=coZ:=by unfold cO;rw [List.getD_eq_getElem?_getD,List.getElem?_eq_none (om)];rfl
    rw [e] at h1
    have:(coZ.rs.length:Int)+d<coZ.l.length:=h1.1.2.2
    have e2:coZ.rs.length=0:=rfl
    have e3:coZ.l.length=0:=rfl
    omega
  have e:cO s i=s.ks[i.toNat]:=by unfold cO;rw [List.getD_eq_getElem?_getD,List.getElem?_eq_getElem hi];rfl
  have hk:=(hl.kp _ (List.getElem_mem hi)).1
  rw [←e] at hk
  have hlt:(((cO s i).rs.length:Int)+d).toNat<(cO s i).l.length:=by omega
  have hm:iF (cO s i) d∈(cO s i).l:=by
    have h0':iY (cO s i).l (cO s i).rs (cO s i).tr d=true:=h0
    unfold iF rF
    rw [if_pos h0',List.getD_eq_getElem?_getD,List.getElem?_eq_getElem hlt]
    exact List.getElem_mem hlt
  unfold lW at hk
  simp only [Bool.and_eq_true,List.all_eq_true,decide_eq_true_eq] at hk
  exact e6r (hk.1.1 _ hm).1
attribute [local irreducible] Exit.then Exit.inBlock Code.wp WC WO WE WQ V bT vL fP cY eI v8 IntKind.wrap WR Code.rounds WT KO
theorem a7q {Q P:Prop} (k:Q) (h:Hid Q→P:=by
  intro k
  first
  |(refine aI ?_;refine uU (id:=1) (.only [17]) (pl:= .p 0 <| .p 1 <| .p 2 <| .p 5 <| .p 6 <| .p 7 <| .p 10 <| .p 11 <| .p 12 <| .r 3 <| .r 8 <| .r 13 <| .e true [(4,.e true [(9,.e true [(14,.p 15 <| .e true [(16,.e true [(17,.n [] <| .done)])]),(16,.e true [(14,.p 15 <| .e true [(17,.n [] <| .done)])])]),(16,.e true [(9,.e true [(14,.p 15 <| .e true [(17,.n [] <| .done)])])])]),(16,.e true [(4,.e true [(9,.e true [(14,.p 15 <| .e true [(17,.n [] <| .done)])])])])]) k.out)
  |(refine aI ?_;refine uU (id:=2) (.only [9,15]) (pl:= .p 0 <| .p 1 <| .p 2 <| .p 4 <| .p 7 <| .r 3 <| .p 5 <| .r 6 <| .r 8 <| .e true [(9,.n [15] <| .p 10 <| .p 11 <| .p 12 <| .p 13 <| .e true [(14,.e true [(15,.n [] <| .p 16 <| .p 17 <| .done)])]),(14,.e true [(9,.n [15] <| .p 10 <| .p 11 <| .p 12 <| .p 13 <| .e true [(15,.n [] <| .p 16 <| .p 17 <| .done)])])]) k.out)):P:=h ⟨k⟩
theorem e2r {F:List HP} {b:Nat} {c:Cfg} {s:MaS} {x:MaX} {d n:Nat} {j:Int} (hw:c.wf) (hl:MaL c n s) (hn:n≤1000000000000) (hd:(d:Int)<c.homes) (hx:a2v c s x) :
    FnF Tryz.prog 51 [.pointer (some ⟨b,0,none⟩),.int .i64 d,.int .i64 j] [i9 b c s x] F (fun r L'=>r= .bool (kA c s d j)∧L'=[i9 b c (c7 c s d j) x]):=by
  obtain ⟨⟨f1,f2,f3⟩,⟨f4,f5,f6⟩,f7⟩:=id hx
  have hk:d<x.hb.length:=by omega
  have hg:=jT hk
  obtain ⟨hI,ho,ho2⟩:=hl.hmi (i:=(d:Int)) (om) hd
  have eH:bU s (d:Int)=s.hs.getD d a5e:=rfl
  rw [eH] at hI ho ho2
  have hL:=fun F n k=>wY (F:=F) (b:=x.bn) (c:=c) (n:=n) (k:=k)
  have hW:=fun F=>e4f (F:=F) (b:=x.hb[d]) (c:=c) (num:=(d:Int)) (s:=s.hs.getD d a5e) (n:=j) (l:=d1v c s) hI ⟨ho,om⟩
  have hSn:=fun F odd n m=>a8a (F:=F) (b:=b) (c:=c) (odd:=odd) (nk:=x.kb.length) (na:=x.ab.length) (nh:=x.hb.length) (nt:=s.tr.length) (pk:=x.pk) (pa:=x.pa) (ph:=x.ph) (pt:=x.pt) (bn:=x.bn) (n:=n) (m:=m) hw
  refine FnF.mk' Tryz.func51 rfl rfl Tryz.ntmps51 rfl ?_
  refine sI hk fun hf=>?_
  (first|(refine fJ (.slice x.ph.1 x.hb.length x.ph.2) inferInstance (om) ?_;intro _)|(refine fM (.slice x.ph.1 x.hb.length x.ph.2) inferInstance (om) ?_;intro _))
  cases hb:e7 (s.hs.getD d a5e) j (d1v c s) with
  |true=>
   have eS:c7 c s d j=⟨s.ks,s.cs,s.hs.set d (cE c (s.hs.getD d a5e) j (d1v c s)),eJ c s.n (fZ (s.hs.getD d a5e) j (d1v c s)),s.tr,s.odd⟩:=by unfold c7;rw [eH,if_pos hb];rfl
   rw [eS]
   simp only [hb] at hW
   repeat' (first|refine go ?_|intro _|refine a7q ?_|refine dM ?_|refine aD @hL ?_|refine aD @hW ?_|refine aD @hSn ?_|refine nV ?_ ?_|fail)
   all_goals (apply aA rfl rfl bH)
   all_goals first|exact ⟨rfl,rfl⟩|(apply yS;(focus (exact aB));all_goals exact mZ)
  |false=>
   have hbn:¬e7 (s.hs.getD d a5e) j (d1v c s)=true:=by rw [hb];simp
   have eS:c7 c s d j=⟨s.ks,s.cs,s.hs.set d (cE c (s.hs.getD d a5e) j (d1v c s)),s.n,s.tr,s.odd⟩:=by unfold c7;rw [eH,if_neg hbn];rfl
   rw [eS]
   simp only [hb] at hW
   repeat' (first|refine go ?_|intro _|refine a7q ?_|refine dM ?_|refine aD @hL ?_|refine aD @hW ?_|refine aD @hSn ?_|refine nV ?_ ?_|fail)
   all_goals (apply aA rfl rfl bH)
   all_goals first|exact ⟨rfl,rfl⟩|(apply yS;(focus (exact aB));all_goals exact mZ)
end
section
theorem d0e {c:Cfg} {d:Int} {k:HomS} {m:Msg} (h:¬lC c d k m=0):iZ c d k m=k:=by
  unfold lC at h
  unfold iZ
  split
  · rename_i g
    rw [if_pos g] at h
    unfold r7
    rw [if_neg h]
  · rfl
theorem c6y {c:Cfg} {s:MaS} {m:Msg}:dD c s m=⟨s.ks,s.cs.set m.dst.toNat (aS c m.dst (bI s m.dst) m),s.hs,if dP c m.dst (bI s m.dst) m then eJ c s.n (eF c m.dst (bI s m.dst) m) else s.n,s.tr,if bO c m.dst (bI s m.dst) m=0 then s.odd else s.odd+1⟩:=by
  unfold dD j9
  by_cases he:bO c m.dst (bI s m.dst) m=0
  · cases hb:dP c m.dst (bI s m.dst) m<;>simp [he,dX,dZ,dN]
  · cases hb:dP c m.dst (bI s m.dst) m<;>simp [he,dX,dZ,dN]
attribute [local irreducible] Exit.then Exit.inBlock Code.wp WC WO WE WQ V bT vL fP cY eI v8 IntKind.wrap WR Code.rounds WT KO
theorem qF {Q P:Prop} (k:Q) (h:Hid Q→P:=by
  intro k
  first
  |(refine aI ?_;refine uU (id:=4) (.only [12]) (pl:= .p 0 <| .p 1 <| .p 2 <| .p 3 <| .p 4 <| .p 5 <| .p 7 <| .r 6 <| .r 8 <| .p 9 <| .r 10 <| .r 11 <| .e true [(12,.n [] <| .p 13 <| .p 14 <| .p 15 <| .done)]) k.out)
  |(refine aI ?_;refine uU (id:=10) (.only [9]) (pl:= .p 0 <| .p 1 <| .p 2 <| .p 4 <| .r 3 <| .r 5 <| .p 6 <| .r 7 <| .r 8 <| .e true [(9,.n [] <| .p 10 <| .done)]) k.out)
  |(refine aI ?_;refine uU (id:=14) (.only [13]) (pl:= .p 0 <| .p 1 <| .p 2 <| .p 4 <| .r 3 <| .r 5 <| .p 6 <| .r 7 <| .e true [(8,.p 9 <| .p 10 <| .p 11 <| .e true [(12,.e true [(13,.n [] <| .p 14 <| .done)])]),(12,.e true [(8,.p 9 <| .p 10 <| .p 11 <| .e true [(13,.n [] <| .p 14 <| .done)])])]) k.out)
  |(refine aI ?_;refine uU (id:=15) (.only []) (pl:= .p 0 <| .p 1 <| .p 2 <| .r 3 <| .p 4 <| .p 5 <| .p 6 <| .p 7 <| .p 10 <| .r 8 <| .r 11 <| .e true [(9,.p 12 <| .p 13 <| .done)]) k.out)):P:=h ⟨k⟩
theorem e2s {F:List HP} {b:Nat} {c:Cfg} {s:MaS} {x:MaX} {n:Nat} {k j:Int} (hw:c.wf) (hl:MaL c n s) (hx:a2v c s x) (h:gN s.n k j=false∨k=1∧cB c s.n 2=0) :
    FnF Tryz.prog 49 [.pointer (some ⟨b,0,none⟩),.int .i64 k,.int .i64 j] [i9 b c s x] F (fun r L'=>r= .bool (fQ c s k j)∧L'=[i9 b c (d8 c s k j) { x with pt:=x.pt}]):=by
  have eB:fQ c s k j=false:=by unfold fQ;rw [if_pos h]
  have eS:d8 c s k j=s:=by unfold d8;rw [if_pos h]
  rw [eB,eS]
  have hL:=fun F n k=>wY (F:=F) (b:=x.bn) (c:=c) (n:=n) (k:=k)
  have hA:=fun F=>b1j (F:=F) (b:=x.bn) (c:=c) (n:=s.n) (k:=k) (i:=j)
  refine FnF.mk' Tryz.func49 rfl rfl Tryz.ntmps49 rfl ?_
  refine i6 fun hf=>?_
  cases hb:gN s.n k j with
  |false=>
   simp only [hb] at hA
   repeat first|refine go ?_|intro _|refine qF ?_|refine dM ?_|refine aD @hA ?_|refine aD @hL ?_
   (apply aA rfl rfl bH)
   · exact ⟨rfl,rfl⟩
   · refine eV ?_ hf
     exact aB
  |true=>
   rw [hb] at h
   have h':k=1∧cB c s.n 2=0:=h.elim (fun g=>nomatch g) id
   obtain ⟨rfl,h2⟩:=h'
   simp only [hb] at hA
   repeat first|refine go ?_|intro _|refine qF ?_|refine dM ?_|refine aD @hA ?_|refine aD @hL ?_
   (apply aA rfl rfl bH)
   · exact ⟨rfl,rfl⟩
   · refine eV ?_ hf
     exact aB
theorem e2t {F:List HP} {b:Nat} {c:Cfg} {s:MaS} {x:MaX} {n:Nat} {j:Int} (hw:c.wf) (hl:MaL c n s) (hx:a2v c s x) (h:gN s.n 0 j=true) :
    FnF Tryz.prog 49 [.pointer (some ⟨b,0,none⟩),.int .i64 0,.int .i64 j] [i9 b c s x] F (fun r L'=>r= .bool (fQ c s 0 j)∧L'=[i9 b c (d8 c s 0 j) x]):=by
  obtain ⟨⟨f1,f2,f3⟩,⟨f4,f5,f6⟩,f7⟩:=id hx
  have hmem:=hl.nt 0 _ (dQ h)
  have hh:cK (aG s.n 0 j).kind:=by
    have:=hmem.2
    unfold c6 at this
    unfold cK
    split at this
    · exact .inl (by assumption)
    · split at this
      · omega
      · split at this<;>omega
  obtain ⟨d0,d1⟩:=lO hmem.1 hh
  obtain ⟨d,hd⟩:∃ d:Nat,(aG s.n 0 j).dst=d:=⟨(aG s.n 0 j).dst.toNat,om⟩
  have hk:d<x.hb.length:=by omega
  have hg:=jT hk
  have eH:bU s (d:Int)=s.hs.getD d a5e:=rfl
  have hno:¬(gN s.n 0 j=false∨(0:Int)=1∧cB c s.n 2=0):=by rw [h];simp
  have hA:=fun F=>b1j (F:=F) (b:=x.bn) (c:=c) (n:=s.n) (k:=0) (i:=j)
  have hT:=fun F=>a1m (F:=F) (b:=x.bn) (c:=c) (n:=s.n) (k:=0) (i:=j)
  have hAc:=fun F=>c9o (F:=F) (b:=x.hb[d]) (c:=c) (num:=(d:Int)) (s:=s.hs.getD d a5e) (m:=aG s.n 0 j) hw
  simp only [h] at hA
  have eB:fQ c s 0 j=decide (lC c d (s.hs.getD d a5e) (aG s.n 0 j)=0):=by unfold fQ;rw [if_neg hno,if_pos rfl,hd,eH]
  have eS:d8 c s 0 j=if lC c d (s.hs.getD d a5e) (aG s.n 0 j)=0 then ⟨s.ks,s.cs,s.hs.set d (iZ c d (s.hs.getD d a5e) (aG s.n 0 j)),aH s.n 0 j,s.tr,s.odd⟩ else ⟨s.ks,s.cs,s.hs.set d (s.hs.getD d a5e),s.n,s.tr,s.odd⟩:=by
    unfold d8;rw [if_neg hno,if_pos rfl,hd,eH,bP];rfl
  rw [eB,eS]
  clear eB eS
  generalize hm:aG s.n 0 j=m at *
  obtain ⟨mk,ml,ms,md,mw,mac',mo,mww⟩:=m
  dsimp only at hd
  subst hd
  by_cases he:lC c d (s.hs.getD d a5e) ⟨mk,ml,ms,d,mw,mac',mo,mww⟩=0
  · rw [if_pos he,decide_eq_true he]
    simp only [he] at hAc
    refine FnF.mk' Tryz.func49 rfl rfl Tryz.ntmps49 rfl ?_
    refine sI hk fun hf=>?_
    (first|(refine fJ (.slice x.ph.1 x.hb.length x.ph.2) inferInstance (om) ?_;intro _)|(refine fM (.slice x.ph.1 x.hb.length x.ph.2) inferInstance (om) ?_;intro _))
    repeat first|refine go ?_|intro _|refine qF ?_|refine dM ?_|refine aD @hA ?_|refine aD @hAc ?_|refine aD @hT ?_
    (apply aA rfl rfl bH)
    · exact ⟨rfl,rfl⟩
    · (apply yS;(focus (exact aB));all_goals exact mZ)
  · have eK:iZ c d (s.hs.getD d a5e) ⟨mk,ml,ms,d,mw,mac',mo,mww⟩=s.hs.getD d a5e:=d0e he
    rw [if_neg he,decide_eq_false he]
    simp only [eK] at hAc
    refine FnF.mk' Tryz.func49 rfl rfl Tryz.ntmps49 rfl ?_
    refine sI hk fun hf=>?_
    (first|(refine fJ (.slice x.ph.1 x.hb.length x.ph.2) inferInstance (om) ?_;intro _)|(refine fM (.slice x.ph.1 x.hb.length x.ph.2) inferInstance (om) ?_;intro _))
    repeat first|refine go ?_|intro _|refine qF ?_|refine dM ?_|refine aD @hA ?_|refine aD @hAc ?_|refine aD @hT ?_
    (apply aA rfl rfl bH)
    · exact ⟨rfl,rfl⟩
    · (apply yS;(focus (exact aB));all_goals exact mZ)
theorem e2u {F:List HP} {b:Nat} {c:Cfg} {s:MaS} {x:MaX} {n:Nat} {j:Int} (hw:c.wf) (hl:MaL c n s) (hn:n≤1000000000000) (hx:a2v c s x) (h:gN s.n 1 j=true) (h2:cB c s.n 2≠0) :
    FnF Tryz.prog 49 [.pointer (some ⟨b,0,none⟩),.int .i64 1,.int .i64 j] [i9 b c s x] F (fun r L'=>r= .bool (fQ c s 1 j)∧L'=[i9 b c (d8 c s 1 j) { x with pt:=x.pt}]):=by
  obtain ⟨⟨f1,f2,f3⟩,⟨f4,f5,f6⟩,f7⟩:=id hx
  have hmem:=hl.nt 1 _ (dQ h)
  have hk':=hmem.2
  obtain ⟨d0,d1⟩:=kY hmem.1 (by unfold c6 at hk';unfold cK;split at hk'<;>(try split at hk')<;>(try split at hk')<;>omega)
  obtain ⟨i,hd⟩:∃ i:Nat,(aG s.n 1 j).dst=i:=⟨(aG s.n 1 j).dst.toNat,om⟩
  have hk:i<x.kb.length:=by omega
  have ha:i<x.ab.length:=by omega
  have eA:bI s (i:Int)=s.cs.getD i caZ:=rfl
  have hX:=hl.cai (i:Int)
  have ho:=hl.od
  have hno:¬(gN s.n 1 j=false∨(1:Int)=1∧cB c s.n 2=0):=by rw [h];simp [h2]
  have hA:=fun F=>b1j (F:=F) (b:=x.bn) (c:=c) (n:=s.n) (k:=1) (i:=j)
  have hL:=fun F=>wY (F:=F) (b:=x.bn) (c:=c) (n:=s.n) (k:=2)
  have hT:=fun F=>a1m (F:=F) (b:=x.bn) (c:=c) (n:=s.n) (k:=1) (i:=j)
  have hAn:=fun F=>a4s (F:=F) (b:=b) (c:=c) (odd:=s.odd) (nk:=x.kb.length) (nh:=x.hb.length) (nt:=s.tr.length) (pk:=x.pk) (pa:=x.pa) (ph:=x.ph) (pt:=x.pt) (bn:=x.bn) (ab:=x.ab) (a:=s.cs.getD i caZ) (n:=aH s.n 1 j) (m:=aG s.n 1 j) hw ha hd ⟨ho.1,om⟩ (d7w hX hn)
  simp only [h] at hA
  have eB:fQ c s 1 j=true:=by unfold fQ;rw [if_neg hno,if_neg (by decide)]
  have eS:d8 c s 1 j=⟨s.ks.set i (s.ks.getD i coZ),s.cs.set i (aS c i (s.cs.getD i caZ) (aG s.n 1 j)),s.hs,if dP c i (s.cs.getD i caZ) (aG s.n 1 j) then eJ c (aH s.n 1 j) (eF c i (s.cs.getD i caZ) (aG s.n 1 j)) else aH s.n 1 j,s.tr,if bO c i (s.cs.getD i caZ) (aG s.n 1 j)=0 then s.odd else s.odd+1⟩:=by
    unfold d8;rw [if_neg hno,if_neg (by decide),if_pos rfl,c6y,hd,bP];rfl
  rw [eB,eS]
  refine FnF.mk' Tryz.func49 rfl rfl Tryz.ntmps49 rfl ?_
  refine mI hk ha fun hf=>?_
  repeat first|refine go ?_|intro _|refine qF ?_|refine dM ?_|refine aD @hA ?_|refine aD @hL ?_|refine aD @hT ?_|refine aD @hAn ?_
  (apply aA rfl rfl bH)
  · exact ⟨rfl,rfl⟩
  · (apply fH;(focus (exact aB));all_goals exact mZ)
end
section
def f5i (c:Cfg) (t:MaS) (d L:Int):Prop:=∀ line,aL c line=true→LI (fA c t line)∧∀ r m,(fA c t line).ms r=some m→m.needs=m.got→m.ow=true∨(line=L∧r=d)
section
variable {c:Cfg} {n:Nat} {s:MaS} {line j k:Int}
theorem d4o {t:MaS} {d L:Int} {m:AMs Words} (h:f5i c t d L) (hx:lD c n (bI t d)) (h0:0≤d) (h1:d<t.cs.length) (hm:yB (bI t d) L=some m) (how:m.ow=false) (hn:m.needs≠ -1) (hown:0≤m.own∧m.own≤4):c4u c (dN t d (cC c (bI t d) L)):=by
  intro line hline
  obtain ⟨hLI,hNF⟩:=h line hline
  obtain ⟨v1,v2,v3,v4⟩:=e0o (c:=c) (s:=t) (line:=line) h0
  by_cases hg:m.needs=m.got
  · have ev:=c6t hx hm hg how hown
    have hp:=xR (c:=c) (s:=t) (s':=dN t d (cC c (bI t d) L)) (line:=line) h0 h1 rfl ev
    by_cases hL:line=L
    · subst hL
      rw [if_pos rfl,if_pos rfl,if_pos rfl] at hp
      refine ⟨e3i (r:=d) (m:=m) hLI (by rw [v3];exact hm) hn hg how hp.st (fun x hx=>?_) hp.ms (d7 hp.bf v4.symm) (List.Perm.refl _) (List.Perm.refl _) rfl rfl (fun _=>rfl) rfl rfl,fun r m' hm' hn'=>?_⟩
      · rw [hp.wd x hx,v2]
      · have e:=(hp.ms r).symm.trans hm'
        by_cases hr:r=d
        · rw [if_pos hr] at e;cases e;rfl
        · rw [if_neg hr] at e
          rcases hNF r m' e hn' with g|g
          · exact g
          · exact absurd g.2 hr
    · rw [if_neg hL,if_neg hL,if_neg hL] at hp
      have hN:NF (fA c t line):=fun r m' hm' hn'=>by
        rcases hNF r m' hm' hn' with g|g
        · exact g
        · exact absurd g.1 hL
      exact oU h0 hp rfl rfl rfl rfl rfl rfl (List.Perm.refl _) (List.Perm.refl _) ⟨hLI,hN⟩
  · rw [a3h hm (.inl hg),a9a]
    refine ⟨hLI,fun r m' hm' hn'=>?_⟩
    rcases hNF r m' hm' hn' with g|⟨g1,g2⟩
    · exact g
    · subst g1 g2
      rw [v3,hm] at hm'
      cases hm'
      exact absurd hn' hg
structure Tk2 (c:Cfg) (s s':MaS) (j:Int) (m:Msg) (k':CaS):Prop where
  cs:s'.cs=(dN s m.dst k').cs
  hs:s'.hs=s.hs
  tr:s'.tr=s.tr
  n:s'.n=aH s.n 2 j
theorem b1q {s':MaS} {m:Msg} {k':CaS} (h:Tk2 c s s' j m k') (hb:gN s.n 2 j=true):(fA c s' line).rq.Perm (fA c s line).rq:=by
  have hH:aN c s' line=aN c s line:=by unfold aN bU;rw [h.hs]
  show (e9c line s'.n (aN c s' line).q).Perm _
  rw [h.n,hH]
  exact (lE (c:=c) (line:=line) hb (.inr rfl)).1.symm
theorem a2m {s':MaS} {m:Msg} {k':CaS} (h:Tk2 c s s' j m k') (hb:gN s.n 2 j=true) (hm:aG s.n 2 j=m):(fA c s line).fly.Perm (if m.line=line then qM m::(fA c s' line).fly else (fA c s' line).fly):=by
  have hH:aN c s' line=aN c s line:=by unfold aN bU;rw [h.hs]
  have:=(lE (c:=c) (line:=line) hb (.inr rfl)).2
  rw [hm] at this
  have e:(fA c s' line).fly=sM line (aH s.n 2 j) (aN c s line).q:=by
    show sM line s'.n (aN c s' line).q=_
    rw [h.n,hH]
  rw [e];exact this
theorem a1p {s':MaS} {m:Msg} {k':CaS} (h:Tk2 c s s' j m k'):(fA c s' line).act=(fA c s line).act∧(fA c s' line).o=(fA c s line).o∧(∀ x,(fA c s' line).sh x=(fA c s line).sh x)∧(fA c s' line).mem=(fA c s line).mem∧(fA c s' line).now=(fA c s line).now:=by
  have hH:aN c s' line=aN c s line:=by unfold aN bU;rw [h.hs]
  refine ⟨?_,?_,fun x=>?_,?_,?_⟩
  · show gZ line (aN c s' line).q=_;rw [hH];rfl
  · show (aR (aN c s' line) line).o=_;rw [hH];rfl
  · show cS (aR (aN c s' line) line).s x=_;rw [hH];rfl
  · show aJ c (aN c s' line).ms line=_;rw [hH];rfl
  · show aJ c (iL c s'.tr) line=_;rw [h.tr];rfl
theorem c0i {v:LV Words} (h:LI v) {d own acks:Int} {w:Words} (hx: .data d own acks w∈v.fly):∃ a,v.ms d=some a∧a.needs= -1∧a.ow=false∧a.got≤acks∧((a.kind=2∧own=4)∨(a.kind=1∧acks=0∧(own=1∨own=2))):=by
  obtain ⟨k0,r0,a,h1,h2,h3,h4,h5,h6,h7,h8,h9,h10,h11,h12⟩:=mG h hx rfl
  have e1:d=r0:=h12
  have e2:acks=a.got+v.ci:=h11
  subst e1
  refine ⟨a,h3,h5,h6,om,?_⟩
  rcases (h.aK _ _ h1).1 with rfl|rfl
  · right
    rcases h.f1 _ h1 _ hx with ⟨_,g⟩|⟨_,g⟩|⟨_,_,g,g2⟩|g
    · cases g
    · cases g
    · cases g;exact ⟨h4,rfl,g2⟩
    · cases g
  · left
    rcases h.f2 _ h1 _ hx with ⟨_,g⟩|⟨_,_,g⟩|⟨_,_,g⟩|⟨_,g⟩|⟨_,g⟩|g|g
    all_goals first|(cases g;exact ⟨h4,rfl⟩)|cases g
theorem a7r {v:LV Words} (h:LI v) {d acks:Int} (hx: .grant d acks∈v.fly):∃ a,v.ms d=some a∧a.needs= -1∧a.ow=false∧a.got≤acks∧a.kind=2∧v.st d=3:=by
  obtain ⟨k0,r0,a,h1,h2,h3,h4,h5,h6,h7,h8,h9,h10,h11,h12⟩:=mG h hx rfl
  have e1:d=r0:=h12
  have e2:acks=a.got+v.ci:=h11
  subst e1
  refine ⟨a,h3,h5,h6,om,?_,(h.tg _ _ hx).1⟩
  rcases (h.aK _ _ h1).1 with rfl|rfl
  · exfalso
    rcases h.f1 _ h1 _ hx with ⟨_,g⟩|⟨_,g⟩|⟨_,_,g,_⟩|g<;>cases g
  · exact h4
theorem c0j {v:LV Words} (h:LI v) {d:Int} (hx: .ack d∈v.fly):∃ a,v.ms d=some a∧a.ow=false∧a.kind=2∧a.needs≠a.got∧(a.needs≠ -1→a.own=4)∧0≤a.got:=by
  have hi:=b6t hx rfl
  have hact:v.act=some (2,d):=by
    cases e:v.act with
    |none=>obtain ⟨_,g⟩:=h.f0 e _ hx;cases g
    |some a=>
     obtain ⟨k0,r0⟩:=a
     rcases (h.aK _ _ e).1 with rfl|rfl
     · rcases h.f1 _ e _ hx with ⟨_,g⟩|⟨_,g⟩|⟨_,_,g,_⟩|g<;>cases g
     · rcases h.f2 _ e _ hx with ⟨_,g⟩|⟨_,_,g⟩|⟨_,_,g⟩|⟨_,g⟩|⟨_,g⟩|g|g
       all_goals first|(cases g;rfl)|cases g
  rcases h.p _ _ hact with ⟨a,g1,g2,g3,g4,g5,g6,g7,g8,g9⟩|⟨a,g1,g2,g3,g4,g5,g6,g7,g8,g9,g10⟩|⟨a,g1,g2,g3,g4,g5,g6,g7,g8,g9⟩|⟨g1,g2,g3⟩
  · exact ⟨a,g1,g5,g2,om,fun e=>absurd g3 e,g4⟩
  · exact ⟨a,g1,g5,g2,om,fun _=>g9 rfl,g3⟩
  · omega
  · omega
theorem b0e {t:MaS} {m:Msg} {k':CaS} {a':AMs Words} (h:c4u c s) (hl:MaL c n s) (hb:gN s.n 2 j=true) (hm:aG s.n 2 j=m) (hd:0≤m.dst∧m.dst<c.cores) (ht:Tk2 c s t j m k')
    (ev:CaEv c (bI s m.dst) k' (a0o c (bI s m.dst)) (b6v c (bI s m.dst)) (fun x=>if x=m.line then some a' else yB (bI s m.dst) x) (b4j (bI s m.dst)))
    (hli:aL c m.line=true→LI (fA c s m.line)→(∀ x,(fA c t m.line).st x=(fA c s m.line).st x)→(∀ x,(fA c t m.line).st x≠0→(fA c t m.line).wd x=(fA c s m.line).wd x)→(∀ x,(fA c t m.line).ms x=if x=m.dst then some a' else (fA c s m.line).ms x)→(∀ x,(fA c t m.line).bf x=(fA c s m.line).bf x)→LI (fA c t m.line)):f5i c t m.dst m.line:=by
  intro line hline
  obtain ⟨hLI,hNF⟩:=h line hline
  obtain ⟨v1,v2,v3,v4⟩:=e0o (c:=c) (s:=s) (line:=line) hd.1
  have hp:=xR (c:=c) (s:=s) (s':=t) (line:=line) hd.1 (rH hl hd) ht.cs ev
  have hq:=b1q (c:=c) (line:=line) ht hb
  have hf:=a2m (c:=c) (line:=line) ht hb hm
  by_cases hL:line=m.line
  · subst hL
    rw [if_pos rfl] at hp
    refine ⟨hli hline hLI (d7 hp.st v1.symm) (fun x hx=>?_) hp.ms (d7 hp.bf v4.symm),fun r m' hm' hn=>?_⟩
    · refine (hp.wd x hx).trans ?_
      split
      · rename_i g;rw [g,v2]
      · rfl
    · have e:=(hp.ms r).symm.trans hm'
      by_cases hr:r=m.dst
      · exact .inr ⟨rfl,hr⟩
      · rw [if_neg hr] at e
        exact .inl (hNF r m' e hn)
  · rw [if_neg hL] at hp
    rw [if_neg (fun g=>hL g.symm)] at hf
    have:=oU hd.1 hp rfl rfl rfl rfl ht.hs (by rw [ht.tr]) hq hf.symm ⟨hLI,hNF⟩
    exact ⟨this.1,fun r m' hm' hn=> .inl (this.2 r m' hm' hn)⟩
theorem pA (m:Msg) (k':CaS):Tk2 c s (dN (dZ s (aH s.n 2 j)) m.dst k') j m k':=⟨rfl,rfl,rfl,rfl⟩
theorem f2m (t:MaS) (d:Int) (k1 k2:CaS):dN (dN t d k1) d k2=dN t d k2:=by unfold dN;simp only [List.set_set]
theorem e6y (hl:MaL c n s) {d:Int} (hd:0≤d∧d<c.cores) (k':CaS):bI (dN (dZ s (aH s.n 2 j)) d k') d=k':=by
  have:=rH hl hd
  show (s.cs.set d.toNat k').getD d.toNat caZ=k'
  rw [List.getD_eq_getElem?_getD,List.getElem?_set_self (om)];rfl
theorem b5l (hl:MaL c n s) {m:Msg} {k1:CaS} {a':AMs Words} (hd:0≤m.dst∧m.dst<c.cores) (hx:lD c (n+1) k1) (h:f5i c (dN (dZ s (aH s.n 2 j)) m.dst k1) m.dst m.line) (hm:yB k1 m.line=some a') (how:a'.ow=false) (hn:a'.needs≠ -1) (hown:0≤a'.own∧a'.own≤4) :
    c4u c (dN (dZ s (aH s.n 2 j)) m.dst (cC c k1 m.line)):=by
  have e:=e6y (j:=j) hl hd k1
  have:=d4o (t:=dN (dZ s (aH s.n 2 j)) m.dst k1) (d:=m.dst) (L:=m.line) (n:=n+1) h (by rw [e];exact hx) hd.1 (by show m.dst<((s.cs.set _ _).length:Int);rw [List.length_set];exact rH hl hd) (by rw [e];exact hm) how hn hown
  rw [e,f2m] at this
  exact this
theorem uZ {m:Msg} (h:fG c m):aL c m.line=true:=by unfold aL;rw [h.1,decide_eq_true h.2.2.1];rfl
theorem d4p {m:Msg} (h:c4u c s) (hl:MaL c n s) (hb:gN s.n 2 j=true) (hm:aG s.n 2 j=m) (hk:m.kind=7):bO c m.dst (bI s m.dst) m=0∧c4u c (dN (dZ s (aH s.n 2 j)) m.dst (aS c m.dst (bI s m.dst) m)):=by
  have hmay:=(hl.nt 2 _ (dQ hb)).1
  rw [hm] at hmay
  have hd:=kY hmay (by unfold cK;omega)
  have hlok:=uZ hmay
  have hA:qM m= .data m.dst m.own m.acks m.words:=by
    unfold qM
    rw [if_neg (om),if_neg (om),if_neg (om),if_neg (om),if_neg (om),if_pos hk]
  have hf:=(lE (c:=c) (line:=m.line) hb (.inr rfl)).2
  rw [hm,if_pos rfl,hA] at hf
  obtain ⟨a,a1,a2,a3,a4,a5⟩:=c0i (h _ hlok).1 (hf.mem_iff.2 (List.mem_cons_self ..))
  obtain ⟨v1,v2,v3,v4⟩:=e0o (c:=c) (s:=s) (line:=m.line) hd.1
  have a1':yB (bI s m.dst) m.line=some a:=v3.symm.trans a1
  obtain ⟨hE,ev⟩:=a9z (c:=c) (w:=m.words) a1' a2 a4 a5
  have hok:=uX hmay (om)
  have hacks:0≤m.acks:=by
    have h4:=hmay.2.2.2.1
    unfold jY at h4
    rw [if_neg (by unfold cK;omega),if_neg (om),if_neg (om),if_pos hk] at h4
    exact h4.2.1.1
  have hE7:a6b (iV (bI s m.dst).mis m.line m.acks m.own)=0:=by rw [hE];rfl
  have hK:aS c m.dst (bI s m.dst) m=cC c ⟨(bI s m.dst).ways,iW (bI s m.dst).mis m.line m.acks m.own m.words,(bI s m.dst).buf⟩ m.line:=by
    unfold aS lH
    rw [if_pos hok,if_neg (om),if_neg (om),if_neg (om),if_pos hk,if_pos hE]
  refine ⟨by unfold bO;rw [if_pos hok,if_neg (om),if_neg (om),if_pos hk,hE7],?_⟩
  rw [hK]
  have hx:=hl.cai m.dst
  have hx':lD c (n+1) ⟨(bI s m.dst).ways,iW (bI s m.dst).mis m.line m.acks m.own m.words,(bI s m.dst).buf⟩:=
    ⟨⟨hx.1.1,hx.1.2.1,b6j (fun m hm=>vG (Nat.le_succ n) (hx.1.2.2 m hm))⟩,by
      have:=hx.2.1
      unfold c1v iI at this ⊢
      dsimp only
      rw [a9h];exact this,hx.2.2.1,b5f hx.2.2.2.1 (a9w hmay),hx.2.2.2.2⟩
  refine b5l (a':={ a with needs:=m.acks,own:=m.own,w:=m.words}) hl hd hx' ?_ (by rw [ev.ms,if_pos rfl]) a3 (by show m.acks≠ -1;omega) (by show 0≤m.own∧m.own≤4;omega)
  refine b0e h hl hb hm hd (pA m _) ev fun _ hLI hst hwd hms hbf=>?_
  obtain ⟨r1,r2,r3,r4,r5⟩:=a1p (c:=c) (line:=m.line) (pA (c:=c) (s:=s) (j:=j) m ⟨(bI s m.dst).ways,iW (bI s m.dst).mis m.line m.acks m.own m.words,(bI s m.dst).buf⟩)
  have hfly:=a2m (c:=c) (line:=m.line) (pA (c:=c) (s:=s) (j:=j) m ⟨(bI s m.dst).ways,iW (bI s m.dst).mis m.line m.acks m.own m.words,(bI s m.dst).buf⟩) hb hm
  rw [if_pos rfl,hA] at hfly
  exact e2b hLI a1 hst hwd hms hbf (b1q (pA m _) hb) hfly (List.Perm.refl _) r1 r2 r3 r4 r5
theorem d0f {m:Msg} (h:c4u c s) (hl:MaL c n s) (hb:gN s.n 2 j=true) (hm:aG s.n 2 j=m) (hk:m.kind=8):bO c m.dst (bI s m.dst) m=0∧c4u c (dN (dZ s (aH s.n 2 j)) m.dst (aS c m.dst (bI s m.dst) m)):=by
  have hmay:=(hl.nt 2 _ (dQ hb)).1
  rw [hm] at hmay
  have hd:=kY hmay (by unfold cK;omega)
  have hlok:=uZ hmay
  have hA:qM m= .grant m.dst m.acks:=by
    unfold qM
    rw [if_neg (om),if_neg (om),if_neg (om),if_neg (om),if_neg (om),if_neg (om),if_pos hk]
  have hf:=(lE (c:=c) (line:=m.line) hb (.inr rfl)).2
  rw [hm,if_pos rfl,hA] at hf
  obtain ⟨a,a1,a2,a3,a4,a5,a6⟩:=a7r (h _ hlok).1 (hf.mem_iff.2 (List.mem_cons_self ..))
  obtain ⟨v1,v2,v3,v4⟩:=e0o (c:=c) (s:=s) (line:=m.line) hd.1
  have a1':yB (bI s m.dst) m.line=some a:=v3.symm.trans a1
  obtain ⟨hE,ev⟩:=b3f (c:=c) a1' a2 a4 a5
  have hok:=uX hmay (om)
  have hacks:0≤m.acks:=by
    have h4:=hmay.2.2.2.1
    unfold jY at h4
    rw [if_neg (by unfold cK;omega),if_neg (om),if_neg (om),if_neg (om),if_pos hk] at h4
    exact h4.2.2.2.2.1
  have h3:(aP c (bI s m.dst).ways m.line).st=3:=v1.symm.trans a6
  have hG:a5i c (bI s m.dst) m=0:=by unfold a5i;rw [if_pos h3,hE];rfl
  have hK:aS c m.dst (bI s m.dst) m=cC c ⟨(bI s m.dst).ways,gL (bI s m.dst).mis m.line m.acks,(bI s m.dst).buf⟩ m.line:=by
    unfold aS sC
    rw [if_pos hok,if_neg (om),if_neg (om),if_neg (om),if_neg (om),if_pos hk,if_pos hG]
  refine ⟨by unfold bO;rw [if_pos hok,if_neg (om),if_neg (om),if_neg (om),if_pos hk,hG],?_⟩
  rw [hK]
  have hx:=hl.cai m.dst
  have hx':lD c (n+1) ⟨(bI s m.dst).ways,gL (bI s m.dst).mis m.line m.acks,(bI s m.dst).buf⟩:=
    ⟨⟨hx.1.1,hx.1.2.1,b0z (fun m hm=>vG (Nat.le_succ n) (hx.1.2.2 m hm))⟩,by
      have:=hx.2.1
      unfold c1v iI at this ⊢
      dsimp only
      rw [a2b];exact this,hx.2.2.1,a9v hx.2.2.2.1,hx.2.2.2.2⟩
  refine b5l (a':={ a with needs:=m.acks,own:=4,w:= .zero,gr:=true}) hl hd hx' ?_ (by rw [ev.ms,if_pos rfl]) a3 (by show m.acks≠ -1;omega) (by show (0:Int)≤4∧(4:Int)≤4;omega)
  refine b0e h hl hb hm hd (pA m _) ev fun _ hLI hst hwd hms hbf=>?_
  obtain ⟨r1,r2,r3,r4,r5⟩:=a1p (c:=c) (line:=m.line) (pA (c:=c) (s:=s) (j:=j) m ⟨(bI s m.dst).ways,gL (bI s m.dst).mis m.line m.acks,(bI s m.dst).buf⟩)
  have hfly:=a2m (c:=c) (line:=m.line) (pA (c:=c) (s:=s) (j:=j) m ⟨(bI s m.dst).ways,gL (bI s m.dst).mis m.line m.acks,(bI s m.dst).buf⟩) hb hm
  rw [if_pos rfl,hA] at hfly
  exact d3m hLI a1 hst hwd hms hbf (b1q (pA m _) hb) hfly (List.Perm.refl _) r1 r2 r3 r4 r5
theorem e2v {m:Msg} (h:c4u c s) (hl:MaL c n s) (hb:gN s.n 2 j=true) (hm:aG s.n 2 j=m) (hk:m.kind=9):bO c m.dst (bI s m.dst) m=0∧c4u c (dN (dZ s (aH s.n 2 j)) m.dst (aS c m.dst (bI s m.dst) m)):=by
  have hmay:=(hl.nt 2 _ (dQ hb)).1
  rw [hm] at hmay
  have hd:=kY hmay (by unfold cK;omega)
  have hlok:=uZ hmay
  have hA:qM m= .ack m.dst:=by
    unfold qM
    rw [if_neg (om),if_neg (om),if_neg (om),if_neg (om),if_neg (om),if_neg (om),if_neg (om),if_pos hk]
  have hf:=(lE (c:=c) (line:=m.line) hb (.inr rfl)).2
  rw [hm,if_pos rfl,hA] at hf
  obtain ⟨a,a1,a3,a5,a4,a7,a8⟩:=c0j (h _ hlok).1 (hf.mem_iff.2 (List.mem_cons_self ..))
  obtain ⟨v1,v2,v3,v4⟩:=e0o (c:=c) (s:=s) (line:=m.line) hd.1
  have a1':yB (bI s m.dst) m.line=some a:=v3.symm.trans a1
  obtain ⟨hE,ev⟩:=c6s (c:=c) a1' (om) a4
  have hok:=uX hmay (om)
  have hK:aS c m.dst (bI s m.dst) m=cC c ⟨(bI s m.dst).ways,nS (bI s m.dst).mis m.line,(bI s m.dst).buf⟩ m.line:=by
    unfold aS pB
    rw [if_pos hok,if_neg (om),if_neg (om),if_neg (om),if_neg (om),if_neg (om),if_pos hk,if_pos hE]
  refine ⟨by unfold bO;rw [if_pos hok,if_neg (om),if_neg (om),if_neg (om),if_neg (om),if_pos hk,hE];rfl,?_⟩
  rw [hK]
  have hx:=hl.cai m.dst
  have hx':lD c (n+1) ⟨(bI s m.dst).ways,nS (bI s m.dst).mis m.line,(bI s m.dst).buf⟩:=
    ⟨⟨hx.1.1,hx.1.2.1,c5o hx.1.2.2⟩,by
      have:=hx.2.1
      unfold c1v iI at this ⊢
      dsimp only
      rw [b7q];exact this,hx.2.2.1,c5c hx.2.2.2.1,hx.2.2.2.2⟩
  have hX:f5i c (dN (dZ s (aH s.n 2 j)) m.dst ⟨(bI s m.dst).ways,nS (bI s m.dst).mis m.line,(bI s m.dst).buf⟩) m.dst m.line:=by
    refine b0e h hl hb hm hd (pA m _) ev fun _ hLI hst hwd hms hbf=>?_
    obtain ⟨r1,r2,r3,r4,r5⟩:=a1p (c:=c) (line:=m.line) (pA (c:=c) (s:=s) (j:=j) m ⟨(bI s m.dst).ways,nS (bI s m.dst).mis m.line,(bI s m.dst).buf⟩)
    have hfly:=a2m (c:=c) (line:=m.line) (pA (c:=c) (s:=s) (j:=j) m ⟨(bI s m.dst).ways,nS (bI s m.dst).mis m.line,(bI s m.dst).buf⟩) hb hm
    rw [if_pos rfl,hA] at hfly
    exact e8l hLI a1 hst hwd hms hbf (b1q (pA m _) hb) hfly (List.Perm.refl _) r1 r2 r3 r4 r5
  have hc2:yB (⟨(bI s m.dst).ways,nS (bI s m.dst).mis m.line,(bI s m.dst).buf⟩:CaS) m.line=some { a with got:=a.got+1}:=by rw [ev.ms,if_pos rfl]
  by_cases hn1:a.needs= -1
  · have e:=e6y (j:=j) hl hd ⟨(bI s m.dst).ways,nS (bI s m.dst).mis m.line,(bI s m.dst).buf⟩
    have hno:cC c ⟨(bI s m.dst).ways,nS (bI s m.dst).mis m.line,(bI s m.dst).buf⟩ m.line=⟨(bI s m.dst).ways,nS (bI s m.dst).mis m.line,(bI s m.dst).buf⟩:=a3h hc2 (.inl (by show a.needs≠a.got+1;omega))
    rw [hno]
    intro line hline
    obtain ⟨g1,g2⟩:=hX line hline
    refine ⟨g1,fun r m' hm' hn'=>?_⟩
    rcases g2 r m' hm' hn' with g|⟨e1,e2⟩
    · exact g
    · subst e1 e2
      have:=(e0o (c:=c) (s:=dN (dZ s (aH s.n 2 j)) m.dst ⟨(bI s m.dst).ways,nS (bI s m.dst).mis m.line,(bI s m.dst).buf⟩) (line:=m.line) hd.1).2.2.1
      rw [this,e,hc2] at hm'
      cases hm'
      have:a.needs=a.got+1:=hn'
      omega
  · exact b5l (a':={ a with got:=a.got+1}) hl hd hx' hX hc2 a3 hn1 (by have:=a7 hn1;show 0≤a.own∧a.own≤4;omega)
theorem d4q {m:Msg} (h:c4u c s) (hl:MaL c n s) (hb:gN s.n 2 j=true) (hm:aG s.n 2 j=m) (hk:m.kind=10):bO c m.dst (bI s m.dst) m=0∧c4u c (dN (dZ s (aH s.n 2 j)) m.dst (aS c m.dst (bI s m.dst) m)):=by
  have hmay:=(hl.nt 2 _ (dQ hb)).1
  rw [hm] at hmay
  have hd:=kY hmay (by unfold cK;omega)
  have hlok:=uZ hmay
  have hA:qM m= .pack m.dst:=by
    unfold qM
    rw [if_neg (om),if_neg (om),if_neg (om),if_neg (om),if_neg (om),if_neg (om),if_neg (om),if_neg (om),if_pos hk]
  have hf:=(lE (c:=c) (line:=m.line) hb (.inr rfl)).2
  rw [hm,if_pos rfl,hA] at hf
  have hx:=hf.mem_iff.2 (List.mem_cons_self ..)
  have hin:lJ (bI s m.dst).buf m.line=true:=by
    cases e:lJ (bI s m.dst).buf m.line with
    |true=>rfl
    |false=>
     have hb0:(fA c s m.line).bf m.dst=none:=by rw [(e0o (c:=c) (s:=s) (line:=m.line) hd.1).2.2.2];unfold b4j;rw [c2v e];rfl
     have:=((h _ hlok).1.b0 _ hb0).2
     have h1:1≤(fA c s m.line).ck m.dst:=rQ hx (by unfold o8;exact decide_eq_true rfl)
     omega
  have hok:=uX hmay (om)
  have hK:aS c m.dst (bI s m.dst) m=b2g (bI s m.dst) m.line:=by
    unfold aS
    rw [if_pos hok,if_neg (om),if_neg (om),if_neg (om),if_neg (om),if_neg (om),if_neg (om)]
  refine ⟨by unfold bO;rw [if_pos hok,if_neg (om),if_neg (om),if_neg (om),if_neg (om),if_neg (om)];unfold qQ;rw [if_pos hin];rfl,?_⟩
  rw [hK]
  have ev:=e2l (line:=m.line) (hl.cai m.dst)
  have ht:=pA (c:=c) (s:=s) (j:=j) m (b2g (bI s m.dst) m.line)
  intro line hline
  obtain ⟨hLI,hNF⟩:=h line hline
  obtain ⟨v1,v2,v3,v4⟩:=e0o (c:=c) (s:=s) (line:=line) hd.1
  have hp:=xR (c:=c) (s:=s) (line:=line) hd.1 (rH hl hd) ht.cs ev
  have hq:=b1q (c:=c) (line:=line) ht hb
  have hff:=a2m (c:=c) (line:=line) ht hb hm
  by_cases hL:line=m.line
  · subst hL
    rw [if_pos rfl] at hp
    rw [if_pos rfl,hA] at hff
    obtain ⟨r1,r2,r3,r4,r5⟩:=a1p (c:=c) (line:=m.line) ht
    have hms:=d7 hp.ms v3.symm
    refine ⟨e3j hLI (d7 hp.st v1.symm) (fun x hx=>?_) hms hp.bf hq hff (List.Perm.refl _) r1 r2 r3 r4 r5,fun r m' hm' hn=>hNF r m' (by rw [←hms];exact hm') hn⟩
    refine (hp.wd x hx).trans ?_
    split
    · rename_i g;rw [g,v2]
    · rfl
  · rw [if_neg hL] at hp
    rw [if_neg (fun g=>hL g.symm)] at hff
    exact oU hd.1 hp rfl rfl rfl rfl ht.hs (by rw [ht.tr]) hq hff.symm ⟨hLI,hNF⟩
end
end
section
section
variable {c:Cfg} {n:Nat} {s:MaS} {line j k:Int}
theorem e2w {m:Msg} (h:c4u c s) (hl:MaL c n s) (hb:gN s.n 1 j=true) (h2:cB c s.n 2≠0) (hm:aG s.n 1 j=m) (hk:m.kind=6) :
    bO c m.dst (bI s m.dst) m=0∧c4u c (dD c (dZ s (aH s.n 1 j)) m):=by
  have hmay:=(hl.nt 1 _ (dQ hb)).1
  rw [hm] at hmay
  obtain ⟨hd,hw,hwd,ha0,ha1,hlok⟩:=b3d hmay (om)
  have hA:qM m= .inv m.dst m.who:=by
    unfold qM
    rw [if_neg (om),if_neg (om),if_neg (om),if_neg (om),if_pos hk]
  have hf0:=(lE (c:=c) (line:=m.line) hb (.inl rfl)).2
  rw [hm,if_pos rfl,hA] at hf0
  obtain ⟨_,hst2⟩:=(h _ hlok).1.iv _ _ (hf0.mem_iff.2 (List.mem_cons_self ..))
  rw [(e0o (c:=c) (s:=s) (line:=m.line) hd.1).1] at hst2
  have hI:s9 c (bI s m.dst) m.line=0:=by
    unfold s9
    rw [if_neg (by show ¬2≤a0o c (bI s m.dst) m.line;omega)]
  have hok:=uX hmay (om)
  have hE:bO c m.dst (bI s m.dst) m=0:=by unfold bO;rw [if_pos hok,if_neg (om),if_pos hk,hI]
  have hK:aS c m.dst (bI s m.dst) m=i5 c (bI s m.dst) m.line:=by
    unfold aS
    rw [if_pos hok,if_neg (om),if_neg (om),if_pos hk,if_pos hI]
  have hM:eF c m.dst (bI s m.dst) m=⟨9,m.line,m.dst,m.who,0,0,0,.zero⟩:=by
    unfold eF a1a
    rw [if_pos hok,if_neg (om),if_neg (om),if_pos hk,if_pos hI]
  have hB:dP c m.dst (bI s m.dst) m=true:=by unfold dP;exact decide_eq_true ⟨hE,om,om⟩
  refine ⟨hE,?_⟩
  have hS:dD c (dZ s (aH s.n 1 j)) m=dX c (j9 (dN (dZ s (aH s.n 1 j)) m.dst (i5 c (bI s m.dst) m.line)) (decide (bO c m.dst (bI s m.dst) m≠0))) ⟨9,m.line,m.dst,m.who,0,0,0,.zero⟩:=by
    unfold dD
    show (if dP c m.dst (bI s m.dst) m=true then dX c (j9 (dN (dZ s (aH s.n 1 j)) m.dst (aS c m.dst (bI s m.dst) m)) (decide (bO c m.dst (bI s m.dst) m≠0))) (eF c m.dst (bI s m.dst) m) else _)=_
    rw [if_pos hB,hK,hM]
  rw [hS]
  have hcl:=rH hl hd
  have hD:fG c ⟨9,m.line,m.dst,m.who,0,0,0,.zero⟩:=by
    refine ⟨hl.ok,⟨by show (1:Int)≤9;decide,by show (9:Int)≤11;decide⟩,hmay.2.2.1,?_,?_⟩
    · unfold jY
      rw [if_neg (by unfold cK;simp),if_neg (by simp),if_neg (by simp),if_neg (by simp),if_neg (by simp),if_neg (by simp)]
      exact ⟨hd,hw,fun e=>hwd e.symm,rfl,rfl,by show (0:Int)≤0;omega,by show (0:Int)<_;simp⟩
    · unfold iX
      rw [if_neg (by show ¬iB 9;unfold iB;omega)]
  have hroom:0<cB c (aH s.n 1 j) (c6 (⟨9,m.line,m.dst,m.who,0,0,0,.zero⟩:Msg).kind):=by
    show 0<cB c (aH s.n 1 j) 2
    rw [b3c]
    have:=a2r hl (k:=2) rfl
    omega
  generalize hs':dX c (j9 (dN (dZ s (aH s.n 1 j)) m.dst (i5 c (bI s m.dst) m.line)) (decide (bO c m.dst (bI s m.dst) m≠0))) ⟨9,m.line,m.dst,m.who,0,0,0,.zero⟩=s'
  have hcs:s'.cs=(dN s m.dst (i5 c (bI s m.dst) m.line)).cs:=by rw [←hs'];rfl
  have hhs:s'.hs=s.hs:=by rw [←hs'];rfl
  have htr:s'.tr=s.tr:=by rw [←hs'];rfl
  have hns:s'.n=eJ c (aH s.n 1 j) ⟨9,m.line,m.dst,m.who,0,0,0,.zero⟩:=by rw [←hs'];rfl
  have hev:CaEv c (bI s m.dst) (i5 c (bI s m.dst) m.line) (fun x=>if x=m.line∧a0o c (bI s m.dst) m.line=1 then 0 else a0o c (bI s m.dst) x) (b6v c (bI s m.dst)) (yB (bI s m.dst)) (b4j (bI s m.dst)):=by
    by_cases h1:a0o c (bI s m.dst) m.line=1
    · have ev:=e2j (hl.cai m.dst) h1
      refine ⟨fun x=>(ev.st x).trans ?_,ev.wd,ev.ms,ev.bf⟩
      by_cases hx:x=m.line
      · rw [if_pos hx,if_pos ⟨hx,h1⟩]
      · rw [if_neg hx,if_neg (fun g=>hx g.1)]
    · rw [e2k h1]
      exact ⟨fun x=>(if_neg (fun g=>h1 g.2)).symm,fun x _=>rfl,fun x=>rfl,fun x=>rfl⟩
  intro line hline
  obtain ⟨hLI,hNF⟩:=h line hline
  have hH:aN c s' line=aN c s line:=by unfold aN bU;rw [hhs]
  obtain ⟨q1,q2⟩:=lE (c:=c) (line:=line) hb (.inl rfl)
  rw [hm] at q2
  have hq:(fA c s' line).rq.Perm (fA c s line).rq:=by
    have:=xC (line:=line) (q:=(aN c s line).q) hD hroom
    rw [if_neg (fun g=>by cases g.2)] at this
    show (e9c line s'.n (aN c s' line).q).Perm _
    rw [hns,hH]
    exact this.trans q1.symm
  have hf:(fA c s' line).fly.Perm (if m.line=line then .ack m.who::sM line (aH s.n 1 j) (aN c s line).q else sM line (aH s.n 1 j) (aN c s line).q):=by
    have:=sN (line:=line) (q:=(aN c s line).q) hD hroom
    show (sM line s'.n (aN c s' line).q).Perm _
    rw [hns,hH]
    refine this.trans ?_
    by_cases hL:m.line=line
    · rw [if_pos hL,if_pos ⟨hL,by show (2:Int)≠0;decide⟩];exact List.Perm.refl _
    · rw [if_neg hL,if_neg (fun g=>hL g.1)]
  obtain ⟨v1,v2,v3,v4⟩:=e0o (c:=c) (s:=s) (line:=line) hd.1
  have hnow:aJ c (iL c s'.tr) line=aJ c (iL c s.tr) line:=by rw [htr]
  have hp:=xR (c:=c) (s:=s) (s':=s') (line:=line) hd.1 hcl hcs hev
  by_cases hL:m.line=line
  · subst hL
    rw [if_pos rfl] at hf
    rw [if_pos rfl,hA] at q2
    have e1:(fA c s' m.line).act=(fA c s m.line).act:=by show gZ _ (aN c s' _).q=_;rw [hH];rfl
    have e2:(fA c s' m.line).o=(fA c s m.line).o:=by show (aR (aN c s' _) _).o=_;rw [hH];rfl
    have e3:∀ x,(fA c s' m.line).sh x=(fA c s m.line).sh x:=fun x=>by show cS (aR (aN c s' _) _).s x=_;rw [hH];rfl
    have e4:(fA c s' m.line).mem=(fA c s m.line).mem:=by show aJ c (aN c s' _).ms _=_;rw [hH];rfl
    have hms:=d7 hp.ms v3.symm
    have hwd':∀ x,(fA c s' m.line).st x≠0→(fA c s' m.line).wd x=(fA c s m.line).wd x:=fun x hx=>by
      refine (hp.wd x hx).trans ?_
      split
      · rename_i g;rw [g,v2]
      · rfl
    refine ⟨?_,fun r m' hm' hn=>hNF r m' (by rw [←hms];exact hm') hn⟩
    by_cases h1:a0o c (bI s m.dst) m.line=1
    · have hst:=hp.st
      rw [if_pos ⟨rfl,h1⟩] at hst
      exact e1z hLI (v1.trans h1) hst hwd' hms (d7 hp.bf v4.symm) hq q2 hf e1 e2 e3 e4 hnow
    · have hst:=hp.st
      rw [if_neg (fun g=>h1 g.2)] at hst
      exact e2a hLI (by rw [v1];exact h1) (d7 hst v1.symm) hwd' hms (d7 hp.bf v4.symm) hq q2 hf e1 e2 e3 e4 hnow
  · rw [if_neg hL] at hf q2
    rw [if_neg (fun g=>hL g.1.symm)] at hp
    exact oU hd.1 hp rfl rfl rfl rfl hhs hnow hq (hf.trans q2.symm) ⟨hLI,hNF⟩
theorem c6z (m:Msg):(dD c s m).tr=s.tr:=by unfold dD;split<;>rfl
theorem c0k {m:Msg} (h:bO c m.dst (bI s m.dst) m=0):(dD c s m).odd=s.odd:=by
  unfold dD
  have:decide (bO c m.dst (bI s m.dst) m≠0)=false:=decide_eq_false (fun g=>g h)
  rw [this]
  split<;>rfl
theorem xA (hl:MaL c n s) (hb:gN s.n k j=true):c6 (aG s.n k j).kind=k:=(hl.nt k _ (dQ hb)).2
theorem e2x (h:LT c s) (hl:MaL c n s) (hb:gN s.n 1 j=true) (h2:cB c s.n 2≠0):LT c (dD c (dZ s (aH s.n 1 j)) (aG s.n 1 j))∧(dD c (dZ s (aH s.n 1 j)) (aG s.n 1 j)).odd=s.odd:=by
  have hk:=xA hl hb
  have hk':(aG s.n 1 j).kind=4∨(aG s.n 1 j).kind=5∨(aG s.n 1 j).kind=6:=by
    unfold c6 at hk
    split at hk
    · omega
    · split at hk
      · omega
      · split at hk<;>omega
  have key:bO c (aG s.n 1 j).dst (bI s (aG s.n 1 j).dst) (aG s.n 1 j)=0∧c4u c (dD c (dZ s (aH s.n 1 j)) (aG s.n 1 j)):=by
    rcases hk' with g|g|g
    · exact c6p (kd:=1) (st:=3) (own:=1) (g:=false) h.1 hl hb h2 rfl (.inl ⟨g,rfl,rfl,rfl,rfl⟩)
    · exact c6p (kd:=2) (st:=0) (own:=4) (g:=true) h.1 hl hb h2 rfl (.inr ⟨g,rfl,rfl,rfl,rfl⟩)
    · exact e2w h.1 hl hb h2 rfl g
  exact ⟨⟨key.2,by rw [c6z];exact h.2⟩,c0k (s:=dZ s (aH s.n 1 j)) key.1⟩
theorem e2y (h:LT c s) (hl:MaL c n s) (hb:gN s.n 2 j=true) (h11:(aG s.n 2 j).kind≠11):LT c (i3 c (dD c (dZ s (aH s.n 2 j)) (aG s.n 2 j)) (aG s.n 2 j))∧(i3 c (dD c (dZ s (aH s.n 2 j)) (aG s.n 2 j)) (aG s.n 2 j)).odd=s.odd:=by
  have hk:=xA hl hb
  have hmay:=(hl.nt 2 _ (dQ hb)).1
  have hk':(aG s.n 2 j).kind=7∨(aG s.n 2 j).kind=8∨(aG s.n 2 j).kind=9∨(aG s.n 2 j).kind=10:=by
    unfold c6 at hk
    split at hk
    · omega
    · split at hk
      · omega
      · split at hk<;>omega
  have hd:=kY hmay (by unfold cK;omega)
  have key:bO c (aG s.n 2 j).dst (bI s (aG s.n 2 j).dst) (aG s.n 2 j)=0∧c4u c (dN (dZ s (aH s.n 2 j)) (aG s.n 2 j).dst (aS c (aG s.n 2 j).dst (bI s (aG s.n 2 j).dst) (aG s.n 2 j))):=by
    rcases hk' with g|g|g|g
    · exact d4p h.1 hl hb rfl g
    · exact d0f h.1 hl hb rfl g
    · exact e2v h.1 hl hb rfl g
    · exact d4q h.1 hl hb rfl g
  have hB:dP c (aG s.n 2 j).dst (bI s (aG s.n 2 j).dst) (aG s.n 2 j)=false:=by unfold dP;exact decide_eq_false (om)
  have hT:dD c (dZ s (aH s.n 2 j)) (aG s.n 2 j)=j9 (dN (dZ s (aH s.n 2 j)) (aG s.n 2 j).dst (aS c (aG s.n 2 j).dst (bI s (aG s.n 2 j).dst) (aG s.n 2 j))) (decide (bO c (aG s.n 2 j).dst (bI s (aG s.n 2 j).dst) (aG s.n 2 j)≠0)):=by
    unfold dD
    exact if_neg (by show ¬dP c (aG s.n 2 j).dst (bI s (aG s.n 2 j).dst) (aG s.n 2 j)=true;rw [hB];simp)
  have hLT:LT c (dD c (dZ s (aH s.n 2 j)) (aG s.n 2 j)):=⟨by rw [hT];exact key.2,by rw [c6z];exact h.2⟩
  have hML:MaL c (n+1) (dD c (dZ s (aH s.n 2 j)) (aG s.n 2 j)):=(hl.take 2 j).taken _
  have ho:=c0k (s:=dZ s (aH s.n 2 j)) (c:=c) key.1
  unfold i3
  split
  · refine ⟨c6o hLT hML hd,?_⟩
    unfold jE
    split
    · exact ho
    · exact ho
  · exact ⟨hLT,ho⟩
end
end
section
theorem e8u {W:Type} {v:LV W} (h1:∀ x,v.st x=0) (h2:∀ x,v.ms x=none) (h3:∀ x,v.bf x=none) (h4:v.rq=[]) (h5:v.fly=[]) (h6:v.act=none) (h7:v.o= -1) (h8:v.mem=v.now):LI v:=by
  constructor<;>intros<;>first|grind [LV.cg,LV.cp,LV.ck,LV.ct,LV.ci,LV.cd,LV.busy,LV.holds]
section
variable {c:Cfg} {n:Nat} {s:MaS} {line:Int}
theorem c5i (m:Nat) (line:Int):vw c (List.replicate m .zero) line=none:=by
  cases e:vw c (List.replicate m .zero) line with
  |none=>rfl
  |some w=>
   obtain ⟨_,h2,h3,_⟩:=a2u e
   obtain ⟨_,rfl⟩:=List.mem_replicate.1 h3
   cases h2
theorem e8v {ps:List (List Op3)} (r:Int):fE (bK c ps) r=qE c∨fE (bK c ps) r=caZ:=by
  unfold fE bI
  split
  · show (ps.map fun _=>qE c).getD r.toNat caZ=_∨(ps.map fun _=>qE c).getD r.toNat caZ=_
    rw [List.getD_eq_getElem?_getD,List.getElem?_map]
    cases ps[r.toNat]? with
    |none=>exact .inr rfl
    |some _=>exact .inl rfl
  · exact .inr rfl
theorem vY {ps:List (List Op3)} (r:Int):a0o c (fE (bK c ps) r) line=0∧yB (fE (bK c ps) r) line=none∧b4j (fE (bK c ps) r) line=none:=by
  rcases e8v (c:=c) (ps:=ps) r with h|h
  · rw [h]
    refine ⟨?_,rfl,rfl⟩
    unfold a0o
    rw [rK,c5i];rfl
  · rw [h]
    refine ⟨?_,rfl,rfl⟩
    unfold a0o
    have:caZ.ways=List.replicate 0 .zero:=rfl
    rw [this,rK,c5i];rfl
theorem d4r {ps:List (List Op3)} (hc:aF c=true) (hl:aL c line=true):aN c (bK c ps) line=qZ c (cU c line)∧a1k c (cU c line)=true∧c2j c (cU c line) line:=by
  have hb:=(gP hc).2.1
  have hl':=hl
  unfold aL at hl'
  simp only [Bool.and_eq_true,decide_eq_true_eq] at hl'
  have eH:cU c line=line % c.homes:=by unfold cU;rw [if_pos hl]
  have h0:=Int.emod_nonneg line (show c.homes≠0 by omega)
  have h1:=Int.emod_lt_of_pos line (show 0<c.homes by omega)
  rw [←eH] at h0 h1
  refine ⟨?_,by unfold a1k;rw [hc,decide_eq_true ⟨h0,h1⟩];rfl,hl'.2.1,hl'.2.2,eH.symm⟩
  unfold aN bU
  show ((List.range c.homes.toNat).map fun (i:Nat)=>qZ c (i:Int)).getD (cU c line).toNat a5e=_
  rw [List.getD_eq_getElem?_getD,List.getElem?_map,List.getElem?_range (om)]
  show qZ c (((cU c line).toNat:Nat):Int)=_
  rw [show (((cU c line).toNat:Nat):Int)=cU c line by omega]
theorem e8w {ps:List (List Op3)} (hc:aF c=true):LT c (bK c ps):=by
  refine ⟨fun line hline=>?_,fun j x hx=>by cases hx⟩
  obtain ⟨h1,h2,h3⟩:=d4r (ps:=ps) hc hline
  have hE:aR (qZ c (cU c line)) line=a7c c:=by
    unfold aR
    show (iE (d8h c (jF c (cU c line))) line).getD .no=_
    rw [a9x,if_pos ((a3e h2 line).2 h3)];rfl
  have hms:∀ x,(fA c (bK c ps) line).ms x=none:=fun x=>(vY x).2.1
  refine ⟨e8u (fun x=>(vY x).1) hms (fun x=>(vY x).2.2) ?_ ?_ ?_ ?_ ?_,fun r m hm _=>by rw [hms] at hm;cases hm⟩
  · show e9c line _ (aN c (bK c ps) line).q=[]
    rw [h1];rfl
  · show sM line _ (aN c (bK c ps) line).q=[]
    rw [h1];rfl
  · show gZ line (aN c (bK c ps) line).q=none
    rw [h1];rfl
  · show (aR (aN c (bK c ps) line) line).o= -1
    rw [h1,hE];rfl
  · show aJ c (aN c (bK c ps) line).ms line=aJ c (iL c []) line
    rw [h1];rfl
end
end
section
section
variable {W:Type}
theorem d4s {v v':LV W} (h:LI v) {r:Int} {z:W} (hr:0≤r) (ha:v.act=none) (hO:v.o≠ -1)
    (hst:∀ x,v'.st x=v.st x) (hwd:∀ x,v'.st x≠0→v'.wd x=v.wd x) (hms:∀ x,v'.ms x=v.ms x) (hbf:∀ x,v'.bf x=v.bf x) {Rq:List (AM W)} (hrq0:v.rq.Perm (.get 1 r::Rq)) (hrq:v'.rq.Perm Rq) (hfly:v'.fly.Perm (.fwd 1 v.o r 0::v.fly)) (hact:v'.act=some (1,r)) (ho:v'.o=v.o) (hsh:(∀ x,v.sh x=true→v'.sh x=true)∧v'.sh r=true) (hmem:v'.mem=v.mem) (hnow:v'.now=v.now):LI v':=by
  obtain ⟨qm0,cg0,cp0⟩:=c6b hrq0
  obtain ⟨qm,cg,cp⟩:=c6a hrq
  obtain ⟨fm,ck,ct,ci,cd⟩:=b6r hfly
  have hna:∀ k r,v.act≠some (k,r):=fun k r e=>by rw [ha] at e;cases e
  have hnb:=fT ha
  obtain ⟨hfr,hct,hci,hcd⟩:=nG h ha
  have hfk:=h.f0 ha
  obtain ⟨m,hm,hk⟩:=h.gk _ r ((qm0 _).2 (.inl rfl))
  obtain ⟨g1,g2,g3,g4,g5⟩:=h.g1 r m hm (hnb r)
  have hml:=h.ml r m hm g5
  have hbn:v.bf r=none:=by cases e:v.bf r with|none=>rfl|some x=>(have:=(h.b1 r x.1 x.2 e).2.2;rw [hm] at this;cases this)
  have hcr:=cg0 r
  have hbu:∀ x,v'.busy x↔x=r:=fun x=>by unfold LV.busy;rw [hact];grind [dC]
  have hh:=sV h ha hO
  have hor:v.o≠r:=fun e=>by rw [e] at hh;unfold LV.holds at hh;grind
  have hho:∀ x,v.holds x↔v'.holds x:=fun x=>by unfold LV.holds;rw [hst,hbf,cp];grind [qB]
  constructor
  case rqk=>intro x hx;have:=h.rqk x;exact cH
  case g0=>intro r1 h1;have:=h.g0 r1;exact cH
  case g1=>intro r1 m1 h1 h2;have:=h.g1 r1 m1;exact cH
  case gk=>intro k1 r1 h1;have:=h.gk k1 r1;exact cH
  case gA=>intro r1 h1;have:=h.gA r1;exact cH
  case aK=>intro k1 r1 h1;have:=h.aK k1 r1;exact cH
  case mK=>intro r1 m1 h1;have:=h.mK r1 m1;exact cH
  case ml=>intro r1 m1 h1 h2;have:=h.ml r1 m1;exact cH
  case b0=>intro r1 h1;have:=h.b0 r1;exact cH
  case b1=>intro r1 w1 l1 h1;have:=h.b1 r1 w1 l1;exact cH
  case bw=>intro r1 w1 h1;have:=h.bw r1 w1;exact cH
  case bl=>intro r1 w1 h1 h2;have:=h.bl r1 w1;exact cH
  case f0=>intro h1 x hx;have:=h.f0;exact cH
  case f1=>intro r1 h1 x hx;have:=h.f1 r1;exact cH
  case f2=>intro r1 h1 x hx;have:=h.f2 r1;exact cH
  case p=>intro k1 r1 h1;have:=h.p k1 r1;exact cH
  case a2=>intro r1 h1;have:=h.a2 r1;exact cH
  case tf=>intro k1 o1 r1 n1 h1;have:=h.tf k1 o1 r1 n1;exact cH
  case td=>intro r1 own1 n1 w1 h1;have:=h.td r1 own1 n1 w1;exact cH
  case tg=>intro r1 n1 h1;have:=h.tg r1 n1;exact cH
  case iv=>intro c1 r1 h1;have:=h.iv c1 r1;exact cH
  case e=>intro c1 h1;have:=h.e c1;exact cH
  case h=>intro h1;have:=h.h;exact cH
  case s=>intro c1 h1 c2 h2;have:=h.s c1;exact cH
  case wn=>intro c1 h1;have:=h.wn c1;exact cH
  case mn=>intro h1;have:=h.mn;exact cH
  case k=>intro c1 h1;have:=h.k c1;exact cH
  case r=>intro c1;have:=h.r c1;exact cH
  case rg=>intro c1 h1;have:=h.rg c1;exact cH
theorem d4t {v v':LV W} (h:LI v) {r:Int} {z:W} (hr:0≤r) (ha:v.act=none) (hO:v.o= -1) (hS:∀ x,v.sh x=false)
    (hst:∀ x,v'.st x=v.st x) (hwd:∀ x,v'.st x≠0→v'.wd x=v.wd x) (hms:∀ x,v'.ms x=v.ms x) (hbf:∀ x,v'.bf x=v.bf x) {Rq:List (AM W)} (hrq0:v.rq.Perm (.get 1 r::Rq)) (hrq:v'.rq.Perm Rq) (hfly:v'.fly.Perm (.data r 2 0 v.mem::v.fly)) (hact:v'.act=some (1,r)) (ho:v'.o=r) (hsh:∀ x,v'.sh x=false) (hmem:v'.mem=v.mem) (hnow:v'.now=v.now):LI v':=by
  obtain ⟨qm0,cg0,cp0⟩:=c6b hrq0
  obtain ⟨qm,cg,cp⟩:=c6a hrq
  obtain ⟨fm,ck,ct,ci,cd⟩:=b6r hfly
  have hna:∀ k r,v.act≠some (k,r):=fun k r e=>by rw [ha] at e;cases e
  have hnb:=fT ha
  obtain ⟨hfr,hct,hci,hcd⟩:=nG h ha
  have hfk:=h.f0 ha
  obtain ⟨m,hm,hk⟩:=h.gk _ r ((qm0 _).2 (.inl rfl))
  obtain ⟨g1,g2,g3,g4,g5⟩:=h.g1 r m hm (hnb r)
  have hml:=h.ml r m hm g5
  have hbn:v.bf r=none:=by cases e:v.bf r with|none=>rfl|some x=>(have:=(h.b1 r x.1 x.2 e).2.2;rw [hm] at this;cases this)
  have hcr:=cg0 r
  have hbu:∀ x,v'.busy x↔x=r:=fun x=>by unfold LV.busy;rw [hact];grind [dC]
  have hmn:=h.mn hO
  have hnh:∀ x,v.st x=0:=fun x=>Decidable.byContradiction fun hx=>by have:=h.k x hx;have:=h.e x;have:=h.r x;have:=h.rg x;grind [cX,rG]
  have hho:∀ x,v.holds x↔v'.holds x:=fun x=>by unfold LV.holds;rw [hst,hbf,cp];grind [qB]
  refine { bl:=?zbl}
  case zbl=>
    intro r1 w1 h1 h2
    have:=h.bl r1 w1
    have:=h.rg r1;exact cH
theorem d4u {v v':LV W} (h:LI v) {r:Int} {z:W} (hr:0≤r) (ha:v.act=none) (hO:v.o= -1)
    (hst:∀ x,v'.st x=v.st x) (hwd:∀ x,v'.st x≠0→v'.wd x=v.wd x) (hms:∀ x,v'.ms x=v.ms x) (hbf:∀ x,v'.bf x=v.bf x) {Rq:List (AM W)} (hrq0:v.rq.Perm (.get 1 r::Rq)) (hrq:v'.rq.Perm Rq) (hfly:v'.fly.Perm (.data r 1 0 v.mem::v.fly)) (hact:v'.act=some (1,r)) (ho:v'.o=v.o) (hsh:(∀ x,v.sh x=true→v'.sh x=true)∧v'.sh r=true) (hmem:v'.mem=v.mem) (hnow:v'.now=v.now):LI v':=by
  obtain ⟨qm0,cg0,cp0⟩:=c6b hrq0
  obtain ⟨qm,cg,cp⟩:=c6a hrq
  obtain ⟨fm,ck,ct,ci,cd⟩:=b6r hfly
  have hna:∀ k r,v.act≠some (k,r):=fun k r e=>by rw [ha] at e;cases e
  have hnb:=fT ha
  obtain ⟨hfr,hct,hci,hcd⟩:=nG h ha
  have hfk:=h.f0 ha
  obtain ⟨m,hm,hk⟩:=h.gk _ r ((qm0 _).2 (.inl rfl))
  obtain ⟨g1,g2,g3,g4,g5⟩:=h.g1 r m hm (hnb r)
  have hml:=h.ml r m hm g5
  have hbn:v.bf r=none:=by cases e:v.bf r with|none=>rfl|some x=>(have:=(h.b1 r x.1 x.2 e).2.2;rw [hm] at this;cases this)
  have hcr:=cg0 r
  have hbu:∀ x,v'.busy x↔x=r:=fun x=>by unfold LV.busy;rw [hact];grind [dC]
  have hmn:=h.mn hO
  have hno:∀ x,v.st x<2:=fun x=>Decidable.byContradiction fun hx=>by have:=h.e x (om);have:=h.rg x;grind [cX]
  have hho:∀ x,v.holds x↔v'.holds x:=fun x=>by unfold LV.holds;rw [hst,hbf,cp];grind [qB]
  constructor
  case rqk=>intro x hx;have:=h.rqk x;exact cH
  case g0=>intro r1 h1;have:=h.g0 r1;exact cH
  case g1=>intro r1 m1 h1 h2;have:=h.g1 r1 m1;exact cH
  case gk=>intro k1 r1 h1;have:=h.gk k1 r1;exact cH
  case gA=>intro r1 h1;have:=h.gA r1;exact cH
  case aK=>intro k1 r1 h1;have:=h.aK k1 r1;exact cH
  case mK=>intro r1 m1 h1;have:=h.mK r1 m1;exact cH
  case ml=>intro r1 m1 h1 h2;have:=h.ml r1 m1;exact cH
  case b0=>intro r1 h1;have:=h.b0 r1;exact cH
  case b1=>intro r1 w1 l1 h1;have:=h.b1 r1 w1 l1;exact cH
  case bw=>intro r1 w1 h1;have:=h.bw r1 w1;exact cH
  case bl=>intro r1 w1 h1 h2;have:=h.bl r1 w1;exact cH
  case f0=>intro h1 x hx;have:=h.f0;exact cH
  case f1=>intro r1 h1 x hx;have:=h.f1 r1;exact cH
  case f2=>intro r1 h1 x hx;have:=h.f2 r1;exact cH
  case p=>intro k1 r1 h1;have:=h.p k1 r1;exact cH
  case a2=>intro r1 h1;have:=h.a2 r1;exact cH
  case tf=>intro k1 o1 r1 n1 h1;have:=h.tf k1 o1 r1 n1;exact cH
  case td=>intro r1 own1 n1 w1 h1;have:=h.td r1 own1 n1 w1;exact cH
  case tg=>intro r1 n1 h1;have:=h.tg r1 n1;exact cH
  case iv=>intro c1 r1 h1;have:=h.iv c1 r1;exact cH
  case e=>intro c1 h1;have:=h.e c1;exact cH
  case h=>intro h1;have:=h.h;exact cH
  case s=>intro c1 h1 c2 h2;have:=h.s c1;exact cH
  case wn=>intro c1 h1;have:=h.wn c1;exact cH
  case mn=>intro h1;have:=h.mn;exact cH
  case k=>intro c1 h1;have:=h.k c1;exact cH
  case r=>intro c1;have:=h.r c1;exact cH
  case rg=>intro c1 h1;have:=h.rg c1;exact cH
end
end
end Go.Sx
