/- Mw1: several of my texts as one. My own work. -/
import Derived.Test.YtjihlpjnebdiiaaGreatZax
set_option linter.unusedVariables false
set_option linter.unusedSectionVars false
set_option linter.unusedSimpArgs false
set_option maxRecDepth 100000
set_option maxHeartbeats 4000000
namespace Go.Sx
open Go Go.Proofs
section
theorem sJ {l:List Nat} {i:Nat} (h:i<l.length):l.getD i 0=l[i]:=by rw [List.getD_eq_getElem?_getD,List.getElem?_eq_getElem h];rfl
abbrev e7j (b:Nat) (c:Cfg) (s:MaS) (x:MaX) (i:Nat) (hk:i<x.kb.length) (ha:i<x.ab.length) (L:List HP):List HP:=MC b c s.odd x.kb.length x.ab.length x.hb.length s.tr.length x.pk x.pa x.ph x.pt x.bn::e8t x.pk x.kb::e7i x.pa x.ab::f0l x.ph x.hb::oB x.bn c s.n::e7s x.pt s.tr
  ::a8c x.kb[i] (s.ks.getD i coZ)::a8y x.ab[i] c (i:Int) (s.cs.getD i caZ)::All (((List.range x.kb.length).eraseIdx i).map (yC x s))::All (((List.range x.ab.length).eraseIdx i).map (s5 c x s))::All ((List.range x.hb.length).map (s6 c x s))::L
theorem d2z {b:Nat} {c:Cfg} {s:MaS} {x:MaX} {i:Nat} {L:List HP} (hk:i<x.kb.length) (ha:i<x.ab.length):Ent (e9t b c s x L) (e7j b c s x i hk ha L):=by
  refine Ent.cons (Ent.cons (Ent.cons (Ent.cons (Ent.cons (Ent.cons ?_)))))
  refine Ent.trans (vK hk) ?_
  have e1:yC x s i=a8c x.kb[i] (s.ks.getD i coZ):=by unfold yC;rw [sJ hk]
  rw [e1]
  refine Ent.cons ?_
  refine Ent.trans (Ent.cons (vK ha)) ?_
  have e2:s5 c x s i=a8y x.ab[i] c (i:Int) (s.cs.getD i caZ):=by unfold s5;rw [sJ ha]
  rw [e2]
  exact gR (List.Perm.swap _ _ _)
theorem eU {b:Nat} {c:Cfg} {s s':MaS} {x:MaX} {i:Nat} {hk:i<x.kb.length} {ha:i<x.ab.length} {L M:List HP} {pt:Option Addr×Nat} {k:CoS} {a:CaS} {n:Nets} {tr:List Com} {odd:Int}
    (h:Ent L (MC b c odd x.kb.length x.ab.length x.hb.length tr.length x.pk x.pa x.ph pt x.bn::e8t x.pk x.kb::e7i x.pa x.ab::f0l x.ph x.hb::oB x.bn c n::e7s pt tr
     ::a8c x.kb[i] k::a8y x.ab[i] c (i:Int) a::All (((List.range x.kb.length).eraseIdx i).map (yC x s))::All (((List.range x.ab.length).eraseIdx i).map (s5 c x s))::All ((List.range x.hb.length).map (s6 c x s))::M))
    (hf:yS c s x) (e1:s'.ks=s.ks.set i k) (e2:s'.cs=s.cs.set i a) (e3:s'.hs=s.hs) (e4:s'.n=n) (e5:s'.tr=tr) (e6:s'.odd=odd):Ent L (i7 b c s' { x with pt:=pt}::M):=by
  obtain ⟨ks,cs,hs,nn,tt,oo⟩:=s'
  dsimp only at e1 e2 e3 e4 e5 e6
  subst e1 e2 e3 e4 e5 e6
  obtain ⟨⟨f1,f2,f3⟩,f4,f5⟩:=hf
  refine gM (Ent.trans h ?_) ⟨⟨by dsimp only;rw [List.length_set];exact f1,by dsimp only;rw [List.length_set];exact f2,f3⟩,f4,f5⟩
  refine Ent.cons (Ent.cons (Ent.cons (Ent.cons (Ent.cons (Ent.cons ?_)))))
  have e1:a8c x.kb[i] k=yC { x with pt:=pt} ⟨s.ks.set i k,s.cs.set i a,s.hs,nn,tt,oo⟩ i:=by unfold yC;dsimp only;rw [sJ hk,jZ,if_pos ⟨rfl,om⟩]
  have e2:a8y x.ab[i] c (i:Int) a=s5 c { x with pt:=pt} ⟨s.ks.set i k,s.cs.set i a,s.hs,nn,tt,oo⟩ i:=by unfold s5;dsimp only;rw [sJ ha,jZ,if_pos ⟨rfl,om⟩]
  rw [e1,e2]
  refine Ent.trans (gR (List.Perm.trans (List.Perm.cons _ (List.Perm.swap _ _ _)) (List.Perm.refl _))) ?_
  refine Ent.trans (a0b (g:=yC { x with pt:=pt} ⟨s.ks.set i k,s.cs.set i a,s.hs,nn,tt,oo⟩) hk fun j hj hne=>?_) (Ent.cons ?_)
  · unfold yC;dsimp only;rw [jZ,if_neg (fun h=>hne h.1)]
  · refine Ent.trans (a0b (g:=s5 c { x with pt:=pt} ⟨s.ks.set i k,s.cs.set i a,s.hs,nn,tt,oo⟩) ha fun j hj hne=>?_) (Ent.cons ?_)
    · unfold s5;dsimp only;rw [jZ,if_neg (fun h=>hne h.1)]
    · exact Ent.refl
section
variable {b:Nat} {c:Cfg} {s:MaS} {x:MaX} {P:Program} {N:Nat} {env:Env} {L:List HP} {Q:Exit→Act→World→Prop}
theorem nD {co:Code} {i:Nat} (hk:i<x.kb.length) (ha:i<x.ab.length) (h:yS c s x→WC P N co env (e7j b c s x i hk ha L) Q):WC P N co env (i7 b c s x::L) Q:=
  j0 fun hf a w hA hw=>h hf a w hA ((d2z hk ha).sat hw)
end
attribute [local irreducible] Exit.then Exit.inBlock Code.wp WC WO WE WQ V bF tV d3 bW dF uH IntKind.wrap WR Code.rounds WT KO
theorem d5t {c:Cfg} {n:Nat} {k:CaS} (h:mO c n k) (hn:n≤1000000000000):∀ m∈k.mis,-9223372036854775808≤m.got∧m.got≤9223372036854775806:=fun m hm=>by
  have:=(h.1.2.2 m hm).2.1
  unfold e2j at this
  have:=(h.1.2.2 m hm).2.2;omega
theorem e3b {x:Op3} (o1:uE x=true):x.wf:=by
  unfold uE at o1
  unfold Op3.wf kP
  split at o1
  · simp at o1;omega
  · split at o1
    · simp at o1;omega
    · split at o1
      · simp at o1;omega
      · cases o1
theorem c4t {c:Cfg} {n:Nat} {s:MaS} (hl:MaL c n s) {i:Int} (h:nO (iK s i)=true):(j9 (iK s i)).wf:=e3b (d6h hl h).1
theorem fH {Q P:Prop} (k:Q) (h:Hid Q→P:=by
  intro k
  first
  |(refine aG ?_;refine q9 (id:=15) (.only [5,6,11]) (pl:= .p 0 <| .p 1 <| .r 2 <| .r 4 <| .e true [(3,.e true [(5,.n [6,11] <| .e true [(6,.n [11] <| .p 7 <| .p 8 <| .p 9 <| .e true [(10,.e true [(11,.n [] <| .p 12 <| .done)])]),(10,.e true [(6,.n [11] <| .p 7 <| .p 8 <| .p 9 <| .e true [(11,.n [] <| .p 12 <| .done)])])]),(10,.e true [(5,.n [6,11] <| .e true [(6,.n [11] <| .p 7 <| .p 8 <| .p 9 <| .e true [(11,.n [] <| .p 12 <| .done)])])])]),(10,.e true [(3,.e true [(5,.n [6,11] <| .e true [(6,.n [11] <| .p 7 <| .p 8 <| .p 9 <| .e true [(11,.n [] <| .p 12 <| .done)])])])])]) k.out)
  |(refine aG ?_;refine q9 (id:=20) (.only []) (pl:= .p 0 <| .p 1 <| .p 2 <| .p 4 <| .r 3 <| .r 5 <| .e true [(6,.e true [(7,.p 8 <| .p 9 <| .p 10 <| .p 11 <| .p 12 <| .p 13 <| .p 14 <| .p 15 <| .p 16 <| .done)])]) k.out)):P:=h ⟨k⟩
theorem e6b {F:List HP} {b:Nat} {c:Cfg} {s:MaS} {x:MaX} {i n:Nat} {w:Int} (hw:c.wf) (hl:MaL c n s) (hn:n≤1000000000000) (ht:s.tr.length≤1000000000000) (hi:(i:Int)<c.cores) (hiw:kP w) (hx:yS c s x) :
    FnF Tryz.prog 52 [.pointer (some ⟨b,0,none⟩),.int .i64 i,.int .i64 w] [i7 b c s x] F (fun r L'=>∃ pt:Option Addr×Nat,r= .bool (fC c s i w)∧L'=[i7 b c (c9 c s i w) { x with pt:=pt}]):=by
  obtain ⟨⟨f1,f2,f3⟩,⟨f4,f5,f6⟩,f7⟩:=id hx
  have hk:i<x.kb.length:=by omega
  have ha:i<x.ab.length:=by omega
  have hX:=hl.cai (i:Int)
  have eA:cI s (i:Int)=s.cs.getD i caZ:=rfl
  have eK:iK s (i:Int)=s.ks.getD i coZ:=rfl
  have hgk:=lZ hk
  have hga:=lZ ha
  have hF:=fun F=>c5l (F:=F) (b:=x.ab[i]) (c:=c) (core:=(i:Int)) (k:=s.cs.getD i caZ) (fun m hm=>(hX.1.2.2 m hm).1)
  have hH:=fun F=>a9m (F:=F) (b:=x.kb[i]) (l:=(s.ks.getD i coZ).l) (rs:=(s.ks.getD i coZ).rs) (tr:=(s.ks.getD i coZ).tr)
  have hL:=fun F n k=>vW (F:=F) (b:=x.bn) (c:=c) (n:=n) (k:=k)
  have hSn:=fun F odd n m=>a6b (F:=F) (b:=b) (c:=c) (odd:=odd) (nk:=x.kb.length) (na:=x.ab.length) (nh:=x.hb.length) (nt:=s.tr.length) (pk:=x.pk) (pa:=x.pa) (ph:=x.ph) (pt:=x.pt) (bn:=x.bn) (n:=n) (m:=m) hw
  refine FnF.mk' Tryz.func52 rfl rfl Tryz.ntmps52 rfl ?_
  refine nD hk ha fun hf=>?_
  (first|(refine eN (.slice x.pa.1 x.ab.length x.pa.2) inferInstance (om) ?_;intro _)|(refine eQ (.slice x.pa.1 x.ab.length x.pa.2) inferInstance (om) ?_;intro _))
  (first|(refine eN (.slice x.pk.1 x.kb.length x.pk.2) inferInstance (om) ?_;intro _)|(refine eQ (.slice x.pk.1 x.kb.length x.pk.2) inferInstance (om) ?_;intro _))
  have hM:=fun F=>a1e (F:=F) (b:=x.ab[i]) (c:=c) (core:=(i:Int)) (k:=s.cs.getD i caZ)
  have hDo:=fun F (hh:¬(s.ks.getD i coZ).rs.length=(s.ks.getD i coZ).l.length) x' (hx':x'.wf)=>c4j (F:=F) (b:=b) (c:=c) (odd:=s.odd) (nh:=x.hb.length) (pk:=x.pk) (pa:=x.pa) (ph:=x.ph) (pt:=x.pt) (bn:=x.bn) (kb:=x.kb) (ab:=x.ab) (k:=s.ks.getD i coZ) (a:=s.cs.getD i caZ) (tr:=s.tr) (x:=x') hk ha hh ht hx'
  have hCm:=fun F (hh:¬(s.ks.getD i coZ).rs.length=(s.ks.getD i coZ).l.length) x' n'=>b0v (F:=F) (b:=b) (c:=c) (odd:=s.odd) (na:=x.ab.length) (nh:=x.hb.length) (pk:=x.pk) (pa:=x.pa) (ph:=x.ph) (pt:=x.pt) (bn:=x.bn) (kb:=x.kb) (k:=s.ks.getD i coZ) (tr:=s.tr) (x:=x') (n:=n') hk hh ht
  have hLn:=fun F x' (hx':Op3.wf x') odd nt pt=>b3e (F:=F) (b:=b) (c:=c) (odd:=odd) (nk:=x.kb.length) (na:=x.ab.length) (nh:=x.hb.length) (nt:=nt) (pk:=x.pk) (pa:=x.pa) (ph:=x.ph) (pt:=pt) (bn:=x.bn) (x:=x') hw hx'
  have hE:=fun F st w'=>c9h (F:=F) (b:=x.ab[i]) (c:=c) (core:=(i:Int)) (s:=st) (w:=w') (k:=s.cs.getD i caZ) hX.1.1
  by_cases hfin:0<cA c s.n 2∧kH (cI s i)=true
  · have eB:fC c s i w=a8x c s (n8 c i (cI s i)):=by unfold fC;rw [if_pos hfin]
    have eS:c9 c s i w=⟨s.ks.set i (s.ks.getD i coZ),s.cs.set i (gG c (s.cs.getD i caZ)),s.hs,gH c s.n (n8 c i (s.cs.getD i caZ)),s.tr,s.odd⟩:=by unfold c9;rw [if_pos hfin,bM];rfl
    rw [eB,eS]
    obtain ⟨h2,hfb⟩:=hfin
    rw [eA] at hfb
    simp only [hfb] at hF
    repeat first|refine go ?_|intro _|refine fH ?_|refine cM ?_|refine aD @hF ?_|refine aD @hL ?_|refine aD @hSn ?_
    (apply aA rfl rfl bB)
    · exact ⟨x.pt,rfl,rfl⟩
    · (apply eU;(focus (exact aB));all_goals exact mG)
  · have hpre:∀ G:Prop,(0<cA c s.n 2→kH (s.cs.getD i caZ)=false→(∀ F,FnF Tryz.prog 109 [.pointer (some ⟨x.ab[i],0,none⟩)] [a8y x.ab[i] c (i:Int) (s.cs.getD i caZ)] F (fun r L'=>r= .tuple [mv (n8 c i (s.cs.getD i caZ)),.bool false].toArray∧L'=[a8y x.ab[i] c (i:Int) (s.cs.getD i caZ)]))→G)→(¬0<cA c s.n 2→G)→G:=fun G g1 g2=>by
      by_cases h2:0<cA c s.n 2
      · have hfb:kH (s.cs.getD i caZ)=false:=by cases e:kH (s.cs.getD i caZ) with|false=>rfl|true=>exact absurd ⟨h2,e⟩ hfin
        have eK':gG c (s.cs.getD i caZ)=s.cs.getD i caZ:=by unfold gG;rw [hfb];rfl
        simp only [hfb,eK'] at hF
        exact g1 h2 hfb hF
      · exact g2 h2
    clear hF
    cases hh:nO (iK s i) with
    |false=>
     have eB:fC c s i w=false:=by unfold fC;rw [if_neg hfin,if_pos hh]
     have eS:c9 c s i w=⟨s.ks.set i (s.ks.getD i coZ),s.cs.set i (s.cs.getD i caZ),s.hs,s.n,s.tr,s.odd⟩:=by unfold c9;rw [if_neg hfin,if_pos hh,bM,bM]
     rw [eB,eS]
     have hh':uJ (s.ks.getD i coZ).l (s.ks.getD i coZ).rs=false:=hh
     simp only [hh'] at hH
     refine hpre _ (fun h2 hfb hF=>?_) (fun h2=>?_)
     all_goals
       repeat first|refine go ?_|intro _|refine fH ?_|refine cM ?_|refine aD @hF ?_|refine aD @hL ?_|refine aD @hH ?_
       (apply aA rfl rfl bB)
       · exact ⟨x.pt,rfl,rfl⟩
       · (apply eU;(focus (exact aB));all_goals exact mG)
    |true=>
     have hh0:¬nO (iK s i)=false:=by rw [hh];simp
     have hh':uJ (s.ks.getD i coZ).l (s.ks.getD i coZ).rs=true:=hh
     have hne:¬(s.ks.getD i coZ).rs.length=(s.ks.getD i coZ).l.length:=by simpa [uJ] using hh'
     have hwf:(x6 (s.ks.getD i coZ).l (s.ks.getD i coZ).rs).wf:=c4t hl hh
     have eO:j9 (iK s i)=x6 (s.ks.getD i coZ).l (s.ks.getD i coZ).rs:=rfl
     simp only [hh'] at hH
     generalize x6 (s.ks.getD i coZ).l (s.ks.getD i coZ).rs=op at *
     have hDo:=fun F=>hDo F hne op hwf
     have hCm:=fun F=>hCm F hne op 0
     have hLn:=fun F=>hLn F op hwf
     have hAk:=fun F=>d4r (F:=F) (b:=x.ab[i]) (c:=c) (core:=(i:Int)) (line:=c8 c op) (kind:=cP op) (k:=s.cs.getD i caZ) rX
     have hKd:=fun F=>c4i (F:=F) (x:=op)
     have hSl:=fun F=>pB (F:=F) (c:=c) (a:=c8 c op) hw rX
     by_cases h4:op.kind=4
     · have hM:=fun F=>a1e (F:=F) (b:=x.ab[i]) (c:=c) (core:=(i:Int)) (k:=s.cs.getD i caZ)
       by_cases hm:(s.cs.getD i caZ).mis.length=0
       · have eB:fC c s i w=true:=by unfold fC;rw [if_neg hfin,if_neg hh0,eO,if_pos h4,eA];exact decide_eq_true hm
         have eS:c9 c s i w=⟨s.ks.set i (b4y (s.ks.getD i coZ) 0),s.cs.set i (s.cs.getD i caZ),s.hs,s.n,s.tr++[⟨i,(s.ks.getD i coZ).rs.length,op,0⟩],s.odd⟩:=by unfold c9;rw [if_neg hfin,if_neg hh0,eO,if_pos h4,eA,if_pos hm,bM];rfl
         rw [eB,eS]
         refine hpre _ (fun h2 hfb hF=>?_) (fun h2=>?_)
         all_goals
           repeat first|refine go ?_|intro _|refine fH ?_|refine cM ?_|refine aD @hF ?_|refine aD @hL ?_|refine aD @hH ?_|refine aD @hM ?_|refine aD @hCm ?_
           rename_i pt'
           (apply aA rfl rfl bB)
           · exact ⟨pt',rfl,rfl⟩
           · (apply eU;(focus (exact aB));all_goals exact mG)
       · have eB:fC c s i w=false:=by unfold fC;rw [if_neg hfin,if_neg hh0,eO,if_pos h4,eA];exact decide_eq_false hm
         have eS:c9 c s i w=⟨s.ks.set i (s.ks.getD i coZ),s.cs.set i (s.cs.getD i caZ),s.hs,s.n,s.tr,s.odd⟩:=by unfold c9;rw [if_neg hfin,if_neg hh0,eO,if_pos h4,eA,if_neg hm,bM,bM]
         rw [eB,eS]
         refine hpre _ (fun h2 hfb hF=>?_) (fun h2=>?_)
         all_goals
           repeat first|refine go ?_|intro _|refine fH ?_|refine cM ?_|refine aD @hF ?_|refine aD @hL ?_|refine aD @hH ?_|refine aD @hM ?_
           (apply aA rfl rfl bB)
           · exact ⟨x.pt,rfl,rfl⟩
           · (apply eU;(focus (exact aB));all_goals exact mG)
     · by_cases hd:mM c (s.cs.getD i caZ) op=0
       · have hdb:uG c s i op=true:=decide_eq_true hd
         have eB:fC c s i w=true:=by unfold fC;rw [if_neg hfin,if_neg hh0,eO,if_neg h4,if_pos hdb]
         have eS:c9 c s i w=⟨s.ks.set i (e7r c (s.cs.getD i caZ) (s.ks.getD i coZ) op),s.cs.set i (fG c (s.cs.getD i caZ) op),s.hs,s.n,e7h c (s.cs.getD i caZ) (s.ks.getD i coZ) i op s.tr,s.odd⟩:=by
           unfold c9 mY e7r e7h;rw [if_neg hfin,if_neg hh0,eO,if_neg h4,if_pos hdb,if_pos hdb,if_pos hd,if_pos hd];rfl
         rw [eB,eS]
         simp only [hd,decide_true] at hDo
         refine hpre _ (fun h2 hfb hF=>?_) (fun h2=>?_)
         all_goals
           repeat first|refine go ?_|intro _|refine fH ?_|refine cM ?_|refine aD @hF ?_|refine aD @hL ?_|refine aD @hH ?_|refine aD @hDo ?_
           rename_i pt'
           (apply aA rfl rfl bB)
           · exact ⟨pt',rfl,rfl⟩
           · (apply eU;(focus (exact aB));all_goals exact mG)
       · have hdb:uG c s i op=false:=decide_eq_false hd
         have hdn:¬uG c s i op=true:=by rw [hdb];simp
         clear hDo hCm hM
         have hDn:=fun F=>c1b (F:=F) (b:=b) (c:=c) (odd:=s.odd) (nk:=x.kb.length) (nh:=x.hb.length) (nt:=s.tr.length) (pk:=x.pk) (pa:=x.pa) (ph:=x.ph) (pt:=x.pt) (bn:=x.bn) (ab:=x.ab) (a:=s.cs.getD i caZ) (x:=op) ha hwf hd
         by_cases h0:cA c s.n 0=0
         · have eB:fC c s i w=false:=by unfold fC;rw [if_neg hfin,if_neg hh0,eO,if_neg h4,if_neg hdn,if_pos h0]
           have eS:c9 c s i w=⟨s.ks.set i (s.ks.getD i coZ),s.cs.set i (s.cs.getD i caZ),s.hs,s.n,s.tr,s.odd⟩:=by unfold c9;rw [if_neg hfin,if_neg hh0,eO,if_neg h4,if_neg hdn,if_pos h0,bM,bM]
           rw [eB,eS]
           refine hpre _ (fun h2 hfb hF=>?_) (fun h2=>?_)
           all_goals
             repeat first|refine go ?_|intro _|refine fH ?_|refine cM ?_|refine aD @hF ?_|refine aD @hL ?_|refine aD @hH ?_|refine aD @hDn ?_
             (apply aA rfl rfl bB)
             · exact ⟨x.pt,rfl,rfl⟩
             · (apply eU;(focus (exact aB));all_goals exact mG)
         · apply b2r (P:=Tryz.prog) (fun q:Nat=>[(0,.pointer (some ⟨b,0,none⟩)),(1,.int .i64 i),(2,.int .i64 w),(6,.bool false),(7,.pointer (some ⟨x.ab[i],0,none⟩)),(10,.pointer (some ⟨q,0,none⟩))]) (fun q=>Cells q 58 (oc op)::e7j b c s x i hk ha F) (fun _=>True)
           · intro join
             refine hpre _ (fun h2 hfb hF=>?_) (fun h2=>?_)
             all_goals
               repeat first|refine go ?_|intro _|refine aD @hF ?_|refine aD @hL ?_|refine aD @hH ?_|refine aD @hDn ?_
               exact join _ _ _ trivial (by exact nB) (by exact aB)
           intro q _
           have eAsk:uN c s i op=dT c (s.cs.getD i caZ) (c8 c op) (cP op):=rfl
           by_cases he:dT c (s.cs.getD i caZ) (c8 c op) (cP op)=0
           · have eB:fC c s i w=decide (xU c s.n (fO c i (s.cs.getD i caZ) (c8 c op) (cP op))=0):=by
               unfold fC;rw [if_neg hfin,if_neg hh0,eO,if_neg h4,if_neg hdn,if_neg h0,if_pos (eAsk.trans he)];rfl
             have eS:c9 c s i w=⟨s.ks.set i (s.ks.getD i coZ),s.cs.set i (cO c (s.cs.getD i caZ) (c8 c op) (cP op)),s.hs,gH c s.n (fO c i (s.cs.getD i caZ) (c8 c op) (cP op)),s.tr,s.odd⟩:=by
               unfold c9;rw [if_neg hfin,if_neg hh0,eO,if_neg h4,if_neg hdn,if_neg h0,if_pos (eAsk.trans he),bM];rfl
             rw [eB,eS]
             simp only [he] at hAk
             repeat' (first|refine go ?_|intro _|refine fH ?_|refine cM ?_|refine aD @hL ?_|refine aD @hLn ?_|refine aD @hKd ?_|refine aD @hAk ?_|refine aD @hSn ?_|refine mH ?_ ?_|fail)
             all_goals (apply aA rfl rfl bB)
             all_goals first|exact ⟨x.pt,rfl,rfl⟩|(apply eU;(focus (exact aB));all_goals exact mG)
           · have eKn:cO c (s.cs.getD i caZ) (c8 c op) (cP op)=s.cs.getD i caZ:=by unfold cO;rw [if_neg he]
             simp only [eKn] at hAk
             by_cases h5:dT c (s.cs.getD i caZ) (c8 c op) (cP op)=5
             · simp only [h5] at hAk
               have eEv:lS c op=s9 c (c8 c op):=rfl
               have hE:=fun F=>hE F (lS c op) (w.tmod c.ways)
               have hwy:=(cK f7).2.2.2.2.2
               by_cases h6:oG c (s.cs.getD i caZ) (lS c op) (w.tmod c.ways)=0
               · simp only [h6] at hE
                 cases hb:mL c (s.cs.getD i caZ) (lS c op) (w.tmod c.ways) with
                 |true=>
                  simp only [hb] at hE
                  have eB:fC c s i w=decide (xU c s.n (tH c i (s.cs.getD i caZ) (lS c op) (w.tmod c.ways))=0):=by
                    unfold fC;rw [if_neg hfin,if_neg hh0,eO,if_neg h4,if_neg hdn,if_neg h0,if_neg (fun g=>he (eAsk.symm.trans g)),if_pos (eAsk.trans h5),eA,h6,hb];rfl
                  have eS:c9 c s i w=⟨s.ks.set i (s.ks.getD i coZ),s.cs.set i (gQ c (s.cs.getD i caZ) (lS c op) (w.tmod c.ways)),s.hs,gH c s.n (tH c i (s.cs.getD i caZ) (lS c op) (w.tmod c.ways)),s.tr,s.odd⟩:=by
                    unfold c9 b8v;rw [if_neg hfin,if_neg hh0,eO,if_neg h4,if_neg hdn,if_neg h0,if_neg (fun g=>he (eAsk.symm.trans g)),if_pos (eAsk.trans h5),eA,if_pos hb,bM];rfl
                  rw [eB,eS]
                  repeat' (first|refine go ?_|intro _|refine fH ?_|refine cM ?_|refine aD @hL ?_|refine aD @hLn ?_|refine aD @hKd ?_|refine aD @hAk ?_|refine aD @hSl ?_|refine aD @hE ?_|refine aD @hSn ?_|refine mH ?_ ?_|fail)
                  all_goals (apply aA rfl rfl bB)
                  all_goals first|exact ⟨x.pt,rfl,rfl⟩|(apply eU;(focus (exact aB));all_goals exact mG)
                 |false=>
                  simp only [hb] at hE
                  have hbn:¬mL c (s.cs.getD i caZ) (lS c op) (w.tmod c.ways)=true:=by rw [hb];simp
                  have eB:fC c s i w=true:=by
                    unfold fC;rw [if_neg hfin,if_neg hh0,eO,if_neg h4,if_neg hdn,if_neg h0,if_neg (fun g=>he (eAsk.symm.trans g)),if_pos (eAsk.trans h5),eA,h6,hb];rfl
                  have eS:c9 c s i w=⟨s.ks.set i (s.ks.getD i coZ),s.cs.set i (gQ c (s.cs.getD i caZ) (lS c op) (w.tmod c.ways)),s.hs,s.n,s.tr,s.odd⟩:=by
                    unfold c9 b8v;rw [if_neg hfin,if_neg hh0,eO,if_neg h4,if_neg hdn,if_neg h0,if_neg (fun g=>he (eAsk.symm.trans g)),if_pos (eAsk.trans h5),eA,if_neg hbn,bM];rfl
                  rw [eB,eS]
                  repeat' (first|refine go ?_|intro _|refine fH ?_|refine cM ?_|refine aD @hL ?_|refine aD @hLn ?_|refine aD @hKd ?_|refine aD @hAk ?_|refine aD @hSl ?_|refine aD @hE ?_|refine mH ?_ ?_|fail)
                  all_goals (apply aA rfl rfl bB)
                  all_goals first|exact ⟨x.pt,rfl,rfl⟩|(apply eU;(focus (exact aB));all_goals exact mG)
               · have eKe:gQ c (s.cs.getD i caZ) (lS c op) (w.tmod c.ways)=s.cs.getD i caZ:=by unfold gQ;rw [if_neg h6]
                 have hbf:mL c (s.cs.getD i caZ) (lS c op) (w.tmod c.ways)=false:=by unfold mL;exact decide_eq_false (fun g=>h6 g.1)
                 have hbn:¬mL c (s.cs.getD i caZ) (lS c op) (w.tmod c.ways)=true:=by rw [hbf];simp
                 simp only [eKe,hbf] at hE
                 have eB:fC c s i w=false:=by
                   unfold fC;rw [if_neg hfin,if_neg hh0,eO,if_neg h4,if_neg hdn,if_neg h0,if_neg (fun g=>he (eAsk.symm.trans g)),if_pos (eAsk.trans h5),eA,decide_eq_false h6];rfl
                 have eS:c9 c s i w=⟨s.ks.set i (s.ks.getD i coZ),s.cs.set i (s.cs.getD i caZ),s.hs,s.n,s.tr,s.odd⟩:=by
                   unfold c9 b8v;rw [if_neg hfin,if_neg hh0,eO,if_neg h4,if_neg hdn,if_neg h0,if_neg (fun g=>he (eAsk.symm.trans g)),if_pos (eAsk.trans h5),eA,if_neg hbn,eKe,bM];rfl
                 rw [eB,eS]
                 repeat' (first|refine go ?_|intro _|refine fH ?_|refine cM ?_|refine aD @hL ?_|refine aD @hLn ?_|refine aD @hKd ?_|refine aD @hAk ?_|refine aD @hSl ?_|refine aD @hE ?_|refine mH ?_ ?_|fail)
                 all_goals (apply aA rfl rfl bB)
                 all_goals first|exact ⟨x.pt,rfl,rfl⟩|(apply eU;(focus (exact aB));all_goals exact mG)
             · have eB:fC c s i w=false:=by
                 unfold fC;rw [if_neg hfin,if_neg hh0,eO,if_neg h4,if_neg hdn,if_neg h0,if_neg (fun g=>he (eAsk.symm.trans g)),if_neg (fun g=>h5 (eAsk.symm.trans g))]
               have eS:c9 c s i w=⟨s.ks.set i (s.ks.getD i coZ),s.cs.set i (s.cs.getD i caZ),s.hs,s.n,s.tr,s.odd⟩:=by
                 unfold c9;rw [if_neg hfin,if_neg hh0,eO,if_neg h4,if_neg hdn,if_neg h0,if_neg (fun g=>he (eAsk.symm.trans g)),if_neg (fun g=>h5 (eAsk.symm.trans g)),bM,bM]
               rw [eB,eS]
               repeat' (first|refine go ?_|intro _|refine fH ?_|refine cM ?_|refine aD @hL ?_|refine aD @hLn ?_|refine aD @hKd ?_|refine aD @hAk ?_|refine mH ?_ ?_|fail)
               all_goals (apply aA rfl rfl bB)
               all_goals first|exact ⟨x.pt,rfl,rfl⟩|(apply eU;(focus (exact aB));all_goals exact mG)
end
end Go.Sx
