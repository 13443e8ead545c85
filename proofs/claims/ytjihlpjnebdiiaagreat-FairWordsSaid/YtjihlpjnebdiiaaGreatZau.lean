/- Mw1: several of my texts as one. My own work. -/
import Derived.Test.YtjihlpjnebdiiaaGreatZat
set_option linter.unusedVariables false
set_option linter.unusedSectionVars false
set_option linter.unusedSimpArgs false
set_option maxRecDepth 100000
set_option maxHeartbeats 4000000
namespace Go.Sx
open Go Go.Proofs
section
theorem nI {l:List Nat} {i:Nat} (h:i<l.length):l.getD i 0=l[i]:=by rw [List.getD_eq_getElem?_getD,List.getElem?_eq_getElem h];rfl
abbrev f1k (b:Nat) (c:Cfg) (s:MaS) (x:MaX) (i:Nat) (hk:i<x.kb.length) (ha:i<x.ab.length) (L:List HP):List HP:=MC b c s.odd x.kb.length x.ab.length x.hb.length s.tr.length x.pk x.pa x.ph x.pt x.bn::f2o x.pk x.kb::f1m x.pa x.ab::f4t x.ph x.hb::nQ x.bn c s.n::f1t x.pt s.tr
  ::b2d x.kb[i] (s.ks.getD i coZ)::b2h x.ab[i] c (i:Int) (s.cs.getD i caZ)::All (((List.range x.kb.length).eraseIdx i).map (a0i x s))::All (((List.range x.ab.length).eraseIdx i).map (uS c x s))::All ((List.range x.hb.length).map (uT c x s))::L
theorem d3c {b:Nat} {c:Cfg} {s:MaS} {x:MaX} {i:Nat} {L:List HP} (hk:i<x.kb.length) (ha:i<x.ab.length):Ent (e6m b c s x L) (f1k b c s x i hk ha L):=by
  refine Ent.cons (Ent.cons (Ent.cons (Ent.cons (Ent.cons (Ent.cons ?_)))))
  refine Ent.trans (xM hk) ?_
  have e1:a0i x s i=b2d x.kb[i] (s.ks.getD i coZ):=by unfold a0i;rw [nI hk]
  rw [e1]
  refine Ent.cons ?_
  refine Ent.trans (Ent.cons (xM ha)) ?_
  have e2:uS c x s i=b2h x.ab[i] c (i:Int) (s.cs.getD i caZ):=by unfold uS;rw [nI ha]
  rw [e2]
  exact iA (List.Perm.swap _ _ _)
theorem fH {b:Nat} {c:Cfg} {s s':MaS} {x:MaX} {i:Nat} {hk:i<x.kb.length} {ha:i<x.ab.length} {L M:List HP} {pt:Option Addr×Nat} {k:CoS} {a:CaS} {n:Nets} {tr:List Com} {odd:Int}
    (h:Ent L (MC b c odd x.kb.length x.ab.length x.hb.length tr.length x.pk x.pa x.ph pt x.bn::f2o x.pk x.kb::f1m x.pa x.ab::f4t x.ph x.hb::nQ x.bn c n::f1t pt tr
     ::b2d x.kb[i] k::b2h x.ab[i] c (i:Int) a::All (((List.range x.kb.length).eraseIdx i).map (a0i x s))::All (((List.range x.ab.length).eraseIdx i).map (uS c x s))::All ((List.range x.hb.length).map (uT c x s))::M))
    (hf:a2v c s x) (e1:s'.ks=s.ks.set i k) (e2:s'.cs=s.cs.set i a) (e3:s'.hs=s.hs) (e4:s'.n=n) (e5:s'.tr=tr) (e6:s'.odd=odd):Ent L (i9 b c s' { x with pt:=pt}::M):=by
  obtain ⟨ks,cs,hs,nn,tt,oo⟩:=s'
  dsimp only at e1 e2 e3 e4 e5 e6
  subst e1 e2 e3 e4 e5 e6
  obtain ⟨⟨f1,f2,f3⟩,f4,f5⟩:=hf
  refine eV (Ent.trans h ?_) ⟨⟨by dsimp only;rw [List.length_set];exact f1,by dsimp only;rw [List.length_set];exact f2,f3⟩,f4,f5⟩
  refine Ent.cons (Ent.cons (Ent.cons (Ent.cons (Ent.cons (Ent.cons ?_)))))
  have e1:b2d x.kb[i] k=a0i { x with pt:=pt} ⟨s.ks.set i k,s.cs.set i a,s.hs,nn,tt,oo⟩ i:=by unfold a0i;dsimp only;rw [nI hk,kX,if_pos ⟨rfl,om⟩]
  have e2:b2h x.ab[i] c (i:Int) a=uS c { x with pt:=pt} ⟨s.ks.set i k,s.cs.set i a,s.hs,nn,tt,oo⟩ i:=by unfold uS;dsimp only;rw [nI ha,kX,if_pos ⟨rfl,om⟩]
  rw [e1,e2]
  refine Ent.trans (iA (List.Perm.trans (List.Perm.cons _ (List.Perm.swap _ _ _)) (List.Perm.refl _))) ?_
  refine Ent.trans (a2w (g:=a0i { x with pt:=pt} ⟨s.ks.set i k,s.cs.set i a,s.hs,nn,tt,oo⟩) hk fun j hj hne=>?_) (Ent.cons ?_)
  · unfold a0i;dsimp only;rw [kX,if_neg (fun h=>hne h.1)]
  · refine Ent.trans (a2w (g:=uS c { x with pt:=pt} ⟨s.ks.set i k,s.cs.set i a,s.hs,nn,tt,oo⟩) ha fun j hj hne=>?_) (Ent.cons ?_)
    · unfold uS;dsimp only;rw [kX,if_neg (fun h=>hne h.1)]
    · exact Ent.refl
section
variable {b:Nat} {c:Cfg} {s:MaS} {x:MaX} {P:Program} {N:Nat} {env:Env} {L:List HP} {Q:Exit→Act→World→Prop}
theorem mI {co:Code} {i:Nat} (hk:i<x.kb.length) (ha:i<x.ab.length) (h:a2v c s x→WC P N co env (f1k b c s x i hk ha L) Q):WC P N co env (i9 b c s x::L) Q:=
  i6 fun hf a w hA hw=>h hf a w hA ((d3c hk ha).sat hw)
end
attribute [local irreducible] Exit.then Exit.inBlock Code.wp WC WO WE WQ V bT vL fP cY eI v8 IntKind.wrap WR Code.rounds WT KO
theorem d7w {c:Cfg} {n:Nat} {k:CaS} (h:lD c n k) (hn:n≤1000000000000):∀ m∈k.mis,-9223372036854775808≤m.got∧m.got≤9223372036854775806:=fun m hm=>by
  have:=(h.1.2.2 m hm).2.1
  unfold e6n at this
  have:=(h.1.2.2 m hm).2.2;omega
theorem e6r {x:Op3} (o1:sQ x=true):x.wf:=by
  unfold sQ at o1
  unfold Op3.wf nA
  split at o1
  · simp at o1;omega
  · split at o1
    · simp at o1;omega
    · split at o1
      · simp at o1;omega
      · cases o1
theorem c6e {c:Cfg} {n:Nat} {s:MaS} (hl:MaL c n s) {i:Int} (h:gH (cO s i)=true):(bV (cO s i)).wf:=e6r (c2l hl h).1
theorem gG {Q P:Prop} (k:Q) (h:Hid Q→P:=by
  intro k
  first
  |(refine aI ?_;refine uU (id:=15) (.only [5,6,11]) (pl:= .p 0 <| .p 1 <| .r 2 <| .r 4 <| .e true [(3,.e true [(5,.n [6,11] <| .e true [(6,.n [11] <| .p 7 <| .p 8 <| .p 9 <| .e true [(10,.e true [(11,.n [] <| .p 12 <| .done)])]),(10,.e true [(6,.n [11] <| .p 7 <| .p 8 <| .p 9 <| .e true [(11,.n [] <| .p 12 <| .done)])])]),(10,.e true [(5,.n [6,11] <| .e true [(6,.n [11] <| .p 7 <| .p 8 <| .p 9 <| .e true [(11,.n [] <| .p 12 <| .done)])])])]),(10,.e true [(3,.e true [(5,.n [6,11] <| .e true [(6,.n [11] <| .p 7 <| .p 8 <| .p 9 <| .e true [(11,.n [] <| .p 12 <| .done)])])])])]) k.out)
  |(refine aI ?_;refine uU (id:=20) (.only []) (pl:= .p 0 <| .p 1 <| .p 2 <| .p 4 <| .r 3 <| .r 5 <| .e true [(6,.e true [(7,.p 8 <| .p 9 <| .p 10 <| .p 11 <| .p 12 <| .p 13 <| .p 14 <| .p 15 <| .p 16 <| .done)])]) k.out)):P:=h ⟨k⟩
theorem e7x {F:List HP} {b:Nat} {c:Cfg} {s:MaS} {x:MaX} {i n:Nat} {w:Int} (hw:c.wf) (hl:MaL c n s) (hn:n≤1000000000000) (ht:s.tr.length≤1000000000000) (hi:(i:Int)<c.cores) (hiw:nA w) (hx:a2v c s x) :
    FnF Tryz.prog 52 [.pointer (some ⟨b,0,none⟩),.int .i64 i,.int .i64 w] [i9 b c s x] F (fun r L'=>∃ pt:Option Addr×Nat,r= .bool (dO c s i w)∧L'=[i9 b c (c8 c s i w) { x with pt:=pt}]):=by
  obtain ⟨⟨f1,f2,f3⟩,⟨f4,f5,f6⟩,f7⟩:=id hx
  have hk:i<x.kb.length:=by omega
  have ha:i<x.ab.length:=by omega
  have hX:=hl.cai (i:Int)
  have eA:bI s (i:Int)=s.cs.getD i caZ:=rfl
  have eK:cO s (i:Int)=s.ks.getD i coZ:=rfl
  have hgk:=jT hk
  have hga:=jT ha
  have hF:=fun F=>c9j (F:=F) (b:=x.ab[i]) (c:=c) (core:=(i:Int)) (k:=s.cs.getD i caZ) (fun m hm=>(hX.1.2.2 m hm).1)
  have hH:=fun F=>b2s (F:=F) (b:=x.kb[i]) (l:=(s.ks.getD i coZ).l) (rs:=(s.ks.getD i coZ).rs) (tr:=(s.ks.getD i coZ).tr)
  have hL:=fun F n k=>wY (F:=F) (b:=x.bn) (c:=c) (n:=n) (k:=k)
  have hSn:=fun F odd n m=>a8a (F:=F) (b:=b) (c:=c) (odd:=odd) (nk:=x.kb.length) (na:=x.ab.length) (nh:=x.hb.length) (nt:=s.tr.length) (pk:=x.pk) (pa:=x.pa) (ph:=x.ph) (pt:=x.pt) (bn:=x.bn) (n:=n) (m:=m) hw
  refine FnF.mk' Tryz.func52 rfl rfl Tryz.ntmps52 rfl ?_
  refine mI hk ha fun hf=>?_
  (first|(refine fJ (.slice x.pa.1 x.ab.length x.pa.2) inferInstance (om) ?_;intro _)|(refine fM (.slice x.pa.1 x.ab.length x.pa.2) inferInstance (om) ?_;intro _))
  (first|(refine fJ (.slice x.pk.1 x.kb.length x.pk.2) inferInstance (om) ?_;intro _)|(refine fM (.slice x.pk.1 x.kb.length x.pk.2) inferInstance (om) ?_;intro _))
  have hM:=fun F=>a3k (F:=F) (b:=x.ab[i]) (c:=c) (core:=(i:Int)) (k:=s.cs.getD i caZ)
  have hDo:=fun F (hh:¬(s.ks.getD i coZ).rs.length=(s.ks.getD i coZ).l.length) x' (hx':x'.wf)=>c7f (F:=F) (b:=b) (c:=c) (odd:=s.odd) (nh:=x.hb.length) (pk:=x.pk) (pa:=x.pa) (ph:=x.ph) (pt:=x.pt) (bn:=x.bn) (kb:=x.kb) (ab:=x.ab) (k:=s.ks.getD i coZ) (a:=s.cs.getD i caZ) (tr:=s.tr) (x:=x') hk ha hh ht hx'
  have hCm:=fun F (hh:¬(s.ks.getD i coZ).rs.length=(s.ks.getD i coZ).l.length) x' n'=>b3o (F:=F) (b:=b) (c:=c) (odd:=s.odd) (na:=x.ab.length) (nh:=x.hb.length) (pk:=x.pk) (pa:=x.pa) (ph:=x.ph) (pt:=x.pt) (bn:=x.bn) (kb:=x.kb) (k:=s.ks.getD i coZ) (tr:=s.tr) (x:=x') (n:=n') hk hh ht
  have hLn:=fun F x' (hx':Op3.wf x') odd nt pt=>b5u (F:=F) (b:=b) (c:=c) (odd:=odd) (nk:=x.kb.length) (na:=x.ab.length) (nh:=x.hb.length) (nt:=nt) (pk:=x.pk) (pa:=x.pa) (ph:=x.ph) (pt:=pt) (bn:=x.bn) (x:=x') hw hx'
  have hE:=fun F st w'=>d3d (F:=F) (b:=x.ab[i]) (c:=c) (core:=(i:Int)) (s:=st) (w:=w') (k:=s.cs.getD i caZ) hX.1.1
  by_cases hfin:0<cB c s.n 2∧gD (bI s i)=true
  · have eB:dO c s i w=s4 c s (jG c i (bI s i)):=by unfold dO;rw [if_pos hfin]
    have eS:c8 c s i w=⟨s.ks.set i (s.ks.getD i coZ),s.cs.set i (dY c (s.cs.getD i caZ)),s.hs,eJ c s.n (jG c i (s.cs.getD i caZ)),s.tr,s.odd⟩:=by unfold c8;rw [if_pos hfin,bP];rfl
    rw [eB,eS]
    obtain ⟨h2,hfb⟩:=hfin
    rw [eA] at hfb
    simp only [hfb] at hF
    repeat first|refine go ?_|intro _|refine gG ?_|refine dM ?_|refine aD @hF ?_|refine aD @hL ?_|refine aD @hSn ?_
    (apply aA rfl rfl bH)
    · exact ⟨x.pt,rfl,rfl⟩
    · (apply fH;(focus (exact aB));all_goals exact mZ)
  · have hpre:∀ G:Prop,(0<cB c s.n 2→gD (s.cs.getD i caZ)=false→(∀ F,FnF Tryz.prog 109 [.pointer (some ⟨x.ab[i],0,none⟩)] [b2h x.ab[i] c (i:Int) (s.cs.getD i caZ)] F (fun r L'=>r= .tuple [mv (jG c i (s.cs.getD i caZ)),.bool false].toArray∧L'=[b2h x.ab[i] c (i:Int) (s.cs.getD i caZ)]))→G)→(¬0<cB c s.n 2→G)→G:=fun G g1 g2=>by
      by_cases h2:0<cB c s.n 2
      · have hfb:gD (s.cs.getD i caZ)=false:=by cases e:gD (s.cs.getD i caZ) with|false=>rfl|true=>exact absurd ⟨h2,e⟩ hfin
        have eK':dY c (s.cs.getD i caZ)=s.cs.getD i caZ:=by unfold dY;rw [hfb];rfl
        simp only [hfb,eK'] at hF
        exact g1 h2 hfb hF
      · exact g2 h2
    clear hF
    cases hh:gH (cO s i) with
    |false=>
     have eB:dO c s i w=false:=by unfold dO;rw [if_neg hfin,if_pos hh]
     have eS:c8 c s i w=⟨s.ks.set i (s.ks.getD i coZ),s.cs.set i (s.cs.getD i caZ),s.hs,s.n,s.tr,s.odd⟩:=by unfold c8;rw [if_neg hfin,if_pos hh,bP,bP]
     rw [eB,eS]
     have hh':qA (s.ks.getD i coZ).l (s.ks.getD i coZ).rs=false:=hh
     simp only [hh'] at hH
     refine hpre _ (fun h2 hfb hF=>?_) (fun h2=>?_)
     all_goals
       repeat first|refine go ?_|intro _|refine gG ?_|refine dM ?_|refine aD @hF ?_|refine aD @hL ?_|refine aD @hH ?_
       (apply aA rfl rfl bH)
       · exact ⟨x.pt,rfl,rfl⟩
       · (apply fH;(focus (exact aB));all_goals exact mZ)
    |true=>
     have hh0:¬gH (cO s i)=false:=by rw [hh];simp
     have hh':qA (s.ks.getD i coZ).l (s.ks.getD i coZ).rs=true:=hh
     have hne:¬(s.ks.getD i coZ).rs.length=(s.ks.getD i coZ).l.length:=by simpa [qA] using hh'
     have hwf:(zV (s.ks.getD i coZ).l (s.ks.getD i coZ).rs).wf:=c6e hl hh
     have eO:bV (cO s i)=zV (s.ks.getD i coZ).l (s.ks.getD i coZ).rs:=rfl
     simp only [hh'] at hH
     generalize zV (s.ks.getD i coZ).l (s.ks.getD i coZ).rs=op at *
     have hDo:=fun F=>hDo F hne op hwf
     have hCm:=fun F=>hCm F hne op 0
     have hLn:=fun F=>hLn F op hwf
     have hAk:=fun F=>d7v (F:=F) (b:=x.ab[i]) (c:=c) (core:=(i:Int)) (line:=bB c op) (kind:=bD op) (k:=s.cs.getD i caZ) sW
     have hKd:=fun F=>c7e (F:=F) (x:=op)
     have hSl:=fun F=>n3 (F:=F) (c:=c) (a:=bB c op) hw sW
     by_cases h4:op.kind=4
     · have hM:=fun F=>a3k (F:=F) (b:=x.ab[i]) (c:=c) (core:=(i:Int)) (k:=s.cs.getD i caZ)
       by_cases hm:(s.cs.getD i caZ).mis.length=0
       · have eB:dO c s i w=true:=by unfold dO;rw [if_neg hfin,if_neg hh0,eO,if_pos h4,eA];exact decide_eq_true hm
         have eS:c8 c s i w=⟨s.ks.set i (sB (s.ks.getD i coZ) 0),s.cs.set i (s.cs.getD i caZ),s.hs,s.n,s.tr++[⟨i,(s.ks.getD i coZ).rs.length,op,0⟩],s.odd⟩:=by unfold c8;rw [if_neg hfin,if_neg hh0,eO,if_pos h4,eA,if_pos hm,bP];rfl
         rw [eB,eS]
         refine hpre _ (fun h2 hfb hF=>?_) (fun h2=>?_)
         all_goals
           repeat first|refine go ?_|intro _|refine gG ?_|refine dM ?_|refine aD @hF ?_|refine aD @hL ?_|refine aD @hH ?_|refine aD @hM ?_|refine aD @hCm ?_
           rename_i pt'
           (apply aA rfl rfl bH)
           · exact ⟨pt',rfl,rfl⟩
           · (apply fH;(focus (exact aB));all_goals exact mZ)
       · have eB:dO c s i w=false:=by unfold dO;rw [if_neg hfin,if_neg hh0,eO,if_pos h4,eA];exact decide_eq_false hm
         have eS:c8 c s i w=⟨s.ks.set i (s.ks.getD i coZ),s.cs.set i (s.cs.getD i caZ),s.hs,s.n,s.tr,s.odd⟩:=by unfold c8;rw [if_neg hfin,if_neg hh0,eO,if_pos h4,eA,if_neg hm,bP,bP]
         rw [eB,eS]
         refine hpre _ (fun h2 hfb hF=>?_) (fun h2=>?_)
         all_goals
           repeat first|refine go ?_|intro _|refine gG ?_|refine dM ?_|refine aD @hF ?_|refine aD @hL ?_|refine aD @hH ?_|refine aD @hM ?_
           (apply aA rfl rfl bH)
           · exact ⟨x.pt,rfl,rfl⟩
           · (apply fH;(focus (exact aB));all_goals exact mZ)
     · by_cases hd:mW c (s.cs.getD i caZ) op=0
       · have hdb:lG c s i op=true:=decide_eq_true hd
         have eB:dO c s i w=true:=by unfold dO;rw [if_neg hfin,if_neg hh0,eO,if_neg h4,if_pos hdb]
         have eS:c8 c s i w=⟨s.ks.set i (f1s c (s.cs.getD i caZ) (s.ks.getD i coZ) op),s.cs.set i (dR c (s.cs.getD i caZ) op),s.hs,s.n,f1l c (s.cs.getD i caZ) (s.ks.getD i coZ) i op s.tr,s.odd⟩:=by
           unfold c8 jE f1s f1l;rw [if_neg hfin,if_neg hh0,eO,if_neg h4,if_pos hdb,if_pos hdb,if_pos hd,if_pos hd];rfl
         rw [eB,eS]
         simp only [hd,decide_true] at hDo
         refine hpre _ (fun h2 hfb hF=>?_) (fun h2=>?_)
         all_goals
           repeat first|refine go ?_|intro _|refine gG ?_|refine dM ?_|refine aD @hF ?_|refine aD @hL ?_|refine aD @hH ?_|refine aD @hDo ?_
           rename_i pt'
           (apply aA rfl rfl bH)
           · exact ⟨pt',rfl,rfl⟩
           · (apply fH;(focus (exact aB));all_goals exact mZ)
       · have hdb:lG c s i op=false:=decide_eq_false hd
         have hdn:¬lG c s i op=true:=by rw [hdb];simp
         clear hDo hCm hM
         have hDn:=fun F=>c3p (F:=F) (b:=b) (c:=c) (odd:=s.odd) (nk:=x.kb.length) (nh:=x.hb.length) (nt:=s.tr.length) (pk:=x.pk) (pa:=x.pa) (ph:=x.ph) (pt:=x.pt) (bn:=x.bn) (ab:=x.ab) (a:=s.cs.getD i caZ) (x:=op) ha hwf hd
         by_cases h0:cB c s.n 0=0
         · have eB:dO c s i w=false:=by unfold dO;rw [if_neg hfin,if_neg hh0,eO,if_neg h4,if_neg hdn,if_pos h0]
           have eS:c8 c s i w=⟨s.ks.set i (s.ks.getD i coZ),s.cs.set i (s.cs.getD i caZ),s.hs,s.n,s.tr,s.odd⟩:=by unfold c8;rw [if_neg hfin,if_neg hh0,eO,if_neg h4,if_neg hdn,if_pos h0,bP,bP]
           rw [eB,eS]
           refine hpre _ (fun h2 hfb hF=>?_) (fun h2=>?_)
           all_goals
             repeat first|refine go ?_|intro _|refine gG ?_|refine dM ?_|refine aD @hF ?_|refine aD @hL ?_|refine aD @hH ?_|refine aD @hDn ?_
             (apply aA rfl rfl bH)
             · exact ⟨x.pt,rfl,rfl⟩
             · (apply fH;(focus (exact aB));all_goals exact mZ)
         · apply b5j (P:=Tryz.prog) (fun q:Nat=>[(0,.pointer (some ⟨b,0,none⟩)),(1,.int .i64 i),(2,.int .i64 w),(6,.bool false),(7,.pointer (some ⟨x.ab[i],0,none⟩)),(10,.pointer (some ⟨q,0,none⟩))]) (fun q=>Cells q 58 (oc op)::f1k b c s x i hk ha F) (fun _=>True)
           · intro join
             refine hpre _ (fun h2 hfb hF=>?_) (fun h2=>?_)
             all_goals
               repeat first|refine go ?_|intro _|refine aD @hF ?_|refine aD @hL ?_|refine aD @hH ?_|refine aD @hDn ?_
               exact join _ _ _ trivial (by exact m9) (by exact aB)
           intro q _
           have eAsk:nC c s i op=dV c (s.cs.getD i caZ) (bB c op) (bD op):=rfl
           by_cases he:dV c (s.cs.getD i caZ) (bB c op) (bD op)=0
           · have eB:dO c s i w=decide (vK c s.n (d9 c i (s.cs.getD i caZ) (bB c op) (bD op))=0):=by
               unfold dO;rw [if_neg hfin,if_neg hh0,eO,if_neg h4,if_neg hdn,if_neg h0,if_pos (eAsk.trans he)];rfl
             have eS:c8 c s i w=⟨s.ks.set i (s.ks.getD i coZ),s.cs.set i (bM c (s.cs.getD i caZ) (bB c op) (bD op)),s.hs,eJ c s.n (d9 c i (s.cs.getD i caZ) (bB c op) (bD op)),s.tr,s.odd⟩:=by
               unfold c8;rw [if_neg hfin,if_neg hh0,eO,if_neg h4,if_neg hdn,if_neg h0,if_pos (eAsk.trans he),bP];rfl
             rw [eB,eS]
             simp only [he] at hAk
             repeat' (first|refine go ?_|intro _|refine gG ?_|refine dM ?_|refine aD @hL ?_|refine aD @hLn ?_|refine aD @hKd ?_|refine aD @hAk ?_|refine aD @hSn ?_|refine nV ?_ ?_|fail)
             all_goals (apply aA rfl rfl bH)
             all_goals first|exact ⟨x.pt,rfl,rfl⟩|(apply fH;(focus (exact aB));all_goals exact mZ)
           · have eKn:bM c (s.cs.getD i caZ) (bB c op) (bD op)=s.cs.getD i caZ:=by unfold bM;rw [if_neg he]
             simp only [eKn] at hAk
             by_cases h5:dV c (s.cs.getD i caZ) (bB c op) (bD op)=5
             · simp only [h5] at hAk
               have eEv:eU c op=nK c (bB c op):=rfl
               have hE:=fun F=>hE F (eU c op) (w.tmod c.ways)
               have hwy:=(bG f7).2.2.2.2.2
               by_cases h6:lM c (s.cs.getD i caZ) (eU c op) (w.tmod c.ways)=0
               · simp only [h6] at hE
                 cases hb:kZ c (s.cs.getD i caZ) (eU c op) (w.tmod c.ways) with
                 |true=>
                  simp only [hb] at hE
                  have eB:dO c s i w=decide (vK c s.n (mV c i (s.cs.getD i caZ) (eU c op) (w.tmod c.ways))=0):=by
                    unfold dO;rw [if_neg hfin,if_neg hh0,eO,if_neg h4,if_neg hdn,if_neg h0,if_neg (fun g=>he (eAsk.symm.trans g)),if_pos (eAsk.trans h5),eA,h6,hb];rfl
                  have eS:c8 c s i w=⟨s.ks.set i (s.ks.getD i coZ),s.cs.set i (d5 c (s.cs.getD i caZ) (eU c op) (w.tmod c.ways)),s.hs,eJ c s.n (mV c i (s.cs.getD i caZ) (eU c op) (w.tmod c.ways)),s.tr,s.odd⟩:=by
                    unfold c8 a7f;rw [if_neg hfin,if_neg hh0,eO,if_neg h4,if_neg hdn,if_neg h0,if_neg (fun g=>he (eAsk.symm.trans g)),if_pos (eAsk.trans h5),eA,if_pos hb,bP];rfl
                  rw [eB,eS]
                  repeat' (first|refine go ?_|intro _|refine gG ?_|refine dM ?_|refine aD @hL ?_|refine aD @hLn ?_|refine aD @hKd ?_|refine aD @hAk ?_|refine aD @hSl ?_|refine aD @hE ?_|refine aD @hSn ?_|refine nV ?_ ?_|fail)
                  all_goals (apply aA rfl rfl bH)
                  all_goals first|exact ⟨x.pt,rfl,rfl⟩|(apply fH;(focus (exact aB));all_goals exact mZ)
                 |false=>
                  simp only [hb] at hE
                  have hbn:¬kZ c (s.cs.getD i caZ) (eU c op) (w.tmod c.ways)=true:=by rw [hb];simp
                  have eB:dO c s i w=true:=by
                    unfold dO;rw [if_neg hfin,if_neg hh0,eO,if_neg h4,if_neg hdn,if_neg h0,if_neg (fun g=>he (eAsk.symm.trans g)),if_pos (eAsk.trans h5),eA,h6,hb];rfl
                  have eS:c8 c s i w=⟨s.ks.set i (s.ks.getD i coZ),s.cs.set i (d5 c (s.cs.getD i caZ) (eU c op) (w.tmod c.ways)),s.hs,s.n,s.tr,s.odd⟩:=by
                    unfold c8 a7f;rw [if_neg hfin,if_neg hh0,eO,if_neg h4,if_neg hdn,if_neg h0,if_neg (fun g=>he (eAsk.symm.trans g)),if_pos (eAsk.trans h5),eA,if_neg hbn,bP];rfl
                  rw [eB,eS]
                  repeat' (first|refine go ?_|intro _|refine gG ?_|refine dM ?_|refine aD @hL ?_|refine aD @hLn ?_|refine aD @hKd ?_|refine aD @hAk ?_|refine aD @hSl ?_|refine aD @hE ?_|refine nV ?_ ?_|fail)
                  all_goals (apply aA rfl rfl bH)
                  all_goals first|exact ⟨x.pt,rfl,rfl⟩|(apply fH;(focus (exact aB));all_goals exact mZ)
               · have eKe:d5 c (s.cs.getD i caZ) (eU c op) (w.tmod c.ways)=s.cs.getD i caZ:=by unfold d5;rw [if_neg h6]
                 have hbf:kZ c (s.cs.getD i caZ) (eU c op) (w.tmod c.ways)=false:=by unfold kZ;exact decide_eq_false (fun g=>h6 g.1)
                 have hbn:¬kZ c (s.cs.getD i caZ) (eU c op) (w.tmod c.ways)=true:=by rw [hbf];simp
                 simp only [eKe,hbf] at hE
                 have eB:dO c s i w=false:=by
                   unfold dO;rw [if_neg hfin,if_neg hh0,eO,if_neg h4,if_neg hdn,if_neg h0,if_neg (fun g=>he (eAsk.symm.trans g)),if_pos (eAsk.trans h5),eA,decide_eq_false h6];rfl
                 have eS:c8 c s i w=⟨s.ks.set i (s.ks.getD i coZ),s.cs.set i (s.cs.getD i caZ),s.hs,s.n,s.tr,s.odd⟩:=by
                   unfold c8 a7f;rw [if_neg hfin,if_neg hh0,eO,if_neg h4,if_neg hdn,if_neg h0,if_neg (fun g=>he (eAsk.symm.trans g)),if_pos (eAsk.trans h5),eA,if_neg hbn,eKe,bP];rfl
                 rw [eB,eS]
                 repeat' (first|refine go ?_|intro _|refine gG ?_|refine dM ?_|refine aD @hL ?_|refine aD @hLn ?_|refine aD @hKd ?_|refine aD @hAk ?_|refine aD @hSl ?_|refine aD @hE ?_|refine nV ?_ ?_|fail)
                 all_goals (apply aA rfl rfl bH)
                 all_goals first|exact ⟨x.pt,rfl,rfl⟩|(apply fH;(focus (exact aB));all_goals exact mZ)
             · have eB:dO c s i w=false:=by
                 unfold dO;rw [if_neg hfin,if_neg hh0,eO,if_neg h4,if_neg hdn,if_neg h0,if_neg (fun g=>he (eAsk.symm.trans g)),if_neg (fun g=>h5 (eAsk.symm.trans g))]
               have eS:c8 c s i w=⟨s.ks.set i (s.ks.getD i coZ),s.cs.set i (s.cs.getD i caZ),s.hs,s.n,s.tr,s.odd⟩:=by
                 unfold c8;rw [if_neg hfin,if_neg hh0,eO,if_neg h4,if_neg hdn,if_neg h0,if_neg (fun g=>he (eAsk.symm.trans g)),if_neg (fun g=>h5 (eAsk.symm.trans g)),bP,bP]
               rw [eB,eS]
               repeat' (first|refine go ?_|intro _|refine gG ?_|refine dM ?_|refine aD @hL ?_|refine aD @hLn ?_|refine aD @hKd ?_|refine aD @hAk ?_|refine nV ?_ ?_|fail)
               all_goals (apply aA rfl rfl bH)
               all_goals first|exact ⟨x.pt,rfl,rfl⟩|(apply fH;(focus (exact aB));all_goals exact mZ)
end
end Go.Sx
