/- Mw1: several of my texts as one. My own work. -/
import Derived.Test.YtjihlpjnebdiiabGreatZbb
import Derived.Test.YtjihlpjnebdiiabGreatZbc
set_option linter.unusedVariables false
set_option linter.unusedSectionVars false
set_option linter.unusedSimpArgs false
set_option maxRecDepth 100000
set_option maxHeartbeats 4000000
namespace Go.Sx
open Go Go.Proofs Tryz
section
theorem g8 {l:List Nat} {i:Nat} (h:i<l.length):l.getD i 0=l[i]:=by rw [List.getD_eq_getElem?_getD,List.getElem?_eq_getElem h];rfl
abbrev SK (b:Nat) (c:au) (s:cg) (x:fP) (i:Nat) (hk:i<x.kb.length) (ha:i<x.ab.length) (L:List HP):List HP:=MC b c s.aR x.kb.length x.ab.length x.hb.length s.tr.length x.pk x.pa x.ph x.pt x.bn::Mb x.pk x.kb::Ja x.pa x.ab::UL x.ph x.hb::j0 x.bn c s.n::J8 x.pt s.tr
  ::wC x.kb[i] (s.ks.getD i bQ)::oL x.ab[i] c (i:Int) (s.cs.getD i aL)::bZ (((List.range x.kb.length).eraseIdx i).map (rf x s))::bZ (((List.range x.ab.length).eraseIdx i).map (nL c x s))::bZ ((List.range x.hb.length).map (nM c x s))::L
theorem OA {b:Nat} {c:au} {s:cg} {x:fP} {i:Nat} {L:List HP} (hk:i<x.kb.length) (ha:i<x.ab.length):ai (Cw b c s x L) (SK b c s x i hk ha L):=by
  refine ai.cons (ai.cons (ai.cons (ai.cons (ai.cons (ai.cons ?_)))));refine ai.trans (oA hk) ?_;have e1:rf x s i=wC x.kb[i] (s.ks.getD i bQ):=by unfold rf;rw [g8 hk]
  rw [e1];refine ai.cons ?_;refine ai.trans (ai.cons (oA ha)) ?_;have e2:nL c x s i=oL x.ab[i] c (i:Int) (s.cs.getD i aL):=by unfold nL;rw [g8 ha]
  rw [e2];exact fD (List.Perm.swap _ _ _)
theorem gm {b:Nat} {c:au} {s s':cg} {x:fP} {i:Nat} {hk:i<x.kb.length} {ha:i<x.ab.length} {L M:List HP} {pt:Option Addr×Nat} {k:l7} {a:cT} {n:fK} {tr:List Aq} {aR:Int}
    (h:ai L (MC b c aR x.kb.length x.ab.length x.hb.length tr.length x.pk x.pa x.ph pt x.bn::Mb x.pk x.kb::Ja x.pa x.ab::UL x.ph x.hb::j0 x.bn c n::J8 pt tr
     ::wC x.kb[i] k::oL x.ab[i] c (i:Int) a::bZ (((List.range x.kb.length).eraseIdx i).map (rf x s))::bZ (((List.range x.ab.length).eraseIdx i).map (nL c x s))::bZ ((List.range x.hb.length).map (nM c x s))::M))
    (hf:gG c s x) (e1:s'.ks=s.ks.set i k) (e2:s'.cs=s.cs.set i a) (e3:s'.hs=s.hs) (e4:s'.n=n) (e5:s'.tr=tr) (e6:s'.aR=aR):ai L (dj b c s' { x with pt:=pt}::M):=by
  obtain ⟨ks,cs,hs,nn,tt,oo⟩:=s';dsimp only at e1 e2 e3 e4 e5 e6;subst e1 e2 e3 e4 e5 e6;obtain ⟨⟨f1,f2,f3⟩,f4,f5⟩:=hf;refine eI (ai.trans h ?_) ⟨⟨by dsimp only;rw [List.length_set];exact f1,by dsimp only;rw [List.length_set];exact f2,f3⟩,f4,f5⟩;refine ai.cons (ai.cons (ai.cons (ai.cons (ai.cons (ai.cons ?_)))));have e1:wC x.kb[i] k=rf { x with pt:=pt} ⟨s.ks.set i k,s.cs.set i a,s.hs,nn,tt,oo⟩ i:=by unfold rf;dsimp only;rw [g8 hk,fV,if_pos ⟨rfl,om⟩]
  have e2:oL x.ab[i] c (i:Int) a=nL c { x with pt:=pt} ⟨s.ks.set i k,s.cs.set i a,s.hs,nn,tt,oo⟩ i:=by unfold nL;dsimp only;rw [g8 ha,fV,if_pos ⟨rfl,om⟩]
  rw [e1,e2];refine ai.trans (fD (List.Perm.trans (List.Perm.cons _ (List.Perm.swap _ _ _)) (List.Perm.refl _))) ?_;refine ai.trans (qU (g:=rf { x with pt:=pt} ⟨s.ks.set i k,s.cs.set i a,s.hs,nn,tt,oo⟩) hk fun j hj kz=>?_) (ai.cons ?_)
  ·unfold rf;dsimp only;rw [fV,if_neg (fun h=>kz h.1)]
  ·refine ai.trans (qU (g:=nL c { x with pt:=pt} ⟨s.ks.set i k,s.cs.set i a,s.hs,nn,tt,oo⟩) ha fun j hj kz=>?_) (ai.cons ?_)
   ·unfold nL;dsimp only;rw [fV,if_neg (fun h=>kz h.1)]
   ·exact ai.refl
section
variable {b:Nat} {c:au} {s:cg} {x:fP} {P:Program} {N:Nat} {env:Env} {L:List HP} {Q:Exit→Act→World→Prop}
theorem mC {co:Code} {i:Nat} (hk:i<x.kb.length) (ha:i<x.ab.length) (h:gG c s x→WC P N co env (SK b c s x i hk ha L) Q):WC P N co env (dj b c s x::L) Q:=
  gZ fun hf a w hA hw=>h hf a w hA ((OA hk ha).gX hw)
end
attribute [local irreducible] Exit.then Exit.inBlock Code.wp WC WO WE WQ V aW dL Sat bz bK dU IntKind.wrap WR Code.rounds WT KO
theorem M0 {c:au} {n:Nat} {k:cT} (h:oH c n k) (hn:n≤1000000000000):∀ m∈k.aP,-9223372036854775808≤m.gY∧m.gY≤9223372036854775806:=fun m hm=>by
  have:=(h.1.2.2 m hm).2.1;unfold nf at this;have:=(h.1.2.2 m hm).2.2;omega
theorem R3 {x:c5} (o1:k8 x=true):x.wf:=by
  unfold k8 at o1;unfold c5.wf dZ;split at o1
  ·simp at o1;omega
  ·split at o1
   ·simp at o1;omega
   ·split at o1
    ·simp at o1;omega
    ·cases o1
theorem Ad {c:au} {n:Nat} {s:cg} (hl:eG c n s) {i:Int} (h:kZ (cI s i)=true):(gw (cI s i)).wf:=R3 (R2 hl h).1
theorem iO {Q P:Prop} (k:Q) (h:Hid Q→P:=by
  intro k
  first
  |(refine an ?_;refine bF (id:=15) (.only [5,6,11]) (pl:= .p 0 <| .p 1 <| .r 2 <| .r 4 <| .e true [(3,.e true [(5,.n [6,11] <| .e true [(6,.n [11] <| .p 7 <| .p 8 <| .p 9 <| .e true [(10,.e true [(11,.n [] <| .p 12 <| .done)])]),(10,.e true [(6,.n [11] <| .p 7 <| .p 8 <| .p 9 <| .e true [(11,.n [] <| .p 12 <| .done)])])]),(10,.e true [(5,.n [6,11] <| .e true [(6,.n [11] <| .p 7 <| .p 8 <| .p 9 <| .e true [(11,.n [] <| .p 12 <| .done)])])])]),(10,.e true [(3,.e true [(5,.n [6,11] <| .e true [(6,.n [11] <| .p 7 <| .p 8 <| .p 9 <| .e true [(11,.n [] <| .p 12 <| .done)])])])])]) k.out)
  |(refine an ?_;refine bF (id:=20) (.only []) (pl:= .p 0 <| .p 1 <| .p 2 <| .p 4 <| .r 3 <| .r 5 <| .e true [(6,.e true [(7,.p 8 <| .p 9 <| .p 10 <| .p 11 <| .p 12 <| .p 13 <| .p 14 <| .p 15 <| .p 16 <| .done)])]) k.out)):P:=h ⟨k⟩
theorem TY {F:List HP} {b:Nat} {c:au} {s:cg} {x:fP} {i n:Nat} {w:Int} (hw:c.wf) (hl:eG c n s) (hn:n≤1000000000000) (ht:s.tr.length≤1000000000000) (hi:(i:Int)<c.ax) (hiw:dZ w) (hx:gG c s x) :
    az prog 59 [.pointer (some ⟨b,0,none⟩),.int .i64 i,.int .i64 w] [dj b c s x] F (fun r L'=>∃ pt:Option Addr×Nat,r= .bool (cN c s i w)∧L'=[dj b c (cm c s i w) { x with pt:=pt}]):=by
  obtain ⟨⟨f1,f2,f3⟩,⟨f4,f5,f6⟩,f7⟩:=id hx;have hk:i<x.kb.length:=by omega
  have ha:i<x.ab.length:=by omega
  have hX:=hl.CN (i:Int);have eA:gF s (i:Int)=s.cs.getD i aL:=rfl;have eK:cI s (i:Int)=s.ks.getD i bQ:=rfl;have UM:=dB hk;have UN:=dB ha;have hF:=fun F=>Lm (F:=F) (b:=x.ab[i]) (c:=c) (ap:=(i:Int)) (k:=s.cs.getD i aL) (fun m hm=>(hX.1.2.2 m hm).1);have hH:=fun F=>De (F:=F) (b:=x.kb[i]) (l:=(s.ks.getD i bQ).l) (rs:=(s.ks.getD i bQ).rs) (tr:=(s.ks.getD i bQ).tr);have hL:=fun F n k=>tX (F:=F) (b:=x.bn) (c:=c) (n:=n) (k:=k);have As:=fun F aR n m=>Ab (F:=F) (b:=b) (c:=c) (aR:=aR) (nk:=x.kb.length) (na:=x.ab.length) (nh:=x.hb.length) (nt:=s.tr.length) (pk:=x.pk) (pa:=x.pa) (ph:=x.ph) (pt:=x.pt) (bn:=x.bn) (n:=n) (m:=m) hw;refine ay func59 ntmps59 ?_;refine mC hk ha fun hf=>?_;(first|(refine aX (.slice x.pa.1 x.ab.length x.pa.2) inferInstance (om) ?_;intro _)|(refine aY (.slice x.pa.1 x.ab.length x.pa.2) inferInstance (om) ?_;intro _));(first|(refine aX (.slice x.pk.1 x.kb.length x.pk.2) inferInstance (om) ?_;intro _)|(refine aY (.slice x.pk.1 x.kb.length x.pk.2) inferInstance (om) ?_;intro _));have hM:=fun F=>yw (F:=F) (b:=x.ab[i]) (c:=c) (ap:=(i:Int)) (k:=s.cs.getD i aL);have At:=fun F (hh:¬(s.ks.getD i bQ).rs.length=(s.ks.getD i bQ).l.length) x' (qF:x'.wf)=>JK (F:=F) (b:=b) (c:=c) (aR:=s.aR) (nh:=x.hb.length) (pk:=x.pk) (pa:=x.pa) (ph:=x.ph) (pt:=x.pt) (bn:=x.bn) (kb:=x.kb) (ab:=x.ab) (k:=s.ks.getD i bQ) (a:=s.cs.getD i aL) (tr:=s.tr) (x:=x') hk ha hh ht qF;have Hd:=fun F (hh:¬(s.ks.getD i bQ).rs.length=(s.ks.getD i bQ).l.length) x' n'=>Dy (F:=F) (b:=b) (c:=c) (aR:=s.aR) (na:=x.ab.length) (nh:=x.hb.length) (pk:=x.pk) (pa:=x.pa) (ph:=x.ph) (pt:=x.pt) (bn:=x.bn) (kb:=x.kb) (k:=s.ks.getD i bQ) (tr:=s.tr) (x:=x') (n:=n') hk hh ht;have Cx:=fun F x' (qF:c5.wf x') aR nt pt=>Aa (F:=F) (b:=b) (c:=c) (aR:=aR) (nk:=x.kb.length) (na:=x.ab.length) (nh:=x.hb.length) (nt:=nt) (pk:=x.pk) (pa:=x.pa) (ph:=x.ph) (pt:=pt) (bn:=x.bn) (x:=x') hw qF;have hE:=fun F st w'=>On (F:=F) (b:=x.ab[i]) (c:=c) (ap:=(i:Int)) (s:=st) (w:=w') (k:=s.cs.getD i aL) hX.1.1;by_cases fX:0<c8 c s.n 2∧gT (gF s i)=true
  ·have eB:cN c s i w=pz c s (iW c i (gF s i)):=by unfold cN;rw [if_pos fX]
   have eS:cm c s i w=⟨s.ks.set i (s.ks.getD i bQ),s.cs.set i (gU c (s.cs.getD i aL)),s.hs,fG c s.n (iW c i (s.cs.getD i aL)),s.tr,s.aR⟩:=by unfold cm;rw [if_pos fX,bf];rfl
   rw [eB,eS];obtain ⟨h2,rZ⟩:=fX;rw [eA] at rZ;simp only [rZ] at hF;repeat first|refine go ?_|intro _|refine iO ?_|refine av ?_|refine ae @hF ?_|refine ae @hL ?_|refine ae @As ?_
   (apply ad rfl rfl ar)
   ·exact ⟨x.pt,rfl,rfl⟩
   ·(apply gm;(focus (exact af));all_goals exact bu)
  ·have wE:∀ G:Prop,(0<c8 c s.n 2→gT (s.cs.getD i aL)=false→(∀ F,az prog 153 [.pointer (some ⟨x.ab[i],0,none⟩)] [oL x.ab[i] c (i:Int) (s.cs.getD i aL)] F (fun r L'=>r= .tuple [mv (iW c i (s.cs.getD i aL)),.bool false].toArray∧L'=[oL x.ab[i] c (i:Int) (s.cs.getD i aL)]))→G)→(¬0<c8 c s.n 2→G)→G:=fun G g1 g2=>by
     by_cases h2:0<c8 c s.n 2
     ·have rZ:gT (s.cs.getD i aL)=false:=by cases e:gT (s.cs.getD i aL) with|false=>rfl|true=>exact absurd ⟨h2,e⟩ fX
      have Xd:gU c (s.cs.getD i aL)=s.cs.getD i aL:=by unfold gU;rw [rZ];rfl
      simp only [rZ,Xd] at hF;exact g1 h2 rZ hF
     ·exact g2 h2
   clear hF;cases hh:kZ (cI s i) with
   |false=>
    have eB:cN c s i w=false:=by unfold cN;rw [if_neg fX,if_pos hh]
    have eS:cm c s i w=⟨s.ks.set i (s.ks.getD i bQ),s.cs.set i (s.cs.getD i aL),s.hs,s.n,s.tr,s.aR⟩:=by unfold cm;rw [if_neg fX,if_pos hh,bf,bf]
    rw [eB,eS];have zL:kY (s.ks.getD i bQ).l (s.ks.getD i bQ).rs=false:=hh;simp only [zL] at hH;refine wE _ (fun h2 rZ hF=>?_) (fun h2=>?_)
    all_goals
      repeat first|refine go ?_|intro _|refine iO ?_|refine av ?_|refine ae @hF ?_|refine ae @hL ?_|refine ae @hH ?_
      (apply ad rfl rfl ar)
      ·exact ⟨x.pt,rfl,rfl⟩
      ·(apply gm;(focus (exact af));all_goals exact bu)
   |true=>
    have pg:¬kZ (cI s i)=false:=by rw [hh];simp
    have zL:kY (s.ks.getD i bQ).l (s.ks.getD i bQ).rs=true:=hh;have kz:¬(s.ks.getD i bQ).rs.length=(s.ks.getD i bQ).l.length:=by simpa [kY] using zL
    have Ek:(kC (s.ks.getD i bQ).l (s.ks.getD i bQ).rs).wf:=Ad hl hh;have eO:gw (cI s i)=kC (s.ks.getD i bQ).l (s.ks.getD i bQ).rs:=rfl;simp only [zL] at hH;generalize kC (s.ks.getD i bQ).l (s.ks.getD i bQ).rs=op at *;have At:=fun F=>At F kz op Ek;have Hd:=fun F=>Hd F kz op 0;have Cx:=fun F=>Cx F op Ek;have x8:=fun F=>MR (F:=F) (b:=x.ab[i]) (c:=c) (ap:=(i:Int)) (aa:=bT c op) (ah:=bJ op) (k:=s.cs.getD i aL) jL;have CP:=fun F=>JJ (F:=F) (x:=op);have VB:=fun F=>nZ (F:=F) (c:=c) (a:=bT c op) hw jL;by_cases h4:op.ah=4
    ·have hM:=fun F=>yw (F:=F) (b:=x.ab[i]) (c:=c) (ap:=(i:Int)) (k:=s.cs.getD i aL);by_cases hm:(s.cs.getD i aL).aP.length=0
     ·have eB:cN c s i w=true:=by unfold cN;rw [if_neg fX,if_neg pg,eO,if_pos h4,eA];exact decide_eq_true hm
      have eS:cm c s i w=⟨s.ks.set i (u6 (s.ks.getD i bQ) 0),s.cs.set i (s.cs.getD i aL),s.hs,s.n,s.tr++[⟨i,(s.ks.getD i bQ).rs.length,op,0⟩],s.aR⟩:=by unfold cm;rw [if_neg fX,if_neg pg,eO,if_pos h4,eA,if_pos hm,bf];rfl
      rw [eB,eS];refine wE _ (fun h2 rZ hF=>?_) (fun h2=>?_)
      all_goals
        repeat first|refine go ?_|intro _|refine iO ?_|refine av ?_|refine ae @hF ?_|refine ae @hL ?_|refine ae @hH ?_|refine ae @hM ?_|refine ae @Hd ?_
        rename_i rr;(apply ad rfl rfl ar)
        ·exact ⟨rr,rfl,rfl⟩
        ·(apply gm;(focus (exact af));all_goals exact bu)
     ·have eB:cN c s i w=false:=by unfold cN;rw [if_neg fX,if_neg pg,eO,if_pos h4,eA];exact decide_eq_false hm
      have eS:cm c s i w=⟨s.ks.set i (s.ks.getD i bQ),s.cs.set i (s.cs.getD i aL),s.hs,s.n,s.tr,s.aR⟩:=by unfold cm;rw [if_neg fX,if_neg pg,eO,if_pos h4,eA,if_neg hm,bf,bf]
      rw [eB,eS];refine wE _ (fun h2 rZ hF=>?_) (fun h2=>?_)
      all_goals
        repeat first|refine go ?_|intro _|refine iO ?_|refine av ?_|refine ae @hF ?_|refine ae @hL ?_|refine ae @hH ?_|refine ae @hM ?_
        (apply ad rfl rfl ar)
        ·exact ⟨x.pt,rfl,rfl⟩
        ·(apply gm;(focus (exact af));all_goals exact bu)
    ·by_cases hd:kf c (s.cs.getD i aL) op=0
     ·have Jb:nP c s i op=true:=decide_eq_true hd;have eB:cN c s i w=true:=by unfold cN;rw [if_neg fX,if_neg pg,eO,if_neg h4,if_pos Jb]
      have eS:cm c s i w=⟨s.ks.set i (BQ c (s.cs.getD i aL) (s.ks.getD i bQ) op),s.cs.set i (ff c (s.cs.getD i aL) op),s.hs,s.n,Ar c (s.cs.getD i aL) (s.ks.getD i bQ) i op s.tr,s.aR⟩:=by
        unfold cm q5 BQ Ar;rw [if_neg fX,if_neg pg,eO,if_neg h4,if_pos Jb,if_pos Jb,if_pos hd,if_pos hd];rfl
      rw [eB,eS];simp only [hd,decide_true] at At;refine wE _ (fun h2 rZ hF=>?_) (fun h2=>?_)
      all_goals
        repeat first|refine go ?_|intro _|refine iO ?_|refine av ?_|refine ae @hF ?_|refine ae @hL ?_|refine ae @hH ?_|refine ae @At ?_
        rename_i rr;(apply ad rfl rfl ar)
        ·exact ⟨rr,rfl,rfl⟩
        ·(apply gm;(focus (exact af));all_goals exact bu)
     ·have Jb:nP c s i op=false:=decide_eq_false hd;have vC:¬nP c s i op=true:=by rw [Jb];simp
      clear At Hd hM;have Eo:=fun F=>IL (F:=F) (b:=b) (c:=c) (aR:=s.aR) (nk:=x.kb.length) (nh:=x.hb.length) (nt:=s.tr.length) (pk:=x.pk) (pa:=x.pa) (ph:=x.ph) (pt:=x.pt) (bn:=x.bn) (ab:=x.ab) (a:=s.cs.getD i aL) (x:=op) ha Ek hd;by_cases h0:c8 c s.n 0=0
      ·have eB:cN c s i w=false:=by unfold cN;rw [if_neg fX,if_neg pg,eO,if_neg h4,if_neg vC,if_pos h0]
       have eS:cm c s i w=⟨s.ks.set i (s.ks.getD i bQ),s.cs.set i (s.cs.getD i aL),s.hs,s.n,s.tr,s.aR⟩:=by unfold cm;rw [if_neg fX,if_neg pg,eO,if_neg h4,if_neg vC,if_pos h0,bf,bf]
       rw [eB,eS];refine wE _ (fun h2 rZ hF=>?_) (fun h2=>?_)
       all_goals
         repeat first|refine go ?_|intro _|refine iO ?_|refine av ?_|refine ae @hF ?_|refine ae @hL ?_|refine ae @hH ?_|refine ae @Eo ?_
         (apply ad rfl rfl ar)
         ·exact ⟨x.pt,rfl,rfl⟩
         ·(apply gm;(focus (exact af));all_goals exact bu)
      ·apply mT (P:=prog) (fun q:Nat=>[(0,.pointer (some ⟨b,0,none⟩)),(1,.int .i64 i),(2,.int .i64 w),(6,.bool false),(7,.pointer (some ⟨x.ab[i],0,none⟩)),(10,.pointer (some ⟨q,0,none⟩))]) (fun q=>ao q 74 (oc op)::SK b c s x i hk ha F) (fun _=>True)
       ·intro join;refine wE _ (fun h2 rZ hF=>?_) (fun h2=>?_)
        all_goals
          repeat first|refine go ?_|intro _|refine ae @hF ?_|refine ae @hL ?_|refine ae @hH ?_|refine ae @Eo ?_
          exact join _ _ _ trivial (by exact bH) (by exact af)
       intro q _;have gq:pA c s i op=dd c (s.cs.getD i aL) (bT c op) (bJ op):=rfl;by_cases he:dd c (s.cs.getD i aL) (bT c op) (bJ op)=0
       ·have eB:cN c s i w=decide (lq c s.n (dm c i (s.cs.getD i aL) (bT c op) (bJ op))=0):=by
          unfold cN;rw [if_neg fX,if_neg pg,eO,if_neg h4,if_neg vC,if_neg h0,if_pos (gq.trans he)];rfl
        have eS:cm c s i w=⟨s.ks.set i (s.ks.getD i bQ),s.cs.set i (cH c (s.cs.getD i aL) (bT c op) (bJ op)),s.hs,fG c s.n (dm c i (s.cs.getD i aL) (bT c op) (bJ op)),s.tr,s.aR⟩:=by
          unfold cm;rw [if_neg fX,if_neg pg,eO,if_neg h4,if_neg vC,if_neg h0,if_pos (gq.trans he),bf];rfl
        rw [eB,eS];simp only [he] at x8;repeat' (first|refine go ?_|intro _|refine iO ?_|refine av ?_|refine ae @hL ?_|refine ae @Cx ?_|refine ae @CP ?_|refine ae @x8 ?_|refine ae @As ?_|refine bj ?_ ?_|fail)
        all_goals (apply ad rfl rfl ar)
        all_goals first|exact ⟨x.pt,rfl,rfl⟩|(apply gm;(focus (exact af));all_goals exact bu)
       ·have PL:cH c (s.cs.getD i aL) (bT c op) (bJ op)=s.cs.getD i aL:=by unfold cH;rw [if_neg he]
        simp only [PL] at x8;by_cases h5:dd c (s.cs.getD i aL) (bT c op) (bJ op)=5
        ·simp only [h5] at x8;have eEv:gu c op=nI c (bT c op):=rfl;have hE:=fun F=>hE F (gu c op) (w.tmod c.al);have YQ:=(cp f7).2.2.2.2.2;by_cases h6:jH c (s.cs.getD i aL) (gu c op) (w.tmod c.al)=0
         ·simp only [h6] at hE;cases hb:iI c (s.cs.getD i aL) (gu c op) (w.tmod c.al) with
          |true=>
           simp only [hb] at hE;have eB:cN c s i w=decide (lq c s.n (jT c i (s.cs.getD i aL) (gu c op) (w.tmod c.al))=0):=by
             unfold cN;rw [if_neg fX,if_neg pg,eO,if_neg h4,if_neg vC,if_neg h0,if_neg (fun g=>he (gq.symm.trans g)),if_pos (gq.trans h5),eA,h6,hb];rfl
           have eS:cm c s i w=⟨s.ks.set i (s.ks.getD i bQ),s.cs.set i (gr c (s.cs.getD i aL) (gu c op) (w.tmod c.al)),s.hs,fG c s.n (jT c i (s.cs.getD i aL) (gu c op) (w.tmod c.al)),s.tr,s.aR⟩:=by
             unfold cm AE;rw [if_neg fX,if_neg pg,eO,if_neg h4,if_neg vC,if_neg h0,if_neg (fun g=>he (gq.symm.trans g)),if_pos (gq.trans h5),eA,if_pos hb,bf];rfl
           rw [eB,eS];repeat' (first|refine go ?_|intro _|refine iO ?_|refine av ?_|refine ae @hL ?_|refine ae @Cx ?_|refine ae @CP ?_|refine ae @x8 ?_|refine ae @VB ?_|refine ae @hE ?_|refine ae @As ?_|refine bj ?_ ?_|fail)
           all_goals (apply ad rfl rfl ar)
           all_goals first|exact ⟨x.pt,rfl,rfl⟩|(apply gm;(focus (exact af));all_goals exact bu)
          |false=>
           simp only [hb] at hE;have zG:¬iI c (s.cs.getD i aL) (gu c op) (w.tmod c.al)=true:=by rw [hb];simp
           have eB:cN c s i w=true:=by
             unfold cN;rw [if_neg fX,if_neg pg,eO,if_neg h4,if_neg vC,if_neg h0,if_neg (fun g=>he (gq.symm.trans g)),if_pos (gq.trans h5),eA,h6,hb];rfl
           have eS:cm c s i w=⟨s.ks.set i (s.ks.getD i bQ),s.cs.set i (gr c (s.cs.getD i aL) (gu c op) (w.tmod c.al)),s.hs,s.n,s.tr,s.aR⟩:=by
             unfold cm AE;rw [if_neg fX,if_neg pg,eO,if_neg h4,if_neg vC,if_neg h0,if_neg (fun g=>he (gq.symm.trans g)),if_pos (gq.trans h5),eA,if_neg zG,bf];rfl
           rw [eB,eS];repeat' (first|refine go ?_|intro _|refine iO ?_|refine av ?_|refine ae @hL ?_|refine ae @Cx ?_|refine ae @CP ?_|refine ae @x8 ?_|refine ae @VB ?_|refine ae @hE ?_|refine bj ?_ ?_|fail)
           all_goals (apply ad rfl rfl ar)
           all_goals first|exact ⟨x.pt,rfl,rfl⟩|(apply gm;(focus (exact af));all_goals exact bu)
         ·have UO:gr c (s.cs.getD i aL) (gu c op) (w.tmod c.al)=s.cs.getD i aL:=by unfold gr;rw [if_neg h6]
          have UP:iI c (s.cs.getD i aL) (gu c op) (w.tmod c.al)=false:=by unfold iI;exact decide_eq_false (fun g=>h6 g.1)
          have zG:¬iI c (s.cs.getD i aL) (gu c op) (w.tmod c.al)=true:=by rw [UP];simp
          simp only [UO,UP] at hE;have eB:cN c s i w=false:=by
            unfold cN;rw [if_neg fX,if_neg pg,eO,if_neg h4,if_neg vC,if_neg h0,if_neg (fun g=>he (gq.symm.trans g)),if_pos (gq.trans h5),eA,decide_eq_false h6];rfl
          have eS:cm c s i w=⟨s.ks.set i (s.ks.getD i bQ),s.cs.set i (s.cs.getD i aL),s.hs,s.n,s.tr,s.aR⟩:=by
            unfold cm AE;rw [if_neg fX,if_neg pg,eO,if_neg h4,if_neg vC,if_neg h0,if_neg (fun g=>he (gq.symm.trans g)),if_pos (gq.trans h5),eA,if_neg zG,UO,bf];rfl
          rw [eB,eS];repeat' (first|refine go ?_|intro _|refine iO ?_|refine av ?_|refine ae @hL ?_|refine ae @Cx ?_|refine ae @CP ?_|refine ae @x8 ?_|refine ae @VB ?_|refine ae @hE ?_|refine bj ?_ ?_|fail)
          all_goals (apply ad rfl rfl ar)
          all_goals first|exact ⟨x.pt,rfl,rfl⟩|(apply gm;(focus (exact af));all_goals exact bu)
        ·have eB:cN c s i w=false:=by
           unfold cN;rw [if_neg fX,if_neg pg,eO,if_neg h4,if_neg vC,if_neg h0,if_neg (fun g=>he (gq.symm.trans g)),if_neg (fun g=>h5 (gq.symm.trans g))]
         have eS:cm c s i w=⟨s.ks.set i (s.ks.getD i bQ),s.cs.set i (s.cs.getD i aL),s.hs,s.n,s.tr,s.aR⟩:=by
           unfold cm;rw [if_neg fX,if_neg pg,eO,if_neg h4,if_neg vC,if_neg h0,if_neg (fun g=>he (gq.symm.trans g)),if_neg (fun g=>h5 (gq.symm.trans g)),bf,bf]
         rw [eB,eS];repeat' (first|refine go ?_|intro _|refine iO ?_|refine av ?_|refine ae @hL ?_|refine ae @Cx ?_|refine ae @CP ?_|refine ae @x8 ?_|refine bj ?_ ?_|fail)
         all_goals (apply ad rfl rfl ar)
         all_goals first|exact ⟨x.pt,rfl,rfl⟩|(apply gm;(focus (exact af));all_goals exact bu)
end
end Go.Sx
