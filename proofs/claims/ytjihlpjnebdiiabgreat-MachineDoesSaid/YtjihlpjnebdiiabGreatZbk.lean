/- Mw2b, Mw5, Mw6, MrP, MrC, Mr0: several of my texts as one. My own work. -/
import Derived.Test.YtjihlpjnebdiiabGreatZbi
import Derived.Test.YtjihlpjnebdiiabGreatZas
import Derived.Test.YtjihlpjnebdiiabGreatZbj
import Derived.Test.YtjihlpjnebdiiabGreatZbh
set_option linter.unusedVariables false
set_option linter.unusedSectionVars false
set_option linter.unusedSimpArgs false
set_option maxRecDepth 100000
set_option maxHeartbeats 4000000
namespace Go.Sx
open Go Go.Proofs Tryz
section
attribute [local irreducible] Exit.then Exit.inBlock Code.wp WC WO WE WQ V aW dL Sat bz bK dU IntKind.wrap WR Code.rounds WT KO
theorem oR {Q P:Prop} (k:Q) (h:Hid Q→P:=by
  intro k
  first
  |(refine an ?_;apply nC (id:=4) (.only [11,12,17]) _ (pl:= .p 0 <| .p 1 <| .p 2 <| .p 4 <| .p 7 <| .r 8 <| .r 10 <| .e true [(3,.p 5 <| .e true [(6,.e true [(9,.e true [(11,.n [12,17] <| .e true [(12,.n [17] <| .p 13 <| .p 14 <| .p 15 <| .e true [(16,.e true [(17,.n [] <| .p 18 <| .done)])]),(16,.e true [(12,.n [17] <| .p 13 <| .p 14 <| .p 15 <| .e true [(17,.n [] <| .p 18 <| .done)])])]),(16,.e true [(11,.n [12,17] <| .e true [(12,.n [17] <| .p 13 <| .p 14 <| .p 15 <| .e true [(17,.n [] <| .p 18 <| .done)])])])]),(16,.e true [(9,.e true [(11,.n [12,17] <| .e true [(12,.n [17] <| .p 13 <| .p 14 <| .p 15 <| .e true [(17,.n [] <| .p 18 <| .done)])])])])]),(9,.e true [(6,.e true [(11,.n [12,17] <| .e true [(12,.n [17] <| .p 13 <| .p 14 <| .p 15 <| .e true [(16,.e true [(17,.n [] <| .p 18 <| .done)])]),(16,.e true [(12,.n [17] <| .p 13 <| .p 14 <| .p 15 <| .e true [(17,.n [] <| .p 18 <| .done)])])]),(16,.e true [(11,.n [12,17] <| .e true [(12,.n [17] <| .p 13 <| .p 14 <| .p 15 <| .e true [(17,.n [] <| .p 18 <| .done)])])])]),(11,.n [12,17] <| .r 6 <| .e true [(12,.n [17] <| .p 13 <| .p 14 <| .p 15 <| .e true [(16,.e true [(17,.n [] <| .p 18 <| .done)])]),(16,.e true [(12,.n [17] <| .p 13 <| .p 14 <| .p 15 <| .e true [(17,.n [] <| .p 18 <| .done)])])]),(16,.e true [(6,.e true [(11,.n [12,17] <| .e true [(12,.n [17] <| .p 13 <| .p 14 <| .p 15 <| .e true [(17,.n [] <| .p 18 <| .done)])])]),(11,.n [12,17] <| .r 6 <| .e true [(12,.n [17] <| .p 13 <| .p 14 <| .p 15 <| .e true [(17,.n [] <| .p 18 <| .done)])])])]),(16,.e true [(6,.e true [(9,.e true [(11,.n [12,17] <| .e true [(12,.n [17] <| .p 13 <| .p 14 <| .p 15 <| .e true [(17,.n [] <| .p 18 <| .done)])])])]),(9,.e true [(6,.e true [(11,.n [12,17] <| .e true [(12,.n [17] <| .p 13 <| .p 14 <| .p 15 <| .e true [(17,.n [] <| .p 18 <| .done)])])]),(11,.n [12,17] <| .r 6 <| .e true [(12,.n [17] <| .p 13 <| .p 14 <| .p 15 <| .e true [(17,.n [] <| .p 18 <| .done)])])])])]),(9,.e true [(3,.p 5 <| .e true [(6,.e true [(11,.n [12,17] <| .e true [(12,.n [17] <| .p 13 <| .p 14 <| .p 15 <| .e true [(16,.e true [(17,.n [] <| .p 18 <| .done)])]),(16,.e true [(12,.n [17] <| .p 13 <| .p 14 <| .p 15 <| .e true [(17,.n [] <| .p 18 <| .done)])])]),(16,.e true [(11,.n [12,17] <| .e true [(12,.n [17] <| .p 13 <| .p 14 <| .p 15 <| .e true [(17,.n [] <| .p 18 <| .done)])])])]),(11,.n [12,17] <| .r 6 <| .e true [(12,.n [17] <| .p 13 <| .p 14 <| .p 15 <| .e true [(16,.e true [(17,.n [] <| .p 18 <| .done)])]),(16,.e true [(12,.n [17] <| .p 13 <| .p 14 <| .p 15 <| .e true [(17,.n [] <| .p 18 <| .done)])])]),(16,.e true [(6,.e true [(11,.n [12,17] <| .e true [(12,.n [17] <| .p 13 <| .p 14 <| .p 15 <| .e true [(17,.n [] <| .p 18 <| .done)])])]),(11,.n [12,17] <| .r 6 <| .e true [(12,.n [17] <| .p 13 <| .p 14 <| .p 15 <| .e true [(17,.n [] <| .p 18 <| .done)])])])]),(11,.n [12,17] <| .r 3 <| .p 5 <| .r 6 <| .e true [(12,.n [17] <| .p 13 <| .p 14 <| .p 15 <| .e true [(16,.e true [(17,.n [] <| .p 18 <| .done)])]),(16,.e true [(12,.n [17] <| .p 13 <| .p 14 <| .p 15 <| .e true [(17,.n [] <| .p 18 <| .done)])])]),(16,.e true [(3,.p 5 <| .e true [(6,.e true [(11,.n [12,17] <| .e true [(12,.n [17] <| .p 13 <| .p 14 <| .p 15 <| .e true [(17,.n [] <| .p 18 <| .done)])])]),(11,.n [12,17] <| .r 6 <| .e true [(12,.n [17] <| .p 13 <| .p 14 <| .p 15 <| .e true [(17,.n [] <| .p 18 <| .done)])])]),(11,.n [12,17] <| .r 3 <| .p 5 <| .r 6 <| .e true [(12,.n [17] <| .p 13 <| .p 14 <| .p 15 <| .e true [(17,.n [] <| .p 18 <| .done)])])])]),(16,.e true [(3,.p 5 <| .e true [(6,.e true [(9,.e true [(11,.n [12,17] <| .e true [(12,.n [17] <| .p 13 <| .p 14 <| .p 15 <| .e true [(17,.n [] <| .p 18 <| .done)])])])]),(9,.e true [(6,.e true [(11,.n [12,17] <| .e true [(12,.n [17] <| .p 13 <| .p 14 <| .p 15 <| .e true [(17,.n [] <| .p 18 <| .done)])])]),(11,.n [12,17] <| .r 6 <| .e true [(12,.n [17] <| .p 13 <| .p 14 <| .p 15 <| .e true [(17,.n [] <| .p 18 <| .done)])])])]),(9,.e true [(3,.p 5 <| .e true [(6,.e true [(11,.n [12,17] <| .e true [(12,.n [17] <| .p 13 <| .p 14 <| .p 15 <| .e true [(17,.n [] <| .p 18 <| .done)])])]),(11,.n [12,17] <| .r 6 <| .e true [(12,.n [17] <| .p 13 <| .p 14 <| .p 15 <| .e true [(17,.n [] <| .p 18 <| .done)])])]),(11,.n [12,17] <| .r 3 <| .p 5 <| .r 6 <| .e true [(12,.n [17] <| .p 13 <| .p 14 <| .p 15 <| .e true [(17,.n [] <| .p 18 <| .done)])])])])]);exact mixed;kernel_rfl;kernel_rfl;exact ai.refl;exact k.out)):P:=h ⟨k⟩
theorem Ru {F:List HP} {b:Nat} {c:au} {s:cg} {x:fP} {i n:Nat} {d:Int} (hw:c.wf) (hl:eG c n s) (hi:(i:Int)<c.ax) (hx:gG c s x) :
    az prog 60 [.pointer (some ⟨b,0,none⟩),.int .i64 i,.int .i64 d] [dj b c s x] F (fun r L'=>r= .bool (gl c s i d)∧L'=[dj b c (fq c s i d) { x with pt:=x.pt}]):=by
  obtain ⟨⟨f1,f2,f3⟩,⟨f4,f5,f6⟩,f7⟩:=id hx;have hk:i<x.kb.length:=by omega
  have ha:i<x.ab.length:=by omega
  have eA:gF s (i:Int)=s.cs.getD i aL:=rfl;have eK:cI s (i:Int)=s.ks.getD i bQ:=rfl;have UM:=dB hk;have UN:=dB ha;have J9:=fun F=>Bx (F:=F) (b:=x.kb[i]) (l:=(s.ks.getD i bQ).l) (rs:=(s.ks.getD i bQ).rs) (tr:=(s.ks.getD i bQ).tr) (d:=d);have hL:=fun F n k=>tX (F:=F) (b:=x.bn) (c:=c) (n:=n) (k:=k);have As:=fun F aR n m=>Ab (F:=F) (b:=b) (c:=c) (aR:=aR) (nk:=x.kb.length) (na:=x.ab.length) (nh:=x.hb.length) (nt:=s.tr.length) (pk:=x.pk) (pa:=x.pa) (ph:=x.ph) (pt:=x.pt) (bn:=x.bn) (n:=n) (m:=m) hw;refine ay func60 ntmps60 ?_;refine mC hk ha fun hf=>?_;(first|(refine aX (.slice x.pa.1 x.ab.length x.pa.2) inferInstance (om) ?_;intro _)|(refine aY (.slice x.pa.1 x.ab.length x.pa.2) inferInstance (om) ?_;intro _));(first|(refine aX (.slice x.pk.1 x.kb.length x.pk.2) inferInstance (om) ?_;intro _)|(refine aY (.slice x.pk.1 x.kb.length x.pk.2) inferInstance (om) ?_;intro _));cases hb:fF (s.ks.getD i bQ).l (s.ks.getD i bQ).rs (s.ks.getD i bQ).tr d with
  |false=>
   have OR:p9 (cI s i) d=false:=hb;have eB:gl c s i d=false:=by unfold gl;rw [if_pos (.inl OR)]
   have eS:fq c s i d=⟨s.ks.set i (s.ks.getD i bQ),s.cs.set i (s.cs.getD i aL),s.hs,s.n,s.tr,s.aR⟩:=by unfold fq;rw [if_pos (.inl OR),bf,bf]
   rw [eB,eS];simp only [hb] at J9;repeat first|refine go ?_|intro _|refine oR ?_|refine av ?_|refine ae @J9 ?_|refine ae @hL ?_
   (apply ad rfl rfl ar)
   ·exact ⟨rfl,rfl⟩
   ·(apply gm;(focus (exact af));all_goals exact bu)
  |true=>
   have VD:∀ F,az prog 159 [.pointer (some ⟨x.kb[i],0,none⟩),.int .i64 d] [wC x.kb[i] (s.ks.getD i bQ)] F (fun r L'=>r= .int .i64 0∧L'=[wC x.kb[i] (o4 (s.ks.getD i bQ) d)]):=fun F=>NX (F:=F) (b:=x.kb[i]) (l:=(s.ks.getD i bQ).l) (rs:=(s.ks.getD i bQ).rs) (tr:=(s.ks.getD i bQ).tr) (d:=d) hb;have OZ:=OC hl (i:=(i:Int)) hb;have eO:rn (cI s i) d=jW (s.ks.getD i bQ).l (s.ks.getD i bQ).rs (s.ks.getD i bQ).tr d:=rfl;simp only [hb] at J9;rw [eO] at OZ;generalize jW (s.ks.getD i bQ).l (s.ks.getD i bQ).rs (s.ks.getD i bQ).tr d=op at *;have Cx:=fun F aR nt pt=>Aa (F:=F) (b:=b) (c:=c) (aR:=aR) (nk:=x.kb.length) (na:=x.ab.length) (nh:=x.hb.length) (nt:=nt) (pk:=x.pk) (pa:=x.pa) (ph:=x.ph) (pt:=pt) (bn:=x.bn) (x:=op) hw OZ;have x8:=fun F=>MR (F:=F) (b:=x.ab[i]) (c:=c) (ap:=(i:Int)) (aa:=bT c op) (ah:=bJ op) (k:=s.cs.getD i aL) jL;have CP:=fun F=>JJ (F:=F) (x:=op);have Sc:¬(p9 (cI s i) d=false):=by have:p9 (cI s i) d=true:=hb;rw [this];simp
   by_cases h0:c8 c s.n 0=0
   ·have eB:gl c s i d=false:=by unfold gl;rw [if_pos (.inr h0)]
    have eS:fq c s i d=⟨s.ks.set i (s.ks.getD i bQ),s.cs.set i (s.cs.getD i aL),s.hs,s.n,s.tr,s.aR⟩:=by unfold fq;rw [if_pos (.inr h0),bf,bf]
    rw [eB,eS];repeat first|refine go ?_|intro _|refine oR ?_|refine av ?_|refine ae @J9 ?_|refine ae @hL ?_
    (apply ad rfl rfl ar)
    ·exact ⟨rfl,rfl⟩
    ·(apply gm;(focus (exact af));all_goals exact bu)
   ·have dC:¬(p9 (cI s i) d=false∨c8 c s.n 0=0):=fun g=>g.elim Sc h0;have gq:pA c s i op=dd c (s.cs.getD i aL) (bT c op) (bJ op):=rfl;repeat first|refine go ?_|intro _|refine ae @J9 ?_|refine ae @hL ?_
    rename_i b7
    apply mT (P:=prog) (fun q:Nat=>[(0,.pointer (some ⟨b,0,none⟩)),(1,.int .i64 i),(2,.int .i64 d),(6,.bool false),(9,.pointer (some ⟨q,0,none⟩)),(10,.int .i64 (dd c (s.cs.getD i aL) (bT c op) (bJ op))),(50,.bool (decide (dd c (s.cs.getD i aL) (bT c op) (bJ op)≠0)))])
      (fun q=>ao q 159 (mc (dm c (i:Int) (s.cs.getD i aL) (bT c op) (bJ op)))::MC b c s.aR x.kb.length x.ab.length x.hb.length s.tr.length x.pk x.pa x.ph x.pt x.bn::Mb x.pk x.kb::Ja x.pa x.ab::UL x.ph x.hb::j0 x.bn c s.n::J8 x.pt s.tr::wC x.kb[i] (s.ks.getD i bQ)::oL x.ab[i] c (i:Int) (cH c (s.cs.getD i aL) (bT c op) (bJ op))::bZ (((List.range x.kb.length).eraseIdx i).map (rf x s))::bZ (((List.range x.ab.length).eraseIdx i).map (nL c x s))::bZ ((List.range x.hb.length).map (nM c x s))::F) (fun _=>True)
    ·intro join;repeat' (first|refine go ?_|intro _|refine oR ?_|refine av ?_|refine ae @Cx ?_|refine ae @CP ?_|refine ae @x8 ?_|apply xN|fail)
     all_goals exact join _ _ _ trivial (by exact bH) (by exact af)
    ·intro q _;have gq:pA c s i op=dd c (s.cs.getD i aL) (bT c op) (bJ op):=rfl;by_cases he:dd c (s.cs.getD i aL) (bT c op) (bJ op)=0
     ·have eB:gl c s i d=decide (lq c s.n (dm c i (s.cs.getD i aL) (bT c op) (bJ op))=0):=by
        unfold gl;rw [if_neg dC,eO,if_pos (gq.trans he)];rfl
      have eS:fq c s i d=⟨s.ks.set i (o4 (s.ks.getD i bQ) d),s.cs.set i (cH c (s.cs.getD i aL) (bT c op) (bJ op)),s.hs,fG c s.n (dm c i (s.cs.getD i aL) (bT c op) (bJ op)),s.tr,s.aR⟩:=by
        unfold fq;rw [if_neg dC,eO,if_pos (gq.trans he)];rfl
      rw [eB,eS];repeat first|refine go ?_|intro _|refine oR ?_|refine av ?_|refine ae @VD ?_|refine ae @As ?_
      (apply ad rfl rfl ar)
      ·exact ⟨rfl,rfl⟩
      ·(apply gm;(focus (exact af));all_goals exact bu)
     ·have PL:cH c (s.cs.getD i aL) (bT c op) (bJ op)=s.cs.getD i aL:=by unfold cH;rw [if_neg he]
      have eB:gl c s i d=false:=by
        unfold gl;rw [if_neg dC,eO,if_neg (fun g=>he (gq.symm.trans g))]
      have eS:fq c s i d=⟨s.ks.set i (s.ks.getD i bQ),s.cs.set i (s.cs.getD i aL),s.hs,s.n,s.tr,s.aR⟩:=by
        unfold fq;rw [if_neg dC,eO,if_neg (fun g=>he (gq.symm.trans g)),bf,bf]
      rw [eB,eS,PL];repeat first|refine go ?_|intro _|refine oR ?_|refine av ?_|refine ae @VD ?_|refine ae @As ?_
      (apply ad rfl rfl ar)
      ·exact ⟨rfl,rfl⟩
      ·(apply gm;(focus (exact af));all_goals exact bu)
end
section
abbrev Xh (p:Pk):Value:= .agg [.int .i64 p.ah,.int .i64 p.a,.int .i64 p.b].toArray
theorem az.YR {P:Program} {f:FuncId} {vs:List Value} {pre LU F:List HP} {post:Value→List HP→Prop} (C:az P f vs pre F post) (h:ai (eX LU F) (eX pre F)):az P f vs LU F post:=⟨C.enters,fun w hw=>C.runs w (h.gX hw)⟩
theorem az.opened {P:Program} {f:FuncId} {vs:List Value} {F:List HP} {post:Value→List HP→Prop} {b:Nat} {c:au} {s:cg} {x:fP} (C:az P f vs [dj b c s x] F post) (hf:gG c s x):az P f vs (Cw b c s x []) F post:=C.YR (eI ai.refl hf)
attribute [local irreducible] Exit.then Exit.inBlock Code.wp WC WO WE WQ V aW dL Sat bz bK dU IntKind.wrap WR Code.rounds WT KO
theorem IS {F:List HP} {b:Nat} {c:au} {s:cg} {x:fP} {n:Nat} {k j:Int} (hw:c.wf) (hl:eG c n s) (hn:n≤1000000000000) (ht:s.tr.length≤1000000000000) (hx:gG c s x) :
    az prog 56 [.pointer (some ⟨b,0,none⟩),.int .i64 k,.int .i64 j] [dj b c s x] F (fun r L'=>∃ pt:Option Addr×Nat,r= .bool (dY c s k j)∧L'=[dj b c (dA c s k j) { x with pt:=pt}]):=by
  by_cases h0:gv s.n k j=false∨k=1∧c8 c s.n 2=0
  ·exact (Rp hw hl hx h0).mono fun r L h=>⟨x.pt,h⟩
  ·have hb:gv s.n k j=true:=by cases e:gv s.n k j with|true=>rfl|false=>exact absurd (.inl e) h0
   have hm:=l6 hb;have hk:k=0∨k=1∨k=2:=by
     unfold dK at hm;by_cases g0:k=0
     ·exact .inl g0
     ·rw [if_neg g0] at hm;by_cases g1:k=1
      ·exact .inr (.inl g1)
      ·rw [if_neg g1] at hm;by_cases g2:k=2
       ·exact .inr (.inr g2)
       ·rw [if_neg g2] at hm;cases hm
   rcases hk with rfl|rfl|rfl
   ·exact (Rq hw hl hx hb).mono fun r L h=>⟨x.pt,h⟩
   ·exact (Rr hw hl hn hx hb (fun e=>h0 (.inr ⟨rfl,e⟩))).mono fun r L h=>⟨x.pt,h⟩
   ·by_cases qG:(bE s.n 2 j).ah=11
    ·exact (Rs hw hl hn hx hb qG).mono fun r L h=>⟨x.pt,h⟩
    ·exact Rt hw hl hn ht hx hb qG
theorem jy {Q P:Prop} (k:Q) (h:Hid Q→P:=by
  intro k
  first
  |(refine an ?_;refine bF (id:=5) (.only []) (pl:= .p 0 <| .r 1 <| .p 2 <| .p 3 <| .p 4 <| .p 6 <| .p 7 <| .p 8 <| .r 5 <| .r 9 <| .p 10 <| .e true [(11,.p 12 <| .p 13 <| .done)]) k.out)
  |(refine an ?_;refine bF (id:=7) (.only []) (pl:= .p 0 <| .r 1 <| .p 2 <| .p 3 <| .p 4 <| .p 6 <| .p 7 <| .p 8 <| .r 5 <| .r 9 <| .p 10 <| .e true [(11,.p 12 <| .p 13 <| .done)]) k.out)
  |(refine an ?_;refine bF (id:=9) (.only []) (pl:= .p 0 <| .r 1 <| .p 2 <| .p 3 <| .p 4 <| .p 6 <| .p 7 <| .p 8 <| .r 5 <| .r 9 <| .p 10 <| .e true [(11,.p 12 <| .p 13 <| .done)]) k.out)):P:=h ⟨k⟩
theorem JN {F:List HP} {b:Nat} {c:au} {s:cg} {x:fP} {n:Nat} {p:Pk} (hw:c.wf) (hl:eG c n s) (hn:n≤1000000000000) (ht:s.tr.length≤1000000000000) (hp:dZ p.ah∧dZ p.a∧dZ p.b) (hx:gG c s x) :
    az prog 14 [.pointer (some ⟨b,0,none⟩),Xh p] [dj b c s x] F (fun r L'=>∃ pt:Option Addr×Nat,r= .bool (dH c s p)∧L'=[dj b c (dN c s p) { x with pt:=pt}]):=by
  obtain ⟨⟨f1,f2,f3⟩,⟨f4,f5,f6⟩,f7⟩:=id hx;obtain ⟨pk,pa,pb⟩:=p;have Md:=fun F n m=>pQ (F:=F) (n:=n) (m:=m);dsimp only at hp;change az _ _ [_,.agg [.int .i64 pk,.int .i64 pa,.int .i64 pb].toArray] _ _ _;by_cases h0:pa<0∨pb<0
  ·have eB:dH c s ⟨pk,pa,pb⟩=false:=by unfold dH;rw [if_pos h0]
   have eS:dN c s ⟨pk,pa,pb⟩=s:=by unfold dN;rw [if_pos h0]
   rw [eB,eS];refine ay func14 ntmps14 ?_;by_cases ha:pa<0
   ·repeat first|refine go ?_|intro _|refine jy ?_|refine av ?_|refine ae @Md ?_
    (apply ad rfl rfl ar)
    ·exact ⟨x.pt,rfl,rfl⟩
    ·exact af
   ·have hb:pb<0:=by omega
    repeat first|refine go ?_|intro _|refine jy ?_|refine av ?_|refine ae @Md ?_
    (apply ad rfl rfl ar)
    ·exact ⟨x.pt,rfl,rfl⟩
    ·exact af
  ·have ha:¬pa<0:=fun g=>h0 (.inl g);have hb:¬pb<0:=fun g=>h0 (.inr g);by_cases h1:pk=1
   ·have eB:dH c s ⟨pk,pa,pb⟩=dY c s pa pb:=by unfold dH;rw [if_neg h0,if_pos h1]
    have eS:dN c s ⟨pk,pa,pb⟩=dA c s pa pb:=by unfold dN;rw [if_neg h0,if_pos h1]
    rw [eB,eS];have hD:=fun F=>IS (F:=F) (b:=b) (k:=pa) (j:=pb) hw hl hn ht hx;refine ay func14 ntmps14 ?_;repeat first|refine go ?_|intro _|refine jy ?_|refine av ?_|refine ae @hD ?_
    rename_i rr;(apply ad rfl rfl ar)
    ·exact ⟨rr,rfl,rfl⟩
    ·exact af
   ·have xY:(x.kb.length:Int)=s.ks.length:=by omega
    have I9:(x.hb.length:Int)=s.hs.length:=by omega
    by_cases h2:pk=2∧(0≤pa∧pa<(x.hb.length:Int))
    ·obtain ⟨rfl,h2a,h2b⟩:=h2;obtain ⟨d,rfl⟩:∃ d:Nat,pa=d:=⟨pa.toNat,om⟩;have kH:qK (d:Int) s.hs.length=true:=by unfold qK;exact decide_eq_true (om)
     have eB:dH c s ⟨2,d,pb⟩=wP c s d pb:=by unfold dH;dsimp only;rw [if_neg h0,if_neg (by decide),if_pos ⟨rfl,kH⟩]
     have eS:dN c s ⟨2,d,pb⟩=jC c s d pb:=by unfold dN;dsimp only;rw [if_neg h0,if_neg (by decide),if_pos ⟨rfl,kH⟩]
     rw [eB,eS];have hW:=fun F=>(Ro (F:=F) (b:=b) (j:=pb) hw hl hn (d:=d) (om) hx).opened hx;have LP:(0:Int)≤d∧(d:Int)<x.hb.length:=by omega
     refine ay func14 ntmps14 ?_;refine gZ fun hf=>?_;repeat first|refine go ?_|intro _|refine jy ?_|refine av ?_|refine ae @Md ?_|refine ae @hW ?_
     (apply ad rfl rfl ar)
     ·exact ⟨x.pt,rfl,rfl⟩
     ·exact af
    ·by_cases h3:pk=0∧(0≤pa∧pa<(x.kb.length:Int))
     ·obtain ⟨rfl,h3a,h3b⟩:=h3;obtain ⟨d,rfl⟩:∃ d:Nat,pa=d:=⟨pa.toNat,om⟩;have kH:qK (d:Int) s.ks.length=true:=by unfold qK;exact decide_eq_true (om)
      have eB:dH c s ⟨0,d,pb⟩=cN c s d pb:=by unfold dH;dsimp only;rw [if_neg h0,if_neg (by decide),if_neg (fun e=>absurd e.1 (by decide)),if_pos ⟨rfl,kH⟩]
      have eS:dN c s ⟨0,d,pb⟩=cm c s d pb:=by unfold dN;dsimp only;rw [if_neg h0,if_neg (by decide),if_neg (fun e=>absurd e.1 (by decide)),if_pos ⟨rfl,kH⟩]
      rw [eB,eS];have hA:=fun F=>(TY (F:=F) (b:=b) (w:=pb) (i:=d) hw hl hn ht (om) hp.2.2 hx).opened hx;have LP:(0:Int)≤d∧(d:Int)<x.kb.length:=by omega
      refine ay func14 ntmps14 ?_;refine gZ fun hf=>?_;repeat first|refine go ?_|intro _|refine jy ?_|refine av ?_|refine ae @Md ?_|refine ae @hA ?_
      rename_i rr;(apply ad rfl rfl ar)
      ·exact ⟨rr,rfl,rfl⟩
      ·exact af
     ·by_cases h4:pk=3∧(0≤pa∧pa<(x.kb.length:Int))
      ·obtain ⟨rfl,h4a,h4b⟩:=h4;obtain ⟨d,rfl⟩:∃ d:Nat,pa=d:=⟨pa.toNat,om⟩;have kH:qK (d:Int) s.ks.length=true:=by unfold qK;exact decide_eq_true (om)
       have eB:dH c s ⟨3,d,pb⟩=gl c s d (1+pb.tmod 4):=by unfold dH;dsimp only;rw [if_neg h0,if_neg (by decide),if_neg (fun e=>absurd e.1 (by decide)),if_neg (fun e=>absurd e.1 (by decide)),if_pos ⟨rfl,kH⟩]
       have eS:dN c s ⟨3,d,pb⟩=fq c s d (1+pb.tmod 4):=by unfold dN;dsimp only;rw [if_neg h0,if_neg (by decide),if_neg (fun e=>absurd e.1 (by decide)),if_neg (fun e=>absurd e.1 (by decide)),if_pos ⟨rfl,kH⟩]
       rw [eB,eS];have hA:=fun F=>(Ru (F:=F) (b:=b) (d:=1+pb.tmod 4) (i:=d) hw hl (om) hx).opened hx;have LP:(0:Int)≤d∧(d:Int)<x.kb.length:=by omega
       have JV:0≤pb.tmod 4∧pb.tmod 4<4:=by rw [Int.tmod_eq_emod_of_nonneg (om)];omega
       refine ay func14 ntmps14 ?_;refine gZ fun hf=>?_;repeat first|refine go ?_|intro _|refine jy ?_|refine av ?_|refine ae @Md ?_|refine ae @hA ?_
       (apply ad rfl rfl ar)
       ·exact ⟨x.pt,rfl,rfl⟩
       ·exact af
      ·have sq:¬(pk=2∧qK pa s.hs.length=true):=fun g=>h2 ⟨g.1,by have:=g.2;unfold qK at this;have:=of_decide_eq_true this;omega⟩;have I2:¬(pk=0∧qK pa s.ks.length=true):=fun g=>h3 ⟨g.1,by have:=g.2;unfold qK at this;have:=of_decide_eq_true this;omega⟩;have UR:¬(pk=3∧qK pa s.ks.length=true):=fun g=>h4 ⟨g.1,by have:=g.2;unfold qK at this;have:=of_decide_eq_true this;omega⟩;have eB:dH c s ⟨pk,pa,pb⟩=false:=by unfold dH;dsimp only;rw [if_neg h0,if_neg h1,if_neg sq,if_neg I2,if_neg UR]
       have eS:dN c s ⟨pk,pa,pb⟩=s:=by unfold dN;dsimp only;rw [if_neg h0,if_neg h1,if_neg sq,if_neg I2,if_neg UR]
       rw [eB,eS];refine ay func14 ntmps14 ?_;refine gZ fun hf=>?_;by_cases k2:pk=2
       ·have n2:¬(0≤pa∧pa<(x.hb.length:Int)):=fun g=>h2 ⟨k2,g⟩;have k0:¬pk=0:=by omega
        have k3:¬pk=3:=by omega
        repeat first|refine go ?_|intro _|refine jy ?_|refine av ?_|refine ae @Md ?_
        (apply ad rfl rfl ar)
        ·exact ⟨x.pt,rfl,rfl⟩
        ·refine eI ?_ hf;exact af
       ·by_cases k0:pk=0
        ·have n2:¬(0≤pa∧pa<(x.kb.length:Int)):=fun g=>h3 ⟨k0,g⟩;have k3:¬pk=3:=by omega
         repeat first|refine go ?_|intro _|refine jy ?_|refine av ?_|refine ae @Md ?_
         (apply ad rfl rfl ar)
         ·exact ⟨x.pt,rfl,rfl⟩
         ·refine eI ?_ hf;exact af
        ·by_cases k3:pk=3
         ·have n2:¬(0≤pa∧pa<(x.kb.length:Int)):=fun g=>h4 ⟨k3,g⟩;repeat first|refine go ?_|intro _|refine jy ?_|refine av ?_|refine ae @Md ?_
          (apply ad rfl rfl ar)
          ·exact ⟨x.pt,rfl,rfl⟩
          ·refine eI ?_ hf;exact af
         ·repeat first|refine go ?_|intro _|refine jy ?_|refine av ?_|refine ae @Md ?_
          (apply ad rfl rfl ar)
          ·exact ⟨x.pt,rfl,rfl⟩
          ·refine eI ?_ hf;exact af
end
section
theorem nW {s:cg}:iC s=true↔jZ s.n=[]∧(∀ i (h:i<s.ks.length),kl s.ks[i]=0)∧(∀ i (h:i<s.cs.length),s.cs[i].aP=[]∧s.cs[i].bD=[])∧∀ i (h:i<s.hs.length),s.hs[i].q.length=0:=by
  unfold iC;simp only [Bool.and_eq_true,decide_eq_true_eq,List.all_eq_true];constructor
  ·rintro ⟨⟨⟨a,b⟩,c⟩,d⟩;exact ⟨a,fun i h=>b _ (List.getElem_mem h),fun i h=>c _ (List.getElem_mem h),fun i h=>d _ (List.getElem_mem h)⟩
  ·rintro ⟨a,b,c,d⟩;refine ⟨⟨⟨a,fun k hk=>?_⟩,fun k hk=>?_⟩,fun k hk=>?_⟩
   ·obtain ⟨i,hi,rfl⟩:=List.getElem_of_mem hk;exact b i hi
   ·obtain ⟨i,hi,rfl⟩:=List.getElem_of_mem hk;exact c i hi
   ·obtain ⟨i,hi,rfl⟩:=List.getElem_of_mem hk;exact d i hi
theorem tZ {s:cg} (h:¬iC s=true):iC s=false:=by cases e:iC s with|false=>rfl|true=>exact absurd e h
theorem az.lift {P:Program} {f:FuncId} {vs:List Value} {pre LU F R:List HP} {post tm:Value→List HP→Prop} (C:az P f vs pre (eX R F) post) (kH:ai (eX LU F) (eX pre (eX R F)))
    (B2:∀ v L,post v L→∃ L',tm v L'∧ai (eX L (eX R F)) (eX L' F)):az P f vs LU F tm:=
  ⟨C.enters,fun w hw=>(C.runs w (kH.gX hw)).mono fun e w' ⟨v,L,he,hp,hs⟩=>by
    obtain ⟨L',h1,h2⟩:=B2 v L hp;exact ⟨v,L',he,h1,h2.gX hs⟩⟩
section
variable {P:Program} {f:FuncId} {vs:List Value} {F:List HP} {b:Nat} {c:au} {s:cg} {x:fP}
theorem az.inC {i:Nat} {u:Value} (hi:i<x.ab.length) (hx:gG c s x) (C:∀ F,az P f vs [oL (x.ab.getD i 0) c (i:Int) (s.cs.getD i aL)] F (fun r L'=>r=u∧L'=[oL (x.ab.getD i 0) c (i:Int) (s.cs.getD i aL)])):az P f vs [dj b c s x] F (fun r L'=>r=u∧L'=[dj b c s x]):=by
  refine az.lift (R:=[LQ b c s x i]) (C _) (FO hi) ?_;rintro v L ⟨rfl,rfl⟩;exact ⟨_,⟨rfl,rfl⟩,Dv ai.refl hi hx.1.2.1⟩
theorem az.U9 {α:Type} {i:Nat} {u:α→Value} {X:α→HP} (hi:i<x.ab.length) (hx:gG c s x) (C:∀ F,az P f vs [oL (x.ab.getD i 0) c (i:Int) (s.cs.getD i aL)] F (fun r L'=>∃ q,r=u q∧L'=[X q,oL (x.ab.getD i 0) c (i:Int) (s.cs.getD i aL)])):az P f vs [dj b c s x] F (fun r L'=>∃ q,r=u q∧L'=[X q,dj b c s x]):=by
  refine az.lift (R:=[LQ b c s x i]) (C _) (FO hi) ?_;rintro v L ⟨q,rfl,rfl⟩;exact ⟨_,⟨q,rfl,rfl⟩,ai.cons (Dv ai.refl hi hx.1.2.1)⟩
theorem az.inH {i:Nat} {u:Value} (hi:i<x.hb.length) (hx:gG c s x) (C:∀ F,az P f vs [gQ (x.hb.getD i 0) c (i:Int) (s.hs.getD i dl)] F (fun r L'=>r=u∧L'=[gQ (x.hb.getD i 0) c (i:Int) (s.hs.getD i dl)])):az P f vs [dj b c s x] F (fun r L'=>r=u∧L'=[dj b c s x]):=by
  refine az.lift (R:=[LR b c s x i]) (C _) (FP hi) ?_;rintro v L ⟨rfl,rfl⟩;exact ⟨_,⟨rfl,rfl⟩,Dw ai.refl hi hx.1.2.2⟩
theorem az.X6 {α:Type} {i:Nat} {u:α→Value} {X:α→HP} (hi:i<x.hb.length) (hx:gG c s x) (C:∀ F,az P f vs [gQ (x.hb.getD i 0) c (i:Int) (s.hs.getD i dl)] F (fun r L'=>∃ q,r=u q∧L'=[X q,gQ (x.hb.getD i 0) c (i:Int) (s.hs.getD i dl)])):az P f vs [dj b c s x] F (fun r L'=>∃ q,r=u q∧L'=[X q,dj b c s x]):=by
  refine az.lift (R:=[LR b c s x i]) (C _) (FP hi) ?_;rintro v L ⟨q,rfl,rfl⟩;exact ⟨_,⟨q,rfl,rfl⟩,ai.cons (Dw ai.refl hi hx.1.2.2)⟩
theorem Ed {L:List HP}:ai (dj b c s x::L) (Cw b c s x L):=
  ai.trans km (ai.cons (ai.cons (ai.cons (ai.cons (ai.cons (ai.cons (ai.cons (ai.cons (ai.cons (ai.drop ai.refl))))))))))
theorem OD {A B C D N:HP} {L:List HP}:ai (A::B::C::D::N::L) (N::A::B::C::D::L):=fD (List.perm_middle (a:=N) (l₁:=[A,B,C,D]) (l₂:=L))
theorem LA {A B C D N:HP} {L:List HP}:ai (N::A::B::C::D::L) (A::B::C::D::N::L):=fD (List.perm_middle (a:=N) (l₁:=[A,B,C,D]) (l₂:=L)).symm
def Pr (b:Nat) (c:au) (s:cg) (x:fP):List HP:=[ao b 102 (BP c s.aR x.kb.length x.ab.length x.hb.length s.tr.length x.pk x.pa x.ph x.pt x.bn),
  aT 103 1 (.slice x.pk.1 x.kb.length x.pk.2) x.kb.length (aj jA x.kb),aT 106 1 (.slice x.pa.1 x.ab.length x.pa.2) x.ab.length (aj jA x.ab),aT 109 1 (.slice x.ph.1 x.hb.length x.ph.2) x.hb.length (aj jA x.hb),
  aT 76 6 (.slice x.pt.1 s.tr.length x.pt.2) s.tr.length (aj Hb s.tr),bZ ((List.range x.kb.length).map (rf x s)),bZ ((List.range x.ab.length).map (nL c x s)),bZ ((List.range x.hb.length).map (nM c x s))]
theorem FR {L:List HP}:ai (dj b c s x::L) (j0 x.bn c s.n::eX (Pr b c s x) L):=by
  refine ai.trans Ed ?_;exact OD
theorem JO {L M:List HP} (h:ai L (j0 x.bn c s.n::eX (Pr b c s x) M)) (hf:gG c s x):ai L (dj b c s x::M):=eI (ai.trans h LA) hf
theorem az.qK {u:Value} (hx:gG c s x) (C:∀ F,az P f vs [j0 x.bn c s.n] F (fun r L'=>r=u∧L'=[j0 x.bn c s.n])):az P f vs [dj b c s x] F (fun r L'=>r=u∧L'=[dj b c s x]):=by
  refine az.lift (R:=Pr b c s x) (C _) FR ?_;rintro v L ⟨rfl,rfl⟩;exact ⟨_,⟨rfl,rfl⟩,JO ai.refl hx⟩
theorem az.X7 {α:Type} {u:α→Value} {X:α→HP} (hx:gG c s x) (C:∀ F,az P f vs [j0 x.bn c s.n] F (fun r L'=>∃ q,r=u q∧L'=[X q,j0 x.bn c s.n])):az P f vs [dj b c s x] F (fun r L'=>∃ q,r=u q∧L'=[X q,dj b c s x]):=by
  refine az.lift (R:=Pr b c s x) (C _) FR ?_;rintro v L ⟨q,rfl,rfl⟩;exact ⟨_,⟨q,rfl,rfl⟩,ai.cons (JO ai.refl hx)⟩
theorem az.VE {u:Value} (hx:gG c s x) (C:∀ F,az P f vs [dj b c s x] F (fun r L'=>r=u∧L'=[dj b c s x])):az P f vs (Cw b c s x []) F (fun r L'=>r=u∧L'=Cw b c s x []):=by
  refine az.lift (R:=[]) (C _) (eI ai.refl hx) ?_;rintro v L ⟨rfl,rfl⟩;exact ⟨_,⟨rfl,rfl⟩,Ed⟩
theorem az.SL {α:Type} {u:α→Value} {X:α→HP} (hx:gG c s x) (C:∀ F,az P f vs [dj b c s x] F (fun r L'=>∃ q,r=u q∧L'=[X q,dj b c s x])):az P f vs (Cw b c s x []) F (fun r L'=>∃ q,r=u q∧L'=X q::Cw b c s x []):=by
  refine az.lift (R:=[]) (C _) (eI ai.refl hx) ?_;rintro v L ⟨q,rfl,rfl⟩;exact ⟨_,⟨q,rfl,rfl⟩,ai.cons Ed⟩
end
attribute [local irreducible] Exit.then Exit.inBlock Code.wp WC WO WE WQ V aW dL Sat bz bK dU IntKind.wrap WR Code.rounds WT KO
section
variable {F:List HP} {b:Nat} {c:au} {s:cg} {x:fP}
theorem DC {i:Nat} (hi:i<x.ab.length) (hx:gG c s x):az prog 103 [.pointer (some ⟨x.ab.getD i 0,0,none⟩)] [dj b c s x] F (fun r L'=>∃ q:Option Addr×Nat,r= .slice q.1 (s.cs.getD i aL).aP.length q.2∧L'=[aT 184 15 (.slice q.1 (s.cs.getD i aL).aP.length q.2) (s.cs.getD i aL).aP.length (aj fg (s.cs.getD i aL).aP),dj b c s x]):=
  az.U9 (α:=Option Addr×Nat) hi hx fun F=>(yw).mono fun r L ⟨p,q,h⟩=>⟨(p,q),h⟩
theorem BJ {i:Nat} (hi:i<x.ab.length) (hx:gG c s x):az prog 74 [.pointer (some ⟨x.ab.getD i 0,0,none⟩)] [dj b c s x] F (fun r L'=>∃ q:Option Addr×Nat,r= .slice q.1 (s.cs.getD i aL).bD.length q.2∧L'=[aT 131 10 (.slice q.1 (s.cs.getD i aL).bD.length q.2) (s.cs.getD i aL).bD.length (aj bc (s.cs.getD i aL).bD),dj b c s x]):=
  az.U9 (α:=Option Addr×Nat) hi hx fun F=>(Iu).mono fun r L ⟨p,q,h⟩=>⟨(p,q),h⟩
theorem FT {i:Nat} (hi:i<x.hb.length) (hx:gG c s x):az prog 105 [.pointer (some ⟨x.hb.getD i 0,0,none⟩)] [dj b c s x] F (fun r L'=>∃ q:Option Addr×Nat,r= .slice q.1 (s.hs.getD i dl).q.length q.2∧L'=[J4 203 (.slice q.1 (s.hs.getD i dl).q.length q.2) (s.hs.getD i dl).q,dj b c s x]):=
  az.X6 (α:=Option Addr×Nat) hi hx fun F=>(N2).mono fun r L ⟨p,q,h⟩=>⟨(p,q),h⟩
theorem JP {i:Nat} (hi:i<x.hb.length) (hx:gG c s x):az prog 64 [.pointer (some ⟨x.hb.getD i 0,0,none⟩)] [dj b c s x] F (fun r L'=>r= .int .i64 (s.hs.getD i dl).aR∧L'=[dj b c s x]):=az.inH hi hx fun F=>Ti
theorem Rv {k:Int} (hx:gG c s x):az prog 38 [.pointer (some ⟨x.bn,0,none⟩),.int .i64 k] [dj b c s x] F (fun r L'=>∃ q:Option Addr×Nat,r= .slice q.1 (dK s.n k).length q.2∧L'=[aT 159 15 (.slice q.1 (dK s.n k).length q.2) (dK s.n k).length (aj mc (dK s.n k)),dj b c s x]):=
  az.X7 (α:=Option Addr×Nat) hx fun F=>(Oe).mono fun r L ⟨p,q,h⟩=>⟨(p,q),h⟩
theorem OE (hx:gG c s x):az prog 169 [.pointer (some ⟨x.bn,0,none⟩)] [dj b c s x] F (fun r L'=>r= .bool (decide (jZ s.n=[]))∧L'=[dj b c s x]):=az.qK hx fun F=>Lh
theorem Hw (hx:gG c s x):az prog 25 [.pointer (some ⟨b,0,none⟩)] [dj b c s x] F (fun r L'=>r= .pointer (some ⟨x.bn,0,none⟩)∧L'=[dj b c s x]):=by
  refine ay func25 ntmps25 ?_;refine gZ fun hf=>?_;repeat first|refine gd ?_|intro _
  (apply ad rfl rfl ar)
  ·exact ⟨rfl,rfl⟩
  ·refine eI ?_ hf;exact af
theorem Ee {i:Nat} (hi:i<x.kb.length) (hx:gG c s x):az prog 84 [.pointer (some ⟨b,0,none⟩),.int .i64 i] [dj b c s x] F (fun r L'=>r= .int .i64 (kl (s.ks.getD i bQ))∧L'=[dj b c s { x with pt:=x.pt}]):=by
  obtain ⟨⟨f1,f2,f3⟩,⟨f4,f5,f6⟩,f7⟩:=id hx;have hg:=dB hi;have h0:0≤(i:Int)∧(i:Int)<x.kb.length:=by omega
  have h1:¬¬(0≤(i:Int)∧(i:Int)<x.kb.length):=fun h=>h h0;have hL:=fun F=>vv (F:=F) (b:=x.kb[i]) (l:=(s.ks.getD i bQ).l) (rs:=(s.ks.getD i bQ).rs) (tr:=(s.ks.getD i bQ).tr);have eS:s=⟨s.ks.set i (s.ks.getD i bQ),s.cs.set i (s.cs.getD i aL),s.hs,s.n,s.tr,s.aR⟩:=by rw [bf,bf]
  have hE:∀ L M,ai L (dj b c ⟨s.ks.set i (s.ks.getD i bQ),s.cs.set i (s.cs.getD i aL),s.hs,s.n,s.tr,s.aR⟩ { x with pt:=x.pt}::M)→ai L (dj b c s { x with pt:=x.pt}::M):=fun L M h=>by rw [←eS] at h;exact h
  refine ay func84 ntmps84 ?_;refine mC hi (om) fun hf=>?_;repeat first|refine gd ?_|intro _|refine ae @pQ ?_|refine ae @hL ?_
  (apply ad rfl rfl ar)
  ·exact ⟨rfl,rfl⟩
  ·refine hE _ _ ?_;(apply gm;(focus (exact af));all_goals exact bu)
theorem EO {F:List HP} {v:Value} {n:Nat} {xs:List Value} (k:bN F 6 v n xs) (hn:n≤1099511627776):az prog 63 [v] [] F (fun r L'=>∃ p c,r= .slice p n c∧L'=[aT 76 6 (.slice p n c) n xs]):=by
  refine ay func63 ntmps63 ?_;refine Ch (v:=v) k fun q1 q2 p c0 e q3=>?_;subst e;cases p with
  |none=>
   obtain rfl:=q3 rfl;obtain rfl:xs=[]:=List.eq_nil_of_length_eq_zero (by simpa using q1);repeat first|refine gd ?_|intro _
   (apply ad rfl rfl ar)
   ·exact ⟨_,_,rfl,rfl⟩
   ·exact aI ai.refl
  |some a=>
   repeat first|refine gd ?_|intro _
   simp only [Nat.zero_add,List.nil_append];(apply ad rfl rfl ar)
   ·exact ⟨_,_,rfl,rfl⟩
   ·exact ai.refl
theorem A3 (hx:gG c s x) (ht:s.tr.length≤1000000000000):az prog 16 [.pointer (some ⟨b,0,none⟩)] [dj b c s x] F (fun r L'=>∃ q:Option Addr×Nat,r= .slice q.1 s.tr.length q.2∧L'=[aT 76 6 (.slice q.1 s.tr.length q.2) s.tr.length (aj Hb s.tr),dj b c s x]):=by
  refine ay func16 ntmps16 ?_;refine gZ fun hf=>?_;repeat first|refine gd ?_|intro _|refine ae @EO ?_
  rename_i p1 c1;(apply ad rfl rfl ar)
  ·exact ⟨(p1,c1),rfl,rfl⟩
  ·refine ai.cons (eI ?_ hf);exact af
theorem T0 (hx:gG c s x) (h0:s.aR=0) (h1:∀ y∈s.hs,y.aR=0):az prog 17 [.pointer (some ⟨b,0,none⟩)] [dj b c s x] F (fun r L'=>r= .int .i64 0∧L'=[dj b c s x]):=by
  obtain ⟨⟨f1,f2,f3⟩,⟨f4,f5,f6⟩,f7⟩:=id hx;have hh:=mB f7;refine ay func17 ntmps17 ?_;refine gZ fun hf=>?_;repeat first|refine gd ?_|intro _
  apply aO (E0:=[(13,_),(14,_)]) (fun E0 (i:Nat)=>(15,.int .i64 i)::(3,.int .i64 s.aR)::E0) (fun _=>Cw b c s x F) (fun i=>i≤x.hb.length) (fun i=>x.hb.length-i) 0
  ·exact bH
  ·exact Nat.zero_le _
  ·exact af
  ·rintro i hi;by_cases bB:i<x.hb.length
   ·have hg:=dB bB;have ho:(s.hs.getD i dl).aR=0:=A0 (P:=fun y:di=>y.aR=0) h1 rfl;have hO:=fun F=>az.VE (F:=F) hx fun F=>JP (F:=F) (b:=b) (c:=c) (s:=s) (x:=x) bB hx;simp only [ho,g8 bB] at hO;repeat first|refine gd ?_|intro _|refine ae @hO ?_
    simp only [Int.add_zero];refine aC (i+1) (om) (om) ?_ ?_
    ·exact bH
    ·exact af
   ·repeat first|refine gd ?_|intro _
    (apply ad rfl rfl ar)
    ·exact ⟨congrArg (Value.int .i64) h0,rfl⟩
    ·refine eI ?_ hf;exact af
theorem A4 (hx:gG c s x) (Sr:∀ k∈s.ks,k.rs.length≤k.l.length∧k.l.length≤64):az prog 83 [.pointer (some ⟨b,0,none⟩)] [dj b c s x] F (fun r L'=>r= .bool (iC s)∧L'=[dj b c s x]):=by
  obtain ⟨⟨f1,f2,f3⟩,⟨f4,f5,f6⟩,f7⟩:=id hx;have hh:=mB f7;have YS:=(cp f7).1;have hEm:=fun F=>az.VE (F:=F) hx fun F=>OE (F:=F) (b:=b) (c:=c) (s:=s) (x:=x) hx;refine ay func83 ntmps83 ?_;refine gZ fun hf=>?_;repeat first|refine gd ?_|intro _
  apply Nu (P:=prog) (l:=0) (fun _:Unit=>[]) (fun _=>[]) (fun _=>False) (by rfl)
  ·repeat first|refine gd ?_|intro _|refine ae @hEm ?_
   refine Nv ?_;repeat first|refine gd ?_|intro _
   have Vp:(if decide (jZ s.n=[])=true then jZ s.n=[] else iC s=false):=by
     by_cases h:jZ s.n=[]
     ·rw [decide_eq_true h];exact h
     ·rw [decide_eq_false h];exact tZ fun g=>h (nW.1 g).1
   generalize decide (jZ s.n=[])=q0 at Vp ⊢;apply aO (E0:=[(0,_)]) (fun E0 (q:Bool)=>(3,.bool q)::E0) (fun _=>Cw b c s x F) (fun q=>if q=true then jZ s.n=[] else iC s=false) (fun q=>if q=true then 1 else 0) q0
   ·exact bH
   ·exact Vp
   ·exact af
   ·intro q hq;cases q with
    |false=>
     have Xi:iC s=false:=by simpa using hq
     repeat first|refine gd ?_|intro _
     refine zf ?_;rw [Xi];repeat first|refine gd ?_|intro _
     (apply ad rfl rfl ar)
     ·exact ⟨rfl,rfl⟩
     ·refine eI ?_ hf;exact af
    |true=>
     have Xi:jZ s.n=[]:=by simpa using hq
     repeat first|refine gd ?_|intro _
     apply aO (E0:=[(0,_),(3,_),(17,_),(18,_)]) (fun E0 (i:Nat)=>(19,.int .i64 i)::E0) (fun _=>Cw b c s x F) (fun i=>i≤x.ab.length∧∀ j (h1:j<s.ks.length) (h2:j<s.cs.length),j<i→kl s.ks[j]=0∧s.cs[j].aP=[]∧s.cs[j].bD=[]) (fun i=>x.ab.length-i) 0
     ·exact bH
     ·exact ⟨Nat.zero_le _,fun j _ _ h=>absurd h (Nat.not_lt_zero _)⟩
     ·exact af
     ·rintro i ⟨hi,dC⟩;by_cases bB:i<x.ab.length
      ·have Ap:i<x.kb.length:=by omega
       have hg:=dB bB;have gk:s.ks.getD i bQ=s.ks[i]:=by rw [List.getD_eq_getElem?_getD,List.getElem?_eq_getElem (om)];rfl
       have ga:s.cs.getD i aL=s.cs[i]:=by rw [List.getD_eq_getElem?_getD,List.getElem?_eq_getElem (om)];rfl
       have Me:=fun F=>az.VE (F:=F) hx fun F=>Ee (F:=F) (b:=b) (c:=c) (s:=s) (x:=x) Ap hx;have O9:=fun F=>az.SL (F:=F) hx fun F=>DC (F:=F) (b:=b) (c:=c) (s:=s) (x:=x) bB hx;have He:=fun F=>az.SL (F:=F) hx fun F=>BJ (F:=F) (b:=b) (c:=c) (s:=s) (x:=x) bB hx;simp only [g8 bB] at O9 He;have WW:=Sr s.ks[i] (List.getElem_mem (om));have OT:0≤kl (s.ks.getD i bQ):=by rw [gk];unfold kl;omega
       by_cases hA:kl (s.ks.getD i bQ)>0
       ·have PN:iC s=false:=tZ fun g=>by have:=(nW.1 g).2.1 i (om);rw [←gk] at this;omega
        repeat first|refine gd ?_|intro _|refine ae @Me ?_|refine ae @O9 ?_|refine ae @He ?_
        refine aC false (by decide) (by simpa using PN) ?_ ?_
        ·exact bH
        ·exact af
       ·by_cases hB:(s.cs.getD i aL).aP.length>0
        ·have PN:iC s=false:=tZ fun g=>by have:=((nW.1 g).2.2.1 i (om)).1;rw [←ga] at this;rw [this] at hB;exact absurd hB (by decide)
         have hB':(((s.cs.getD i aL).aP.length:Nat):Int)>0:=by omega
         repeat first|refine gd ?_|intro _|refine ae @Me ?_|refine ae @O9 ?_|refine ae @He ?_
         refine aC false (by decide) (by simpa using PN) ?_ ?_
         ·exact bH
         ·exact af
        ·have hB':¬(((s.cs.getD i aL).aP.length:Nat):Int)>0:=by omega
         by_cases hC:(s.cs.getD i aL).bD.length>0
         ·have PN:iC s=false:=tZ fun g=>by have:=((nW.1 g).2.2.1 i (om)).2;rw [←ga] at this;rw [this] at hC;exact absurd hC (by decide)
          have hC':(((s.cs.getD i aL).bD.length:Nat):Int)>0:=by omega
          repeat first|refine gd ?_|intro _|refine ae @Me ?_|refine ae @O9 ?_|refine ae @He ?_
          refine aC false (by decide) (by simpa using PN) ?_ ?_
          ·exact bH
          ·exact af
         ·have hC':¬(((s.cs.getD i aL).bD.length:Nat):Int)>0:=by omega
          have X8:i+1≤x.ab.length∧∀ j (h1:j<s.ks.length) (h2:j<s.cs.length),j<i+1→kl s.ks[j]=0∧s.cs[j].aP=[]∧s.cs[j].bD=[]:=by
            refine ⟨om,fun j h1 h2 rp=>?_⟩;by_cases e:j=i
            ·subst e;rw [←gk,←ga];exact ⟨om,List.length_eq_zero_iff.1 (om),List.length_eq_zero_iff.1 (om)⟩
            ·exact dC j h1 h2 (om)
          repeat first|refine gd ?_|intro _|refine ae @Me ?_|refine ae @O9 ?_|refine ae @He ?_
          refine aC (i+1) (om) X8 ?_ ?_
          ·exact bH
          ·exact af
      ·repeat first|refine gd ?_|intro _
       apply aO (E0:=[(0,_),(3,_),(44,_),(45,_)]) (fun E0 (i:Nat)=>(46,.int .i64 i)::E0) (fun _=>Cw b c s x F) (fun i=>i≤x.hb.length∧∀ j (h1:j<s.hs.length),j<i→s.hs[j].q.length=0) (fun i=>x.hb.length-i) 0
       ·exact bH
       ·exact ⟨Nat.zero_le _,fun j _ h=>absurd h (Nat.not_lt_zero _)⟩
       ·exact af
       ·rintro k ⟨hk,VA⟩;by_cases Ka:k<x.hb.length
        ·have hg:=dB Ka;have gh:s.hs.getD k dl=s.hs[k]:=by rw [List.getD_eq_getElem?_getD,List.getElem?_eq_getElem (om)];rfl
         have US:=fun F=>az.SL (F:=F) hx fun F=>FT (F:=F) (b:=b) (c:=c) (s:=s) (x:=x) Ka hx;simp only [g8 Ka] at US;by_cases hD:(((s.hs.getD k dl).q.length:Nat):Int)>0
         ·have PN:iC s=false:=tZ fun g=>by have:=(nW.1 g).2.2.2 k (om);rw [←gh] at this;omega
          repeat first|refine gd ?_|intro _|refine ae @US ?_
          refine aC false (by decide) (by simpa using PN) ?_ ?_
          ·exact bH
          ·exact af
         ·have X9:k+1≤x.hb.length∧∀ j (h1:j<s.hs.length),j<k+1→s.hs[j].q.length=0:=by
            refine ⟨om,fun j h1 rp=>?_⟩;by_cases e:j=k
            ·subst e;rw [←gh];omega
            ·exact VA j h1 (om)
          repeat first|refine gd ?_|intro _|refine ae @US ?_
          refine aC (k+1) (om) X9 ?_ ?_
          ·exact bH
          ·exact af
        ·have hqt:iC s=true:=nW.2 ⟨Xi,fun j h=>(dC j h (om) (om)).1,fun j h=>(dC j (om) h (om)).2,fun j h=>VA j h (om)⟩;repeat first|refine gd ?_|intro _
         refine zf ?_;rw [hqt];repeat first|refine gd ?_|intro _
         (apply ad rfl rfl ar)
         ·exact ⟨rfl,rfl⟩
         ·refine eI ?_ hf;exact af
  ·intro _ h;exact absurd h id
end
end
section
def oI (l rs:Nat) (tr:List (Int×Bool)) (td:List Int):Prop:=(∀ k,(rs:Int)<k→(fH tr k).getD false=decide (k∈td))∧td.Nodup∧∀ k∈td,0≤k∧k<(l:Int)
def sA (b:Nat) (k:l7):HP:=Ex fun td:List Int=>[iL b k.l k.rs td,ja (oI k.l.length k.rs.length k.tr td)]
abbrev BR (x:fP) (s:cg) (i:Nat):HP:=sA (x.kb.getD i 0) (s.ks.getD i bQ)
abbrev BS (c:au) (x:fP) (s:cg) (i:Nat):HP:=iE (x.ab.getD i 0) c (i:Int) (s.cs.getD i aL)
abbrev BT (c:au) (x:fP) (s:cg) (i:Nat):HP:=fI (x.hb.getD i 0) c (i:Int) (s.hs.getD i dl)
def fy (b:Nat) (c:au) (s:cg) (x:fP):HP:=bZ [ao b 72 (BP c s.aR x.kb.length x.ab.length x.hb.length s.tr.length x.pk x.pa x.ph x.pt x.bn),
  aT 149 1 (.slice x.pk.1 x.kb.length x.pk.2) x.kb.length (aj jA x.kb),aT 152 1 (.slice x.pa.1 x.ab.length x.pa.2) x.ab.length (aj jA x.ab),aT 155 1 (.slice x.ph.1 x.hb.length x.ph.2) x.hb.length (aj jA x.hb),
  dk x.bn c s.n,aT 77 6 (.slice x.pt.1 s.tr.length x.pt.2) s.tr.length (aj Hb s.tr),bZ ((List.range x.kb.length).map (BR x s)),bZ ((List.range x.ab.length).map (BS c x s)),bZ ((List.range x.hb.length).map (BT c x s)),ja (gG c s x)]
def PO (b:Nat) (c:au) (s:cg):HP:=Ex fun x:fP=>[fy b c s x]
theorem T3 {b:Nat} {c:au} {s:cg} {x:fP} {L M:List HP} (h:ai L (fy b c s x::M)):ai L (PO b c s::M):=ai.trans h (fU (p:=fun x:fP=>[fy b c s x]) x)
abbrev Kb (b:Nat) (c:au) (s:cg) (x:fP) (L:List HP):List HP:=ao b 72 (BP c s.aR x.kb.length x.ab.length x.hb.length s.tr.length x.pk x.pa x.ph x.pt x.bn)::aT 149 1 (.slice x.pk.1 x.kb.length x.pk.2) x.kb.length (aj jA x.kb)::aT 152 1 (.slice x.pa.1 x.ab.length x.pa.2) x.ab.length (aj jA x.ab)
  ::aT 155 1 (.slice x.ph.1 x.hb.length x.ph.2) x.hb.length (aj jA x.hb)::dk x.bn c s.n::aT 77 6 (.slice x.pt.1 s.tr.length x.pt.2) s.tr.length (aj Hb s.tr)::bZ ((List.range x.kb.length).map (BR x s))::bZ ((List.range x.ab.length).map (BS c x s))::bZ ((List.range x.hb.length).map (BT c x s))::L
theorem M1 {b:Nat} {c:au} {s:cg} {x:fP} {L M:List HP} {nk na nh nt:Nat} {vk va vh vt:List Value} {pk pa ph pt:Option Addr} {ck ca ch ct bn:Nat}
    (h:ai L (ao b 72 (BP c s.aR nk na nh nt (pk,ck) (pa,ca) (ph,ch) (pt,ct) bn)::aT 149 1 (.slice pk nk ck) nk vk::aT 152 1 (.slice pa na ca) na va::aT 155 1 (.slice ph nh ch) nh vh
     ::dk bn c s.n::aT 77 6 (.slice pt nt ct) nt vt::bZ ((List.range x.kb.length).map (BR x s))::bZ ((List.range x.ab.length).map (BS c x s))::bZ ((List.range x.hb.length).map (BT c x s))::M))
    (hf:gG c s x) (hx:x.pk=(pk,ck)∧x.pa=(pa,ca)∧x.ph=(ph,ch)∧x.pt=(pt,ct)∧x.bn=bn) (h1:nk=x.kb.length) (h2:na=x.ab.length) (h3:nh=x.hb.length) (h4:nt=s.tr.length) (h5:vk=aj jA x.kb) (h6:va=aj jA x.ab) (h7:vh=aj jA x.hb) (h8:vt=aj Hb s.tr):ai L (fy b c s x::M):=by
  obtain ⟨kb,ab,hb,pk',pa',ph',rr,bn'⟩:=x;obtain ⟨rfl,rfl,rfl,rfl,rfl⟩:=hx;subst h1 h2 h3 h4 h5 h6 h7 h8;refine ai.trans h (ai.trans ?_ jN);exact ai.cons (ai.cons (ai.cons (ai.cons (ai.cons (ai.cons (ai.cons (ai.cons (ai.cons (cX hf)))))))))
theorem uE {b:Nat} {c:au} {s:cg} {x:fP} {L:List HP} {w:World} (h:Sat (fy b c s x::L) w):gG c s x∧Sat (Kb b c s x L) w:=by
  have hx:=km _ h;exact ⟨fc (aG (aG (aG (aG (aG (aG (aG (aG (aG hx))))))))),(ai.cons (ai.cons (ai.cons (ai.cons (ai.cons (ai.cons (ai.cons (ai.cons (ai.cons (ai.drop ai.refl)))))))))) _ hx⟩
section
variable {b:Nat} {c:au} {s:cg} {x:fP} {P:Program} {N:Nat} {env:Env} {L:List HP} {Q:Exit→Act→World→Prop}
theorem ky {co:Code} (h:gG c s x→WC P N co env (Kb b c s x L) Q):WC P N co env (fy b c s x::L) Q:=fun a w ha hw=>h (uE hw).1 a w ha (uE hw).2
theorem LB {all:Array Oper} {o:List Oper} (h:gG c s x→WO P N all o env (Kb b c s x L) Q):WO P N all o env (fy b c s x::L) Q:=fun a w ha hw=>h (uE hw).1 a w ha (uE hw).2
theorem OF {co:Code} (h:∀ x,WC P N co env (fy b c s x::L) Q):WC P N co env (PO b c s::L) Q:=by
  intro a w ha hw;obtain ⟨x,hx⟩:=eN hw;exact h x a w ha hx
theorem LC {all:Array Oper} {o:List Oper} (h:∀ x,WO P N all o env (fy b c s x::L) Q):WO P N all o env (PO b c s::L) Q:=by
  intro a w ha hw;obtain ⟨x,hx⟩:=eN hw;exact h x a w ha hx
end
abbrev PP (p:Nat×l7):HP:=sA p.1 p.2
abbrev Pa (c:au) (p:Nat×(Nat×cT)):HP:=iE p.1 c (p.2.1:Int) p.2.2
abbrev PQ (c:au) (p:Nat×(Nat×di)):HP:=fI p.1 c (p.2.1:Int) p.2.2
theorem Rw {kq:List (Nat×l7)} {b:Nat} {k:l7} {L M:List HP} (h:ai L (sA b k::bZ (kq.map PP)::M)):ai L (bZ (kq.map PP++[PP (b,k)])::M):=by
  have:=ai.trans h (o7 (f:=PP) (b,k));rwa [List.map_append] at this
theorem Rx {c:au} {aq:List (Nat×(Nat×cT))} {b i:Nat} {k:cT} {L M:List HP} (h:ai L (iE b c (i:Int) k::bZ (aq.map (Pa c))::M)):ai L (bZ (aq.map (Pa c)++[Pa c (b,(i,k))])::M):=by
  have:=ai.trans h (o7 (f:=Pa c) (b,(i,k)));rwa [List.map_append] at this
theorem Ry {c:au} {hq:List (Nat×(Nat×di))} {b i:Nat} {k:di} {L M:List HP} (h:ai L (fI b c (i:Int) k::bZ (hq.map (PQ c))::M)):ai L (bZ (hq.map (PQ c)++[PQ c (b,(i,k))])::M):=by
  have:=ai.trans h (o7 (f:=PQ c) (b,(i,k)));rwa [List.map_append] at this
section
variable {b:Nat} {c:au} {s:cg} {x:fP} {P:Program} {N:Nat} {env:Env} {L:List HP} {Q:Exit→Act→World→Prop}
theorem FU {o:Code} (h:gG c s x→WC P N o env (fy b c s x::L) Q):WC P N o env (fy b c s x::L) Q:=fun a w ha hw=>h (uE hw).1 a w ha hw
theorem LD {all:Array Oper} {o:List Oper} (h:gG c s x→WO P N all o env (fy b c s x::L) Q):WO P N all o env (fy b c s x::L) Q:=fun a w ha hw=>h (uE hw).1 a w ha hw
end
theorem fv {b:Nat} {c:au} {s:cg} {x:fP} {L M:List HP} (h:ai L (Kb b c s x M)) (hf:gG c s x):ai L (fy b c s x::M):=M1 h hf ⟨rfl,rfl,rfl,rfl,rfl⟩ rfl rfl rfl rfl rfl rfl rfl rfl
abbrev Hf (b:Nat) (c:au) (aR:Int) (nk na nh nt:Nat) (pk pa ph pt:Option Addr×Nat) (bn:Nat):HP:=ao b 72 (BP c aR nk na nh nt pk pa ph pt bn)
abbrev Kc (p:Option Addr×Nat) (l:List Nat):HP:=aT 149 1 (.slice p.1 l.length p.2) l.length (aj jA l)
abbrev Pb (p:Option Addr×Nat) (l:List Nat):HP:=aT 152 1 (.slice p.1 l.length p.2) l.length (aj jA l)
abbrev Ss (p:Option Addr×Nat) (l:List Nat):HP:=aT 155 1 (.slice p.1 l.length p.2) l.length (aj jA l)
abbrev Mf (p:Option Addr×Nat) (l:List Aq):HP:=aT 77 6 (.slice p.1 l.length p.2) l.length (aj Hb l)
abbrev SM (b:Nat) (c:au) (s:cg) (x:fP) (i:Nat) (hk:i<x.kb.length) (ha:i<x.ab.length) (L:List HP):List HP:=Hf b c s.aR x.kb.length x.ab.length x.hb.length s.tr.length x.pk x.pa x.ph x.pt x.bn::Kc x.pk x.kb::Pb x.pa x.ab::Ss x.ph x.hb::dk x.bn c s.n::Mf x.pt s.tr
  ::sA x.kb[i] (s.ks.getD i bQ)::iE x.ab[i] c (i:Int) (s.cs.getD i aL)::bZ (((List.range x.kb.length).eraseIdx i).map (BR x s))::bZ (((List.range x.ab.length).eraseIdx i).map (BS c x s))::bZ ((List.range x.hb.length).map (BT c x s))::L
theorem OG {b:Nat} {c:au} {s:cg} {x:fP} {i:Nat} {L:List HP} (hk:i<x.kb.length) (ha:i<x.ab.length):ai (Kb b c s x L) (SM b c s x i hk ha L):=by
  refine ai.cons (ai.cons (ai.cons (ai.cons (ai.cons (ai.cons ?_)))));refine ai.trans (oA hk) ?_;have e1:BR x s i=sA x.kb[i] (s.ks.getD i bQ):=by unfold BR;rw [g8 hk]
  rw [e1];refine ai.cons ?_;refine ai.trans (ai.cons (oA ha)) ?_;have e2:BS c x s i=iE x.ab[i] c (i:Int) (s.cs.getD i aL):=by unfold BS;rw [g8 ha]
  rw [e2];exact fD (List.Perm.swap _ _ _)
theorem eQ {b:Nat} {c:au} {s s':cg} {x:fP} {i:Nat} {hk:i<x.kb.length} {ha:i<x.ab.length} {L M:List HP} {pt:Option Addr×Nat} {k:l7} {a:cT} {n:fK} {tr:List Aq} {aR:Int}
    (h:ai L (Hf b c aR x.kb.length x.ab.length x.hb.length tr.length x.pk x.pa x.ph pt x.bn::Kc x.pk x.kb::Pb x.pa x.ab::Ss x.ph x.hb::dk x.bn c n::Mf pt tr
     ::sA x.kb[i] k::iE x.ab[i] c (i:Int) a::bZ (((List.range x.kb.length).eraseIdx i).map (BR x s))::bZ (((List.range x.ab.length).eraseIdx i).map (BS c x s))::bZ ((List.range x.hb.length).map (BT c x s))::M))
    (hf:gG c s x) (e1:s'.ks=s.ks.set i k) (e2:s'.cs=s.cs.set i a) (e3:s'.hs=s.hs) (e4:s'.n=n) (e5:s'.tr=tr) (e6:s'.aR=aR):ai L (fy b c s' { x with pt:=pt}::M):=by
  obtain ⟨ks,cs,hs,nn,tt,oo⟩:=s';dsimp only at e1 e2 e3 e4 e5 e6;subst e1 e2 e3 e4 e5 e6;obtain ⟨⟨f1,f2,f3⟩,f4,f5⟩:=hf;refine fv (ai.trans h ?_) ⟨⟨by dsimp only;rw [List.length_set];exact f1,by dsimp only;rw [List.length_set];exact f2,f3⟩,f4,f5⟩;refine ai.cons (ai.cons (ai.cons (ai.cons (ai.cons (ai.cons ?_)))));have e1:sA x.kb[i] k=BR { x with pt:=pt} ⟨s.ks.set i k,s.cs.set i a,s.hs,nn,tt,oo⟩ i:=by unfold BR;dsimp only;rw [g8 hk,fV,if_pos ⟨rfl,om⟩]
  have e2:iE x.ab[i] c (i:Int) a=BS c { x with pt:=pt} ⟨s.ks.set i k,s.cs.set i a,s.hs,nn,tt,oo⟩ i:=by unfold BS;dsimp only;rw [g8 ha,fV,if_pos ⟨rfl,om⟩]
  rw [e1,e2];refine ai.trans (fD (List.Perm.trans (List.Perm.cons _ (List.Perm.swap _ _ _)) (List.Perm.refl _))) ?_;refine ai.trans (qU (g:=BR { x with pt:=pt} ⟨s.ks.set i k,s.cs.set i a,s.hs,nn,tt,oo⟩) hk fun j hj kz=>?_) (ai.cons ?_)
  ·unfold BR;dsimp only;rw [fV,if_neg (fun h=>kz h.1)]
  ·refine ai.trans (qU (g:=BS c { x with pt:=pt} ⟨s.ks.set i k,s.cs.set i a,s.hs,nn,tt,oo⟩) ha fun j hj kz=>?_) (ai.cons ?_)
   ·unfold BS;dsimp only;rw [fV,if_neg (fun h=>kz h.1)]
   ·exact ai.refl
section
variable {b:Nat} {c:au} {s:cg} {x:fP} {P:Program} {N:Nat} {env:Env} {L:List HP} {Q:Exit→Act→World→Prop}
theorem gp {co:Code} {i:Nat} (hk:i<x.kb.length) (ha:i<x.ab.length) (h:gG c s x→WC P N co env (SM b c s x i hk ha L) Q):WC P N co env (fy b c s x::L) Q:=
  ky fun hf a w hA hw=>h hf a w hA ((OG hk ha).gX hw)
end
abbrev Va (b:Nat) (c:au) (s:cg) (x:fP) (d:Nat) (hd:d<x.hb.length) (L:List HP):List HP:=Hf b c s.aR x.kb.length x.ab.length x.hb.length s.tr.length x.pk x.pa x.ph x.pt x.bn::Kc x.pk x.kb::Pb x.pa x.ab::Ss x.ph x.hb::dk x.bn c s.n::Mf x.pt s.tr
  ::fI x.hb[d] c (d:Int) (s.hs.getD d dl)::bZ ((List.range x.kb.length).map (BR x s))::bZ ((List.range x.ab.length).map (BS c x s))::bZ (((List.range x.hb.length).eraseIdx d).map (BT c x s))::L
theorem OH {b:Nat} {c:au} {s:cg} {x:fP} {d:Nat} {L:List HP} (hd:d<x.hb.length):ai (Kb b c s x L) (Va b c s x d hd L):=by
  refine ai.cons (ai.cons (ai.cons (ai.cons (ai.cons (ai.cons ?_)))));refine ai.trans (ai.cons (ai.cons (oA hd))) ?_;have e1:BT c x s d=fI x.hb[d] c (d:Int) (s.hs.getD d dl):=by unfold BT;rw [g8 hd]
  rw [e1];exact fD (List.Perm.trans (List.Perm.cons _ (List.Perm.swap _ _ _)) (List.Perm.swap _ _ _))
theorem nR {b:Nat} {c:au} {s s':cg} {x:fP} {d:Nat} {hd:d<x.hb.length} {L M:List HP} {k:di} {n:fK} {aR:Int}
    (h:ai L (Hf b c aR x.kb.length x.ab.length x.hb.length s.tr.length x.pk x.pa x.ph x.pt x.bn::Kc x.pk x.kb::Pb x.pa x.ab::Ss x.ph x.hb::dk x.bn c n::Mf x.pt s.tr
     ::fI x.hb[d] c (d:Int) k::bZ ((List.range x.kb.length).map (BR x s))::bZ ((List.range x.ab.length).map (BS c x s))::bZ (((List.range x.hb.length).eraseIdx d).map (BT c x s))::M))
    (hf:gG c s x) (e1:s'.ks=s.ks) (e2:s'.cs=s.cs) (e3:s'.hs=s.hs.set d k) (e4:s'.n=n) (e5:s'.tr=s.tr) (e6:s'.aR=aR):ai L (fy b c s' x::M):=by
  obtain ⟨ks,cs,hs,nn,tt,oo⟩:=s';dsimp only at e1 e2 e3 e4 e5 e6;subst e1 e2 e3 e4 e5 e6;obtain ⟨⟨f1,f2,f3⟩,f4,f5⟩:=hf;refine fv (ai.trans h ?_) ⟨⟨f1,f2,by dsimp only;rw [List.length_set];exact f3⟩,f4,f5⟩;refine ai.cons (ai.cons (ai.cons (ai.cons (ai.cons (ai.cons ?_)))));have e1:fI x.hb[d] c (d:Int) k=BT c x ⟨s.ks,s.cs,s.hs.set d k,nn,s.tr,oo⟩ d:=by unfold BT;dsimp only;rw [g8 hd,fV,if_pos ⟨rfl,om⟩]
  rw [e1];refine ai.trans (fD (List.Perm.trans (List.Perm.swap _ _ _) (List.Perm.cons _ (List.Perm.swap _ _ _)))) (ai.cons (ai.cons ?_));refine ai.trans (qU (g:=BT c x ⟨s.ks,s.cs,s.hs.set d k,nn,s.tr,oo⟩) hd fun j hj kz=>?_) (ai.cons ai.refl);unfold BT;dsimp only;rw [fV,if_neg (fun h=>kz h.1)]
section
variable {b:Nat} {c:au} {s:cg} {x:fP} {P:Program} {N:Nat} {env:Env} {L:List HP} {Q:Exit→Act→World→Prop}
theorem lH {co:Code} {d:Nat} (hd:d<x.hb.length) (h:gG c s x→WC P N co env (Va b c s x d hd L) Q):WC P N co env (fy b c s x::L) Q:=
  ky fun hf a w hA hw=>h hf a w hA ((OH hd).gX hw)
end
section
variable {P:Program} {f:FuncId} {vs:List Value} {F:List HP} {b:Nat} {c:au} {s:cg} {x:fP}
theorem Rz {L:List HP}:ai (fy b c s x::L) (Kb b c s x L):=
  ai.trans km (ai.cons (ai.cons (ai.cons (ai.cons (ai.cons (ai.cons (ai.cons (ai.cons (ai.cons (ai.drop ai.refl))))))))))
theorem az.Vb {u:Value} (hx:gG c s x) (C:∀ F,az P f vs [fy b c s x] F (fun r L'=>r=u∧L'=[fy b c s x])):az P f vs (Kb b c s x []) F (fun r L'=>r=u∧L'=Kb b c s x []):=by
  refine az.lift (R:=[]) (C _) (fv ai.refl hx) ?_;rintro v L ⟨rfl,rfl⟩;exact ⟨_,⟨rfl,rfl⟩,Rz⟩
end
theorem az.RA {P:Program} {f:FuncId} {vs:List Value} {F:List HP} {post:Value→List HP→Prop} {b:Nat} {c:au} {s:cg} {x:fP} (C:az P f vs [fy b c s x] F post) (hf:gG c s x):az P f vs (Kb b c s x []) F post:=C.YR (fv ai.refl hf)
end
section
theorem EP {α:Type} (l:List (Int×α)) {k j:Int} (h:j≠k):fH (vD l k) j=fH l j:=by
  induction l with
  |nil=>rfl
  |cons p r ih=>
   unfold vD at ih ⊢;rw [List.eraseP_cons];by_cases hp:p.1=k
   ·rw [decide_eq_true hp]
    show fH r j=fH (p::r) j;unfold fH;rw [List.find?_cons,show decide (p.1=j)=false from decide_eq_false (fun e=>h (by rw [←e,hp]))]
   ·rw [decide_eq_false hp]
    show fH (p::List.eraseP _ r) j=fH (p::r) j;unfold fH at ih ⊢;rw [List.find?_cons,List.find?_cons];cases decide (p.1=j) with
    |true=>rfl
    |false=>exact ih
theorem oI.Vz {l rs:Nat} {tr:List (Int×Bool)} {td:List Int} (h:oI l rs tr td):oI l (rs+1) (vD tr rs) td:=by
  obtain ⟨h1,h2,h3⟩:=h;refine ⟨fun k hk=>?_,h2,h3⟩;rw [EP _ (om)];exact h1 k (om)
theorem oI.len {l rs:Nat} {tr:List (Int×Bool)} {td:List Int} (h:oI l rs tr td):td.length≤l:=by
  obtain ⟨_,h2,h3⟩:=h;have:∀ (n:Nat) (t:List Int),t.Nodup→(∀ k∈t,0≤k∧k<(n:Int))→t.length≤n:=by
    intro n;induction n with
    |zero=>intro t _ ht;cases t with
     |nil=>exact Nat.le_refl _
     |cons a r=>have:=ht a (List.mem_cons_self ..);omega
    |succ n ih=>
     intro t hn ht;have h1:=ih (t.filter fun k=>decide (k≠(n:Int))) (hn.sublist List.filter_sublist) (fun k hk=>by
       rw [List.mem_filter] at hk;have:=ht k hk.1;have:=of_decide_eq_true hk.2;omega)
     have h2:t.length≤(t.filter fun k=>decide (k≠(n:Int))).length+1:=by
       have h3:t.countP (fun k=>decide (k=(n:Int)))≤1:=by
         have:=List.nodup_iff_count.1 hn (n:Int);unfold List.count at this;exact Nat.le_trans (Nat.le_of_eq (List.countP_congr fun k _=>by simp)) this
       have h4:=List.length_eq_countP_add_countP (p:=fun k=>decide (k≠(n:Int))) (l:=t);rw [←List.countP_eq_length_filter];have h5:t.countP (fun a=>decide ¬decide (a≠(n:Int))=true)=t.countP (fun k=>decide (k=(n:Int))):=List.countP_congr fun k _=>by simp
       omega
     omega
  exact this l td h2 h3
theorem oI.ahead {l:List c5} {rs td:List Int} {tr:List (Int×Bool)} (h:oI l.length rs.length tr td) (d:Int):ie l rs td d=fF l rs tr d:=by
  unfold ie fF;cases e:gD l rs d with
  |false=>rfl
  |true=>
   have h1:1≤d:=by simp [gD] at e;omega
   rw [h.1 _ (om)]
theorem oI.jW {l:List c5} {rs td:List Int} {tr:List (Int×Bool)} (h:oI l.length rs.length tr td) (d:Int):pc l rs td d=Go.Sx.jW l rs tr d:=by
  unfold pc Go.Sx.jW;rw [h.ahead]
theorem oI.Wm {l:List c5} {rs td:List Int} {tr:List (Int×Bool)} {d:Int} (h:oI l.length rs.length tr td) (hb:fF l rs tr d=true):oI l.length rs.length (iS tr ((rs.length:Int)+d) true) (td++[(rs.length:Int)+d]):=by
  have hr:=h.ahead d;rw [hb] at hr;unfold ie gD at hr;simp at hr;obtain ⟨h1,h2,h3⟩:=h;refine ⟨fun k hk=>?_,?_,fun k hk=>?_⟩
  ·rw [r8];by_cases e:k=(rs.length:Int)+d
   ·subst e;simp
   ·rw [if_neg e,h1 k hk];simp [e]
  ·rw [List.nodup_append];refine ⟨h2,by simp,?_⟩;intro a ha b hb;rw [List.mem_singleton] at hb;subst hb;intro e;subst e;exact hr.2 ha
  ·rcases List.mem_append.1 hk with hk|hk
   ·exact h3 k hk
   ·rw [List.mem_singleton] at hk;subst hk;omega
theorem oI.nil {l:Nat}:oI l 0 [] []:=⟨fun k _=>by simp [AG],List.nodup_nil,fun k hk=>by cases hk⟩
theorem Hx {b:Nat} {k:l7} {td:List Int} {L M:List HP} (h:ai L (iL b k.l k.rs td::M)) (ht:oI k.l.length k.rs.length k.tr td):ai L (sA b k::M):=by
  refine ai.trans h (ai.trans ?_ (fU (p:=fun td:List Int=>[iL b k.l k.rs td,ja (oI k.l.length k.rs.length k.tr td)]) td));exact ai.cons (cX ht)
theorem vz {P:Program} {f:FuncId} {vs:List Value} {F:List HP} {b:Nat} {k k':l7} {u:Value} (en:sk P f)
    (h:∀ td,oI k.l.length k.rs.length k.tr td→az P f vs [iL b k.l k.rs td] F (fun r L'=>∃ Xj,oI k'.l.length k'.rs.length k'.tr Xj∧r=u∧L'=[iL b k'.l k'.rs Xj])) :
    az P f vs [sA b k] F (fun r L'=>r=u∧L'=[sA b k']):=by
  refine ⟨en,fun w hw=>?_⟩;obtain ⟨td,hx⟩:=eN hw;have ht:oI k.l.length k.rs.length k.tr td:=fc (aG hx);refine ((h td ht).runs w ((ai.cons (ai.drop ai.refl)).gX hx)).mono ?_;rintro x w' ⟨v,L',he,⟨Xj,ht',hv,hL⟩,hs⟩;subst hL;exact ⟨v,_,he,⟨hv,rfl⟩,(Hx ai.refl ht').gX hs⟩
section
variable {F:List HP} {b:Nat} {k:l7}
theorem JQ:az prog 180 [.pointer (some ⟨b,0,none⟩)] [sA b k] F (fun r L'=>r= .tuple [ov (kC k.l k.rs),.bool (kY k.l k.rs)].toArray∧L'=[sA b k]):=
  vz (fb func180 rfl rfl) fun td ht=>IA.mono fun r L h=>⟨td,ht,h⟩
theorem LF {n:Int} (hh:¬k.rs.length=k.l.length):az prog 261 [.pointer (some ⟨b,0,none⟩),.int .i64 n] [sA b k] F (fun r L'=>r= .tuple [.int .i64 k.rs.length,.int .i64 0].toArray∧L'=[sA b (u6 k n)]):=
  vz (fb func261 rfl rfl) fun td ht=>(EJ hh).mono fun r L h=>⟨td,by
    show oI k.l.length (k.rs++[n]).length _ td;rw [List.length_append];exact ht.Vz,h⟩
theorem OI {d:Int}:az prog 95 [.pointer (some ⟨b,0,none⟩),.int .i64 d] [sA b k] F (fun r L'=>r= .tuple [ov (jW k.l k.rs k.tr d),.bool (fF k.l k.rs k.tr d)].toArray∧L'=[sA b k]):=
  vz (fb func95 rfl rfl) fun td ht=>zy.mono fun r L h=>⟨td,ht,by rw [←ht.ahead,←ht.jW];exact h⟩
theorem T4 {d:Int} (Sl:k.l.length≤64) (hb:fF k.l k.rs k.tr d=true):az prog 98 [.pointer (some ⟨b,0,none⟩),.int .i64 d] [sA b k] F (fun r L'=>r= .int .i64 0∧L'=[sA b (o4 k d)]):=
  vz (fb func98 rfl rfl) fun td ht=>(Lj (by rw [ht.ahead];exact hb) (by have:=ht.len;omega)).mono fun r L h=>⟨_,ht.Wm hb,h⟩
end
attribute [local irreducible] Exit.then Exit.inBlock Code.wp WC WO WE WQ V aW dL Sat bz bK dU IntKind.wrap WR Code.rounds WT KO
section
variable {F:List HP} {b:Nat} {c:au} {aR:Int} {nk na nh nt:Nat} {pk pa ph pt:Option Addr×Nat} {bn:Nat}
theorem FV {x:c5}:az prog 97 [ov x] [] F (fun r L'=>r= .int .i64 (bJ x)∧L'=[]):=by
  refine ay func97 ntmps97 ?_;by_cases h:x.ah=1
  ·repeat first|refine gd ?_|intro _
   (apply ad rfl rfl ar;(first|exact cS|exact ⟨by simp [bJ,h]<;>omega,rfl⟩);exact bM)
  ·repeat first|refine gd ?_|intro _
   (apply ad rfl rfl ar;(first|exact cS|exact ⟨by simp [bJ,h]<;>omega,rfl⟩);exact bM)
theorem G1 {Q P:Prop} (k:Q) (h:Hid Q→P:=by
  intro k
  first
  |(refine an ?_;refine bF (id:=2) .false (pl:= .p 0 <| .p 2 <| .p 3 <| .p 4 <| .p 7 <| .p 8 <| .p 10 <| .r 5 <| .r 9 <| .p 11 <| .e true [(1,.e true [(6,.e true [(12,.e true [(13,.p 14 <| .p 15 <| .e true [(16,.done)])])]),(12,.e true [(6,.e true [(13,.p 14 <| .p 15 <| .e true [(16,.done)])])])]),(12,.e true [(1,.e true [(6,.e true [(13,.p 14 <| .p 15 <| .e true [(16,.done)])])])])]) k.out)):P:=h ⟨k⟩
theorem DD {kb:List Nat} {i:Nat} {k:l7} {tr:List Aq} {x:c5} {n:Int} (hi:i<kb.length) (hh:¬k.rs.length=k.l.length) (ht:tr.length≤1000000000000) :
    az prog 181 [.pointer (some ⟨b,0,none⟩),.int .i64 i,ov x,.int .i64 n] [Hf b c aR kb.length na nh tr.length pk pa ph pt bn,Kc pk kb,sA kb[i] k,Mf pt tr] F
    (fun r L'=>∃ rr:Option Addr×Nat,r=qW []∧L'=[Hf b c aR kb.length na nh (tr++[(⟨i,k.rs.length,x,n⟩:Aq)]).length pk pa ph rr bn,Kc pk kb,sA kb[i] (u6 k n),Mf rr (tr++[(⟨i,k.rs.length,x,n⟩:Aq)])]):=by
  have hg:=dB hi;have hC:=fun F=>LF (F:=F) (b:=kb[i]) (k:=k) (n:=n) hh;refine ay func181 ntmps181 ?_;(first|(refine aX (.slice pk.1 kb.length pk.2) inferInstance (om) ?_;intro _)|(refine aY (.slice pk.1 kb.length pk.2) inferInstance (om) ?_;intro _));repeat' (first|refine go ?_|intro _|refine G1 ?_|refine av ?_|refine ae @hC ?_|apply xN|fail)
  all_goals
    rename_i p2 c2;(apply ad rfl rfl ar)
    ·exact ⟨(p2,c2),rfl,rfl⟩
    ·simp only [List.length_append,List.length_singleton,Mf,aJ,bi,u6,Nat.zero_add,List.nil_append];exact af
end
end
section
theorem LG {x:c5} (o1:k8 x=true):0≤x.addr:=by
  unfold k8 at o1;split at o1
  ·simp at o1;omega
  ·split at o1
   ·simp at o1;omega
   ·split at o1
    ·simp at o1;omega
    ·cases o1
theorem DE {c:au} {n:Nat} {s:cg} (hl:eG c n s) {x:c5} (h1:k8 x=true) (h2:x.addr<eh c):fE c x.addr=true:=by
  have h3:=LG h1;have hS:eh c=c.ag*c.aZ:=by simp [eh,hl.ok]
  unfold fE;rw [hl.ok,decide_eq_true (by rw [←hS];exact ⟨h3,h2⟩)];rfl
theorem JR {c:au} {n:Nat} {s:cg} (hl:eG c n s) {i:Int} (h:kZ (cI s i)=true):fE c (gw (cI s i)).addr=true:=by
  obtain ⟨h1,h2⟩:=R2 hl h;exact DE hl h1 h2
theorem IT {c:au} {n:Nat} {s:cg} (hl:eG c n s) {i d:Int} (h:p9 (cI s i) d=true):fE c (rn (cI s i) d).addr=true:=by
  have h0:=h;unfold p9 fF at h;simp only [Bool.and_eq_true] at h;have h1:=h.1;unfold gD at h1;simp at h1;have hi:i.toNat<s.ks.length:=by
    refine Decidable.byContradiction fun g=>?_;have e:cI s i=bQ:=by unfold cI;rw [List.getD_eq_getElem?_getD,List.getElem?_eq_none (om)];rfl
    rw [e] at h1;have:(bQ.rs.length:Int)+d<bQ.l.length:=h1.1.2.2;have e2:bQ.rs.length=0:=rfl;have e3:bQ.l.length=0:=rfl;omega
  have e:cI s i=s.ks[i.toNat]:=by unfold cI;rw [List.getD_eq_getElem?_getD,List.getElem?_eq_getElem hi];rfl
  have hk:=(hl.kp _ (List.getElem_mem hi)).1;rw [←e] at hk;have bB:(((cI s i).rs.length:Int)+d).toNat<(cI s i).l.length:=by omega
  have hm:rn (cI s i) d∈(cI s i).l:=by
    have Vx:fF (cI s i).l (cI s i).rs (cI s i).tr d=true:=h0;unfold rn jW;rw [if_pos Vx,List.getD_eq_getElem?_getD,List.getElem?_eq_getElem bB];exact List.getElem_mem bB
  unfold fl at hk;simp only [Bool.and_eq_true,List.all_eq_true,decide_eq_true_eq] at hk;have:=hk.1.1 _ hm;exact DE hl this.1 this.2
theorem DF {c:au} {x:c5} (Ke:fE c x.addr=true):IntKind.i64.wrap (x.addr.tdiv c.ag)=bT c x:=by
  rw [(xp Ke).1];exact k9 (by have:=(jL (c:=c) (a:=x.addr));unfold dZ at this;omega) (by have:=(jL (c:=c) (a:=x.addr));unfold dZ at this;omega)
theorem JS {c:au} {n:Nat} {k:cT} (h:oH c n k) (hn:n≤1000000000000):∀ m∈k.aP,nf m∧m.gY≤9223372036854775806:=fun m hm=>by
  have h1:=(h.1.2.2 m hm).2.1;have h2:=(h.1.2.2 m hm).2.2;exact ⟨h1,om⟩
end
end Go.Sx
