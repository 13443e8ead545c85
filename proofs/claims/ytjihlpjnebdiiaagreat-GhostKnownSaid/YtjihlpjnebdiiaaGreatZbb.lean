/- Mw2b: several of my texts as one. My own work. -/
import Derived.Test.YtjihlpjnebdiiaaGreatZaz
set_option linter.unusedVariables false
set_option linter.unusedSectionVars false
set_option linter.unusedSimpArgs false
set_option maxRecDepth 100000
set_option maxHeartbeats 4000000
namespace Go.Sx
open Go Go.Proofs
section
attribute [local irreducible] Exit.then Exit.inBlock Code.wp WC WO WE WQ V bF tV d3 bW dF uH IntKind.wrap WR Code.rounds WT KO
theorem nL {Q P:Prop} (k:Q) (h:Hid Q→P:=by
  intro k
  first
  |(refine aG ?_;apply mT (id:=4) (.only [11,12,17]) _ (pl:= .p 0 <| .p 1 <| .p 2 <| .p 4 <| .p 7 <| .r 8 <| .r 10 <| .e true [(3,.p 5 <| .e true [(6,.e true [(9,.e true [(11,.n [12,17] <| .e true [(12,.n [17] <| .p 13 <| .p 14 <| .p 15 <| .e true [(16,.e true [(17,.n [] <| .p 18 <| .done)])]),(16,.e true [(12,.n [17] <| .p 13 <| .p 14 <| .p 15 <| .e true [(17,.n [] <| .p 18 <| .done)])])]),(16,.e true [(11,.n [12,17] <| .e true [(12,.n [17] <| .p 13 <| .p 14 <| .p 15 <| .e true [(17,.n [] <| .p 18 <| .done)])])])]),(16,.e true [(9,.e true [(11,.n [12,17] <| .e true [(12,.n [17] <| .p 13 <| .p 14 <| .p 15 <| .e true [(17,.n [] <| .p 18 <| .done)])])])])]),(9,.e true [(6,.e true [(11,.n [12,17] <| .e true [(12,.n [17] <| .p 13 <| .p 14 <| .p 15 <| .e true [(16,.e true [(17,.n [] <| .p 18 <| .done)])]),(16,.e true [(12,.n [17] <| .p 13 <| .p 14 <| .p 15 <| .e true [(17,.n [] <| .p 18 <| .done)])])]),(16,.e true [(11,.n [12,17] <| .e true [(12,.n [17] <| .p 13 <| .p 14 <| .p 15 <| .e true [(17,.n [] <| .p 18 <| .done)])])])]),(11,.n [12,17] <| .r 6 <| .e true [(12,.n [17] <| .p 13 <| .p 14 <| .p 15 <| .e true [(16,.e true [(17,.n [] <| .p 18 <| .done)])]),(16,.e true [(12,.n [17] <| .p 13 <| .p 14 <| .p 15 <| .e true [(17,.n [] <| .p 18 <| .done)])])]),(16,.e true [(6,.e true [(11,.n [12,17] <| .e true [(12,.n [17] <| .p 13 <| .p 14 <| .p 15 <| .e true [(17,.n [] <| .p 18 <| .done)])])]),(11,.n [12,17] <| .r 6 <| .e true [(12,.n [17] <| .p 13 <| .p 14 <| .p 15 <| .e true [(17,.n [] <| .p 18 <| .done)])])])]),(16,.e true [(6,.e true [(9,.e true [(11,.n [12,17] <| .e true [(12,.n [17] <| .p 13 <| .p 14 <| .p 15 <| .e true [(17,.n [] <| .p 18 <| .done)])])])]),(9,.e true [(6,.e true [(11,.n [12,17] <| .e true [(12,.n [17] <| .p 13 <| .p 14 <| .p 15 <| .e true [(17,.n [] <| .p 18 <| .done)])])]),(11,.n [12,17] <| .r 6 <| .e true [(12,.n [17] <| .p 13 <| .p 14 <| .p 15 <| .e true [(17,.n [] <| .p 18 <| .done)])])])])]),(9,.e true [(3,.p 5 <| .e true [(6,.e true [(11,.n [12,17] <| .e true [(12,.n [17] <| .p 13 <| .p 14 <| .p 15 <| .e true [(16,.e true [(17,.n [] <| .p 18 <| .done)])]),(16,.e true [(12,.n [17] <| .p 13 <| .p 14 <| .p 15 <| .e true [(17,.n [] <| .p 18 <| .done)])])]),(16,.e true [(11,.n [12,17] <| .e true [(12,.n [17] <| .p 13 <| .p 14 <| .p 15 <| .e true [(17,.n [] <| .p 18 <| .done)])])])]),(11,.n [12,17] <| .r 6 <| .e true [(12,.n [17] <| .p 13 <| .p 14 <| .p 15 <| .e true [(16,.e true [(17,.n [] <| .p 18 <| .done)])]),(16,.e true [(12,.n [17] <| .p 13 <| .p 14 <| .p 15 <| .e true [(17,.n [] <| .p 18 <| .done)])])]),(16,.e true [(6,.e true [(11,.n [12,17] <| .e true [(12,.n [17] <| .p 13 <| .p 14 <| .p 15 <| .e true [(17,.n [] <| .p 18 <| .done)])])]),(11,.n [12,17] <| .r 6 <| .e true [(12,.n [17] <| .p 13 <| .p 14 <| .p 15 <| .e true [(17,.n [] <| .p 18 <| .done)])])])]),(11,.n [12,17] <| .r 3 <| .p 5 <| .r 6 <| .e true [(12,.n [17] <| .p 13 <| .p 14 <| .p 15 <| .e true [(16,.e true [(17,.n [] <| .p 18 <| .done)])]),(16,.e true [(12,.n [17] <| .p 13 <| .p 14 <| .p 15 <| .e true [(17,.n [] <| .p 18 <| .done)])])]),(16,.e true [(3,.p 5 <| .e true [(6,.e true [(11,.n [12,17] <| .e true [(12,.n [17] <| .p 13 <| .p 14 <| .p 15 <| .e true [(17,.n [] <| .p 18 <| .done)])])]),(11,.n [12,17] <| .r 6 <| .e true [(12,.n [17] <| .p 13 <| .p 14 <| .p 15 <| .e true [(17,.n [] <| .p 18 <| .done)])])]),(11,.n [12,17] <| .r 3 <| .p 5 <| .r 6 <| .e true [(12,.n [17] <| .p 13 <| .p 14 <| .p 15 <| .e true [(17,.n [] <| .p 18 <| .done)])])])]),(16,.e true [(3,.p 5 <| .e true [(6,.e true [(9,.e true [(11,.n [12,17] <| .e true [(12,.n [17] <| .p 13 <| .p 14 <| .p 15 <| .e true [(17,.n [] <| .p 18 <| .done)])])])]),(9,.e true [(6,.e true [(11,.n [12,17] <| .e true [(12,.n [17] <| .p 13 <| .p 14 <| .p 15 <| .e true [(17,.n [] <| .p 18 <| .done)])])]),(11,.n [12,17] <| .r 6 <| .e true [(12,.n [17] <| .p 13 <| .p 14 <| .p 15 <| .e true [(17,.n [] <| .p 18 <| .done)])])])]),(9,.e true [(3,.p 5 <| .e true [(6,.e true [(11,.n [12,17] <| .e true [(12,.n [17] <| .p 13 <| .p 14 <| .p 15 <| .e true [(17,.n [] <| .p 18 <| .done)])])]),(11,.n [12,17] <| .r 6 <| .e true [(12,.n [17] <| .p 13 <| .p 14 <| .p 15 <| .e true [(17,.n [] <| .p 18 <| .done)])])]),(11,.n [12,17] <| .r 3 <| .p 5 <| .r 6 <| .e true [(12,.n [17] <| .p 13 <| .p 14 <| .p 15 <| .e true [(17,.n [] <| .p 18 <| .done)])])])])]);exact pN;kernel_rfl;kernel_rfl;exact Ent.refl;exact k.out)):P:=h ⟨k⟩
theorem e1z {F:List HP} {b:Nat} {c:Cfg} {s:MaS} {x:MaX} {i n:Nat} {d:Int} (hw:c.wf) (hl:MaL c n s) (hi:(i:Int)<c.cores) (hx:yS c s x) :
    FnF Tryz.prog 53 [.pointer (some ⟨b,0,none⟩),.int .i64 i,.int .i64 d] [i7 b c s x] F (fun r L'=>r= .bool (mF c s i d)∧L'=[i7 b c (fM c s i d) { x with pt:=x.pt}]):=by
  obtain ⟨⟨f1,f2,f3⟩,⟨f4,f5,f6⟩,f7⟩:=id hx
  have hk:i<x.kb.length:=by omega
  have ha:i<x.ab.length:=by omega
  have eA:cI s (i:Int)=s.cs.getD i caZ:=rfl
  have eK:iK s (i:Int)=s.ks.getD i coZ:=rfl
  have hgk:=lZ hk
  have hga:=lZ ha
  have hAh:=fun F=>a4o (F:=F) (b:=x.kb[i]) (l:=(s.ks.getD i coZ).l) (rs:=(s.ks.getD i coZ).rs) (tr:=(s.ks.getD i coZ).tr) (d:=d)
  have hL:=fun F n k=>vW (F:=F) (b:=x.bn) (c:=c) (n:=n) (k:=k)
  have hSn:=fun F odd n m=>a6b (F:=F) (b:=b) (c:=c) (odd:=odd) (nk:=x.kb.length) (na:=x.ab.length) (nh:=x.hb.length) (nt:=s.tr.length) (pk:=x.pk) (pa:=x.pa) (ph:=x.ph) (pt:=x.pt) (bn:=x.bn) (n:=n) (m:=m) hw
  refine FnF.mk' Tryz.func53 rfl rfl Tryz.ntmps53 rfl ?_
  refine nD hk ha fun hf=>?_
  (first|(refine eN (.slice x.pa.1 x.ab.length x.pa.2) inferInstance (om) ?_;intro _)|(refine eQ (.slice x.pa.1 x.ab.length x.pa.2) inferInstance (om) ?_;intro _))
  (first|(refine eN (.slice x.pk.1 x.kb.length x.pk.2) inferInstance (om) ?_;intro _)|(refine eQ (.slice x.pk.1 x.kb.length x.pk.2) inferInstance (om) ?_;intro _))
  cases hb:iM (s.ks.getD i coZ).l (s.ks.getD i coZ).rs (s.ks.getD i coZ).tr d with
  |false=>
   have hb':a6u (iK s i) d=false:=hb
   have eB:mF c s i d=false:=by unfold mF;rw [if_pos (.inl hb')]
   have eS:fM c s i d=⟨s.ks.set i (s.ks.getD i coZ),s.cs.set i (s.cs.getD i caZ),s.hs,s.n,s.tr,s.odd⟩:=by unfold fM;rw [if_pos (.inl hb'),bM,bM]
   rw [eB,eS]
   simp only [hb] at hAh
   repeat first|refine go ?_|intro _|refine nL ?_|refine cM ?_|refine aD @hAh ?_|refine aD @hL ?_
   (apply aA rfl rfl bB)
   · exact ⟨rfl,rfl⟩
   · (apply eU;(focus (exact aB));all_goals exact mG)
  |true=>
   have hTr:∀ F,FnF Tryz.prog 115 [.pointer (some ⟨x.kb[i],0,none⟩),.int .i64 d] [a8c x.kb[i] (s.ks.getD i coZ)] F (fun r L'=>r= .int .i64 0∧L'=[a8c x.kb[i] (qE (s.ks.getD i coZ) d)]):=fun F=>c9m (F:=F) (b:=x.kb[i]) (l:=(s.ks.getD i coZ).l) (rs:=(s.ks.getD i coZ).rs) (tr:=(s.ks.getD i coZ).tr) (d:=d) hb
   have hop:=d2q hl (i:=(i:Int)) hb
   have eO:a2y (iK s i) d=qH (s.ks.getD i coZ).l (s.ks.getD i coZ).rs (s.ks.getD i coZ).tr d:=rfl
   simp only [hb] at hAh
   rw [eO] at hop
   generalize qH (s.ks.getD i coZ).l (s.ks.getD i coZ).rs (s.ks.getD i coZ).tr d=op at *
   have hLn:=fun F odd nt pt=>b3e (F:=F) (b:=b) (c:=c) (odd:=odd) (nk:=x.kb.length) (na:=x.ab.length) (nh:=x.hb.length) (nt:=nt) (pk:=x.pk) (pa:=x.pa) (ph:=x.ph) (pt:=pt) (bn:=x.bn) (x:=op) hw hop
   have hAk:=fun F=>d4r (F:=F) (b:=x.ab[i]) (c:=c) (core:=(i:Int)) (line:=c8 c op) (kind:=cP op) (k:=s.cs.getD i caZ) rX
   have hKd:=fun F=>c4i (F:=F) (x:=op)
   have hb0:¬(a6u (iK s i) d=false):=by have:a6u (iK s i) d=true:=hb;rw [this];simp
   by_cases h0:cA c s.n 0=0
   · have eB:mF c s i d=false:=by unfold mF;rw [if_pos (.inr h0)]
     have eS:fM c s i d=⟨s.ks.set i (s.ks.getD i coZ),s.cs.set i (s.cs.getD i caZ),s.hs,s.n,s.tr,s.odd⟩:=by unfold fM;rw [if_pos (.inr h0),bM,bM]
     rw [eB,eS]
     repeat first|refine go ?_|intro _|refine nL ?_|refine cM ?_|refine aD @hAh ?_|refine aD @hL ?_
     (apply aA rfl rfl bB)
     · exact ⟨rfl,rfl⟩
     · (apply eU;(focus (exact aB));all_goals exact mG)
   · have hno:¬(a6u (iK s i) d=false∨cA c s.n 0=0):=fun g=>g.elim hb0 h0
     have eAsk:uN c s i op=dT c (s.cs.getD i caZ) (c8 c op) (cP op):=rfl
     repeat first|refine go ?_|intro _|refine aD @hAh ?_|refine aD @hL ?_
     rename_i b7
     apply b2r (P:=Tryz.prog) (fun q:Nat=>[(0,.pointer (some ⟨b,0,none⟩)),(1,.int .i64 i),(2,.int .i64 d),(6,.bool false),(9,.pointer (some ⟨q,0,none⟩)),(10,.int .i64 (dT c (s.cs.getD i caZ) (c8 c op) (cP op))),(50,.bool (decide (dT c (s.cs.getD i caZ) (c8 c op) (cP op)≠0)))])
       (fun q=>Cells q 99 (mc (fO c (i:Int) (s.cs.getD i caZ) (c8 c op) (cP op)))::MC b c s.odd x.kb.length x.ab.length x.hb.length s.tr.length x.pk x.pa x.ph x.pt x.bn::e8t x.pk x.kb::e7i x.pa x.ab::f0l x.ph x.hb::oB x.bn c s.n::e7s x.pt s.tr::a8c x.kb[i] (s.ks.getD i coZ)::a8y x.ab[i] c (i:Int) (cO c (s.cs.getD i caZ) (c8 c op) (cP op))::All (((List.range x.kb.length).eraseIdx i).map (yC x s))::All (((List.range x.ab.length).eraseIdx i).map (s5 c x s))::All ((List.range x.hb.length).map (s6 c x s))::F) (fun _=>True)
     · intro join
       repeat' (first|refine go ?_|intro _|refine nL ?_|refine cM ?_|refine aD @hLn ?_|refine aD @hKd ?_|refine aD @hAk ?_|apply mU|fail)
       all_goals exact join _ _ _ trivial (by exact nB) (by exact aB)
     · intro q _
       have eAsk:uN c s i op=dT c (s.cs.getD i caZ) (c8 c op) (cP op):=rfl
       by_cases he:dT c (s.cs.getD i caZ) (c8 c op) (cP op)=0
       · have eB:mF c s i d=decide (xU c s.n (fO c i (s.cs.getD i caZ) (c8 c op) (cP op))=0):=by
           unfold mF;rw [if_neg hno,eO,if_pos (eAsk.trans he)];rfl
         have eS:fM c s i d=⟨s.ks.set i (qE (s.ks.getD i coZ) d),s.cs.set i (cO c (s.cs.getD i caZ) (c8 c op) (cP op)),s.hs,gH c s.n (fO c i (s.cs.getD i caZ) (c8 c op) (cP op)),s.tr,s.odd⟩:=by
           unfold fM;rw [if_neg hno,eO,if_pos (eAsk.trans he)];rfl
         rw [eB,eS]
         repeat first|refine go ?_|intro _|refine nL ?_|refine cM ?_|refine aD @hTr ?_|refine aD @hSn ?_
         (apply aA rfl rfl bB)
         · exact ⟨rfl,rfl⟩
         · (apply eU;(focus (exact aB));all_goals exact mG)
       · have eKn:cO c (s.cs.getD i caZ) (c8 c op) (cP op)=s.cs.getD i caZ:=by unfold cO;rw [if_neg he]
         have eB:mF c s i d=false:=by
           unfold mF;rw [if_neg hno,eO,if_neg (fun g=>he (eAsk.symm.trans g))]
         have eS:fM c s i d=⟨s.ks.set i (s.ks.getD i coZ),s.cs.set i (s.cs.getD i caZ),s.hs,s.n,s.tr,s.odd⟩:=by
           unfold fM;rw [if_neg hno,eO,if_neg (fun g=>he (eAsk.symm.trans g)),bM,bM]
         rw [eB,eS,eKn]
         repeat first|refine go ?_|intro _|refine nL ?_|refine cM ?_|refine aD @hTr ?_|refine aD @hSn ?_
         (apply aA rfl rfl bB)
         · exact ⟨rfl,rfl⟩
         · (apply eU;(focus (exact aB));all_goals exact mG)
end
end Go.Sx
