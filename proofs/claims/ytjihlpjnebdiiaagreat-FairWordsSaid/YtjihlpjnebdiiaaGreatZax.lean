/- Mw2b, MaTn, MaR, MaH, MaJ: several of my texts as one. My own work. -/
import Derived.Test.YtjihlpjnebdiiaaGreatZaw
set_option linter.unusedVariables false
set_option linter.unusedSectionVars false
set_option linter.unusedSimpArgs false
set_option maxRecDepth 100000
set_option maxHeartbeats 4000000
namespace Go.Sx
open Go Go.Proofs
section
attribute [local irreducible] Exit.then Exit.inBlock Code.wp WC WO WE WQ V bT vL fP cY eI v8 IntKind.wrap WR Code.rounds WT KO
theorem oL {Q P:Prop} (k:Q) (h:Hid Q→P:=by
  intro k
  first
  |(refine aI ?_;apply pV (id:=4) (.only [11,12,17]) _ (pl:= .p 0 <| .p 1 <| .p 2 <| .p 4 <| .p 7 <| .r 8 <| .r 10 <| .e true [(3,.p 5 <| .e true [(6,.e true [(9,.e true [(11,.n [12,17] <| .e true [(12,.n [17] <| .p 13 <| .p 14 <| .p 15 <| .e true [(16,.e true [(17,.n [] <| .p 18 <| .done)])]),(16,.e true [(12,.n [17] <| .p 13 <| .p 14 <| .p 15 <| .e true [(17,.n [] <| .p 18 <| .done)])])]),(16,.e true [(11,.n [12,17] <| .e true [(12,.n [17] <| .p 13 <| .p 14 <| .p 15 <| .e true [(17,.n [] <| .p 18 <| .done)])])])]),(16,.e true [(9,.e true [(11,.n [12,17] <| .e true [(12,.n [17] <| .p 13 <| .p 14 <| .p 15 <| .e true [(17,.n [] <| .p 18 <| .done)])])])])]),(9,.e true [(6,.e true [(11,.n [12,17] <| .e true [(12,.n [17] <| .p 13 <| .p 14 <| .p 15 <| .e true [(16,.e true [(17,.n [] <| .p 18 <| .done)])]),(16,.e true [(12,.n [17] <| .p 13 <| .p 14 <| .p 15 <| .e true [(17,.n [] <| .p 18 <| .done)])])]),(16,.e true [(11,.n [12,17] <| .e true [(12,.n [17] <| .p 13 <| .p 14 <| .p 15 <| .e true [(17,.n [] <| .p 18 <| .done)])])])]),(11,.n [12,17] <| .r 6 <| .e true [(12,.n [17] <| .p 13 <| .p 14 <| .p 15 <| .e true [(16,.e true [(17,.n [] <| .p 18 <| .done)])]),(16,.e true [(12,.n [17] <| .p 13 <| .p 14 <| .p 15 <| .e true [(17,.n [] <| .p 18 <| .done)])])]),(16,.e true [(6,.e true [(11,.n [12,17] <| .e true [(12,.n [17] <| .p 13 <| .p 14 <| .p 15 <| .e true [(17,.n [] <| .p 18 <| .done)])])]),(11,.n [12,17] <| .r 6 <| .e true [(12,.n [17] <| .p 13 <| .p 14 <| .p 15 <| .e true [(17,.n [] <| .p 18 <| .done)])])])]),(16,.e true [(6,.e true [(9,.e true [(11,.n [12,17] <| .e true [(12,.n [17] <| .p 13 <| .p 14 <| .p 15 <| .e true [(17,.n [] <| .p 18 <| .done)])])])]),(9,.e true [(6,.e true [(11,.n [12,17] <| .e true [(12,.n [17] <| .p 13 <| .p 14 <| .p 15 <| .e true [(17,.n [] <| .p 18 <| .done)])])]),(11,.n [12,17] <| .r 6 <| .e true [(12,.n [17] <| .p 13 <| .p 14 <| .p 15 <| .e true [(17,.n [] <| .p 18 <| .done)])])])])]),(9,.e true [(3,.p 5 <| .e true [(6,.e true [(11,.n [12,17] <| .e true [(12,.n [17] <| .p 13 <| .p 14 <| .p 15 <| .e true [(16,.e true [(17,.n [] <| .p 18 <| .done)])]),(16,.e true [(12,.n [17] <| .p 13 <| .p 14 <| .p 15 <| .e true [(17,.n [] <| .p 18 <| .done)])])]),(16,.e true [(11,.n [12,17] <| .e true [(12,.n [17] <| .p 13 <| .p 14 <| .p 15 <| .e true [(17,.n [] <| .p 18 <| .done)])])])]),(11,.n [12,17] <| .r 6 <| .e true [(12,.n [17] <| .p 13 <| .p 14 <| .p 15 <| .e true [(16,.e true [(17,.n [] <| .p 18 <| .done)])]),(16,.e true [(12,.n [17] <| .p 13 <| .p 14 <| .p 15 <| .e true [(17,.n [] <| .p 18 <| .done)])])]),(16,.e true [(6,.e true [(11,.n [12,17] <| .e true [(12,.n [17] <| .p 13 <| .p 14 <| .p 15 <| .e true [(17,.n [] <| .p 18 <| .done)])])]),(11,.n [12,17] <| .r 6 <| .e true [(12,.n [17] <| .p 13 <| .p 14 <| .p 15 <| .e true [(17,.n [] <| .p 18 <| .done)])])])]),(11,.n [12,17] <| .r 3 <| .p 5 <| .r 6 <| .e true [(12,.n [17] <| .p 13 <| .p 14 <| .p 15 <| .e true [(16,.e true [(17,.n [] <| .p 18 <| .done)])]),(16,.e true [(12,.n [17] <| .p 13 <| .p 14 <| .p 15 <| .e true [(17,.n [] <| .p 18 <| .done)])])]),(16,.e true [(3,.p 5 <| .e true [(6,.e true [(11,.n [12,17] <| .e true [(12,.n [17] <| .p 13 <| .p 14 <| .p 15 <| .e true [(17,.n [] <| .p 18 <| .done)])])]),(11,.n [12,17] <| .r 6 <| .e true [(12,.n [17] <| .p 13 <| .p 14 <| .p 15 <| .e true [(17,.n [] <| .p 18 <| .done)])])]),(11,.n [12,17] <| .r 3 <| .p 5 <| .r 6 <| .e true [(12,.n [17] <| .p 13 <| .p 14 <| .p 15 <| .e true [(17,.n [] <| .p 18 <| .done)])])])]),(16,.e true [(3,.p 5 <| .e true [(6,.e true [(9,.e true [(11,.n [12,17] <| .e true [(12,.n [17] <| .p 13 <| .p 14 <| .p 15 <| .e true [(17,.n [] <| .p 18 <| .done)])])])]),(9,.e true [(6,.e true [(11,.n [12,17] <| .e true [(12,.n [17] <| .p 13 <| .p 14 <| .p 15 <| .e true [(17,.n [] <| .p 18 <| .done)])])]),(11,.n [12,17] <| .r 6 <| .e true [(12,.n [17] <| .p 13 <| .p 14 <| .p 15 <| .e true [(17,.n [] <| .p 18 <| .done)])])])]),(9,.e true [(3,.p 5 <| .e true [(6,.e true [(11,.n [12,17] <| .e true [(12,.n [17] <| .p 13 <| .p 14 <| .p 15 <| .e true [(17,.n [] <| .p 18 <| .done)])])]),(11,.n [12,17] <| .r 6 <| .e true [(12,.n [17] <| .p 13 <| .p 14 <| .p 15 <| .e true [(17,.n [] <| .p 18 <| .done)])])]),(11,.n [12,17] <| .r 3 <| .p 5 <| .r 6 <| .e true [(12,.n [17] <| .p 13 <| .p 14 <| .p 15 <| .e true [(17,.n [] <| .p 18 <| .done)])])])])]);exact sD;kernel_rfl;kernel_rfl;exact Ent.refl;exact k.out)):P:=h ⟨k⟩
theorem e4g {F:List HP} {b:Nat} {c:Cfg} {s:MaS} {x:MaX} {i n:Nat} {d:Int} (hw:c.wf) (hl:MaL c n s) (hi:(i:Int)<c.cores) (hx:a2v c s x) :
    FnF Tryz.prog 53 [.pointer (some ⟨b,0,none⟩),.int .i64 i,.int .i64 d] [i9 b c s x] F (fun r L'=>r= .bool (jI c s i d)∧L'=[i9 b c (eE c s i d) { x with pt:=x.pt}]):=by
  obtain ⟨⟨f1,f2,f3⟩,⟨f4,f5,f6⟩,f7⟩:=id hx
  have hk:i<x.kb.length:=by omega
  have ha:i<x.ab.length:=by omega
  have eA:bI s (i:Int)=s.cs.getD i caZ:=rfl
  have eK:cO s (i:Int)=s.ks.getD i coZ:=rfl
  have hgk:=jT hk
  have hga:=jT ha
  have hAh:=fun F=>a6v (F:=F) (b:=x.kb[i]) (l:=(s.ks.getD i coZ).l) (rs:=(s.ks.getD i coZ).rs) (tr:=(s.ks.getD i coZ).tr) (d:=d)
  have hL:=fun F n k=>wY (F:=F) (b:=x.bn) (c:=c) (n:=n) (k:=k)
  have hSn:=fun F odd n m=>a8a (F:=F) (b:=b) (c:=c) (odd:=odd) (nk:=x.kb.length) (na:=x.ab.length) (nh:=x.hb.length) (nt:=s.tr.length) (pk:=x.pk) (pa:=x.pa) (ph:=x.ph) (pt:=x.pt) (bn:=x.bn) (n:=n) (m:=m) hw
  refine FnF.mk' Tryz.func53 rfl rfl Tryz.ntmps53 rfl ?_
  refine mI hk ha fun hf=>?_
  (first|(refine fJ (.slice x.pa.1 x.ab.length x.pa.2) inferInstance (om) ?_;intro _)|(refine fM (.slice x.pa.1 x.ab.length x.pa.2) inferInstance (om) ?_;intro _))
  (first|(refine fJ (.slice x.pk.1 x.kb.length x.pk.2) inferInstance (om) ?_;intro _)|(refine fM (.slice x.pk.1 x.kb.length x.pk.2) inferInstance (om) ?_;intro _))
  cases hb:iY (s.ks.getD i coZ).l (s.ks.getD i coZ).rs (s.ks.getD i coZ).tr d with
  |false=>
   have hb':xT (cO s i) d=false:=hb
   have eB:jI c s i d=false:=by unfold jI;rw [if_pos (.inl hb')]
   have eS:eE c s i d=⟨s.ks.set i (s.ks.getD i coZ),s.cs.set i (s.cs.getD i caZ),s.hs,s.n,s.tr,s.odd⟩:=by unfold eE;rw [if_pos (.inl hb'),bP,bP]
   rw [eB,eS]
   simp only [hb] at hAh
   repeat first|refine go ?_|intro _|refine oL ?_|refine dM ?_|refine aD @hAh ?_|refine aD @hL ?_
   (apply aA rfl rfl bH)
   · exact ⟨rfl,rfl⟩
   · (apply fH;(focus (exact aB));all_goals exact mZ)
  |true=>
   have hTr:∀ F,FnF Tryz.prog 115 [.pointer (some ⟨x.kb[i],0,none⟩),.int .i64 d] [b2d x.kb[i] (s.ks.getD i coZ)] F (fun r L'=>r= .int .i64 0∧L'=[b2d x.kb[i] (iO (s.ks.getD i coZ) d)]):=fun F=>d2y (F:=F) (b:=x.kb[i]) (l:=(s.ks.getD i coZ).l) (rs:=(s.ks.getD i coZ).rs) (tr:=(s.ks.getD i coZ).tr) (d:=d) hb
   have hop:=d4n hl (i:=(i:Int)) hb
   have eO:iF (cO s i) d=rF (s.ks.getD i coZ).l (s.ks.getD i coZ).rs (s.ks.getD i coZ).tr d:=rfl
   simp only [hb] at hAh
   rw [eO] at hop
   generalize rF (s.ks.getD i coZ).l (s.ks.getD i coZ).rs (s.ks.getD i coZ).tr d=op at *
   have hLn:=fun F odd nt pt=>b5u (F:=F) (b:=b) (c:=c) (odd:=odd) (nk:=x.kb.length) (na:=x.ab.length) (nh:=x.hb.length) (nt:=nt) (pk:=x.pk) (pa:=x.pa) (ph:=x.ph) (pt:=pt) (bn:=x.bn) (x:=op) hw hop
   have hAk:=fun F=>d7v (F:=F) (b:=x.ab[i]) (c:=c) (core:=(i:Int)) (line:=bB c op) (kind:=bD op) (k:=s.cs.getD i caZ) sW
   have hKd:=fun F=>c7e (F:=F) (x:=op)
   have hb0:¬(xT (cO s i) d=false):=by have:xT (cO s i) d=true:=hb;rw [this];simp
   by_cases h0:cB c s.n 0=0
   · have eB:jI c s i d=false:=by unfold jI;rw [if_pos (.inr h0)]
     have eS:eE c s i d=⟨s.ks.set i (s.ks.getD i coZ),s.cs.set i (s.cs.getD i caZ),s.hs,s.n,s.tr,s.odd⟩:=by unfold eE;rw [if_pos (.inr h0),bP,bP]
     rw [eB,eS]
     repeat first|refine go ?_|intro _|refine oL ?_|refine dM ?_|refine aD @hAh ?_|refine aD @hL ?_
     (apply aA rfl rfl bH)
     · exact ⟨rfl,rfl⟩
     · (apply fH;(focus (exact aB));all_goals exact mZ)
   · have hno:¬(xT (cO s i) d=false∨cB c s.n 0=0):=fun g=>g.elim hb0 h0
     have eAsk:nC c s i op=dV c (s.cs.getD i caZ) (bB c op) (bD op):=rfl
     repeat first|refine go ?_|intro _|refine aD @hAh ?_|refine aD @hL ?_
     rename_i b7
     apply b5j (P:=Tryz.prog) (fun q:Nat=>[(0,.pointer (some ⟨b,0,none⟩)),(1,.int .i64 i),(2,.int .i64 d),(6,.bool false),(9,.pointer (some ⟨q,0,none⟩)),(10,.int .i64 (dV c (s.cs.getD i caZ) (bB c op) (bD op))),(50,.bool (decide (dV c (s.cs.getD i caZ) (bB c op) (bD op)≠0)))])
       (fun q=>Cells q 99 (mc (d9 c (i:Int) (s.cs.getD i caZ) (bB c op) (bD op)))::MC b c s.odd x.kb.length x.ab.length x.hb.length s.tr.length x.pk x.pa x.ph x.pt x.bn::f2o x.pk x.kb::f1m x.pa x.ab::f4t x.ph x.hb::nQ x.bn c s.n::f1t x.pt s.tr::b2d x.kb[i] (s.ks.getD i coZ)::b2h x.ab[i] c (i:Int) (bM c (s.cs.getD i caZ) (bB c op) (bD op))::All (((List.range x.kb.length).eraseIdx i).map (a0i x s))::All (((List.range x.ab.length).eraseIdx i).map (uS c x s))::All ((List.range x.hb.length).map (uT c x s))::F) (fun _=>True)
     · intro join
       repeat' (first|refine go ?_|intro _|refine oL ?_|refine dM ?_|refine aD @hLn ?_|refine aD @hKd ?_|refine aD @hAk ?_|apply zL|fail)
       all_goals exact join _ _ _ trivial (by exact m9) (by exact aB)
     · intro q _
       have eAsk:nC c s i op=dV c (s.cs.getD i caZ) (bB c op) (bD op):=rfl
       by_cases he:dV c (s.cs.getD i caZ) (bB c op) (bD op)=0
       · have eB:jI c s i d=decide (vK c s.n (d9 c i (s.cs.getD i caZ) (bB c op) (bD op))=0):=by
           unfold jI;rw [if_neg hno,eO,if_pos (eAsk.trans he)];rfl
         have eS:eE c s i d=⟨s.ks.set i (iO (s.ks.getD i coZ) d),s.cs.set i (bM c (s.cs.getD i caZ) (bB c op) (bD op)),s.hs,eJ c s.n (d9 c i (s.cs.getD i caZ) (bB c op) (bD op)),s.tr,s.odd⟩:=by
           unfold eE;rw [if_neg hno,eO,if_pos (eAsk.trans he)];rfl
         rw [eB,eS]
         repeat first|refine go ?_|intro _|refine oL ?_|refine dM ?_|refine aD @hTr ?_|refine aD @hSn ?_
         (apply aA rfl rfl bH)
         · exact ⟨rfl,rfl⟩
         · (apply fH;(focus (exact aB));all_goals exact mZ)
       · have eKn:bM c (s.cs.getD i caZ) (bB c op) (bD op)=s.cs.getD i caZ:=by unfold bM;rw [if_neg he]
         have eB:jI c s i d=false:=by
           unfold jI;rw [if_neg hno,eO,if_neg (fun g=>he (eAsk.symm.trans g))]
         have eS:eE c s i d=⟨s.ks.set i (s.ks.getD i coZ),s.cs.set i (s.cs.getD i caZ),s.hs,s.n,s.tr,s.odd⟩:=by
           unfold eE;rw [if_neg hno,eO,if_neg (fun g=>he (eAsk.symm.trans g)),bP,bP]
         rw [eB,eS,eKn]
         repeat first|refine go ?_|intro _|refine oL ?_|refine dM ?_|refine aD @hTr ?_|refine aD @hSn ?_
         (apply aA rfl rfl bH)
         · exact ⟨rfl,rfl⟩
         · (apply fH;(focus (exact aB));all_goals exact mZ)
end
section
theorem e9v {c:Cfg} {m:Msg} (h:fG c m):a2c c m.words=true:=by
  have hw:=h.2.2.2.2
  unfold iX at hw
  have hv:∀ i:Nat,i<8→c.words≤i→m.words.list.getD i 0=0:=by
    intro i hi hc
    split at hw
    · exact (hw i hi).2.2 hc
    · rw [hw]
      match i,hi with
      |0,_=>rfl|1,_=>rfl|2,_=>rfl|3,_=>rfl|4,_=>rfl|5,_=>rfl|6,_=>rfl|7,_=>rfl
  unfold a2c
  rw [List.all_eq_true]
  intro n hn
  obtain ⟨j,hj,rfl⟩:=List.getElem_of_mem hn
  have hl:m.words.list.length=8:=rfl
  have hj':c.words.toNat+j<8:=by simp [hl] at hj;omega
  have:=hv (c.words.toNat+j) hj' (om)
  rw [List.getElem_drop]
  have h3:c.words.toNat+j<m.words.list.length:=by omega
  simpa [h3] using this
section
variable {c:Cfg} {n:Nat} {s:MaS}
structure TurnAt (c:Cfg) (s:MaS) (d:Int) (i:Nat) (m:Msg) (S:List Msg) (x':HomS):Prop where
  q:x'.q=cD (bU s d).q (i:Int) S
  es:∀ x,aR x' x=if x=m.line then fY (aR (bU s d) m.line) m else aR (bU s d) x
  ms:x'.ms=if jB (aR (bU s d) m.line) m then d9u c (bU s d).ms m.line m.words else (bU s d).ms
theorem c7m {d:Int} {i:Nat} {m:Msg} (hi:i<(bU s d).q.length) (hm:(bU s d).q[i].m=m):TurnAt c s d i m (cA (aR (bU s d) m.line) m (aJ c (bU s d).ms m.line)) (i7 c (bU s d) (i:Int)):=by
  have hin:a9o (bU s d).q (i:Int)=true:=by unfold a9o;exact decide_eq_true (om)
  have hX:a2k (bU s d) (i:Int)=m:=by
    unfold a2k a3x
    rw [if_pos hin,Int.toNat_natCast,List.getD_eq_getElem?_getD,List.getElem?_eq_getElem hi];exact hm
  refine ⟨?_,fun x=>?_,?_⟩
  · show cD _ _ (cA (aR (bU s d) (a2k (bU s d) (i:Int)).line) (a2k (bU s d) (i:Int)) _)=_
    rw [hX]
  · unfold aR
    show (iE (lS (bU s d).es (a2k (bU s d) (i:Int)).line _) x).getD .no=_
    rw [pL,hX]
    by_cases hx:x=m.line
    · rw [if_pos hx,if_pos hx];rfl
    · rw [if_neg hx,if_neg hx]
  · show (if jB (aR (bU s d) (a2k (bU s d) (i:Int)).line) (a2k (bU s d) (i:Int))=true then _ else _)=_
    rw [hX]
structure TurnV (c:Cfg) (s s':MaS) (L:Int) (m:Msg) (S:List Msg):Prop where
  rq0:(fA c s L).rq.Perm (qM m::(fA c s' L).rq)
  fly:(fA c s' L).fly.Perm (S.map qM++(fA c s L).fly)
  a0:(fA c s L).act=none
  a1:(fA c s' L).act=if m.kind=3 then none else some (m.kind,m.src)
theorem e9w {d:Int} {i:Nat} {m:Msg} {S:List Msg} {x':HomS} (hl:MaL c n s) (hd:0≤d∧d<c.homes) (hF:HmF c (bU s d)) (hi:i<(bU s d).q.length) (hm:(bU s d).q[i].m=m) (hr:eZ (bU s d).q (i:Int)=true) (hS:S≠[]) (hq:x'.q=cD (bU s d).q (i:Int) S) (hlk:aL c m.line=true) (hlh:cU c m.line=d):TurnV c s (dU s d x') m.line m S:=by
  obtain ⟨g1,g2,⟨c1,c2,c3,c4,c5⟩,_⟩:=a2i hF.q hi hr hS
  rw [hm] at c1 c2 c3 c4 c5
  have e0:aN c s m.line=bU s d:=by unfold aN;rw [hlh]
  have e1:aN c (dU s d x') m.line=x':=by rw [b2e hl hd hlk,if_pos hlh]
  refine ⟨?_,?_,?_,?_⟩
  · show ((b8q m.line s.n.l0++oC m.line (aN c s m.line).q).map qM).Perm (qM m::(b8q m.line s.n.l0++oC m.line (aN c (dU s d x') m.line).q).map qM)
    rw [e0,e1,hq,c1]
    exact (List.perm_middle (a:=m) (l₁:=b8q m.line s.n.l0)).map qM
  · show ((b8q m.line (s.n.l1++s.n.l2)++oP m.line (aN c (dU s d x') m.line).q).map qM).Perm (S.map qM++(b8q m.line (s.n.l1++s.n.l2)++oP m.line (aN c s m.line).q).map qM)
    rw [e0,e1,hq,c2,c3,List.append_nil,←List.map_append]
    exact List.perm_append_comm.map qM
  · show gZ m.line (aN c s m.line).q=none
    rw [e0];exact c4
  · show gZ m.line (aN c (dU s d x') m.line).q=_
    rw [e1,hq];exact c5
theorem d5r {d:Int} {m:Msg} {x':HomS} {S:List Msg} (hl:MaL c n s) (hd:0≤d∧d<c.homes) (hF:HmF c (bU s d)) (hlk:aL c m.line=true) (hlh:cU c m.line=d) (hk:m.kind=3) (hE:gC (aR (bU s d) m.line) m=0) (hmay:fG c m) (hdst:m.src=m.src)
    (hS:S=cA (aR (bU s d) m.line) m (aJ c (bU s d).ms m.line)) (hent:aR x' m.line=fY (aR (bU s d) m.line) m) (hms:x'.ms=if jB (aR (bU s d) m.line) m then d9u c (bU s d).ms m.line m.words else (bU s d).ms) (hv:TurnV c s (dU s d x') m.line m S) (hLI:LI (fA c s m.line)):LI (fA c (dU s d x') m.line):=by
  have e0:aN c s m.line=bU s d:=by unfold aN;rw [hlh]
  have e1:aN c (dU s d x') m.line=x':=by rw [b2e hl hd hlk,if_pos hlh]
  have hA:qM m= .put m.src m.words:=by unfold qM;rw [if_neg (om),if_pos hk]
  have hS':S.map qM=[.pack m.src]:=by
    rw [hS];unfold cA
    rw [if_pos hE,if_neg (om),if_neg (om)];rfl
  obtain ⟨h1,h2,h3,h4⟩:=hv
  rw [hA] at h1
  rw [hS'] at h2
  rw [if_pos hk] at h4
  have hT:aR x' m.line=a0w (aR (bU s d) m.line) m:=by
    rw [hent];unfold fY;rw [if_pos hE,if_neg (om),if_neg (om)]
  have ho:(fA c s m.line).o=(aR (bU s d) m.line).o:=by show (aR (aN c s m.line) m.line).o=_;rw [e0]
  have ho':(fA c (dU s d x') m.line).o=(a0w (aR (bU s d) m.line) m).o:=by show (aR (aN c (dU s d x') m.line) m.line).o=_;rw [e1,hT]
  have hsh:∀ x,(fA c (dU s d x') m.line).sh x=(fA c s m.line).sh x:=fun x=>by
    show cS (aR (aN c (dU s d x') m.line) m.line).s x=cS (aR (aN c s m.line) m.line).s x
    rw [e0,e1,hT]
    unfold a0w
    split<;>rfl
  by_cases hO:(aR (bU s d) m.line).o=m.src
  · have hW:jB (aR (bU s d) m.line) m=true:=by unfold jB;rw [decide_eq_true hE,decide_eq_true hk,decide_eq_true hO];rfl
    have hmem:(fA c (dU s d x') m.line).mem=m.words:=by
      show aJ c (aN c (dU s d x') m.line).ms m.line=_
      rw [e1,hms,if_pos hW]
      refine tO hF.ml ?_
      unfold a0x fF
      have hw:=dF hl.ok
      have hl':=hlk
      unfold aL at hl'
      simp only [Bool.and_eq_true,decide_eq_true_eq] at hl'
      rw [hl.ok,decide_eq_true ⟨hl'.2.1,hl'.2.2,om,om⟩,e9v hmay];rfl
    exact e1x (r:=m.src) (w:=m.words) hLI h3 (by rw [ho];exact hO) (fun _=>rfl) (fun _ _=>rfl) (fun _=>rfl) (fun _=>rfl) h1 (List.Perm.refl _) h2 (by rw [h4,h3]) (by rw [ho'];unfold a0w;rw [if_pos hO]) hsh hmem rfl
  · have hW:jB (aR (bU s d) m.line) m=false:=by unfold jB;rw [decide_eq_false hO,Bool.and_false]
    have hmem:(fA c (dU s d x') m.line).mem=(fA c s m.line).mem:=by
      show aJ c (aN c (dU s d x') m.line).ms m.line=aJ c (aN c s m.line).ms m.line
      rw [e0,e1,hms,hW];rfl
    exact e1y (r:=m.src) (w:=m.words) hLI h3 (by rw [ho];exact hO) (fun _=>rfl) (fun _ _=>rfl) (fun _=>rfl) (fun _=>rfl) h1 (List.Perm.refl _) h2 (by rw [h4,h3]) (by rw [ho',ho];unfold a0w;rw [if_neg hO]) hsh hmem rfl
end
end
section
section
variable {c:Cfg} {n:Nat} {s:MaS}
structure TurnW (c:Cfg) (s s':MaS) (L:Int) (e t:TEnt) (w:Words):Prop where
  o:(fA c s L).o=e.o
  o':(fA c s' L).o=t.o
  sh:∀ x,(fA c s L).sh x=cS e.s x
  sh':∀ x,(fA c s' L).sh x=cS t.s x
  mem:(fA c s L).mem=w
  mem':(fA c s' L).mem=(fA c s L).mem
theorem d9a {d:Int} {m:Msg} {x':HomS} (hl:MaL c n s) (hd:0≤d∧d<c.homes) (hlk:aL c m.line=true) (hlh:cU c m.line=d) (hk:m.kind≠3)
    (hent:aR x' m.line=fY (aR (bU s d) m.line) m) (hms:x'.ms=if jB (aR (bU s d) m.line) m then d9u c (bU s d).ms m.line m.words else (bU s d).ms):TurnW c s (dU s d x') m.line (aR (bU s d) m.line) (fY (aR (bU s d) m.line) m) (aJ c (bU s d).ms m.line):=by
  have e0:aN c s m.line=bU s d:=by unfold aN;rw [hlh]
  have e1:aN c (dU s d x') m.line=x':=by rw [b2e hl hd hlk,if_pos hlh]
  have hW:jB (aR (bU s d) m.line) m=false:=by unfold jB;rw [decide_eq_false hk,Bool.and_false,Bool.false_and]
  refine ⟨?_,?_,fun x=>?_,fun x=>?_,?_,?_⟩
  · show (aR (aN c s m.line) m.line).o=_;rw [e0]
  · show (aR (aN c (dU s d x') m.line) m.line).o=_;rw [e1,hent]
  · show cS (aR (aN c s m.line) m.line).s x=_;rw [e0]
  · show cS (aR (aN c (dU s d x') m.line) m.line).s x=_;rw [e1,hent]
  · show aJ c (aN c s m.line).ms m.line=_;rw [e0]
  · show aJ c (aN c (dU s d x') m.line).ms m.line=aJ c (aN c s m.line).ms m.line
    rw [e0,e1,hms,hW];rfl
theorem d0s {d:Int} {m:Msg} {x':HomS} {S:List Msg} (hk:m.kind=1) (hE:gC (aR (bU s d) m.line) m=0)
    (hS:S=cA (aR (bU s d) m.line) m (aJ c (bU s d).ms m.line)) (hw:TurnW c s (dU s d x') m.line (aR (bU s d) m.line) (fY (aR (bU s d) m.line) m) (aJ c (bU s d).ms m.line))
    (hv:TurnV c s (dU s d x') m.line m S) (hLI:LI (fA c s m.line)):LI (fA c (dU s d x') m.line):=by
  have hA:qM m= .get 1 m.src:=by unfold qM;rw [if_pos (.inl hk),hk]
  obtain ⟨h1,h2,h3,h4⟩:=hv
  rw [hA] at h1
  rw [if_neg (om),hk] at h4
  obtain ⟨w1,w2,w3,w4,w5,w6⟩:=hw
  generalize aJ c (bU s d).ms m.line=w at *
  generalize aR (bU s d) m.line=e at *
  obtain ⟨hok,hno⟩:f1o e m=true∧e.o≠m.src:=by
    obtain ⟨a,b⟩:=lP hE
    refine ⟨a,?_⟩
    rcases b with b|b|b
    · exact b.2
    · omega
    · omega
  obtain ⟨hmay,ho1,ho2,hs0,hs1⟩:=mP hok
  have hT:fY e m=n8 e m:=by unfold fY;rw [if_pos hE,if_pos hk]
  have hSS:S=kF e m w:=by rw [hS];unfold cA;rw [if_pos hE,if_pos hk]
  rw [hT] at w2 w4
  rw [hSS] at h2
  unfold kF at h2
  unfold n8 at w2 w4
  rw [if_neg hno] at h2 w2
  have w4:∀ x,(fA c (dU s d x') m.line).sh x=cS (if e.o≠ -1 then (⟨e.o,dH e.s m.src⟩:TEnt) else if (a4y e []).length=0 then ⟨m.src,mC e.s⟩ else ⟨e.o,dH e.s m.src⟩).s x:=fun x=>by rw [w4,if_neg hno]
  obtain ⟨a1,a2⟩:=d2v (y:=m.src) hmay hs0 hs1
  by_cases hO:e.o≠ -1
  · rw [if_pos hO] at h2 w2
    have w4:∀ x,(fA c (dU s d x') m.line).sh x=cS (dH e.s m.src) x:=fun x=>by rw [w4,if_pos hO]
    refine d4s (r:=m.src) (z:= .zero) hLI hs0 h3 (by rw [w1];exact hO) (fun _=>rfl) (fun _ _=>rfl) (fun _=>rfl) (fun _=>rfl) h1 (List.Perm.refl _) (by rw [w1];exact h2) h4 (by rw [w1,w2]) ⟨fun x hx=>?_,?_⟩ w6 rfl
    · rw [w4];rw [w3] at hx;exact a2 x hx
    · rw [w4];exact a1
  · rw [if_neg hO] at h2 w2
    have w4:∀ x,(fA c (dU s d x') m.line).sh x=cS (if (a4y e []).length=0 then (⟨m.src,mC e.s⟩:TEnt) else ⟨e.o,dH e.s m.src⟩).s x:=fun x=>by rw [w4,if_neg hO]
    have hO':e.o= -1:=Decidable.byContradiction hO
    by_cases h0:(a4y e []).length=0
    · rw [if_pos h0] at h2 w2
      have w4:∀ x,(fA c (dU s d x') m.line).sh x=cS (mC e.s) x:=fun x=>by rw [w4,if_pos h0]
      exact d4t (r:=m.src) (z:= .zero) hLI hs0 h3 (by rw [w1];exact hO') (fun x=>by rw [w3];exact d2u hmay h0 x) (fun _=>rfl) (fun _ _=>rfl) (fun _=>rfl) (fun _=>rfl) h1 (List.Perm.refl _) (by rw [w5];exact h2) h4 (by rw [w2]) (fun x=>by rw [w4];exact b2r _ _) w6 rfl
    · rw [if_neg h0] at h2 w2
      have w4:∀ x,(fA c (dU s d x') m.line).sh x=cS (dH e.s m.src) x:=fun x=>by rw [w4,if_neg h0]
      refine d4u (r:=m.src) (z:= .zero) hLI hs0 h3 (by rw [w1];exact hO') (fun _=>rfl) (fun _ _=>rfl) (fun _=>rfl) (fun _=>rfl) h1 (List.Perm.refl _) (by rw [w5];exact h2) h4 (by rw [w1,w2]) ⟨fun x hx=>?_,?_⟩ w6 rfl
      · rw [w4];rw [w3] at hx;exact a2 x hx
      · rw [w4];exact a1
theorem c3s {d:Int} {m:Msg} {x':HomS} {S:List Msg} (hk:m.kind=2) (hE:gC (aR (bU s d) m.line) m=0)
    (hS:S=cA (aR (bU s d) m.line) m (aJ c (bU s d).ms m.line)) (hw:TurnW c s (dU s d x') m.line (aR (bU s d) m.line) (fY (aR (bU s d) m.line) m) (aJ c (bU s d).ms m.line))
    (hv:TurnV c s (dU s d x') m.line m S) (hLI:LI (fA c s m.line)):LI (fA c (dU s d x') m.line):=by
  have hA:qM m= .get 2 m.src:=by unfold qM;rw [if_pos (.inr hk),hk]
  obtain ⟨h1,h2,h3,h4⟩:=hv
  rw [hA] at h1
  rw [if_neg (om),hk] at h4
  obtain ⟨w1,w2,w3,w4,w5,w6⟩:=hw
  generalize aJ c (bU s d).ms m.line=w at *
  generalize aR (bU s d) m.line=e at *
  obtain ⟨hok,_⟩:=lP hE
  obtain ⟨hmay,ho1,ho2,hs0,hs1⟩:=mP hok
  have hT:fY e m=⟨m.src,mC e.s⟩:=by unfold fY;rw [if_pos hE,if_neg (om),if_pos hk]
  have hSS:S=tG e m w:=by rw [hS];unfold cA;rw [if_pos hE,if_neg (om),if_pos hk]
  rw [hT] at w2
  have w4:∀ x,(fA c (dU s d x') m.line).sh x=false:=fun x=>by rw [w4,hT];exact b2r _ _
  rw [hSS] at h2
  unfold tG at h2
  have hmap:((e8 e m).map (a4z m)).map qM=(e8 e m).map fun x=>AM.inv x m.src:=by rw [List.map_map];rfl
  rw [List.map_cons,hmap,List.cons_append] at h2
  have hoth:∀ x,x∈e8 e m↔(fA c s m.line).sh x=true∧x≠m.src∧x≠(fA c s m.line).o:=fun x=>by
    rw [w1,w3]
    unfold e8 a4y
    rw [a9q hmay]
    simp
  unfold pX at h2
  by_cases hO:e.o= -1
  · rw [if_pos hO] at h2
    exact c9b (r:=m.src) hLI hs0 h3 (by rw [w1];exact hO) (fun _=>rfl) (fun _ _=>rfl) (fun _=>rfl) (fun _=>rfl) h1 (List.Perm.refl _) hoth (by rw [w5];exact h2) h4 w2 w4 w6 rfl
  · rw [if_neg hO] at h2
    by_cases hR:e.o=m.src
    · rw [if_pos hR] at h2
      exact c9c (r:=m.src) hLI hs0 h3 (by rw [w1];exact hR) (fun _=>rfl) (fun _ _=>rfl) (fun _=>rfl) (fun _=>rfl) h1 (List.Perm.refl _) hoth h2 h4 (by rw [w1,w2];exact hR.symm) w4 w6 rfl
    · rw [if_neg hR] at h2
      exact c9d (r:=m.src) hLI hs0 h3 (by rw [w1];exact hO) (by rw [w1];exact hR) (fun _=>rfl) (fun _ _=>rfl) (fun _=>rfl) (fun _=>rfl) h1 (List.Perm.refl _) hoth (by rw [w1];exact h2) h4 w2 w4 w6 rfl
end
end
section
theorem rW {c:Cfg} {m:Msg} (hm:fG c m) (hh:cK m.kind) {k to who acks own:Int} {w:Words} (ht:0≤to∧to<c.cores)
    (h:((k=4∨k=6)∧(0≤who∧who<c.cores)∧who≠to∧acks=0∧own=0∧w= .zero)∨(k=5∧(0≤who∧who<c.cores)∧who≠to∧(0≤acks∧acks<c.cores)∧own=0∧w= .zero)∨(k=7∧who=0∧(own=1∨own=2∨own=4)∧(0≤acks∧acks<c.cores)∧bX c w)
     ∨(k=8∧who=0∧own=0∧(0≤acks∧acks<c.cores)∧w= .zero)∨(k=10∧who=0∧own=0∧acks=0∧w= .zero)):fG c (gS m k to who acks own w):=by
  have hk:4≤k∧k≤10∧k≠9:=by omega
  have hn:¬cK (gS m k to who acks own w).kind:=by show ¬cK k;unfold cK;omega
  have hN:(gS m k to who acks own w).src=r9 c (gS m k to who acks own w):=by
    have g4:=hm.2.2.2.1
    unfold jY at g4
    rw [if_pos hh] at g4
    exact g4.2.1
  refine ⟨hm.1,by show 1≤k∧k≤11;omega,hm.2.2.1,?_,?_⟩
  · unfold jY
    rw [if_neg hn]
    by_cases k46:k=4∨k=6
    · rw [if_pos (show (gS m k to who acks own w).kind=4∨(gS m k to who acks own w).kind=6 from k46)]
      have g:(0≤who∧who<c.cores)∧who≠to∧acks=0∧own=0:=by omega
      exact ⟨g.1,g.2.1,hN,ht,rfl,g.2.2.2,by show (0:Int)≤acks;omega,by show acks<if false=true then c.cores else 1;rw [if_neg (by decide)];omega⟩
    · rw [if_neg (show ¬((gS m k to who acks own w).kind=4∨(gS m k to who acks own w).kind=6) from k46)]
      by_cases k5:k=5
      · rw [if_pos (show (gS m k to who acks own w).kind=5 from k5)]
        have g:(0≤who∧who<c.cores)∧who≠to∧(0≤acks∧acks<c.cores)∧own=0:=by omega
        exact ⟨g.1,g.2.1,hN,ht,rfl,g.2.2.2,g.2.2.1.1,by show acks<if true=true then c.cores else 1;rw [if_pos rfl];omega⟩
      · rw [if_neg (show ¬(gS m k to who acks own w).kind=5 from k5)]
        by_cases k7:k=7
        · rw [if_pos (show (gS m k to who acks own w).kind=7 from k7)]
          have g:who=0∧(own=1∨own=2∨own=4)∧(0≤acks∧acks<c.cores):=by omega
          exact ⟨g.2.1,g.2.2,ht,.inl ⟨g.1,hN⟩⟩
        · rw [if_neg (show ¬(gS m k to who acks own w).kind=7 from k7)]
          by_cases k8:k=8
          · rw [if_pos (show (gS m k to who acks own w).kind=8 from k8)]
            have g:who=0∧own=0∧(0≤acks∧acks<c.cores):=by omega
            exact ⟨hN,ht,g.1,g.2.1,g.2.2.1,by show acks<if true=true then c.cores else 1;rw [if_pos rfl];omega⟩
          · rw [if_neg (show ¬(gS m k to who acks own w).kind=8 from k8),if_pos (show (gS m k to who acks own w).kind=10 by show k=10;omega)]
            have g:who=0∧own=0∧acks=0:=by omega
            exact ⟨hN,ht,g.1,g.2.1,by show (0:Int)≤acks;omega,by show acks<if false=true then c.cores else 1;rw [if_neg (by decide)];omega⟩
  · unfold iX
    rcases h with ⟨a,b⟩|⟨a,b⟩|⟨a,b⟩|⟨a,b⟩|⟨a,b⟩
    · rw [if_neg (by show ¬iB k;unfold iB;omega)];exact b.2.2.2.2
    · rw [if_neg (by show ¬iB k;unfold iB;omega)];exact b.2.2.2.2
    · rw [if_pos (by show iB k;unfold iB;omega)];exact b.2.2.2
    · rw [if_neg (by show ¬iB k;unfold iB;omega)];exact b.2.2.2
    · rw [if_neg (by show ¬iB k;unfold iB;omega)];exact b.2.2.2
theorem d9b {e:TEnt} {m:Msg} (hm:d6 e.s=true) (h0:0≤m.src) (h1:m.src<e.s.cores):((e8 e m).length:Int)<e.s.cores:=by
  unfold e8 a4y jR
  have hl:(u5 e.s.cores.toNat).length=e.s.cores.toNat:=by unfold u5;simp
  have:((u5 e.s.cores.toNat).filter fun c=>cS e.s c&& !decide (c∈[m.src,e.o])).length<(u5 e.s.cores.toNat).length:=by
    rw [List.length_filter_lt_length_iff_exists]
    refine ⟨m.src,?_,by simp⟩
    unfold u5
    exact List.mem_map.2 ⟨m.src.toNat,List.mem_range.2 (om),om⟩
  omega
section
variable {c:Cfg} {n:Nat} {s:MaS} {d:Int} {x:HomS} {m:Msg}
theorem d5s (hI:HmI c d x) (hF:HmF c x) (hm:lR c d m 0=true) (hE:gC (aR x m.line) m=0):∀ y∈cA (aR x m.line) m (aJ c x.ms m.line),fG c y:=by
  obtain ⟨f1,f2,f3,f4,f5⟩:=iD hI.ok hm
  obtain ⟨_,g2,g3,_⟩:=sH hI f3
  have hh:cK m.kind:= .inl f2
  have hv:=hF.mv m.line
  generalize aJ c x.ms m.line=w at *
  generalize aR x m.line=e at *
  obtain ⟨hok,hk⟩:=lP hE
  obtain ⟨h1,h2,h3,h4,h5⟩:=mP hok
  have hol:=d9b h1 h4 h5
  have hcb:=(gP hI.ok).1
  intro y hy
  unfold cA at hy
  rw [if_pos hE] at hy
  rcases hk with ⟨k,ho⟩|k|k
  · rw [if_pos k] at hy
    unfold kF at hy
    rw [if_neg ho] at hy
    split at hy
    · obtain rfl:=List.mem_singleton.1 hy
      exact rW f1 hh (om) (.inl ⟨.inl rfl,f4,fun g=>ho g.symm,rfl,rfl,rfl⟩)
    · split at hy
      · obtain rfl:=List.mem_singleton.1 hy
        exact rW f1 hh f4 (.inr (.inr (.inl ⟨rfl,rfl,om,om,hv⟩)))
      · obtain rfl:=List.mem_singleton.1 hy
        exact rW f1 hh f4 (.inr (.inr (.inl ⟨rfl,rfl,om,om,hv⟩)))
  · rw [if_neg (om),if_pos k] at hy
    rcases List.mem_cons.1 hy with rfl|hy
    · unfold pX
      split
      · exact rW f1 hh f4 (.inr (.inr (.inl ⟨rfl,rfl,om,om,hv⟩)))
      · split
        · exact rW f1 hh f4 (.inr (.inr (.inr (.inl ⟨rfl,rfl,rfl,om,rfl⟩))))
        · rename_i g1 g2
          exact rW f1 hh (om) (.inr (.inl ⟨rfl,f4,fun g=>g2 g.symm,om,rfl,rfl⟩))
    · obtain ⟨o,ho,rfl⟩:=List.mem_map.1 hy
      unfold e8 a4y at ho
      rw [a9q h1] at ho
      obtain ⟨ho1,ho2⟩:=ho
      have hr:=a9p h1 ho1
      have hne:o≠m.src:=fun g=>ho2 (by simp [g])
      exact rW f1 hh (om) (.inl ⟨.inr rfl,f4,fun g=>hne g.symm,rfl,rfl,rfl⟩)
  · rw [if_neg (om),if_neg (om)] at hy
    obtain rfl:=List.mem_singleton.1 hy
    exact rW f1 hh f4 (.inr (.inr (.inr (.inr ⟨rfl,rfl,rfl,rfl,rfl⟩))))
theorem d5t {e:TEnt} {w:Words} (hE:gC e m=0) (hk3:m.kind≠3):∀ y∈cA e m w,y.kind≠10:=by
  obtain ⟨hok,hk⟩:=lP hE
  intro y hy
  unfold cA at hy
  rw [if_pos hE] at hy
  rcases hk with ⟨k,ho⟩|k|k
  · rw [if_pos k] at hy
    unfold kF at hy
    rw [if_neg ho] at hy
    split at hy
    · obtain rfl:=List.mem_singleton.1 hy;show (4:Int)≠10;decide
    · split at hy<;>(obtain rfl:=List.mem_singleton.1 hy;show (7:Int)≠10;decide)
  · rw [if_neg (om),if_pos k] at hy
    rcases List.mem_cons.1 hy with rfl|hy
    · unfold pX
      split
      · show (7:Int)≠10;decide
      · split
        · show (8:Int)≠10;decide
        · show (5:Int)≠10;decide
    · obtain ⟨o,ho,rfl⟩:=List.mem_map.1 hy
      show (6:Int)≠10;decide
  · exact absurd k hk3
theorem d0t (c:Cfg) (k:Nat) (line:Int):aJ c (List.replicate k 0) line= .zero:=by
  unfold aJ
  split
  · unfold kI
    rw [List.drop_replicate,List.take_replicate]
    have:∀ j i:Nat,(List.replicate j (0:Int)).getD i 0=0:=fun j i=>by
      rw [List.getD_eq_getElem?_getD,List.getElem?_replicate];split<;>rfl
    unfold Words.of
    simp only [this]
  · rfl
theorem e4h (c:Cfg) (num:Int) (hc:aF c=true):HmF c (qZ c num):=by
  refine ⟨d7i,?_,rfl,fun e he=>absurd he (List.not_mem_nil),fun e he=>absurd he (List.not_mem_nil),fun e he=>absurd he (List.not_mem_nil),fun line=>?_⟩
  · have:=xS hc ([]:List Com)
    exact this
  · show bX c (aJ c (List.replicate _ 0) line)
    rw [d0t];exact eR c
theorem e4i {ms:List Int} {L:Int} {w:Words} (hn:(ms.length:Int)=c.words*c.lines):((d9u c ms L w).length:Int)=c.words*c.lines:=by
  unfold d9u
  split
  · rename_i hw
    have hk:fF c L 0=true:=by simp only [a0x,Bool.and_eq_true] at hw;exact hw.1
    obtain ⟨a1,a2,a3,_⟩:=zQ hn hk
    rw [c5q a1 a3];exact hn
  · exact hn
theorem e4j {ms:List Int} {L:Int} {w:Words} (hn:(ms.length:Int)=c.words*c.lines) (hv:∀ line,bX c (aJ c ms line)) (hw:bX c w) (line:Int):bX c (aJ c (d9u c ms L w) line):=by
  by_cases h:line=L
  · subst h
    by_cases h2:a0x c line w=true
    · rw [tO hn h2];exact hw
    · unfold d9u;rw [if_neg h2];exact hv _
  · rw [z5 hn h];exact hv _
theorem d5u {i:Nat} (hI:HmI c d x) (hF:HmF c x) (hi:i<x.q.length) (hr:eZ x.q (i:Int)=true) (hE:gC (aR x x.q[i].m.line) x.q[i].m=0):HmF c (i7 c x (i:Int)):=by
  have hin:a9o x.q (i:Int)=true:=by unfold a9o;exact decide_eq_true (om)
  have hX:a2k x (i:Int)=x.q[i].m:=by
    unfold a2k a3x
    rw [if_pos hin,Int.toNat_natCast,List.getD_eq_getElem?_getD,List.getElem?_eq_getElem hi];rfl
  have hm:=hI.req _ (List.getElem_mem hi)
  obtain ⟨f1,f2,f3,f4,f5⟩:=iD hI.ok hm
  have hS0:=(uN (w:=aJ c x.ms x.q[i].m.line) hE).1
  have hS:cA (aR x x.q[i].m.line) x.q[i].m (aJ c x.ms x.q[i].m.line)≠[]:=fun g=>by rw [g] at hS0;exact absurd hS0 (Nat.lt_irrefl _)
  have hmay:=d5s hI hF hm hE
  have eq:(i7 c x (i:Int)).q=x.q.set i { x.q[i] with st:=true,sends:=cA (aR x x.q[i].m.line) x.q[i].m (aJ c x.ms x.q[i].m.line)}:=by
    rw [←(a2i hF.q hi hr hS).1]
    show cD _ _ (cA (aR x (a2k x (i:Int)).line) (a2k x (i:Int)) _)=_
    rw [hX]
  have ems:(i7 c x (i:Int)).ms=if jB (aR x x.q[i].m.line) x.q[i].m then d9u c x.ms x.q[i].m.line x.q[i].m.words else x.ms:=by
    show (if jB (aR x (a2k x (i:Int)).line) (a2k x (i:Int))=true then _ else _)=_
    rw [hX]
  refine ⟨?_,?_,hF.od,?_,?_,?_,?_⟩
  · have:=c8l (room:=0) (x:=⟨1,(i:Int),.zero,cA (aR x (a2k x (i:Int)).line) (a2k x (i:Int)) (aJ c x.ms (a2k x (i:Int)).line),none,0⟩) hF.q
    exact this
  · rw [ems]
    split
    · exact e4i hF.ml
    · exact hF.ml
  · rw [eq]
    intro e he
    rcases List.mem_or_eq_of_mem_set he with g|rfl
    · exact hF.sm e g
    · exact hmay
  · rw [eq]
    intro e he
    rcases List.mem_or_eq_of_mem_set he with g|rfl
    · exact hF.sk e g
    · exact fun hk=>d5t hE hk
  · rw [eq]
    intro e he
    rcases List.mem_or_eq_of_mem_set he with g|rfl
    · exact hF.sp e g
    · exact fun _ _=>hS
  · rw [ems]
    split
    · rename_i hW
      have hk3:x.q[i].m.kind=3:=by unfold jB at hW;simp at hW;exact hW.1.2
      have hw:=f1.2.2.2.2
      unfold iX at hw
      rw [if_pos (show iB x.q[i].m.kind from .inl hk3)] at hw
      exact fun line=>e4j hF.ml hF.mv hw line
    · exact hF.mv
theorem c7n {i:Nat} (h:LT c s) (hl:MaL c n s) (hf:vO c s) (hd:0≤d∧d<c.homes) (hi:i<(bU s d).q.length) (hr:eZ (bU s d).q (i:Int)=true) :
    gC (aR (bU s d) (bU s d).q[i].m.line) (bU s d).q[i].m=0∧aL c (bU s d).q[i].m.line=true∧cU c (bU s d).q[i].m.line=d:=by
  have hI:=(hl.hmi hd.1 hd.2).1
  have hF:=vJ hf hl hd
  have hm:=hI.req _ (List.getElem_mem hi)
  obtain ⟨f1,f2,f3,f4,f5⟩:=iD hI.ok hm
  have hlk:aL c (bU s d).q[i].m.line=true:=by unfold aL;rw [hl.ok,decide_eq_true ⟨f3.1,f3.2.1⟩];rfl
  have hlh:cU c (bU s d).q[i].m.line=d:=by unfold cU;rw [if_pos hlk];exact f3.2.2
  refine ⟨?_,hlk,hlh⟩
  rcases a4e hI hm with ⟨_,k1,ko⟩|g
  · exfalso
    obtain ⟨_,_,⟨c1,c2,c3,c4,c5⟩,_⟩:=a2i (S:=[Msg.zero]) hF.q hi hr (by simp)
    have e0:aN c s (bU s d).q[i].m.line=bU s d:=by unfold aN;rw [hlh]
    have hLI:=(h.1 _ hlk).1
    have ha:(fA c s (bU s d).q[i].m.line).act=none:=by
      show gZ (bU s d).q[i].m.line (aN c s (bU s d).q[i].m.line).q=none
      rw [e0];exact c4
    have ho:(fA c s (bU s d).q[i].m.line).o=(bU s d).q[i].m.src:=by
      show (aR (aN c s (bU s d).q[i].m.line) (bU s d).q[i].m.line).o=_
      rw [e0];exact ko
    have hrq:AM.get 1 (bU s d).q[i].m.src∈(fA c s (bU s d).q[i].m.line).rq:=by
      show _∈(b8q (bU s d).q[i].m.line s.n.l0++oC (bU s d).q[i].m.line (aN c s (bU s d).q[i].m.line).q).map qM
      rw [e0,c1]
      refine List.mem_map.2 ⟨(bU s d).q[i].m,List.mem_append_right _ (List.mem_cons_self ..),?_⟩
      unfold qM;rw [if_pos (.inl k1),k1]
    generalize fA c s (bU s d).q[i].m.line=v at *
    obtain ⟨a,ga,gk⟩:=hLI.gk _ _ hrq
    have hnb:=fT ha (bU s d).q[i].m.src
    have hg1:=hLI.g1 _ a ga hnb
    have hst:=(hLI.ml _ a ga hg1.2.2.2.2).1 gk
    have hho:=sV hLI ha (om)
    rw [ho] at hho
    rcases hho with g|⟨w,g1,g2⟩
    · omega
    · have:=(hLI.b1 _ _ _ g1).2.2
      rw [ga] at this;cases this
  · exact g
theorem e4k {j:Int} (h:LT c s) (hl:MaL c n s) (hf:vO c s) (hd:0≤d∧d<c.homes) (hr:eZ (bU s d).q j=true):LT c (c7 c s d j)∧HmF c (cE c (bU s d) j (d1v c s)):=by
  obtain ⟨i,hi,rfl,ea,hst,hfr⟩:=xK hr
  obtain ⟨hE,hlk,hlh⟩:=c7n h hl hf hd hi hr
  have hI:=(hl.hmi hd.1 hd.2).1
  have hF:=vJ hf hl hd
  have hm:=hI.req _ (List.getElem_mem hi)
  obtain ⟨f1,f2,f3,f4,f5⟩:=iD hI.ok hm
  have hin:a9o (bU s d).q (i:Int)=true:=by unfold a9o;exact decide_eq_true (om)
  have hX:a2k (bU s d) (i:Int)=(bU s d).q[i].m:=by unfold a2k;rw [ea]
  have eK:cE c (bU s d) (i:Int) (d1v c s)=i7 c (bU s d) (i:Int):=by
    unfold cE kV
    rw [if_pos hr,hX,if_pos hE]
  have eW:c7 c s d (i:Int)=dU s d (i7 c (bU s d) (i:Int)):=by
    unfold c7 e7
    rw [if_pos hr,eK];rfl
  refine ⟨?_,by rw [eK];exact d5u hI hF hi hr hE⟩
  rw [eW]
  obtain ⟨q1,q2,q3⟩:=c7m (c:=c) hi rfl
  have hS0:=(uN (w:=aJ c (bU s d).ms (bU s d).q[i].m.line) hE).1
  have hS:cA (aR (bU s d) (bU s d).q[i].m.line) (bU s d).q[i].m (aJ c (bU s d).ms (bU s d).q[i].m.line)≠[]:=fun g=>by rw [g] at hS0;exact absurd hS0 (Nat.lt_irrefl _)
  obtain ⟨_,_,_,hq⟩:=a2i hF.q hi hr hS
  refine ⟨d2w (L:=(bU s d).q[i].m.line) h.1 hl hd (fun line hne=>⟨?_,?_,?_,?_,?_⟩) (fun _ hLI=>?_),h.2⟩
  · rw [q2,if_neg hne]
  · rw [q3]
    split
    · exact z5 hF.ml hne
    · rfl
  · rw [q1];exact (hq line hne).1
  · rw [q1];exact (hq line hne).2.1
  · rw [q1];exact (hq line hne).2.2
  · have hv:=e9w hl hd hF hi rfl hr hS q1 hlk hlh
    have hent:=q2 (bU s d).q[i].m.line
    rw [if_pos rfl] at hent
    have:(bU s d).q[i].m.kind=1∨(bU s d).q[i].m.kind=2∨(bU s d).q[i].m.kind=3:=by omega
    rcases this with k|k|k
    · exact d0s k hE rfl (d9a hl hd hlk hlh (om) hent q3) hv hLI
    · exact c3s k hE rfl (d9a hl hd hlk hlh (om) hent q3) hv hLI
    · exact d5r hl hd hF hlk hlh k hE f1 rfl rfl hent q3 hv hLI
end
end
section
structure MaI (c:Cfg) (ps:List (List Op3)) (n:Nat) (s:MaS):Prop where
  l:MaL c n s
  f:vO c s
  t:LT c s
  o:s.odd=0
  p:MaT c ps (rI s)
section
variable {c:Cfg} {ps:List (List Op3)} {n:Nat} {s:MaS}
theorem a8j {d:Int} {x:HomS} (hf:vO c s) (hx:HmF c x):vO c (dU s d x):=by
  intro y hy
  rcases List.mem_or_eq_of_mem_set hy with g|rfl
  · exact hf y g
  · exact hx
theorem d9c {i w:Int}:(c8 c s i w).hs=s.hs∧(c8 c s i w).odd=s.odd:=by
  unfold c8
  split
  · exact ⟨rfl,rfl⟩
  · split
    · exact ⟨rfl,rfl⟩
    · split
      · split<;>exact ⟨rfl,rfl⟩
      · split
        · unfold jE;split<;>exact ⟨rfl,rfl⟩
        · split
          · exact ⟨rfl,rfl⟩
          · split
            · exact ⟨rfl,rfl⟩
            · split
              · unfold a7f;split<;>exact ⟨rfl,rfl⟩
              · exact ⟨rfl,rfl⟩
theorem c7o {i d:Int}:(eE c s i d).hs=s.hs∧(eE c s i d).odd=s.odd:=by
  unfold eE
  split
  · exact ⟨rfl,rfl⟩
  · split<;>exact ⟨rfl,rfl⟩
theorem c7p (m:Msg):(dD c s m).hs=s.hs:=by unfold dD;split<;>rfl
theorem e4l (m:Msg):(i3 c s m).hs=s.hs:=by
  unfold i3
  split
  · unfold jE;split<;>rfl
  · rfl
theorem b5y {x:Nets} {k i:Int} (h:gN x k i=true):k=0∨k=1∨k=2:=by
  have hm:=dQ h
  unfold eY at hm
  by_cases h0:k=0
  · exact .inl h0
  · rw [if_neg h0] at hm
    by_cases h1:k=1
    · exact .inr (.inl h1)
    · rw [if_neg h1] at hm
      by_cases h2:k=2
      · exact .inr (.inr h2)
      · rw [if_neg h2] at hm;cases hm
theorem e9x {k i:Int} (hl:MaL c n s) (hf:vO c s) (ht:LT c s):vO c (d8 c s k i)∧LT c (d8 c s k i)∧(d8 c s k i).odd=s.odd:=by
  unfold d8
  split
  · exact ⟨hf,ht,rfl⟩
  · rename_i g
    have hb:gN s.n k i=true:=by cases e:gN s.n k i with|true=>rfl|false=>exact absurd (.inl e) g
    have hmem:=hl.nt k _ (dQ hb)
    rcases b5y hb with rfl|rfl|rfl
    · rw [if_pos rfl]
      have hh:cK (aG s.n 0 i).kind:=by
        have:=hmem.2
        unfold c6 at this
        unfold cK
        split at this
        · exact .inl (by assumption)
        · split at this
          · omega
          · split at this<;>omega
      split
      · rename_i he
        exact ⟨a8j (s:=s) hf (d2t (vJ hf hl (lO hmem.1 hh))),e7r ht hl hb rfl he,rfl⟩
      · exact ⟨hf,ht,rfl⟩
    · rw [if_neg (by decide),if_pos rfl]
      have h2:cB c s.n 2≠0:=fun e=>g (.inr ⟨rfl,e⟩)
      obtain ⟨a,b⟩:=e2x ht hl hb h2
      refine ⟨?_,a,b⟩
      unfold vO
      rw [c7p];exact hf
    · rw [if_neg (by decide),if_neg (by decide)]
      split
      · rename_i h11
        obtain ⟨a,b⟩:=e1e ht hl hf hb rfl h11
        refine ⟨?_,a,b⟩
        have hr:=lO hmem.1 (.inr h11)
        exact a8j (s:=dZ s (aH s.n 2 i)) hf (d2s (vJ hf hl hr))
      · rename_i h11
        obtain ⟨a,b⟩:=e2y ht hl hb h11
        refine ⟨?_,a,b⟩
        unfold vO
        rw [e4l,c7p];exact hf
theorem a8k {d j:Int}:(c7 c s d j).hs=(dU s d (cE c (bU s d) j (d1v c s))).hs∧(c7 c s d j).odd=s.odd:=by
  unfold c7;split<;>exact ⟨rfl,rfl⟩
theorem e4m {d j:Int} (hl:MaL c n s) (hf:vO c s) (ht:LT c s) (hd:0≤d∧d<c.homes):vO c (c7 c s d j)∧LT c (c7 c s d j)∧(c7 c s d j).odd=s.odd:=by
  have hF:=vJ hf hl hd
  cases hr:eZ (bU s d).q j with
  |true=>
   obtain ⟨a,b⟩:=e4k ht hl hf hd hr
   refine ⟨?_,a,a8k.2⟩
   unfold vO
   rw [a8k.1]
   exact a8j hf b
  |false=>
   cases hg:gX (bU s d) j (d1v c s) with
   |true=>
    refine ⟨?_,e1g ht hl hf hd hr hg,a8k.2⟩
    unfold vO
    rw [a8k.1]
    refine a8j hf ?_
    unfold cE
    rw [hr,hg]
    exact d2r hF j
   |false=>
    have:c7 c s d j=s:=b3x (by unfold kA mT;rw [hr,hg];rfl)
    rw [this];exact ⟨hf,ht,rfl⟩
theorem e4n (hl:MaL c n s) (hf:vO c s) (ht:LT c s) (p:Pk):vO c (bY c s p)∧LT c (bY c s p)∧(bY c s p).odd=s.odd:=by
  have hlk:=hl.lk
  have hlh:=hl.lh
  unfold bY
  split
  · exact ⟨hf,ht,rfl⟩
  · rename_i g
    split
    · exact e9x hl hf ht
    · split
      · rename_i g2
        have:=g2.2
        simp only [inN,decide_eq_true_eq] at this
        exact e4m hl hf ht (om)
      · split
        · rename_i g3
          have:=g3.2
          simp only [inN,decide_eq_true_eq] at this
          exact ⟨by unfold vO;rw [d9c.1];exact hf,e8k ht hl (om),d9c.2⟩
        · split
          · rename_i g4
            have:=g4.2
            simp only [inN,decide_eq_true_eq] at this
            exact ⟨by unfold vO;rw [c7o.1];exact hf,e1w ht hl (om),c7o.2⟩
          · exact ⟨hf,ht,rfl⟩
theorem MaI.pick (h:MaI c ps n s) (p:Pk):MaI c ps (n+1) (bY c s p):=by
  obtain ⟨a,b,e⟩:=e4n h.l h.f h.t p
  exact ⟨h.l.pick p,a,b,e.trans h.o,h.p.step (c7i h.l p)⟩
theorem MaI.picks (h:MaI c ps n s) (l:List Pk):MaI c ps (n+l.length) (cM c s l):=by
  unfold cM
  induction l generalizing n s with
  |nil=>exact h
  |cons p l ih=>
   rw [List.foldl_cons,List.length_cons]
   have:=ih (h.pick p)
   rw [show n+(l.length+1)=n+1+l.length by omega]
   exact this
theorem MaI.new (h:nE c ps=true):MaI c ps 0 (bK c ps):=by
  have hc:aF c=true:=by simp only [nE,Bool.and_eq_true] at h;exact h.1.1
  refine ⟨MaL.new h,fun x hx=>?_,e8w hc,rfl,MaT.new⟩
  obtain ⟨i,_,rfl⟩:=List.mem_map.1 hx
  exact e4h c _ hc
theorem MaI.len (h:MaI c ps n s):(ps.length:Int)=c.cores:=by
  have e:ps.length=s.ks.length:=by
    rw [←h.p.ln]
    show ((s.ks.map _).map _).length=_
    simp
  rw [e];exact h.l.lk
theorem MaI.fine (h:MaI c ps n s):c0b c ps s.tr=s.tr.length:=by
  refine c0c fun j hj=>?_
  have hx:s.tr[j]? =some s.tr[j]:=List.getElem?_eq_getElem hj
  obtain ⟨g1,g2,g3,g4⟩:=h.p.tr j _ (show (rI s).2[j]? =some s.tr[j] from hx)
  obtain ⟨k1,k2⟩:=h.t.2 j _ hx
  unfold zY
  rw [hx]
  have hlen:=h.len
  simp only [Bool.and_eq_true,decide_eq_true_eq]
  exact ⟨⟨⟨⟨⟨om,g2⟩,g3⟩,g4⟩,k1⟩,k2⟩
end
end
end Go.Sx
