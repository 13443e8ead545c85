/- Mw2b, MaTn, MaR, MaH, MaJ: several of my texts as one. My own work. -/
import Derived.Test.YtjihlpjnebdiiaaGreatZr
import Derived.Test.YtjihlpjnebdiiaaGreatZav
import Derived.Test.YtjihlpjnebdiiaaGreatZaw
import Derived.Test.YtjihlpjnebdiiaaGreatZas
import Derived.Test.YtjihlpjnebdiiaaGreatZat
set_option linter.unusedVariables false
set_option linter.unusedSectionVars false
set_option linter.unusedSimpArgs false
/- What a machine does: what a core asks ahead. My own work. -/
namespace Go.Sx
open Go Go.Proofs
set_option maxRecDepth 100000
set_option maxHeartbeats 4000000
attribute [local irreducible] Go.Exit.then Go.Exit.inBlock Go.Code.wp WC WO WE WQ V LoopQ FnQ Sat Star band bor IntKind.wrap WR Code.rounds WT KO
theorem dr_Mw2b_53m {Q P:Prop} (k:Q) (h:Hid Q→P:=by
  intro k
  first
  |(refine is_draw ?_;apply WC_mix (id:=4) (.only [11,12,17]) _ (pl:= .p 0 <| .p 1 <| .p 2 <| .p 4 <| .p 7 <| .r 8 <| .r 10 <| .e true [(3,.p 5 <| .e true [(6,.e true [(9,.e true [(11,.n [12,17] <| .e true [(12,.n [17] <| .p 13 <| .p 14 <| .p 15 <| .e true [(16,.e true [(17,.n [] <| .p 18 <| .done)])]),(16,.e true [(12,.n [17] <| .p 13 <| .p 14 <| .p 15 <| .e true [(17,.n [] <| .p 18 <| .done)])])]),(16,.e true [(11,.n [12,17] <| .e true [(12,.n [17] <| .p 13 <| .p 14 <| .p 15 <| .e true [(17,.n [] <| .p 18 <| .done)])])])]),(16,.e true [(9,.e true [(11,.n [12,17] <| .e true [(12,.n [17] <| .p 13 <| .p 14 <| .p 15 <| .e true [(17,.n [] <| .p 18 <| .done)])])])])]),(9,.e true [(6,.e true [(11,.n [12,17] <| .e true [(12,.n [17] <| .p 13 <| .p 14 <| .p 15 <| .e true [(16,.e true [(17,.n [] <| .p 18 <| .done)])]),(16,.e true [(12,.n [17] <| .p 13 <| .p 14 <| .p 15 <| .e true [(17,.n [] <| .p 18 <| .done)])])]),(16,.e true [(11,.n [12,17] <| .e true [(12,.n [17] <| .p 13 <| .p 14 <| .p 15 <| .e true [(17,.n [] <| .p 18 <| .done)])])])]),(11,.n [12,17] <| .r 6 <| .e true [(12,.n [17] <| .p 13 <| .p 14 <| .p 15 <| .e true [(16,.e true [(17,.n [] <| .p 18 <| .done)])]),(16,.e true [(12,.n [17] <| .p 13 <| .p 14 <| .p 15 <| .e true [(17,.n [] <| .p 18 <| .done)])])]),(16,.e true [(6,.e true [(11,.n [12,17] <| .e true [(12,.n [17] <| .p 13 <| .p 14 <| .p 15 <| .e true [(17,.n [] <| .p 18 <| .done)])])]),(11,.n [12,17] <| .r 6 <| .e true [(12,.n [17] <| .p 13 <| .p 14 <| .p 15 <| .e true [(17,.n [] <| .p 18 <| .done)])])])]),(16,.e true [(6,.e true [(9,.e true [(11,.n [12,17] <| .e true [(12,.n [17] <| .p 13 <| .p 14 <| .p 15 <| .e true [(17,.n [] <| .p 18 <| .done)])])])]),(9,.e true [(6,.e true [(11,.n [12,17] <| .e true [(12,.n [17] <| .p 13 <| .p 14 <| .p 15 <| .e true [(17,.n [] <| .p 18 <| .done)])])]),(11,.n [12,17] <| .r 6 <| .e true [(12,.n [17] <| .p 13 <| .p 14 <| .p 15 <| .e true [(17,.n [] <| .p 18 <| .done)])])])])]),(9,.e true [(3,.p 5 <| .e true [(6,.e true [(11,.n [12,17] <| .e true [(12,.n [17] <| .p 13 <| .p 14 <| .p 15 <| .e true [(16,.e true [(17,.n [] <| .p 18 <| .done)])]),(16,.e true [(12,.n [17] <| .p 13 <| .p 14 <| .p 15 <| .e true [(17,.n [] <| .p 18 <| .done)])])]),(16,.e true [(11,.n [12,17] <| .e true [(12,.n [17] <| .p 13 <| .p 14 <| .p 15 <| .e true [(17,.n [] <| .p 18 <| .done)])])])]),(11,.n [12,17] <| .r 6 <| .e true [(12,.n [17] <| .p 13 <| .p 14 <| .p 15 <| .e true [(16,.e true [(17,.n [] <| .p 18 <| .done)])]),(16,.e true [(12,.n [17] <| .p 13 <| .p 14 <| .p 15 <| .e true [(17,.n [] <| .p 18 <| .done)])])]),(16,.e true [(6,.e true [(11,.n [12,17] <| .e true [(12,.n [17] <| .p 13 <| .p 14 <| .p 15 <| .e true [(17,.n [] <| .p 18 <| .done)])])]),(11,.n [12,17] <| .r 6 <| .e true [(12,.n [17] <| .p 13 <| .p 14 <| .p 15 <| .e true [(17,.n [] <| .p 18 <| .done)])])])]),(11,.n [12,17] <| .r 3 <| .p 5 <| .r 6 <| .e true [(12,.n [17] <| .p 13 <| .p 14 <| .p 15 <| .e true [(16,.e true [(17,.n [] <| .p 18 <| .done)])]),(16,.e true [(12,.n [17] <| .p 13 <| .p 14 <| .p 15 <| .e true [(17,.n [] <| .p 18 <| .done)])])]),(16,.e true [(3,.p 5 <| .e true [(6,.e true [(11,.n [12,17] <| .e true [(12,.n [17] <| .p 13 <| .p 14 <| .p 15 <| .e true [(17,.n [] <| .p 18 <| .done)])])]),(11,.n [12,17] <| .r 6 <| .e true [(12,.n [17] <| .p 13 <| .p 14 <| .p 15 <| .e true [(17,.n [] <| .p 18 <| .done)])])]),(11,.n [12,17] <| .r 3 <| .p 5 <| .r 6 <| .e true [(12,.n [17] <| .p 13 <| .p 14 <| .p 15 <| .e true [(17,.n [] <| .p 18 <| .done)])])])]),(16,.e true [(3,.p 5 <| .e true [(6,.e true [(9,.e true [(11,.n [12,17] <| .e true [(12,.n [17] <| .p 13 <| .p 14 <| .p 15 <| .e true [(17,.n [] <| .p 18 <| .done)])])])]),(9,.e true [(6,.e true [(11,.n [12,17] <| .e true [(12,.n [17] <| .p 13 <| .p 14 <| .p 15 <| .e true [(17,.n [] <| .p 18 <| .done)])])]),(11,.n [12,17] <| .r 6 <| .e true [(12,.n [17] <| .p 13 <| .p 14 <| .p 15 <| .e true [(17,.n [] <| .p 18 <| .done)])])])]),(9,.e true [(3,.p 5 <| .e true [(6,.e true [(11,.n [12,17] <| .e true [(12,.n [17] <| .p 13 <| .p 14 <| .p 15 <| .e true [(17,.n [] <| .p 18 <| .done)])])]),(11,.n [12,17] <| .r 6 <| .e true [(12,.n [17] <| .p 13 <| .p 14 <| .p 15 <| .e true [(17,.n [] <| .p 18 <| .done)])])]),(11,.n [12,17] <| .r 3 <| .p 5 <| .r 6 <| .e true [(12,.n [17] <| .p 13 <| .p 14 <| .p 15 <| .e true [(17,.n [] <| .p 18 <| .done)])])])])]);exact mixed;kernel_rfl;kernel_rfl;exact Ent.refl;exact k.out)):P:=h ⟨k⟩
theorem ma_look {F:List HP} {b:Nat} {c:Cfg} {s:MaS} {x:MaX} {i n:Nat} {d:Int} (hw:c.wf) (hl:MaL c n s) (hi:(i:Int)<c.cores) (hx:MaF c s x) :
    FnF Tryz.prog 53 [.pointer (some ⟨b,0,none⟩),.int .i64 i,.int .i64 d] [MaQ b c s x] F (fun r L'=>r= .bool (maLookB c s i d)∧L'=[MaQ b c (maLookS c s i d) { x with pt:=x.pt}]):=by
  obtain ⟨⟨f1,f2,f3⟩,⟨f4,f5,f6⟩,f7⟩:=id hx
  have hk:i<x.kb.length:=by omega
  have ha:i<x.ab.length:=by omega
  have eA:maA s (i:Int)=s.cs.getD i caZ:=rfl
  have eK:maK s (i:Int)=s.ks.getD i coZ:=rfl
  have hgk:=pv_get hk
  have hga:=pv_get ha
  have hAh:=fun F=>core_Ahead (F:=F) (b:=x.kb[i]) (l:=(s.ks.getD i coZ).l) (rs:=(s.ks.getD i coZ).rs) (tr:=(s.ks.getD i coZ).tr) (d:=d)
  have hL:=fun F n k=>net_Left (F:=F) (b:=x.bn) (c:=c) (n:=n) (k:=k)
  have hSn:=fun F odd n m=>ma_send (F:=F) (b:=b) (c:=c) (odd:=odd) (nk:=x.kb.length) (na:=x.ab.length) (nh:=x.hb.length) (nt:=s.tr.length) (pk:=x.pk) (pa:=x.pa) (ph:=x.ph) (pt:=x.pt) (bn:=x.bn) (n:=n) (m:=m) hw
  refine FnF.mk' Tryz.func53 rfl rfl Tryz.ntmps53 rfl ?_
  refine maoi_open hk ha fun hf=>?_
  (first|(refine WO_some (.slice x.pa.1 x.ab.length x.pa.2) inferInstance (by omega) ?_;intro _)|(refine WC_some (.slice x.pa.1 x.ab.length x.pa.2) inferInstance (by omega) ?_;intro _))
  (first|(refine WO_some (.slice x.pk.1 x.kb.length x.pk.2) inferInstance (by omega) ?_;intro _)|(refine WC_some (.slice x.pk.1 x.kb.length x.pk.2) inferInstance (by omega) ?_;intro _))
  cases hb:aheadB (s.ks.getD i coZ).l (s.ks.getD i coZ).rs (s.ks.getD i coZ).tr d with
  |false=>
   have hb':coAhB (maK s i) d=false:=hb
   have eB:maLookB c s i d=false:=by unfold maLookB;rw [if_pos (.inl hb')]
   have eS:maLookS c s i d=⟨s.ks.set i (s.ks.getD i coZ),s.cs.set i (s.cs.getD i caZ),s.hs,s.n,s.tr,s.odd⟩:=by unfold maLookS;rw [if_pos (.inl hb'),set_getD,set_getD]
   rw [eB,eS]
   simp only [hb] at hAh
   repeat (first|refine go ?_|intro _|refine dr_Mw2b_53m ?_|refine drq ?_|refine cal @hAh ?_|refine cal @hL ?_)
   (apply WE_ret rfl rfl zqR)
   · exact ⟨rfl,rfl⟩
   · (apply maoi_in;(focus (exact entu0));all_goals exact zqS)
  |true=>
   have hTr:∀ F,FnF Tryz.prog 115 [.pointer (some ⟨x.kb[i],0,none⟩),.int .i64 d] [corK x.kb[i] (s.ks.getD i coZ)] F (fun r L'=>r= .int .i64 0∧L'=[corK x.kb[i] (coTry (s.ks.getD i coZ) d)]):=fun F=>core_Try (F:=F) (b:=x.kb[i]) (l:=(s.ks.getD i coZ).l) (rs:=(s.ks.getD i coZ).rs) (tr:=(s.ks.getD i coZ).tr) (d:=d) hb
   have hop:=ahead_op hl (i:=(i:Int)) hb
   have eO:coAhO (maK s i) d=aheadO (s.ks.getD i coZ).l (s.ks.getD i coZ).rs (s.ks.getD i coZ).tr d:=rfl
   simp only [hb] at hAh
   rw [eO] at hop
   generalize aheadO (s.ks.getD i coZ).l (s.ks.getD i coZ).rs (s.ks.getD i coZ).tr d=op at *
   have hLn:=fun F odd nt pt=>ma_line (F:=F) (b:=b) (c:=c) (odd:=odd) (nk:=x.kb.length) (na:=x.ab.length) (nh:=x.hb.length) (nt:=nt) (pk:=x.pk) (pa:=x.pa) (ph:=x.ph) (pt:=pt) (bn:=x.bn) (x:=op) hw hop
   have hAk:=fun F=>ca_Ask (F:=F) (b:=x.ab[i]) (c:=c) (core:=(i:Int)) (line:=maLine c op) (kind:=kindOf op) (k:=s.cs.getD i caZ) addr_i64
   have hKd:=fun F=>ma_kind (F:=F) (x:=op)
   have hb0:¬(coAhB (maK s i) d=false):=by have:coAhB (maK s i) d=true:=hb;rw [this];simp
   by_cases h0:nleft c s.n 0=0
   · have eB:maLookB c s i d=false:=by unfold maLookB;rw [if_pos (.inr h0)]
     have eS:maLookS c s i d=⟨s.ks.set i (s.ks.getD i coZ),s.cs.set i (s.cs.getD i caZ),s.hs,s.n,s.tr,s.odd⟩:=by unfold maLookS;rw [if_pos (.inr h0),set_getD,set_getD]
     rw [eB,eS]
     repeat (first|refine go ?_|intro _|refine dr_Mw2b_53m ?_|refine drq ?_|refine cal @hAh ?_|refine cal @hL ?_)
     (apply WE_ret rfl rfl zqR)
     · exact ⟨rfl,rfl⟩
     · (apply maoi_in;(focus (exact entu0));all_goals exact zqS)
   · have hno:¬(coAhB (maK s i) d=false∨nleft c s.n 0=0):=fun g=>g.elim hb0 h0
     have eAsk:maAskE c s i op=caAskE c (s.cs.getD i caZ) (maLine c op) (kindOf op):=rfl
     repeat (first|refine go ?_|intro _|refine cal @hAh ?_|refine cal @hL ?_)
     rename_i b7
     apply WC_join (P:=Tryz.prog) (fun q:Nat=>[(0,.pointer (some ⟨b,0,none⟩)),(1,.int .i64 i),(2,.int .i64 d),(6,.bool false),(9,.pointer (some ⟨q,0,none⟩)),(10,.int .i64 (caAskE c (s.cs.getD i caZ) (maLine c op) (kindOf op))),(50,.bool (decide (caAskE c (s.cs.getD i caZ) (maLine c op) (kindOf op)≠0)))])
       (fun q=>Cells q 99 (mc (caAskM c (i:Int) (s.cs.getD i caZ) (maLine c op) (kindOf op)))::MC b c s.odd x.kb.length x.ab.length x.hb.length s.tr.length x.pk x.pa x.ph x.pt x.bn::OwK x.pk x.kb::OwA x.pa x.ab::OwH x.ph x.hb::NetP x.bn c s.n::OwT x.pt s.tr::corK x.kb[i] (s.ks.getD i coZ)::CaP x.ab[i] c (i:Int) (caAskK c (s.cs.getD i caZ) (maLine c op) (kindOf op))::All (((List.range x.kb.length).eraseIdx i).map (corH x s))::All (((List.range x.ab.length).eraseIdx i).map (cacH c x s))::All ((List.range x.hb.length).map (homH c x s))::F) (fun _=>True)
     · intro join
       repeat' (first|refine go ?_|intro _|refine dr_Mw2b_53m ?_|refine drq ?_|refine cal @hLn ?_|refine cal @hKd ?_|refine cal @hAk ?_|apply WT_alt|fail)
       all_goals exact join _ _ _ trivial (by exact zqU) (by exact entu0)
     · intro q _
       have eAsk:maAskE c s i op=caAskE c (s.cs.getD i caZ) (maLine c op) (kindOf op):=rfl
       by_cases he:caAskE c (s.cs.getD i caZ) (maLine c op) (kindOf op)=0
       · have eB:maLookB c s i d=decide (nsendE c s.n (caAskM c i (s.cs.getD i caZ) (maLine c op) (kindOf op))=0):=by
           unfold maLookB;rw [if_neg hno,eO,if_pos (eAsk.trans he)];rfl
         have eS:maLookS c s i d=⟨s.ks.set i (coTry (s.ks.getD i coZ) d),s.cs.set i (caAskK c (s.cs.getD i caZ) (maLine c op) (kindOf op)),s.hs,nsendN c s.n (caAskM c i (s.cs.getD i caZ) (maLine c op) (kindOf op)),s.tr,s.odd⟩:=by
           unfold maLookS;rw [if_neg hno,eO,if_pos (eAsk.trans he)];rfl
         rw [eB,eS]
         repeat (first|refine go ?_|intro _|refine dr_Mw2b_53m ?_|refine drq ?_|refine cal @hTr ?_|refine cal @hSn ?_)
         (apply WE_ret rfl rfl zqR)
         · exact ⟨rfl,rfl⟩
         · (apply maoi_in;(focus (exact entu0));all_goals exact zqS)
       · have eKn:caAskK c (s.cs.getD i caZ) (maLine c op) (kindOf op)=s.cs.getD i caZ:=by unfold caAskK;rw [if_neg he]
         have eB:maLookB c s i d=false:=by
           unfold maLookB;rw [if_neg hno,eO,if_neg (fun g=>he (eAsk.symm.trans g))]
         have eS:maLookS c s i d=⟨s.ks.set i (s.ks.getD i coZ),s.cs.set i (s.cs.getD i caZ),s.hs,s.n,s.tr,s.odd⟩:=by
           unfold maLookS;rw [if_neg hno,eO,if_neg (fun g=>he (eAsk.symm.trans g)),set_getD,set_getD]
         rw [eB,eS,eKn]
         repeat (first|refine go ?_|intro _|refine dr_Mw2b_53m ?_|refine drq ?_|refine cal @hTr ?_|refine cal @hSn ?_)
         (apply WE_ret rfl rfl zqR)
         · exact ⟨rfl,rfl⟩
         · (apply maoi_in;(focus (exact entu0));all_goals exact zqS)
end Go.Sx

/- What homes do keeps each line's protocol: a put's turn. My own work. -/
namespace Go.Sx
open Go Go.Proofs
theorem may_tl {c:Cfg} {m:Msg} (h:MayP c m):tailZ c m.words=true:=by
  have hw:=h.2.2.2.2
  unfold WordsP at hw
  have hv:∀ i:Nat,i<8→c.words≤i→m.words.list.getD i 0=0:=by
    intro i hi hc
    split at hw
    · exact (hw i hi).2.2 hc
    · rw [hw]
      match i,hi with
      |0,_=>rfl|1,_=>rfl|2,_=>rfl|3,_=>rfl|4,_=>rfl|5,_=>rfl|6,_=>rfl|7,_=>rfl
  unfold tailZ
  rw [List.all_eq_true]
  intro n hn
  obtain ⟨j,hj,rfl⟩:=List.getElem_of_mem hn
  have hl:m.words.list.length=8:=rfl
  have hj':c.words.toNat+j<8:=by simp [hl] at hj;omega
  have:=hv (c.words.toNat+j) hj' (by omega)
  rw [List.getElem_drop]
  have h3:c.words.toNat+j<m.words.list.length:=by omega
  simpa [h3] using this
section
variable {c:Cfg} {n:Nat} {s:MaS}
structure TurnAt (c:Cfg) (s:MaS) (d:Int) (i:Nat) (m:Msg) (S:List Msg) (x':HomS):Prop where
  q:x'.q=qstartL (maH s d).q (i:Int) S
  es:∀ x,hmEnt x' x=if x=m.line then nextT (hmEnt (maH s d) m.line) m else hmEnt (maH s d) x
  ms:x'.ms=if nextW (hmEnt (maH s d) m.line) m then wrL c (maH s d).ms m.line m.words else (maH s d).ms
theorem turn_at {d:Int} {i:Nat} {m:Msg} (hi:i<(maH s d).q.length) (hm:(maH s d).q[i].m=m):TurnAt c s d i m (nextS (hmEnt (maH s d) m.line) m (lineWo c (maH s d).ms m.line)) (hmTurnS c (maH s d) (i:Int)):=by
  have hin:qin (maH s d).q (i:Int)=true:=by unfold qin;exact decide_eq_true (by omega)
  have hX:hmX (maH s d) (i:Int)=m:=by
    unfold hmX qat
    rw [if_pos hin,Int.toNat_natCast,List.getD_eq_getElem?_getD,List.getElem?_eq_getElem hi];exact hm
  refine ⟨?_,fun x=>?_,?_⟩
  · show qstartL _ _ (nextS (hmEnt (maH s d) (hmX (maH s d) (i:Int)).line) (hmX (maH s d) (i:Int)) _)=_
    rw [hX]
  · unfold hmEnt
    show (mget (mset (maH s d).es (hmX (maH s d) (i:Int)).line _) x).getD .no=_
    rw [mget_mset,hX]
    by_cases hx:x=m.line
    · rw [if_pos hx,if_pos hx];rfl
    · rw [if_neg hx,if_neg hx]
  · show (if nextW (hmEnt (maH s d) (hmX (maH s d) (i:Int)).line) (hmX (maH s d) (i:Int))=true then _ else _)=_
    rw [hX]
structure TurnV (c:Cfg) (s s':MaS) (L:Int) (m:Msg) (S:List Msg):Prop where
  rq0:(maV c s L).rq.Perm (amM m::(maV c s' L).rq)
  fly:(maV c s' L).fly.Perm (S.map amM++(maV c s L).fly)
  a0:(maV c s L).act=none
  a1:(maV c s' L).act=if m.kind=3 then none else some (m.kind,m.src)
theorem turn_v {d:Int} {i:Nat} {m:Msg} {S:List Msg} {x':HomS} (hl:MaL c n s) (hd:0≤d∧d<c.homes) (hF:HmF c (maH s d)) (hi:i<(maH s d).q.length) (hm:(maH s d).q[i].m=m) (hr:qready (maH s d).q (i:Int)=true) (hS:S≠[]) (hq:x'.q=qstartL (maH s d).q (i:Int) S) (hlk:okLine c m.line=true) (hlh:lineH c m.line=d):TurnV c s (maHs s d x') m.line m S:=by
  obtain ⟨g1,g2,⟨c1,c2,c3,c4,c5⟩,_⟩:=start_q hF.q hi hr hS
  rw [hm] at c1 c2 c3 c4 c5
  have e0:maHo c s m.line=maH s d:=by unfold maHo;rw [hlh]
  have e1:maHo c (maHs s d x') m.line=x':=by rw [ho_as hl hd hlk,if_pos hlh]
  refine ⟨?_,?_,?_,?_⟩
  · show ((ofL m.line s.n.l0++oC m.line (maHo c s m.line).q).map amM).Perm (amM m::(ofL m.line s.n.l0++oC m.line (maHo c (maHs s d x') m.line).q).map amM)
    rw [e0,e1,hq,c1]
    exact (List.perm_middle (a:=m) (l₁:=ofL m.line s.n.l0)).map amM
  · show ((ofL m.line (s.n.l1++s.n.l2)++oP m.line (maHo c (maHs s d x') m.line).q).map amM).Perm (S.map amM++(ofL m.line (s.n.l1++s.n.l2)++oP m.line (maHo c s m.line).q).map amM)
    rw [e0,e1,hq,c2,c3,List.append_nil,←List.map_append]
    exact List.perm_append_comm.map amM
  · show actQ m.line (maHo c s m.line).q=none
    rw [e0];exact c4
  · show actQ m.line (maHo c (maHs s d x') m.line).q=_
    rw [e1,hq];exact c5
theorem turn_put {d:Int} {m:Msg} {x':HomS} {S:List Msg} (hl:MaL c n s) (hd:0≤d∧d<c.homes) (hF:HmF c (maH s d)) (hlk:okLine c m.line=true) (hlh:lineH c m.line=d) (hk:m.kind=3) (hE:nextE (hmEnt (maH s d) m.line) m=0) (hmay:MayP c m) (hdst:m.src=m.src)
    (hS:S=nextS (hmEnt (maH s d) m.line) m (lineWo c (maH s d).ms m.line)) (hent:hmEnt x' m.line=nextT (hmEnt (maH s d) m.line) m) (hms:x'.ms=if nextW (hmEnt (maH s d) m.line) m then wrL c (maH s d).ms m.line m.words else (maH s d).ms) (hv:TurnV c s (maHs s d x') m.line m S) (hLI:LI (maV c s m.line)):LI (maV c (maHs s d x') m.line):=by
  have e0:maHo c s m.line=maH s d:=by unfold maHo;rw [hlh]
  have e1:maHo c (maHs s d x') m.line=x':=by rw [ho_as hl hd hlk,if_pos hlh]
  have hA:amM m= .put m.src m.words:=by unfold amM;rw [if_neg (by omega),if_pos hk]
  have hS':S.map amM=[.pack m.src]:=by
    rw [hS];unfold nextS
    rw [if_pos hE,if_neg (by omega),if_neg (by omega)];rfl
  obtain ⟨h1,h2,h3,h4⟩:=hv
  rw [hA] at h1
  rw [hS'] at h2
  rw [if_pos hk] at h4
  have hT:hmEnt x' m.line=putT (hmEnt (maH s d) m.line) m:=by
    rw [hent];unfold nextT;rw [if_pos hE,if_neg (by omega),if_neg (by omega)]
  have ho:(maV c s m.line).o=(hmEnt (maH s d) m.line).o:=by show (hmEnt (maHo c s m.line) m.line).o=_;rw [e0]
  have ho':(maV c (maHs s d x') m.line).o=(putT (hmEnt (maH s d) m.line) m).o:=by show (hmEnt (maHo c (maHs s d x') m.line) m.line).o=_;rw [e1,hT]
  have hsh:∀ x,(maV c (maHs s d x') m.line).sh x=(maV c s m.line).sh x:=fun x=>by
    show shHas (hmEnt (maHo c (maHs s d x') m.line) m.line).s x=shHas (hmEnt (maHo c s m.line) m.line).s x
    rw [e0,e1,hT]
    unfold putT
    split<;>rfl
  by_cases hO:(hmEnt (maH s d) m.line).o=m.src
  · have hW:nextW (hmEnt (maH s d) m.line) m=true:=by unfold nextW;rw [decide_eq_true hE,decide_eq_true hk,decide_eq_true hO];rfl
    have hmem:(maV c (maHs s d x') m.line).mem=m.words:=by
      show lineWo c (maHo c (maHs s d x') m.line).ms m.line=_
      rw [e1,hms,if_pos hW]
      refine line_wr_self hF.ml ?_
      unfold wrOk okJoin
      have hw:=check_words hl.ok
      have hl':=hlk
      unfold okLine at hl'
      simp only [Bool.and_eq_true,decide_eq_true_eq] at hl'
      rw [hl.ok,decide_eq_true ⟨hl'.2.1,hl'.2.2,by omega,by omega⟩,may_tl hmay];rfl
    exact li_put1 (r:=m.src) (w:=m.words) hLI h3 (by rw [ho];exact hO) (fun _=>rfl) (fun _ _=>rfl) (fun _=>rfl) (fun _=>rfl) h1 (List.Perm.refl _) h2 (by rw [h4,h3]) (by rw [ho'];unfold putT;rw [if_pos hO]) hsh hmem rfl
  · have hW:nextW (hmEnt (maH s d) m.line) m=false:=by unfold nextW;rw [decide_eq_false hO,Bool.and_false]
    have hmem:(maV c (maHs s d x') m.line).mem=(maV c s m.line).mem:=by
      show lineWo c (maHo c (maHs s d x') m.line).ms m.line=lineWo c (maHo c s m.line).ms m.line
      rw [e0,e1,hms,hW];rfl
    exact li_put2 (r:=m.src) (w:=m.words) hLI h3 (by rw [ho];exact hO) (fun _=>rfl) (fun _ _=>rfl) (fun _=>rfl) (fun _=>rfl) h1 (List.Perm.refl _) h2 (by rw [h4,h3]) (by rw [ho',ho];unfold putT;rw [if_neg hO]) hsh hmem rfl
end
end Go.Sx

/- What homes do keeps each line's protocol: a read's turn, a write's turn. My own work. -/
namespace Go.Sx
open Go Go.Proofs
section
variable {c:Cfg} {n:Nat} {s:MaS}
structure TurnW (c:Cfg) (s s':MaS) (L:Int) (e t:TEnt) (w:Words):Prop where
  o:(maV c s L).o=e.o
  o':(maV c s' L).o=t.o
  sh:∀ x,(maV c s L).sh x=shHas e.s x
  sh':∀ x,(maV c s' L).sh x=shHas t.s x
  mem:(maV c s L).mem=w
  mem':(maV c s' L).mem=(maV c s L).mem
theorem turn_w {d:Int} {m:Msg} {x':HomS} (hl:MaL c n s) (hd:0≤d∧d<c.homes) (hlk:okLine c m.line=true) (hlh:lineH c m.line=d) (hk:m.kind≠3)
    (hent:hmEnt x' m.line=nextT (hmEnt (maH s d) m.line) m) (hms:x'.ms=if nextW (hmEnt (maH s d) m.line) m then wrL c (maH s d).ms m.line m.words else (maH s d).ms):TurnW c s (maHs s d x') m.line (hmEnt (maH s d) m.line) (nextT (hmEnt (maH s d) m.line) m) (lineWo c (maH s d).ms m.line):=by
  have e0:maHo c s m.line=maH s d:=by unfold maHo;rw [hlh]
  have e1:maHo c (maHs s d x') m.line=x':=by rw [ho_as hl hd hlk,if_pos hlh]
  have hW:nextW (hmEnt (maH s d) m.line) m=false:=by unfold nextW;rw [decide_eq_false hk,Bool.and_false,Bool.false_and]
  refine ⟨?_,?_,fun x=>?_,fun x=>?_,?_,?_⟩
  · show (hmEnt (maHo c s m.line) m.line).o=_;rw [e0]
  · show (hmEnt (maHo c (maHs s d x') m.line) m.line).o=_;rw [e1,hent]
  · show shHas (hmEnt (maHo c s m.line) m.line).s x=_;rw [e0]
  · show shHas (hmEnt (maHo c (maHs s d x') m.line) m.line).s x=_;rw [e1,hent]
  · show lineWo c (maHo c s m.line).ms m.line=_;rw [e0]
  · show lineWo c (maHo c (maHs s d x') m.line).ms m.line=lineWo c (maHo c s m.line).ms m.line
    rw [e0,e1,hms,hW];rfl
theorem turn_read {d:Int} {m:Msg} {x':HomS} {S:List Msg} (hk:m.kind=1) (hE:nextE (hmEnt (maH s d) m.line) m=0)
    (hS:S=nextS (hmEnt (maH s d) m.line) m (lineWo c (maH s d).ms m.line)) (hw:TurnW c s (maHs s d x') m.line (hmEnt (maH s d) m.line) (nextT (hmEnt (maH s d) m.line) m) (lineWo c (maH s d).ms m.line))
    (hv:TurnV c s (maHs s d x') m.line m S) (hLI:LI (maV c s m.line)):LI (maV c (maHs s d x') m.line):=by
  have hA:amM m= .get 1 m.src:=by unfold amM;rw [if_pos (.inl hk),hk]
  obtain ⟨h1,h2,h3,h4⟩:=hv
  rw [hA] at h1
  rw [if_neg (by omega),hk] at h4
  obtain ⟨w1,w2,w3,w4,w5,w6⟩:=hw
  generalize lineWo c (maH s d).ms m.line=w at *
  generalize hmEnt (maH s d) m.line=e at *
  obtain ⟨hok,hno⟩:okT e m=true∧e.o≠m.src:=by
    obtain ⟨a,b⟩:=nextE_ok hE
    refine ⟨a,?_⟩
    rcases b with b|b|b
    · exact b.2
    · omega
    · omega
  obtain ⟨hmay,ho1,ho2,hs0,hs1⟩:=okT_facts hok
  have hT:nextT e m=readT e m:=by unfold nextT;rw [if_pos hE,if_pos hk]
  have hSS:S=readS e m w:=by rw [hS];unfold nextS;rw [if_pos hE,if_pos hk]
  rw [hT] at w2 w4
  rw [hSS] at h2
  unfold readS at h2
  unfold readT at w2 w4
  rw [if_neg hno] at h2 w2
  have w4:∀ x,(maV c (maHs s d x') m.line).sh x=shHas (if e.o≠ -1 then (⟨e.o,shAddS e.s m.src⟩:TEnt) else if (tgtT e []).length=0 then ⟨m.src,clearS e.s⟩ else ⟨e.o,shAddS e.s m.src⟩).s x:=fun x=>by rw [w4,if_neg hno]
  obtain ⟨a1,a2⟩:=add_has2 (y:=m.src) hmay hs0 hs1
  by_cases hO:e.o≠ -1
  · rw [if_pos hO] at h2 w2
    have w4:∀ x,(maV c (maHs s d x') m.line).sh x=shHas (shAddS e.s m.src) x:=fun x=>by rw [w4,if_pos hO]
    refine li_read1 (r:=m.src) (z:= .zero) hLI hs0 h3 (by rw [w1];exact hO) (fun _=>rfl) (fun _ _=>rfl) (fun _=>rfl) (fun _=>rfl) h1 (List.Perm.refl _) (by rw [w1];exact h2) h4 (by rw [w1,w2]) ⟨fun x hx=>?_,?_⟩ w6 rfl
    · rw [w4];rw [w3] at hx;exact a2 x hx
    · rw [w4];exact a1
  · rw [if_neg hO] at h2 w2
    have w4:∀ x,(maV c (maHs s d x') m.line).sh x=shHas (if (tgtT e []).length=0 then (⟨m.src,clearS e.s⟩:TEnt) else ⟨e.o,shAddS e.s m.src⟩).s x:=fun x=>by rw [w4,if_neg hO]
    have hO':e.o= -1:=Decidable.byContradiction hO
    by_cases h0:(tgtT e []).length=0
    · rw [if_pos h0] at h2 w2
      have w4:∀ x,(maV c (maHs s d x') m.line).sh x=shHas (clearS e.s) x:=fun x=>by rw [w4,if_pos h0]
      exact li_read2 (r:=m.src) (z:= .zero) hLI hs0 h3 (by rw [w1];exact hO') (fun x=>by rw [w3];exact tgt_none hmay h0 x) (fun _=>rfl) (fun _ _=>rfl) (fun _=>rfl) (fun _=>rfl) h1 (List.Perm.refl _) (by rw [w5];exact h2) h4 (by rw [w2]) (fun x=>by rw [w4];exact clear_has _ _) w6 rfl
    · rw [if_neg h0] at h2 w2
      have w4:∀ x,(maV c (maHs s d x') m.line).sh x=shHas (shAddS e.s m.src) x:=fun x=>by rw [w4,if_neg h0]
      refine li_read3 (r:=m.src) (z:= .zero) hLI hs0 h3 (by rw [w1];exact hO') (fun _=>rfl) (fun _ _=>rfl) (fun _=>rfl) (fun _=>rfl) h1 (List.Perm.refl _) (by rw [w5];exact h2) h4 (by rw [w1,w2]) ⟨fun x hx=>?_,?_⟩ w6 rfl
      · rw [w4];rw [w3] at hx;exact a2 x hx
      · rw [w4];exact a1
theorem turn_write {d:Int} {m:Msg} {x':HomS} {S:List Msg} (hk:m.kind=2) (hE:nextE (hmEnt (maH s d) m.line) m=0)
    (hS:S=nextS (hmEnt (maH s d) m.line) m (lineWo c (maH s d).ms m.line)) (hw:TurnW c s (maHs s d x') m.line (hmEnt (maH s d) m.line) (nextT (hmEnt (maH s d) m.line) m) (lineWo c (maH s d).ms m.line))
    (hv:TurnV c s (maHs s d x') m.line m S) (hLI:LI (maV c s m.line)):LI (maV c (maHs s d x') m.line):=by
  have hA:amM m= .get 2 m.src:=by unfold amM;rw [if_pos (.inr hk),hk]
  obtain ⟨h1,h2,h3,h4⟩:=hv
  rw [hA] at h1
  rw [if_neg (by omega),hk] at h4
  obtain ⟨w1,w2,w3,w4,w5,w6⟩:=hw
  generalize lineWo c (maH s d).ms m.line=w at *
  generalize hmEnt (maH s d) m.line=e at *
  obtain ⟨hok,_⟩:=nextE_ok hE
  obtain ⟨hmay,ho1,ho2,hs0,hs1⟩:=okT_facts hok
  have hT:nextT e m=⟨m.src,clearS e.s⟩:=by unfold nextT;rw [if_pos hE,if_neg (by omega),if_pos hk]
  have hSS:S=writeS e m w:=by rw [hS];unfold nextS;rw [if_pos hE,if_neg (by omega),if_pos hk]
  rw [hT] at w2
  have w4:∀ x,(maV c (maHs s d x') m.line).sh x=false:=fun x=>by rw [w4,hT];exact clear_has _ _
  rw [hSS] at h2
  unfold writeS at h2
  have hmap:((othersT e m).map (invT m)).map amM=(othersT e m).map fun x=>AM.inv x m.src:=by rw [List.map_map];rfl
  rw [List.map_cons,hmap,List.cons_append] at h2
  have hoth:∀ x,x∈othersT e m↔(maV c s m.line).sh x=true∧x≠m.src∧x≠(maV c s m.line).o:=fun x=>by
    rw [w1,w3]
    unfold othersT tgtT
    rw [tgt_mem' hmay]
    simp
  unfold firstT at h2
  by_cases hO:e.o= -1
  · rw [if_pos hO] at h2
    exact li_write1 (r:=m.src) hLI hs0 h3 (by rw [w1];exact hO) (fun _=>rfl) (fun _ _=>rfl) (fun _=>rfl) (fun _=>rfl) h1 (List.Perm.refl _) hoth (by rw [w5];exact h2) h4 w2 w4 w6 rfl
  · rw [if_neg hO] at h2
    by_cases hR:e.o=m.src
    · rw [if_pos hR] at h2
      exact li_write2 (r:=m.src) hLI hs0 h3 (by rw [w1];exact hR) (fun _=>rfl) (fun _ _=>rfl) (fun _=>rfl) (fun _=>rfl) h1 (List.Perm.refl _) hoth h2 h4 (by rw [w1,w2];exact hR.symm) w4 w6 rfl
    · rw [if_neg hR] at h2
      exact li_write3 (r:=m.src) hLI hs0 h3 (by rw [w1];exact hO) (by rw [w1];exact hR) (fun _=>rfl) (fun _ _=>rfl) (fun _=>rfl) (fun _=>rfl) h1 (List.Perm.refl _) hoth (by rw [w1];exact h2) h4 w2 w4 w6 rfl
end
end Go.Sx

/- What homes do keeps each line's protocol: turns; what is so of homes behind them, and of new ones. My own work. -/
namespace Go.Sx
open Go Go.Proofs
theorem may_tab {c:Cfg} {m:Msg} (hm:MayP c m) (hh:HomeP m.kind) {k to who acks own:Int} {w:Words} (ht:0≤to∧to<c.cores)
    (h:((k=4∨k=6)∧(0≤who∧who<c.cores)∧who≠to∧acks=0∧own=0∧w= .zero)∨(k=5∧(0≤who∧who<c.cores)∧who≠to∧(0≤acks∧acks<c.cores)∧own=0∧w= .zero)∨(k=7∧who=0∧(own=1∨own=2∨own=4)∧(0≤acks∧acks<c.cores)∧ValsP c w)
     ∨(k=8∧who=0∧own=0∧(0≤acks∧acks<c.cores)∧w= .zero)∨(k=10∧who=0∧own=0∧acks=0∧w= .zero)):MayP c (msgT m k to who acks own w):=by
  have hk:4≤k∧k≤10∧k≠9:=by omega
  have hn:¬HomeP (msgT m k to who acks own w).kind:=by show ¬HomeP k;unfold HomeP;omega
  have hN:(msgT m k to who acks own w).src=homeN c (msgT m k to who acks own w):=by
    have g4:=hm.2.2.2.1
    unfold FormP at g4
    rw [if_pos hh] at g4
    exact g4.2.1
  refine ⟨hm.1,by show 1≤k∧k≤11;omega,hm.2.2.1,?_,?_⟩
  · unfold FormP
    rw [if_neg hn]
    by_cases k46:k=4∨k=6
    · rw [if_pos (show (msgT m k to who acks own w).kind=4∨(msgT m k to who acks own w).kind=6 from k46)]
      have g:(0≤who∧who<c.cores)∧who≠to∧acks=0∧own=0:=by omega
      exact ⟨g.1,g.2.1,hN,ht,rfl,g.2.2.2,by show (0:Int)≤acks;omega,by show acks<if false=true then c.cores else 1;rw [if_neg (by decide)];omega⟩
    · rw [if_neg (show ¬((msgT m k to who acks own w).kind=4∨(msgT m k to who acks own w).kind=6) from k46)]
      by_cases k5:k=5
      · rw [if_pos (show (msgT m k to who acks own w).kind=5 from k5)]
        have g:(0≤who∧who<c.cores)∧who≠to∧(0≤acks∧acks<c.cores)∧own=0:=by omega
        exact ⟨g.1,g.2.1,hN,ht,rfl,g.2.2.2,g.2.2.1.1,by show acks<if true=true then c.cores else 1;rw [if_pos rfl];omega⟩
      · rw [if_neg (show ¬(msgT m k to who acks own w).kind=5 from k5)]
        by_cases k7:k=7
        · rw [if_pos (show (msgT m k to who acks own w).kind=7 from k7)]
          have g:who=0∧(own=1∨own=2∨own=4)∧(0≤acks∧acks<c.cores):=by omega
          exact ⟨g.2.1,g.2.2,ht,.inl ⟨g.1,hN⟩⟩
        · rw [if_neg (show ¬(msgT m k to who acks own w).kind=7 from k7)]
          by_cases k8:k=8
          · rw [if_pos (show (msgT m k to who acks own w).kind=8 from k8)]
            have g:who=0∧own=0∧(0≤acks∧acks<c.cores):=by omega
            exact ⟨hN,ht,g.1,g.2.1,g.2.2.1,by show acks<if true=true then c.cores else 1;rw [if_pos rfl];omega⟩
          · rw [if_neg (show ¬(msgT m k to who acks own w).kind=8 from k8),if_pos (show (msgT m k to who acks own w).kind=10 by show k=10;omega)]
            have g:who=0∧own=0∧acks=0:=by omega
            exact ⟨hN,ht,g.1,g.2.1,by show (0:Int)≤acks;omega,by show acks<if false=true then c.cores else 1;rw [if_neg (by decide)];omega⟩
  · unfold WordsP
    rcases h with ⟨a,b⟩|⟨a,b⟩|⟨a,b⟩|⟨a,b⟩|⟨a,b⟩
    · rw [if_neg (by show ¬Wordy k;unfold Wordy;omega)];exact b.2.2.2.2
    · rw [if_neg (by show ¬Wordy k;unfold Wordy;omega)];exact b.2.2.2.2
    · rw [if_pos (by show Wordy k;unfold Wordy;omega)];exact b.2.2.2
    · rw [if_neg (by show ¬Wordy k;unfold Wordy;omega)];exact b.2.2.2
    · rw [if_neg (by show ¬Wordy k;unfold Wordy;omega)];exact b.2.2.2
theorem oth_lt {e:TEnt} {m:Msg} (hm:shMay e.s=true) (h0:0≤m.src) (h1:m.src<e.s.cores):((othersT e m).length:Int)<e.s.cores:=by
  unfold othersT tgtT shTgt
  have hl:(upto e.s.cores.toNat).length=e.s.cores.toNat:=by unfold upto;simp
  have:((upto e.s.cores.toNat).filter fun c=>shHas e.s c&& !decide (c∈[m.src,e.o])).length<(upto e.s.cores.toNat).length:=by
    rw [List.length_filter_lt_length_iff_exists]
    refine ⟨m.src,?_,by simp⟩
    unfold upto
    exact List.mem_map.2 ⟨m.src.toNat,List.mem_range.2 (by omega),by omega⟩
  omega
section
variable {c:Cfg} {n:Nat} {s:MaS} {d:Int} {x:HomS} {m:Msg}
theorem may_next (hI:HmI c d x) (hF:HmF c x) (hm:mineB c d m 0=true) (hE:nextE (hmEnt x m.line) m=0):∀ y∈nextS (hmEnt x m.line) m (lineWo c x.ms m.line),MayP c y:=by
  obtain ⟨f1,f2,f3,f4,f5⟩:=mine_facts hI.ok hm
  obtain ⟨_,g2,g3,_⟩:=hmEnt_own hI f3
  have hh:HomeP m.kind:= .inl f2
  have hv:=hF.mv m.line
  generalize lineWo c x.ms m.line=w at *
  generalize hmEnt x m.line=e at *
  obtain ⟨hok,hk⟩:=nextE_ok hE
  obtain ⟨h1,h2,h3,h4,h5⟩:=okT_facts hok
  have hol:=oth_lt h1 h4 h5
  have hcb:=(cfg_bnd hI.ok).1
  intro y hy
  unfold nextS at hy
  rw [if_pos hE] at hy
  rcases hk with ⟨k,ho⟩|k|k
  · rw [if_pos k] at hy
    unfold readS at hy
    rw [if_neg ho] at hy
    split at hy
    · obtain rfl:=List.mem_singleton.1 hy
      exact may_tab f1 hh (by omega) (.inl ⟨.inl rfl,f4,fun g=>ho g.symm,rfl,rfl,rfl⟩)
    · split at hy
      · obtain rfl:=List.mem_singleton.1 hy
        exact may_tab f1 hh f4 (.inr (.inr (.inl ⟨rfl,rfl,by omega,by omega,hv⟩)))
      · obtain rfl:=List.mem_singleton.1 hy
        exact may_tab f1 hh f4 (.inr (.inr (.inl ⟨rfl,rfl,by omega,by omega,hv⟩)))
  · rw [if_neg (by omega),if_pos k] at hy
    rcases List.mem_cons.1 hy with rfl|hy
    · unfold firstT
      split
      · exact may_tab f1 hh f4 (.inr (.inr (.inl ⟨rfl,rfl,by omega,by omega,hv⟩)))
      · split
        · exact may_tab f1 hh f4 (.inr (.inr (.inr (.inl ⟨rfl,rfl,rfl,by omega,rfl⟩))))
        · rename_i g1 g2
          exact may_tab f1 hh (by omega) (.inr (.inl ⟨rfl,f4,fun g=>g2 g.symm,by omega,rfl,rfl⟩))
    · obtain ⟨o,ho,rfl⟩:=List.mem_map.1 hy
      unfold othersT tgtT at ho
      rw [tgt_mem' h1] at ho
      obtain ⟨ho1,ho2⟩:=ho
      have hr:=has_rng' h1 ho1
      have hne:o≠m.src:=fun g=>ho2 (by simp [g])
      exact may_tab f1 hh (by omega) (.inl ⟨.inr rfl,f4,fun g=>hne g.symm,rfl,rfl,rfl⟩)
  · rw [if_neg (by omega),if_neg (by omega)] at hy
    obtain rfl:=List.mem_singleton.1 hy
    exact may_tab f1 hh f4 (.inr (.inr (.inr (.inr ⟨rfl,rfl,rfl,rfl,rfl⟩))))
theorem next_ten {e:TEnt} {w:Words} (hE:nextE e m=0) (hk3:m.kind≠3):∀ y∈nextS e m w,y.kind≠10:=by
  obtain ⟨hok,hk⟩:=nextE_ok hE
  intro y hy
  unfold nextS at hy
  rw [if_pos hE] at hy
  rcases hk with ⟨k,ho⟩|k|k
  · rw [if_pos k] at hy
    unfold readS at hy
    rw [if_neg ho] at hy
    split at hy
    · obtain rfl:=List.mem_singleton.1 hy;show (4:Int)≠10;decide
    · split at hy<;>(obtain rfl:=List.mem_singleton.1 hy;show (7:Int)≠10;decide)
  · rw [if_neg (by omega),if_pos k] at hy
    rcases List.mem_cons.1 hy with rfl|hy
    · unfold firstT
      split
      · show (7:Int)≠10;decide
      · split
        · show (8:Int)≠10;decide
        · show (5:Int)≠10;decide
    · obtain ⟨o,ho,rfl⟩:=List.mem_map.1 hy
      show (6:Int)≠10;decide
  · exact absurd k hk3
theorem line_zero (c:Cfg) (k:Nat) (line:Int):lineWo c (List.replicate k 0) line= .zero:=by
  unfold lineWo
  split
  · unfold lineL
    rw [List.drop_replicate,List.take_replicate]
    have:∀ j i:Nat,(List.replicate j (0:Int)).getD i 0=0:=fun j i=>by
      rw [List.getD_eq_getElem?_getD,List.getElem?_replicate];split<;>rfl
    unfold Words.of
    simp only [this]
  · rfl
theorem hmf_new (c:Cfg) (num:Int) (hc:checkB c=true):HmF c (hmNew c num):=by
  refine ⟨qinv_nil,?_,rfl,fun e he=>absurd he (List.not_mem_nil),fun e he=>absurd he (List.not_mem_nil),fun e he=>absurd he (List.not_mem_nil),fun line=>?_⟩
  · have:=trMs_len' hc ([]:List Com)
    exact this
  · show ValsP c (lineWo c (List.replicate _ 0) line)
    rw [line_zero];exact vals_zero c
theorem wrL_len {ms:List Int} {L:Int} {w:Words} (hn:(ms.length:Int)=c.words*c.lines):((wrL c ms L w).length:Int)=c.words*c.lines:=by
  unfold wrL
  split
  · rename_i hw
    have hk:okJoin c L 0=true:=by simp only [wrOk,Bool.and_eq_true] at hw;exact hw.1
    obtain ⟨a1,a2,a3,_⟩:=line_rd hn hk
    rw [wr_len a1 a3];exact hn
  · exact hn
theorem vals_wr {ms:List Int} {L:Int} {w:Words} (hn:(ms.length:Int)=c.words*c.lines) (hv:∀ line,ValsP c (lineWo c ms line)) (hw:ValsP c w) (line:Int):ValsP c (lineWo c (wrL c ms L w) line):=by
  by_cases h:line=L
  · subst h
    by_cases h2:wrOk c line w=true
    · rw [line_wr_self hn h2];exact hw
    · unfold wrL;rw [if_neg h2];exact hv _
  · rw [line_wr_ne hn h];exact hv _
theorem hmf_turn {i:Nat} (hI:HmI c d x) (hF:HmF c x) (hi:i<x.q.length) (hr:qready x.q (i:Int)=true) (hE:nextE (hmEnt x x.q[i].m.line) x.q[i].m=0):HmF c (hmTurnS c x (i:Int)):=by
  have hin:qin x.q (i:Int)=true:=by unfold qin;exact decide_eq_true (by omega)
  have hX:hmX x (i:Int)=x.q[i].m:=by
    unfold hmX qat
    rw [if_pos hin,Int.toNat_natCast,List.getD_eq_getElem?_getD,List.getElem?_eq_getElem hi];rfl
  have hm:=hI.req _ (List.getElem_mem hi)
  obtain ⟨f1,f2,f3,f4,f5⟩:=mine_facts hI.ok hm
  have hS0:=(sent_facts (w:=lineWo c x.ms x.q[i].m.line) hE).1
  have hS:nextS (hmEnt x x.q[i].m.line) x.q[i].m (lineWo c x.ms x.q[i].m.line)≠[]:=fun g=>by rw [g] at hS0;exact absurd hS0 (Nat.lt_irrefl _)
  have hmay:=may_next hI hF hm hE
  have eq:(hmTurnS c x (i:Int)).q=x.q.set i { x.q[i] with st:=true,sends:=nextS (hmEnt x x.q[i].m.line) x.q[i].m (lineWo c x.ms x.q[i].m.line)}:=by
    rw [←(start_q hF.q hi hr hS).1]
    show qstartL _ _ (nextS (hmEnt x (hmX x (i:Int)).line) (hmX x (i:Int)) _)=_
    rw [hX]
  have ems:(hmTurnS c x (i:Int)).ms=if nextW (hmEnt x x.q[i].m.line) x.q[i].m then wrL c x.ms x.q[i].m.line x.q[i].m.words else x.ms:=by
    show (if nextW (hmEnt x (hmX x (i:Int)).line) (hmX x (i:Int))=true then _ else _)=_
    rw [hX]
  refine ⟨?_,?_,hF.od,?_,?_,?_,?_⟩
  · have:=qinv_do (room:=0) (x:=⟨1,(i:Int),.zero,nextS (hmEnt x (hmX x (i:Int)).line) (hmX x (i:Int)) (lineWo c x.ms (hmX x (i:Int)).line),none,0⟩) hF.q
    exact this
  · rw [ems]
    split
    · exact wrL_len hF.ml
    · exact hF.ml
  · rw [eq]
    intro e he
    rcases List.mem_or_eq_of_mem_set he with g|rfl
    · exact hF.sm e g
    · exact hmay
  · rw [eq]
    intro e he
    rcases List.mem_or_eq_of_mem_set he with g|rfl
    · exact hF.sk e g
    · exact fun hk=>next_ten hE hk
  · rw [eq]
    intro e he
    rcases List.mem_or_eq_of_mem_set he with g|rfl
    · exact hF.sp e g
    · exact fun _ _=>hS
  · rw [ems]
    split
    · rename_i hW
      have hk3:x.q[i].m.kind=3:=by unfold nextW at hW;simp at hW;exact hW.1.2
      have hw:=f1.2.2.2.2
      unfold WordsP at hw
      rw [if_pos (show Wordy x.q[i].m.kind from .inl hk3)] at hw
      exact fun line=>vals_wr hF.ml hF.mv hw line
    · exact hF.mv
theorem turn_ok {i:Nat} (h:LT c s) (hl:MaL c n s) (hf:HmFs c s) (hd:0≤d∧d<c.homes) (hi:i<(maH s d).q.length) (hr:qready (maH s d).q (i:Int)=true) :
    nextE (hmEnt (maH s d) (maH s d).q[i].m.line) (maH s d).q[i].m=0∧okLine c (maH s d).q[i].m.line=true∧lineH c (maH s d).q[i].m.line=d:=by
  have hI:=(hl.hmi hd.1 hd.2).1
  have hF:=hmf_at hf hl hd
  have hm:=hI.req _ (List.getElem_mem hi)
  obtain ⟨f1,f2,f3,f4,f5⟩:=mine_facts hI.ok hm
  have hlk:okLine c (maH s d).q[i].m.line=true:=by unfold okLine;rw [hl.ok,decide_eq_true ⟨f3.1,f3.2.1⟩];rfl
  have hlh:lineH c (maH s d).q[i].m.line=d:=by unfold lineH;rw [if_pos hlk];exact f3.2.2
  refine ⟨?_,hlk,hlh⟩
  rcases nextE_cases hI hm with ⟨_,k1,ko⟩|g
  · exfalso
    obtain ⟨_,_,⟨c1,c2,c3,c4,c5⟩,_⟩:=start_q (S:=[Msg.zero]) hF.q hi hr (by simp)
    have e0:maHo c s (maH s d).q[i].m.line=maH s d:=by unfold maHo;rw [hlh]
    have hLI:=(h.1 _ hlk).1
    have ha:(maV c s (maH s d).q[i].m.line).act=none:=by
      show actQ (maH s d).q[i].m.line (maHo c s (maH s d).q[i].m.line).q=none
      rw [e0];exact c4
    have ho:(maV c s (maH s d).q[i].m.line).o=(maH s d).q[i].m.src:=by
      show (hmEnt (maHo c s (maH s d).q[i].m.line) (maH s d).q[i].m.line).o=_
      rw [e0];exact ko
    have hrq:AM.get 1 (maH s d).q[i].m.src∈(maV c s (maH s d).q[i].m.line).rq:=by
      show _∈(ofL (maH s d).q[i].m.line s.n.l0++oC (maH s d).q[i].m.line (maHo c s (maH s d).q[i].m.line).q).map amM
      rw [e0,c1]
      refine List.mem_map.2 ⟨(maH s d).q[i].m,List.mem_append_right _ (List.mem_cons_self ..),?_⟩
      unfold amM;rw [if_pos (.inl k1),k1]
    generalize maV c s (maH s d).q[i].m.line=v at *
    obtain ⟨a,ga,gk⟩:=hLI.gk _ _ hrq
    have hnb:=rest_busy ha (maH s d).q[i].m.src
    have hg1:=hLI.g1 _ a ga hnb
    have hst:=(hLI.ml _ a ga hg1.2.2.2.2).1 gk
    have hho:=rest_own hLI ha (by omega)
    rw [ho] at hho
    rcases hho with g|⟨w,g1,g2⟩
    · omega
    · have:=(hLI.b1 _ _ _ g1).2.2
      rw [ga] at this;cases this
  · exact g
theorem lt_turn {j:Int} (h:LT c s) (hl:MaL c n s) (hf:HmFs c s) (hd:0≤d∧d<c.homes) (hr:qready (maH s d).q j=true):LT c (maWorkS c s d j)∧HmF c (hmWorkS c (maH s d) j (maL c s)):=by
  obtain ⟨i,hi,rfl,ea,hst,hfr⟩:=qready_t hr
  obtain ⟨hE,hlk,hlh⟩:=turn_ok h hl hf hd hi hr
  have hI:=(hl.hmi hd.1 hd.2).1
  have hF:=hmf_at hf hl hd
  have hm:=hI.req _ (List.getElem_mem hi)
  obtain ⟨f1,f2,f3,f4,f5⟩:=mine_facts hI.ok hm
  have hin:qin (maH s d).q (i:Int)=true:=by unfold qin;exact decide_eq_true (by omega)
  have hX:hmX (maH s d) (i:Int)=(maH s d).q[i].m:=by unfold hmX;rw [ea]
  have eK:hmWorkS c (maH s d) (i:Int) (maL c s)=hmTurnS c (maH s d) (i:Int):=by
    unfold hmWorkS hmStartS
    rw [if_pos hr,hX,if_pos hE]
  have eW:maWorkS c s d (i:Int)=maHs s d (hmTurnS c (maH s d) (i:Int)):=by
    unfold maWorkS hmWorkB
    rw [if_pos hr,eK];rfl
  refine ⟨?_,by rw [eK];exact hmf_turn hI hF hi hr hE⟩
  rw [eW]
  obtain ⟨q1,q2,q3⟩:=turn_at (c:=c) hi rfl
  have hS0:=(sent_facts (w:=lineWo c (maH s d).ms (maH s d).q[i].m.line) hE).1
  have hS:nextS (hmEnt (maH s d) (maH s d).q[i].m.line) (maH s d).q[i].m (lineWo c (maH s d).ms (maH s d).q[i].m.line)≠[]:=fun g=>by rw [g] at hS0;exact absurd hS0 (Nat.lt_irrefl _)
  obtain ⟨_,_,_,hq⟩:=start_q hF.q hi hr hS
  refine ⟨lis_turn (L:=(maH s d).q[i].m.line) h.1 hl hd (fun line hne=>⟨?_,?_,?_,?_,?_⟩) (fun _ hLI=>?_),h.2⟩
  · rw [q2,if_neg hne]
  · rw [q3]
    split
    · exact line_wr_ne hF.ml hne
    · rfl
  · rw [q1];exact (hq line hne).1
  · rw [q1];exact (hq line hne).2.1
  · rw [q1];exact (hq line hne).2.2
  · have hv:=turn_v hl hd hF hi rfl hr hS q1 hlk hlh
    have hent:=q2 (maH s d).q[i].m.line
    rw [if_pos rfl] at hent
    have:(maH s d).q[i].m.kind=1∨(maH s d).q[i].m.kind=2∨(maH s d).q[i].m.kind=3:=by omega
    rcases this with k|k|k
    · exact turn_read k hE rfl (turn_w hl hd hlk hlh (by omega) hent q3) hv hLI
    · exact turn_write k hE rfl (turn_w hl hd hlk hlh (by omega) hent q3) hv hLI
    · exact turn_put hl hd hF hlk hlh k hE f1 rfl rfl hent q3 hv hLI
end
end Go.Sx

/- What is so of a machine, whatever is picked: all of it. Its traces are fine; nothing is odd. My own work. -/
namespace Go.Sx
open Go Go.Proofs
structure MaI (c:Cfg) (ps:List (List Op3)) (n:Nat) (s:MaS):Prop where
  l:MaL c n s
  f:HmFs c s
  t:LT c s
  o:s.odd=0
  p:MaT c ps (maPj s)
section
variable {c:Cfg} {ps:List (List Op3)} {n:Nat} {s:MaS}
theorem hfs_set {d:Int} {x:HomS} (hf:HmFs c s) (hx:HmF c x):HmFs c (maHs s d x):=by
  intro y hy
  rcases List.mem_or_eq_of_mem_set hy with g|rfl
  · exact hf y g
  · exact hx
theorem act_hs {i w:Int}:(maActS c s i w).hs=s.hs∧(maActS c s i w).odd=s.odd:=by
  unfold maActS
  split
  · exact ⟨rfl,rfl⟩
  · split
    · exact ⟨rfl,rfl⟩
    · split
      · split<;>exact ⟨rfl,rfl⟩
      · split
        · unfold maDoes;split<;>exact ⟨rfl,rfl⟩
        · split
          · exact ⟨rfl,rfl⟩
          · split
            · exact ⟨rfl,rfl⟩
            · split
              · unfold maEv;split<;>exact ⟨rfl,rfl⟩
              · exact ⟨rfl,rfl⟩
theorem look_hs {i d:Int}:(maLookS c s i d).hs=s.hs∧(maLookS c s i d).odd=s.odd:=by
  unfold maLookS
  split
  · exact ⟨rfl,rfl⟩
  · split<;>exact ⟨rfl,rfl⟩
theorem take_hs (m:Msg):(maTake c s m).hs=s.hs:=by unfold maTake;split<;>rfl
theorem then_hs (m:Msg):(maThen c s m).hs=s.hs:=by
  unfold maThen
  split
  · unfold maDoes;split<;>rfl
  · rfl
theorem nat_has {x:Nets} {k i:Int} (h:natB x k i=true):k=0∨k=1∨k=2:=by
  have hm:=nat_mem h
  unfold nget at hm
  by_cases h0:k=0
  · exact .inl h0
  · rw [if_neg h0] at hm
    by_cases h1:k=1
    · exact .inr (.inl h1)
    · rw [if_neg h1] at hm
      by_cases h2:k=2
      · exact .inr (.inr h2)
      · rw [if_neg h2] at hm;cases hm
theorem mi_del {k i:Int} (hl:MaL c n s) (hf:HmFs c s) (ht:LT c s):HmFs c (maDelS c s k i)∧LT c (maDelS c s k i)∧(maDelS c s k i).odd=s.odd:=by
  unfold maDelS
  split
  · exact ⟨hf,ht,rfl⟩
  · rename_i g
    have hb:natB s.n k i=true:=by cases e:natB s.n k i with|true=>rfl|false=>exact absurd (.inl e) g
    have hmem:=hl.nt k _ (nat_mem hb)
    rcases nat_has hb with rfl|rfl|rfl
    · rw [if_pos rfl]
      have hh:HomeP (natM s.n 0 i).kind:=by
        have:=hmem.2
        unfold netK at this
        unfold HomeP
        split at this
        · exact .inl (by assumption)
        · split at this
          · omega
          · split at this<;>omega
      split
      · rename_i he
        exact ⟨hfs_set (s:=s) hf (hmf_accS (hmf_at hf hl (may_home hmem.1 hh))),lt_acc ht hl hb rfl he,rfl⟩
      · exact ⟨hf,ht,rfl⟩
    · rw [if_neg (by decide),if_pos rfl]
      have h2:nleft c s.n 2≠0:=fun e=>g (.inr ⟨rfl,e⟩)
      obtain ⟨a,b⟩:=lt_del1 ht hl hb h2
      refine ⟨?_,a,b⟩
      unfold HmFs
      rw [take_hs];exact hf
    · rw [if_neg (by decide),if_neg (by decide)]
      split
      · rename_i h11
        obtain ⟨a,b⟩:=lt_done ht hl hf hb rfl h11
        refine ⟨?_,a,b⟩
        have hr:=may_home hmem.1 (.inr h11)
        exact hfs_set (s:=maNs s (ntakeN s.n 2 i)) hf (hmf_done (hmf_at hf hl hr))
      · rename_i h11
        obtain ⟨a,b⟩:=lt_del2 ht hl hb h11
        refine ⟨?_,a,b⟩
        unfold HmFs
        rw [then_hs,take_hs];exact hf
theorem work_hs {d j:Int}:(maWorkS c s d j).hs=(maHs s d (hmWorkS c (maH s d) j (maL c s))).hs∧(maWorkS c s d j).odd=s.odd:=by
  unfold maWorkS;split<;>exact ⟨rfl,rfl⟩
theorem mi_work {d j:Int} (hl:MaL c n s) (hf:HmFs c s) (ht:LT c s) (hd:0≤d∧d<c.homes):HmFs c (maWorkS c s d j)∧LT c (maWorkS c s d j)∧(maWorkS c s d j).odd=s.odd:=by
  have hF:=hmf_at hf hl hd
  cases hr:qready (maH s d).q j with
  |true=>
   obtain ⟨a,b⟩:=lt_turn ht hl hf hd hr
   refine ⟨?_,a,work_hs.2⟩
   unfold HmFs
   rw [work_hs.1]
   exact hfs_set hf b
  |false=>
   cases hg:hmGoes (maH s d) j (maL c s) with
   |true=>
    refine ⟨?_,lt_sent ht hl hf hd hr hg,work_hs.2⟩
    unfold HmFs
    rw [work_hs.1]
    refine hfs_set hf ?_
    unfold hmWorkS
    rw [hr,hg]
    exact hmf_sent hF j
   |false=>
    have:maWorkS c s d j=s:=work_idle (by unfold maWorkB hmDid;rw [hr,hg];rfl)
    rw [this];exact ⟨hf,ht,rfl⟩
theorem mi_pick (hl:MaL c n s) (hf:HmFs c s) (ht:LT c s) (p:Pk):HmFs c (maPick c s p)∧LT c (maPick c s p)∧(maPick c s p).odd=s.odd:=by
  have hlk:=hl.lk
  have hlh:=hl.lh
  unfold maPick
  split
  · exact ⟨hf,ht,rfl⟩
  · rename_i g
    split
    · exact mi_del hl hf ht
    · split
      · rename_i g2
        have:=g2.2
        simp only [inN,decide_eq_true_eq] at this
        exact mi_work hl hf ht (by omega)
      · split
        · rename_i g3
          have:=g3.2
          simp only [inN,decide_eq_true_eq] at this
          exact ⟨by unfold HmFs;rw [act_hs.1];exact hf,lt_act ht hl (by omega),act_hs.2⟩
        · split
          · rename_i g4
            have:=g4.2
            simp only [inN,decide_eq_true_eq] at this
            exact ⟨by unfold HmFs;rw [look_hs.1];exact hf,lt_look ht hl (by omega),look_hs.2⟩
          · exact ⟨hf,ht,rfl⟩
theorem MaI.pick (h:MaI c ps n s) (p:Pk):MaI c ps (n+1) (maPick c s p):=by
  obtain ⟨a,b,e⟩:=mi_pick h.l h.f h.t p
  exact ⟨h.l.pick p,a,b,e.trans h.o,h.p.step (ms_pick h.l p)⟩
theorem MaI.picks (h:MaI c ps n s) (l:List Pk):MaI c ps (n+l.length) (maPicks c s l):=by
  unfold maPicks
  induction l generalizing n s with
  |nil=>exact h
  |cons p l ih=>
   rw [List.foldl_cons,List.length_cons]
   have:=ih (h.pick p)
   rw [show n+(l.length+1)=n+1+l.length by omega]
   exact this
theorem MaI.new (h:maOk c ps=true):MaI c ps 0 (maNew c ps):=by
  have hc:checkB c=true:=by simp only [maOk,Bool.and_eq_true] at h;exact h.1.1
  refine ⟨MaL.new h,fun x hx=>?_,lt_new hc,rfl,MaT.new⟩
  obtain ⟨i,_,rfl⟩:=List.mem_map.1 hx
  exact hmf_new c _ hc
theorem MaI.len (h:MaI c ps n s):(ps.length:Int)=c.cores:=by
  have e:ps.length=s.ks.length:=by
    rw [←h.p.ln]
    show ((s.ks.map _).map _).length=_
    simp
  rw [e];exact h.l.lk
theorem MaI.fine (h:MaI c ps n s):chkN c ps s.tr=s.tr.length:=by
  refine chkN_all fun j hj=>?_
  have hx:s.tr[j]? =some s.tr[j]:=List.getElem?_eq_getElem hj
  obtain ⟨g1,g2,g3,g4⟩:=h.p.tr j _ (show (maPj s).2[j]? =some s.tr[j] from hx)
  obtain ⟨k1,k2⟩:=h.t.2 j _ hx
  unfold goodC
  rw [hx]
  have hlen:=h.len
  simp only [Bool.and_eq_true,decide_eq_true_eq]
  exact ⟨⟨⟨⟨⟨by omega,g2⟩,g3⟩,g4⟩,k1⟩,k2⟩
end
end Go.Sx
