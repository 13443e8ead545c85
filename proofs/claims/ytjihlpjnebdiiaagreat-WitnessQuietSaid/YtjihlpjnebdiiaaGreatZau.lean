/- Mw1: several of my texts as one. My own work. -/
import Derived.Test.YtjihlpjnebdiiaaGreatZr
import Derived.Test.YtjihlpjnebdiiaaGreatZar
import Derived.Test.YtjihlpjnebdiiaaGreatZat
set_option linter.unusedVariables false
set_option linter.unusedSectionVars false
set_option linter.unusedSimpArgs false
/- What a machine does: what a core does. My own work. -/
namespace Go.Sx
open Go Go.Proofs
theorem getD_nat {l:List Nat} {i:Nat} (h:i<l.length):l.getD i 0=l[i]:=by rw [List.getD_eq_getElem?_getD,List.getElem?_eq_getElem h];rfl
abbrev MaOi (b:Nat) (c:Cfg) (s:MaS) (x:MaX) (i:Nat) (hk:i<x.kb.length) (ha:i<x.ab.length) (L:List HP):List HP:=MC b c s.odd x.kb.length x.ab.length x.hb.length s.tr.length x.pk x.pa x.ph x.pt x.bn::OwK x.pk x.kb::OwA x.pa x.ab::OwH x.ph x.hb::NetP x.bn c s.n::OwT x.pt s.tr
  ::corK x.kb[i] (s.ks.getD i coZ)::CaP x.ab[i] c (i:Int) (s.cs.getD i caZ)::All (((List.range x.kb.length).eraseIdx i).map (corH x s))::All (((List.range x.ab.length).eraseIdx i).map (cacH c x s))::All ((List.range x.hb.length).map (homH c x s))::L
theorem maoi_out {b:Nat} {c:Cfg} {s:MaS} {x:MaX} {i:Nat} {L:List HP} (hk:i<x.kb.length) (ha:i<x.ab.length):Ent (MaO b c s x L) (MaOi b c s x i hk ha L):=by
  refine Ent.cons (Ent.cons (Ent.cons (Ent.cons (Ent.cons (Ent.cons ?_)))))
  refine Ent.trans (rng_take hk) ?_
  have e1:corH x s i=corK x.kb[i] (s.ks.getD i coZ):=by unfold corH;rw [getD_nat hk]
  rw [e1]
  refine Ent.cons ?_
  refine Ent.trans (Ent.cons (rng_take ha)) ?_
  have e2:cacH c x s i=CaP x.ab[i] c (i:Int) (s.cs.getD i caZ):=by unfold cacH;rw [getD_nat ha]
  rw [e2]
  exact ent_perm (List.Perm.swap _ _ _)
theorem maoi_in {b:Nat} {c:Cfg} {s s':MaS} {x:MaX} {i:Nat} {hk:i<x.kb.length} {ha:i<x.ab.length} {L M:List HP} {pt:Option Addr×Nat} {k:CoS} {a:CaS} {n:Nets} {tr:List Com} {odd:Int}
    (h:Ent L (MC b c odd x.kb.length x.ab.length x.hb.length tr.length x.pk x.pa x.ph pt x.bn::OwK x.pk x.kb::OwA x.pa x.ab::OwH x.ph x.hb::NetP x.bn c n::OwT pt tr
     ::corK x.kb[i] k::CaP x.ab[i] c (i:Int) a::All (((List.range x.kb.length).eraseIdx i).map (corH x s))::All (((List.range x.ab.length).eraseIdx i).map (cacH c x s))::All ((List.range x.hb.length).map (homH c x s))::M))
    (hf:MaF c s x) (e1:s'.ks=s.ks.set i k) (e2:s'.cs=s.cs.set i a) (e3:s'.hs=s.hs) (e4:s'.n=n) (e5:s'.tr=tr) (e6:s'.odd=odd):Ent L (MaQ b c s' { x with pt:=pt}::M):=by
  obtain ⟨ks,cs,hs,nn,tt,oo⟩:=s'
  dsimp only at e1 e2 e3 e4 e5 e6
  subst e1 e2 e3 e4 e5 e6
  obtain ⟨⟨f1,f2,f3⟩,f4,f5⟩:=hf
  refine maq_same (Ent.trans h ?_) ⟨⟨by dsimp only;rw [List.length_set];exact f1,by dsimp only;rw [List.length_set];exact f2,f3⟩,f4,f5⟩
  refine Ent.cons (Ent.cons (Ent.cons (Ent.cons (Ent.cons (Ent.cons ?_)))))
  have e1:corK x.kb[i] k=corH { x with pt:=pt} ⟨s.ks.set i k,s.cs.set i a,s.hs,nn,tt,oo⟩ i:=by unfold corH;dsimp only;rw [getD_nat hk,getD_set,if_pos ⟨rfl,by omega⟩]
  have e2:CaP x.ab[i] c (i:Int) a=cacH c { x with pt:=pt} ⟨s.ks.set i k,s.cs.set i a,s.hs,nn,tt,oo⟩ i:=by unfold cacH;dsimp only;rw [getD_nat ha,getD_set,if_pos ⟨rfl,by omega⟩]
  rw [e1,e2]
  refine Ent.trans (ent_perm (List.Perm.trans (List.Perm.cons _ (List.Perm.swap _ _ _)) (List.Perm.refl _))) ?_
  refine Ent.trans (rng_put (g:=corH { x with pt:=pt} ⟨s.ks.set i k,s.cs.set i a,s.hs,nn,tt,oo⟩) hk fun j hj hne=>?_) (Ent.cons ?_)
  · unfold corH;dsimp only;rw [getD_set,if_neg (fun h=>hne h.1)]
  · refine Ent.trans (rng_put (g:=cacH c { x with pt:=pt} ⟨s.ks.set i k,s.cs.set i a,s.hs,nn,tt,oo⟩) ha fun j hj hne=>?_) (Ent.cons ?_)
    · unfold cacH;dsimp only;rw [getD_set,if_neg (fun h=>hne h.1)]
    · exact Ent.refl
section
variable {b:Nat} {c:Cfg} {s:MaS} {x:MaX} {P:Program} {N:Nat} {env:Env} {L:List HP} {Q:Exit→Act→World→Prop}
theorem maoi_open {co:Code} {i:Nat} (hk:i<x.kb.length) (ha:i<x.ab.length) (h:MaF c s x→WC P N co env (MaOi b c s x i hk ha L) Q):WC P N co env (MaQ b c s x::L) Q:=
  maq_open fun hf a w hA hw=>h hf a w hA ((maoi_out hk ha).sat hw)
end
set_option maxRecDepth 100000
set_option maxHeartbeats 4000000
attribute [local irreducible] Go.Exit.then Go.Exit.inBlock Go.Code.wp WC WO WE WQ V LoopQ FnQ Sat Star band bor IntKind.wrap WR Code.rounds WT KO
theorem got_ok {c:Cfg} {n:Nat} {k:CaS} (h:CaX3 c n k) (hn:n≤1000000000000):∀ m∈k.mis,-9223372036854775808≤m.got∧m.got≤9223372036854775806:=fun m hm=>by
  have:=(h.1.2.2 m hm).2.1
  unfold MisOk at this
  have:=(h.1.2.2 m hm).2.2;omega
theorem op_wf {x:Op3} (o1:mayB x=true):x.wf:=by
  unfold mayB at o1
  unfold Op3.wf I64
  split at o1
  · simp at o1;omega
  · split at o1
    · simp at o1;omega
    · split at o1
      · simp at o1;omega
      · cases o1
theorem head_wf {c:Cfg} {n:Nat} {s:MaS} (hl:MaL c n s) {i:Int} (h:coHas (maK s i)=true):(coOp (maK s i)).wf:=op_wf (op_ok hl h).1
theorem dr_Mw1_52m {Q P:Prop} (k:Q) (h:Hid Q→P:=by
  intro k
  first
  |(refine is_draw ?_;apply WC_mix (id:=15) (.only [5,6,11]) _ (pl:= .p 0 <| .p 1 <| .r 2 <| .r 4 <| .e true [(3,.e true [(5,.n [6,11] <| .e true [(6,.n [11] <| .p 7 <| .p 8 <| .p 9 <| .e true [(10,.e true [(11,.n [] <| .p 12 <| .done)])]),(10,.e true [(6,.n [11] <| .p 7 <| .p 8 <| .p 9 <| .e true [(11,.n [] <| .p 12 <| .done)])])]),(10,.e true [(5,.n [6,11] <| .e true [(6,.n [11] <| .p 7 <| .p 8 <| .p 9 <| .e true [(11,.n [] <| .p 12 <| .done)])])])]),(10,.e true [(3,.e true [(5,.n [6,11] <| .e true [(6,.n [11] <| .p 7 <| .p 8 <| .p 9 <| .e true [(11,.n [] <| .p 12 <| .done)])])])])]);exact mixed;kernel_rfl;kernel_rfl;exact Ent.refl;exact k.out)
  |(refine is_draw ?_;apply WC_mix (id:=20) (.only []) _ (pl:= .p 0 <| .p 1 <| .p 2 <| .p 4 <| .r 3 <| .r 5 <| .e true [(6,.e true [(7,.p 8 <| .p 9 <| .p 10 <| .p 11 <| .p 12 <| .p 13 <| .p 14 <| .p 15 <| .p 16 <| .done)])]);exact mixed;kernel_rfl;kernel_rfl;exact Ent.refl;exact k.out)):P:=h ⟨k⟩
theorem ma_act {F:List HP} {b:Nat} {c:Cfg} {s:MaS} {x:MaX} {i n:Nat} {w:Int} (hw:c.wf) (hl:MaL c n s) (hn:n≤1000000000000) (ht:s.tr.length≤1000000000000) (hi:(i:Int)<c.cores) (hiw:I64 w) (hx:MaF c s x) :
    FnF Tryz.prog 52 [.pointer (some ⟨b,0,none⟩),.int .i64 i,.int .i64 w] [MaQ b c s x] F (fun r L'=>∃ pt:Option Addr×Nat,r= .bool (maActB c s i w)∧L'=[MaQ b c (maActS c s i w) { x with pt:=pt}]):=by
  obtain ⟨⟨f1,f2,f3⟩,⟨f4,f5,f6⟩,f7⟩:=id hx
  have hk:i<x.kb.length:=by omega
  have ha:i<x.ab.length:=by omega
  have hX:=hl.cai (i:Int)
  have eA:maA s (i:Int)=s.cs.getD i caZ:=rfl
  have eK:maK s (i:Int)=s.ks.getD i coZ:=rfl
  have hgk:=pv_get hk
  have hga:=pv_get ha
  have hF:=fun F=>ca_Finish (F:=F) (b:=x.ab[i]) (c:=c) (core:=(i:Int)) (k:=s.cs.getD i caZ) (fun m hm=>(hX.1.2.2 m hm).1)
  have hH:=fun F=>core_Head (F:=F) (b:=x.kb[i]) (l:=(s.ks.getD i coZ).l) (rs:=(s.ks.getD i coZ).rs) (tr:=(s.ks.getD i coZ).tr)
  have hL:=fun F n k=>net_Left (F:=F) (b:=x.bn) (c:=c) (n:=n) (k:=k)
  have hSn:=fun F odd n m=>ma_send (F:=F) (b:=b) (c:=c) (odd:=odd) (nk:=x.kb.length) (na:=x.ab.length) (nh:=x.hb.length) (nt:=s.tr.length) (pk:=x.pk) (pa:=x.pa) (ph:=x.ph) (pt:=x.pt) (bn:=x.bn) (n:=n) (m:=m) hw
  refine FnF.mk' Tryz.func52 rfl rfl Tryz.ntmps52 rfl ?_
  refine maoi_open hk ha fun hf=>?_
  (first|(refine WO_some (.slice x.pa.1 x.ab.length x.pa.2) inferInstance (by omega) ?_;intro _)|(refine WC_some (.slice x.pa.1 x.ab.length x.pa.2) inferInstance (by omega) ?_;intro _))
  (first|(refine WO_some (.slice x.pk.1 x.kb.length x.pk.2) inferInstance (by omega) ?_;intro _)|(refine WC_some (.slice x.pk.1 x.kb.length x.pk.2) inferInstance (by omega) ?_;intro _))
  have hM:=fun F=>ca_Misses (F:=F) (b:=x.ab[i]) (c:=c) (core:=(i:Int)) (k:=s.cs.getD i caZ)
  have hDo:=fun F (hh:¬(s.ks.getD i coZ).rs.length=(s.ks.getD i coZ).l.length) x' (hx':x'.wf)=>ma_does (F:=F) (b:=b) (c:=c) (odd:=s.odd) (nh:=x.hb.length) (pk:=x.pk) (pa:=x.pa) (ph:=x.ph) (pt:=x.pt) (bn:=x.bn) (kb:=x.kb) (ab:=x.ab) (k:=s.ks.getD i coZ) (a:=s.cs.getD i caZ) (tr:=s.tr) (x:=x') hk ha hh ht hx'
  have hCm:=fun F (hh:¬(s.ks.getD i coZ).rs.length=(s.ks.getD i coZ).l.length) x' n'=>ma_commit (F:=F) (b:=b) (c:=c) (odd:=s.odd) (na:=x.ab.length) (nh:=x.hb.length) (pk:=x.pk) (pa:=x.pa) (ph:=x.ph) (pt:=x.pt) (bn:=x.bn) (kb:=x.kb) (k:=s.ks.getD i coZ) (tr:=s.tr) (x:=x') (n:=n') hk hh ht
  have hLn:=fun F x' (hx':Op3.wf x') odd nt pt=>ma_line (F:=F) (b:=b) (c:=c) (odd:=odd) (nk:=x.kb.length) (na:=x.ab.length) (nh:=x.hb.length) (nt:=nt) (pk:=x.pk) (pa:=x.pa) (ph:=x.ph) (pt:=pt) (bn:=x.bn) (x:=x') hw hx'
  have hE:=fun F st w'=>ca_Evict (F:=F) (b:=x.ab[i]) (c:=c) (core:=(i:Int)) (s:=st) (w:=w') (k:=s.cs.getD i caZ) hX.1.1
  by_cases hfin:0<nleft c s.n 2∧caFinB (maA s i)=true
  · have eB:maActB c s i w=maSent c s (caFinM c i (maA s i)):=by unfold maActB;rw [if_pos hfin]
    have eS:maActS c s i w=⟨s.ks.set i (s.ks.getD i coZ),s.cs.set i (caFinK c (s.cs.getD i caZ)),s.hs,nsendN c s.n (caFinM c i (s.cs.getD i caZ)),s.tr,s.odd⟩:=by unfold maActS;rw [if_pos hfin,set_getD];rfl
    rw [eB,eS]
    obtain ⟨h2,hfb⟩:=hfin
    rw [eA] at hfb
    simp only [hfb] at hF
    repeat (first|refine go ?_|intro _|refine dr_Mw1_52m ?_|refine drq ?_|refine cal @hF ?_|refine cal @hL ?_|refine cal @hSn ?_)
    (apply WE_ret rfl rfl zqR)
    · exact ⟨x.pt,rfl,rfl⟩
    · (apply maoi_in;(focus (exact entu0));all_goals exact zqS)
  · have hpre:∀ G:Prop,(0<nleft c s.n 2→caFinB (s.cs.getD i caZ)=false→(∀ F,FnF Tryz.prog 109 [.pointer (some ⟨x.ab[i],0,none⟩)] [CaP x.ab[i] c (i:Int) (s.cs.getD i caZ)] F (fun r L'=>r= .tuple [mv (caFinM c i (s.cs.getD i caZ)),.bool false].toArray∧L'=[CaP x.ab[i] c (i:Int) (s.cs.getD i caZ)]))→G)→(¬0<nleft c s.n 2→G)→G:=fun G g1 g2=>by
      by_cases h2:0<nleft c s.n 2
      · have hfb:caFinB (s.cs.getD i caZ)=false:=by cases e:caFinB (s.cs.getD i caZ) with|false=>rfl|true=>exact absurd ⟨h2,e⟩ hfin
        have eK':caFinK c (s.cs.getD i caZ)=s.cs.getD i caZ:=by unfold caFinK;rw [hfb];rfl
        simp only [hfb,eK'] at hF
        exact g1 h2 hfb hF
      · exact g2 h2
    clear hF
    cases hh:coHas (maK s i) with
    |false=>
     have eB:maActB c s i w=false:=by unfold maActB;rw [if_neg hfin,if_pos hh]
     have eS:maActS c s i w=⟨s.ks.set i (s.ks.getD i coZ),s.cs.set i (s.cs.getD i caZ),s.hs,s.n,s.tr,s.odd⟩:=by unfold maActS;rw [if_neg hfin,if_pos hh,set_getD,set_getD]
     rw [eB,eS]
     have hh':headB (s.ks.getD i coZ).l (s.ks.getD i coZ).rs=false:=hh
     simp only [hh'] at hH
     refine hpre _ (fun h2 hfb hF=>?_) (fun h2=>?_)
     all_goals
       repeat (first|refine go ?_|intro _|refine dr_Mw1_52m ?_|refine drq ?_|refine cal @hF ?_|refine cal @hL ?_|refine cal @hH ?_)
       (apply WE_ret rfl rfl zqR)
       · exact ⟨x.pt,rfl,rfl⟩
       · (apply maoi_in;(focus (exact entu0));all_goals exact zqS)
    |true=>
     have hh0:¬coHas (maK s i)=false:=by rw [hh];simp
     have hh':headB (s.ks.getD i coZ).l (s.ks.getD i coZ).rs=true:=hh
     have hne:¬(s.ks.getD i coZ).rs.length=(s.ks.getD i coZ).l.length:=by simpa [headB] using hh'
     have hwf:(headO (s.ks.getD i coZ).l (s.ks.getD i coZ).rs).wf:=head_wf hl hh
     have eO:coOp (maK s i)=headO (s.ks.getD i coZ).l (s.ks.getD i coZ).rs:=rfl
     simp only [hh'] at hH
     generalize headO (s.ks.getD i coZ).l (s.ks.getD i coZ).rs=op at *
     have hDo:=fun F=>hDo F hne op hwf
     have hCm:=fun F=>hCm F hne op 0
     have hLn:=fun F=>hLn F op hwf
     have hAk:=fun F=>ca_Ask (F:=F) (b:=x.ab[i]) (c:=c) (core:=(i:Int)) (line:=maLine c op) (kind:=kindOf op) (k:=s.cs.getD i caZ) addr_i64
     have hKd:=fun F=>ma_kind (F:=F) (x:=op)
     have hSl:=fun F=>split_Line (F:=F) (c:=c) (a:=maLine c op) hw addr_i64
     by_cases h4:op.kind=4
     · have hM:=fun F=>ca_Misses (F:=F) (b:=x.ab[i]) (c:=c) (core:=(i:Int)) (k:=s.cs.getD i caZ)
       by_cases hm:(s.cs.getD i caZ).mis.length=0
       · have eB:maActB c s i w=true:=by unfold maActB;rw [if_neg hfin,if_neg hh0,eO,if_pos h4,eA];exact decide_eq_true hm
         have eS:maActS c s i w=⟨s.ks.set i (coCom (s.ks.getD i coZ) 0),s.cs.set i (s.cs.getD i caZ),s.hs,s.n,s.tr++[⟨i,(s.ks.getD i coZ).rs.length,op,0⟩],s.odd⟩:=by unfold maActS;rw [if_neg hfin,if_neg hh0,eO,if_pos h4,eA,if_pos hm,set_getD];rfl
         rw [eB,eS]
         refine hpre _ (fun h2 hfb hF=>?_) (fun h2=>?_)
         all_goals
           repeat (first|refine go ?_|intro _|refine dr_Mw1_52m ?_|refine drq ?_|refine cal @hF ?_|refine cal @hL ?_|refine cal @hH ?_|refine cal @hM ?_|refine cal @hCm ?_)
           rename_i pt'
           (apply WE_ret rfl rfl zqR)
           · exact ⟨pt',rfl,rfl⟩
           · (apply maoi_in;(focus (exact entu0));all_goals exact zqS)
       · have eB:maActB c s i w=false:=by unfold maActB;rw [if_neg hfin,if_neg hh0,eO,if_pos h4,eA];exact decide_eq_false hm
         have eS:maActS c s i w=⟨s.ks.set i (s.ks.getD i coZ),s.cs.set i (s.cs.getD i caZ),s.hs,s.n,s.tr,s.odd⟩:=by unfold maActS;rw [if_neg hfin,if_neg hh0,eO,if_pos h4,eA,if_neg hm,set_getD,set_getD]
         rw [eB,eS]
         refine hpre _ (fun h2 hfb hF=>?_) (fun h2=>?_)
         all_goals
           repeat (first|refine go ?_|intro _|refine dr_Mw1_52m ?_|refine drq ?_|refine cal @hF ?_|refine cal @hL ?_|refine cal @hH ?_|refine cal @hM ?_)
           (apply WE_ret rfl rfl zqR)
           · exact ⟨x.pt,rfl,rfl⟩
           · (apply maoi_in;(focus (exact entu0));all_goals exact zqS)
     · by_cases hd:caDoE c (s.cs.getD i caZ) op=0
       · have hdb:maDoesB c s i op=true:=decide_eq_true hd
         have eB:maActB c s i w=true:=by unfold maActB;rw [if_neg hfin,if_neg hh0,eO,if_neg h4,if_pos hdb]
         have eS:maActS c s i w=⟨s.ks.set i (doK c (s.cs.getD i caZ) (s.ks.getD i coZ) op),s.cs.set i (caDoK c (s.cs.getD i caZ) op),s.hs,s.n,doT c (s.cs.getD i caZ) (s.ks.getD i coZ) i op s.tr,s.odd⟩:=by
           unfold maActS maDoes doK doT;rw [if_neg hfin,if_neg hh0,eO,if_neg h4,if_pos hdb,if_pos hdb,if_pos hd,if_pos hd];rfl
         rw [eB,eS]
         simp only [hd,decide_true] at hDo
         refine hpre _ (fun h2 hfb hF=>?_) (fun h2=>?_)
         all_goals
           repeat (first|refine go ?_|intro _|refine dr_Mw1_52m ?_|refine drq ?_|refine cal @hF ?_|refine cal @hL ?_|refine cal @hH ?_|refine cal @hDo ?_)
           rename_i pt'
           (apply WE_ret rfl rfl zqR)
           · exact ⟨pt',rfl,rfl⟩
           · (apply maoi_in;(focus (exact entu0));all_goals exact zqS)
       · have hdb:maDoesB c s i op=false:=decide_eq_false hd
         have hdn:¬maDoesB c s i op=true:=by rw [hdb];simp
         clear hDo hCm hM
         have hDn:=fun F=>ma_does_no (F:=F) (b:=b) (c:=c) (odd:=s.odd) (nk:=x.kb.length) (nh:=x.hb.length) (nt:=s.tr.length) (pk:=x.pk) (pa:=x.pa) (ph:=x.ph) (pt:=x.pt) (bn:=x.bn) (ab:=x.ab) (a:=s.cs.getD i caZ) (x:=op) ha hwf hd
         by_cases h0:nleft c s.n 0=0
         · have eB:maActB c s i w=false:=by unfold maActB;rw [if_neg hfin,if_neg hh0,eO,if_neg h4,if_neg hdn,if_pos h0]
           have eS:maActS c s i w=⟨s.ks.set i (s.ks.getD i coZ),s.cs.set i (s.cs.getD i caZ),s.hs,s.n,s.tr,s.odd⟩:=by unfold maActS;rw [if_neg hfin,if_neg hh0,eO,if_neg h4,if_neg hdn,if_pos h0,set_getD,set_getD]
           rw [eB,eS]
           refine hpre _ (fun h2 hfb hF=>?_) (fun h2=>?_)
           all_goals
             repeat (first|refine go ?_|intro _|refine dr_Mw1_52m ?_|refine drq ?_|refine cal @hF ?_|refine cal @hL ?_|refine cal @hH ?_|refine cal @hDn ?_)
             (apply WE_ret rfl rfl zqR)
             · exact ⟨x.pt,rfl,rfl⟩
             · (apply maoi_in;(focus (exact entu0));all_goals exact zqS)
         · apply WC_join (P:=Tryz.prog) (fun q:Nat=>[(0,.pointer (some ⟨b,0,none⟩)),(1,.int .i64 i),(2,.int .i64 w),(6,.bool false),(7,.pointer (some ⟨x.ab[i],0,none⟩)),(10,.pointer (some ⟨q,0,none⟩))]) (fun q=>Cells q 58 (oc op)::MaOi b c s x i hk ha F) (fun _=>True)
           · intro join
             refine hpre _ (fun h2 hfb hF=>?_) (fun h2=>?_)
             all_goals
               repeat (first|refine go ?_|intro _|refine cal @hF ?_|refine cal @hL ?_|refine cal @hH ?_|refine cal @hDn ?_)
               exact join _ _ _ trivial (by exact zqU) (by exact entu0)
           intro q _
           have eAsk:maAskE c s i op=caAskE c (s.cs.getD i caZ) (maLine c op) (kindOf op):=rfl
           by_cases he:caAskE c (s.cs.getD i caZ) (maLine c op) (kindOf op)=0
           · have eB:maActB c s i w=decide (nsendE c s.n (caAskM c i (s.cs.getD i caZ) (maLine c op) (kindOf op))=0):=by
               unfold maActB;rw [if_neg hfin,if_neg hh0,eO,if_neg h4,if_neg hdn,if_neg h0,if_pos (eAsk.trans he)];rfl
             have eS:maActS c s i w=⟨s.ks.set i (s.ks.getD i coZ),s.cs.set i (caAskK c (s.cs.getD i caZ) (maLine c op) (kindOf op)),s.hs,nsendN c s.n (caAskM c i (s.cs.getD i caZ) (maLine c op) (kindOf op)),s.tr,s.odd⟩:=by
               unfold maActS;rw [if_neg hfin,if_neg hh0,eO,if_neg h4,if_neg hdn,if_neg h0,if_pos (eAsk.trans he),set_getD];rfl
             rw [eB,eS]
             simp only [he] at hAk
             repeat' (first|refine go ?_|intro _|refine dr_Mw1_52m ?_|refine drq ?_|refine cal @hL ?_|refine cal @hLn ?_|refine cal @hKd ?_|refine cal @hAk ?_|refine cal @hSn ?_|refine spl ?_ ?_|fail)
             all_goals (apply WE_ret rfl rfl zqR)
             all_goals first|exact ⟨x.pt,rfl,rfl⟩|(apply maoi_in;(focus (exact entu0));all_goals exact zqS)
           · have eKn:caAskK c (s.cs.getD i caZ) (maLine c op) (kindOf op)=s.cs.getD i caZ:=by unfold caAskK;rw [if_neg he]
             simp only [eKn] at hAk
             by_cases h5:caAskE c (s.cs.getD i caZ) (maLine c op) (kindOf op)=5
             · simp only [h5] at hAk
               have eEv:maEvS c op=lineS c (maLine c op):=rfl
               have hE:=fun F=>hE F (maEvS c op) (w.tmod c.ways)
               have hwy:=(check_facts f7).2.2.2.2.2
               by_cases h6:caEvE c (s.cs.getD i caZ) (maEvS c op) (w.tmod c.ways)=0
               · simp only [h6] at hE
                 cases hb:caEvB c (s.cs.getD i caZ) (maEvS c op) (w.tmod c.ways) with
                 |true=>
                  simp only [hb] at hE
                  have eB:maActB c s i w=decide (nsendE c s.n (caEvM c i (s.cs.getD i caZ) (maEvS c op) (w.tmod c.ways))=0):=by
                    unfold maActB;rw [if_neg hfin,if_neg hh0,eO,if_neg h4,if_neg hdn,if_neg h0,if_neg (fun g=>he (eAsk.symm.trans g)),if_pos (eAsk.trans h5),eA,h6,hb];rfl
                  have eS:maActS c s i w=⟨s.ks.set i (s.ks.getD i coZ),s.cs.set i (caEvK c (s.cs.getD i caZ) (maEvS c op) (w.tmod c.ways)),s.hs,nsendN c s.n (caEvM c i (s.cs.getD i caZ) (maEvS c op) (w.tmod c.ways)),s.tr,s.odd⟩:=by
                    unfold maActS maEv;rw [if_neg hfin,if_neg hh0,eO,if_neg h4,if_neg hdn,if_neg h0,if_neg (fun g=>he (eAsk.symm.trans g)),if_pos (eAsk.trans h5),eA,if_pos hb,set_getD];rfl
                  rw [eB,eS]
                  repeat' (first|refine go ?_|intro _|refine dr_Mw1_52m ?_|refine drq ?_|refine cal @hL ?_|refine cal @hLn ?_|refine cal @hKd ?_|refine cal @hAk ?_|refine cal @hSl ?_|refine cal @hE ?_|refine cal @hSn ?_|refine spl ?_ ?_|fail)
                  all_goals (apply WE_ret rfl rfl zqR)
                  all_goals first|exact ⟨x.pt,rfl,rfl⟩|(apply maoi_in;(focus (exact entu0));all_goals exact zqS)
                 |false=>
                  simp only [hb] at hE
                  have hbn:¬caEvB c (s.cs.getD i caZ) (maEvS c op) (w.tmod c.ways)=true:=by rw [hb];simp
                  have eB:maActB c s i w=true:=by
                    unfold maActB;rw [if_neg hfin,if_neg hh0,eO,if_neg h4,if_neg hdn,if_neg h0,if_neg (fun g=>he (eAsk.symm.trans g)),if_pos (eAsk.trans h5),eA,h6,hb];rfl
                  have eS:maActS c s i w=⟨s.ks.set i (s.ks.getD i coZ),s.cs.set i (caEvK c (s.cs.getD i caZ) (maEvS c op) (w.tmod c.ways)),s.hs,s.n,s.tr,s.odd⟩:=by
                    unfold maActS maEv;rw [if_neg hfin,if_neg hh0,eO,if_neg h4,if_neg hdn,if_neg h0,if_neg (fun g=>he (eAsk.symm.trans g)),if_pos (eAsk.trans h5),eA,if_neg hbn,set_getD];rfl
                  rw [eB,eS]
                  repeat' (first|refine go ?_|intro _|refine dr_Mw1_52m ?_|refine drq ?_|refine cal @hL ?_|refine cal @hLn ?_|refine cal @hKd ?_|refine cal @hAk ?_|refine cal @hSl ?_|refine cal @hE ?_|refine spl ?_ ?_|fail)
                  all_goals (apply WE_ret rfl rfl zqR)
                  all_goals first|exact ⟨x.pt,rfl,rfl⟩|(apply maoi_in;(focus (exact entu0));all_goals exact zqS)
               · have eKe:caEvK c (s.cs.getD i caZ) (maEvS c op) (w.tmod c.ways)=s.cs.getD i caZ:=by unfold caEvK;rw [if_neg h6]
                 have hbf:caEvB c (s.cs.getD i caZ) (maEvS c op) (w.tmod c.ways)=false:=by unfold caEvB;exact decide_eq_false (fun g=>h6 g.1)
                 have hbn:¬caEvB c (s.cs.getD i caZ) (maEvS c op) (w.tmod c.ways)=true:=by rw [hbf];simp
                 simp only [eKe,hbf] at hE
                 have eB:maActB c s i w=false:=by
                   unfold maActB;rw [if_neg hfin,if_neg hh0,eO,if_neg h4,if_neg hdn,if_neg h0,if_neg (fun g=>he (eAsk.symm.trans g)),if_pos (eAsk.trans h5),eA,decide_eq_false h6];rfl
                 have eS:maActS c s i w=⟨s.ks.set i (s.ks.getD i coZ),s.cs.set i (s.cs.getD i caZ),s.hs,s.n,s.tr,s.odd⟩:=by
                   unfold maActS maEv;rw [if_neg hfin,if_neg hh0,eO,if_neg h4,if_neg hdn,if_neg h0,if_neg (fun g=>he (eAsk.symm.trans g)),if_pos (eAsk.trans h5),eA,if_neg hbn,eKe,set_getD];rfl
                 rw [eB,eS]
                 repeat' (first|refine go ?_|intro _|refine dr_Mw1_52m ?_|refine drq ?_|refine cal @hL ?_|refine cal @hLn ?_|refine cal @hKd ?_|refine cal @hAk ?_|refine cal @hSl ?_|refine cal @hE ?_|refine spl ?_ ?_|fail)
                 all_goals (apply WE_ret rfl rfl zqR)
                 all_goals first|exact ⟨x.pt,rfl,rfl⟩|(apply maoi_in;(focus (exact entu0));all_goals exact zqS)
             · have eB:maActB c s i w=false:=by
                 unfold maActB;rw [if_neg hfin,if_neg hh0,eO,if_neg h4,if_neg hdn,if_neg h0,if_neg (fun g=>he (eAsk.symm.trans g)),if_neg (fun g=>h5 (eAsk.symm.trans g))]
               have eS:maActS c s i w=⟨s.ks.set i (s.ks.getD i coZ),s.cs.set i (s.cs.getD i caZ),s.hs,s.n,s.tr,s.odd⟩:=by
                 unfold maActS;rw [if_neg hfin,if_neg hh0,eO,if_neg h4,if_neg hdn,if_neg h0,if_neg (fun g=>he (eAsk.symm.trans g)),if_neg (fun g=>h5 (eAsk.symm.trans g)),set_getD,set_getD]
               rw [eB,eS]
               repeat' (first|refine go ?_|intro _|refine dr_Mw1_52m ?_|refine drq ?_|refine cal @hL ?_|refine cal @hLn ?_|refine cal @hKd ?_|refine cal @hAk ?_|refine spl ?_ ?_|fail)
               all_goals (apply WE_ret rfl rfl zqR)
               all_goals first|exact ⟨x.pt,rfl,rfl⟩|(apply maoi_in;(focus (exact entu0));all_goals exact zqS)
end Go.Sx
