/- Mw2, Mw3, MaZ, MaD, MaN, Pro2: several of my texts as one. My own work. -/
import Derived.Test.YtjihlpjnebdiiaaGreatZr
import Derived.Test.YtjihlpjnebdiiaaGreatZau
import Derived.Test.YtjihlpjnebdiiaaGreatZat
import Derived.Test.YtjihlpjnebdiiaaGreatZaf
set_option linter.unusedVariables false
set_option linter.unusedSectionVars false
set_option linter.unusedSimpArgs false
/- What a machine does: what a core asks ahead, and what a home works. My own work. -/
namespace Go.Sx
open Go Go.Proofs
abbrev MaOh (b:Nat) (c:Cfg) (s:MaS) (x:MaX) (d:Nat) (hd:d<x.hb.length) (L:List HP):List HP:=MC b c s.odd x.kb.length x.ab.length x.hb.length s.tr.length x.pk x.pa x.ph x.pt x.bn::OwK x.pk x.kb::OwA x.pa x.ab::OwH x.ph x.hb::NetP x.bn c s.n::OwT x.pt s.tr
  ::HomP x.hb[d] c (d:Int) (s.hs.getD d hmZ)::All ((List.range x.kb.length).map (corH x s))::All ((List.range x.ab.length).map (cacH c x s))::All (((List.range x.hb.length).eraseIdx d).map (homH c x s))::L
theorem maoh_out {b:Nat} {c:Cfg} {s:MaS} {x:MaX} {d:Nat} {L:List HP} (hd:d<x.hb.length):Ent (MaO b c s x L) (MaOh b c s x d hd L):=by
  refine Ent.cons (Ent.cons (Ent.cons (Ent.cons (Ent.cons (Ent.cons ?_)))))
  refine Ent.trans (Ent.cons (Ent.cons (rng_take hd))) ?_
  have e1:homH c x s d=HomP x.hb[d] c (d:Int) (s.hs.getD d hmZ):=by unfold homH;rw [getD_nat hd]
  rw [e1]
  exact ent_perm (List.Perm.trans (List.Perm.cons _ (List.Perm.swap _ _ _)) (List.Perm.swap _ _ _))
theorem maoh_in {b:Nat} {c:Cfg} {s s':MaS} {x:MaX} {d:Nat} {hd:d<x.hb.length} {L M:List HP} {k:HomS} {n:Nets} {odd:Int}
    (h:Ent L (MC b c odd x.kb.length x.ab.length x.hb.length s.tr.length x.pk x.pa x.ph x.pt x.bn::OwK x.pk x.kb::OwA x.pa x.ab::OwH x.ph x.hb::NetP x.bn c n::OwT x.pt s.tr
     ::HomP x.hb[d] c (d:Int) k::All ((List.range x.kb.length).map (corH x s))::All ((List.range x.ab.length).map (cacH c x s))::All (((List.range x.hb.length).eraseIdx d).map (homH c x s))::M))
    (hf:MaF c s x) (e1:s'.ks=s.ks) (e2:s'.cs=s.cs) (e3:s'.hs=s.hs.set d k) (e4:s'.n=n) (e5:s'.tr=s.tr) (e6:s'.odd=odd):Ent L (MaQ b c s' x::M):=by
  obtain ⟨ks,cs,hs,nn,tt,oo⟩:=s'
  dsimp only at e1 e2 e3 e4 e5 e6
  subst e1 e2 e3 e4 e5 e6
  obtain ⟨⟨f1,f2,f3⟩,f4,f5⟩:=hf
  refine maq_same (Ent.trans h ?_) ⟨⟨f1,f2,by dsimp only;rw [List.length_set];exact f3⟩,f4,f5⟩
  refine Ent.cons (Ent.cons (Ent.cons (Ent.cons (Ent.cons (Ent.cons ?_)))))
  have e1:HomP x.hb[d] c (d:Int) k=homH c x ⟨s.ks,s.cs,s.hs.set d k,nn,s.tr,oo⟩ d:=by unfold homH;dsimp only;rw [getD_nat hd,getD_set,if_pos ⟨rfl,by omega⟩]
  rw [e1]
  refine Ent.trans (ent_perm (List.Perm.trans (List.Perm.swap _ _ _) (List.Perm.cons _ (List.Perm.swap _ _ _)))) (Ent.cons (Ent.cons ?_))
  refine Ent.trans (rng_put (g:=homH c x ⟨s.ks,s.cs,s.hs.set d k,nn,s.tr,oo⟩) hd fun j hj hne=>?_) (Ent.cons Ent.refl)
  unfold homH;dsimp only;rw [getD_set,if_neg (fun h=>hne h.1)]
section
variable {b:Nat} {c:Cfg} {s:MaS} {x:MaX} {P:Program} {N:Nat} {env:Env} {L:List HP} {Q:Exit→Act→World→Prop}
theorem maoh_open {co:Code} {d:Nat} (hd:d<x.hb.length) (h:MaF c s x→WC P N co env (MaOh b c s x d hd L) Q):WC P N co env (MaQ b c s x::L) Q:=
  maq_open fun hf a w hA hw=>h hf a w hA ((maoh_out hd).sat hw)
end
theorem ahead_op {c:Cfg} {n:Nat} {s:MaS} (hl:MaL c n s) {i d:Int} (h:coAhB (maK s i) d=true):(coAhO (maK s i) d).wf:=by
  have h0:=h
  unfold coAhB aheadB at h
  simp only [Bool.and_eq_true] at h
  have h1:=h.1
  unfold aheadIn at h1
  simp at h1
  have hi:i.toNat<s.ks.length:=by
    refine Decidable.byContradiction fun g=>?_
    have e:maK s i=coZ:=by unfold maK;rw [List.getD_eq_getElem?_getD,List.getElem?_eq_none (by omega)];rfl
    rw [e] at h1
    have:(coZ.rs.length:Int)+d<coZ.l.length:=h1.1.2.2
    have e2:coZ.rs.length=0:=rfl
    have e3:coZ.l.length=0:=rfl
    omega
  have e:maK s i=s.ks[i.toNat]:=by unfold maK;rw [List.getD_eq_getElem?_getD,List.getElem?_eq_getElem hi];rfl
  have hk:=(hl.kp _ (List.getElem_mem hi)).1
  rw [←e] at hk
  have hlt:(((maK s i).rs.length:Int)+d).toNat<(maK s i).l.length:=by omega
  have hm:coAhO (maK s i) d∈(maK s i).l:=by
    have h0':aheadB (maK s i).l (maK s i).rs (maK s i).tr d=true:=h0
    unfold coAhO aheadO
    rw [if_pos h0',List.getD_eq_getElem?_getD,List.getElem?_eq_getElem hlt]
    exact List.getElem_mem hlt
  unfold progB at hk
  simp only [Bool.and_eq_true,List.all_eq_true,decide_eq_true_eq] at hk
  exact op_wf (hk.1.1 _ hm).1
set_option maxRecDepth 100000
set_option maxHeartbeats 4000000
attribute [local irreducible] Go.Exit.then Go.Exit.inBlock Go.Code.wp WC WO WE WQ V LoopQ FnQ Sat Star band bor IntKind.wrap WR Code.rounds WT KO
theorem dr_Mw2_51m {Q P:Prop} (k:Q) (h:Hid Q→P:=by
  intro k
  first
  |(refine is_draw ?_;apply WC_mix (id:=1) (.only [17]) _ (pl:= .p 0 <| .p 1 <| .p 2 <| .p 5 <| .p 6 <| .p 7 <| .p 10 <| .p 11 <| .p 12 <| .r 3 <| .r 8 <| .r 13 <| .e true [(4,.e true [(9,.e true [(14,.p 15 <| .e true [(16,.e true [(17,.n [] <| .done)])]),(16,.e true [(14,.p 15 <| .e true [(17,.n [] <| .done)])])]),(16,.e true [(9,.e true [(14,.p 15 <| .e true [(17,.n [] <| .done)])])])]),(16,.e true [(4,.e true [(9,.e true [(14,.p 15 <| .e true [(17,.n [] <| .done)])])])])]);exact mixed;kernel_rfl;kernel_rfl;exact Ent.refl;exact k.out)
  |(refine is_draw ?_;apply WC_mix (id:=2) (.only [9,15]) _ (pl:= .p 0 <| .p 1 <| .p 2 <| .p 4 <| .p 7 <| .r 3 <| .p 5 <| .r 6 <| .r 8 <| .e true [(9,.n [15] <| .p 10 <| .p 11 <| .p 12 <| .p 13 <| .e true [(14,.e true [(15,.n [] <| .p 16 <| .p 17 <| .done)])]),(14,.e true [(9,.n [15] <| .p 10 <| .p 11 <| .p 12 <| .p 13 <| .e true [(15,.n [] <| .p 16 <| .p 17 <| .done)])])]);exact mixed;kernel_rfl;kernel_rfl;exact Ent.refl;exact k.out)):P:=h ⟨k⟩
theorem ma_work {F:List HP} {b:Nat} {c:Cfg} {s:MaS} {x:MaX} {d n:Nat} {j:Int} (hw:c.wf) (hl:MaL c n s) (hn:n≤1000000000000) (hd:(d:Int)<c.homes) (hx:MaF c s x) :
    FnF Tryz.prog 51 [.pointer (some ⟨b,0,none⟩),.int .i64 d,.int .i64 j] [MaQ b c s x] F (fun r L'=>r= .bool (maWorkB c s d j)∧L'=[MaQ b c (maWorkS c s d j) x]):=by
  obtain ⟨⟨f1,f2,f3⟩,⟨f4,f5,f6⟩,f7⟩:=id hx
  have hk:d<x.hb.length:=by omega
  have hg:=pv_get hk
  obtain ⟨hI,ho,ho2⟩:=hl.hmi (i:=(d:Int)) (by omega) hd
  have eH:maH s (d:Int)=s.hs.getD d hmZ:=rfl
  rw [eH] at hI ho ho2
  have hL:=fun F n k=>net_Left (F:=F) (b:=x.bn) (c:=c) (n:=n) (k:=k)
  have hW:=fun F=>hm_Work (F:=F) (b:=x.hb[d]) (c:=c) (num:=(d:Int)) (s:=s.hs.getD d hmZ) (n:=j) (l:=maL c s) hI ⟨ho,by omega⟩
  have hSn:=fun F odd n m=>ma_send (F:=F) (b:=b) (c:=c) (odd:=odd) (nk:=x.kb.length) (na:=x.ab.length) (nh:=x.hb.length) (nt:=s.tr.length) (pk:=x.pk) (pa:=x.pa) (ph:=x.ph) (pt:=x.pt) (bn:=x.bn) (n:=n) (m:=m) hw
  refine FnF.mk' Tryz.func51 rfl rfl Tryz.ntmps51 rfl ?_
  refine maoh_open hk fun hf=>?_
  (first|(refine WO_some (.slice x.ph.1 x.hb.length x.ph.2) inferInstance (by omega) ?_;intro _)|(refine WC_some (.slice x.ph.1 x.hb.length x.ph.2) inferInstance (by omega) ?_;intro _))
  cases hb:hmWorkB (s.hs.getD d hmZ) j (maL c s) with
  |true=>
   have eS:maWorkS c s d j=⟨s.ks,s.cs,s.hs.set d (hmWorkS c (s.hs.getD d hmZ) j (maL c s)),nsendN c s.n (hmWorkM (s.hs.getD d hmZ) j (maL c s)),s.tr,s.odd⟩:=by unfold maWorkS;rw [eH,if_pos hb];rfl
   rw [eS]
   simp only [hb] at hW
   repeat' (first|refine go ?_|intro _|refine dr_Mw2_51m ?_|refine drq ?_|refine cal @hL ?_|refine cal @hW ?_|refine cal @hSn ?_|refine spl ?_ ?_|fail)
   all_goals (apply WE_ret rfl rfl zqR)
   all_goals first|exact ⟨rfl,rfl⟩|(apply maoh_in;(focus (exact entu0));all_goals exact zqS)
  |false=>
   have hbn:¬hmWorkB (s.hs.getD d hmZ) j (maL c s)=true:=by rw [hb];simp
   have eS:maWorkS c s d j=⟨s.ks,s.cs,s.hs.set d (hmWorkS c (s.hs.getD d hmZ) j (maL c s)),s.n,s.tr,s.odd⟩:=by unfold maWorkS;rw [eH,if_neg hbn];rfl
   rw [eS]
   simp only [hb] at hW
   repeat' (first|refine go ?_|intro _|refine dr_Mw2_51m ?_|refine drq ?_|refine cal @hL ?_|refine cal @hW ?_|refine cal @hSn ?_|refine spl ?_ ?_|fail)
   all_goals (apply WE_ret rfl rfl zqR)
   all_goals first|exact ⟨rfl,rfl⟩|(apply maoh_in;(focus (exact entu0));all_goals exact zqS)
end Go.Sx

/- What a machine does: deliveries. My own work. -/
namespace Go.Sx
open Go Go.Proofs
theorem hm_acc_no {c:Cfg} {d:Int} {k:HomS} {m:Msg} (h:¬hmAccE c d k m=0):hmAccS c d k m=k:=by
  unfold hmAccE at h
  unfold hmAccS
  split
  · rename_i g
    rw [if_pos g] at h
    unfold qaddL
    rw [if_neg h]
  · rfl
theorem take_eq {c:Cfg} {s:MaS} {m:Msg}:maTake c s m=⟨s.ks,s.cs.set m.dst.toNat (caTakeK c m.dst (maA s m.dst) m),s.hs,if caTakeB c m.dst (maA s m.dst) m then nsendN c s.n (caTakeM c m.dst (maA s m.dst) m) else s.n,s.tr,if caTakeE c m.dst (maA s m.dst) m=0 then s.odd else s.odd+1⟩:=by
  unfold maTake maOdd
  by_cases he:caTakeE c m.dst (maA s m.dst) m=0
  · cases hb:caTakeB c m.dst (maA s m.dst) m<;>simp [he,maSend,maNs,maAs]
  · cases hb:caTakeB c m.dst (maA s m.dst) m<;>simp [he,maSend,maNs,maAs]
set_option maxRecDepth 100000
set_option maxHeartbeats 4000000
attribute [local irreducible] Go.Exit.then Go.Exit.inBlock Go.Code.wp WC WO WE WQ V LoopQ FnQ Sat Star band bor IntKind.wrap WR Code.rounds WT KO
theorem dr_Mw3_49m {Q P:Prop} (k:Q) (h:Hid Q→P:=by
  intro k
  first
  |(refine is_draw ?_;apply WC_mix (id:=4) (.only [12]) _ (pl:= .p 0 <| .p 1 <| .p 2 <| .p 3 <| .p 4 <| .p 5 <| .p 7 <| .r 6 <| .r 8 <| .p 9 <| .r 10 <| .r 11 <| .e true [(12,.n [] <| .p 13 <| .p 14 <| .p 15 <| .done)]);exact mixed;kernel_rfl;kernel_rfl;exact Ent.refl;exact k.out)
  |(refine is_draw ?_;apply WC_mix (id:=10) (.only [9]) _ (pl:= .p 0 <| .p 1 <| .p 2 <| .p 4 <| .r 3 <| .r 5 <| .p 6 <| .r 7 <| .r 8 <| .e true [(9,.n [] <| .p 10 <| .done)]);exact mixed;kernel_rfl;kernel_rfl;exact Ent.refl;exact k.out)
  |(refine is_draw ?_;apply WC_mix (id:=14) (.only [13]) _ (pl:= .p 0 <| .p 1 <| .p 2 <| .p 4 <| .r 3 <| .r 5 <| .p 6 <| .r 7 <| .e true [(8,.p 9 <| .p 10 <| .p 11 <| .e true [(12,.e true [(13,.n [] <| .p 14 <| .done)])]),(12,.e true [(8,.p 9 <| .p 10 <| .p 11 <| .e true [(13,.n [] <| .p 14 <| .done)])])]);exact mixed;kernel_rfl;kernel_rfl;exact Ent.refl;exact k.out)
  |(refine is_draw ?_;apply WC_mix (id:=15) (.only []) _ (pl:= .p 0 <| .p 1 <| .p 2 <| .r 3 <| .p 4 <| .p 5 <| .p 6 <| .p 7 <| .p 10 <| .r 8 <| .r 11 <| .e true [(9,.p 12 <| .p 13 <| .done)]);exact mixed;kernel_rfl;kernel_rfl;exact Ent.refl;exact k.out)):P:=h ⟨k⟩
theorem ma_del0 {F:List HP} {b:Nat} {c:Cfg} {s:MaS} {x:MaX} {n:Nat} {k j:Int} (hw:c.wf) (hl:MaL c n s) (hx:MaF c s x) (h:natB s.n k j=false∨k=1∧nleft c s.n 2=0) :
    FnF Tryz.prog 49 [.pointer (some ⟨b,0,none⟩),.int .i64 k,.int .i64 j] [MaQ b c s x] F (fun r L'=>r= .bool (maDelB c s k j)∧L'=[MaQ b c (maDelS c s k j) { x with pt:=x.pt}]):=by
  have eB:maDelB c s k j=false:=by unfold maDelB;rw [if_pos h]
  have eS:maDelS c s k j=s:=by unfold maDelS;rw [if_pos h]
  rw [eB,eS]
  have hL:=fun F n k=>net_Left (F:=F) (b:=x.bn) (c:=c) (n:=n) (k:=k)
  have hA:=fun F=>net_At (F:=F) (b:=x.bn) (c:=c) (n:=s.n) (k:=k) (i:=j)
  refine FnF.mk' Tryz.func49 rfl rfl Tryz.ntmps49 rfl ?_
  refine maq_open fun hf=>?_
  cases hb:natB s.n k j with
  |false=>
   simp only [hb] at hA
   repeat (first|refine go ?_|intro _|refine dr_Mw3_49m ?_|refine drq ?_|refine cal @hA ?_|refine cal @hL ?_)
   (apply WE_ret rfl rfl zqR)
   · exact ⟨rfl,rfl⟩
   · refine maq_same ?_ hf
     exact entu0
  |true=>
   rw [hb] at h
   have h':k=1∧nleft c s.n 2=0:=h.elim (fun g=>nomatch g) id
   obtain ⟨rfl,h2⟩:=h'
   simp only [hb] at hA
   repeat (first|refine go ?_|intro _|refine dr_Mw3_49m ?_|refine drq ?_|refine cal @hA ?_|refine cal @hL ?_)
   (apply WE_ret rfl rfl zqR)
   · exact ⟨rfl,rfl⟩
   · refine maq_same ?_ hf
     exact entu0
theorem ma_del1 {F:List HP} {b:Nat} {c:Cfg} {s:MaS} {x:MaX} {n:Nat} {j:Int} (hw:c.wf) (hl:MaL c n s) (hx:MaF c s x) (h:natB s.n 0 j=true) :
    FnF Tryz.prog 49 [.pointer (some ⟨b,0,none⟩),.int .i64 0,.int .i64 j] [MaQ b c s x] F (fun r L'=>r= .bool (maDelB c s 0 j)∧L'=[MaQ b c (maDelS c s 0 j) x]):=by
  obtain ⟨⟨f1,f2,f3⟩,⟨f4,f5,f6⟩,f7⟩:=id hx
  have hmem:=hl.nt 0 _ (nat_mem h)
  have hh:HomeP (natM s.n 0 j).kind:=by
    have:=hmem.2
    unfold netK at this
    unfold HomeP
    split at this
    · exact .inl (by assumption)
    · split at this
      · omega
      · split at this<;>omega
  obtain ⟨d0,d1⟩:=may_home hmem.1 hh
  obtain ⟨d,hd⟩:∃ d:Nat,(natM s.n 0 j).dst=d:=⟨(natM s.n 0 j).dst.toNat,by omega⟩
  have hk:d<x.hb.length:=by omega
  have hg:=pv_get hk
  have eH:maH s (d:Int)=s.hs.getD d hmZ:=rfl
  have hno:¬(natB s.n 0 j=false∨(0:Int)=1∧nleft c s.n 2=0):=by rw [h];simp
  have hA:=fun F=>net_At (F:=F) (b:=x.bn) (c:=c) (n:=s.n) (k:=0) (i:=j)
  have hT:=fun F=>net_Take (F:=F) (b:=x.bn) (c:=c) (n:=s.n) (k:=0) (i:=j)
  have hAc:=fun F=>hm_Accept (F:=F) (b:=x.hb[d]) (c:=c) (num:=(d:Int)) (s:=s.hs.getD d hmZ) (m:=natM s.n 0 j) hw
  simp only [h] at hA
  have eB:maDelB c s 0 j=decide (hmAccE c d (s.hs.getD d hmZ) (natM s.n 0 j)=0):=by unfold maDelB;rw [if_neg hno,if_pos rfl,hd,eH]
  have eS:maDelS c s 0 j=if hmAccE c d (s.hs.getD d hmZ) (natM s.n 0 j)=0 then ⟨s.ks,s.cs,s.hs.set d (hmAccS c d (s.hs.getD d hmZ) (natM s.n 0 j)),ntakeN s.n 0 j,s.tr,s.odd⟩ else ⟨s.ks,s.cs,s.hs.set d (s.hs.getD d hmZ),s.n,s.tr,s.odd⟩:=by
    unfold maDelS;rw [if_neg hno,if_pos rfl,hd,eH,set_getD];rfl
  rw [eB,eS]
  clear eB eS
  generalize hm:natM s.n 0 j=m at *
  obtain ⟨mk,ml,ms,md,mw,mac',mo,mww⟩:=m
  dsimp only at hd
  subst hd
  by_cases he:hmAccE c d (s.hs.getD d hmZ) ⟨mk,ml,ms,d,mw,mac',mo,mww⟩=0
  · rw [if_pos he,decide_eq_true he]
    simp only [he] at hAc
    refine FnF.mk' Tryz.func49 rfl rfl Tryz.ntmps49 rfl ?_
    refine maoh_open hk fun hf=>?_
    (first|(refine WO_some (.slice x.ph.1 x.hb.length x.ph.2) inferInstance (by omega) ?_;intro _)|(refine WC_some (.slice x.ph.1 x.hb.length x.ph.2) inferInstance (by omega) ?_;intro _))
    repeat (first|refine go ?_|intro _|refine dr_Mw3_49m ?_|refine drq ?_|refine cal @hA ?_|refine cal @hAc ?_|refine cal @hT ?_)
    (apply WE_ret rfl rfl zqR)
    · exact ⟨rfl,rfl⟩
    · (apply maoh_in;(focus (exact entu0));all_goals exact zqS)
  · have eK:hmAccS c d (s.hs.getD d hmZ) ⟨mk,ml,ms,d,mw,mac',mo,mww⟩=s.hs.getD d hmZ:=hm_acc_no he
    rw [if_neg he,decide_eq_false he]
    simp only [eK] at hAc
    refine FnF.mk' Tryz.func49 rfl rfl Tryz.ntmps49 rfl ?_
    refine maoh_open hk fun hf=>?_
    (first|(refine WO_some (.slice x.ph.1 x.hb.length x.ph.2) inferInstance (by omega) ?_;intro _)|(refine WC_some (.slice x.ph.1 x.hb.length x.ph.2) inferInstance (by omega) ?_;intro _))
    repeat (first|refine go ?_|intro _|refine dr_Mw3_49m ?_|refine drq ?_|refine cal @hA ?_|refine cal @hAc ?_|refine cal @hT ?_)
    (apply WE_ret rfl rfl zqR)
    · exact ⟨rfl,rfl⟩
    · (apply maoh_in;(focus (exact entu0));all_goals exact zqS)
theorem ma_del2 {F:List HP} {b:Nat} {c:Cfg} {s:MaS} {x:MaX} {n:Nat} {j:Int} (hw:c.wf) (hl:MaL c n s) (hn:n≤1000000000000) (hx:MaF c s x) (h:natB s.n 1 j=true) (h2:nleft c s.n 2≠0) :
    FnF Tryz.prog 49 [.pointer (some ⟨b,0,none⟩),.int .i64 1,.int .i64 j] [MaQ b c s x] F (fun r L'=>r= .bool (maDelB c s 1 j)∧L'=[MaQ b c (maDelS c s 1 j) { x with pt:=x.pt}]):=by
  obtain ⟨⟨f1,f2,f3⟩,⟨f4,f5,f6⟩,f7⟩:=id hx
  have hmem:=hl.nt 1 _ (nat_mem h)
  have hk':=hmem.2
  obtain ⟨d0,d1⟩:=may_core hmem.1 (by unfold netK at hk';unfold HomeP;split at hk'<;>(try split at hk')<;>(try split at hk')<;>omega)
  obtain ⟨i,hd⟩:∃ i:Nat,(natM s.n 1 j).dst=i:=⟨(natM s.n 1 j).dst.toNat,by omega⟩
  have hk:i<x.kb.length:=by omega
  have ha:i<x.ab.length:=by omega
  have eA:maA s (i:Int)=s.cs.getD i caZ:=rfl
  have hX:=hl.cai (i:Int)
  have ho:=hl.od
  have hno:¬(natB s.n 1 j=false∨(1:Int)=1∧nleft c s.n 2=0):=by rw [h];simp [h2]
  have hA:=fun F=>net_At (F:=F) (b:=x.bn) (c:=c) (n:=s.n) (k:=1) (i:=j)
  have hL:=fun F=>net_Left (F:=F) (b:=x.bn) (c:=c) (n:=s.n) (k:=2)
  have hT:=fun F=>net_Take (F:=F) (b:=x.bn) (c:=c) (n:=s.n) (k:=1) (i:=j)
  have hAn:=fun F=>ma_answered (F:=F) (b:=b) (c:=c) (odd:=s.odd) (nk:=x.kb.length) (nh:=x.hb.length) (nt:=s.tr.length) (pk:=x.pk) (pa:=x.pa) (ph:=x.ph) (pt:=x.pt) (bn:=x.bn) (ab:=x.ab) (a:=s.cs.getD i caZ) (n:=ntakeN s.n 1 j) (m:=natM s.n 1 j) hw ha hd ⟨ho.1,by omega⟩ (got_ok hX hn)
  simp only [h] at hA
  have eB:maDelB c s 1 j=true:=by unfold maDelB;rw [if_neg hno,if_neg (by decide)]
  have eS:maDelS c s 1 j=⟨s.ks.set i (s.ks.getD i coZ),s.cs.set i (caTakeK c i (s.cs.getD i caZ) (natM s.n 1 j)),s.hs,if caTakeB c i (s.cs.getD i caZ) (natM s.n 1 j) then nsendN c (ntakeN s.n 1 j) (caTakeM c i (s.cs.getD i caZ) (natM s.n 1 j)) else ntakeN s.n 1 j,s.tr,if caTakeE c i (s.cs.getD i caZ) (natM s.n 1 j)=0 then s.odd else s.odd+1⟩:=by
    unfold maDelS;rw [if_neg hno,if_neg (by decide),if_pos rfl,take_eq,hd,set_getD];rfl
  rw [eB,eS]
  refine FnF.mk' Tryz.func49 rfl rfl Tryz.ntmps49 rfl ?_
  refine maoi_open hk ha fun hf=>?_
  repeat (first|refine go ?_|intro _|refine dr_Mw3_49m ?_|refine drq ?_|refine cal @hA ?_|refine cal @hL ?_|refine cal @hT ?_|refine cal @hAn ?_)
  (apply WE_ret rfl rfl zqR)
  · exact ⟨rfl,rfl⟩
  · (apply maoi_in;(focus (exact entu0));all_goals exact zqS)
end Go.Sx

/- What caches make of messages keeps each line's protocol: data, grants, acks, packs. My own work. -/
namespace Go.Sx
open Go Go.Proofs
def LIx (c:Cfg) (t:MaS) (d L:Int):Prop:=∀ line,okLine c line=true→LI (maV c t line)∧∀ r m,(maV c t line).ms r=some m→m.needs=m.got→m.ow=true∨(line=L∧r=d)
section
variable {c:Cfg} {n:Nat} {s:MaS} {line j k:Int}
theorem lis_fill {t:MaS} {d L:Int} {m:AMs Words} (h:LIx c t d L) (hx:CaX3 c n (maA t d)) (h0:0≤d) (h1:d<t.cs.length) (hm:cms (maA t d) L=some m) (how:m.ow=false) (hn:m.needs≠ -1) (hown:0≤m.own∧m.own≤4):LIs c (maAs t d (caFill c (maA t d) L)):=by
  intro line hline
  obtain ⟨hLI,hNF⟩:=h line hline
  obtain ⟨v1,v2,v3,v4⟩:=v_i (c:=c) (s:=t) (line:=line) h0
  by_cases hg:m.needs=m.got
  · have ev:=ev_fill hx hm hg how hown
    have hp:=ev_pt (c:=c) (s:=t) (s':=maAs t d (caFill c (maA t d) L)) (line:=line) h0 h1 rfl ev
    by_cases hL:line=L
    · subst hL
      rw [if_pos rfl,if_pos rfl,if_pos rfl] at hp
      refine ⟨li_fill (r:=d) (m:=m) hLI (by rw [v3];exact hm) hn hg how hp.st (fun x hx=>?_) hp.ms (pt_same hp.bf v4.symm) (List.Perm.refl _) (List.Perm.refl _) rfl rfl (fun _=>rfl) rfl rfl,fun r m' hm' hn'=>?_⟩
      · rw [hp.wd x hx,v2]
      · have e:=(hp.ms r).symm.trans hm'
        by_cases hr:r=d
        · rw [if_pos hr] at e;cases e;rfl
        · rw [if_neg hr] at e
          rcases hNF r m' e hn' with g|g
          · exact g
          · exact absurd g.2 hr
    · rw [if_neg hL,if_neg hL,if_neg hL] at hp
      have hN:NF (maV c t line):=fun r m' hm' hn'=>by
        rcases hNF r m' hm' hn' with g|g
        · exact g
        · exact absurd g.1 hL
      exact ev_same h0 hp rfl rfl rfl rfl rfl rfl (List.Perm.refl _) (List.Perm.refl _) ⟨hLI,hN⟩
  · rw [ev_nofill hm (.inl hg),as_same]
    refine ⟨hLI,fun r m' hm' hn'=>?_⟩
    rcases hNF r m' hm' hn' with g|⟨g1,g2⟩
    · exact g
    · subst g1 g2
      rw [v3,hm] at hm'
      cases hm'
      exact absurd hn' hg
structure Tk2 (c:Cfg) (s s':MaS) (j:Int) (m:Msg) (k':CaS):Prop where
  cs:s'.cs=(maAs s m.dst k').cs
  hs:s'.hs=s.hs
  tr:s'.tr=s.tr
  n:s'.n=ntakeN s.n 2 j
theorem tk2_rq {s':MaS} {m:Msg} {k':CaS} (h:Tk2 c s s' j m k') (hb:natB s.n 2 j=true):(maV c s' line).rq.Perm (maV c s line).rq:=by
  have hH:maHo c s' line=maHo c s line:=by unfold maHo maH;rw [h.hs]
  show (vrq line s'.n (maHo c s' line).q).Perm _
  rw [h.n,hH]
  exact (take_fr (c:=c) (line:=line) hb (.inr rfl)).1.symm
theorem tk2_fly {s':MaS} {m:Msg} {k':CaS} (h:Tk2 c s s' j m k') (hb:natB s.n 2 j=true) (hm:natM s.n 2 j=m):(maV c s line).fly.Perm (if m.line=line then amM m::(maV c s' line).fly else (maV c s' line).fly):=by
  have hH:maHo c s' line=maHo c s line:=by unfold maHo maH;rw [h.hs]
  have:=(take_fr (c:=c) (line:=line) hb (.inr rfl)).2
  rw [hm] at this
  have e:(maV c s' line).fly=vfly line (ntakeN s.n 2 j) (maHo c s line).q:=by
    show vfly line s'.n (maHo c s' line).q=_
    rw [h.n,hH]
  rw [e];exact this
theorem tk2_rest {s':MaS} {m:Msg} {k':CaS} (h:Tk2 c s s' j m k'):(maV c s' line).act=(maV c s line).act∧(maV c s' line).o=(maV c s line).o∧(∀ x,(maV c s' line).sh x=(maV c s line).sh x)∧(maV c s' line).mem=(maV c s line).mem∧(maV c s' line).now=(maV c s line).now:=by
  have hH:maHo c s' line=maHo c s line:=by unfold maHo maH;rw [h.hs]
  refine ⟨?_,?_,fun x=>?_,?_,?_⟩
  · show actQ line (maHo c s' line).q=_;rw [hH];rfl
  · show (hmEnt (maHo c s' line) line).o=_;rw [hH];rfl
  · show shHas (hmEnt (maHo c s' line) line).s x=_;rw [hH];rfl
  · show lineWo c (maHo c s' line).ms line=_;rw [hH];rfl
  · show lineWo c (trMs c s'.tr) line=_;rw [h.tr];rfl
theorem tok_miss {v:LV Words} (h:LI v) {d own acks:Int} {w:Words} (hx: .data d own acks w∈v.fly):∃ a,v.ms d=some a∧a.needs= -1∧a.ow=false∧a.got≤acks∧((a.kind=2∧own=4)∨(a.kind=1∧acks=0∧(own=1∨own=2))):=by
  obtain ⟨k0,r0,a,h1,h2,h3,h4,h5,h6,h7,h8,h9,h10,h11,h12⟩:=tok_act h hx rfl
  have e1:d=r0:=h12
  have e2:acks=a.got+v.ci:=h11
  subst e1
  refine ⟨a,h3,h5,h6,by omega,?_⟩
  rcases (h.aK _ _ h1).1 with rfl|rfl
  · right
    rcases h.f1 _ h1 _ hx with ⟨_,g⟩|⟨_,g⟩|⟨_,_,g,g2⟩|g
    · cases g
    · cases g
    · cases g;exact ⟨h4,rfl,g2⟩
    · cases g
  · left
    rcases h.f2 _ h1 _ hx with ⟨_,g⟩|⟨_,_,g⟩|⟨_,_,g⟩|⟨_,g⟩|⟨_,g⟩|g|g
    all_goals first|(cases g;exact ⟨h4,rfl⟩)|cases g
theorem grant_miss {v:LV Words} (h:LI v) {d acks:Int} (hx: .grant d acks∈v.fly):∃ a,v.ms d=some a∧a.needs= -1∧a.ow=false∧a.got≤acks∧a.kind=2∧v.st d=3:=by
  obtain ⟨k0,r0,a,h1,h2,h3,h4,h5,h6,h7,h8,h9,h10,h11,h12⟩:=tok_act h hx rfl
  have e1:d=r0:=h12
  have e2:acks=a.got+v.ci:=h11
  subst e1
  refine ⟨a,h3,h5,h6,by omega,?_,(h.tg _ _ hx).1⟩
  rcases (h.aK _ _ h1).1 with rfl|rfl
  · exfalso
    rcases h.f1 _ h1 _ hx with ⟨_,g⟩|⟨_,g⟩|⟨_,_,g,_⟩|g<;>cases g
  · exact h4
theorem ack_miss {v:LV Words} (h:LI v) {d:Int} (hx: .ack d∈v.fly):∃ a,v.ms d=some a∧a.ow=false∧a.kind=2∧a.needs≠a.got∧(a.needs≠ -1→a.own=4)∧0≤a.got:=by
  have hi:=ci_pos hx rfl
  have hact:v.act=some (2,d):=by
    cases e:v.act with
    |none=>obtain ⟨_,g⟩:=h.f0 e _ hx;cases g
    |some a=>
     obtain ⟨k0,r0⟩:=a
     rcases (h.aK _ _ e).1 with rfl|rfl
     · rcases h.f1 _ e _ hx with ⟨_,g⟩|⟨_,g⟩|⟨_,_,g,_⟩|g<;>cases g
     · rcases h.f2 _ e _ hx with ⟨_,g⟩|⟨_,_,g⟩|⟨_,_,g⟩|⟨_,g⟩|⟨_,g⟩|g|g
       all_goals first|(cases g;rfl)|cases g
  rcases h.p _ _ hact with ⟨a,g1,g2,g3,g4,g5,g6,g7,g8,g9⟩|⟨a,g1,g2,g3,g4,g5,g6,g7,g8,g9,g10⟩|⟨a,g1,g2,g3,g4,g5,g6,g7,g8,g9⟩|⟨g1,g2,g3⟩
  · exact ⟨a,g1,g5,g2,by omega,fun e=>absurd g3 e,g4⟩
  · exact ⟨a,g1,g5,g2,by omega,fun _=>g9 rfl,g3⟩
  · omega
  · omega
theorem lix_turn {t:MaS} {m:Msg} {k':CaS} {a':AMs Words} (h:LIs c s) (hl:MaL c n s) (hb:natB s.n 2 j=true) (hm:natM s.n 2 j=m) (hd:0≤m.dst∧m.dst<c.cores) (ht:Tk2 c s t j m k')
    (ev:CaEv c (maA s m.dst) k' (cst c (maA s m.dst)) (cwd c (maA s m.dst)) (fun x=>if x=m.line then some a' else cms (maA s m.dst) x) (cbf (maA s m.dst)))
    (hli:okLine c m.line=true→LI (maV c s m.line)→(∀ x,(maV c t m.line).st x=(maV c s m.line).st x)→(∀ x,(maV c t m.line).st x≠0→(maV c t m.line).wd x=(maV c s m.line).wd x)→(∀ x,(maV c t m.line).ms x=if x=m.dst then some a' else (maV c s m.line).ms x)→(∀ x,(maV c t m.line).bf x=(maV c s m.line).bf x)→LI (maV c t m.line)):LIx c t m.dst m.line:=by
  intro line hline
  obtain ⟨hLI,hNF⟩:=h line hline
  obtain ⟨v1,v2,v3,v4⟩:=v_i (c:=c) (s:=s) (line:=line) hd.1
  have hp:=ev_pt (c:=c) (s:=s) (s':=t) (line:=line) hd.1 (cs_rng hl hd) ht.cs ev
  have hq:=tk2_rq (c:=c) (line:=line) ht hb
  have hf:=tk2_fly (c:=c) (line:=line) ht hb hm
  by_cases hL:line=m.line
  · subst hL
    rw [if_pos rfl] at hp
    refine ⟨hli hline hLI (pt_same hp.st v1.symm) (fun x hx=>?_) hp.ms (pt_same hp.bf v4.symm),fun r m' hm' hn=>?_⟩
    · refine (hp.wd x hx).trans ?_
      split
      · rename_i g;rw [g,v2]
      · rfl
    · have e:=(hp.ms r).symm.trans hm'
      by_cases hr:r=m.dst
      · exact .inr ⟨rfl,hr⟩
      · rw [if_neg hr] at e
        exact .inl (hNF r m' e hn)
  · rw [if_neg hL] at hp
    rw [if_neg (fun g=>hL g.symm)] at hf
    have:=ev_same hd.1 hp rfl rfl rfl rfl ht.hs (by rw [ht.tr]) hq hf.symm ⟨hLI,hNF⟩
    exact ⟨this.1,fun r m' hm' hn=> .inl (this.2 r m' hm' hn)⟩
theorem tk2_mk (m:Msg) (k':CaS):Tk2 c s (maAs (maNs s (ntakeN s.n 2 j)) m.dst k') j m k':=⟨rfl,rfl,rfl,rfl⟩
theorem as_as (t:MaS) (d:Int) (k1 k2:CaS):maAs (maAs t d k1) d k2=maAs t d k2:=by unfold maAs;simp only [List.set_set]
theorem ma_as (hl:MaL c n s) {d:Int} (hd:0≤d∧d<c.cores) (k':CaS):maA (maAs (maNs s (ntakeN s.n 2 j)) d k') d=k':=by
  have:=cs_rng hl hd
  show (s.cs.set d.toNat k').getD d.toNat caZ=k'
  rw [List.getD_eq_getElem?_getD,List.getElem?_set_self (by omega)];rfl
theorem fill_at (hl:MaL c n s) {m:Msg} {k1:CaS} {a':AMs Words} (hd:0≤m.dst∧m.dst<c.cores) (hx:CaX3 c (n+1) k1) (h:LIx c (maAs (maNs s (ntakeN s.n 2 j)) m.dst k1) m.dst m.line) (hm:cms k1 m.line=some a') (how:a'.ow=false) (hn:a'.needs≠ -1) (hown:0≤a'.own∧a'.own≤4) :
    LIs c (maAs (maNs s (ntakeN s.n 2 j)) m.dst (caFill c k1 m.line)):=by
  have e:=ma_as (j:=j) hl hd k1
  have:=lis_fill (t:=maAs (maNs s (ntakeN s.n 2 j)) m.dst k1) (d:=m.dst) (L:=m.line) (n:=n+1) h (by rw [e];exact hx) hd.1 (by show m.dst<((s.cs.set _ _).length:Int);rw [List.length_set];exact cs_rng hl hd) (by rw [e];exact hm) how hn hown
  rw [e,as_as] at this
  exact this
theorem may_lnk {m:Msg} (h:MayP c m):okLine c m.line=true:=by unfold okLine;rw [h.1,decide_eq_true h.2.2.1];rfl
theorem lis_data {m:Msg} (h:LIs c s) (hl:MaL c n s) (hb:natB s.n 2 j=true) (hm:natM s.n 2 j=m) (hk:m.kind=7):caTakeE c m.dst (maA s m.dst) m=0∧LIs c (maAs (maNs s (ntakeN s.n 2 j)) m.dst (caTakeK c m.dst (maA s m.dst) m)):=by
  have hmay:=(hl.nt 2 _ (nat_mem hb)).1
  rw [hm] at hmay
  have hd:=may_core hmay (by unfold HomeP;omega)
  have hlok:=may_lnk hmay
  have hA:amM m= .data m.dst m.own m.acks m.words:=by
    unfold amM
    rw [if_neg (by omega),if_neg (by omega),if_neg (by omega),if_neg (by omega),if_neg (by omega),if_pos hk]
  have hf:=(take_fr (c:=c) (line:=m.line) hb (.inr rfl)).2
  rw [hm,if_pos rfl,hA] at hf
  obtain ⟨a,a1,a2,a3,a4,a5⟩:=tok_miss (h _ hlok).1 (hf.mem_iff.2 (List.mem_cons_self ..))
  obtain ⟨v1,v2,v3,v4⟩:=v_i (c:=c) (s:=s) (line:=m.line) hd.1
  have a1':cms (maA s m.dst) m.line=some a:=v3.symm.trans a1
  obtain ⟨hE,ev⟩:=ev_data1 (c:=c) (w:=m.words) a1' a2 a4 a5
  have hok:=take_ok hmay (by omega)
  have hacks:0≤m.acks:=by
    have h4:=hmay.2.2.2.1
    unfold FormP at h4
    rw [if_neg (by unfold HomeP;omega),if_neg (by omega),if_neg (by omega),if_pos hk] at h4
    exact h4.2.1.1
  have hE7:err7 (dataE (maA s m.dst).mis m.line m.acks m.own)=0:=by rw [hE];rfl
  have hK:caTakeK c m.dst (maA s m.dst) m=caFill c ⟨(maA s m.dst).ways,dataL (maA s m.dst).mis m.line m.acks m.own m.words,(maA s m.dst).buf⟩ m.line:=by
    unfold caTakeK caDataK
    rw [if_pos hok,if_neg (by omega),if_neg (by omega),if_neg (by omega),if_pos hk,if_pos hE]
  refine ⟨by unfold caTakeE;rw [if_pos hok,if_neg (by omega),if_neg (by omega),if_pos hk,hE7],?_⟩
  rw [hK]
  have hx:=hl.cai m.dst
  have hx':CaX3 c (n+1) ⟨(maA s m.dst).ways,dataL (maA s m.dst).mis m.line m.acks m.own m.words,(maA s m.dst).buf⟩:=
    ⟨⟨hx.1.1,hx.1.2.1,data_ms (fun m hm=>ms_mono (Nat.le_succ n) (hx.1.2.2 m hm))⟩,by
      have:=hx.2.1
      unfold CaJ misLs at this ⊢
      dsimp only
      rw [data_ls];exact this,hx.2.2.1,v_dataL hx.2.2.2.1 (may_vals hmay),hx.2.2.2.2⟩
  refine fill_at (a':={ a with needs:=m.acks,own:=m.own,w:=m.words}) hl hd hx' ?_ (by rw [ev.ms,if_pos rfl]) a3 (by show m.acks≠ -1;omega) (by show 0≤m.own∧m.own≤4;omega)
  refine lix_turn h hl hb hm hd (tk2_mk m _) ev fun _ hLI hst hwd hms hbf=>?_
  obtain ⟨r1,r2,r3,r4,r5⟩:=tk2_rest (c:=c) (line:=m.line) (tk2_mk (c:=c) (s:=s) (j:=j) m ⟨(maA s m.dst).ways,dataL (maA s m.dst).mis m.line m.acks m.own m.words,(maA s m.dst).buf⟩)
  have hfly:=tk2_fly (c:=c) (line:=m.line) (tk2_mk (c:=c) (s:=s) (j:=j) m ⟨(maA s m.dst).ways,dataL (maA s m.dst).mis m.line m.acks m.own m.words,(maA s m.dst).buf⟩) hb hm
  rw [if_pos rfl,hA] at hfly
  exact li_data hLI a1 hst hwd hms hbf (tk2_rq (tk2_mk m _) hb) hfly (List.Perm.refl _) r1 r2 r3 r4 r5
theorem lis_grant {m:Msg} (h:LIs c s) (hl:MaL c n s) (hb:natB s.n 2 j=true) (hm:natM s.n 2 j=m) (hk:m.kind=8):caTakeE c m.dst (maA s m.dst) m=0∧LIs c (maAs (maNs s (ntakeN s.n 2 j)) m.dst (caTakeK c m.dst (maA s m.dst) m)):=by
  have hmay:=(hl.nt 2 _ (nat_mem hb)).1
  rw [hm] at hmay
  have hd:=may_core hmay (by unfold HomeP;omega)
  have hlok:=may_lnk hmay
  have hA:amM m= .grant m.dst m.acks:=by
    unfold amM
    rw [if_neg (by omega),if_neg (by omega),if_neg (by omega),if_neg (by omega),if_neg (by omega),if_neg (by omega),if_pos hk]
  have hf:=(take_fr (c:=c) (line:=m.line) hb (.inr rfl)).2
  rw [hm,if_pos rfl,hA] at hf
  obtain ⟨a,a1,a2,a3,a4,a5,a6⟩:=grant_miss (h _ hlok).1 (hf.mem_iff.2 (List.mem_cons_self ..))
  obtain ⟨v1,v2,v3,v4⟩:=v_i (c:=c) (s:=s) (line:=m.line) hd.1
  have a1':cms (maA s m.dst) m.line=some a:=v3.symm.trans a1
  obtain ⟨hE,ev⟩:=ev_grant1 (c:=c) a1' a2 a4 a5
  have hok:=take_ok hmay (by omega)
  have hacks:0≤m.acks:=by
    have h4:=hmay.2.2.2.1
    unfold FormP at h4
    rw [if_neg (by unfold HomeP;omega),if_neg (by omega),if_neg (by omega),if_neg (by omega),if_pos hk] at h4
    exact h4.2.2.2.2.1
  have h3:(findW c (maA s m.dst).ways m.line).st=3:=v1.symm.trans a6
  have hG:caGrE c (maA s m.dst) m=0:=by unfold caGrE;rw [if_pos h3,hE];rfl
  have hK:caTakeK c m.dst (maA s m.dst) m=caFill c ⟨(maA s m.dst).ways,grantL (maA s m.dst).mis m.line m.acks,(maA s m.dst).buf⟩ m.line:=by
    unfold caTakeK caGrK
    rw [if_pos hok,if_neg (by omega),if_neg (by omega),if_neg (by omega),if_neg (by omega),if_pos hk,if_pos hG]
  refine ⟨by unfold caTakeE;rw [if_pos hok,if_neg (by omega),if_neg (by omega),if_neg (by omega),if_pos hk,hG],?_⟩
  rw [hK]
  have hx:=hl.cai m.dst
  have hx':CaX3 c (n+1) ⟨(maA s m.dst).ways,grantL (maA s m.dst).mis m.line m.acks,(maA s m.dst).buf⟩:=
    ⟨⟨hx.1.1,hx.1.2.1,grant_ms (fun m hm=>ms_mono (Nat.le_succ n) (hx.1.2.2 m hm))⟩,by
      have:=hx.2.1
      unfold CaJ misLs at this ⊢
      dsimp only
      rw [grant_ls];exact this,hx.2.2.1,v_grantL hx.2.2.2.1,hx.2.2.2.2⟩
  refine fill_at (a':={ a with needs:=m.acks,own:=4,w:= .zero,gr:=true}) hl hd hx' ?_ (by rw [ev.ms,if_pos rfl]) a3 (by show m.acks≠ -1;omega) (by show (0:Int)≤4∧(4:Int)≤4;omega)
  refine lix_turn h hl hb hm hd (tk2_mk m _) ev fun _ hLI hst hwd hms hbf=>?_
  obtain ⟨r1,r2,r3,r4,r5⟩:=tk2_rest (c:=c) (line:=m.line) (tk2_mk (c:=c) (s:=s) (j:=j) m ⟨(maA s m.dst).ways,grantL (maA s m.dst).mis m.line m.acks,(maA s m.dst).buf⟩)
  have hfly:=tk2_fly (c:=c) (line:=m.line) (tk2_mk (c:=c) (s:=s) (j:=j) m ⟨(maA s m.dst).ways,grantL (maA s m.dst).mis m.line m.acks,(maA s m.dst).buf⟩) hb hm
  rw [if_pos rfl,hA] at hfly
  exact li_grant hLI a1 hst hwd hms hbf (tk2_rq (tk2_mk m _) hb) hfly (List.Perm.refl _) r1 r2 r3 r4 r5
theorem lis_ack {m:Msg} (h:LIs c s) (hl:MaL c n s) (hb:natB s.n 2 j=true) (hm:natM s.n 2 j=m) (hk:m.kind=9):caTakeE c m.dst (maA s m.dst) m=0∧LIs c (maAs (maNs s (ntakeN s.n 2 j)) m.dst (caTakeK c m.dst (maA s m.dst) m)):=by
  have hmay:=(hl.nt 2 _ (nat_mem hb)).1
  rw [hm] at hmay
  have hd:=may_core hmay (by unfold HomeP;omega)
  have hlok:=may_lnk hmay
  have hA:amM m= .ack m.dst:=by
    unfold amM
    rw [if_neg (by omega),if_neg (by omega),if_neg (by omega),if_neg (by omega),if_neg (by omega),if_neg (by omega),if_neg (by omega),if_pos hk]
  have hf:=(take_fr (c:=c) (line:=m.line) hb (.inr rfl)).2
  rw [hm,if_pos rfl,hA] at hf
  obtain ⟨a,a1,a3,a5,a4,a7,a8⟩:=ack_miss (h _ hlok).1 (hf.mem_iff.2 (List.mem_cons_self ..))
  obtain ⟨v1,v2,v3,v4⟩:=v_i (c:=c) (s:=s) (line:=m.line) hd.1
  have a1':cms (maA s m.dst) m.line=some a:=v3.symm.trans a1
  obtain ⟨hE,ev⟩:=ev_ack1 (c:=c) a1' (by omega) a4
  have hok:=take_ok hmay (by omega)
  have hK:caTakeK c m.dst (maA s m.dst) m=caFill c ⟨(maA s m.dst).ways,ackL (maA s m.dst).mis m.line,(maA s m.dst).buf⟩ m.line:=by
    unfold caTakeK caAckK
    rw [if_pos hok,if_neg (by omega),if_neg (by omega),if_neg (by omega),if_neg (by omega),if_neg (by omega),if_pos hk,if_pos hE]
  refine ⟨by unfold caTakeE;rw [if_pos hok,if_neg (by omega),if_neg (by omega),if_neg (by omega),if_neg (by omega),if_pos hk,hE];rfl,?_⟩
  rw [hK]
  have hx:=hl.cai m.dst
  have hx':CaX3 c (n+1) ⟨(maA s m.dst).ways,ackL (maA s m.dst).mis m.line,(maA s m.dst).buf⟩:=
    ⟨⟨hx.1.1,hx.1.2.1,ack_ms hx.1.2.2⟩,by
      have:=hx.2.1
      unfold CaJ misLs at this ⊢
      dsimp only
      rw [ack_ls];exact this,hx.2.2.1,v_ackL hx.2.2.2.1,hx.2.2.2.2⟩
  have hX:LIx c (maAs (maNs s (ntakeN s.n 2 j)) m.dst ⟨(maA s m.dst).ways,ackL (maA s m.dst).mis m.line,(maA s m.dst).buf⟩) m.dst m.line:=by
    refine lix_turn h hl hb hm hd (tk2_mk m _) ev fun _ hLI hst hwd hms hbf=>?_
    obtain ⟨r1,r2,r3,r4,r5⟩:=tk2_rest (c:=c) (line:=m.line) (tk2_mk (c:=c) (s:=s) (j:=j) m ⟨(maA s m.dst).ways,ackL (maA s m.dst).mis m.line,(maA s m.dst).buf⟩)
    have hfly:=tk2_fly (c:=c) (line:=m.line) (tk2_mk (c:=c) (s:=s) (j:=j) m ⟨(maA s m.dst).ways,ackL (maA s m.dst).mis m.line,(maA s m.dst).buf⟩) hb hm
    rw [if_pos rfl,hA] at hfly
    exact li_ack hLI a1 hst hwd hms hbf (tk2_rq (tk2_mk m _) hb) hfly (List.Perm.refl _) r1 r2 r3 r4 r5
  have hc2:cms (⟨(maA s m.dst).ways,ackL (maA s m.dst).mis m.line,(maA s m.dst).buf⟩:CaS) m.line=some { a with got:=a.got+1}:=by rw [ev.ms,if_pos rfl]
  by_cases hn1:a.needs= -1
  · have e:=ma_as (j:=j) hl hd ⟨(maA s m.dst).ways,ackL (maA s m.dst).mis m.line,(maA s m.dst).buf⟩
    have hno:caFill c ⟨(maA s m.dst).ways,ackL (maA s m.dst).mis m.line,(maA s m.dst).buf⟩ m.line=⟨(maA s m.dst).ways,ackL (maA s m.dst).mis m.line,(maA s m.dst).buf⟩:=ev_nofill hc2 (.inl (by show a.needs≠a.got+1;omega))
    rw [hno]
    intro line hline
    obtain ⟨g1,g2⟩:=hX line hline
    refine ⟨g1,fun r m' hm' hn'=>?_⟩
    rcases g2 r m' hm' hn' with g|⟨e1,e2⟩
    · exact g
    · subst e1 e2
      have:=(v_i (c:=c) (s:=maAs (maNs s (ntakeN s.n 2 j)) m.dst ⟨(maA s m.dst).ways,ackL (maA s m.dst).mis m.line,(maA s m.dst).buf⟩) (line:=m.line) hd.1).2.2.1
      rw [this,e,hc2] at hm'
      cases hm'
      have:a.needs=a.got+1:=hn'
      omega
  · exact fill_at (a':={ a with got:=a.got+1}) hl hd hx' hX hc2 a3 hn1 (by have:=a7 hn1;show 0≤a.own∧a.own≤4;omega)
theorem lis_pack {m:Msg} (h:LIs c s) (hl:MaL c n s) (hb:natB s.n 2 j=true) (hm:natM s.n 2 j=m) (hk:m.kind=10):caTakeE c m.dst (maA s m.dst) m=0∧LIs c (maAs (maNs s (ntakeN s.n 2 j)) m.dst (caTakeK c m.dst (maA s m.dst) m)):=by
  have hmay:=(hl.nt 2 _ (nat_mem hb)).1
  rw [hm] at hmay
  have hd:=may_core hmay (by unfold HomeP;omega)
  have hlok:=may_lnk hmay
  have hA:amM m= .pack m.dst:=by
    unfold amM
    rw [if_neg (by omega),if_neg (by omega),if_neg (by omega),if_neg (by omega),if_neg (by omega),if_neg (by omega),if_neg (by omega),if_neg (by omega),if_pos hk]
  have hf:=(take_fr (c:=c) (line:=m.line) hb (.inr rfl)).2
  rw [hm,if_pos rfl,hA] at hf
  have hx:=hf.mem_iff.2 (List.mem_cons_self ..)
  have hin:wbIn (maA s m.dst).buf m.line=true:=by
    cases e:wbIn (maA s m.dst).buf m.line with
    |true=>rfl
    |false=>
     have hb0:(maV c s m.line).bf m.dst=none:=by rw [(v_i (c:=c) (s:=s) (line:=m.line) hd.1).2.2.2];unfold cbf;rw [wb_no e];rfl
     have:=((h _ hlok).1.b0 _ hb0).2
     have h1:1≤(maV c s m.line).ck m.dst:=cnt_pos hx (by unfold isPack;exact decide_eq_true rfl)
     omega
  have hok:=take_ok hmay (by omega)
  have hK:caTakeK c m.dst (maA s m.dst) m=caPaK (maA s m.dst) m.line:=by
    unfold caTakeK
    rw [if_pos hok,if_neg (by omega),if_neg (by omega),if_neg (by omega),if_neg (by omega),if_neg (by omega),if_neg (by omega)]
  refine ⟨by unfold caTakeE;rw [if_pos hok,if_neg (by omega),if_neg (by omega),if_neg (by omega),if_neg (by omega),if_neg (by omega)];unfold wbDropE;rw [if_pos hin];rfl,?_⟩
  rw [hK]
  have ev:=ev_pack (line:=m.line) (hl.cai m.dst)
  have ht:=tk2_mk (c:=c) (s:=s) (j:=j) m (caPaK (maA s m.dst) m.line)
  intro line hline
  obtain ⟨hLI,hNF⟩:=h line hline
  obtain ⟨v1,v2,v3,v4⟩:=v_i (c:=c) (s:=s) (line:=line) hd.1
  have hp:=ev_pt (c:=c) (s:=s) (line:=line) hd.1 (cs_rng hl hd) ht.cs ev
  have hq:=tk2_rq (c:=c) (line:=line) ht hb
  have hff:=tk2_fly (c:=c) (line:=line) ht hb hm
  by_cases hL:line=m.line
  · subst hL
    rw [if_pos rfl] at hp
    rw [if_pos rfl,hA] at hff
    obtain ⟨r1,r2,r3,r4,r5⟩:=tk2_rest (c:=c) (line:=m.line) ht
    have hms:=pt_same hp.ms v3.symm
    refine ⟨li_pack hLI (pt_same hp.st v1.symm) (fun x hx=>?_) hms hp.bf hq hff (List.Perm.refl _) r1 r2 r3 r4 r5,fun r m' hm' hn=>hNF r m' (by rw [←hms];exact hm') hn⟩
    refine (hp.wd x hx).trans ?_
    split
    · rename_i g;rw [g,v2]
    · rfl
  · rw [if_neg hL] at hp
    rw [if_neg (fun g=>hL g.symm)] at hff
    exact ev_same hd.1 hp rfl rfl rfl rfl ht.hs (by rw [ht.tr]) hq hff.symm ⟨hLI,hNF⟩
end
end Go.Sx

/- Deliveries to caches keep each line's protocol, and none is odd. My own work. -/
namespace Go.Sx
open Go Go.Proofs
section
variable {c:Cfg} {n:Nat} {s:MaS} {line j k:Int}
theorem lis_inv {m:Msg} (h:LIs c s) (hl:MaL c n s) (hb:natB s.n 1 j=true) (h2:nleft c s.n 2≠0) (hm:natM s.n 1 j=m) (hk:m.kind=6) :
    caTakeE c m.dst (maA s m.dst) m=0∧LIs c (maTake c (maNs s (ntakeN s.n 1 j)) m):=by
  have hmay:=(hl.nt 1 _ (nat_mem hb)).1
  rw [hm] at hmay
  obtain ⟨hd,hw,hwd,ha0,ha1,hlok⟩:=fwd_facts hmay (by omega)
  have hA:amM m= .inv m.dst m.who:=by
    unfold amM
    rw [if_neg (by omega),if_neg (by omega),if_neg (by omega),if_neg (by omega),if_pos hk]
  have hf0:=(take_fr (c:=c) (line:=m.line) hb (.inl rfl)).2
  rw [hm,if_pos rfl,hA] at hf0
  obtain ⟨_,hst2⟩:=(h _ hlok).1.iv _ _ (hf0.mem_iff.2 (List.mem_cons_self ..))
  rw [(v_i (c:=c) (s:=s) (line:=m.line) hd.1).1] at hst2
  have hI:caInvE c (maA s m.dst) m.line=0:=by
    unfold caInvE
    rw [if_neg (by show ¬2≤cst c (maA s m.dst) m.line;omega)]
  have hok:=take_ok hmay (by omega)
  have hE:caTakeE c m.dst (maA s m.dst) m=0:=by unfold caTakeE;rw [if_pos hok,if_neg (by omega),if_pos hk,hI]
  have hK:caTakeK c m.dst (maA s m.dst) m=caInvK c (maA s m.dst) m.line:=by
    unfold caTakeK
    rw [if_pos hok,if_neg (by omega),if_neg (by omega),if_pos hk,if_pos hI]
  have hM:caTakeM c m.dst (maA s m.dst) m=⟨9,m.line,m.dst,m.who,0,0,0,.zero⟩:=by
    unfold caTakeM caInvM
    rw [if_pos hok,if_neg (by omega),if_neg (by omega),if_pos hk,if_pos hI]
  have hB:caTakeB c m.dst (maA s m.dst) m=true:=by unfold caTakeB;exact decide_eq_true ⟨hE,by omega,by omega⟩
  refine ⟨hE,?_⟩
  have hS:maTake c (maNs s (ntakeN s.n 1 j)) m=maSend c (maOdd (maAs (maNs s (ntakeN s.n 1 j)) m.dst (caInvK c (maA s m.dst) m.line)) (decide (caTakeE c m.dst (maA s m.dst) m≠0))) ⟨9,m.line,m.dst,m.who,0,0,0,.zero⟩:=by
    unfold maTake
    show (if caTakeB c m.dst (maA s m.dst) m=true then maSend c (maOdd (maAs (maNs s (ntakeN s.n 1 j)) m.dst (caTakeK c m.dst (maA s m.dst) m)) (decide (caTakeE c m.dst (maA s m.dst) m≠0))) (caTakeM c m.dst (maA s m.dst) m) else _)=_
    rw [if_pos hB,hK,hM]
  rw [hS]
  have hcl:=cs_rng hl hd
  have hD:MayP c ⟨9,m.line,m.dst,m.who,0,0,0,.zero⟩:=by
    refine ⟨hl.ok,⟨by show (1:Int)≤9;decide,by show (9:Int)≤11;decide⟩,hmay.2.2.1,?_,?_⟩
    · unfold FormP
      rw [if_neg (by unfold HomeP;simp),if_neg (by simp),if_neg (by simp),if_neg (by simp),if_neg (by simp),if_neg (by simp)]
      exact ⟨hd,hw,fun e=>hwd e.symm,rfl,rfl,by show (0:Int)≤0;omega,by show (0:Int)<_;simp⟩
    · unfold WordsP
      rw [if_neg (by show ¬Wordy 9;unfold Wordy;omega)]
  have hroom:0<nleft c (ntakeN s.n 1 j) (netK (⟨9,m.line,m.dst,m.who,0,0,0,.zero⟩:Msg).kind):=by
    show 0<nleft c (ntakeN s.n 1 j) 2
    rw [left_take]
    have:=left_nn hl (k:=2) rfl
    omega
  generalize hs':maSend c (maOdd (maAs (maNs s (ntakeN s.n 1 j)) m.dst (caInvK c (maA s m.dst) m.line)) (decide (caTakeE c m.dst (maA s m.dst) m≠0))) ⟨9,m.line,m.dst,m.who,0,0,0,.zero⟩=s'
  have hcs:s'.cs=(maAs s m.dst (caInvK c (maA s m.dst) m.line)).cs:=by rw [←hs'];rfl
  have hhs:s'.hs=s.hs:=by rw [←hs'];rfl
  have htr:s'.tr=s.tr:=by rw [←hs'];rfl
  have hns:s'.n=nsendN c (ntakeN s.n 1 j) ⟨9,m.line,m.dst,m.who,0,0,0,.zero⟩:=by rw [←hs'];rfl
  have hev:CaEv c (maA s m.dst) (caInvK c (maA s m.dst) m.line) (fun x=>if x=m.line∧cst c (maA s m.dst) m.line=1 then 0 else cst c (maA s m.dst) x) (cwd c (maA s m.dst)) (cms (maA s m.dst)) (cbf (maA s m.dst)):=by
    by_cases h1:cst c (maA s m.dst) m.line=1
    · have ev:=ev_inv1 (hl.cai m.dst) h1
      refine ⟨fun x=>(ev.st x).trans ?_,ev.wd,ev.ms,ev.bf⟩
      by_cases hx:x=m.line
      · rw [if_pos hx,if_pos ⟨hx,h1⟩]
      · rw [if_neg hx,if_neg (fun g=>hx g.1)]
    · rw [ev_inv2 h1]
      exact ⟨fun x=>(if_neg (fun g=>h1 g.2)).symm,fun x _=>rfl,fun x=>rfl,fun x=>rfl⟩
  intro line hline
  obtain ⟨hLI,hNF⟩:=h line hline
  have hH:maHo c s' line=maHo c s line:=by unfold maHo maH;rw [hhs]
  obtain ⟨q1,q2⟩:=take_fr (c:=c) (line:=line) hb (.inl rfl)
  rw [hm] at q2
  have hq:(maV c s' line).rq.Perm (maV c s line).rq:=by
    have:=vrq_send (line:=line) (q:=(maHo c s line).q) hD hroom
    rw [if_neg (fun g=>by cases g.2)] at this
    show (vrq line s'.n (maHo c s' line).q).Perm _
    rw [hns,hH]
    exact this.trans q1.symm
  have hf:(maV c s' line).fly.Perm (if m.line=line then .ack m.who::vfly line (ntakeN s.n 1 j) (maHo c s line).q else vfly line (ntakeN s.n 1 j) (maHo c s line).q):=by
    have:=vfly_send (line:=line) (q:=(maHo c s line).q) hD hroom
    show (vfly line s'.n (maHo c s' line).q).Perm _
    rw [hns,hH]
    refine this.trans ?_
    by_cases hL:m.line=line
    · rw [if_pos hL,if_pos ⟨hL,by show (2:Int)≠0;decide⟩];exact List.Perm.refl _
    · rw [if_neg hL,if_neg (fun g=>hL g.1)]
  obtain ⟨v1,v2,v3,v4⟩:=v_i (c:=c) (s:=s) (line:=line) hd.1
  have hnow:lineWo c (trMs c s'.tr) line=lineWo c (trMs c s.tr) line:=by rw [htr]
  have hp:=ev_pt (c:=c) (s:=s) (s':=s') (line:=line) hd.1 hcl hcs hev
  by_cases hL:m.line=line
  · subst hL
    rw [if_pos rfl] at hf
    rw [if_pos rfl,hA] at q2
    have e1:(maV c s' m.line).act=(maV c s m.line).act:=by show actQ _ (maHo c s' _).q=_;rw [hH];rfl
    have e2:(maV c s' m.line).o=(maV c s m.line).o:=by show (hmEnt (maHo c s' _) _).o=_;rw [hH];rfl
    have e3:∀ x,(maV c s' m.line).sh x=(maV c s m.line).sh x:=fun x=>by show shHas (hmEnt (maHo c s' _) _).s x=_;rw [hH];rfl
    have e4:(maV c s' m.line).mem=(maV c s m.line).mem:=by show lineWo c (maHo c s' _).ms _=_;rw [hH];rfl
    have hms:=pt_same hp.ms v3.symm
    have hwd':∀ x,(maV c s' m.line).st x≠0→(maV c s' m.line).wd x=(maV c s m.line).wd x:=fun x hx=>by
      refine (hp.wd x hx).trans ?_
      split
      · rename_i g;rw [g,v2]
      · rfl
    refine ⟨?_,fun r m' hm' hn=>hNF r m' (by rw [←hms];exact hm') hn⟩
    by_cases h1:cst c (maA s m.dst) m.line=1
    · have hst:=hp.st
      rw [if_pos ⟨rfl,h1⟩] at hst
      exact li_inv1 hLI (v1.trans h1) hst hwd' hms (pt_same hp.bf v4.symm) hq q2 hf e1 e2 e3 e4 hnow
    · have hst:=hp.st
      rw [if_neg (fun g=>h1 g.2)] at hst
      exact li_inv2 hLI (by rw [v1];exact h1) (pt_same hst v1.symm) hwd' hms (pt_same hp.bf v4.symm) hq q2 hf e1 e2 e3 e4 hnow
  · rw [if_neg hL] at hf q2
    rw [if_neg (fun g=>hL g.1.symm)] at hp
    exact ev_same hd.1 hp rfl rfl rfl rfl hhs hnow hq (hf.trans q2.symm) ⟨hLI,hNF⟩
theorem take_tr (m:Msg):(maTake c s m).tr=s.tr:=by unfold maTake;split<;>rfl
theorem take_odd {m:Msg} (h:caTakeE c m.dst (maA s m.dst) m=0):(maTake c s m).odd=s.odd:=by
  unfold maTake
  have:decide (caTakeE c m.dst (maA s m.dst) m≠0)=false:=decide_eq_false (fun g=>g h)
  rw [this]
  split<;>rfl
theorem net_kind (hl:MaL c n s) (hb:natB s.n k j=true):netK (natM s.n k j).kind=k:=(hl.nt k _ (nat_mem hb)).2
theorem lt_del1 (h:LT c s) (hl:MaL c n s) (hb:natB s.n 1 j=true) (h2:nleft c s.n 2≠0):LT c (maTake c (maNs s (ntakeN s.n 1 j)) (natM s.n 1 j))∧(maTake c (maNs s (ntakeN s.n 1 j)) (natM s.n 1 j)).odd=s.odd:=by
  have hk:=net_kind hl hb
  have hk':(natM s.n 1 j).kind=4∨(natM s.n 1 j).kind=5∨(natM s.n 1 j).kind=6:=by
    unfold netK at hk
    split at hk
    · omega
    · split at hk
      · omega
      · split at hk<;>omega
  have key:caTakeE c (natM s.n 1 j).dst (maA s (natM s.n 1 j).dst) (natM s.n 1 j)=0∧LIs c (maTake c (maNs s (ntakeN s.n 1 j)) (natM s.n 1 j)):=by
    rcases hk' with g|g|g
    · exact lis_fwd (kd:=1) (st:=3) (own:=1) (g:=false) h.1 hl hb h2 rfl (.inl ⟨g,rfl,rfl,rfl,rfl⟩)
    · exact lis_fwd (kd:=2) (st:=0) (own:=4) (g:=true) h.1 hl hb h2 rfl (.inr ⟨g,rfl,rfl,rfl,rfl⟩)
    · exact lis_inv h.1 hl hb h2 rfl g
  exact ⟨⟨key.2,by rw [take_tr];exact h.2⟩,take_odd (s:=maNs s (ntakeN s.n 1 j)) key.1⟩
theorem lt_del2 (h:LT c s) (hl:MaL c n s) (hb:natB s.n 2 j=true) (h11:(natM s.n 2 j).kind≠11):LT c (maThen c (maTake c (maNs s (ntakeN s.n 2 j)) (natM s.n 2 j)) (natM s.n 2 j))∧(maThen c (maTake c (maNs s (ntakeN s.n 2 j)) (natM s.n 2 j)) (natM s.n 2 j)).odd=s.odd:=by
  have hk:=net_kind hl hb
  have hmay:=(hl.nt 2 _ (nat_mem hb)).1
  have hk':(natM s.n 2 j).kind=7∨(natM s.n 2 j).kind=8∨(natM s.n 2 j).kind=9∨(natM s.n 2 j).kind=10:=by
    unfold netK at hk
    split at hk
    · omega
    · split at hk
      · omega
      · split at hk<;>omega
  have hd:=may_core hmay (by unfold HomeP;omega)
  have key:caTakeE c (natM s.n 2 j).dst (maA s (natM s.n 2 j).dst) (natM s.n 2 j)=0∧LIs c (maAs (maNs s (ntakeN s.n 2 j)) (natM s.n 2 j).dst (caTakeK c (natM s.n 2 j).dst (maA s (natM s.n 2 j).dst) (natM s.n 2 j))):=by
    rcases hk' with g|g|g|g
    · exact lis_data h.1 hl hb rfl g
    · exact lis_grant h.1 hl hb rfl g
    · exact lis_ack h.1 hl hb rfl g
    · exact lis_pack h.1 hl hb rfl g
  have hB:caTakeB c (natM s.n 2 j).dst (maA s (natM s.n 2 j).dst) (natM s.n 2 j)=false:=by unfold caTakeB;exact decide_eq_false (by omega)
  have hT:maTake c (maNs s (ntakeN s.n 2 j)) (natM s.n 2 j)=maOdd (maAs (maNs s (ntakeN s.n 2 j)) (natM s.n 2 j).dst (caTakeK c (natM s.n 2 j).dst (maA s (natM s.n 2 j).dst) (natM s.n 2 j))) (decide (caTakeE c (natM s.n 2 j).dst (maA s (natM s.n 2 j).dst) (natM s.n 2 j)≠0)):=by
    unfold maTake
    exact if_neg (by show ¬caTakeB c (natM s.n 2 j).dst (maA s (natM s.n 2 j).dst) (natM s.n 2 j)=true;rw [hB];simp)
  have hLT:LT c (maTake c (maNs s (ntakeN s.n 2 j)) (natM s.n 2 j)):=⟨by rw [hT];exact key.2,by rw [take_tr];exact h.2⟩
  have hML:MaL c (n+1) (maTake c (maNs s (ntakeN s.n 2 j)) (natM s.n 2 j)):=(hl.take 2 j).taken _
  have ho:=take_odd (s:=maNs s (ntakeN s.n 2 j)) (c:=c) key.1
  unfold maThen
  split
  · refine ⟨lt_does hLT hML hd,?_⟩
    unfold maDoes
    split
    · exact ho
    · exact ho
  · exact ⟨hLT,ho⟩
end
end Go.Sx

/- A new machine: each line's protocol holds. My own work. -/
namespace Go.Sx
open Go Go.Proofs
theorem li_new {W:Type} {v:LV W} (h1:∀ x,v.st x=0) (h2:∀ x,v.ms x=none) (h3:∀ x,v.bf x=none) (h4:v.rq=[]) (h5:v.fly=[]) (h6:v.act=none) (h7:v.o= -1) (h8:v.mem=v.now):LI v:=by
  constructor<;>intros<;>first|grind [LV.cg,LV.cp,LV.ck,LV.ct,LV.ci,LV.cd,LV.busy,LV.holds]
section
variable {c:Cfg} {n:Nat} {s:MaS} {line:Int}
theorem vw_new (m:Nat) (line:Int):vw c (List.replicate m .zero) line=none:=by
  cases e:vw c (List.replicate m .zero) line with
  |none=>rfl
  |some w=>
   obtain ⟨_,h2,h3,_⟩:=vw_some e
   obtain ⟨_,rfl⟩:=List.mem_replicate.1 h3
   cases h2
theorem ca_new {ps:List (List Op3)} (r:Int):maCa (maNew c ps) r=caNew c∨maCa (maNew c ps) r=caZ:=by
  unfold maCa maA
  split
  · show (ps.map fun _=>caNew c).getD r.toNat caZ=_∨(ps.map fun _=>caNew c).getD r.toNat caZ=_
    rw [List.getD_eq_getElem?_getD,List.getElem?_map]
    cases ps[r.toNat]? with
    |none=>exact .inr rfl
    |some _=>exact .inl rfl
  · exact .inr rfl
theorem ca_new_view {ps:List (List Op3)} (r:Int):cst c (maCa (maNew c ps) r) line=0∧cms (maCa (maNew c ps) r) line=none∧cbf (maCa (maNew c ps) r) line=none:=by
  rcases ca_new (c:=c) (ps:=ps) r with h|h
  · rw [h]
    refine ⟨?_,rfl,rfl⟩
    unfold cst
    rw [fst_vw,vw_new];rfl
  · rw [h]
    refine ⟨?_,rfl,rfl⟩
    unfold cst
    have:caZ.ways=List.replicate 0 .zero:=rfl
    rw [this,fst_vw,vw_new];rfl
theorem home_new {ps:List (List Op3)} (hc:checkB c=true) (hl:okLine c line=true):maHo c (maNew c ps) line=hmNew c (lineH c line)∧newOk c (lineH c line)=true∧ownL c (lineH c line) line:=by
  have hb:=(cfg_bnd hc).2.1
  have hl':=hl
  unfold okLine at hl'
  simp only [Bool.and_eq_true,decide_eq_true_eq] at hl'
  have eH:lineH c line=line % c.homes:=by unfold lineH;rw [if_pos hl]
  have h0:=Int.emod_nonneg line (show c.homes≠0 by omega)
  have h1:=Int.emod_lt_of_pos line (show 0<c.homes by omega)
  rw [←eH] at h0 h1
  refine ⟨?_,by unfold newOk;rw [hc,decide_eq_true ⟨h0,h1⟩];rfl,hl'.2.1,hl'.2.2,eH.symm⟩
  unfold maHo maH
  show ((List.range c.homes.toNat).map fun (i:Nat)=>hmNew c (i:Int)).getD (lineH c line).toNat hmZ=_
  rw [List.getD_eq_getElem?_getD,List.getElem?_map,List.getElem?_range (by omega)]
  show hmNew c (((lineH c line).toNat:Nat):Int)=_
  rw [show (((lineH c line).toNat:Nat):Int)=lineH c line by omega]
theorem lt_new {ps:List (List Op3)} (hc:checkB c=true):LT c (maNew c ps):=by
  refine ⟨fun line hline=>?_,fun j x hx=>by cases hx⟩
  obtain ⟨h1,h2,h3⟩:=home_new (ps:=ps) hc hline
  have hE:hmEnt (hmNew c (lineH c line)) line=hmE0 c:=by
    unfold hmEnt
    show (mget (hmEs c (linesL c (lineH c line))) line).getD .no=_
    rw [hmEs_get,if_pos ((lines_mem h2 line).2 h3)];rfl
  have hms:∀ x,(maV c (maNew c ps) line).ms x=none:=fun x=>(ca_new_view x).2.1
  refine ⟨li_new (fun x=>(ca_new_view x).1) hms (fun x=>(ca_new_view x).2.2) ?_ ?_ ?_ ?_ ?_,fun r m hm _=>by rw [hms] at hm;cases hm⟩
  · show vrq line _ (maHo c (maNew c ps) line).q=[]
    rw [h1];rfl
  · show vfly line _ (maHo c (maNew c ps) line).q=[]
    rw [h1];rfl
  · show actQ line (maHo c (maNew c ps) line).q=none
    rw [h1];rfl
  · show (hmEnt (maHo c (maNew c ps) line) line).o= -1
    rw [h1,hE];rfl
  · show lineWo c (maHo c (maNew c ps) line).ms line=lineWo c (trMs c []) line
    rw [h1];rfl
end
end Go.Sx

/- One line of a machine: its steps, 2. Written by a program of mine (pro/genpro.py). -/
namespace Go.Sx
section
variable {W:Type}
theorem li_read1 {v v':LV W} (h:LI v) {r:Int} {z:W} (hr:0≤r) (ha:v.act=none) (hO:v.o≠ -1)
    (hst:∀ x,v'.st x=v.st x) (hwd:∀ x,v'.st x≠0→v'.wd x=v.wd x) (hms:∀ x,v'.ms x=v.ms x) (hbf:∀ x,v'.bf x=v.bf x) {Rq:List (AM W)} (hrq0:v.rq.Perm (.get 1 r::Rq)) (hrq:v'.rq.Perm Rq) (hfly:v'.fly.Perm (.fwd 1 v.o r 0::v.fly)) (hact:v'.act=some (1,r)) (ho:v'.o=v.o) (hsh:(∀ x,v.sh x=true→v'.sh x=true)∧v'.sh r=true) (hmem:v'.mem=v.mem) (hnow:v'.now=v.now):LI v':=by
  obtain ⟨qm0,cg0,cp0⟩:=rq_a hrq0
  obtain ⟨qm,cg,cp⟩:=rq_d hrq
  obtain ⟨fm,ck,ct,ci,cd⟩:=fly_b hfly
  have hna:∀ k r,v.act≠some (k,r):=fun k r e=>by rw [ha] at e;cases e
  have hnb:=rest_busy ha
  obtain ⟨hfr,hct,hci,hcd⟩:=rest_fly h ha
  have hfk:=h.f0 ha
  obtain ⟨m,hm,hk⟩:=h.gk _ r ((qm0 _).2 (.inl rfl))
  obtain ⟨g1,g2,g3,g4,g5⟩:=h.g1 r m hm (hnb r)
  have hml:=h.ml r m hm g5
  have hbn:v.bf r=none:=by cases e:v.bf r with|none=>rfl|some x=>(have:=(h.b1 r x.1 x.2 e).2.2;rw [hm] at this;cases this)
  have hcr:=cg0 r
  have hbu:∀ x,v'.busy x↔x=r:=fun x=>by unfold LV.busy;rw [hact];grind [isDone]
  have hh:=rest_own h ha hO
  have hor:v.o≠r:=fun e=>by rw [e] at hh;unfold LV.holds at hh;grind
  have hho:∀ x,v.holds x↔v'.holds x:=fun x=>by unfold LV.holds;rw [hst,hbf,cp];grind [isPut]
  constructor
  case rqk=>intro x hx;have:=h.rqk x;exact zqE
  case g0=>intro r1 h1;have:=h.g0 r1;exact zqE
  case g1=>intro r1 m1 h1 h2;have:=h.g1 r1 m1;exact zqE
  case gk=>intro k1 r1 h1;have:=h.gk k1 r1;exact zqE
  case gA=>intro r1 h1;have:=h.gA r1;exact zqE
  case aK=>intro k1 r1 h1;have:=h.aK k1 r1;exact zqE
  case mK=>intro r1 m1 h1;have:=h.mK r1 m1;exact zqE
  case ml=>intro r1 m1 h1 h2;have:=h.ml r1 m1;exact zqE
  case b0=>intro r1 h1;have:=h.b0 r1;exact zqE
  case b1=>intro r1 w1 l1 h1;have:=h.b1 r1 w1 l1;exact zqE
  case bw=>intro r1 w1 h1;have:=h.bw r1 w1;exact zqE
  case bl=>intro r1 w1 h1 h2;have:=h.bl r1 w1;exact zqE
  case f0=>intro h1 x hx;have:=h.f0;exact zqE
  case f1=>intro r1 h1 x hx;have:=h.f1 r1;exact zqE
  case f2=>intro r1 h1 x hx;have:=h.f2 r1;exact zqE
  case p=>intro k1 r1 h1;have:=h.p k1 r1;exact zqE
  case a2=>intro r1 h1;have:=h.a2 r1;exact zqE
  case tf=>intro k1 o1 r1 n1 h1;have:=h.tf k1 o1 r1 n1;exact zqE
  case td=>intro r1 own1 n1 w1 h1;have:=h.td r1 own1 n1 w1;exact zqE
  case tg=>intro r1 n1 h1;have:=h.tg r1 n1;exact zqE
  case iv=>intro c1 r1 h1;have:=h.iv c1 r1;exact zqE
  case e=>intro c1 h1;have:=h.e c1;exact zqE
  case h=>intro h1;have:=h.h;exact zqE
  case s=>intro c1 h1 c2 h2;have:=h.s c1;exact zqE
  case wn=>intro c1 h1;have:=h.wn c1;exact zqE
  case mn=>intro h1;have:=h.mn;exact zqE
  case k=>intro c1 h1;have:=h.k c1;exact zqE
  case r=>intro c1;have:=h.r c1;exact zqE
  case rg=>intro c1 h1;have:=h.rg c1;exact zqE
theorem li_read2 {v v':LV W} (h:LI v) {r:Int} {z:W} (hr:0≤r) (ha:v.act=none) (hO:v.o= -1) (hS:∀ x,v.sh x=false)
    (hst:∀ x,v'.st x=v.st x) (hwd:∀ x,v'.st x≠0→v'.wd x=v.wd x) (hms:∀ x,v'.ms x=v.ms x) (hbf:∀ x,v'.bf x=v.bf x) {Rq:List (AM W)} (hrq0:v.rq.Perm (.get 1 r::Rq)) (hrq:v'.rq.Perm Rq) (hfly:v'.fly.Perm (.data r 2 0 v.mem::v.fly)) (hact:v'.act=some (1,r)) (ho:v'.o=r) (hsh:∀ x,v'.sh x=false) (hmem:v'.mem=v.mem) (hnow:v'.now=v.now):LI v':=by
  obtain ⟨qm0,cg0,cp0⟩:=rq_a hrq0
  obtain ⟨qm,cg,cp⟩:=rq_d hrq
  obtain ⟨fm,ck,ct,ci,cd⟩:=fly_b hfly
  have hna:∀ k r,v.act≠some (k,r):=fun k r e=>by rw [ha] at e;cases e
  have hnb:=rest_busy ha
  obtain ⟨hfr,hct,hci,hcd⟩:=rest_fly h ha
  have hfk:=h.f0 ha
  obtain ⟨m,hm,hk⟩:=h.gk _ r ((qm0 _).2 (.inl rfl))
  obtain ⟨g1,g2,g3,g4,g5⟩:=h.g1 r m hm (hnb r)
  have hml:=h.ml r m hm g5
  have hbn:v.bf r=none:=by cases e:v.bf r with|none=>rfl|some x=>(have:=(h.b1 r x.1 x.2 e).2.2;rw [hm] at this;cases this)
  have hcr:=cg0 r
  have hbu:∀ x,v'.busy x↔x=r:=fun x=>by unfold LV.busy;rw [hact];grind [isDone]
  have hmn:=h.mn hO
  have hnh:∀ x,v.st x=0:=fun x=>Decidable.byContradiction fun hx=>by have:=h.k x hx;have:=h.e x;have:=h.r x;have:=h.rg x;grind [isTok,isIA]
  have hho:∀ x,v.holds x↔v'.holds x:=fun x=>by unfold LV.holds;rw [hst,hbf,cp];grind [isPut]
  refine { bl:=?zbl}
  case zbl=>
    intro r1 w1 h1 h2
    have:=h.bl r1 w1
    have:=h.rg r1;exact zqE
theorem li_read3 {v v':LV W} (h:LI v) {r:Int} {z:W} (hr:0≤r) (ha:v.act=none) (hO:v.o= -1)
    (hst:∀ x,v'.st x=v.st x) (hwd:∀ x,v'.st x≠0→v'.wd x=v.wd x) (hms:∀ x,v'.ms x=v.ms x) (hbf:∀ x,v'.bf x=v.bf x) {Rq:List (AM W)} (hrq0:v.rq.Perm (.get 1 r::Rq)) (hrq:v'.rq.Perm Rq) (hfly:v'.fly.Perm (.data r 1 0 v.mem::v.fly)) (hact:v'.act=some (1,r)) (ho:v'.o=v.o) (hsh:(∀ x,v.sh x=true→v'.sh x=true)∧v'.sh r=true) (hmem:v'.mem=v.mem) (hnow:v'.now=v.now):LI v':=by
  obtain ⟨qm0,cg0,cp0⟩:=rq_a hrq0
  obtain ⟨qm,cg,cp⟩:=rq_d hrq
  obtain ⟨fm,ck,ct,ci,cd⟩:=fly_b hfly
  have hna:∀ k r,v.act≠some (k,r):=fun k r e=>by rw [ha] at e;cases e
  have hnb:=rest_busy ha
  obtain ⟨hfr,hct,hci,hcd⟩:=rest_fly h ha
  have hfk:=h.f0 ha
  obtain ⟨m,hm,hk⟩:=h.gk _ r ((qm0 _).2 (.inl rfl))
  obtain ⟨g1,g2,g3,g4,g5⟩:=h.g1 r m hm (hnb r)
  have hml:=h.ml r m hm g5
  have hbn:v.bf r=none:=by cases e:v.bf r with|none=>rfl|some x=>(have:=(h.b1 r x.1 x.2 e).2.2;rw [hm] at this;cases this)
  have hcr:=cg0 r
  have hbu:∀ x,v'.busy x↔x=r:=fun x=>by unfold LV.busy;rw [hact];grind [isDone]
  have hmn:=h.mn hO
  have hno:∀ x,v.st x<2:=fun x=>Decidable.byContradiction fun hx=>by have:=h.e x (by omega);have:=h.rg x;grind [isTok]
  have hho:∀ x,v.holds x↔v'.holds x:=fun x=>by unfold LV.holds;rw [hst,hbf,cp];grind [isPut]
  constructor
  case rqk=>intro x hx;have:=h.rqk x;exact zqE
  case g0=>intro r1 h1;have:=h.g0 r1;exact zqE
  case g1=>intro r1 m1 h1 h2;have:=h.g1 r1 m1;exact zqE
  case gk=>intro k1 r1 h1;have:=h.gk k1 r1;exact zqE
  case gA=>intro r1 h1;have:=h.gA r1;exact zqE
  case aK=>intro k1 r1 h1;have:=h.aK k1 r1;exact zqE
  case mK=>intro r1 m1 h1;have:=h.mK r1 m1;exact zqE
  case ml=>intro r1 m1 h1 h2;have:=h.ml r1 m1;exact zqE
  case b0=>intro r1 h1;have:=h.b0 r1;exact zqE
  case b1=>intro r1 w1 l1 h1;have:=h.b1 r1 w1 l1;exact zqE
  case bw=>intro r1 w1 h1;have:=h.bw r1 w1;exact zqE
  case bl=>intro r1 w1 h1 h2;have:=h.bl r1 w1;exact zqE
  case f0=>intro h1 x hx;have:=h.f0;exact zqE
  case f1=>intro r1 h1 x hx;have:=h.f1 r1;exact zqE
  case f2=>intro r1 h1 x hx;have:=h.f2 r1;exact zqE
  case p=>intro k1 r1 h1;have:=h.p k1 r1;exact zqE
  case a2=>intro r1 h1;have:=h.a2 r1;exact zqE
  case tf=>intro k1 o1 r1 n1 h1;have:=h.tf k1 o1 r1 n1;exact zqE
  case td=>intro r1 own1 n1 w1 h1;have:=h.td r1 own1 n1 w1;exact zqE
  case tg=>intro r1 n1 h1;have:=h.tg r1 n1;exact zqE
  case iv=>intro c1 r1 h1;have:=h.iv c1 r1;exact zqE
  case e=>intro c1 h1;have:=h.e c1;exact zqE
  case h=>intro h1;have:=h.h;exact zqE
  case s=>intro c1 h1 c2 h2;have:=h.s c1;exact zqE
  case wn=>intro c1 h1;have:=h.wn c1;exact zqE
  case mn=>intro h1;have:=h.mn;exact zqE
  case k=>intro c1 h1;have:=h.k c1;exact zqE
  case r=>intro c1;have:=h.r c1;exact zqE
  case rg=>intro c1 h1;have:=h.rg c1;exact zqE
end
end Go.Sx
