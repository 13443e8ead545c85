/- Mw4, Pro3, MaG, MaK, MaS, MaU: several of my texts as one. My own work. -/
import Derived.Test.YtjihlpjnebdiiaaGreatZr
import Derived.Test.YtjihlpjnebdiiaaGreatZav
import Derived.Test.YtjihlpjnebdiiaaGreatZaf
import Derived.Test.YtjihlpjnebdiiaaGreatZas
set_option linter.unusedVariables false
set_option linter.unusedSectionVars false
set_option linter.unusedSimpArgs false
/- What a machine does: responses. My own work. -/
namespace Go.Sx
open Go Go.Proofs
theorem does_eq {c:Cfg} {t:MaS} {i:Int} {x:Op3}:maDoes c t i x=⟨t.ks.set i.toNat (doK c (maA t i) (maK t i) x),t.cs.set i.toNat (caDoK c (maA t i) x),t.hs,t.n,doT c (maA t i) (maK t i) i x t.tr,t.odd⟩:=by
  unfold maDoes maDoesB
  by_cases h:caDoE c (maA t i) x=0
  · rw [if_pos (decide_eq_true h)]
    unfold doK doT
    rw [if_pos h,if_pos h];rfl
  · rw [if_neg (by simp [h])]
    have e:caDoK c (maA t i) x=maA t i:=by unfold caDoK;rw [if_neg (fun g=>h g.1)]
    unfold doK doT
    rw [if_neg h,if_neg h,e]
    unfold maA maK
    rw [set_getD,set_getD]
set_option maxRecDepth 100000
set_option maxHeartbeats 4000000
attribute [local irreducible] Go.Exit.then Go.Exit.inBlock Go.Code.wp WC WO WE WQ V LoopQ FnQ Sat Star band bor IntKind.wrap WR Code.rounds WT KO
theorem dr_Mw4_49m {Q P:Prop} (k:Q) (h:Hid Q→P:=by
  intro k
  first
  |(refine is_draw ?_;apply WC_mix (id:=4) (.only [12]) _ (pl:= .p 0 <| .p 1 <| .p 2 <| .p 3 <| .p 4 <| .p 5 <| .p 7 <| .r 6 <| .r 8 <| .p 9 <| .r 10 <| .r 11 <| .e true [(12,.n [] <| .p 13 <| .p 14 <| .p 15 <| .done)]);exact mixed;kernel_rfl;kernel_rfl;exact Ent.refl;exact k.out)
  |(refine is_draw ?_;apply WC_mix (id:=10) (.only [9]) _ (pl:= .p 0 <| .p 1 <| .p 2 <| .p 4 <| .r 3 <| .r 5 <| .p 6 <| .r 7 <| .r 8 <| .e true [(9,.n [] <| .p 10 <| .done)]);exact mixed;kernel_rfl;kernel_rfl;exact Ent.refl;exact k.out)
  |(refine is_draw ?_;apply WC_mix (id:=14) (.only [13]) _ (pl:= .p 0 <| .p 1 <| .p 2 <| .p 4 <| .r 3 <| .r 5 <| .p 6 <| .r 7 <| .e true [(8,.p 9 <| .p 10 <| .p 11 <| .e true [(12,.e true [(13,.n [] <| .p 14 <| .done)])]),(12,.e true [(8,.p 9 <| .p 10 <| .p 11 <| .e true [(13,.n [] <| .p 14 <| .done)])])]);exact mixed;kernel_rfl;kernel_rfl;exact Ent.refl;exact k.out)
  |(refine is_draw ?_;apply WC_mix (id:=15) (.only []) _ (pl:= .p 0 <| .p 1 <| .p 2 <| .r 3 <| .p 4 <| .p 5 <| .p 6 <| .p 7 <| .p 10 <| .r 8 <| .r 11 <| .e true [(9,.p 12 <| .p 13 <| .done)]);exact mixed;kernel_rfl;kernel_rfl;exact Ent.refl;exact k.out)):P:=h ⟨k⟩
theorem ma_del3 {F:List HP} {b:Nat} {c:Cfg} {s:MaS} {x:MaX} {n:Nat} {j:Int} (hw:c.wf) (hl:MaL c n s) (hn:n≤1000000000000) (hx:MaF c s x) (h:natB s.n 2 j=true) (h11:(natM s.n 2 j).kind=11) :
    FnF Tryz.prog 49 [.pointer (some ⟨b,0,none⟩),.int .i64 2,.int .i64 j] [MaQ b c s x] F (fun r L'=>r= .bool (maDelB c s 2 j)∧L'=[MaQ b c (maDelS c s 2 j) x]):=by
  obtain ⟨⟨f1,f2,f3⟩,⟨f4,f5,f6⟩,f7⟩:=id hx
  have hmem:=hl.nt 2 _ (nat_mem h)
  obtain ⟨d0,d1⟩:=may_home hmem.1 (.inr h11)
  obtain ⟨d,hd⟩:∃ d:Nat,(natM s.n 2 j).dst=d:=⟨(natM s.n 2 j).dst.toNat,by omega⟩
  have hk:d<x.hb.length:=by omega
  have hg:=pv_get hk
  have ho:=hl.od
  have eH:maH s (d:Int)=s.hs.getD d hmZ:=rfl
  have hno:¬(natB s.n 2 j=false∨(2:Int)=1∧nleft c s.n 2=0):=by rw [h];simp
  have hA:=fun F=>net_At (F:=F) (b:=x.bn) (c:=c) (n:=s.n) (k:=2) (i:=j)
  have hT:=fun F=>net_Take (F:=F) (b:=x.bn) (c:=c) (n:=s.n) (k:=2) (i:=j)
  have hDn:=fun F=>hm_Done (F:=F) (b:=x.hb[d]) (c:=c) (num:=(d:Int)) (s:=s.hs.getD d hmZ) (m:=natM s.n 2 j) hw
  simp only [h] at hA
  have eB:maDelB c s 2 j=true:=by unfold maDelB;rw [if_neg hno,if_neg (by decide)]
  have eS:maDelS c s 2 j=⟨s.ks,s.cs,s.hs.set d (hmDoneS c d (s.hs.getD d hmZ) (natM s.n 2 j)),ntakeN s.n 2 j,s.tr,if hmDoneE c d (s.hs.getD d hmZ) (natM s.n 2 j)=0 then s.odd else s.odd+1⟩:=by
    unfold maDelS;rw [if_neg hno,if_neg (by decide),if_neg (by decide),if_pos h11]
    unfold maDone
    rw [hd]
    by_cases g:hmDoneE c d (s.hs.getD d hmZ) (natM s.n 2 j)=0
    · rw [if_pos g]
      have:decide (hmDoneE c (d:Int) (maH (maNs s (ntakeN s.n 2 j)) d) (natM s.n 2 j)≠0)=false:=decide_eq_false (fun e=>e g)
      rw [this];rfl
    · rw [if_neg g]
      have:decide (hmDoneE c (d:Int) (maH (maNs s (ntakeN s.n 2 j)) d) (natM s.n 2 j)≠0)=true:=decide_eq_true g
      rw [this];rfl
  rw [eB,eS]
  clear eB eS
  generalize hm:natM s.n 2 j=m at *
  obtain ⟨mk,ml,ms,md,mw,mac',mo,mww⟩:=m
  dsimp only at hd h11
  subst hd h11
  by_cases he:hmDoneE c d (s.hs.getD d hmZ) ⟨11,ml,ms,d,mw,mac',mo,mww⟩=0
  · rw [if_pos he]
    simp only [he] at hDn
    refine FnF.mk' Tryz.func49 rfl rfl Tryz.ntmps49 rfl ?_
    refine maoh_open hk fun hf=>?_
    (first|(refine WO_some (.slice x.ph.1 x.hb.length x.ph.2) inferInstance (by omega) ?_;intro _)|(refine WC_some (.slice x.ph.1 x.hb.length x.ph.2) inferInstance (by omega) ?_;intro _))
    repeat (first|refine go ?_|intro _|refine dr_Mw4_49m ?_|refine drq ?_|refine cal @hA ?_|refine cal @hDn ?_|refine cal @hT ?_)
    (apply WE_ret rfl rfl zqR)
    · exact ⟨rfl,rfl⟩
    · (apply maoh_in;(focus (exact entu0));all_goals exact zqS)
  · rw [if_neg he]
    refine FnF.mk' Tryz.func49 rfl rfl Tryz.ntmps49 rfl ?_
    refine maoh_open hk fun hf=>?_
    (first|(refine WO_some (.slice x.ph.1 x.hb.length x.ph.2) inferInstance (by omega) ?_;intro _)|(refine WC_some (.slice x.ph.1 x.hb.length x.ph.2) inferInstance (by omega) ?_;intro _))
    repeat (first|refine go ?_|intro _|refine dr_Mw4_49m ?_|refine drq ?_|refine cal @hA ?_|refine cal @hDn ?_|refine cal @hT ?_)
    (apply WE_ret rfl rfl zqR)
    · exact ⟨rfl,rfl⟩
    · (apply maoh_in;(focus (exact entu0));all_goals exact zqS)
theorem ma_del4 {F:List HP} {b:Nat} {c:Cfg} {s:MaS} {x:MaX} {n:Nat} {j:Int} (hw:c.wf) (hl:MaL c n s) (hn:n≤1000000000000) (ht:s.tr.length≤1000000000000) (hx:MaF c s x) (h:natB s.n 2 j=true) (h11:(natM s.n 2 j).kind≠11) :
    FnF Tryz.prog 49 [.pointer (some ⟨b,0,none⟩),.int .i64 2,.int .i64 j] [MaQ b c s x] F (fun r L'=>∃ pt:Option Addr×Nat,r= .bool (maDelB c s 2 j)∧L'=[MaQ b c (maDelS c s 2 j) { x with pt:=pt}]):=by
  obtain ⟨⟨f1,f2,f3⟩,⟨f4,f5,f6⟩,f7⟩:=id hx
  have hmem:=hl.nt 2 _ (nat_mem h)
  have hk':=hmem.2
  obtain ⟨d0,d1⟩:=may_core hmem.1 (by unfold netK at hk';unfold HomeP;split at hk'<;>(try split at hk')<;>(try split at hk')<;>omega)
  obtain ⟨i,hd⟩:∃ i:Nat,(natM s.n 2 j).dst=i:=⟨(natM s.n 2 j).dst.toNat,by omega⟩
  have hk:i<x.kb.length:=by omega
  have ha:i<x.ab.length:=by omega
  have eA:maA s (i:Int)=s.cs.getD i caZ:=rfl
  have eK:maK s (i:Int)=s.ks.getD i coZ:=rfl
  have hX:=hl.cai (i:Int)
  have ho:=hl.od
  have hgk:=pv_get hk
  have hga:=pv_get ha
  have hno:¬(natB s.n 2 j=false∨(2:Int)=1∧nleft c s.n 2=0):=by rw [h];simp
  have hA:=fun F=>net_At (F:=F) (b:=x.bn) (c:=c) (n:=s.n) (k:=2) (i:=j)
  have hT:=fun F=>net_Take (F:=F) (b:=x.bn) (c:=c) (n:=s.n) (k:=2) (i:=j)
  have hAn:=fun F=>ma_answered (F:=F) (b:=b) (c:=c) (odd:=s.odd) (nk:=x.kb.length) (nh:=x.hb.length) (nt:=s.tr.length) (pk:=x.pk) (pa:=x.pa) (ph:=x.ph) (pt:=x.pt) (bn:=x.bn) (ab:=x.ab) (a:=s.cs.getD i caZ) (n:=ntakeN s.n 2 j) (m:=natM s.n 2 j) hw ha hd ⟨ho.1,by omega⟩ (got_ok hX hn)
  have hH:=fun F=>core_Head (F:=F) (b:=x.kb[i]) (l:=(s.ks.getD i coZ).l) (rs:=(s.ks.getD i coZ).rs) (tr:=(s.ks.getD i coZ).tr)
  simp only [h] at hA
  have eB:maDelB c s 2 j=true:=by unfold maDelB;rw [if_neg hno,if_neg (by decide)]
  have eS:maDelS c s 2 j=maThen c ⟨s.ks,s.cs.set i (caTakeK c i (s.cs.getD i caZ) (natM s.n 2 j)),s.hs,if caTakeB c i (s.cs.getD i caZ) (natM s.n 2 j) then nsendN c (ntakeN s.n 2 j) (caTakeM c i (s.cs.getD i caZ) (natM s.n 2 j)) else ntakeN s.n 2 j,s.tr,if caTakeE c i (s.cs.getD i caZ) (natM s.n 2 j)=0 then s.odd else s.odd+1⟩ (natM s.n 2 j):=by
    unfold maDelS;rw [if_neg hno,if_neg (by decide),if_neg (by decide),if_neg h11,take_eq,hd];rfl
  rw [eB,eS]
  clear eB eS
  generalize hN:(if caTakeB c i (s.cs.getD i caZ) (natM s.n 2 j) then nsendN c (ntakeN s.n 2 j) (caTakeM c i (s.cs.getD i caZ) (natM s.n 2 j)) else ntakeN s.n 2 j)=n' at *
  generalize hO:(if caTakeE c i (s.cs.getD i caZ) (natM s.n 2 j)=0 then s.odd else s.odd+1)=odd' at *
  generalize ha':caTakeK c i (s.cs.getD i caZ) (natM s.n 2 j)=a' at *
  generalize hm:natM s.n 2 j=m at *
  obtain ⟨mk,ml,ms,md,mw,mac',mo,mww⟩:=m
  dsimp only at hd h11
  subst hd
  have hcs:(s.cs.set i a').getD i caZ=a':=by rw [getD_set,if_pos ⟨rfl,by omega⟩]
  cases hh:coHas (maK s i) with
  |false=>
   have hh':headB (s.ks.getD i coZ).l (s.ks.getD i coZ).rs=false:=hh
   simp only [hh'] at hH
   have eT:maThen c ⟨s.ks,s.cs.set i a',s.hs,n',s.tr,odd'⟩ ⟨mk,ml,ms,i,mw,mac',mo,mww⟩=⟨s.ks.set i (s.ks.getD i coZ),s.cs.set i a',s.hs,n',s.tr,odd'⟩:=by
     unfold maThen
     rw [if_neg (fun g=>by have:coHas (maK s i)=true:=g.1;rw [hh] at this;cases this),set_getD]
   rw [eT]
   refine FnF.mk' Tryz.func49 rfl rfl Tryz.ntmps49 rfl ?_
   refine maoi_open hk ha fun hf=>?_
   (first|(refine WO_some (.slice x.pk.1 x.kb.length x.pk.2) inferInstance (by omega) ?_;intro _)|(refine WC_some (.slice x.pk.1 x.kb.length x.pk.2) inferInstance (by omega) ?_;intro _))
   repeat' (first|refine go ?_|intro _|refine dr_Mw4_49m ?_|refine drq ?_|refine cal @hA ?_|refine cal @hT ?_|refine cal @hAn ?_|refine cal @hH ?_|refine spl ?_ ?_|fail)
   all_goals (apply WE_ret rfl rfl zqR)
   all_goals first|exact ⟨x.pt,rfl,rfl⟩|(apply maoi_in;(focus (exact entu0));all_goals exact zqS)
  |true=>
   have hh':headB (s.ks.getD i coZ).l (s.ks.getD i coZ).rs=true:=hh
   have hne:¬(s.ks.getD i coZ).rs.length=(s.ks.getD i coZ).l.length:=by simpa [headB] using hh'
   have hwf:(headO (s.ks.getD i coZ).l (s.ks.getD i coZ).rs).wf:=head_wf hl hh
   have eO:coOp (maK s i)=headO (s.ks.getD i coZ).l (s.ks.getD i coZ).rs:=rfl
   simp only [hh'] at hH
   generalize headO (s.ks.getD i coZ).l (s.ks.getD i coZ).rs=op at *
   have hLn:=fun F=>ma_line (F:=F) (b:=b) (c:=c) (odd:=odd') (nk:=x.kb.length) (na:=x.ab.length) (nh:=x.hb.length) (nt:=s.tr.length) (pk:=x.pk) (pa:=x.pa) (ph:=x.ph) (pt:=x.pt) (bn:=x.bn) (x:=op) hw hwf
   by_cases hg:op.kind≠4∧maLine c op=ml
   · obtain ⟨h4,hml⟩:=hg
     have hDo:=fun F=>ma_does (F:=F) (b:=b) (c:=c) (odd:=odd') (nh:=x.hb.length) (pk:=x.pk) (pa:=x.pa) (ph:=x.ph) (pt:=x.pt) (bn:=x.bn) (kb:=x.kb) (ab:=x.ab) (k:=s.ks.getD i coZ) (a:=a') (tr:=s.tr) (x:=op) hk ha hne ht hwf
     have eT:maThen c ⟨s.ks,s.cs.set i a',s.hs,n',s.tr,odd'⟩ ⟨mk,ml,ms,i,mw,mac',mo,mww⟩=⟨s.ks.set i (doK c a' (s.ks.getD i coZ) op),s.cs.set i (caDoK c a' op),s.hs,n',doT c a' (s.ks.getD i coZ) i op s.tr,odd'⟩:=by
       unfold maThen
       rw [if_pos ⟨hh,by show (coOp (maK s i)).kind≠4;rw [eO];exact h4,by show maLine c (coOp (maK s i))=ml;rw [eO];exact hml⟩,does_eq]
       have e1:maA (⟨s.ks,s.cs.set i a',s.hs,n',s.tr,odd'⟩:MaS) (i:Int)=a':=hcs
       show (⟨s.ks.set i (doK c (maA (⟨s.ks,s.cs.set i a',s.hs,n',s.tr,odd'⟩:MaS) (i:Int)) (maK s i) (coOp (maK s i))),(s.cs.set i a').set i (caDoK c (maA (⟨s.ks,s.cs.set i a',s.hs,n',s.tr,odd'⟩:MaS) (i:Int)) (coOp (maK s i))),s.hs,n',doT c (maA (⟨s.ks,s.cs.set i a',s.hs,n',s.tr,odd'⟩:MaS) (i:Int)) (maK s i) i (coOp (maK s i)) s.tr,odd'⟩:MaS)=_
       rw [e1,eO,List.set_set]
       rfl
     rw [eT]
     subst hml
     refine FnF.mk' Tryz.func49 rfl rfl Tryz.ntmps49 rfl ?_
     refine maoi_open hk ha fun hf=>?_
     (first|(refine WO_some (.slice x.pk.1 x.kb.length x.pk.2) inferInstance (by omega) ?_;intro _)|(refine WC_some (.slice x.pk.1 x.kb.length x.pk.2) inferInstance (by omega) ?_;intro _))
     repeat' (first|refine go ?_|intro _|refine dr_Mw4_49m ?_|refine drq ?_|refine cal @hA ?_|refine cal @hT ?_|refine cal @hAn ?_|refine cal @hH ?_|refine cal @hLn ?_|refine cal @hDo ?_|refine spl ?_ ?_|fail)
     all_goals rename_i pt'
     all_goals (apply WE_ret rfl rfl zqR)
     all_goals first|exact ⟨pt',rfl,rfl⟩|(apply maoi_in;(focus (exact entu0));all_goals exact zqS)
   · have eT:maThen c ⟨s.ks,s.cs.set i a',s.hs,n',s.tr,odd'⟩ ⟨mk,ml,ms,i,mw,mac',mo,mww⟩=⟨s.ks.set i (s.ks.getD i coZ),s.cs.set i a',s.hs,n',s.tr,odd'⟩:=by
       unfold maThen
       rw [if_neg (fun g=>hg ⟨by have:(coOp (maK s i)).kind≠4:=g.2.1;rwa [eO] at this,by have:maLine c (coOp (maK s i))=ml:=g.2.2;rwa [eO] at this⟩),set_getD]
     rw [eT]
     by_cases h4:op.kind=4
     · refine FnF.mk' Tryz.func49 rfl rfl Tryz.ntmps49 rfl ?_
       refine maoi_open hk ha fun hf=>?_
       (first|(refine WO_some (.slice x.pk.1 x.kb.length x.pk.2) inferInstance (by omega) ?_;intro _)|(refine WC_some (.slice x.pk.1 x.kb.length x.pk.2) inferInstance (by omega) ?_;intro _))
       repeat' (first|refine go ?_|intro _|refine dr_Mw4_49m ?_|refine drq ?_|refine cal @hA ?_|refine cal @hT ?_|refine cal @hAn ?_|refine cal @hH ?_|refine cal @hLn ?_|refine spl ?_ ?_|fail)
       all_goals (apply WE_ret rfl rfl zqR)
       all_goals first|exact ⟨x.pt,rfl,rfl⟩|(apply maoi_in;(focus (exact entu0));all_goals exact zqS)
     · have hml:¬maLine c op=ml:=fun g=>hg ⟨h4,g⟩
       refine FnF.mk' Tryz.func49 rfl rfl Tryz.ntmps49 rfl ?_
       refine maoi_open hk ha fun hf=>?_
       (first|(refine WO_some (.slice x.pk.1 x.kb.length x.pk.2) inferInstance (by omega) ?_;intro _)|(refine WC_some (.slice x.pk.1 x.kb.length x.pk.2) inferInstance (by omega) ?_;intro _))
       repeat' (first|refine go ?_|intro _|refine dr_Mw4_49m ?_|refine drq ?_|refine cal @hA ?_|refine cal @hT ?_|refine cal @hAn ?_|refine cal @hH ?_|refine cal @hLn ?_|refine spl ?_ ?_|fail)
       all_goals (apply WE_ret rfl rfl zqR)
       all_goals first|exact ⟨x.pt,rfl,rfl⟩|(apply maoi_in;(focus (exact entu0));all_goals exact zqS)
end Go.Sx

/- One line of a machine: its steps, 3. Written by a program of mine (pro/genpro.py). -/
namespace Go.Sx
section
variable {W:Type}
theorem li_write1 {v v':LV W} (h:LI v) {r:Int} (hr:0≤r) (ha:v.act=none) (hO:v.o= -1)
    (hst:∀ x,v'.st x=v.st x) (hwd:∀ x,v'.st x≠0→v'.wd x=v.wd x) (hms:∀ x,v'.ms x=v.ms x) (hbf:∀ x,v'.bf x=v.bf x) {Rq:List (AM W)} (hrq0:v.rq.Perm (.get 2 r::Rq)) (hrq:v'.rq.Perm Rq) {oth:List Int} (hoth:∀ c,c∈oth↔v.sh c=true∧c≠r∧c≠v.o) (hfly:v'.fly.Perm (.data r 4 oth.length v.mem::(oth.map (fun c=>AM.inv c r)++v.fly))) (hact:v'.act=some (2,r)) (ho:v'.o=r) (hsh:∀ x,v'.sh x=false) (hmem:v'.mem=v.mem) (hnow:v'.now=v.now):LI v':=by
  obtain ⟨qm0,cg0,cp0⟩:=rq_a hrq0
  obtain ⟨qm,cg,cp⟩:=rq_d hrq
  have fm:∀ y,y∈v'.fly↔y= .data r 4 oth.length v.mem∨(∃ c,c∈oth∧AM.inv c r=y)∨y∈v.fly:=fun y=>by rw [perm_mem hfly y,List.mem_append,List.mem_map]
  have ck:∀ x,v'.ck x=(if false=true then oth.length else 0)+v.ck x+if isPack x (.data r 4 oth.length v.mem:AM W)=true then 1 else 0:=fun x=>by show v'.fly.countP _=_;rw [perm_cnt hfly,List.countP_append,inv_cnt _ false (fun _=>rfl)];rfl
  have ct:v'.ct=(if false=true then oth.length else 0)+v.ct+if isTok (.data r 4 oth.length v.mem:AM W)=true then 1 else 0:=by show v'.fly.countP _=_;rw [perm_cnt hfly,List.countP_append,inv_cnt _ false (fun _=>rfl)];rfl
  have ci:v'.ci=(if true=true then oth.length else 0)+v.ci+if isIA (.data r 4 oth.length v.mem:AM W)=true then 1 else 0:=by show v'.fly.countP _=_;rw [perm_cnt hfly,List.countP_append,inv_cnt _ true (fun _=>rfl)];rfl
  have cd:v'.cd=(if false=true then oth.length else 0)+v.cd+if isDone (.data r 4 oth.length v.mem:AM W)=true then 1 else 0:=by show v'.fly.countP _=_;rw [perm_cnt hfly,List.countP_append,inv_cnt _ false (fun _=>rfl)];rfl
  have hna:∀ k r,v.act≠some (k,r):=fun k r e=>by rw [ha] at e;cases e
  have hnb:=rest_busy ha
  obtain ⟨hfr,hct,hci,hcd⟩:=rest_fly h ha
  have hfk:=h.f0 ha
  obtain ⟨m,hm,hk⟩:=h.gk _ r ((qm0 _).2 (.inl rfl))
  obtain ⟨g1,g2,g3,g4,g5⟩:=h.g1 r m hm (hnb r)
  have hml:=h.ml r m hm g5
  have hbn:v.bf r=none:=by cases e:v.bf r with|none=>rfl|some x=>(have:=(h.b1 r x.1 x.2 e).2.2;rw [hm] at this;cases this)
  have hcr:=cg0 r
  have hbu:∀ x,v'.busy x↔x=r:=fun x=>by unfold LV.busy;rw [hact];grind [isDone]
  have hmn:=h.mn hO
  have hno:∀ x,v.st x<2:=fun x=>Decidable.byContradiction fun hx=>by have:=h.e x (by omega);have:=h.rg x;grind [isTok]
  have hho:∀ x,v.holds x↔v'.holds x:=fun x=>by unfold LV.holds;rw [hst,hbf,cp];grind [isPut]
  refine { bl:=?zbl,k:=?zk}
  case zbl=>
    intro r1 w1 h1 h2
    have:=h.bl r1 w1
    have:=h.rg r1;exact zqE
  case zk=>
    intro c1 h1
    have:=h.k c1
    have:=hoth c1;have:=fm (.inv c1 r);have:=h.rg c1;exact zqE
theorem li_write2 {v v':LV W} (h:LI v) {r:Int} (hr:0≤r) (ha:v.act=none) (hO:v.o=r)
    (hst:∀ x,v'.st x=v.st x) (hwd:∀ x,v'.st x≠0→v'.wd x=v.wd x) (hms:∀ x,v'.ms x=v.ms x) (hbf:∀ x,v'.bf x=v.bf x) {Rq:List (AM W)} (hrq0:v.rq.Perm (.get 2 r::Rq)) (hrq:v'.rq.Perm Rq) {oth:List Int} (hoth:∀ c,c∈oth↔v.sh c=true∧c≠r∧c≠v.o) (hfly:v'.fly.Perm (.grant r oth.length::(oth.map (fun c=>AM.inv c r)++v.fly))) (hact:v'.act=some (2,r)) (ho:v'.o=v.o) (hsh:∀ x,v'.sh x=false) (hmem:v'.mem=v.mem) (hnow:v'.now=v.now):LI v':=by
  obtain ⟨qm0,cg0,cp0⟩:=rq_a hrq0
  obtain ⟨qm,cg,cp⟩:=rq_d hrq
  have fm:∀ y,y∈v'.fly↔y= .grant r oth.length∨(∃ c,c∈oth∧AM.inv c r=y)∨y∈v.fly:=fun y=>by rw [perm_mem hfly y,List.mem_append,List.mem_map]
  have ck:∀ x,v'.ck x=(if false=true then oth.length else 0)+v.ck x+if isPack x (.grant r oth.length:AM W)=true then 1 else 0:=fun x=>by show v'.fly.countP _=_;rw [perm_cnt hfly,List.countP_append,inv_cnt _ false (fun _=>rfl)];rfl
  have ct:v'.ct=(if false=true then oth.length else 0)+v.ct+if isTok (.grant r oth.length:AM W)=true then 1 else 0:=by show v'.fly.countP _=_;rw [perm_cnt hfly,List.countP_append,inv_cnt _ false (fun _=>rfl)];rfl
  have ci:v'.ci=(if true=true then oth.length else 0)+v.ci+if isIA (.grant r oth.length:AM W)=true then 1 else 0:=by show v'.fly.countP _=_;rw [perm_cnt hfly,List.countP_append,inv_cnt _ true (fun _=>rfl)];rfl
  have cd:v'.cd=(if false=true then oth.length else 0)+v.cd+if isDone (.grant r oth.length:AM W)=true then 1 else 0:=by show v'.fly.countP _=_;rw [perm_cnt hfly,List.countP_append,inv_cnt _ false (fun _=>rfl)];rfl
  have hna:∀ k r,v.act≠some (k,r):=fun k r e=>by rw [ha] at e;cases e
  have hnb:=rest_busy ha
  obtain ⟨hfr,hct,hci,hcd⟩:=rest_fly h ha
  have hfk:=h.f0 ha
  obtain ⟨m,hm,hk⟩:=h.gk _ r ((qm0 _).2 (.inl rfl))
  obtain ⟨g1,g2,g3,g4,g5⟩:=h.g1 r m hm (hnb r)
  have hml:=h.ml r m hm g5
  have hbn:v.bf r=none:=by cases e:v.bf r with|none=>rfl|some x=>(have:=(h.b1 r x.1 x.2 e).2.2;rw [hm] at this;cases this)
  have hcr:=cg0 r
  have hbu:∀ x,v'.busy x↔x=r:=fun x=>by unfold LV.busy;rw [hact];grind [isDone]
  have hh:=rest_own h ha (by omega)
  have hs3:v.st r=3:=by have:=h.r r;unfold LV.holds at hh;grind
  have hun:=fun d=>own_uni h (c:=r) (d:=d) (by omega)
  have hho:∀ x,v.holds x↔v'.holds x:=fun x=>by unfold LV.holds;rw [hst,hbf,cp];grind [isPut]
  refine { k:=?zk}
  case zk=>
    intro c1 h1
    have:=h.k c1
    have:=hoth c1;have:=fm (.inv c1 r);have:=h.rg c1;exact zqE
theorem li_write3 {v v':LV W} (h:LI v) {r:Int} (hr:0≤r) (ha:v.act=none) (hO:v.o≠ -1) (hor:v.o≠r)
    (hst:∀ x,v'.st x=v.st x) (hwd:∀ x,v'.st x≠0→v'.wd x=v.wd x) (hms:∀ x,v'.ms x=v.ms x) (hbf:∀ x,v'.bf x=v.bf x) {Rq:List (AM W)} (hrq0:v.rq.Perm (.get 2 r::Rq)) (hrq:v'.rq.Perm Rq) {oth:List Int} (hoth:∀ c,c∈oth↔v.sh c=true∧c≠r∧c≠v.o) (hfly:v'.fly.Perm (.fwd 2 v.o r oth.length::(oth.map (fun c=>AM.inv c r)++v.fly))) (hact:v'.act=some (2,r)) (ho:v'.o=r) (hsh:∀ x,v'.sh x=false) (hmem:v'.mem=v.mem) (hnow:v'.now=v.now):LI v':=by
  obtain ⟨qm0,cg0,cp0⟩:=rq_a hrq0
  obtain ⟨qm,cg,cp⟩:=rq_d hrq
  have fm:∀ y,y∈v'.fly↔y= .fwd 2 v.o r oth.length∨(∃ c,c∈oth∧AM.inv c r=y)∨y∈v.fly:=fun y=>by rw [perm_mem hfly y,List.mem_append,List.mem_map]
  have ck:∀ x,v'.ck x=(if false=true then oth.length else 0)+v.ck x+if isPack x (.fwd 2 v.o r oth.length:AM W)=true then 1 else 0:=fun x=>by show v'.fly.countP _=_;rw [perm_cnt hfly,List.countP_append,inv_cnt _ false (fun _=>rfl)];rfl
  have ct:v'.ct=(if false=true then oth.length else 0)+v.ct+if isTok (.fwd 2 v.o r oth.length:AM W)=true then 1 else 0:=by show v'.fly.countP _=_;rw [perm_cnt hfly,List.countP_append,inv_cnt _ false (fun _=>rfl)];rfl
  have ci:v'.ci=(if true=true then oth.length else 0)+v.ci+if isIA (.fwd 2 v.o r oth.length:AM W)=true then 1 else 0:=by show v'.fly.countP _=_;rw [perm_cnt hfly,List.countP_append,inv_cnt _ true (fun _=>rfl)];rfl
  have cd:v'.cd=(if false=true then oth.length else 0)+v.cd+if isDone (.fwd 2 v.o r oth.length:AM W)=true then 1 else 0:=by show v'.fly.countP _=_;rw [perm_cnt hfly,List.countP_append,inv_cnt _ false (fun _=>rfl)];rfl
  have hna:∀ k r,v.act≠some (k,r):=fun k r e=>by rw [ha] at e;cases e
  have hnb:=rest_busy ha
  obtain ⟨hfr,hct,hci,hcd⟩:=rest_fly h ha
  have hfk:=h.f0 ha
  obtain ⟨m,hm,hk⟩:=h.gk _ r ((qm0 _).2 (.inl rfl))
  obtain ⟨g1,g2,g3,g4,g5⟩:=h.g1 r m hm (hnb r)
  have hml:=h.ml r m hm g5
  have hbn:v.bf r=none:=by cases e:v.bf r with|none=>rfl|some x=>(have:=(h.b1 r x.1 x.2 e).2.2;rw [hm] at this;cases this)
  have hcr:=cg0 r
  have hbu:∀ x,v'.busy x↔x=r:=fun x=>by unfold LV.busy;rw [hact];grind [isDone]
  have hh:=rest_own h ha hO
  have he:=fun c=>h.e c
  have hho:∀ x,v.holds x↔v'.holds x:=fun x=>by unfold LV.holds;rw [hst,hbf,cp];grind [isPut]
  refine { k:=?zk}
  case zk=>
    intro c1 h1
    have:=h.k c1
    have:=hoth c1;have:=fm (.inv c1 r);have:=h.rg c1;exact zqE
end
end Go.Sx

/- What homes do keeps each line's protocol: requests that are taken in, and those that are done. My own work. -/
namespace Go.Sx
open Go Go.Proofs
structure HmF (c:Cfg) (x:HomS):Prop where
  q:QInv x.q
  ml:(x.ms.length:Int)=c.words*c.lines
  od:x.odd=0
  sm:∀ e∈x.q,∀ y∈e.sends,MayP c y
  sk:∀ e∈x.q,e.m.kind≠3→∀ y∈e.sends,y.kind≠10
  sp:∀ e∈x.q,e.m.kind=3→e.st=true→e.sends≠[]
  mv:∀ line,ValsP c (lineWo c x.ms line)
def HmFs (c:Cfg) (s:MaS):Prop:=∀ x∈s.hs,HmF c x
section
variable {c:Cfg} {n:Nat} {s:MaS} {line j:Int}
theorem hs_rng (hl:MaL c n s) {d:Int} (hd:0≤d∧d<c.homes):d.toNat<s.hs.length:=by have:=hl.lh;omega
theorem ho_as {d:Int} {x:HomS} (hl:MaL c n s) (hd:0≤d∧d<c.homes) (hline:okLine c line=true):maHo c (maHs s d x) line=if lineH c line=d then x else maHo c s line:=by
  have hr:=hs_rng hl hd
  have hb:=(cfg_bnd hl.ok).2.1
  have e0:0≤lineH c line:=by unfold lineH;rw [if_pos hline];exact Int.emod_nonneg _ (by omega)
  unfold maHo maH
  show (s.hs.set d.toNat x).getD (lineH c line).toNat hmZ=_
  rw [List.getD_eq_getElem?_getD,List.getElem?_set]
  by_cases h:lineH c line=d
  · rw [if_pos h,h,if_pos rfl,if_pos hr];rfl
  · rw [if_neg h,if_neg (by omega),←List.getD_eq_getElem?_getD]
theorem up_facts {m:Msg} (hm:MayP c m) (hh:HomeP m.kind):(0≤m.dst∧m.dst<c.homes)∧(0≤m.src∧m.src<c.cores)∧lineH c m.line=m.dst∧okLine c m.line=true:=by
  have hd:=may_home hm hh
  have hl:=may_lnk hm
  obtain ⟨g1,g2,g3,g4,g5⟩:=hm
  unfold FormP at g4
  rw [if_pos hh] at g4
  refine ⟨hd,g4.1,?_,hl⟩
  unfold lineH
  rw [if_pos hl,g4.2.1]
  unfold homeN
  rw [Int.tmod_eq_emod_of_nonneg g3.1]
theorem oC_add {q:List QE} {m:Msg}:oC line (q++[⟨m,false,[]⟩])=oC line q++if m.line=line then [m] else []:=by
  rw [oC_app,oC_cons]
  by_cases h:m.line=line
  · rw [if_pos ⟨h,rfl⟩,if_pos h];rfl
  · rw [if_neg (fun g=>h g.1),if_neg h];rfl
theorem oP_add {q:List QE} {m:Msg}:oP line (q++[⟨m,false,[]⟩])=oP line q:=by
  rw [oP_app,oP_cons]
  split<;>simp [oP]
theorem act_add {q:List QE} {m:Msg}:actQ line (q++[⟨m,false,[]⟩])=actQ line q:=by
  unfold actQ
  rw [List.find?_append]
  simp
theorem acc_facts {d:Int} {x:HomS} {m:Msg} (h:hmAccE c d x m=0):hmAccS c d x m={ x with q:=x.q++[⟨m,false,[]⟩]}:=by
  unfold hmAccE at h
  split at h
  · rename_i hm
    unfold hmAccS
    rw [if_pos hm]
    unfold qaddL
    rw [if_pos h]
  · cases h
theorem lt_acc {m:Msg} (h:LT c s) (hl:MaL c n s) (hb:natB s.n 0 j=true) (hm:natM s.n 0 j=m) (he:hmAccE c m.dst (maH s m.dst) m=0) :
    LT c (maNs (maHs s m.dst (hmAccS c m.dst (maH s m.dst) m)) (ntakeN s.n 0 j)):=by
  have hmay:=(hl.nt 0 _ (nat_mem hb)).1
  have hk:=(hl.nt 0 _ (nat_mem hb)).2
  rw [hm] at hmay hk
  have hh:HomeP m.kind:=by
    unfold netK at hk
    unfold HomeP
    split at hk
    · exact .inl (by assumption)
    · split at hk
      · omega
      · split at hk<;>omega
  obtain ⟨hd,hsrc,hlh,hlok⟩:=up_facts hmay hh
  rw [acc_facts he]
  refine ⟨fun line hline=>?_,h.2⟩
  obtain ⟨hLI,hNF⟩:=h.1 line hline
  have hH:=ho_as (x:={ maH s m.dst with q:=(maH s m.dst).q++[⟨m,false,[]⟩]}) hl hd hline
  have hH':maHo c (maNs (maHs s m.dst { maH s m.dst with q:=(maH s m.dst).q++[⟨m,false,[]⟩]}) (ntakeN s.n 0 j)) line=if lineH c line=m.dst then { maH s m.dst with q:=(maH s m.dst).q++[⟨m,false,[]⟩]} else maHo c s line:=hH
  have hq0:=vrq_take (line:=line) (q:=(maHo c s line).q) hb rfl
  rw [hm] at hq0
  have key:∀ x:HomS,x=maHo c (maNs (maHs s m.dst { maH s m.dst with q:=(maH s m.dst).q++[⟨m,false,[]⟩]}) (ntakeN s.n 0 j)) line→x.es=(maHo c s line).es∧x.ms=(maHo c s line).ms∧actQ line x.q=actQ line (maHo c s line).q∧oP line x.q=oP line (maHo c s line).q∧oC line x.q=oC line (maHo c s line).q++if m.line=line then [m] else []:=by
    intro x hx
    rw [hH'] at hx
    by_cases hL:lineH c line=m.dst
    · rw [if_pos hL] at hx
      have e:maHo c s line=maH s m.dst:=by unfold maHo;rw [hL]
      rw [e,hx]
      exact ⟨rfl,rfl,act_add,oP_add,oC_add⟩
    · rw [if_neg hL] at hx
      rw [hx]
      refine ⟨rfl,rfl,rfl,rfl,?_⟩
      rw [if_neg (fun g=>hL (by rw [←g];exact hlh)),List.append_nil]
  obtain ⟨k1,k2,k3,k4,k5⟩:=key _ rfl
  generalize hs':maNs (maHs s m.dst { maH s m.dst with q:=(maH s m.dst).q++[⟨m,false,[]⟩]}) (ntakeN s.n 0 j)=s' at *
  have hcs:s'.cs=s.cs:=by rw [←hs'];rfl
  have htr:s'.tr=s.tr:=by rw [←hs'];rfl
  have hns:s'.n=ntakeN s.n 0 j:=by rw [←hs'];rfl
  have hca:∀ r,maCa s' r=maCa s r:=fun r=>by unfold maCa maA;rw [hcs]
  have hent:hmEnt (maHo c s' line) line=hmEnt (maHo c s line) line:=by unfold hmEnt;rw [k1]
  have hms:∀ r,(maV c s' line).ms r=(maV c s line).ms r:=fun r=>by show cms (maCa s' r) line=_;rw [hca];rfl
  refine ⟨li_same hLI (fun r=>?_) (fun r _=>?_) hms (fun r=>?_) ?_ ?_ k3 ?_ (fun r=>?_) ?_ ?_,fun r m' hm' hn=>hNF r m' (by rw [←hms];exact hm') hn⟩
  · show cst c (maCa s' r) line=_;rw [hca];rfl
  · show cwd c (maCa s' r) line=_;rw [hca];rfl
  · show cbf (maCa s' r) line=_;rw [hca];rfl
  · show ((ofL line s'.n.l0++oC line (maHo c s' line).q).map amM).Perm _
    rw [hns,k5]
    refine List.Perm.trans ?_ hq0.symm
    by_cases hL:m.line=line
    · rw [if_pos hL,if_pos ⟨hL,rfl⟩,←List.append_assoc]
      exact (app_perm (l:=ofL line (ntakeN s.n 0 j).l0++oC line (maHo c s line).q) (x:=m)).map amM
    · rw [if_neg hL,if_neg (fun g=>hL g.1),List.append_nil]
      exact List.Perm.refl _
  · show ((ofL line (s'.n.l1++s'.n.l2)++oP line (maHo c s' line).q).map amM).Perm _
    rw [hns,k4]
    exact List.Perm.refl _
  · show (hmEnt (maHo c s' line) line).o=_;rw [hent];rfl
  · show shHas (hmEnt (maHo c s' line) line).s r=_;rw [hent];rfl
  · show lineWo c (maHo c s' line).ms line=_;rw [k2];rfl
  · show lineWo c (trMs c s'.tr) line=_;rw [htr];rfl
theorem hmf_acc {x:HomS} {m:Msg} (h:HmF c x):HmF c { x with q:=x.q++[⟨m,false,[]⟩]}:=by
  refine ⟨qinv_add h.q,h.ml,h.od,fun e he=>?_,fun e he=>?_,fun e he=>?_,h.mv⟩
  all_goals
    rcases List.mem_append.1 he with g|g
  · exact h.sm e g
  · obtain rfl:=List.mem_singleton.1 g
    intro y hy;cases hy
  · exact h.sk e g
  · obtain rfl:=List.mem_singleton.1 g
    intro _ y hy;cases hy
  · exact h.sp e g
  · obtain rfl:=List.mem_singleton.1 g
    intro _ hst;cases hst
theorem done_act {v:LV Words} (h:LI v) {r:Int} (hx: .done r∈v.fly):∃ k,v.act=some (k,r)∧v.ct=0∧v.ci=0:=by
  have hcd:=cd_pos hx rfl
  cases e:v.act with
  |none=>obtain ⟨_,g⟩:=h.f0 e _ hx;cases g
  |some a=>
   obtain ⟨k0,r0⟩:=a
   have e0:r0=r:=by
     rcases (h.aK _ _ e).1 with rfl|rfl
     · rcases h.f1 _ e _ hx with ⟨_,g⟩|⟨_,g⟩|⟨_,_,g,_⟩|g
       all_goals first|(cases g;rfl)|cases g
     · rcases h.f2 _ e _ hx with ⟨_,g⟩|⟨_,_,g⟩|⟨_,_,g⟩|⟨_,g⟩|⟨_,g⟩|g|g
       all_goals first|(cases g;rfl)|cases g
   subst e0
   refine ⟨k0,rfl,?_⟩
   rcases h.p _ _ e with ⟨a,g⟩|⟨a,g⟩|⟨a,g⟩|⟨g1,g2,g3⟩
   · have:=g.2.2.2.2.2.2.2.1;omega
   · have:=g.2.2.2.2.2.2.1;omega
   · have:=g.2.2.2.2.2.2.1;omega
   · exact ⟨g1,g3⟩
theorem tok_ia {y:Msg} (h:4≤y.kind∧y.kind≤9):isTok (amM y)=true∨isIA (amM y)=true:=by
  have:y.kind=4∨y.kind=5∨y.kind=6∨y.kind=7∨y.kind=8∨y.kind=9:=by omega
  unfold amM
  rcases this with g|g|g|g|g|g<;>simp [g,isTok,isIA]
theorem act_some {q:List QE} {k r:Int} (h:actQ line q=some (k,r)):∃ i,∃ hi:i<q.length,q[i].m.line=line∧q[i].st=true∧q[i].m.kind≠3∧q[i].m.kind=k∧q[i].m.src=r:=by
  unfold actQ at h
  cases e:q.find? (fun e=>decide (e.m.line=line)&& e.st&& !decide (e.m.kind=3)) with
  |none=>rw [e] at h;cases h
  |some x=>
   rw [e] at h
   have h1:=List.find?_some e
   obtain ⟨i,hi,rfl⟩:=List.getElem_of_mem (List.mem_of_find?_eq_some e)
   simp at h1 h
   exact ⟨i,hi,h1.1.1,h1.1.2,h1.2,h.1,h.2⟩
theorem fin_q {q:List QE} {i:Nat} (hQ:QInv q) (hi:i<q.length) (hst:q[i].st=true) (hse:q[i].sends=[]) (x:Int):oC x (q.eraseIdx i)=oC x q∧oP x (q.eraseIdx i)=oP x q∧actQ x (q.eraseIdx i)=if x=q[i].m.line then none else actQ x q:=by
  obtain ⟨e,_,e3⟩:=q_cut hi
  have ht:=q_tail hQ hi
  have hh:=q_head hQ hi hst
  rw [e3]
  have eC:oC x q=oC x (q.take i++q[i]::q.drop (i+1)):=congrArg (oC x) e
  have eP:oP x q=oP x (q.take i++q[i]::q.drop (i+1)):=congrArg (oP x) e
  have eA:actQ x q=actQ x (q.take i++q[i]::q.drop (i+1)):=congrArg (actQ x) e
  refine ⟨?_,?_,?_⟩
  · rw [eC,oC_app,oC_app,oC_cons,if_neg (fun g=>by rw [hst] at g;cases g.2)];rfl
  · rw [eP,oP_app,oP_app,oP_cons]
    split
    · rw [hse];rfl
    · rfl
  · by_cases hx:x=q[i].m.line
    · rw [if_pos hx]
      unfold actQ
      rw [Option.map_eq_none_iff,List.find?_eq_none]
      intro y hy
      rcases List.mem_append.1 hy with g|g
      · have:=hh y g
        simp [hx,this]
      · by_cases hy2:y.m.line=q[i].m.line
        · have:=(ht y g hy2).1
          simp [this]
        · simp [hx,hy2]
    · rw [if_neg hx,eA]
      unfold actQ
      rw [List.find?_append,List.find?_append,List.find?_cons_of_neg (by simp [Ne.symm hx])]
theorem hmf_at (h:HmFs c s) (hl:MaL c n s) {d:Int} (hd:0≤d∧d<c.homes):HmF c (maH s d):=by
  have hr:=hs_rng hl hd
  unfold maH
  rw [List.getD_eq_getElem?_getD,List.getElem?_eq_getElem hr]
  exact h _ (List.getElem_mem hr)
theorem lt_done {m:Msg} (h:LT c s) (hl:MaL c n s) (hf:HmFs c s) (hb:natB s.n 2 j=true) (hm:natM s.n 2 j=m) (hk:m.kind=11) :
    LT c (maDone c (maNs s (ntakeN s.n 2 j)) m)∧(maDone c (maNs s (ntakeN s.n 2 j)) m).odd=s.odd:=by
  have hmay:=(hl.nt 2 _ (nat_mem hb)).1
  have hk2:=(hl.nt 2 _ (nat_mem hb)).2
  rw [hm] at hmay hk2
  obtain ⟨hd,hsrc,hlh,hlok⟩:=up_facts hmay (.inr hk)
  have hA:amM m= .done m.src:=by
    unfold amM
    rw [if_neg (by omega),if_neg (by omega),if_neg (by omega),if_neg (by omega),if_neg (by omega),if_neg (by omega),if_neg (by omega),if_neg (by omega),if_neg (by omega)]
  have hfl:=(take_fr (c:=c) (line:=m.line) hb (.inr rfl)).2
  rw [hm,if_pos rfl,hA] at hfl
  have hin:=hfl.mem_iff.2 (List.mem_cons_self ..)
  obtain ⟨k0,hact,hct,hci⟩:=done_act (h.1 _ hlok).1 hin
  have hHo:maHo c s m.line=maH s m.dst:=by unfold maHo;rw [hlh]
  have hF:=hmf_at hf hl hd
  have hI:=(hl.hmi hd.1 hd.2).1
  have hact':actQ m.line (maH s m.dst).q=some (k0,m.src):=by rw [←hHo];exact hact
  obtain ⟨i,hi,q1,q2,q3,q4,q5⟩:=act_some hact'
  have hse:(maH s m.dst).q[i].sends=[]:=by
    cases e:(maH s m.dst).q[i].sends with
    |nil=>rfl
    |cons y r=>
     exfalso
     have hy:y∈(maH s m.dst).q[i].sends:=by rw [e];exact List.mem_cons_self ..
     have g1:=hI.snd _ (List.getElem_mem hi) y hy
     have g2:=hF.sk _ (List.getElem_mem hi) q3 y hy
     have hyP:y∈oP m.line (maH s m.dst).q:=by
       unfold oP
       rw [List.mem_flatMap]
       exact ⟨_,List.mem_filter.2 ⟨List.getElem_mem hi,decide_eq_true q1⟩,hy⟩
     have hyv:amM y∈(maV c s m.line).fly:=by
       show amM y∈(ofL m.line (s.n.l1++s.n.l2)++oP m.line (maHo c s m.line).q).map amM
       rw [hHo]
       exact List.mem_map.2 ⟨y,List.mem_append_right _ hyP,rfl⟩
     rcases tok_ia (y:=y) (by omega) with g|g
     · have:=ct_pos hyv g;omega
     · have:=ci_pos hyv g;omega
  have hgone:qgone m.line m.src (maH s m.dst).q[i]=true:=by unfold qgone;simp [q1,q2,q3,q5,hse]
  have hidx:0≤indexBy (qgone m.line m.src) (maH s m.dst).q:=by
    refine Decidable.byContradiction fun g=>?_
    have:=(indexBy_neg (p:=qgone m.line m.src) (l:=(maH s m.dst).q) (by omega)).2 _ (List.getElem_mem hi)
    rw [hgone] at this;cases this
  obtain ⟨a,ha,ea,ga,_⟩:=indexBy_nat hidx
  have hga:(maH s m.dst).q[a].m.line=m.line∧(maH s m.dst).q[a].st=true∧(maH s m.dst).q[a].sends=[]:=by
    unfold qgone at ga
    simp at ga
    exact ⟨ga.1.1.1.2,ga.1.1.1.1,ga.2⟩
  have hmine:mineB c m.dst m 2=true:=by
    unfold mineB
    rw [decide_eq_true hmay,decide_eq_true hk2,decide_eq_true (show HomeP m.kind from .inr hk),decide_eq_true rfl];rfl
  have hE:hmDoneE c m.dst (maH s m.dst) m=0:=by unfold hmDoneE;rw [if_pos hmine];unfold qfinE;rw [if_neg (by omega)]
  have hS:hmDoneS c m.dst (maH s m.dst) m={ maH s m.dst with q:=(maH s m.dst).q.eraseIdx a}:=by
    unfold hmDoneS
    rw [if_pos hmine]
    unfold qfinL
    rw [if_neg (by omega),ea,Int.toNat_natCast]
  have hD:maDone c (maNs s (ntakeN s.n 2 j)) m=maOdd (maHs (maNs s (ntakeN s.n 2 j)) m.dst { maH s m.dst with q:=(maH s m.dst).q.eraseIdx a}) (decide (hmDoneE c m.dst (maH s m.dst) m≠0)):=by
    unfold maDone
    show maOdd (maHs _ _ (hmDoneS c m.dst (maH s m.dst) m)) (decide (hmDoneE c m.dst (maH s m.dst) m≠0))=_
    rw [hS]
  rw [hD]
  refine ⟨⟨fun line hline=>?_,h.2⟩,?_⟩
  · obtain ⟨hLI,hNF⟩:=h.1 line hline
    generalize hs':maOdd (maHs (maNs s (ntakeN s.n 2 j)) m.dst { maH s m.dst with q:=(maH s m.dst).q.eraseIdx a}) (decide (hmDoneE c m.dst (maH s m.dst) m≠0))=s'
    have hhs:s'.hs=(maHs s m.dst { maH s m.dst with q:=(maH s m.dst).q.eraseIdx a}).hs:=by rw [←hs'];rfl
    have hcs:s'.cs=s.cs:=by rw [←hs'];rfl
    have htr:s'.tr=s.tr:=by rw [←hs'];rfl
    have hns:s'.n=ntakeN s.n 2 j:=by rw [←hs'];rfl
    have hH:maHo c s' line=if lineH c line=m.dst then { maH s m.dst with q:=(maH s m.dst).q.eraseIdx a} else maHo c s line:=by
      rw [←ho_as (x:={ maH s m.dst with q:=(maH s m.dst).q.eraseIdx a}) hl hd hline]
      unfold maHo maH
      rw [hhs];rfl
    have key:(maHo c s' line).es=(maHo c s line).es∧(maHo c s' line).ms=(maHo c s line).ms∧oC line (maHo c s' line).q=oC line (maHo c s line).q∧oP line (maHo c s' line).q=oP line (maHo c s line).q∧actQ line (maHo c s' line).q=if line=m.line then none else actQ line (maHo c s line).q:=by
      rw [hH]
      by_cases hL:lineH c line=m.dst
      · rw [if_pos hL]
        have e:maHo c s line=maH s m.dst:=by unfold maHo;rw [hL]
        obtain ⟨f1,f2,f3⟩:=fin_q hF.q ha hga.2.1 hga.2.2 line
        rw [hga.1] at f3
        rw [e]
        exact ⟨rfl,rfl,f1,f2,f3⟩
      · rw [if_neg hL,if_neg (fun g=>hL (by rw [g];exact hlh))]
        exact ⟨rfl,rfl,rfl,rfl,rfl⟩
    obtain ⟨k1,k2,k3,k4,k5⟩:=key
    have hca:∀ r,maCa s' r=maCa s r:=fun r=>by unfold maCa maA;rw [hcs]
    have hent:hmEnt (maHo c s' line) line=hmEnt (maHo c s line) line:=by unfold hmEnt;rw [k1]
    have hms:∀ r,(maV c s' line).ms r=(maV c s line).ms r:=fun r=>by show cms (maCa s' r) line=_;rw [hca];rfl
    have w1:∀ r,(maV c s' line).st r=(maV c s line).st r:=fun r=>by show cst c (maCa s' r) line=_;rw [hca];rfl
    have w2:∀ r,(maV c s' line).st r≠0→(maV c s' line).wd r=(maV c s line).wd r:=fun r _=>by show cwd c (maCa s' r) line=_;rw [hca];rfl
    have w3:∀ r,(maV c s' line).bf r=(maV c s line).bf r:=fun r=>by show cbf (maCa s' r) line=_;rw [hca];rfl
    have w4:(maV c s' line).o=(maV c s line).o:=by show (hmEnt (maHo c s' line) line).o=_;rw [hent];rfl
    have w5:∀ r,(maV c s' line).sh r=(maV c s line).sh r:=fun r=>by show shHas (hmEnt (maHo c s' line) line).s r=_;rw [hent];rfl
    have w6:(maV c s' line).mem=(maV c s line).mem:=by show lineWo c (maHo c s' line).ms line=_;rw [k2];rfl
    have w7:(maV c s' line).now=(maV c s line).now:=by show lineWo c (trMs c s'.tr) line=_;rw [htr];rfl
    obtain ⟨p1,p2⟩:=take_fr (c:=c) (line:=line) hb (.inr rfl)
    rw [hm] at p2
    have hq:(maV c s' line).rq.Perm (maV c s line).rq:=by
      show ((ofL line s'.n.l0++oC line (maHo c s' line).q).map amM).Perm _
      rw [hns,k3];exact p1.symm
    have hfv:(maV c s' line).fly=vfly line (ntakeN s.n 2 j) (maHo c s line).q:=by
      show (ofL line (s'.n.l1++s'.n.l2)++oP line (maHo c s' line).q).map amM=_
      rw [hns,k4];rfl
    rw [←hfv] at p2
    refine ⟨?_,fun r m' hm' hn=>hNF r m' (by rw [←hms];exact hm') hn⟩
    by_cases hL:m.line=line
    · subst hL
      rw [if_pos rfl,hA] at p2
      rw [if_pos rfl] at k5
      exact li_done (r:=m.src) hLI w1 w2 hms w3 hq p2 (List.Perm.refl _) k5 w4 w5 w6 w7
    · rw [if_neg hL] at p2
      rw [if_neg (Ne.symm hL)] at k5
      exact li_same hLI w1 w2 hms w3 hq p2.symm k5 w4 w5 w6 w7
  · show (if decide (hmDoneE c m.dst (maH s m.dst) m≠0)=true then s.odd+1 else s.odd)=s.odd
    rw [if_neg (by rw [hE];simp)]
end
end Go.Sx

/- What homes do keeps each line's protocol: what is sent. My own work. -/
namespace Go.Sx
open Go Go.Proofs
section
variable {c:Cfg} {n:Nat} {s:MaS} {line j:Int}
theorem oP_mid {A B:List QE} {e:QE} (x:Int):oP x (A++e::B)=oP x A++((if e.m.line=x then e.sends else [])++oP x B):=by rw [oP_app,oP_cons]
theorem act_mid {A B:List QE} {e e':QE} (x:Int) (h1:e'.m=e.m) (h2:e'.st=e.st):actQ x (A++e'::B)=actQ x (A++e::B):=by
  unfold actQ
  rw [List.find?_append,List.find?_append,List.find?_cons,List.find?_cons,h1,h2]
  cases List.find? (fun e=>decide (e.m.line=x)&& e.st&& !decide (e.m.kind=3)) A with
  |some y=>rfl
  |none=>
   dsimp only [Option.none_or]
   split
   · simp [h1]
   · rfl
theorem sent_q {q:List QE} {i:Nat} {y:Msg} {r:List Msg} (hQ:QInv q) (hi:i<q.length) (hs:q[i].sends=y::r) (x:Int) :
    oC x (qsentL q i)=oC x q∧(oP x q).Perm (if q[i].m.line=x then y::oP x (qsentL q i) else oP x (qsentL q i))∧actQ x (qsentL q i)=actQ x q:=by
  have hst:q[i].st=true:=by
    cases e:q[i].st with
    |true=>rfl
    |false=>have:=hQ.2 _ (List.getElem_mem hi) e;rw [hs] at this;cases this
  have hin:qin q (i:Int)=true:=by unfold qin;exact decide_eq_true (by omega)
  have hat:qat q (i:Int)=q[i]:=by unfold qat;rw [if_pos hin,Int.toNat_natCast,List.getD_eq_getElem?_getD,List.getElem?_eq_getElem hi];rfl
  have hE:qsentE q (i:Int)=0:=by unfold qsentE;rw [if_pos hin,hat,hs,if_neg (by simp)]
  obtain ⟨e,e2,e3⟩:=q_cut hi
  have eC:oC x q=oC x (q.take i++q[i]::q.drop (i+1)):=congrArg (oC x) e
  have eP:oP x q=oP x (q.take i++q[i]::q.drop (i+1)):=congrArg (oP x) e
  have eA:actQ x q=actQ x (q.take i++q[i]::q.drop (i+1)):=congrArg (actQ x) e
  unfold qsentL
  rw [if_pos hE,hat,Int.toNat_natCast]
  by_cases h3:q[i].sends.length=1∧q[i].m.kind=3
  · rw [if_pos h3,e3]
    have hr:r=[]:=by have:=h3.1;rw [hs] at this;simpa using this
    refine ⟨?_,?_,?_⟩
    · rw [eC,oC_app,oC_app,oC_cons,if_neg (fun g=>by rw [hst] at g;cases g.2)];rfl
    · rw [eP,oP_mid,oP_app,hs,hr]
      by_cases hx:q[i].m.line=x
      · rw [if_pos hx,if_pos hx];exact List.perm_middle
      · rw [if_neg hx,if_neg hx];exact List.Perm.refl _
    · rw [eA]
      unfold actQ
      rw [List.find?_append,List.find?_append,List.find?_cons_of_neg (by simp [h3.2])]
  · rw [if_neg h3,e2]
    refine ⟨?_,?_,?_⟩
    · rw [eC,oC_app,oC_app,oC_cons,oC_cons,if_neg (fun g=>by rw [hst] at g;cases g.2)]
    · rw [eP,oP_mid,oP_mid,hs]
      by_cases hx:q[i].m.line=x
      · rw [if_pos hx,if_pos hx,if_pos hx];exact List.perm_middle
      · rw [if_neg hx,if_neg hx,if_neg hx]
    · rw [eA];exact act_mid x rfl rfl
theorem lt_sent {d:Int} (h:LT c s) (hl:MaL c n s) (hf:HmFs c s) (hd:0≤d∧d<c.homes) (hr:qready (maH s d).q j=false) (hg:hmGoes (maH s d) j (maL c s)=true):LT c (maWorkS c s d j):=by
  have hF:=hmf_at hf hl hd
  have hI:=(hl.hmi hd.1 hd.2).1
  have hg0:=hg
  unfold hmGoes at hg
  rw [Bool.and_eq_true,decide_eq_true_eq] at hg
  obtain ⟨hn,hroom⟩:=hg
  have hn0:=hn
  unfold qnextB at hn
  rw [Bool.and_eq_true,decide_eq_true_eq] at hn
  obtain ⟨hin,hlen⟩:=hn
  have hin':=of_decide_eq_true (show decide (0≤j∧j<((maH s d).q.length:Int))=true from hin)
  obtain ⟨i,rfl⟩:∃ i:Nat,j=i:=⟨j.toNat,by omega⟩
  have hi:i<(maH s d).q.length:=by omega
  have hat:qat (maH s d).q (i:Int)=(maH s d).q[i]:=by unfold qat;rw [if_pos hin,Int.toNat_natCast,List.getD_eq_getElem?_getD,List.getElem?_eq_getElem hi];rfl
  rw [hat] at hlen
  obtain ⟨y,r,hs⟩:∃ y r,(maH s d).q[i].sends=y::r:=by
    cases e:(maH s d).q[i].sends with
    |nil=>rw [e] at hlen;exact absurd rfl hlen
    |cons y r=>exact ⟨y,r,rfl⟩
  have hM:qnextM (maH s d).q (i:Int)=y:=by unfold qnextM;rw [if_pos hn0,hat,hs];rfl
  rw [hM] at hroom
  have hy:y∈(maH s d).q[i].sends:=by rw [hs];exact List.mem_cons_self ..
  have hmay:=hF.sm _ (List.getElem_mem hi) y hy
  have hsn:=hI.snd _ (List.getElem_mem hi) y hy
  have hnk:netK y.kind≠0:=by
    unfold netK
    rw [if_neg (by omega)]
    split
    · omega
    · split<;>omega
  have hrm:0<nleft c s.n (netK y.kind):=by
    unfold l3at maL at hroom
    rcases netK_012 hmay with g|g|g
    · exact absurd g hnk
    · rw [g] at hroom ⊢;exact hroom
    · rw [g] at hroom ⊢;exact hroom
  have hS:maWorkS c s d (i:Int)=maSend c (maHs s d { maH s d with q:=qsentL (maH s d).q i}) y:=by
    unfold maWorkS hmWorkB hmWorkS hmWorkM
    rw [hr,hg0]
    simp only [Bool.false_eq_true,if_false,if_true]
    rw [hM]
  rw [hS]
  refine ⟨fun line hline=>?_,h.2⟩
  obtain ⟨hLI,hNF⟩:=h.1 line hline
  have hH:maHo c (maSend c (maHs s d { maH s d with q:=qsentL (maH s d).q i}) y) line=if lineH c line=d then { maH s d with q:=qsentL (maH s d).q i} else maHo c s line:=ho_as (x:={ maH s d with q:=qsentL (maH s d).q i}) hl hd hline
  have hown:=(mine_facts hl.ok (hI.req _ (List.getElem_mem hi))).2.2.1
  have hlok:okLine c y.line=true:=may_lnk hmay
  have hlh:lineH c y.line=d:=by
    unfold lineH
    rw [if_pos hlok,hsn.2.1];exact hown.2.2
  generalize hs':maSend c (maHs s d { maH s d with q:=qsentL (maH s d).q i}) y=s' at *
  have hcs:s'.cs=s.cs:=by rw [←hs'];rfl
  have htr:s'.tr=s.tr:=by rw [←hs'];rfl
  have hns:s'.n=nsendN c s.n y:=by rw [←hs'];rfl
  have key:(maHo c s' line).es=(maHo c s line).es∧(maHo c s' line).ms=(maHo c s line).ms∧oC line (maHo c s' line).q=oC line (maHo c s line).q∧(oP line (maHo c s line).q).Perm (if y.line=line then y::oP line (maHo c s' line).q else oP line (maHo c s' line).q)∧actQ line (maHo c s' line).q=actQ line (maHo c s line).q:=by
    rw [hH]
    by_cases hL:lineH c line=d
    · rw [if_pos hL]
      have e:maHo c s line=maH s d:=by unfold maHo;rw [hL]
      obtain ⟨f1,f2,f3⟩:=sent_q hF.q hi hs line
      rw [←hsn.2.1] at f2
      rw [e]
      exact ⟨rfl,rfl,f1,f2,f3⟩
    · rw [if_neg hL,if_neg (fun g=>hL (by rw [←g];exact hlh))]
      exact ⟨rfl,rfl,rfl,List.Perm.refl _,rfl⟩
  obtain ⟨k1,k2,k3,k4,k5⟩:=key
  have hca:∀ r,maCa s' r=maCa s r:=fun r=>by unfold maCa maA;rw [hcs]
  have hent:hmEnt (maHo c s' line) line=hmEnt (maHo c s line) line:=by unfold hmEnt;rw [k1]
  have hms:∀ r,(maV c s' line).ms r=(maV c s line).ms r:=fun r=>by show cms (maCa s' r) line=_;rw [hca];rfl
  have hq1:=vrq_send (line:=line) (n:=s.n) (q:=(maHo c s' line).q) hmay hrm
  have hf1:=vfly_send (line:=line) (n:=s.n) (q:=(maHo c s' line).q) hmay hrm
  rw [if_neg (fun g=>hnk g.2)] at hq1
  have hfl:(maV c s line).fly.Perm (if y.line=line then amM y::vfly line s.n (maHo c s' line).q else vfly line s.n (maHo c s' line).q):=by
    show ((ofL line (s.n.l1++s.n.l2)++oP line (maHo c s line).q).map amM).Perm _
    have:=(k4.append_left (ofL line (s.n.l1++s.n.l2))).map amM
    refine this.trans ?_
    by_cases hL:y.line=line
    · rw [if_pos hL,if_pos hL]
      exact (List.perm_middle (a:=y) (l₁:=ofL line (s.n.l1++s.n.l2)) (l₂:=oP line (maHo c s' line).q)).map amM
    · rw [if_neg hL,if_neg hL];exact List.Perm.refl _
  refine ⟨li_same hLI (fun r=>?_) (fun r _=>?_) hms (fun r=>?_) ?_ ?_ k5 ?_ (fun r=>?_) ?_ ?_,fun r m' hm' hn=>hNF r m' (by rw [←hms];exact hm') hn⟩
  · show cst c (maCa s' r) line=_;rw [hca];rfl
  · show cwd c (maCa s' r) line=_;rw [hca];rfl
  · show cbf (maCa s' r) line=_;rw [hca];rfl
  · show (vrq line s'.n (maHo c s' line).q).Perm _
    rw [hns]
    refine hq1.trans ?_
    show ((ofL line s.n.l0++oC line (maHo c s' line).q).map amM).Perm _
    rw [k3];exact List.Perm.refl _
  · show (vfly line s'.n (maHo c s' line).q).Perm _
    rw [hns]
    refine hf1.trans (List.Perm.trans ?_ hfl.symm)
    by_cases hL:y.line=line
    · rw [if_pos hL,if_pos ⟨hL,hnk⟩]
    · rw [if_neg hL,if_neg (fun g=>hL g.1)]
  · show (hmEnt (maHo c s' line) line).o=_;rw [hent];rfl
  · show shHas (hmEnt (maHo c s' line) line).s r=_;rw [hent];rfl
  · show lineWo c (maHo c s' line).ms line=_;rw [k2];rfl
  · show lineWo c (trMs c s'.tr) line=_;rw [htr];rfl
theorem hmf_erase {x:HomS} (h:HmF c x) (k:Nat):HmF c { x with q:=x.q.eraseIdx k}:=
  ⟨qinv_erase h.q,h.ml,h.od,fun e he=>h.sm e (List.mem_of_mem_eraseIdx he),fun e he=>h.sk e (List.mem_of_mem_eraseIdx he),fun e he=>h.sp e (List.mem_of_mem_eraseIdx he),h.mv⟩
theorem hmf_sent {x:HomS} (h:HmF c x) (k:Int):HmF c { x with q:=qsentL x.q k}:=by
  have hq:QInv (qsentL x.q k):=by
    have:=qinv_do (room:=0) (x:=⟨2,k,.zero,[],none,0⟩) h.q
    exact this
  by_cases he:qsentE x.q k=0
  · have hin:qin x.q k=true:=by
      cases hc:qin x.q k with
      |true=>rfl
      |false=>simp [qsentE,hc] at he
    have hm:=qat_mem hin
    by_cases h3:(qat x.q k).sends.length=1∧(qat x.q k).m.kind=3
    · have e:qsentL x.q k=x.q.eraseIdx k.toNat:=by unfold qsentL;rw [if_pos he,if_pos h3]
      rw [e];exact hmf_erase h _
    · have e:qsentL x.q k=x.q.set k.toNat { qat x.q k with sends:=(qat x.q k).sends.drop 1}:=by unfold qsentL;rw [if_pos he,if_neg h3]
      refine ⟨hq,h.ml,h.od,fun e' he'=>?_,fun e' he'=>?_,fun e' he'=>?_,h.mv⟩
      all_goals
        change e'∈qsentL x.q k at he'
        rw [e] at he'
        rcases List.mem_or_eq_of_mem_set he' with g|rfl
      · exact h.sm e' g
      · exact fun y hy=>h.sm _ hm y (List.mem_of_mem_drop hy)
      · exact h.sk e' g
      · exact fun hk y hy=>h.sk _ hm hk y (List.mem_of_mem_drop hy)
      · exact h.sp e' g
      · intro hk hst hno
        have h4:=h.sp _ hm hk hst
        have hk':(qat x.q k).m.kind=3:=hk
        have hno':(qat x.q k).sends.drop 1=[]:=hno
        have:(qat x.q k).sends.length=1:=by
          have h5:(qat x.q k).sends.length≠0:=fun g=>h4 (List.length_eq_zero_iff.1 g)
          have:=List.drop_eq_nil_iff.1 hno'
          omega
        exact h3 ⟨this,hk'⟩
  · have e:qsentL x.q k=x.q:=by unfold qsentL;rw [if_neg he]
    rw [e];exact h
theorem hmf_done {d:Int} {x:HomS} {m:Msg} (h:HmF c x):HmF c (hmDoneS c d x m):=by
  unfold hmDoneS
  split
  · unfold qfinL
    split
    · exact h
    · exact hmf_erase h _
  · exact h
theorem hmf_accS {d:Int} {x:HomS} {m:Msg} (h:HmF c x):HmF c (hmAccS c d x m):=by
  unfold hmAccS
  split
  · unfold qaddL
    split
    · exact hmf_acc h
    · exact h
  · exact h
end
end Go.Sx

/- What homes do keeps each line's protocol: a request is started: its queue. My own work. -/
namespace Go.Sx
open Go Go.Proofs
section
variable {c:Cfg} {n:Nat} {s:MaS} {line j:Int}
theorem start_q {q:List QE} {i:Nat} {S:List Msg} (hQ:QInv q) (hi:i<q.length) (hr:qready q (i:Int)=true) (hS:S≠[]) :
    qstartL q (i:Int) S=q.set i { q[i] with st:=true,sends:=S}∧q[i].st=false
    ∧(oC q[i].m.line q=q[i].m::oC q[i].m.line (qstartL q (i:Int) S)∧oP q[i].m.line q=[]∧oP q[i].m.line (qstartL q (i:Int) S)=S∧actQ q[i].m.line q=none∧actQ q[i].m.line (qstartL q (i:Int) S)=if q[i].m.kind=3 then none else some (q[i].m.kind,q[i].m.src))
    ∧∀ x,x≠q[i].m.line→oC x (qstartL q (i:Int) S)=oC x q∧oP x (qstartL q (i:Int) S)=oP x q∧actQ x (qstartL q (i:Int) S)=actQ x q:=by
  have hin:qin q (i:Int)=true:=by unfold qin;exact decide_eq_true (by omega)
  have hat:qat q (i:Int)=q[i]:=by unfold qat;rw [if_pos hin,Int.toNat_natCast,List.getD_eq_getElem?_getD,List.getElem?_eq_getElem hi];rfl
  have hr0:=hr
  unfold qready at hr
  rw [hat,Int.toNat_natCast] at hr
  simp only [Bool.and_eq_true,Bool.not_eq_true'] at hr
  obtain ⟨⟨_,hst⟩,hfr⟩:=hr
  have hlen:S.length≠0:=fun g=>hS (List.length_eq_zero_iff.1 g)
  have hL:qstartL q (i:Int) S=q.set i { q[i] with st:=true,sends:=S}:=by
    unfold qstartL qstartE
    rw [if_pos hin,hr0,decide_eq_true hlen]
    simp only [Bool.and_self,if_true]
    rw [hat,Int.toNat_natCast]
  obtain ⟨e,e2,e3⟩:=q_cut hi
  have ht:=q_tail hQ hi
  have hhd:∀ y∈q.take i,y.m.line≠q[i].m.line:=fun y hy=>by
    unfold qfree at hfr
    have:=List.all_eq_true.1 hfr y hy
    simpa using this
  have hse:q[i].sends=[]:=hQ.2 _ (List.getElem_mem hi) hst
  have eC:∀ x,oC x q=oC x (q.take i++q[i]::q.drop (i+1)):=fun x=>congrArg (oC x) e
  have eP:∀ x,oP x q=oP x (q.take i++q[i]::q.drop (i+1)):=fun x=>congrArg (oP x) e
  have eA:∀ x,actQ x q=actQ x (q.take i++q[i]::q.drop (i+1)):=fun x=>congrArg (actQ x) e
  refine ⟨hL,hst,⟨?_,?_,?_,?_,?_⟩,fun x hx=>⟨?_,?_,?_⟩⟩
  · rw [eC,hL,e2,oC_app,oC_app,oC_cons,oC_cons,if_pos ⟨rfl,hst⟩,if_neg (fun g=>by cases g.2),oC_none hhd];rfl
  · rw [eP,oP_mid,hse,oP_none (fun y hy g=>absurd g (hhd y hy)),oP_none (fun y hy g=>(ht y hy g).2)]
    split<;>rfl
  · rw [hL,e2,oP_mid,if_pos rfl,oP_none (fun y hy g=>absurd g (hhd y hy)),oP_none (fun y hy g=>(ht y hy g).2)]
    simp
  · rw [eA]
    unfold actQ
    rw [Option.map_eq_none_iff,List.find?_eq_none]
    intro y hy
    rcases List.mem_append.1 hy with g|g
    · have:=hhd y g;simp [this]
    · rcases List.mem_cons.1 g with rfl|g
      · simp [hst]
      · by_cases hy2:y.m.line=q[i].m.line
        · have:=(ht y g hy2).1;simp [this]
        · simp [hy2]
  · rw [hL,e2]
    have h0:(q.take i).find? (fun e=>decide (e.m.line=q[i].m.line)&& e.st&& !decide (e.m.kind=3))=none:=by
      rw [List.find?_eq_none]
      intro y hy
      have:=hhd y hy;simp [this]
    have h1:(q.drop (i+1)).find? (fun e=>decide (e.m.line=q[i].m.line)&& e.st&& !decide (e.m.kind=3))=none:=by
      rw [List.find?_eq_none]
      intro y hy
      by_cases hy2:y.m.line=q[i].m.line
      · have:=(ht y hy hy2).1;simp [this]
      · simp [hy2]
    unfold actQ
    rw [List.find?_append,h0,List.find?_cons,h1]
    by_cases h3:q[i].m.kind=3
    · simp [h3]
    · simp [h3]
  · rw [eC,hL,e2,oC_app,oC_app,oC_cons,oC_cons,if_neg (fun g=>hx g.1.symm),if_neg (fun g=>hx g.1.symm)]
  · rw [eP,hL,e2,oP_mid,oP_mid,if_neg (fun g=>hx g.symm),if_neg (fun g=>hx g.symm)]
  · rw [eA,hL,e2]
    unfold actQ
    rw [List.find?_append,List.find?_append,List.find?_cons_of_neg (by simp [Ne.symm hx]),List.find?_cons_of_neg (by simp [Ne.symm hx])]
end
end Go.Sx

/- Who may share a line, behind a turn. My own work. -/
namespace Go.Sx
open Go Go.Proofs
theorem has_rng' {s:SSet} {x:Int} (hm:shMay s=true) (h:shHas s x=true):0≤x∧x<s.cores:=by
  unfold shHas at h
  split at h
  · simpa using h
  · have hx:=of_decide_eq_true h
    unfold shMay at hm
    simp only [Bool.and_eq_true] at hm
    have:=(rising_pw hm.2).2 x hx
    omega
theorem tgt_mem' {s:SSet} {but:List Int} {x:Int} (hm:shMay s=true):x∈shTgt s but s.cores.toNat↔shHas s x=true∧¬x∈but:=by
  unfold shTgt upto
  rw [List.mem_filter]
  constructor
  · rintro ⟨_,h⟩
    simpa using h
  · rintro ⟨h1,h2⟩
    have hr:=has_rng' hm h1
    refine ⟨List.mem_map.2 ⟨x.toNat,List.mem_range.2 (by omega),by omega⟩,by simp [h1,h2]⟩
theorem tgt_none {s:SSet} (hm:shMay s=true) (h:(shTgt s [] s.cores.toNat).length=0) (x:Int):shHas s x=false:=by
  cases e:shHas s x with
  |false=>rfl
  |true=>
   have:=(tgt_mem' (but:=[]) hm).2 ⟨e,by simp⟩
   rw [List.length_eq_zero_iff.1 h] at this
   cases this
theorem clear_has (s:SSet) (x:Int):shHas (clearS s) x=false:=by unfold shHas clearS;simp
theorem add_has2 {s:SSet} {y:Int} (hm:shMay s=true) (h0:0≤y) (h1:y<s.cores):shHas (shAddS s y) y=true∧∀ x,shHas s x=true→shHas (shAddS s y) x=true:=by
  have hE:shAddE s y=0:=by unfold shAddE;rw [if_pos hm,if_neg (by omega)]
  unfold shAddS
  rw [if_pos hE]
  split
  · rename_i h;exact ⟨h,fun _ h=>h⟩
  · rename_i hn
    split
    · refine ⟨?_,fun x hx=>?_⟩
      · unfold shHas;simp;exact ⟨h0,h1⟩
      · have:=has_rng' hm hx
        unfold shHas;simp;exact this
    · have ha:s.all=false:=by
        cases e:s.all with
        |false=>rfl
        |true=>
         have:shHas s y=true:=by unfold shHas;rw [e];simp;exact ⟨h0,h1⟩
         exact absurd this hn
      have hi:∀ x,x∈insL y s.ps↔x=y∨x∈s.ps:=fun x=>by
        unfold insL
        rw [List.mem_append,List.mem_cons]
        have:=List.take_append_drop (lowL s.ps y) s.ps
        conv=>rhs;rw [←this,List.mem_append]
        constructor
        · rintro (g|g|g)
          · exact .inr (.inl g)
          · exact .inl g
          · exact .inr (.inr g)
        · rintro (g|g|g)
          · exact .inr (.inl g)
          · exact .inl g
          · exact .inr (.inr g)
      refine ⟨?_,fun x hx=>?_⟩
      · unfold shHas;rw [if_neg (by simp [ha])];exact decide_eq_true ((hi y).2 (.inl rfl))
      · unfold shHas at hx ⊢
        rw [if_neg (by simp [ha])] at hx
        rw [if_neg (by simp [ha])]
        exact decide_eq_true ((hi x).2 (.inr (of_decide_eq_true hx)))
section
variable {c:Cfg} {n:Nat} {s:MaS}
theorem lis_turn {d L:Int} {x':HomS} (h:LIs c s) (hl:MaL c n s) (hd:0≤d∧d<c.homes)
    (hoth:∀ line,line≠L→hmEnt x' line=hmEnt (maH s d) line∧lineWo c x'.ms line=lineWo c (maH s d).ms line∧oC line x'.q=oC line (maH s d).q∧oP line x'.q=oP line (maH s d).q∧actQ line x'.q=actQ line (maH s d).q)
    (hL:okLine c L=true→LI (maV c s L)→LI (maV c (maHs s d x') L)):LIs c (maHs s d x'):=by
  intro line hline
  obtain ⟨hLI,hNF⟩:=h line hline
  have hN:NF (maV c (maHs s d x') line):=hNF
  refine ⟨?_,hN⟩
  by_cases hx:line=L
  · subst hx;exact hL hline hLI
  · have hH:=ho_as (x:=x') hl hd hline
    obtain ⟨o1,o2,o3,o4,o5⟩:=hoth line hx
    have key:hmEnt (maHo c (maHs s d x') line) line=hmEnt (maHo c s line) line∧lineWo c (maHo c (maHs s d x') line).ms line=lineWo c (maHo c s line).ms line∧oC line (maHo c (maHs s d x') line).q=oC line (maHo c s line).q∧oP line (maHo c (maHs s d x') line).q=oP line (maHo c s line).q∧actQ line (maHo c (maHs s d x') line).q=actQ line (maHo c s line).q:=by
      rw [hH]
      by_cases hd2:lineH c line=d
      · rw [if_pos hd2]
        have e:maHo c s line=maH s d:=by unfold maHo;rw [hd2]
        rw [e];exact ⟨o1,o2,o3,o4,o5⟩
      · rw [if_neg hd2];exact ⟨rfl,rfl,rfl,rfl,rfl⟩
    obtain ⟨k1,k2,k3,k4,k5⟩:=key
    refine li_same hLI (fun _=>rfl) (fun _ _=>rfl) (fun _=>rfl) (fun _=>rfl) ?_ ?_ k5 ?_ (fun r=>?_) k2 rfl
    · show ((ofL line s.n.l0++oC line (maHo c (maHs s d x') line).q).map amM).Perm _
      rw [k3];exact List.Perm.refl _
    · show ((ofL line (s.n.l1++s.n.l2)++oP line (maHo c (maHs s d x') line).q).map amM).Perm _
      rw [k4];exact List.Perm.refl _
    · show (hmEnt (maHo c (maHs s d x') line) line).o=_;rw [k1];rfl
    · show shHas (hmEnt (maHo c (maHs s d x') line) line).s r=_;rw [k1];rfl
end
end Go.Sx
