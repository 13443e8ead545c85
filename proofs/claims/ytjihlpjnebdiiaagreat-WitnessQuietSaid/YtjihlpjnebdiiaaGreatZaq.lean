/- Ca3: several of my texts as one. My own work. -/
import Derived.Test.YtjihlpjnebdiiaaGreatZr
import Derived.Test.YtjihlpjnebdiiaaGreatZai
set_option linter.unusedVariables false
set_option linter.unusedSectionVars false
set_option linter.unusedSimpArgs false
/- What caches do: evicted, finished, done. The program's. My own work. -/
namespace Go.Sx
open Go Go.Proofs
theorem atW_ok {c:Cfg} {l:List Way} {s k:Int} (hI:ArrInv c l) (h:(atW c l s k).st≠0):okLine c (atW c l s k).line=true:=by
  unfold atW at h ⊢
  by_cases h1:inWay c s k=true
  · rw [if_pos h1] at h ⊢
    by_cases h2:s.toNat*c.ways.toNat+k.toNat<l.length
    · rw [←getD_at h2] at h ⊢
      exact (hI _ h2 (by simp [thereB,h])).1
    · rw [List.getD_eq_getElem?_getD,List.getElem?_eq_none (by omega)] at h
      exact absurd rfl h
  · rw [if_neg h1] at h
    exact absurd rfl h
set_option maxRecDepth 100000
set_option maxHeartbeats 4000000
attribute [local irreducible] Go.Exit.then Go.Exit.inBlock Go.Code.wp WC WO WE WQ V LoopQ FnQ Sat Star band bor IntKind.wrap WR Code.rounds WT KO
theorem dr_Ca3_113g {Q P:Prop} (k:Q) (h:Hid Q→P:=by
  intro k
  first
  |(refine is_draw ?_;apply WC_mix (id:=6) .true _ (pl:= .p 0 <| .r 1 <| .e true [(2,.p 3 <| .p 4 <| .p 5 <| .p 6 <| .p 8 <| .p 10 <| .e false [(7,.e false [(9,.e false [(11,.e false [(12,.p 13 <| .p 14 <| .p 15 <| .done)])]),(11,.e false [(9,.e false [(12,.p 13 <| .p 14 <| .p 15 <| .done)])])]),(9,.e false [(7,.e false [(11,.e false [(12,.p 13 <| .p 14 <| .p 15 <| .done)])]),(11,.e false [(7,.e false [(12,.p 13 <| .p 14 <| .p 15 <| .done)])])]),(11,.e false [(7,.e false [(9,.e false [(12,.p 13 <| .p 14 <| .p 15 <| .done)])]),(9,.e false [(7,.e false [(12,.p 13 <| .p 14 <| .p 15 <| .done)])])])])]);exact mixed;kernel_rfl;kernel_rfl;exact Ent.refl;exact k.out)
  |(refine is_draw ?_;apply WC_mix (id:=8) .true _ (pl:= .p 0 <| .p 1 <| .p 2 <| .p 4 <| .p 6 <| .r 3 <| .r 5 <| .e true [(7,.done)]);exact mixed;kernel_rfl;kernel_rfl;exact Ent.refl;exact k.out)):P:=h ⟨k⟩
theorem ca_EvictO {F:List HP} {b a f e:Nat} {c:Cfg} {core s w:Int} {k:CaS} (hc:checkB c=true) (hI:ArrInv c k.ways) :
    FnF Tryz.prog 113 [.pointer (some ⟨b,0,none⟩),.int .i64 s,.int .i64 w] (CaO b a f e c core k) F
      (fun r L'=>r= .tuple [mv (caEvM c core k s w),.bool (caEvB c k s w),.int .i64 (caEvE c k s w)].toArray∧L'=CaO b a f e c core (caEvK c k s w)):=by
  have hAt:=fun F=>arr_At (F:=F) (b:=a) (c:=c) (l:=k.ways) (s:=s) (k:=w)
  have hno:∀ x:Int,x≠0→caEvE c k s w=x→caEvB c k s w=false∧caEvM c core k s w= .zero∧caEvK c k s w=k:=fun x hx h=>by
    have h1:caEvB c k s w=false:=by unfold caEvB;rw [h];simp [hx]
    refine ⟨h1,?_,?_⟩
    · unfold caEvM;rw [h1];rfl
    · unfold caEvK;rw [if_neg (by omega)]
  by_cases h0:inWay c s w=false∨(atW c k.ways s w).st=0
  · have e1:caEvE c k s w=5:=if_pos h0
    obtain ⟨e2,e3,e4⟩:=hno _ (by omega) e1
    rw [e1,e2,e3,e4]
    cases h1:inWay c s w with
    |false=>
     simp only [h1] at hAt
     refine FnF.mk' Tryz.func113 rfl rfl Tryz.ntmps113 rfl ?_
     repeat (first|refine go ?_|intro _|refine dr_Ca3_113g ?_|refine drq ?_|refine cal @hAt ?_)
     exact fin0
    |true=>
     simp only [h1] at hAt
     have h2:(atW c k.ways s w).st=0:=by
       rcases h0 with h|h
       · rw [h1] at h;cases h
       · exact h
     refine FnF.mk' Tryz.func113 rfl rfl Tryz.ntmps113 rfl ?_
     repeat (first|refine go ?_|intro _|refine dr_Ca3_113g ?_|refine drq ?_|refine cal @hAt ?_)
     exact fin0
  · have h1:inWay c s w=true:=by
      cases h:inWay c s w with
      |true=>rfl
      |false=>exact absurd (.inl h) h0
    have h2:(atW c k.ways s w).st≠0:=fun h=>h0 (.inr h)
    simp only [h1] at hAt
    have hok:=atW_ok hI h2
    have hli:=okLine_i64 hok
    have hE0:caEvE c k s w=if (atW c k.ways s w).lk=true then 6 else if 2≤(atW c k.ways s w).st∧wbPutE c.writebacks k.buf (atW c k.ways s w).line≠0 then 4 else 0:=if_neg h0
    have hPut:=fun F=>wb_Put (F:=F) (b:=e) (room:=c.writebacks) (l:=k.buf) (line:=(atW c k.ways s w).line) (w:=(atW c k.ways s w).words)
    have hSet:=fun F=>arr_Set (F:=F) (b:=a) (c:=c) (l:=k.ways) (line:=(atW c k.ways s w).line) (st:=0) (w:= .zero) (cfg_wf hc) hli
    have hHome:=fun F k'=>ca_homeO (F:=F) (b:=b) (a:=a) (f:=f) (e:=e) (core:=core) (k:=k') (kind:=3) hc hli
    cases h3:(atW c k.ways s w).lk with
    |true=>
     have e1:caEvE c k s w=6:=by rw [hE0,if_pos h3]
     obtain ⟨e2,e3,e4⟩:=hno _ (by omega) e1
     rw [e1,e2,e3,e4]
     refine FnF.mk' Tryz.func113 rfl rfl Tryz.ntmps113 rfl ?_
     repeat (first|refine go ?_|intro _|refine dr_Ca3_113g ?_|refine drq ?_|refine cal @hAt ?_)
     exact fin0
    |false=>
     rw [h3,if_neg Bool.false_ne_true] at hE0
     by_cases h4:2≤(atW c k.ways s w).st
     · by_cases h5:wbPutE c.writebacks k.buf (atW c k.ways s w).line=0
       · have e1:caEvE c k s w=0:=by rw [hE0,if_neg (fun h=>h.2 h5)]
         have e2:caEvB c k s w=true:=decide_eq_true ⟨e1,h4⟩
         have e3:caEvM c core k s w=homeMsg c core 3 (atW c k.ways s w).line (atW c k.ways s w).words:=if_pos e2
         have e4:caEvK c k s w=⟨setL c k.ways (atW c k.ways s w).line 0 .zero,k.mis,wbPutL c.writebacks k.buf (atW c k.ways s w).line (atW c k.ways s w).words⟩:=by unfold caEvK;rw [if_pos e1,if_pos h4]
         rw [e1,e2,e3,e4]
         simp only [h5] at hPut
         have hHome2:=fun F=>hHome F ⟨setL c k.ways (atW c k.ways s w).line 0 .zero,k.mis,wbPutL c.writebacks k.buf (atW c k.ways s w).line (atW c k.ways s w).words⟩
         refine FnF.mk' Tryz.func113 rfl rfl Tryz.ntmps113 rfl ?_
         repeat' (first|refine go ?_|intro _|refine dr_Ca3_113g ?_|refine drq ?_|refine cal @hAt ?_|refine cal @ca_owns ?_|refine cal @hPut ?_|refine cal @hSet ?_|refine cal @hHome2 ?_|refine spl ?_ ?_|fail)
         all_goals exact fin0
       · have e1:caEvE c k s w=4:=by rw [hE0,if_pos ⟨h4,h5⟩]
         obtain ⟨e2,e3,e4⟩:=hno _ (by omega) e1
         rw [e1,e2,e3,e4]
         have hL:wbPutL c.writebacks k.buf (atW c k.ways s w).line (atW c k.ways s w).words=k.buf:=by
           unfold wbPutE at h5;unfold wbPutL
           split
           · rfl
           · split
             · rfl
             · rename_i g1 g2;rw [if_neg g1,if_neg g2] at h5;exact absurd rfl h5
         rw [hL] at hPut
         refine FnF.mk' Tryz.func113 rfl rfl Tryz.ntmps113 rfl ?_
         repeat' (first|refine go ?_|intro _|refine dr_Ca3_113g ?_|refine drq ?_|refine cal @hAt ?_|refine cal @ca_owns ?_|refine cal @hPut ?_|refine spl ?_ ?_|fail)
         all_goals exact fin0
     · have e1:caEvE c k s w=0:=by rw [hE0,if_neg (fun h=>h4 h.1)]
       have e2:caEvB c k s w=false:=decide_eq_false (fun h=>h4 h.2)
       have e3:caEvM c core k s w= .zero:=by unfold caEvM;rw [e2];rfl
       have e4:caEvK c k s w=⟨setL c k.ways (atW c k.ways s w).line 0 .zero,k.mis,k.buf⟩:=by unfold caEvK;rw [if_pos e1,if_neg h4]
       rw [e1,e2,e3,e4]
       refine FnF.mk' Tryz.func113 rfl rfl Tryz.ntmps113 rfl ?_
       repeat' (first|refine go ?_|intro _|refine dr_Ca3_113g ?_|refine drq ?_|refine cal @hAt ?_|refine cal @ca_owns ?_|refine cal @hSet ?_|refine spl ?_ ?_|fail)
       all_goals exact fin0
theorem ca_Evict {F:List HP} {b:Nat} {c:Cfg} {core s w:Int} {k:CaS} (hI:ArrInv c k.ways) :
    FnF Tryz.prog 113 [.pointer (some ⟨b,0,none⟩),.int .i64 s,.int .i64 w] [CaP b c core k] F
      (fun r L'=>r= .tuple [mv (caEvM c core k s w),.bool (caEvB c k s w),.int .i64 (caEvE c k s w)].toArray∧L'=[CaP b c core (caEvK c k s w)]):=
  ca_close (fun a f e hf=>ca_EvictO hf.1 hI) (enters_of Tryz.func113 rfl rfl)
theorem ca_FinishO {F:List HP} {b a f e:Nat} {c:Cfg} {core:Int} {k:CaS} (hc:checkB c=true) (hm:∀ m∈k.mis,okLine c m.line=true) :
    FnF Tryz.prog 109 [.pointer (some ⟨b,0,none⟩)] (CaO b a f e c core k) F (fun r L'=>r= .tuple [mv (caFinM c core k),.bool (caFinB k)].toArray∧L'=CaO b a f e c core (caFinK c k)):=by
  have hOw:=fun F=>msh_Owing (F:=F) (b:=f) (room:=c.mshrs) (l:=k.mis)
  by_cases h:0≤owingP k.mis
  · obtain ⟨i,hi,e0,_⟩:=indexBy_nat h
    have e0':owingP k.mis=i:=e0
    have el:caFinL k=k.mis[i].line:=by unfold caFinL;rw [if_pos h,e0',Int.toNat_natCast,←getD_at hi]
    have hli:I64 (caFinL k):=by rw [el];exact okLine_i64 (hm _ (List.getElem_mem hi))
    have e1:caFinB k=true:=decide_eq_true h
    have e2:caFinM c core k=homeMsg c core 11 (caFinL k) .zero:=if_pos e1
    have e3:caFinK c k=⟨lockL c k.ways (caFinL k) false,closeL k.mis (caFinL k),k.buf⟩:=if_pos e1
    rw [e1,e2,e3]
    change ∀ F,FnF _ _ _ _ F (fun r L'=>r= .tuple [.int .i64 (caFinL k),.bool (decide (0≤owingP k.mis))].toArray∧L'=_) at hOw
    rw [decide_eq_true h] at hOw
    have hCl:=fun F=>msh_Close (F:=F) (b:=f) (room:=c.mshrs) (l:=k.mis) (line:=caFinL k)
    have hLk:=fun F=>arr_Lock (F:=F) (b:=a) (c:=c) (l:=k.ways) (line:=caFinL k) (lk:=false) (cfg_wf hc) hli
    have hHome:=fun F=>ca_homeO (F:=F) (b:=b) (a:=a) (f:=f) (e:=e) (core:=core) (k:=⟨lockL c k.ways (caFinL k) false,closeL k.mis (caFinL k),k.buf⟩) (kind:=11) hc hli
    refine FnF.mk' Tryz.func109 rfl rfl Tryz.ntmps109 rfl ?_
    repeat (first|refine gd ?_|intro _|refine cal @hOw ?_|refine cal @hCl ?_|refine cal @hLk ?_|refine cal @hHome ?_)
    exact fin0
  · have e1:caFinB k=false:=decide_eq_false h
    have e2:caFinM c core k= .zero:=by unfold caFinM;rw [e1];rfl
    have e3:caFinK c k=k:=by unfold caFinK;rw [e1];rfl
    rw [e1,e2,e3]
    simp only [decide_eq_false h] at hOw
    refine FnF.mk' Tryz.func109 rfl rfl Tryz.ntmps109 rfl ?_
    repeat (first|refine gd ?_|intro _|refine cal @hOw ?_)
    exact fin0
theorem ca_Finish {F:List HP} {b:Nat} {c:Cfg} {core:Int} {k:CaS} (hm:∀ m∈k.mis,okLine c m.line=true) :
    FnF Tryz.prog 109 [.pointer (some ⟨b,0,none⟩)] [CaP b c core k] F (fun r L'=>r= .tuple [mv (caFinM c core k),.bool (caFinB k)].toArray∧L'=[CaP b c core (caFinK c k)]):=
  ca_close (fun a f e hf=>ca_FinishO hf.1 hm) (enters_of Tryz.func109 rfl rfl)
theorem addr_i64 {c:Cfg} {a:Int}:I64 (addrL c a):=by
  unfold addrL
  split
  · rename_i h
    simp only [okAddr,Bool.and_eq_true,decide_eq_true_eq] at h
    obtain ⟨hc,h0,h1⟩:=h
    have hw:=check_words hc
    have hm:=mul_bd (m:=8) (n:=1024) (a:=c.words) (b:=c.lines) (by omega) (by omega) (by omega) (by omega) (by omega)
    have h2:0≤a / c.words:=Int.ediv_nonneg h0 (by omega)
    have h3:a / c.words≤a:=Int.ediv_le_self _ h0
    unfold I64;omega
  · decide
theorem dr_Ca3_145 {Q P:Prop} (k:Q) (h:Hid Q→P:=by
  intro k
  first
  |(refine is_draw ?_;apply WC_mix (id:=1) .true _ (pl:= .p 0 <| .p 1 <| .p 2 <| .p 4 <| .r 3 <| .r 5 <| .e true [(6,.p 7 <| .p 8 <| .p 9 <| .p 10 <| .p 11 <| .p 12 <| .p 13 <| .done)]);exact mixed;kernel_rfl;kernel_rfl;exact Ent.refl;exact k.out)
  |(refine is_draw ?_;apply WC_mix (id:=3) .true _ (pl:= .p 0 <| .p 1 <| .p 2 <| .p 4 <| .r 3 <| .r 5 <| .r 6 <| .e true [(7,.p 8 <| .p 9 <| .p 10 <| .p 11 <| .e false [(12,.e false [(13,.p 14 <| .p 15 <| .done)])]),(12,.e true [(7,.p 8 <| .p 9 <| .p 10 <| .p 11 <| .e false [(13,.p 14 <| .p 15 <| .done)])])]);exact mixed;kernel_rfl;kernel_rfl;exact Ent.refl;exact k.out)
  |(refine is_draw ?_;apply WC_mix (id:=12) .true _ (pl:= .p 0 <| .p 1 <| .p 2 <| .p 4 <| .r 3 <| .r 5 <| .e true [(6,.done)]);exact mixed;kernel_rfl;kernel_rfl;exact Ent.refl;exact k.out)):P:=h ⟨k⟩
theorem ca_DoO {F:List HP} {b a f e:Nat} {c:Cfg} {core:Int} {x:Op3} {k:CaS} (hc:checkB c=true) (hx:x.wf) :
    FnF Tryz.prog 145 [.pointer (some ⟨b,0,none⟩),ov x] (CaO b a f e c core k) F (fun r L'=>r= .tuple [.int .i64 (caDoV c k x),.int .i64 (caDoE c k x)].toArray∧L'=CaO b a f e c core (caDoK c k x)):=by
  have hAd:=fun F=>split_Addr (F:=F) (c:=c) (a:=x.addr) (cfg_wf hc) hx.2.1
  have hLook:=fun F=>ca_LookO (F:=F) (b:=b) (a:=a) (f:=f) (e:=e) (core:=core) (k:=k) hc (addr_i64 (c:=c) (a:=x.addr))
  have hAp:=fun F=>mem_Apply (F:=F) (c:=c) (w:=(findW c k.ways (addrL c x.addr)).words) (x:=x) (cfg_wf hc) hx
  have hCan:=fun F=>ca_canO (F:=F) (b:=b) (a:=a) (f:=f) (e:=e) (core:=core) (k:=k) (kind:=kindOf x) hc (addr_i64 (c:=c) (a:=x.addr))
  have hSet:=fun F=>arr_Set (F:=F) (b:=a) (c:=c) (l:=k.ways) (line:=addrL c x.addr) (st:=4) (w:=apW c (findW c k.ways (addrL c x.addr)).words x) (cfg_wf hc) addr_i64
  by_cases h0:apE c x=0
  · have hE0:caDoE c k x=if caCan c k (addrL c x.addr) (kindOf x) then 0 else 5:=if_pos h0
    simp only [h0] at hAp
    cases h1:caCan c k (addrL c x.addr) (kindOf x) with
    |false=>
     simp only [h1] at hCan
     have e1:caDoE c k x=5:=by rw [hE0,h1];rfl
     have e2:caDoV c k x=0:=by unfold caDoV;rw [e1];rfl
     have e3:caDoK c k x=k:=by unfold caDoK;rw [e1];rfl
     rw [e1,e2,e3]
     by_cases h2:x.kind=1
     · have e4:kindOf x=1:=if_pos h2
       rw [e4] at hCan
       refine FnF.mk' Tryz.func145 rfl rfl Tryz.ntmps145 rfl ?_
       repeat' (first|refine go ?_|intro _|refine dr_Ca3_145 ?_|refine drq ?_|refine cal @hAd ?_|refine cal @hLook ?_|refine cal @hAp ?_|refine cal @hCan ?_|refine spl ?_ ?_|fail)
       all_goals exact fin0
     · have e4:kindOf x=2:=if_neg h2
       rw [e4] at hCan
       refine FnF.mk' Tryz.func145 rfl rfl Tryz.ntmps145 rfl ?_
       repeat' (first|refine go ?_|intro _|refine dr_Ca3_145 ?_|refine drq ?_|refine cal @hAd ?_|refine cal @hLook ?_|refine cal @hAp ?_|refine cal @hCan ?_|refine spl ?_ ?_|fail)
       all_goals exact fin0
    |true=>
     simp only [h1] at hCan
     have e1:caDoE c k x=0:=by rw [hE0,h1];rfl
     have e2:caDoV c k x=apV c (findW c k.ways (addrL c x.addr)).words x:=if_pos e1
     by_cases h2:x.kind=1
     · have e4:kindOf x=1:=if_pos h2
       have e3:caDoK c k x=k:=if_neg (fun h=>h.2 h2)
       rw [e1,e2,e3]
       rw [e4] at hCan
       refine FnF.mk' Tryz.func145 rfl rfl Tryz.ntmps145 rfl ?_
       repeat' (first|refine go ?_|intro _|refine dr_Ca3_145 ?_|refine drq ?_|refine cal @hAd ?_|refine cal @hLook ?_|refine cal @hAp ?_|refine cal @hCan ?_|refine spl ?_ ?_|fail)
       all_goals exact fin0
     · have e4:kindOf x=2:=if_neg h2
       have e3:caDoK c k x=⟨setL c k.ways (addrL c x.addr) 4 (apW c (findW c k.ways (addrL c x.addr)).words x),k.mis,k.buf⟩:=if_pos ⟨e1,h2⟩
       rw [e1,e2,e3]
       rw [e4] at hCan
       refine FnF.mk' Tryz.func145 rfl rfl Tryz.ntmps145 rfl ?_
       repeat' (first|refine go ?_|intro _|refine dr_Ca3_145 ?_|refine drq ?_|refine cal @hAd ?_|refine cal @hLook ?_|refine cal @hAp ?_|refine cal @hCan ?_|refine cal @hSet ?_|refine spl ?_ ?_|fail)
       all_goals exact fin0
  · have e1:caDoE c k x=apE c x:=if_neg h0
    have e2:caDoV c k x=0:=by unfold caDoV;rw [e1,if_neg h0]
    have e3:caDoK c k x=k:=by unfold caDoK;rw [e1,if_neg (fun h=>h0 h.1)]
    rw [e1,e2,e3]
    refine FnF.mk' Tryz.func145 rfl rfl Tryz.ntmps145 rfl ?_
    repeat' (first|refine go ?_|intro _|refine dr_Ca3_145 ?_|refine drq ?_|refine cal @hAd ?_|refine cal @hLook ?_|refine cal @hAp ?_|refine spl ?_ ?_|fail)
    all_goals exact fin0
theorem ca_Do {F:List HP} {b:Nat} {c:Cfg} {core:Int} {x:Op3} {k:CaS} (hx:x.wf) :
    FnF Tryz.prog 145 [.pointer (some ⟨b,0,none⟩),ov x] [CaP b c core k] F (fun r L'=>r= .tuple [.int .i64 (caDoV c k x),.int .i64 (caDoE c k x)].toArray∧L'=[CaP b c core (caDoK c k x)]):=
  ca_close (fun a f e hf=>ca_DoO hf.1 hx) (enters_of Tryz.func145 rfl rfl)
end Go.Sx
