/- Ca2: several of my texts as one. My own work. -/
import Derived.Test.YtjihlpjnebdiiaaGreatZr
import Derived.Test.YtjihlpjnebdiiaaGreatZai
set_option linter.unusedVariables false
set_option linter.unusedSectionVars false
set_option linter.unusedSimpArgs false
/- What caches do: asked, evicted, finished, done. The program's. My own work. -/
namespace Go.Sx
open Go Go.Proofs
set_option maxRecDepth 100000
set_option maxHeartbeats 4000000
attribute [local irreducible] Go.Exit.then Go.Exit.inBlock Go.Code.wp WC WO WE WQ V LoopQ FnQ Sat Star band bor IntKind.wrap WR Code.rounds WT KO
theorem dr_Ca2_111 {Q P:Prop} (k:Q) (h:Hid Q→P:=by
  intro k
  first
  |(refine is_draw ?_;apply WC_mix (id:=11) .false _ (pl:= .p 0 <| .p 1 <| .p 2 <| .p 6 <| .p 7 <| .p 8 <| .p 9 <| .r 3 <| .r 10 <| .e true [(4,.p 5 <| .p 11 <| .p 12 <| .done)]);exact mixed;kernel_rfl;kernel_rfl;exact Ent.refl;exact k.out)):P:=h ⟨k⟩
theorem ca_AskO {F:List HP} {b a f e:Nat} {c:Cfg} {core line kind:Int} {k:CaS} (hc:checkB c=true) (hli:I64 line) :
    FnF Tryz.prog 111 [.pointer (some ⟨b,0,none⟩),.int .i64 line,.int .i64 kind] (CaO b a f e c core k) F (fun r L'=>r= .tuple [mv (caAskM c core k line kind),.int .i64 (caAskE c k line kind)].toArray∧L'=CaO b a f e c core (caAskK c k line kind)):=by
  have hL:=fun F=>split_Line (F:=F) (c:=c) (a:=line) (cfg_wf hc) hli
  by_cases hbad:okLine c line=false∨(kind≠1∧kind≠2)
  · have e1:caAskE c k line kind=1:=if_pos hbad
    have e2:caAskM c core k line kind= .zero:=by unfold caAskM;rw [e1];rfl
    have e3:caAskK c k line kind=k:=by unfold caAskK;rw [e1];rfl
    rw [e1,e2,e3]
    refine FnF.mk' Tryz.func111 rfl rfl Tryz.ntmps111 rfl ?_
    cases hok:okLine c line with
    |false=>
     have e0:lineE c line=1:=by unfold lineE;rw [hok];rfl
     simp only [e0] at hL
     repeat (first|refine go ?_|intro _|refine dr_Ca2_111 ?_|refine drq ?_|refine cal @hL ?_)
     exact fin0
    |true=>
     have e0:lineE c line=0:=by unfold lineE;rw [hok];rfl
     simp only [e0] at hL
     obtain ⟨hk1,hk2⟩:kind≠1∧kind≠2:=by
       rcases hbad with h|h
       · rw [hok] at h;cases h
       · exact h
     repeat (first|refine go ?_|intro _|refine dr_Ca2_111 ?_|refine drq ?_|refine cal @hL ?_)
     exact fin0
  · have hok:okLine c line=true:=by
      cases h:okLine c line with
      |true=>rfl
      |false=>exact absurd (.inl h) hbad
    have hkk:kind=1∨¬kind=1∧kind=2:=by
      have:¬(kind≠1∧kind≠2):=fun h=>hbad (.inr h)
      omega
    have e0:lineE c line=0:=by unfold lineE;rw [hok];rfl
    simp only [e0] at hL
    have hE0:caAskE c k line kind=if misIn k.mis line=true∨wbIn k.buf line=true∨caCan c k line kind=true then 6 else if (k.mis.length:Int)=c.mshrs then 4 else if findB c k.ways line=false∧arrFree c k.ways line<0 then 5 else 0:=if_neg hbad
    have hCan:=fun F=>ca_canO (F:=F) (b:=b) (a:=a) (f:=f) (e:=e) (core:=core) (k:=k) (kind:=kind) hc hli
    have hLook:=fun F=>ca_LookO (F:=F) (b:=b) (a:=a) (f:=f) (e:=e) (core:=core) (k:=k) hc hli
    have hHome:=fun F k=>ca_homeO (F:=F) (b:=b) (a:=a) (f:=f) (e:=e) (core:=core) (k:=k) (kind:=kind) hc hli
    have hG:=fun F=>msh_Get (F:=F) (b:=f) (room:=c.mshrs) (l:=k.mis) (line:=line)
    have hWG:=fun F=>wb_Get (F:=F) (b:=e) (room:=c.writebacks) (l:=k.buf) (line:=line)
    have hFr:=fun F=>arr_Free (F:=F) (b:=a) (c:=c) (l:=k.ways) (line:=line) (cfg_wf hc) hli
    have hLk:=fun F=>arr_Lock (F:=F) (b:=a) (c:=c) (l:=k.ways) (line:=line) (lk:=true) (cfg_wf hc) hli
    have hLay:=fun F=>arr_Lay (F:=F) (b:=a) (c:=c) (l:=k.ways) (line:=line) (way:=arrFree c k.ways line) (cfg_wf hc) hli
    have hOp:=fun F=>msh_Open (F:=F) (b:=f) (room:=c.mshrs) (l:=k.mis) (line:=line) (kind:=kind)
    by_cases h6:misIn k.mis line=true∨wbIn k.buf line=true∨caCan c k line kind=true
    · have e1:caAskE c k line kind=6:=by rw [hE0,if_pos h6]
      have e2:caAskM c core k line kind= .zero:=by unfold caAskM;rw [e1];rfl
      have e3:caAskK c k line kind=k:=by unfold caAskK;rw [e1];rfl
      rw [e1,e2,e3]
      cases h1:misIn k.mis line with
      |true=>
       simp only [h1] at hG
       rcases hkk with g1|⟨g1,g2⟩
       · refine FnF.mk' Tryz.func111 rfl rfl Tryz.ntmps111 rfl ?_
         repeat (first|refine go ?_|intro _|refine dr_Ca2_111 ?_|refine drq ?_|refine cal @hL ?_|refine cal @hG ?_|refine cal @hWG ?_|refine cal @hLook ?_|refine cal @hFr ?_)
         exact fin0
       · refine FnF.mk' Tryz.func111 rfl rfl Tryz.ntmps111 rfl ?_
         repeat (first|refine go ?_|intro _|refine dr_Ca2_111 ?_|refine drq ?_|refine cal @hL ?_|refine cal @hG ?_|refine cal @hWG ?_|refine cal @hLook ?_|refine cal @hFr ?_)
         exact fin0
      |false=>
       simp only [h1] at hG
       cases h2:wbIn k.buf line with
       |true=>
        simp only [h2] at hWG
        rcases hkk with g1|⟨g1,g2⟩
        · refine FnF.mk' Tryz.func111 rfl rfl Tryz.ntmps111 rfl ?_
          repeat (first|refine go ?_|intro _|refine dr_Ca2_111 ?_|refine drq ?_|refine cal @hL ?_|refine cal @hG ?_|refine cal @hWG ?_|refine cal @hLook ?_|refine cal @hFr ?_)
          exact fin0
        · refine FnF.mk' Tryz.func111 rfl rfl Tryz.ntmps111 rfl ?_
          repeat (first|refine go ?_|intro _|refine dr_Ca2_111 ?_|refine drq ?_|refine cal @hL ?_|refine cal @hG ?_|refine cal @hWG ?_|refine cal @hLook ?_|refine cal @hFr ?_)
          exact fin0
       |false=>
        simp only [h2] at hWG
        have h3:caCan c k line kind=true:=by
          rcases h6 with h|h|h
          · rw [h1] at h;cases h
          · rw [h2] at h;cases h
          · exact h
        simp only [h3] at hCan
        rcases hkk with g1|⟨g1,g2⟩
        · refine FnF.mk' Tryz.func111 rfl rfl Tryz.ntmps111 rfl ?_
          repeat (first|refine go ?_|intro _|refine dr_Ca2_111 ?_|refine drq ?_|refine cal @hL ?_|refine cal @hG ?_|refine cal @hWG ?_|refine cal @hLook ?_|refine cal @hFr ?_|refine cal @hCan ?_)
          exact fin0
        · refine FnF.mk' Tryz.func111 rfl rfl Tryz.ntmps111 rfl ?_
          repeat (first|refine go ?_|intro _|refine dr_Ca2_111 ?_|refine drq ?_|refine cal @hL ?_|refine cal @hG ?_|refine cal @hWG ?_|refine cal @hLook ?_|refine cal @hFr ?_|refine cal @hCan ?_)
          exact fin0
    · have h1:misIn k.mis line=false:=by
        cases h:misIn k.mis line with
        |false=>rfl
        |true=>exact absurd (.inl h) h6
      have h2:wbIn k.buf line=false:=by
        cases h:wbIn k.buf line with
        |false=>rfl
        |true=>exact absurd (.inr (.inl h)) h6
      have h3:caCan c k line kind=false:=by
        cases h:caCan c k line kind with
        |false=>rfl
        |true=>exact absurd (.inr (.inr h)) h6
      rw [if_neg h6] at hE0
      simp only [h1] at hG
      simp only [h2] at hWG
      simp only [h3] at hCan
      by_cases h4:(k.mis.length:Int)=c.mshrs
      · have e1:caAskE c k line kind=4:=by rw [hE0,if_pos h4]
        have e2:caAskM c core k line kind= .zero:=by unfold caAskM;rw [e1];rfl
        have e3:caAskK c k line kind=k:=by unfold caAskK;rw [e1];rfl
        rw [e1,e2,e3]
        rcases hkk with g1|⟨g1,g2⟩
        · refine FnF.mk' Tryz.func111 rfl rfl Tryz.ntmps111 rfl ?_
          repeat (first|refine go ?_|intro _|refine dr_Ca2_111 ?_|refine drq ?_|refine cal @hL ?_|refine cal @hG ?_|refine cal @hWG ?_|refine cal @hLook ?_|refine cal @hFr ?_|refine cal @hCan ?_|refine cal @msh_List ?_)
          exact fin0
        · refine FnF.mk' Tryz.func111 rfl rfl Tryz.ntmps111 rfl ?_
          repeat (first|refine go ?_|intro _|refine dr_Ca2_111 ?_|refine drq ?_|refine cal @hL ?_|refine cal @hG ?_|refine cal @hWG ?_|refine cal @hLook ?_|refine cal @hFr ?_|refine cal @hCan ?_|refine cal @msh_List ?_)
          exact fin0
      · rw [if_neg h4] at hE0
        cases h5:findB c k.ways line with
        |true=>
         have e1:caAskE c k line kind=0:=by rw [hE0,h5];rfl
         have e2:caAskM c core k line kind=homeMsg c core kind line .zero:=if_pos e1
         have e3:caAskK c k line kind=⟨lockL c k.ways line true,openL c.mshrs k.mis line kind,k.buf⟩:=by unfold caAskK;rw [if_pos e1,h5];rfl
         rw [e1,e2,e3]
         simp only [h5] at hLook
         have hHome2:=fun F=>hHome F ⟨lockL c k.ways line true,openL c.mshrs k.mis line kind,k.buf⟩
         rcases hkk with g1|⟨g1,g2⟩
         · refine FnF.mk' Tryz.func111 rfl rfl Tryz.ntmps111 rfl ?_
           repeat (first|refine go ?_|intro _|refine dr_Ca2_111 ?_|refine drq ?_|refine cal @hL ?_|refine cal @hG ?_|refine cal @hWG ?_|refine cal @hLook ?_|refine cal @hFr ?_|refine cal @hCan ?_|refine cal @msh_List ?_|refine cal @hLk ?_|refine cal @hOp ?_|refine cal @hHome2 ?_)
           exact fin0
         · refine FnF.mk' Tryz.func111 rfl rfl Tryz.ntmps111 rfl ?_
           repeat (first|refine go ?_|intro _|refine dr_Ca2_111 ?_|refine drq ?_|refine cal @hL ?_|refine cal @hG ?_|refine cal @hWG ?_|refine cal @hLook ?_|refine cal @hFr ?_|refine cal @hCan ?_|refine cal @msh_List ?_|refine cal @hLk ?_|refine cal @hOp ?_|refine cal @hHome2 ?_)
           exact fin0
        |false=>
         simp only [h5] at hLook
         by_cases h7:arrFree c k.ways line<0
         · have e1:caAskE c k line kind=5:=by rw [hE0,if_pos ⟨h5,h7⟩]
           have e2:caAskM c core k line kind= .zero:=by unfold caAskM;rw [e1];rfl
           have e3:caAskK c k line kind=k:=by unfold caAskK;rw [e1];rfl
           rw [e1,e2,e3]
           rcases hkk with g1|⟨g1,g2⟩
           · refine FnF.mk' Tryz.func111 rfl rfl Tryz.ntmps111 rfl ?_
             repeat (first|refine go ?_|intro _|refine dr_Ca2_111 ?_|refine drq ?_|refine cal @hL ?_|refine cal @hG ?_|refine cal @hWG ?_|refine cal @hLook ?_|refine cal @hFr ?_|refine cal @hCan ?_|refine cal @msh_List ?_)
             exact fin0
           · refine FnF.mk' Tryz.func111 rfl rfl Tryz.ntmps111 rfl ?_
             repeat (first|refine go ?_|intro _|refine dr_Ca2_111 ?_|refine drq ?_|refine cal @hL ?_|refine cal @hG ?_|refine cal @hWG ?_|refine cal @hLook ?_|refine cal @hFr ?_|refine cal @hCan ?_|refine cal @msh_List ?_)
             exact fin0
         · have e1:caAskE c k line kind=0:=by rw [hE0,if_neg (fun h=>h7 h.2)]
           have e2:caAskM c core k line kind=homeMsg c core kind line .zero:=if_pos e1
           have e3:caAskK c k line kind=⟨layL c k.ways line (arrFree c k.ways line),openL c.mshrs k.mis line kind,k.buf⟩:=by unfold caAskK;rw [if_pos e1,h5];rfl
           rw [e1,e2,e3]
           have hHome2:=fun F=>hHome F ⟨layL c k.ways line (arrFree c k.ways line),openL c.mshrs k.mis line kind,k.buf⟩
           rcases hkk with g1|⟨g1,g2⟩
           · refine FnF.mk' Tryz.func111 rfl rfl Tryz.ntmps111 rfl ?_
             repeat (first|refine go ?_|intro _|refine dr_Ca2_111 ?_|refine drq ?_|refine cal @hL ?_|refine cal @hG ?_|refine cal @hWG ?_|refine cal @hLook ?_|refine cal @hFr ?_|refine cal @hCan ?_|refine cal @msh_List ?_|refine cal @hLay ?_|refine cal @hOp ?_|refine cal @hHome2 ?_)
             exact fin0
           · refine FnF.mk' Tryz.func111 rfl rfl Tryz.ntmps111 rfl ?_
             repeat (first|refine go ?_|intro _|refine dr_Ca2_111 ?_|refine drq ?_|refine cal @hL ?_|refine cal @hG ?_|refine cal @hWG ?_|refine cal @hLook ?_|refine cal @hFr ?_|refine cal @hCan ?_|refine cal @msh_List ?_|refine cal @hLay ?_|refine cal @hOp ?_|refine cal @hHome2 ?_)
             exact fin0
theorem ca_Ask {F:List HP} {b:Nat} {c:Cfg} {core line kind:Int} {k:CaS} (hli:I64 line) :
    FnF Tryz.prog 111 [.pointer (some ⟨b,0,none⟩),.int .i64 line,.int .i64 kind] [CaP b c core k] F (fun r L'=>r= .tuple [mv (caAskM c core k line kind),.int .i64 (caAskE c k line kind)].toArray∧L'=[CaP b c core (caAskK c k line kind)]):=
  ca_close (fun a f e hf=>ca_AskO hf.1 hli) (enters_of Tryz.func111 rfl rfl)
end Go.Sx
