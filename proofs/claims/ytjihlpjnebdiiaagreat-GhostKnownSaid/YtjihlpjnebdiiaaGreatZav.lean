/- Ca2: several of my texts as one. My own work. -/
import Derived.Test.YtjihlpjnebdiiaaGreatZai
set_option linter.unusedVariables false
set_option linter.unusedSectionVars false
set_option linter.unusedSimpArgs false
set_option maxRecDepth 100000
set_option maxHeartbeats 4000000
namespace Go.Sx
open Go Go.Proofs
section
attribute [local irreducible] Exit.then Exit.inBlock Code.wp WC WO WE WQ V bF tV d3 bW dF uH IntKind.wrap WR Code.rounds WT KO
theorem cV {Q P:Prop} (k:Q) (h:Hid Q→P:=by
  intro k
  first
  |(refine aG ?_;refine q9 (id:=11) .false (pl:= .p 0 <| .p 1 <| .p 2 <| .p 6 <| .p 7 <| .p 8 <| .p 9 <| .r 3 <| .r 10 <| .e true [(4,.p 5 <| .p 11 <| .p 12 <| .done)]) k.out)):P:=h ⟨k⟩
theorem d8n {F:List HP} {b a f e:Nat} {c:Cfg} {core line kind:Int} {k:CaS} (hc:aF c=true) (hli:kP line) :
    FnF Tryz.prog 111 [.pointer (some ⟨b,0,none⟩),.int .i64 line,.int .i64 kind] (b2e b a f e c core k) F (fun r L'=>r= .tuple [mv (fO c core k line kind),.int .i64 (dT c k line kind)].toArray∧L'=b2e b a f e c core (cO c k line kind)):=by
  have hL:=fun F=>pB (F:=F) (c:=c) (a:=line) (kY hc) hli
  by_cases hbad:aP c line=false∨(kind≠1∧kind≠2)
  · have e1:dT c k line kind=1:=if_pos hbad
    have e2:fO c core k line kind= .zero:=by unfold fO;rw [e1];rfl
    have e3:cO c k line kind=k:=by unfold cO;rw [e1];rfl
    rw [e1,e2,e3]
    refine FnF.mk' Tryz.func111 rfl rfl Tryz.ntmps111 rfl ?_
    cases hok:aP c line with
    |false=>
     have e0:tA c line=1:=by unfold tA;rw [hok];rfl
     simp only [e0] at hL
     repeat first|refine go ?_|intro _|refine cV ?_|refine cM ?_|refine aD @hL ?_
     exact aU
    |true=>
     have e0:tA c line=0:=by unfold tA;rw [hok];rfl
     simp only [e0] at hL
     obtain ⟨hk1,hk2⟩:kind≠1∧kind≠2:=by
       rcases hbad with h|h
       · rw [hok] at h;cases h
       · exact h
     repeat first|refine go ?_|intro _|refine cV ?_|refine cM ?_|refine aD @hL ?_
     exact aU
  · have hok:aP c line=true:=by
      cases h:aP c line with
      |true=>rfl
      |false=>exact absurd (.inl h) hbad
    have hkk:kind=1∨¬kind=1∧kind=2:=by
      have:¬(kind≠1∧kind≠2):=fun h=>hbad (.inr h)
      omega
    have e0:tA c line=0:=by unfold tA;rw [hok];rfl
    simp only [e0] at hL
    have hE0:dT c k line kind=if cR k.mis line=true∨lO k.buf line=true∨q6 c k line kind=true then 6 else if (k.mis.length:Int)=c.mshrs then 4 else if iQ c k.ways line=false∧dD c k.ways line<0 then 5 else 0:=if_neg hbad
    have hCan:=fun F=>c3r (F:=F) (b:=b) (a:=a) (f:=f) (e:=e) (core:=core) (k:=k) (kind:=kind) hc hli
    have hLook:=fun F=>nW (F:=F) (b:=b) (a:=a) (f:=f) (e:=e) (core:=core) (k:=k) hc hli
    have hHome:=fun F k=>a7i (F:=F) (b:=b) (a:=a) (f:=f) (e:=e) (core:=core) (k:=k) (kind:=kind) hc hli
    have hG:=fun F=>d9x (F:=F) (b:=f) (room:=c.mshrs) (l:=k.mis) (line:=line)
    have hWG:=fun F=>e6r (F:=F) (b:=e) (room:=c.writebacks) (l:=k.buf) (line:=line)
    have hFr:=fun F=>c9c (F:=F) (b:=a) (c:=c) (l:=k.ways) (line:=line) (kY hc) hli
    have hLk:=fun F=>b6o (F:=F) (b:=a) (c:=c) (l:=k.ways) (line:=line) (lk:=true) (kY hc) hli
    have hLay:=fun F=>d6u (F:=F) (b:=a) (c:=c) (l:=k.ways) (line:=line) (way:=dD c k.ways line) (kY hc) hli
    have hOp:=fun F=>d2h (F:=F) (b:=f) (room:=c.mshrs) (l:=k.mis) (line:=line) (kind:=kind)
    by_cases h6:cR k.mis line=true∨lO k.buf line=true∨q6 c k line kind=true
    · have e1:dT c k line kind=6:=by rw [hE0,if_pos h6]
      have e2:fO c core k line kind= .zero:=by unfold fO;rw [e1];rfl
      have e3:cO c k line kind=k:=by unfold cO;rw [e1];rfl
      rw [e1,e2,e3]
      cases h1:cR k.mis line with
      |true=>
       simp only [h1] at hG
       rcases hkk with g1|⟨g1,g2⟩
       · refine FnF.mk' Tryz.func111 rfl rfl Tryz.ntmps111 rfl ?_
         repeat first|refine go ?_|intro _|refine cV ?_|refine cM ?_|refine aD @hL ?_|refine aD @hG ?_|refine aD @hWG ?_|refine aD @hLook ?_|refine aD @hFr ?_
         exact aU
       · refine FnF.mk' Tryz.func111 rfl rfl Tryz.ntmps111 rfl ?_
         repeat first|refine go ?_|intro _|refine cV ?_|refine cM ?_|refine aD @hL ?_|refine aD @hG ?_|refine aD @hWG ?_|refine aD @hLook ?_|refine aD @hFr ?_
         exact aU
      |false=>
       simp only [h1] at hG
       cases h2:lO k.buf line with
       |true=>
        simp only [h2] at hWG
        rcases hkk with g1|⟨g1,g2⟩
        · refine FnF.mk' Tryz.func111 rfl rfl Tryz.ntmps111 rfl ?_
          repeat first|refine go ?_|intro _|refine cV ?_|refine cM ?_|refine aD @hL ?_|refine aD @hG ?_|refine aD @hWG ?_|refine aD @hLook ?_|refine aD @hFr ?_
          exact aU
        · refine FnF.mk' Tryz.func111 rfl rfl Tryz.ntmps111 rfl ?_
          repeat first|refine go ?_|intro _|refine cV ?_|refine cM ?_|refine aD @hL ?_|refine aD @hG ?_|refine aD @hWG ?_|refine aD @hLook ?_|refine aD @hFr ?_
          exact aU
       |false=>
        simp only [h2] at hWG
        have h3:q6 c k line kind=true:=by
          rcases h6 with h|h|h
          · rw [h1] at h;cases h
          · rw [h2] at h;cases h
          · exact h
        simp only [h3] at hCan
        rcases hkk with g1|⟨g1,g2⟩
        · refine FnF.mk' Tryz.func111 rfl rfl Tryz.ntmps111 rfl ?_
          repeat first|refine go ?_|intro _|refine cV ?_|refine cM ?_|refine aD @hL ?_|refine aD @hG ?_|refine aD @hWG ?_|refine aD @hLook ?_|refine aD @hFr ?_|refine aD @hCan ?_
          exact aU
        · refine FnF.mk' Tryz.func111 rfl rfl Tryz.ntmps111 rfl ?_
          repeat first|refine go ?_|intro _|refine cV ?_|refine cM ?_|refine aD @hL ?_|refine aD @hG ?_|refine aD @hWG ?_|refine aD @hLook ?_|refine aD @hFr ?_|refine aD @hCan ?_
          exact aU
    · have h1:cR k.mis line=false:=by
        cases h:cR k.mis line with
        |false=>rfl
        |true=>exact absurd (.inl h) h6
      have h2:lO k.buf line=false:=by
        cases h:lO k.buf line with
        |false=>rfl
        |true=>exact absurd (.inr (.inl h)) h6
      have h3:q6 c k line kind=false:=by
        cases h:q6 c k line kind with
        |false=>rfl
        |true=>exact absurd (.inr (.inr h)) h6
      rw [if_neg h6] at hE0
      simp only [h1] at hG
      simp only [h2] at hWG
      simp only [h3] at hCan
      by_cases h4:(k.mis.length:Int)=c.mshrs
      · have e1:dT c k line kind=4:=by rw [hE0,if_pos h4]
        have e2:fO c core k line kind= .zero:=by unfold fO;rw [e1];rfl
        have e3:cO c k line kind=k:=by unfold cO;rw [e1];rfl
        rw [e1,e2,e3]
        rcases hkk with g1|⟨g1,g2⟩
        · refine FnF.mk' Tryz.func111 rfl rfl Tryz.ntmps111 rfl ?_
          repeat first|refine go ?_|intro _|refine cV ?_|refine cM ?_|refine aD @hL ?_|refine aD @hG ?_|refine aD @hWG ?_|refine aD @hLook ?_|refine aD @hFr ?_|refine aD @hCan ?_|refine aD @l8 ?_
          exact aU
        · refine FnF.mk' Tryz.func111 rfl rfl Tryz.ntmps111 rfl ?_
          repeat first|refine go ?_|intro _|refine cV ?_|refine cM ?_|refine aD @hL ?_|refine aD @hG ?_|refine aD @hWG ?_|refine aD @hLook ?_|refine aD @hFr ?_|refine aD @hCan ?_|refine aD @l8 ?_
          exact aU
      · rw [if_neg h4] at hE0
        cases h5:iQ c k.ways line with
        |true=>
         have e1:dT c k line kind=0:=by rw [hE0,h5];rfl
         have e2:fO c core k line kind=cX c core kind line .zero:=if_pos e1
         have e3:cO c k line kind=⟨gJ c k.ways line true,kL c.mshrs k.mis line kind,k.buf⟩:=by unfold cO;rw [if_pos e1,h5];rfl
         rw [e1,e2,e3]
         simp only [h5] at hLook
         have hHome2:=fun F=>hHome F ⟨gJ c k.ways line true,kL c.mshrs k.mis line kind,k.buf⟩
         rcases hkk with g1|⟨g1,g2⟩
         · refine FnF.mk' Tryz.func111 rfl rfl Tryz.ntmps111 rfl ?_
           repeat first|refine go ?_|intro _|refine cV ?_|refine cM ?_|refine aD @hL ?_|refine aD @hG ?_|refine aD @hWG ?_|refine aD @hLook ?_|refine aD @hFr ?_|refine aD @hCan ?_|refine aD @l8 ?_|refine aD @hLk ?_|refine aD @hOp ?_|refine aD @hHome2 ?_
           exact aU
         · refine FnF.mk' Tryz.func111 rfl rfl Tryz.ntmps111 rfl ?_
           repeat first|refine go ?_|intro _|refine cV ?_|refine cM ?_|refine aD @hL ?_|refine aD @hG ?_|refine aD @hWG ?_|refine aD @hLook ?_|refine aD @hFr ?_|refine aD @hCan ?_|refine aD @l8 ?_|refine aD @hLk ?_|refine aD @hOp ?_|refine aD @hHome2 ?_
           exact aU
        |false=>
         simp only [h5] at hLook
         by_cases h7:dD c k.ways line<0
         · have e1:dT c k line kind=5:=by rw [hE0,if_pos ⟨h5,h7⟩]
           have e2:fO c core k line kind= .zero:=by unfold fO;rw [e1];rfl
           have e3:cO c k line kind=k:=by unfold cO;rw [e1];rfl
           rw [e1,e2,e3]
           rcases hkk with g1|⟨g1,g2⟩
           · refine FnF.mk' Tryz.func111 rfl rfl Tryz.ntmps111 rfl ?_
             repeat first|refine go ?_|intro _|refine cV ?_|refine cM ?_|refine aD @hL ?_|refine aD @hG ?_|refine aD @hWG ?_|refine aD @hLook ?_|refine aD @hFr ?_|refine aD @hCan ?_|refine aD @l8 ?_
             exact aU
           · refine FnF.mk' Tryz.func111 rfl rfl Tryz.ntmps111 rfl ?_
             repeat first|refine go ?_|intro _|refine cV ?_|refine cM ?_|refine aD @hL ?_|refine aD @hG ?_|refine aD @hWG ?_|refine aD @hLook ?_|refine aD @hFr ?_|refine aD @hCan ?_|refine aD @l8 ?_
             exact aU
         · have e1:dT c k line kind=0:=by rw [hE0,if_neg (fun h=>h7 h.2)]
           have e2:fO c core k line kind=cX c core kind line .zero:=if_pos e1
           have e3:cO c k line kind=⟨kM c k.ways line (dD c k.ways line),kL c.mshrs k.mis line kind,k.buf⟩:=by unfold cO;rw [if_pos e1,h5];rfl
           rw [e1,e2,e3]
           have hHome2:=fun F=>hHome F ⟨kM c k.ways line (dD c k.ways line),kL c.mshrs k.mis line kind,k.buf⟩
           rcases hkk with g1|⟨g1,g2⟩
           · refine FnF.mk' Tryz.func111 rfl rfl Tryz.ntmps111 rfl ?_
             repeat first|refine go ?_|intro _|refine cV ?_|refine cM ?_|refine aD @hL ?_|refine aD @hG ?_|refine aD @hWG ?_|refine aD @hLook ?_|refine aD @hFr ?_|refine aD @hCan ?_|refine aD @l8 ?_|refine aD @hLay ?_|refine aD @hOp ?_|refine aD @hHome2 ?_
             exact aU
           · refine FnF.mk' Tryz.func111 rfl rfl Tryz.ntmps111 rfl ?_
             repeat first|refine go ?_|intro _|refine cV ?_|refine cM ?_|refine aD @hL ?_|refine aD @hG ?_|refine aD @hWG ?_|refine aD @hLook ?_|refine aD @hFr ?_|refine aD @hCan ?_|refine aD @l8 ?_|refine aD @hLay ?_|refine aD @hOp ?_|refine aD @hHome2 ?_
             exact aU
theorem d4r {F:List HP} {b:Nat} {c:Cfg} {core line kind:Int} {k:CaS} (hli:kP line) :
    FnF Tryz.prog 111 [.pointer (some ⟨b,0,none⟩),.int .i64 line,.int .i64 kind] [a8y b c core k] F (fun r L'=>r= .tuple [mv (fO c core k line kind),.int .i64 (dT c k line kind)].toArray∧L'=[a8y b c core (cO c k line kind)]):=
  sC (fun a f e hf=>d8n hf.1 hli) (kB Tryz.func111 rfl rfl)
end
end Go.Sx
