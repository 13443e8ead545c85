/- Ca2: several of my texts as one. My own work. -/
import Derived.Test.YtjihlpjnebdiiaaGreatZai
set_option linter.unusedVariables false
set_option linter.unusedSectionVars false
set_option linter.unusedSimpArgs false
set_option maxRecDepth 100000
set_option maxHeartbeats 4000000
namespace Go.Sx
open Go Go.Proofs
section
attribute [local irreducible] Exit.then Exit.inBlock Code.wp WC WO WE WQ V bT vL fP cY eI v8 IntKind.wrap WR Code.rounds WT KO
theorem dJ {Q P:Prop} (k:Q) (h:Hid Q→P:=by
  intro k
  first
  |(refine aI ?_;refine uU (id:=11) .false (pl:= .p 0 <| .p 1 <| .p 2 <| .p 6 <| .p 7 <| .p 8 <| .p 9 <| .r 3 <| .r 10 <| .e true [(4,.p 5 <| .p 11 <| .p 12 <| .done)]) k.out)):P:=h ⟨k⟩
theorem e1k {F:List HP} {b a f e:Nat} {c:Cfg} {core line kind:Int} {k:CaS} (hc:aF c=true) (hli:nA line) :
    FnF Tryz.prog 111 [.pointer (some ⟨b,0,none⟩),.int .i64 line,.int .i64 kind] (b5a b a f e c core k) F (fun r L'=>r= .tuple [mv (d9 c core k line kind),.int .i64 (dV c k line kind)].toArray∧L'=b5a b a f e c core (bM c k line kind)):=by
  have hL:=fun F=>n3 (F:=F) (c:=c) (a:=line) (l3 hc) hli
  by_cases hbad:aL c line=false∨(kind≠1∧kind≠2)
  · have e1:dV c k line kind=1:=if_pos hbad
    have e2:d9 c core k line kind= .zero:=by unfold d9;rw [e1];rfl
    have e3:bM c k line kind=k:=by unfold bM;rw [e1];rfl
    rw [e1,e2,e3]
    refine FnF.mk' Tryz.func111 rfl rfl Tryz.ntmps111 rfl ?_
    cases hok:aL c line with
    |false=>
     have e0:t6 c line=1:=by unfold t6;rw [hok];rfl
     simp only [e0] at hL
     repeat first|refine go ?_|intro _|refine dJ ?_|refine dM ?_|refine aD @hL ?_
     exact bF
    |true=>
     have e0:t6 c line=0:=by unfold t6;rw [hok];rfl
     simp only [e0] at hL
     obtain ⟨hk1,hk2⟩:kind≠1∧kind≠2:=by
       rcases hbad with h|h
       · rw [hok] at h;cases h
       · exact h
     repeat first|refine go ?_|intro _|refine dJ ?_|refine dM ?_|refine aD @hL ?_
     exact bF
  · have hok:aL c line=true:=by
      cases h:aL c line with
      |true=>rfl
      |false=>exact absurd (.inl h) hbad
    have hkk:kind=1∨¬kind=1∧kind=2:=by
      have:¬(kind≠1∧kind≠2):=fun h=>hbad (.inr h)
      omega
    have e0:t6 c line=0:=by unfold t6;rw [hok];rfl
    simp only [e0] at hL
    have hE0:dV c k line kind=if dB k.mis line=true∨lJ k.buf line=true∨mU c k line kind=true then 6 else if (k.mis.length:Int)=c.mshrs then 4 else if jA c k.ways line=false∧cZ c k.ways line<0 then 5 else 0:=if_neg hbad
    have hCan:=fun F=>c7c (F:=F) (b:=b) (a:=a) (f:=f) (e:=e) (core:=core) (k:=k) (kind:=kind) hc hli
    have hLook:=fun F=>oW (F:=F) (b:=b) (a:=a) (f:=f) (e:=e) (core:=core) (k:=k) hc hli
    have hHome:=fun F k=>b0f (F:=F) (b:=b) (a:=a) (f:=f) (e:=e) (core:=core) (k:=k) (kind:=kind) hc hli
    have hG:=fun F=>e3q (F:=F) (b:=f) (room:=c.mshrs) (l:=k.mis) (line:=line)
    have hWG:=fun F=>f0y (F:=F) (b:=e) (room:=c.writebacks) (l:=k.buf) (line:=line)
    have hFr:=fun F=>d2j (F:=F) (b:=a) (c:=c) (l:=k.ways) (line:=line) (l3 hc) hli
    have hLk:=fun F=>b9k (F:=F) (b:=a) (c:=c) (l:=k.ways) (line:=line) (lk:=true) (l3 hc) hli
    have hLay:=fun F=>e0u (F:=F) (b:=a) (c:=c) (l:=k.ways) (line:=line) (way:=cZ c k.ways line) (l3 hc) hli
    have hOp:=fun F=>d5i (F:=F) (b:=f) (room:=c.mshrs) (l:=k.mis) (line:=line) (kind:=kind)
    by_cases h6:dB k.mis line=true∨lJ k.buf line=true∨mU c k line kind=true
    · have e1:dV c k line kind=6:=by rw [hE0,if_pos h6]
      have e2:d9 c core k line kind= .zero:=by unfold d9;rw [e1];rfl
      have e3:bM c k line kind=k:=by unfold bM;rw [e1];rfl
      rw [e1,e2,e3]
      cases h1:dB k.mis line with
      |true=>
       simp only [h1] at hG
       rcases hkk with g1|⟨g1,g2⟩
       · refine FnF.mk' Tryz.func111 rfl rfl Tryz.ntmps111 rfl ?_
         repeat first|refine go ?_|intro _|refine dJ ?_|refine dM ?_|refine aD @hL ?_|refine aD @hG ?_|refine aD @hWG ?_|refine aD @hLook ?_|refine aD @hFr ?_
         exact bF
       · refine FnF.mk' Tryz.func111 rfl rfl Tryz.ntmps111 rfl ?_
         repeat first|refine go ?_|intro _|refine dJ ?_|refine dM ?_|refine aD @hL ?_|refine aD @hG ?_|refine aD @hWG ?_|refine aD @hLook ?_|refine aD @hFr ?_
         exact bF
      |false=>
       simp only [h1] at hG
       cases h2:lJ k.buf line with
       |true=>
        simp only [h2] at hWG
        rcases hkk with g1|⟨g1,g2⟩
        · refine FnF.mk' Tryz.func111 rfl rfl Tryz.ntmps111 rfl ?_
          repeat first|refine go ?_|intro _|refine dJ ?_|refine dM ?_|refine aD @hL ?_|refine aD @hG ?_|refine aD @hWG ?_|refine aD @hLook ?_|refine aD @hFr ?_
          exact bF
        · refine FnF.mk' Tryz.func111 rfl rfl Tryz.ntmps111 rfl ?_
          repeat first|refine go ?_|intro _|refine dJ ?_|refine dM ?_|refine aD @hL ?_|refine aD @hG ?_|refine aD @hWG ?_|refine aD @hLook ?_|refine aD @hFr ?_
          exact bF
       |false=>
        simp only [h2] at hWG
        have h3:mU c k line kind=true:=by
          rcases h6 with h|h|h
          · rw [h1] at h;cases h
          · rw [h2] at h;cases h
          · exact h
        simp only [h3] at hCan
        rcases hkk with g1|⟨g1,g2⟩
        · refine FnF.mk' Tryz.func111 rfl rfl Tryz.ntmps111 rfl ?_
          repeat first|refine go ?_|intro _|refine dJ ?_|refine dM ?_|refine aD @hL ?_|refine aD @hG ?_|refine aD @hWG ?_|refine aD @hLook ?_|refine aD @hFr ?_|refine aD @hCan ?_
          exact bF
        · refine FnF.mk' Tryz.func111 rfl rfl Tryz.ntmps111 rfl ?_
          repeat first|refine go ?_|intro _|refine dJ ?_|refine dM ?_|refine aD @hL ?_|refine aD @hG ?_|refine aD @hWG ?_|refine aD @hLook ?_|refine aD @hFr ?_|refine aD @hCan ?_
          exact bF
    · have h1:dB k.mis line=false:=by
        cases h:dB k.mis line with
        |false=>rfl
        |true=>exact absurd (.inl h) h6
      have h2:lJ k.buf line=false:=by
        cases h:lJ k.buf line with
        |false=>rfl
        |true=>exact absurd (.inr (.inl h)) h6
      have h3:mU c k line kind=false:=by
        cases h:mU c k line kind with
        |false=>rfl
        |true=>exact absurd (.inr (.inr h)) h6
      rw [if_neg h6] at hE0
      simp only [h1] at hG
      simp only [h2] at hWG
      simp only [h3] at hCan
      by_cases h4:(k.mis.length:Int)=c.mshrs
      · have e1:dV c k line kind=4:=by rw [hE0,if_pos h4]
        have e2:d9 c core k line kind= .zero:=by unfold d9;rw [e1];rfl
        have e3:bM c k line kind=k:=by unfold bM;rw [e1];rfl
        rw [e1,e2,e3]
        rcases hkk with g1|⟨g1,g2⟩
        · refine FnF.mk' Tryz.func111 rfl rfl Tryz.ntmps111 rfl ?_
          repeat first|refine go ?_|intro _|refine dJ ?_|refine dM ?_|refine aD @hL ?_|refine aD @hG ?_|refine aD @hWG ?_|refine aD @hLook ?_|refine aD @hFr ?_|refine aD @hCan ?_|refine aD @nM ?_
          exact bF
        · refine FnF.mk' Tryz.func111 rfl rfl Tryz.ntmps111 rfl ?_
          repeat first|refine go ?_|intro _|refine dJ ?_|refine dM ?_|refine aD @hL ?_|refine aD @hG ?_|refine aD @hWG ?_|refine aD @hLook ?_|refine aD @hFr ?_|refine aD @hCan ?_|refine aD @nM ?_
          exact bF
      · rw [if_neg h4] at hE0
        cases h5:jA c k.ways line with
        |true=>
         have e1:dV c k line kind=0:=by rw [hE0,h5];rfl
         have e2:d9 c core k line kind=cP c core kind line .zero:=if_pos e1
         have e3:bM c k line kind=⟨fS c k.ways line true,jS c.mshrs k.mis line kind,k.buf⟩:=by unfold bM;rw [if_pos e1,h5];rfl
         rw [e1,e2,e3]
         simp only [h5] at hLook
         have hHome2:=fun F=>hHome F ⟨fS c k.ways line true,jS c.mshrs k.mis line kind,k.buf⟩
         rcases hkk with g1|⟨g1,g2⟩
         · refine FnF.mk' Tryz.func111 rfl rfl Tryz.ntmps111 rfl ?_
           repeat first|refine go ?_|intro _|refine dJ ?_|refine dM ?_|refine aD @hL ?_|refine aD @hG ?_|refine aD @hWG ?_|refine aD @hLook ?_|refine aD @hFr ?_|refine aD @hCan ?_|refine aD @nM ?_|refine aD @hLk ?_|refine aD @hOp ?_|refine aD @hHome2 ?_
           exact bF
         · refine FnF.mk' Tryz.func111 rfl rfl Tryz.ntmps111 rfl ?_
           repeat first|refine go ?_|intro _|refine dJ ?_|refine dM ?_|refine aD @hL ?_|refine aD @hG ?_|refine aD @hWG ?_|refine aD @hLook ?_|refine aD @hFr ?_|refine aD @hCan ?_|refine aD @nM ?_|refine aD @hLk ?_|refine aD @hOp ?_|refine aD @hHome2 ?_
           exact bF
        |false=>
         simp only [h5] at hLook
         by_cases h7:cZ c k.ways line<0
         · have e1:dV c k line kind=5:=by rw [hE0,if_pos ⟨h5,h7⟩]
           have e2:d9 c core k line kind= .zero:=by unfold d9;rw [e1];rfl
           have e3:bM c k line kind=k:=by unfold bM;rw [e1];rfl
           rw [e1,e2,e3]
           rcases hkk with g1|⟨g1,g2⟩
           · refine FnF.mk' Tryz.func111 rfl rfl Tryz.ntmps111 rfl ?_
             repeat first|refine go ?_|intro _|refine dJ ?_|refine dM ?_|refine aD @hL ?_|refine aD @hG ?_|refine aD @hWG ?_|refine aD @hLook ?_|refine aD @hFr ?_|refine aD @hCan ?_|refine aD @nM ?_
             exact bF
           · refine FnF.mk' Tryz.func111 rfl rfl Tryz.ntmps111 rfl ?_
             repeat first|refine go ?_|intro _|refine dJ ?_|refine dM ?_|refine aD @hL ?_|refine aD @hG ?_|refine aD @hWG ?_|refine aD @hLook ?_|refine aD @hFr ?_|refine aD @hCan ?_|refine aD @nM ?_
             exact bF
         · have e1:dV c k line kind=0:=by rw [hE0,if_neg (fun h=>h7 h.2)]
           have e2:d9 c core k line kind=cP c core kind line .zero:=if_pos e1
           have e3:bM c k line kind=⟨kR c k.ways line (cZ c k.ways line),jS c.mshrs k.mis line kind,k.buf⟩:=by unfold bM;rw [if_pos e1,h5];rfl
           rw [e1,e2,e3]
           have hHome2:=fun F=>hHome F ⟨kR c k.ways line (cZ c k.ways line),jS c.mshrs k.mis line kind,k.buf⟩
           rcases hkk with g1|⟨g1,g2⟩
           · refine FnF.mk' Tryz.func111 rfl rfl Tryz.ntmps111 rfl ?_
             repeat first|refine go ?_|intro _|refine dJ ?_|refine dM ?_|refine aD @hL ?_|refine aD @hG ?_|refine aD @hWG ?_|refine aD @hLook ?_|refine aD @hFr ?_|refine aD @hCan ?_|refine aD @nM ?_|refine aD @hLay ?_|refine aD @hOp ?_|refine aD @hHome2 ?_
             exact bF
           · refine FnF.mk' Tryz.func111 rfl rfl Tryz.ntmps111 rfl ?_
             repeat first|refine go ?_|intro _|refine dJ ?_|refine dM ?_|refine aD @hL ?_|refine aD @hG ?_|refine aD @hWG ?_|refine aD @hLook ?_|refine aD @hFr ?_|refine aD @hCan ?_|refine aD @nM ?_|refine aD @hLay ?_|refine aD @hOp ?_|refine aD @hHome2 ?_
             exact bF
theorem d7v {F:List HP} {b:Nat} {c:Cfg} {core line kind:Int} {k:CaS} (hli:nA line) :
    FnF Tryz.prog 111 [.pointer (some ⟨b,0,none⟩),.int .i64 line,.int .i64 kind] [b2h b c core k] F (fun r L'=>r= .tuple [mv (d9 c core k line kind),.int .i64 (dV c k line kind)].toArray∧L'=[b2h b c core (bM c k line kind)]):=
  tA (fun a f e hf=>e1k hf.1 hli) (k6 Tryz.func111 rfl rfl)
end
end Go.Sx
