/- Ca3: several of my texts as one. My own work. -/
import Derived.Test.YtjihlpjnebdiiaaGreatZai
set_option linter.unusedVariables false
set_option linter.unusedSectionVars false
set_option linter.unusedSimpArgs false
set_option maxRecDepth 100000
set_option maxHeartbeats 4000000
namespace Go.Sx
open Go Go.Proofs
section
theorem e3j {c:Cfg} {l:List Way} {s k:Int} (hI:bT c l) (h:(uP c l s k).st≠0):aP c (uP c l s k).line=true:=by
  unfold uP at h ⊢
  by_cases h1:vX c s k=true
  · rw [if_pos h1] at h ⊢
    by_cases h2:s.toNat*c.ways.toNat+k.toNat<l.length
    · rw [←kI h2] at h ⊢
      exact (hI _ h2 (by simp [c6,h])).1
    · rw [List.getD_eq_getElem?_getD,List.getElem?_eq_none (om)] at h
      exact absurd rfl h
  · rw [if_neg h1] at h
    exact absurd rfl h
attribute [local irreducible] Exit.then Exit.inBlock Code.wp WC WO WE WQ V bF tV d3 bW dF uH IntKind.wrap WR Code.rounds WT KO
theorem kT {Q P:Prop} (k:Q) (h:Hid Q→P:=by
  intro k
  first
  |(refine aG ?_;refine q9 (id:=6) .true (pl:= .p 0 <| .r 1 <| .e true [(2,.p 3 <| .p 4 <| .p 5 <| .p 6 <| .p 8 <| .p 10 <| .e false [(7,.e false [(9,.e false [(11,.e false [(12,.p 13 <| .p 14 <| .p 15 <| .done)])]),(11,.e false [(9,.e false [(12,.p 13 <| .p 14 <| .p 15 <| .done)])])]),(9,.e false [(7,.e false [(11,.e false [(12,.p 13 <| .p 14 <| .p 15 <| .done)])]),(11,.e false [(7,.e false [(12,.p 13 <| .p 14 <| .p 15 <| .done)])])]),(11,.e false [(7,.e false [(9,.e false [(12,.p 13 <| .p 14 <| .p 15 <| .done)])]),(9,.e false [(7,.e false [(12,.p 13 <| .p 14 <| .p 15 <| .done)])])])])]) k.out)
  |(refine aG ?_;refine q9 (id:=8) .true (pl:= .p 0 <| .p 1 <| .p 2 <| .p 4 <| .p 6 <| .r 3 <| .r 5 <| .e true [(7,.done)]) k.out)):P:=h ⟨k⟩
theorem c5k {F:List HP} {b a f e:Nat} {c:Cfg} {core s w:Int} {k:CaS} (hc:aF c=true) (hI:bT c k.ways) :
    FnF Tryz.prog 113 [.pointer (some ⟨b,0,none⟩),.int .i64 s,.int .i64 w] (b2e b a f e c core k) F
      (fun r L'=>r= .tuple [mv (tH c core k s w),.bool (mL c k s w),.int .i64 (oG c k s w)].toArray∧L'=b2e b a f e c core (gQ c k s w)):=by
  have hAt:=fun F=>e3g (F:=F) (b:=a) (c:=c) (l:=k.ways) (s:=s) (k:=w)
  have hno:∀ x:Int,x≠0→oG c k s w=x→mL c k s w=false∧tH c core k s w= .zero∧gQ c k s w=k:=fun x hx h=>by
    have h1:mL c k s w=false:=by unfold mL;rw [h];simp [hx]
    refine ⟨h1,?_,?_⟩
    · unfold tH;rw [h1];rfl
    · unfold gQ;rw [if_neg (om)]
  by_cases h0:vX c s w=false∨(uP c k.ways s w).st=0
  · have e1:oG c k s w=5:=if_pos h0
    obtain ⟨e2,e3,e4⟩:=hno _ (om) e1
    rw [e1,e2,e3,e4]
    cases h1:vX c s w with
    |false=>
     simp only [h1] at hAt
     refine FnF.mk' Tryz.func113 rfl rfl Tryz.ntmps113 rfl ?_
     repeat first|refine go ?_|intro _|refine kT ?_|refine cM ?_|refine aD @hAt ?_
     exact aU
    |true=>
     simp only [h1] at hAt
     have h2:(uP c k.ways s w).st=0:=by
       rcases h0 with h|h
       · rw [h1] at h;cases h
       · exact h
     refine FnF.mk' Tryz.func113 rfl rfl Tryz.ntmps113 rfl ?_
     repeat first|refine go ?_|intro _|refine kT ?_|refine cM ?_|refine aD @hAt ?_
     exact aU
  · have h1:vX c s w=true:=by
      cases h:vX c s w with
      |true=>rfl
      |false=>exact absurd (.inl h) h0
    have h2:(uP c k.ways s w).st≠0:=fun h=>h0 (.inr h)
    simp only [h1] at hAt
    have hok:=e3j hI h2
    have hli:=yF hok
    have hE0:oG c k s w=if (uP c k.ways s w).lk=true then 6 else if 2≤(uP c k.ways s w).st∧sK c.writebacks k.buf (uP c k.ways s w).line≠0 then 4 else 0:=if_neg h0
    have hPut:=fun F=>e6q (F:=F) (b:=e) (room:=c.writebacks) (l:=k.buf) (line:=(uP c k.ways s w).line) (w:=(uP c k.ways s w).words)
    have hSet:=fun F=>wH (F:=F) (b:=a) (c:=c) (l:=k.ways) (line:=(uP c k.ways s w).line) (st:=0) (w:= .zero) (kY hc) hli
    have hHome:=fun F k'=>a7i (F:=F) (b:=b) (a:=a) (f:=f) (e:=e) (core:=core) (k:=k') (kind:=3) hc hli
    cases h3:(uP c k.ways s w).lk with
    |true=>
     have e1:oG c k s w=6:=by rw [hE0,if_pos h3]
     obtain ⟨e2,e3,e4⟩:=hno _ (om) e1
     rw [e1,e2,e3,e4]
     refine FnF.mk' Tryz.func113 rfl rfl Tryz.ntmps113 rfl ?_
     repeat first|refine go ?_|intro _|refine kT ?_|refine cM ?_|refine aD @hAt ?_
     exact aU
    |false=>
     rw [h3,if_neg Bool.false_ne_true] at hE0
     by_cases h4:2≤(uP c k.ways s w).st
     · by_cases h5:sK c.writebacks k.buf (uP c k.ways s w).line=0
       · have e1:oG c k s w=0:=by rw [hE0,if_neg (fun h=>h.2 h5)]
         have e2:mL c k s w=true:=decide_eq_true ⟨e1,h4⟩
         have e3:tH c core k s w=cX c core 3 (uP c k.ways s w).line (uP c k.ways s w).words:=if_pos e2
         have e4:gQ c k s w=⟨e7 c k.ways (uP c k.ways s w).line 0 .zero,k.mis,mV c.writebacks k.buf (uP c k.ways s w).line (uP c k.ways s w).words⟩:=by unfold gQ;rw [if_pos e1,if_pos h4]
         rw [e1,e2,e3,e4]
         simp only [h5] at hPut
         have hHome2:=fun F=>hHome F ⟨e7 c k.ways (uP c k.ways s w).line 0 .zero,k.mis,mV c.writebacks k.buf (uP c k.ways s w).line (uP c k.ways s w).words⟩
         refine FnF.mk' Tryz.func113 rfl rfl Tryz.ntmps113 rfl ?_
         repeat' (first|refine go ?_|intro _|refine kT ?_|refine cM ?_|refine aD @hAt ?_|refine aD @pK ?_|refine aD @hPut ?_|refine aD @hSet ?_|refine aD @hHome2 ?_|refine mH ?_ ?_|fail)
         all_goals exact aU
       · have e1:oG c k s w=4:=by rw [hE0,if_pos ⟨h4,h5⟩]
         obtain ⟨e2,e3,e4⟩:=hno _ (om) e1
         rw [e1,e2,e3,e4]
         have hL:mV c.writebacks k.buf (uP c k.ways s w).line (uP c k.ways s w).words=k.buf:=by
           unfold sK at h5;unfold mV
           split
           · rfl
           · split
             · rfl
             · rename_i g1 g2;rw [if_neg g1,if_neg g2] at h5;exact absurd rfl h5
         rw [hL] at hPut
         refine FnF.mk' Tryz.func113 rfl rfl Tryz.ntmps113 rfl ?_
         repeat' (first|refine go ?_|intro _|refine kT ?_|refine cM ?_|refine aD @hAt ?_|refine aD @pK ?_|refine aD @hPut ?_|refine mH ?_ ?_|fail)
         all_goals exact aU
     · have e1:oG c k s w=0:=by rw [hE0,if_neg (fun h=>h4 h.1)]
       have e2:mL c k s w=false:=decide_eq_false (fun h=>h4 h.2)
       have e3:tH c core k s w= .zero:=by unfold tH;rw [e2];rfl
       have e4:gQ c k s w=⟨e7 c k.ways (uP c k.ways s w).line 0 .zero,k.mis,k.buf⟩:=by unfold gQ;rw [if_pos e1,if_neg h4]
       rw [e1,e2,e3,e4]
       refine FnF.mk' Tryz.func113 rfl rfl Tryz.ntmps113 rfl ?_
       repeat' (first|refine go ?_|intro _|refine kT ?_|refine cM ?_|refine aD @hAt ?_|refine aD @pK ?_|refine aD @hSet ?_|refine mH ?_ ?_|fail)
       all_goals exact aU
theorem c9h {F:List HP} {b:Nat} {c:Cfg} {core s w:Int} {k:CaS} (hI:bT c k.ways) :
    FnF Tryz.prog 113 [.pointer (some ⟨b,0,none⟩),.int .i64 s,.int .i64 w] [a8y b c core k] F
      (fun r L'=>r= .tuple [mv (tH c core k s w),.bool (mL c k s w),.int .i64 (oG c k s w)].toArray∧L'=[a8y b c core (gQ c k s w)]):=
  sC (fun a f e hf=>c5k hf.1 hI) (kB Tryz.func113 rfl rfl)
theorem b9f {F:List HP} {b a f e:Nat} {c:Cfg} {core:Int} {k:CaS} (hc:aF c=true) (hm:∀ m∈k.mis,aP c m.line=true) :
    FnF Tryz.prog 109 [.pointer (some ⟨b,0,none⟩)] (b2e b a f e c core k) F (fun r L'=>r= .tuple [mv (n8 c core k),.bool (kH k)].toArray∧L'=b2e b a f e c core (gG c k)):=by
  have hOw:=fun F=>c7m (F:=F) (b:=f) (room:=c.mshrs) (l:=k.mis)
  by_cases h:0≤kG k.mis
  · obtain ⟨i,hi,e0,_⟩:=cL h
    have e0':kG k.mis=i:=e0
    have el:bU k=k.mis[i].line:=by unfold bU;rw [if_pos h,e0',Int.toNat_natCast,←kI hi]
    have hli:kP (bU k):=by rw [el];exact yF (hm _ (List.getElem_mem hi))
    have e1:kH k=true:=decide_eq_true h
    have e2:n8 c core k=cX c core 11 (bU k) .zero:=if_pos e1
    have e3:gG c k=⟨gJ c k.ways (bU k) false,iN k.mis (bU k),k.buf⟩:=if_pos e1
    rw [e1,e2,e3]
    change ∀ F,FnF _ _ _ _ F (fun r L'=>r= .tuple [.int .i64 (bU k),.bool (decide (0≤kG k.mis))].toArray∧L'=_) at hOw
    rw [decide_eq_true h] at hOw
    have hCl:=fun F=>c6q (F:=F) (b:=f) (room:=c.mshrs) (l:=k.mis) (line:=bU k)
    have hLk:=fun F=>b6o (F:=F) (b:=a) (c:=c) (l:=k.ways) (line:=bU k) (lk:=false) (kY hc) hli
    have hHome:=fun F=>a7i (F:=F) (b:=b) (a:=a) (f:=f) (e:=e) (core:=core) (k:=⟨gJ c k.ways (bU k) false,iN k.mis (bU k),k.buf⟩) (kind:=11) hc hli
    refine FnF.mk' Tryz.func109 rfl rfl Tryz.ntmps109 rfl ?_
    repeat first|refine gd ?_|intro _|refine aD @hOw ?_|refine aD @hCl ?_|refine aD @hLk ?_|refine aD @hHome ?_
    exact aU
  · have e1:kH k=false:=decide_eq_false h
    have e2:n8 c core k= .zero:=by unfold n8;rw [e1];rfl
    have e3:gG c k=k:=by unfold gG;rw [e1];rfl
    rw [e1,e2,e3]
    simp only [decide_eq_false h] at hOw
    refine FnF.mk' Tryz.func109 rfl rfl Tryz.ntmps109 rfl ?_
    repeat first|refine gd ?_|intro _|refine aD @hOw ?_
    exact aU
theorem c5l {F:List HP} {b:Nat} {c:Cfg} {core:Int} {k:CaS} (hm:∀ m∈k.mis,aP c m.line=true) :
    FnF Tryz.prog 109 [.pointer (some ⟨b,0,none⟩)] [a8y b c core k] F (fun r L'=>r= .tuple [mv (n8 c core k),.bool (kH k)].toArray∧L'=[a8y b c core (gG c k)]):=
  sC (fun a f e hf=>b9f hf.1 hm) (kB Tryz.func109 rfl rfl)
theorem rX {c:Cfg} {a:Int}:kP (cQ c a):=by
  unfold cQ
  split
  · rename_i h
    simp only [oM,Bool.and_eq_true,decide_eq_true_eq] at h
    obtain ⟨hc,h0,h1⟩:=h
    have hw:=dO hc
    have hm:=a8g (m:=8) (n:=1024) (a:=c.words) (b:=c.lines) (om) (om) (om) (om) (om)
    have h2:0≤a / c.words:=Int.ediv_nonneg h0 (om)
    have h3:a / c.words≤a:=Int.ediv_le_self _ h0
    unfold kP;omega
  · decide
theorem o8 {Q P:Prop} (k:Q) (h:Hid Q→P:=by
  intro k
  first
  |(refine aG ?_;refine q9 (id:=1) .true (pl:= .p 0 <| .p 1 <| .p 2 <| .p 4 <| .r 3 <| .r 5 <| .e true [(6,.p 7 <| .p 8 <| .p 9 <| .p 10 <| .p 11 <| .p 12 <| .p 13 <| .done)]) k.out)
  |(refine aG ?_;refine q9 (id:=3) .true (pl:= .p 0 <| .p 1 <| .p 2 <| .p 4 <| .r 3 <| .r 5 <| .r 6 <| .e true [(7,.p 8 <| .p 9 <| .p 10 <| .p 11 <| .e false [(12,.e false [(13,.p 14 <| .p 15 <| .done)])]),(12,.e true [(7,.p 8 <| .p 9 <| .p 10 <| .p 11 <| .e false [(13,.p 14 <| .p 15 <| .done)])])]) k.out)
  |(refine aG ?_;refine q9 (id:=12) .true (pl:= .p 0 <| .p 1 <| .p 2 <| .p 4 <| .r 3 <| .r 5 <| .e true [(6,.done)]) k.out)):P:=h ⟨k⟩
theorem e3k {F:List HP} {b a f e:Nat} {c:Cfg} {core:Int} {x:Op3} {k:CaS} (hc:aF c=true) (hx:x.wf) :
    FnF Tryz.prog 145 [.pointer (some ⟨b,0,none⟩),ov x] (b2e b a f e c core k) F (fun r L'=>r= .tuple [.int .i64 (pJ c k x),.int .i64 (mM c k x)].toArray∧L'=b2e b a f e c core (fG c k x)):=by
  have hAd:=fun F=>yE (F:=F) (c:=c) (a:=x.addr) (kY hc) hx.2.1
  have hLook:=fun F=>nW (F:=F) (b:=b) (a:=a) (f:=f) (e:=e) (core:=core) (k:=k) hc (rX (c:=c) (a:=x.addr))
  have hAp:=fun F=>c8g (F:=F) (c:=c) (w:=(aT c k.ways (cQ c x.addr)).words) (x:=x) (kY hc) hx
  have hCan:=fun F=>c3r (F:=F) (b:=b) (a:=a) (f:=f) (e:=e) (core:=core) (k:=k) (kind:=cP x) hc (rX (c:=c) (a:=x.addr))
  have hSet:=fun F=>wH (F:=F) (b:=a) (c:=c) (l:=k.ways) (line:=cQ c x.addr) (st:=4) (w:=c9a c (aT c k.ways (cQ c x.addr)).words x) (kY hc) rX
  by_cases h0:e1r c x=0
  · have hE0:mM c k x=if q6 c k (cQ c x.addr) (cP x) then 0 else 5:=if_pos h0
    simp only [h0] at hAp
    cases h1:q6 c k (cQ c x.addr) (cP x) with
    |false=>
     simp only [h1] at hCan
     have e1:mM c k x=5:=by rw [hE0,h1];rfl
     have e2:pJ c k x=0:=by unfold pJ;rw [e1];rfl
     have e3:fG c k x=k:=by unfold fG;rw [e1];rfl
     rw [e1,e2,e3]
     by_cases h2:x.kind=1
     · have e4:cP x=1:=if_pos h2
       rw [e4] at hCan
       refine FnF.mk' Tryz.func145 rfl rfl Tryz.ntmps145 rfl ?_
       repeat' (first|refine go ?_|intro _|refine o8 ?_|refine cM ?_|refine aD @hAd ?_|refine aD @hLook ?_|refine aD @hAp ?_|refine aD @hCan ?_|refine mH ?_ ?_|fail)
       all_goals exact aU
     · have e4:cP x=2:=if_neg h2
       rw [e4] at hCan
       refine FnF.mk' Tryz.func145 rfl rfl Tryz.ntmps145 rfl ?_
       repeat' (first|refine go ?_|intro _|refine o8 ?_|refine cM ?_|refine aD @hAd ?_|refine aD @hLook ?_|refine aD @hAp ?_|refine aD @hCan ?_|refine mH ?_ ?_|fail)
       all_goals exact aU
    |true=>
     simp only [h1] at hCan
     have e1:mM c k x=0:=by rw [hE0,h1];rfl
     have e2:pJ c k x=e7u c (aT c k.ways (cQ c x.addr)).words x:=if_pos e1
     by_cases h2:x.kind=1
     · have e4:cP x=1:=if_pos h2
       have e3:fG c k x=k:=if_neg (fun h=>h.2 h2)
       rw [e1,e2,e3]
       rw [e4] at hCan
       refine FnF.mk' Tryz.func145 rfl rfl Tryz.ntmps145 rfl ?_
       repeat' (first|refine go ?_|intro _|refine o8 ?_|refine cM ?_|refine aD @hAd ?_|refine aD @hLook ?_|refine aD @hAp ?_|refine aD @hCan ?_|refine mH ?_ ?_|fail)
       all_goals exact aU
     · have e4:cP x=2:=if_neg h2
       have e3:fG c k x=⟨e7 c k.ways (cQ c x.addr) 4 (c9a c (aT c k.ways (cQ c x.addr)).words x),k.mis,k.buf⟩:=if_pos ⟨e1,h2⟩
       rw [e1,e2,e3]
       rw [e4] at hCan
       refine FnF.mk' Tryz.func145 rfl rfl Tryz.ntmps145 rfl ?_
       repeat' (first|refine go ?_|intro _|refine o8 ?_|refine cM ?_|refine aD @hAd ?_|refine aD @hLook ?_|refine aD @hAp ?_|refine aD @hCan ?_|refine aD @hSet ?_|refine mH ?_ ?_|fail)
       all_goals exact aU
  · have e1:mM c k x=e1r c x:=if_neg h0
    have e2:pJ c k x=0:=by unfold pJ;rw [e1,if_neg h0]
    have e3:fG c k x=k:=by unfold fG;rw [e1,if_neg (fun h=>h0 h.1)]
    rw [e1,e2,e3]
    refine FnF.mk' Tryz.func145 rfl rfl Tryz.ntmps145 rfl ?_
    repeat' (first|refine go ?_|intro _|refine o8 ?_|refine cM ?_|refine aD @hAd ?_|refine aD @hLook ?_|refine aD @hAp ?_|refine mH ?_ ?_|fail)
    all_goals exact aU
theorem e2k {F:List HP} {b:Nat} {c:Cfg} {core:Int} {x:Op3} {k:CaS} (hx:x.wf) :
    FnF Tryz.prog 145 [.pointer (some ⟨b,0,none⟩),ov x] [a8y b c core k] F (fun r L'=>r= .tuple [.int .i64 (pJ c k x),.int .i64 (mM c k x)].toArray∧L'=[a8y b c core (fG c k x)]):=
  sC (fun a f e hf=>e3k hf.1 hx) (kB Tryz.func145 rfl rfl)
end
end Go.Sx
