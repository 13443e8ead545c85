/- Ca3: several of my texts as one. My own work. -/
import Derived.Test.YtjihlpjnebdiiaaGreatZai
set_option linter.unusedVariables false
set_option linter.unusedSectionVars false
set_option linter.unusedSimpArgs false
set_option maxRecDepth 100000
set_option maxHeartbeats 4000000
namespace Go.Sx
open Go Go.Proofs
section
theorem e7y {c:Cfg} {l:List Way} {s k:Int} (hI:cF c l) (h:(oH c l s k).st≠0):aL c (oH c l s k).line=true:=by
  unfold oH at h ⊢
  by_cases h1:pF c s k=true
  · rw [if_pos h1] at h ⊢
    by_cases h2:s.toNat*c.ways.toNat+k.toNat<l.length
    · rw [←lI h2] at h ⊢
      exact (hI _ h2 (by simp [bC,h])).1
    · rw [List.getD_eq_getElem?_getD,List.getElem?_eq_none (om)] at h
      exact absurd rfl h
  · rw [if_neg h1] at h
    exact absurd rfl h
attribute [local irreducible] Exit.then Exit.inBlock Code.wp WC WO WE WQ V bT vL fP cY eI v8 IntKind.wrap WR Code.rounds WT KO
theorem lY {Q P:Prop} (k:Q) (h:Hid Q→P:=by
  intro k
  first
  |(refine aI ?_;refine uU (id:=6) .true (pl:= .p 0 <| .r 1 <| .e true [(2,.p 3 <| .p 4 <| .p 5 <| .p 6 <| .p 8 <| .p 10 <| .e false [(7,.e false [(9,.e false [(11,.e false [(12,.p 13 <| .p 14 <| .p 15 <| .done)])]),(11,.e false [(9,.e false [(12,.p 13 <| .p 14 <| .p 15 <| .done)])])]),(9,.e false [(7,.e false [(11,.e false [(12,.p 13 <| .p 14 <| .p 15 <| .done)])]),(11,.e false [(7,.e false [(12,.p 13 <| .p 14 <| .p 15 <| .done)])])]),(11,.e false [(7,.e false [(9,.e false [(12,.p 13 <| .p 14 <| .p 15 <| .done)])]),(9,.e false [(7,.e false [(12,.p 13 <| .p 14 <| .p 15 <| .done)])])])])]) k.out)
  |(refine aI ?_;refine uU (id:=8) .true (pl:= .p 0 <| .p 1 <| .p 2 <| .p 4 <| .p 6 <| .r 3 <| .r 5 <| .e true [(7,.done)]) k.out)):P:=h ⟨k⟩
theorem c9i {F:List HP} {b a f e:Nat} {c:Cfg} {core s w:Int} {k:CaS} (hc:aF c=true) (hI:cF c k.ways) :
    FnF Tryz.prog 113 [.pointer (some ⟨b,0,none⟩),.int .i64 s,.int .i64 w] (b5a b a f e c core k) F
      (fun r L'=>r= .tuple [mv (mV c core k s w),.bool (kZ c k s w),.int .i64 (lM c k s w)].toArray∧L'=b5a b a f e c core (d5 c k s w)):=by
  have hAt:=fun F=>e7n (F:=F) (b:=a) (c:=c) (l:=k.ways) (s:=s) (k:=w)
  have hno:∀ x:Int,x≠0→lM c k s w=x→kZ c k s w=false∧mV c core k s w= .zero∧d5 c k s w=k:=fun x hx h=>by
    have h1:kZ c k s w=false:=by unfold kZ;rw [h];simp [hx]
    refine ⟨h1,?_,?_⟩
    · unfold mV;rw [h1];rfl
    · unfold d5;rw [if_neg (om)]
  by_cases h0:pF c s w=false∨(oH c k.ways s w).st=0
  · have e1:lM c k s w=5:=if_pos h0
    obtain ⟨e2,e3,e4⟩:=hno _ (om) e1
    rw [e1,e2,e3,e4]
    cases h1:pF c s w with
    |false=>
     simp only [h1] at hAt
     refine FnF.mk' Tryz.func113 rfl rfl Tryz.ntmps113 rfl ?_
     repeat first|refine go ?_|intro _|refine lY ?_|refine dM ?_|refine aD @hAt ?_
     exact bF
    |true=>
     simp only [h1] at hAt
     have h2:(oH c k.ways s w).st=0:=by
       rcases h0 with h|h
       · rw [h1] at h;cases h
       · exact h
     refine FnF.mk' Tryz.func113 rfl rfl Tryz.ntmps113 rfl ?_
     repeat first|refine go ?_|intro _|refine lY ?_|refine dM ?_|refine aD @hAt ?_
     exact bF
  · have h1:pF c s w=true:=by
      cases h:pF c s w with
      |true=>rfl
      |false=>exact absurd (.inl h) h0
    have h2:(oH c k.ways s w).st≠0:=fun h=>h0 (.inr h)
    simp only [h1] at hAt
    have hok:=e7y hI h2
    have hli:=uE hok
    have hE0:lM c k s w=if (oH c k.ways s w).lk=true then 6 else if 2≤(oH c k.ways s w).st∧pZ c.writebacks k.buf (oH c k.ways s w).line≠0 then 4 else 0:=if_neg h0
    have hPut:=fun F=>f0x (F:=F) (b:=e) (room:=c.writebacks) (l:=k.buf) (line:=(oH c k.ways s w).line) (w:=(oH c k.ways s w).words)
    have hSet:=fun F=>yC (F:=F) (b:=a) (c:=c) (l:=k.ways) (line:=(oH c k.ways s w).line) (st:=0) (w:= .zero) (l3 hc) hli
    have hHome:=fun F k'=>b0f (F:=F) (b:=b) (a:=a) (f:=f) (e:=e) (core:=core) (k:=k') (kind:=3) hc hli
    cases h3:(oH c k.ways s w).lk with
    |true=>
     have e1:lM c k s w=6:=by rw [hE0,if_pos h3]
     obtain ⟨e2,e3,e4⟩:=hno _ (om) e1
     rw [e1,e2,e3,e4]
     refine FnF.mk' Tryz.func113 rfl rfl Tryz.ntmps113 rfl ?_
     repeat first|refine go ?_|intro _|refine lY ?_|refine dM ?_|refine aD @hAt ?_
     exact bF
    |false=>
     rw [h3,if_neg Bool.false_ne_true] at hE0
     by_cases h4:2≤(oH c k.ways s w).st
     · by_cases h5:pZ c.writebacks k.buf (oH c k.ways s w).line=0
       · have e1:lM c k s w=0:=by rw [hE0,if_neg (fun h=>h.2 h5)]
         have e2:kZ c k s w=true:=decide_eq_true ⟨e1,h4⟩
         have e3:mV c core k s w=cP c core 3 (oH c k.ways s w).line (oH c k.ways s w).words:=if_pos e2
         have e4:d5 c k s w=⟨fD c k.ways (oH c k.ways s w).line 0 .zero,k.mis,mD c.writebacks k.buf (oH c k.ways s w).line (oH c k.ways s w).words⟩:=by unfold d5;rw [if_pos e1,if_pos h4]
         rw [e1,e2,e3,e4]
         simp only [h5] at hPut
         have hHome2:=fun F=>hHome F ⟨fD c k.ways (oH c k.ways s w).line 0 .zero,k.mis,mD c.writebacks k.buf (oH c k.ways s w).line (oH c k.ways s w).words⟩
         refine FnF.mk' Tryz.func113 rfl rfl Tryz.ntmps113 rfl ?_
         repeat' (first|refine go ?_|intro _|refine lY ?_|refine dM ?_|refine aD @hAt ?_|refine aD @qK ?_|refine aD @hPut ?_|refine aD @hSet ?_|refine aD @hHome2 ?_|refine nV ?_ ?_|fail)
         all_goals exact bF
       · have e1:lM c k s w=4:=by rw [hE0,if_pos ⟨h4,h5⟩]
         obtain ⟨e2,e3,e4⟩:=hno _ (om) e1
         rw [e1,e2,e3,e4]
         have hL:mD c.writebacks k.buf (oH c k.ways s w).line (oH c k.ways s w).words=k.buf:=by
           unfold pZ at h5;unfold mD
           split
           · rfl
           · split
             · rfl
             · rename_i g1 g2;rw [if_neg g1,if_neg g2] at h5;exact absurd rfl h5
         rw [hL] at hPut
         refine FnF.mk' Tryz.func113 rfl rfl Tryz.ntmps113 rfl ?_
         repeat' (first|refine go ?_|intro _|refine lY ?_|refine dM ?_|refine aD @hAt ?_|refine aD @qK ?_|refine aD @hPut ?_|refine nV ?_ ?_|fail)
         all_goals exact bF
     · have e1:lM c k s w=0:=by rw [hE0,if_neg (fun h=>h4 h.1)]
       have e2:kZ c k s w=false:=decide_eq_false (fun h=>h4 h.2)
       have e3:mV c core k s w= .zero:=by unfold mV;rw [e2];rfl
       have e4:d5 c k s w=⟨fD c k.ways (oH c k.ways s w).line 0 .zero,k.mis,k.buf⟩:=by unfold d5;rw [if_pos e1,if_neg h4]
       rw [e1,e2,e3,e4]
       refine FnF.mk' Tryz.func113 rfl rfl Tryz.ntmps113 rfl ?_
       repeat' (first|refine go ?_|intro _|refine lY ?_|refine dM ?_|refine aD @hAt ?_|refine aD @qK ?_|refine aD @hSet ?_|refine nV ?_ ?_|fail)
       all_goals exact bF
theorem d3d {F:List HP} {b:Nat} {c:Cfg} {core s w:Int} {k:CaS} (hI:cF c k.ways) :
    FnF Tryz.prog 113 [.pointer (some ⟨b,0,none⟩),.int .i64 s,.int .i64 w] [b2h b c core k] F
      (fun r L'=>r= .tuple [mv (mV c core k s w),.bool (kZ c k s w),.int .i64 (lM c k s w)].toArray∧L'=[b2h b c core (d5 c k s w)]):=
  tA (fun a f e hf=>c9i hf.1 hI) (k6 Tryz.func113 rfl rfl)
theorem c2h {F:List HP} {b a f e:Nat} {c:Cfg} {core:Int} {k:CaS} (hc:aF c=true) (hm:∀ m∈k.mis,aL c m.line=true) :
    FnF Tryz.prog 109 [.pointer (some ⟨b,0,none⟩)] (b5a b a f e c core k) F (fun r L'=>r= .tuple [mv (jG c core k),.bool (gD k)].toArray∧L'=b5a b a f e c core (dY c k)):=by
  have hOw:=fun F=>d0n (F:=F) (b:=f) (room:=c.mshrs) (l:=k.mis)
  by_cases h:0≤jH k.mis
  · obtain ⟨i,hi,e0,_⟩:=cR h
    have e0':jH k.mis=i:=e0
    have el:cG k=k.mis[i].line:=by unfold cG;rw [if_pos h,e0',Int.toNat_natCast,←lI hi]
    have hli:nA (cG k):=by rw [el];exact uE (hm _ (List.getElem_mem hi))
    have e1:gD k=true:=decide_eq_true h
    have e2:jG c core k=cP c core 11 (cG k) .zero:=if_pos e1
    have e3:dY c k=⟨fS c k.ways (cG k) false,i4 k.mis (cG k),k.buf⟩:=if_pos e1
    rw [e1,e2,e3]
    change ∀ F,FnF _ _ _ _ F (fun r L'=>r= .tuple [.int .i64 (cG k),.bool (decide (0≤jH k.mis))].toArray∧L'=_) at hOw
    rw [decide_eq_true h] at hOw
    have hCl:=fun F=>d0b (F:=F) (b:=f) (room:=c.mshrs) (l:=k.mis) (line:=cG k)
    have hLk:=fun F=>b9k (F:=F) (b:=a) (c:=c) (l:=k.ways) (line:=cG k) (lk:=false) (l3 hc) hli
    have hHome:=fun F=>b0f (F:=F) (b:=b) (a:=a) (f:=f) (e:=e) (core:=core) (k:=⟨fS c k.ways (cG k) false,i4 k.mis (cG k),k.buf⟩) (kind:=11) hc hli
    refine FnF.mk' Tryz.func109 rfl rfl Tryz.ntmps109 rfl ?_
    repeat first|refine gd ?_|intro _|refine aD @hOw ?_|refine aD @hCl ?_|refine aD @hLk ?_|refine aD @hHome ?_
    exact bF
  · have e1:gD k=false:=decide_eq_false h
    have e2:jG c core k= .zero:=by unfold jG;rw [e1];rfl
    have e3:dY c k=k:=by unfold dY;rw [e1];rfl
    rw [e1,e2,e3]
    simp only [decide_eq_false h] at hOw
    refine FnF.mk' Tryz.func109 rfl rfl Tryz.ntmps109 rfl ?_
    repeat first|refine gd ?_|intro _|refine aD @hOw ?_
    exact bF
theorem c9j {F:List HP} {b:Nat} {c:Cfg} {core:Int} {k:CaS} (hm:∀ m∈k.mis,aL c m.line=true) :
    FnF Tryz.prog 109 [.pointer (some ⟨b,0,none⟩)] [b2h b c core k] F (fun r L'=>r= .tuple [mv (jG c core k),.bool (gD k)].toArray∧L'=[b2h b c core (dY c k)]):=
  tA (fun a f e hf=>c2h hf.1 hm) (k6 Tryz.func109 rfl rfl)
theorem sW {c:Cfg} {a:Int}:nA (bS c a):=by
  unfold bS
  split
  · rename_i h
    simp only [fR,Bool.and_eq_true,decide_eq_true_eq] at h
    obtain ⟨hc,h0,h1⟩:=h
    have hw:=dF hc
    have hm:=b1p (m:=8) (n:=1024) (a:=c.words) (b:=c.lines) (om) (om) (om) (om) (om)
    have h2:0≤a / c.words:=Int.ediv_nonneg h0 (om)
    have h3:a / c.words≤a:=Int.ediv_le_self _ h0
    unfold nA;omega
  · decide
theorem qD {Q P:Prop} (k:Q) (h:Hid Q→P:=by
  intro k
  first
  |(refine aI ?_;refine uU (id:=1) .true (pl:= .p 0 <| .p 1 <| .p 2 <| .p 4 <| .r 3 <| .r 5 <| .e true [(6,.p 7 <| .p 8 <| .p 9 <| .p 10 <| .p 11 <| .p 12 <| .p 13 <| .done)]) k.out)
  |(refine aI ?_;refine uU (id:=3) .true (pl:= .p 0 <| .p 1 <| .p 2 <| .p 4 <| .r 3 <| .r 5 <| .r 6 <| .e true [(7,.p 8 <| .p 9 <| .p 10 <| .p 11 <| .e false [(12,.e false [(13,.p 14 <| .p 15 <| .done)])]),(12,.e true [(7,.p 8 <| .p 9 <| .p 10 <| .p 11 <| .e false [(13,.p 14 <| .p 15 <| .done)])])]) k.out)
  |(refine aI ?_;refine uU (id:=12) .true (pl:= .p 0 <| .p 1 <| .p 2 <| .p 4 <| .r 3 <| .r 5 <| .e true [(6,.done)]) k.out)):P:=h ⟨k⟩
theorem e7z {F:List HP} {b a f e:Nat} {c:Cfg} {core:Int} {x:Op3} {k:CaS} (hc:aF c=true) (hx:x.wf) :
    FnF Tryz.prog 145 [.pointer (some ⟨b,0,none⟩),ov x] (b5a b a f e c core k) F (fun r L'=>r= .tuple [.int .i64 (lN c k x),.int .i64 (mW c k x)].toArray∧L'=b5a b a f e c core (dR c k x)):=by
  have hAd:=fun F=>t8 (F:=F) (c:=c) (a:=x.addr) (l3 hc) hx.2.1
  have hLook:=fun F=>oW (F:=F) (b:=b) (a:=a) (f:=f) (e:=e) (core:=core) (k:=k) hc (sW (c:=c) (a:=x.addr))
  have hAp:=fun F=>d1o (F:=F) (c:=c) (w:=(aP c k.ways (bS c x.addr)).words) (x:=x) (l3 hc) hx
  have hCan:=fun F=>c7c (F:=F) (b:=b) (a:=a) (f:=f) (e:=e) (core:=core) (k:=k) (kind:=bD x) hc (sW (c:=c) (a:=x.addr))
  have hSet:=fun F=>yC (F:=F) (b:=a) (c:=c) (l:=k.ways) (line:=bS c x.addr) (st:=4) (w:=d2d c (aP c k.ways (bS c x.addr)).words x) (l3 hc) sW
  by_cases h0:d7f c x=0
  · have hE0:mW c k x=if mU c k (bS c x.addr) (bD x) then 0 else 5:=if_pos h0
    simp only [h0] at hAp
    cases h1:mU c k (bS c x.addr) (bD x) with
    |false=>
     simp only [h1] at hCan
     have e1:mW c k x=5:=by rw [hE0,h1];rfl
     have e2:lN c k x=0:=by unfold lN;rw [e1];rfl
     have e3:dR c k x=k:=by unfold dR;rw [e1];rfl
     rw [e1,e2,e3]
     by_cases h2:x.kind=1
     · have e4:bD x=1:=if_pos h2
       rw [e4] at hCan
       refine FnF.mk' Tryz.func145 rfl rfl Tryz.ntmps145 rfl ?_
       repeat' (first|refine go ?_|intro _|refine qD ?_|refine dM ?_|refine aD @hAd ?_|refine aD @hLook ?_|refine aD @hAp ?_|refine aD @hCan ?_|refine nV ?_ ?_|fail)
       all_goals exact bF
     · have e4:bD x=2:=if_neg h2
       rw [e4] at hCan
       refine FnF.mk' Tryz.func145 rfl rfl Tryz.ntmps145 rfl ?_
       repeat' (first|refine go ?_|intro _|refine qD ?_|refine dM ?_|refine aD @hAd ?_|refine aD @hLook ?_|refine aD @hAp ?_|refine aD @hCan ?_|refine nV ?_ ?_|fail)
       all_goals exact bF
    |true=>
     simp only [h1] at hCan
     have e1:mW c k x=0:=by rw [hE0,h1];rfl
     have e2:lN c k x=f1v c (aP c k.ways (bS c x.addr)).words x:=if_pos e1
     by_cases h2:x.kind=1
     · have e4:bD x=1:=if_pos h2
       have e3:dR c k x=k:=if_neg (fun h=>h.2 h2)
       rw [e1,e2,e3]
       rw [e4] at hCan
       refine FnF.mk' Tryz.func145 rfl rfl Tryz.ntmps145 rfl ?_
       repeat' (first|refine go ?_|intro _|refine qD ?_|refine dM ?_|refine aD @hAd ?_|refine aD @hLook ?_|refine aD @hAp ?_|refine aD @hCan ?_|refine nV ?_ ?_|fail)
       all_goals exact bF
     · have e4:bD x=2:=if_neg h2
       have e3:dR c k x=⟨fD c k.ways (bS c x.addr) 4 (d2d c (aP c k.ways (bS c x.addr)).words x),k.mis,k.buf⟩:=if_pos ⟨e1,h2⟩
       rw [e1,e2,e3]
       rw [e4] at hCan
       refine FnF.mk' Tryz.func145 rfl rfl Tryz.ntmps145 rfl ?_
       repeat' (first|refine go ?_|intro _|refine qD ?_|refine dM ?_|refine aD @hAd ?_|refine aD @hLook ?_|refine aD @hAp ?_|refine aD @hCan ?_|refine aD @hSet ?_|refine nV ?_ ?_|fail)
       all_goals exact bF
  · have e1:mW c k x=d7f c x:=if_neg h0
    have e2:lN c k x=0:=by unfold lN;rw [e1,if_neg h0]
    have e3:dR c k x=k:=by unfold dR;rw [e1,if_neg (fun h=>h0 h.1)]
    rw [e1,e2,e3]
    refine FnF.mk' Tryz.func145 rfl rfl Tryz.ntmps145 rfl ?_
    repeat' (first|refine go ?_|intro _|refine qD ?_|refine dM ?_|refine aD @hAd ?_|refine aD @hLook ?_|refine aD @hAp ?_|refine nV ?_ ?_|fail)
    all_goals exact bF
theorem e6s {F:List HP} {b:Nat} {c:Cfg} {core:Int} {x:Op3} {k:CaS} (hx:x.wf) :
    FnF Tryz.prog 145 [.pointer (some ⟨b,0,none⟩),ov x] [b2h b c core k] F (fun r L'=>r= .tuple [.int .i64 (lN c k x),.int .i64 (mW c k x)].toArray∧L'=[b2h b c core (dR c k x)]):=
  tA (fun a f e hf=>e7z hf.1 hx) (k6 Tryz.func145 rfl rfl)
end
end Go.Sx
