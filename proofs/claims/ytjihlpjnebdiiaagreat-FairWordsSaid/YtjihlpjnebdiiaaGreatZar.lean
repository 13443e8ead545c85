/- Ca5, MaC, MaT, MaV, Net2: several of my texts as one. My own work. -/
import Derived.Test.YtjihlpjnebdiiaaGreatZao
import Derived.Test.YtjihlpjnebdiiaaGreatZap
import Derived.Test.YtjihlpjnebdiiaaGreatZaq
set_option linter.unusedVariables false
set_option linter.unusedSectionVars false
set_option linter.unusedSimpArgs false
set_option maxRecDepth 100000
set_option maxHeartbeats 4000000
namespace Go.Sx
open Go Go.Proofs
section
attribute [local irreducible] Exit.then Exit.inBlock Code.wp WC WO WE WQ V bT vL fP cY eI v8 IntKind.wrap WR Code.rounds WT KO
theorem iG {Q P:Prop} (k:Q) (h:Hid Q→P:=by
  intro k
  first
  |(refine aI ?_;refine uU (id:=18) .true (pl:= .p 0 <| .p 2 <| .p 4 <| .r 1 <| .e true [(3,.e true [(5,.p 6 <| .p 7 <| .done)]),(5,.e false [(3,.p 6 <| .p 7 <| .done)])]) k.out)):P:=h ⟨k⟩
theorem d5f {F:List HP} {b a f e:Nat} {c:Cfg} {core:Int} {m:Msg} {k:CaS} (hc:aF c=true) (hg:∀ m∈k.mis,-9223372036854775808≤m.got∧m.got≤9223372036854775806) :
    FnF Tryz.prog 143 [.pointer (some ⟨b,0,none⟩),mv m] (b5a b a f e c core k) F
      (fun r L'=>r= .tuple [mv (eF c core k m),.bool (dP c core k m),.int .i64 (bO c core k m)].toArray∧L'=b5a b a f e c core (aS c core k m)):=by
  have hMay:=fun F=>b5s (F:=F) (m:=m) (l3 hc)
  by_cases h:nL c core m=true
  · have h':=h
    simp only [nL,Bool.and_eq_true,decide_eq_true_eq,Bool.not_eq_true',decide_eq_false_iff_not] at h'
    obtain ⟨⟨h1,h2⟩,h3⟩:=h'
    have hli:nA m.line:=uE (d6q h1)
    have hk:=h1.2.1
    have hkk:m.kind=4∨m.kind=5∨m.kind=6∨m.kind=7∨m.kind=8∨m.kind=9∨m.kind=10:=by
      unfold cK at h2;omega
    simp only [decide_eq_true h1] at hMay
    have hHome:=fun F=>a1h (F:=F) (k:=m.kind)
    simp only [decide_eq_false h2] at hHome
    have hS:=fun F=>d6r (F:=F) (b:=b) (a:=a) (f:=f) (e:=e) (core:=core) (m:=m) (k:=k) hc hli
    have hM:=fun F=>d6s (F:=F) (b:=b) (a:=a) (f:=f) (e:=e) (core:=core) (m:=m) (k:=k) hc hli
    have hI:=fun F=>e5l (F:=F) (b:=b) (a:=a) (f:=f) (e:=e) (core:=core) (m:=m) (k:=k) hc hli
    have hD:=fun F=>d6t (F:=F) (b:=b) (a:=a) (f:=f) (e:=e) (core:=core) (m:=m) (k:=k) hc hli
    have hG:=fun F=>d1e (F:=F) (b:=b) (a:=a) (f:=f) (e:=e) (core:=core) (m:=m) (k:=k) hc hli
    have hA:=fun F=>e5m (F:=F) (b:=b) (a:=a) (f:=f) (e:=e) (core:=core) (m:=m) (k:=k) hc hli hg
    have hP:=fun F=>c4h (F:=F) (b:=b) (a:=a) (f:=f) (e:=e) (c:=c) (core:=core) (m:=m) (k:=k) hc
    unfold eF dP bO aS
    rcases hkk with g|g|g|g|g|g|g<;>simp only [h,g,if_true,Int.reduceEq,if_false,or_true,or_false,Int.reduceLE,and_true,and_false,decide_false,true_or,false_or]
    · refine FnF.mk' Tryz.func143 rfl rfl Tryz.ntmps143 rfl ?_
      repeat' (first|refine go ?_|intro _|refine iG ?_|refine dM ?_|refine aD @hMay ?_|refine aD @hHome ?_|refine aD @hS ?_|refine nV ?_ ?_|fail)
      all_goals exact bF
    · refine FnF.mk' Tryz.func143 rfl rfl Tryz.ntmps143 rfl ?_
      repeat' (first|refine go ?_|intro _|refine iG ?_|refine dM ?_|refine aD @hMay ?_|refine aD @hHome ?_|refine aD @hM ?_|refine nV ?_ ?_|fail)
      all_goals exact bF
    · refine FnF.mk' Tryz.func143 rfl rfl Tryz.ntmps143 rfl ?_
      repeat' (first|refine go ?_|intro _|refine iG ?_|refine dM ?_|refine aD @hMay ?_|refine aD @hHome ?_|refine aD @hI ?_|refine nV ?_ ?_|fail)
      all_goals exact bF
    · refine FnF.mk' Tryz.func143 rfl rfl Tryz.ntmps143 rfl ?_
      repeat' (first|refine go ?_|intro _|refine iG ?_|refine dM ?_|refine aD @hMay ?_|refine aD @hHome ?_|refine aD @hD ?_|refine nV ?_ ?_|fail)
      all_goals exact bF
    · refine FnF.mk' Tryz.func143 rfl rfl Tryz.ntmps143 rfl ?_
      repeat' (first|refine go ?_|intro _|refine iG ?_|refine dM ?_|refine aD @hMay ?_|refine aD @hHome ?_|refine aD @hG ?_|refine nV ?_ ?_|fail)
      all_goals exact bF
    · refine FnF.mk' Tryz.func143 rfl rfl Tryz.ntmps143 rfl ?_
      repeat' (first|refine go ?_|intro _|refine iG ?_|refine dM ?_|refine aD @hMay ?_|refine aD @hHome ?_|refine aD @hA ?_|refine nV ?_ ?_|fail)
      all_goals exact bF
    · refine FnF.mk' Tryz.func143 rfl rfl Tryz.ntmps143 rfl ?_
      repeat' (first|refine go ?_|intro _|refine iG ?_|refine dM ?_|refine aD @hMay ?_|refine aD @hHome ?_|refine aD @hP ?_|refine nV ?_ ?_|fail)
      all_goals exact bF
  · have e1:bO c core k m=1:=if_neg h
    have e2:dP c core k m=false:=by unfold dP;rw [e1];simp
    have e3:eF c core k m= .zero:=if_neg h
    have e4:aS c core k m=k:=if_neg h
    rw [e1,e2,e3,e4]
    by_cases h1:fG c m
    · simp only [decide_eq_true h1] at hMay
      by_cases h2:cK m.kind
      · have hHome:=fun F=>a1h (F:=F) (k:=m.kind)
        simp only [decide_eq_true h2] at hHome
        refine FnF.mk' Tryz.func143 rfl rfl Tryz.ntmps143 rfl ?_
        repeat' (first|refine go ?_|intro _|refine iG ?_|refine dM ?_|refine aD @hMay ?_|refine aD @hHome ?_|refine nV ?_ ?_|fail)
        all_goals exact bF
      · have hHome:=fun F=>a1h (F:=F) (k:=m.kind)
        simp only [decide_eq_false h2] at hHome
        have h3:¬m.dst=core:=fun h3=>h (by simp [nL,h1,h2,h3])
        refine FnF.mk' Tryz.func143 rfl rfl Tryz.ntmps143 rfl ?_
        repeat' (first|refine go ?_|intro _|refine iG ?_|refine dM ?_|refine aD @hMay ?_|refine aD @hHome ?_|refine nV ?_ ?_|fail)
        all_goals exact bF
    · simp only [decide_eq_false h1] at hMay
      refine FnF.mk' Tryz.func143 rfl rfl Tryz.ntmps143 rfl ?_
      repeat' (first|refine go ?_|intro _|refine iG ?_|refine dM ?_|refine aD @hMay ?_|refine nV ?_ ?_|fail)
      all_goals exact bF
theorem e3e {F:List HP} {b:Nat} {c:Cfg} {core:Int} {m:Msg} {k:CaS} (hg:∀ m∈k.mis,-9223372036854775808≤m.got∧m.got≤9223372036854775806) :
    FnF Tryz.prog 143 [.pointer (some ⟨b,0,none⟩),mv m] [b2h b c core k] F
      (fun r L'=>r= .tuple [mv (eF c core k m),.bool (dP c core k m),.int .i64 (bO c core k m)].toArray∧L'=[b2h b c core (aS c core k m)]):=
  tA (fun a f e hf=>d5f hf.1 hg) (k6 Tryz.func143 rfl rfl)
end
section
def f1s (c:Cfg) (a:CaS) (k:CoS) (x:Op3):CoS:=if mW c a x=0 then sB k (lN c a x) else k
def f1l (c:Cfg) (a:CaS) (k:CoS) (i:Int) (x:Op3) (l:List Com):List Com:=if mW c a x=0 then l++[⟨i,k.rs.length,x,lN c a x⟩] else l
attribute [local irreducible] Exit.then Exit.inBlock Code.wp WC WO WE WQ V bT vL fP cY eI v8 IntKind.wrap WR Code.rounds WT KO
abbrev MC (b:Nat) (c:Cfg) (odd:Int) (nk na nh nt:Nat) (pk pa ph pt:Option Addr×Nat) (bn:Nat):HP:=Cells b 81 (f1w c odd nk na nh nt pk pa ph pt bn)
abbrev f2o (p:Option Addr×Nat) (l:List Nat):HP:=Own 82 1 (.slice p.1 l.length p.2) l.length (aC b1d l)
abbrev f1m (p:Option Addr×Nat) (l:List Nat):HP:=Own 46 1 (.slice p.1 l.length p.2) l.length (aC b1d l)
abbrev f4t (p:Option Addr×Nat) (l:List Nat):HP:=Own 52 1 (.slice p.1 l.length p.2) l.length (aC b1d l)
abbrev f1t (p:Option Addr×Nat) (l:List Com):HP:=Own 60 6 (.slice p.1 l.length p.2) l.length (aC e0q l)
section
variable {F:List HP} {b:Nat} {c:Cfg} {odd:Int} {nk na nh nt:Nat} {pk pa ph pt:Option Addr×Nat} {bn:Nat}
theorem c3m {Q P:Prop} (k:Q) (h:Hid Q→P:=by
  intro k
  first
  |(refine aI ?_;refine uU (id:=1) .true (pl:= .p 0 <| .p 1 <| .p 2 <| .p 4 <| .r 3 <| .r 5 <| .e true [(6,.p 7 <| .p 8 <| .p 9 <| .p 10 <| .p 11 <| .p 12 <| .p 13 <| .done)]) k.out)):P:=h ⟨k⟩
theorem b5u {x:Op3} (hw:c.wf) (hx:x.wf):FnF Tryz.prog 105 [.pointer (some ⟨b,0,none⟩),ov x] [MC b c odd nk na nh nt pk pa ph pt bn] F (fun r L'=>r= .int .i64 (bB c x)∧L'=[MC b c odd nk na nh nt pk pa ph pt bn]):=by
  have hS:=fun F=>t8 (F:=F) (c:=c) (a:=x.addr) hw hx.2.1
  refine FnF.mk' Tryz.func105 rfl rfl Tryz.ntmps105 rfl ?_
  repeat first|refine go ?_|intro _|refine c3m ?_|refine dM ?_|refine aD @hS ?_
  (apply aA rfl rfl bH)
  · exact ⟨rfl,rfl⟩
  · exact aB
theorem c7e {x:Op3}:FnF Tryz.prog 112 [ov x] [] F (fun r L'=>r= .int .i64 (bD x)∧L'=[]):=by
  refine FnF.mk' Tryz.func112 rfl rfl Tryz.ntmps112 rfl ?_
  by_cases h:x.kind=1
  · repeat first|refine gd ?_|intro _
    (apply aA rfl rfl bH;(first|exact oO|exact ⟨by simp [bD,h]<;>omega,rfl⟩);exact jM)
  · repeat first|refine gd ?_|intro _
    (apply aA rfl rfl bH;(first|exact oO|exact ⟨by simp [bD,h]<;>omega,rfl⟩);exact jM)
theorem c3n {Q P:Prop} (k:Q) (h:Hid Q→P:=by
  intro k
  first
  |(refine aI ?_;refine uU (id:=1) .true (pl:= .p 0 <| .p 1 <| .p 2 <| .r 3 <| .r 4 <| .e true [(5,.p 6 <| .p 7 <| .done)]) k.out)):P:=h ⟨k⟩
theorem a8a {n:Nets} {m:Msg} (hw:c.wf):FnF Tryz.prog 108 [.pointer (some ⟨b,0,none⟩),mv m] [MC b c odd nk na nh nt pk pa ph pt bn,nQ bn c n] F
    (fun r L'=>r= .bool (decide (vK c n m=0))∧L'=[MC b c odd nk na nh nt pk pa ph pt bn,nQ bn c (eJ c n m)]):=by
  have hS:=fun F=>d4a (F:=F) (b:=bn) (c:=c) (n:=n) (m:=m) hw
  refine FnF.mk' Tryz.func108 rfl rfl Tryz.ntmps108 rfl ?_
  repeat first|refine go ?_|intro _|refine c3n ?_|refine dM ?_|refine aD @hS ?_
  (apply aA rfl rfl bH)
  · exact ⟨rfl,rfl⟩
  · exact aB
theorem c3o {Q P:Prop} (k:Q) (h:Hid Q→P:=by
  intro k
  first
  |(refine aI ?_;refine uU (id:=2) .true (pl:= .p 0 <| .p 1 <| .p 2 <| .p 3 <| .p 5 <| .p 6 <| .p 8 <| .r 4 <| .r 7 <| .p 9 <| .e true [(10,.e true [(11,.p 12 <| .p 13 <| .e false [(14,.done)])])]) k.out)):P:=h ⟨k⟩
theorem b3o {kb:List Nat} {i:Nat} {k:CoS} {tr:List Com} {x:Op3} {n:Int} (hi:i<kb.length) (hh:¬k.rs.length=k.l.length) (ht:tr.length≤1000000000000) :
    FnF Tryz.prog 110 [.pointer (some ⟨b,0,none⟩),.int .i64 i,ov x,.int .i64 n] [MC b c odd kb.length na nh tr.length pk pa ph pt bn,f2o pk kb,b2d kb[i] k,f1t pt tr] F
    (fun r L'=>∃ pt':Option Addr×Nat,r= .bool true∧L'=[MC b c odd kb.length na nh (tr++[(⟨i,k.rs.length,x,n⟩:Com)]).length pk pa ph pt' bn,f2o pk kb,b2d kb[i] (sB k n),f1t pt' (tr++[(⟨i,k.rs.length,x,n⟩:Com)])]):=by
  have hg:=jT hi
  have hC:=fun F=>b7w (F:=F) (b:=kb[i]) (l:=k.l) (rs:=k.rs) (tr:=k.tr) (n:=n) hh
  refine FnF.mk' Tryz.func110 rfl rfl Tryz.ntmps110 rfl ?_
  repeat first|refine go ?_|intro _|refine c3o ?_|refine dM ?_|refine aD @hC ?_
  rename_i b1 b2 p1 c1
  (apply aA rfl rfl bH)
  · exact ⟨(p1,c1),rfl,rfl⟩
  · simp only [List.length_append,List.length_singleton,f1t,bJ,dW,sB]
    exact aB
theorem z4 {Q P:Prop} (k:Q) (h:Hid Q→P:=by
  intro k
  first
  |(refine aI ?_;refine uU (id:=1) .true (pl:= .p 0 <| .p 1 <| .p 2 <| .p 4 <| .r 3 <| .p 5 <| .r 6 <| .r 7 <| .e true [(8,.p 9 <| .p 10 <| .p 11 <| .p 12 <| .p 13 <| .done)]) k.out)):P:=h ⟨k⟩
theorem c7f {kb ab:List Nat} {i:Nat} {k:CoS} {a:CaS} {tr:List Com} {x:Op3} (hi:i<kb.length) (hj:i<ab.length) (hh:¬k.rs.length=k.l.length) (ht:tr.length≤1000000000000) (hx:x.wf) :
    FnF Tryz.prog 106 [.pointer (some ⟨b,0,none⟩),.int .i64 i,ov x] [MC b c odd kb.length ab.length nh tr.length pk pa ph pt bn,f2o pk kb,b2d kb[i] k,f1m pa ab,b2h ab[i] c (i:Int) a,f1t pt tr] F
    (fun r L'=>∃ pt':Option Addr×Nat,r= .bool (decide (mW c a x=0))∧L'=[MC b c odd kb.length ab.length nh (f1l c a k i x tr).length pk pa ph pt' bn,f2o pk kb,b2d kb[i] (f1s c a k x),f1m pa ab,b2h ab[i] c (i:Int) (dR c a x),f1t pt' (f1l c a k i x tr)]):=by
  have hg:=jT hj
  have hD:=fun F=>e6s (F:=F) (b:=ab[i]) (c:=c) (core:=(i:Int)) (x:=x) (k:=a) hx
  have hC:=fun F n=>b3o (F:=F) (b:=b) (c:=c) (odd:=odd) (na:=ab.length) (nh:=nh) (pk:=pk) (pa:=pa) (ph:=ph) (pt:=pt) (bn:=bn) (kb:=kb) (k:=k) (tr:=tr) (x:=x) (n:=n) hi hh ht
  refine FnF.mk' Tryz.func106 rfl rfl Tryz.ntmps106 rfl ?_
  (first|(refine fJ (.slice pa.1 ab.length pa.2) inferInstance (om) ?_;intro _)|(refine fM (.slice pa.1 ab.length pa.2) inferInstance (om) ?_;intro _))
  by_cases he:mW c a x=0
  · repeat first|refine go ?_|intro _|refine z4 ?_|refine dM ?_|refine aD @hD ?_|refine aD @hC ?_
    rename_i p1
    (apply aA rfl rfl bH)
    · exact ⟨p1,by simp [he],rfl⟩
    · unfold f1l f1s
      rw [if_pos he,if_pos he]
      exact aB
  · repeat first|refine go ?_|intro _|refine z4 ?_|refine dM ?_|refine aD @hD ?_|refine aD @hC ?_
    (apply aA rfl rfl bH)
    · exact ⟨pt,by simp [he],rfl⟩
    · unfold f1l f1s
      rw [if_neg he,if_neg he]
      exact aB
theorem c3p {ab:List Nat} {i:Nat} {a:CaS} {x:Op3} (hj:i<ab.length) (hx:x.wf) (he:¬mW c a x=0) :
    FnF Tryz.prog 106 [.pointer (some ⟨b,0,none⟩),.int .i64 i,ov x] [MC b c odd nk ab.length nh nt pk pa ph pt bn,f1m pa ab,b2h ab[i] c (i:Int) a] F
    (fun r L'=>r= .bool false∧L'=[MC b c odd nk ab.length nh nt pk pa ph pt bn,f1m pa ab,b2h ab[i] c (i:Int) a]):=by
  have hg:=jT hj
  have hD:=fun F=>e6s (F:=F) (b:=ab[i]) (c:=c) (core:=(i:Int)) (x:=x) (k:=a) hx
  have eK:dR c a x=a:=by unfold dR;rw [if_neg (fun g=>he g.1)]
  simp only [eK] at hD
  refine FnF.mk' Tryz.func106 rfl rfl Tryz.ntmps106 rfl ?_
  (first|(refine fJ (.slice pa.1 ab.length pa.2) inferInstance (om) ?_;intro _)|(refine fM (.slice pa.1 ab.length pa.2) inferInstance (om) ?_;intro _))
  repeat first|refine go ?_|intro _|refine z4 ?_|refine dM ?_|refine aD @hD ?_
  (apply aA rfl rfl bH)
  · exact ⟨rfl,rfl⟩
  · exact aB
theorem uF {Q P:Prop} (k:Q) (h:Hid Q→P:=by
  intro k
  first
  |(refine aI ?_;refine uU (id:=1) .true (pl:= .p 0 <| .p 1 <| .p 2 <| .p 4 <| .r 3 <| .r 5 <| .p 6 <| .r 7 <| .r 8 <| .e true [(9,.p 10 <| .p 11 <| .p 12 <| .p 13 <| .e false [(14,.e false [(15,.p 16 <| .p 17 <| .done)])]),(14,.e true [(9,.p 10 <| .p 11 <| .p 12 <| .p 13 <| .e false [(15,.p 16 <| .p 17 <| .done)])])]) k.out)):P:=h ⟨k⟩
theorem a4s {ab:List Nat} {i:Nat} {a:CaS} {n:Nets} {m:Msg} (hw:c.wf) (hj:i<ab.length) (hd:m.dst=i) (ho:0≤odd∧odd≤1000000000000) (hg:∀ m∈a.mis,-9223372036854775808≤m.got∧m.got≤9223372036854775806) :
    FnF Tryz.prog 102 [.pointer (some ⟨b,0,none⟩),mv m] [MC b c odd nk ab.length nh nt pk pa ph pt bn,f1m pa ab,b2h ab[i] c (i:Int) a,nQ bn c n] F
    (fun r L'=>r= .tuple [].toArray∧L'=[MC b c (if bO c i a m=0 then odd else odd+1) nk ab.length nh nt pk pa ph pt bn,f1m pa ab,b2h ab[i] c (i:Int) (aS c i a m),nQ bn c (if dP c i a m then eJ c n (eF c i a m) else n)]):=by
  have hgv:=jT hj
  have hT:=fun F=>e3e (F:=F) (b:=ab[i]) (c:=c) (core:=(i:Int)) (m:=m) (k:=a) hg
  have hS:=fun F n odd=>a8a (F:=F) (b:=b) (c:=c) (odd:=odd) (nk:=nk) (na:=ab.length) (nh:=nh) (nt:=nt) (pk:=pk) (pa:=pa) (ph:=ph) (pt:=pt) (bn:=bn) (n:=n) (m:=eF c i a m) hw
  obtain ⟨mk,ml,ms,md,mw,mac',mo,mww⟩:=m
  dsimp only at hd
  subst hd
  refine FnF.mk' Tryz.func102 rfl rfl Tryz.ntmps102 rfl ?_
  (first|(refine fJ (.slice pa.1 ab.length pa.2) inferInstance (om) ?_;intro _)|(refine fM (.slice pa.1 ab.length pa.2) inferInstance (om) ?_;intro _))
  by_cases he:bO c i a ⟨mk,ml,ms,i,mw,mac',mo,mww⟩=0
  · cases hb:dP c i a ⟨mk,ml,ms,i,mw,mac',mo,mww⟩ with
    |true=>
     simp only [he,hb] at hT
     repeat' (first|refine go ?_|intro _|refine uF ?_|refine dM ?_|refine aD @hT ?_|refine aD @hS ?_|refine nV ?_ ?_|fail)
     all_goals (apply aA rfl rfl bH)
     all_goals first|exact ⟨rfl,rfl⟩|(simp only [he,hb,if_true];exact aB)
    |false=>
     simp only [he,hb] at hT
     repeat' (first|refine go ?_|intro _|refine uF ?_|refine dM ?_|refine aD @hT ?_|refine aD @hS ?_|refine nV ?_ ?_|fail)
     all_goals (apply aA rfl rfl bH)
     all_goals first|exact ⟨rfl,rfl⟩|(simp only [he,hb,if_true,Bool.false_eq_true,if_false];exact aB)
  · cases hb:dP c i a ⟨mk,ml,ms,i,mw,mac',mo,mww⟩ with
    |true=>
     simp only [hb] at hT
     repeat' (first|refine go ?_|intro _|refine uF ?_|refine dM ?_|refine aD @hT ?_|refine aD @hS ?_|refine nV ?_ ?_|fail)
     all_goals (apply aA rfl rfl bH)
     all_goals first|exact ⟨rfl,rfl⟩|(simp only [he,hb,if_true,if_false];exact aB)
    |false=>
     simp only [hb] at hT
     repeat' (first|refine go ?_|intro _|refine uF ?_|refine dM ?_|refine aD @hT ?_|refine aD @hS ?_|refine nV ?_ ?_|fail)
     all_goals (apply aA rfl rfl bH)
     all_goals first|exact ⟨rfl,rfl⟩|(simp only [he,hb,if_false,Bool.false_eq_true];exact aB)
end
end
section
def rI (s:MaS):List (List Op3×List Int)×List Com:=(s.ks.map fun k=>(k.l,k.rs),s.tr)
def c7g (s s':MaS):Prop:=rI s'=rI s∨∃ (i:Int) (v:Int),0≤i∧i<s.ks.length∧gH (cO s i)=true∧rI s'=rI (nZ s i (bV (cO s i)) v)
section
variable {c:Cfg} {n:Nat} {s:MaS}
theorem c7h {i:Int} (h0:0≤i) (h1:i<s.ks.length) (hh:gH (cO s i)=true):c7g s (jE c s i (bV (cO s i))):=by
  unfold jE
  split
  · exact .inr ⟨i,_,h0,h1,hh,rfl⟩
  · exact .inl rfl
theorem e9a {i w:Int} (h0:0≤i) (h1:i<s.ks.length):c7g s (c8 c s i w):=by
  unfold c8
  split
  · exact .inl rfl
  · split
    · exact .inl rfl
    · rename_i hh
      have hh:gH (cO s i)=true:=by simpa using hh
      split
      · split
        · exact .inr ⟨i,_,h0,h1,hh,rfl⟩
        · exact .inl rfl
      · split
        · exact c7h h0 h1 hh
        · split
          · exact .inl rfl
          · split
            · exact .inl rfl
            · split
              · unfold a7f;split<;>exact .inl rfl
              · exact .inl rfl
theorem a8b (m:Msg):rI (dD c s m)=rI s∧(dD c s m).ks=s.ks:=by unfold dD;split<;>exact ⟨rfl,rfl⟩
theorem f2p {s s1 s2:MaS} (h1:rI s1=rI s∧s1.ks=s.ks) (h2:c7g s1 s2):c7g s s2:=by
  rcases h2 with h2|⟨i,v,g0,g1,g2,g3⟩
  · exact .inl (h2.trans h1.1)
  · have hk:cO s1 i=cO s i:=by unfold cO;rw [h1.2]
    refine .inr ⟨i,v,g0,by rw [←h1.2];exact g1,by rw [←hk];exact g2,?_⟩
    rw [g3,hk]
    have ht:s1.tr=s.tr:=congrArg Prod.snd h1.1
    unfold rI nZ
    rw [hk,h1.2,ht]
theorem e3f {m:Msg} (h0:0≤m.dst) (h1:m.dst<s.ks.length):c7g s (i3 c s m):=by
  unfold i3
  split
  · rename_i g;exact c7h h0 h1 g.1
  · exact .inl rfl
theorem e9b (h:MaL c n s) {k i:Int}:c7g s (d8 c s k i):=by
  unfold d8
  split
  · exact .inl rfl
  · rename_i g
    have hb:gN s.n k i=true:=by cases e:gN s.n k i with|true=>rfl|false=>exact absurd (.inl e) g
    have hmem:=h.nt k _ (dQ hb)
    split
    · split<;>exact .inl rfl
    · rename_i hk0
      split
      · exact .inl (a8b _).1
      · rename_i hk1
        split
        · exact .inl rfl
        · rename_i h11
          have hnh:¬cK (aG s.n k i).kind:=by
            rintro (g|g)
            · have:=hmem.2
              unfold c6 at this
              rw [if_pos g] at this;omega
            · exact h11 g
          have hr:=kY hmem.1 hnh
          have:=h.lk
          exact f2p (s1:=dD c (dZ s (aH s.n k i)) (aG s.n k i)) ⟨(a8b _).1.trans rfl,(a8b _).2.trans rfl⟩ (e3f hr.1 (by rw [(a8b _).2];show _<((s.ks.length:Nat):Int);omega))
theorem c7i (h:MaL c n s) (p:Pk):c7g s (bY c s p):=by
  unfold bY
  split
  · exact .inl rfl
  · rename_i g
    split
    · exact e9b h
    · split
      · unfold c7;split<;>exact .inl rfl
      · split
        · rename_i g3
          have:=g3.2
          simp only [inN,decide_eq_true_eq] at this
          exact e9a (om) (om)
        · split
          · unfold eE
            split
            · exact .inl rfl
            · split
              · refine .inl ?_
                have:(a6a s p.a (iO (cO s p.a) (1+p.b.tmod 4))).ks.map (fun k=>(k.l,k.rs))=s.ks.map fun k=>(k.l,k.rs):=by
                  show (s.ks.set _ _).map _=_
                  rw [List.map_set]
                  have:((iO (cO s p.a) (1+p.b.tmod 4)).l,(iO (cO s p.a) (1+p.b.tmod 4)).rs)=(s.ks.map fun k=>(k.l,k.rs)).getD p.a.toNat ([],[]):=by
                    rw [List.getD_eq_getElem?_getD,List.getElem?_map]
                    unfold iO cO
                    rw [List.getD_eq_getElem?_getD]
                    cases s.ks[p.a.toNat]? <;>rfl
                  rw [this,bP]
                show ((a6a s p.a (iO (cO s p.a) (1+p.b.tmod 4))).ks.map _,s.tr)=_
                rw [this];rfl
              · exact .inl rfl
          · exact .inl rfl
structure MaT (c:Cfg) (ps:List (List Op3)) (q:List (List Op3×List Int)×List Com):Prop where
  ln:q.1.map (·.1)=ps
  ct:∀ (i:Nat) k,q.1[i]? =some k→yM q.2 q.2.length (i:Int)=k.2.length
  le:∀ k∈q.1,k.2.length≤k.1.length
  tr:∀ (j:Nat) x,q.2[j]? =some x→(0≤x.core∧x.core<ps.length)∧x.pos=yM q.2 j x.core∧x.pos<((ps.getD x.core.toNat []).length:Int)∧x.op=(ps.getD x.core.toNat []).getD x.pos.toNat .zero
theorem b0h {l:List Com} {x:Com} {j:Nat} (hj:j≤l.length) (k:Int):yM (l++[x]) j k=yM l j k:=by
  unfold yM
  rw [List.take_append_of_le_length hj]
theorem MaT.step {ps:List (List Op3)} {s s':MaS} (h:MaT c ps (rI s)) (hs:c7g s s'):MaT c ps (rI s'):=by
  rcases hs with hs|⟨i,v,h0,h1,h2,h3⟩
  · rw [hs];exact h
  · rw [h3]
    have hi:i.toNat<s.ks.length:=by omega
    have e:cO s i=s.ks[i.toNat]:=by unfold cO;rw [List.getD_eq_getElem?_getD,List.getElem?_eq_getElem hi];rfl
    have hat:(rI s).1[i.toNat]? =some ((cO s i).l,(cO s i).rs):=by
      show (s.ks.map _)[i.toNat]? =_
      rw [List.getElem?_map,List.getElem?_eq_getElem hi,←e];rfl
    have hpl:ps[i.toNat]? =some (cO s i).l:=by
      rw [←h.ln,List.getElem?_map,hat];rfl
    have hpsl:s.ks.length=ps.length:=by rw [←h.ln];show _=((s.ks.map _).map _).length;simp
    have hlt:(cO s i).rs.length<(cO s i).l.length:=by
      have g1:=h.le _ (List.mem_of_getElem? hat)
      have g2:(cO s i).rs.length≠(cO s i).l.length:=by simpa [gH,qA] using h2
      dsimp only at g1;omega
    have hct:=h.ct _ _ hat
    have e1:(rI (nZ s i (bV (cO s i)) v)).1=(rI s).1.set i.toNat ((cO s i).l,(cO s i).rs++[v]):=by
      show (s.ks.set _ _).map _=_
      rw [List.map_set];rfl
    have e2:(rI (nZ s i (bV (cO s i)) v)).2=(rI s).2++[⟨i,(cO s i).rs.length,bV (cO s i),v⟩]:=rfl
    generalize rI (nZ s i (bV (cO s i)) v)=q at *
    obtain ⟨q1,q2⟩:=q
    dsimp only at e1 e2
    subst e1 e2
    have hcnt:∀ k:Int,yM ((rI s).2++[(⟨i,(cO s i).rs.length,bV (cO s i),v⟩:Com)]) ((rI s).2++[(⟨i,(cO s i).rs.length,bV (cO s i),v⟩:Com)]).length k=yM (rI s).2 (rI s).2.length k+if i=k then 1 else 0:=fun k=>by
      rw [List.length_append,List.length_singleton,b3h (by rw [List.length_append];simp),b0h (Nat.le_refl _),List.getElem_append_right (Nat.le_refl _)]
      simp
    refine ⟨?_,fun j k hk=>?_,?_,fun j x hx=>?_⟩
    · dsimp only
      rw [List.map_set,h.ln]
      dsimp only
      have:(cO s i).l=ps.getD i.toNat []:=by rw [List.getD_eq_getElem?_getD,hpl];rfl
      rw [this,bP]
    · dsimp only at hk ⊢
      rw [hcnt]
      rw [List.getElem?_set] at hk
      split at hk
      · rename_i g
        split at hk
        · cases hk
          subst g
          have:((i.toNat:Nat):Int)=i:=by omega
          rw [this] at hct ⊢
          rw [hct,if_pos rfl,List.length_append];rfl
        · cases hk
      · rename_i g
        rw [h.ct j k hk,if_neg (om)];rfl
    · dsimp only
      refine gO (P:=fun k:List Op3×List Int=>k.2.length≤k.1.length) h.le ?_
      dsimp only
      rw [List.length_append];simp;omega
    · dsimp only at hx ⊢
      by_cases hj:j<(rI s).2.length
      · rw [List.getElem?_append_left hj] at hx
        rw [b0h (om)]
        exact h.tr j x hx
      · have hj2:j=(rI s).2.length:=by
          have:=(List.getElem?_eq_some_iff.1 hx).1
          rw [List.length_append] at this
          simp at this;omega
        subst hj2
        rw [List.getElem?_append_right (Nat.le_refl _)] at hx
        simp at hx
        subst hx
        rw [b0h (Nat.le_refl _)]
        have:((i.toNat:Nat):Int)=i:=by omega
        rw [this] at hct
        have hg:ps.getD i.toNat []=(cO s i).l:=by rw [List.getD_eq_getElem?_getD,hpl];rfl
        refine ⟨⟨h0,by dsimp only;omega⟩,by dsimp only;rw [hct],?_,?_⟩
        · dsimp only;rw [hg];omega
        · dsimp only;rw [hg];rfl
theorem MaT.new {ps:List (List Op3)}:MaT c ps (rI (bK c ps)):=by
  refine ⟨?_,fun i k hk=>?_,fun k hk=>?_,fun j x hx=>?_⟩
  · show ((ps.map _).map _).map _=ps
    rw [List.map_map,List.map_map]
    exact List.map_id' ps
  · change ((ps.map _).map _)[i]? =some k at hk
    rw [List.map_map] at hk
    obtain ⟨l,_,rfl⟩:=List.mem_map.1 (List.mem_of_getElem? hk)
    rfl
  · change k∈(ps.map _).map _ at hk
    rw [List.map_map] at hk
    obtain ⟨l,_,rfl⟩:=List.mem_map.1 hk
    exact Nat.zero_le _
  · change ([]:List Com)[j]? =some x at hx
    cases hx
end
end
section
def qM (m:Msg):AM Words:=
  if m.kind=1∨m.kind=2 then .get m.kind m.src else if m.kind=3 then .put m.src m.words else if m.kind=4 then .fwd 1 m.dst m.who m.acks else if m.kind=5 then .fwd 2 m.dst m.who m.acks
  else if m.kind=6 then .inv m.dst m.who else if m.kind=7 then .data m.dst m.own m.acks m.words else if m.kind=8 then .grant m.dst m.acks else if m.kind=9 then .ack m.dst else if m.kind=10 then .pack m.dst else .done m.src
def fE (s:MaS) (r:Int):CaS:=if 0≤r then bI s r else caZ
def b8q (line:Int) (l:List Msg):List Msg:=l.filter fun m=>decide (m.line=line)
def gZ (line:Int) (q:List QE):Option (Int×Int):=(q.find? fun e=>decide (e.m.line=line)&& e.st&& !decide (e.m.kind=3)).map fun e=>(e.m.kind,e.m.src)
def e9c (line:Int) (n:Nets) (q:List QE):List (AM Words):=(b8q line n.l0++oC line q).map qM
def sM (line:Int) (n:Nets) (q:List QE):List (AM Words):=(b8q line (n.l1++n.l2)++oP line q).map qM
def aN (c:Cfg) (s:MaS) (line:Int):HomS:=bU s (cU c line)
def fA (c:Cfg) (s:MaS) (line:Int):LV Words where
  st r:=a0o c (fE s r) line
  wd r:=b6v c (fE s r) line
  ms r:=yB (fE s r) line
  bf r:=b4j (fE s r) line
  rq:=e9c line s.n (aN c s line).q
  fly:=sM line s.n (aN c s line).q
  act:=gZ line (aN c s line).q
  o:=(aR (aN c s line) line).o
  sh x:=cS (aR (aN c s line) line).s x
  mem:=aJ c (aN c s line).ms line
  now:=aJ c (iL c s.tr) line
section
variable {c:Cfg} {line:Int} {n:Nets} {q:List QE}
theorem a1r (m:Msg) (l:List Msg):b8q line (m::l)=if m.line=line then m::b8q line l else b8q line l:=by
  unfold b8q;rw [List.filter_cons];by_cases h:m.line=line<;>simp [h]
theorem a1s {l l':List Msg} (h:l.Perm l'):(b8q line l).Perm (b8q line l'):=h.filter _
theorem b0i {m:Msg} (h:fG c m):c6 m.kind=0∨c6 m.kind=1∨c6 m.kind=2:=by
  have:=h.2.1
  unfold c6
  split
  · exact .inl rfl
  · split
    · exact .inr (.inl rfl)
    · rw [if_pos (om)];exact .inr (.inr rfl)
theorem b3p {m:Msg} (hm:fG c m) (hr:0<cB c n (c6 m.kind)):eJ c n m=a4h n (c6 m.kind) (eY n (c6 m.kind)++[m]):=by
  unfold eJ a4o
  unfold cB at hr
  rw [if_pos hm,if_neg (om)]
theorem b0j {α:Type} {l:List α} {x:α}:(l++[x]).Perm (x::l):=List.perm_append_singleton x l
theorem xC {m:Msg} (hm:fG c m) (hr:0<cB c n (c6 m.kind)):(e9c line (eJ c n m) q).Perm (if m.line=line∧c6 m.kind=0 then qM m::e9c line n q else e9c line n q):=by
  rw [b3p hm hr]
  rcases b0i hm with h|h|h
  · rw [h]
    show ((b8q line (n.l0++[m])++_).map qM).Perm _
    have h1:=(a1s (line:=line) (b0j (l:=n.l0) (x:=m)))
    rw [a1r] at h1
    by_cases hl:m.line=line
    · rw [if_pos hl] at h1
      rw [if_pos ⟨hl,rfl⟩]
      exact (h1.append_right _).map qM
    · rw [if_neg hl] at h1
      rw [if_neg (fun g=>hl g.1)]
      exact (h1.append_right _).map qM
  · rw [h,if_neg (om)];exact List.Perm.refl _
  · rw [h,if_neg (om)];exact List.Perm.refl _
theorem sN {m:Msg} (hm:fG c m) (hr:0<cB c n (c6 m.kind)):(sM line (eJ c n m) q).Perm (if m.line=line∧c6 m.kind≠0 then qM m::sM line n q else sM line n q):=by
  rw [b3p hm hr]
  have key:∀ l:List Msg,l.Perm (m::(n.l1++n.l2))→((b8q line l++oP line q).map qM).Perm (if m.line=line then qM m::sM line n q else sM line n q):=fun l hl=>by
    have h1:=a1s (line:=line) hl
    rw [a1r] at h1
    by_cases hl:m.line=line
    · rw [if_pos hl] at h1 ⊢
      exact (h1.append_right _).map qM
    · rw [if_neg hl] at h1 ⊢
      exact (h1.append_right _).map qM
  rcases b0i hm with h|h|h
  · rw [h,if_neg (om)];exact List.Perm.refl _
  · rw [h]
    have:=key (n.l1++[m]++n.l2) (by rw [List.append_assoc];exact List.perm_middle)
    by_cases hl:m.line=line
    · rw [if_pos ⟨hl,om⟩];rw [if_pos hl] at this;exact this
    · rw [if_neg (fun g=>hl g.1)];rw [if_neg hl] at this;exact this
  · rw [h]
    have:=key (n.l1++(n.l2++[m])) (by rw [←List.append_assoc];exact b0j)
    by_cases hl:m.line=line
    · rw [if_pos ⟨hl,om⟩];rw [if_pos hl] at this;exact this
    · rw [if_neg (fun g=>hl g.1)];rw [if_neg hl] at this;exact this
theorem b3q {l:List Msg} {i:Int} (h:d4w l i=true):l.Perm (e6z .zero l i::oQ l i):=by
  unfold e6z oQ
  rw [h]
  unfold d4w at h
  have h:=of_decide_eq_true h
  have hl:i.toNat<l.length:=by omega
  rw [if_pos rfl,if_pos rfl,List.getD_eq_getElem?_getD,List.getElem?_eq_getElem hl]
  obtain ⟨e,_,e3⟩:=b7c hl
  rw [e3]
  exact (List.Perm.of_eq e).trans List.perm_middle
theorem c0n {k i:Int} (h:gN n k i=true) (hk:rS k=true):(e9c line n q).Perm (if (aG n k i).line=line∧k=0 then qM (aG n k i)::e9c line (aH n k i) q else e9c line (aH n k i) q):=by
  have hp:=b3q h
  rcases mJ hk with rfl|rfl|rfl
  · have h1:=a1s (line:=line) hp
    rw [a1r] at h1
    by_cases hl:(aG n 0 i).line=line
    · rw [if_pos (show (e6z .zero (eY n 0) i).line=line from hl)] at h1
      rw [if_pos ⟨hl,rfl⟩]
      exact (h1.append_right _).map qM
    · rw [if_neg (show ¬(e6z .zero (eY n 0) i).line=line from hl)] at h1
      rw [if_neg (fun g=>hl g.1)]
      exact (h1.append_right _).map qM
  · rw [if_neg (om)];exact List.Perm.refl _
  · rw [if_neg (om)];exact List.Perm.refl _
theorem d0i {k i:Int} (h:gN n k i=true) (hk:rS k=true):(sM line n q).Perm (if (aG n k i).line=line∧k≠0 then qM (aG n k i)::sM line (aH n k i) q else sM line (aH n k i) q):=by
  have hp:=b3q h
  have key:∀ l:List Msg,(n.l1++n.l2).Perm (aG n k i::l)→(sM line n q).Perm (if (aG n k i).line=line then qM (aG n k i)::(b8q line l++oP line q).map qM else (b8q line l++oP line q).map qM):=fun l hl=>by
    have h1:=a1s (line:=line) hl
    rw [a1r] at h1
    by_cases hl:(aG n k i).line=line
    · rw [if_pos hl] at h1 ⊢
      exact (h1.append_right _).map qM
    · rw [if_neg hl] at h1 ⊢
      exact (h1.append_right _).map qM
  rcases mJ hk with rfl|rfl|rfl
  · rw [if_neg (om)];exact List.Perm.refl _
  · have:=key (oQ n.l1 i++n.l2) (hp.append_right _)
    by_cases hl:(aG n 1 i).line=line
    · rw [if_pos ⟨hl,om⟩];rw [if_pos hl] at this;exact this
    · rw [if_neg (fun g=>hl g.1)];rw [if_neg hl] at this;exact this
  · have:=key (n.l1++oQ n.l2 i) ((hp.append_left n.l1).trans List.perm_middle)
    by_cases hl:(aG n 2 i).line=line
    · rw [if_pos ⟨hl,om⟩];rw [if_pos hl] at this;exact this
    · rw [if_neg (fun g=>hl g.1)];rw [if_neg hl] at this;exact this
end
end
section
attribute [local irreducible] Exit.then Exit.inBlock Code.wp WC WO WE WQ V bT vL fP cY eI v8 IntKind.wrap WR Code.rounds WT KO
theorem e3g {F:List HP} {b:Nat}:FnF Tryz.prog 120 [.pointer (some ⟨b,0,none⟩)] [] F (fun r L'=>∃ bx,r= .func (.func 168) #[] #[.pointer (some ⟨bx,0,none⟩)]∧L'=[Cells bx 38 [.pointer (some ⟨b,0,none⟩)]]):=by
  refine FnF.mk' Tryz.func120 rfl rfl Tryz.ntmps120 rfl ?_
  repeat first|refine gd ?_|intro _
  (apply aA rfl rfl bH)
  · exact ⟨_,rfl,rfl⟩
  · exact aB
theorem e3h {b bx b0 b1 b2:Nat} {c:Cfg} {n:Nets} (hn0:n.l0.length≤4096) (hn1:n.l1.length≤4096) (hn2:n.l2.length≤4096):Seq Tryz.prog 168 [.pointer (some ⟨bx,0,none⟩)] [Cells b 94 (nB c b0 b1 b2),bL b0 c.r0 n.l0,bL b1 c.r1 n.l1,bL b2 c.r2 n.l2,Cells bx 38 [.pointer (some ⟨b,0,none⟩)]] ((nY n).map mv):=by
  refine Seq.mk Tryz.func168 rfl Tryz.ntmps168 rfl ?_
  intro l A C hy
  simp only [pO] at hy ⊢
  repeat first|refine gd ?_|intro _
  refine b3v 4 ?_
  repeat first|refine gd ?_|intro _|refine aD @kL ?_
  rename_i p0 q0
  apply aW (E0:=[(0,_),(10,_),(11,_),(15,_),(16,_)]) (fun E0 (i:Nat)=>(17,.int .i64 i)::E0) (fun i=>Own 99 15 (.slice p0 n.l0.length q0) n.l0.length (aC mc n.l0)::Cells b 94 (nB c b0 b1 b2)::bL b0 c.r0 n.l0::bL b1 c.r1 n.l1::bL b2 c.r2 n.l2::Cells bx 38 [.pointer (some ⟨b,0,none⟩)]::A (i)) (fun i=>i≤n.l0.length) (fun i=>n.l0.length-i) 0
  · exact m9
  · exact Nat.zero_le _
  · exact aB
  · intro i hi
    by_cases hlt:i<n.l0.length
    · have hx:i<((nY n).map mv).length:=by simp [nY];omega
      have hxs:((nY n).map mv)[i]=mv n.l0[i]:=by simp [nY,List.getElem_append,hlt]
      have hy1:=hy i hx
      rw [hxs] at hy1
      repeat first|rintro _ _ ⟨rfl,rfl⟩|intro _|refine f1z ?_
      refine jO ?_
      repeat first|rintro _ _ ⟨rfl,rfl⟩|intro _|refine f1z ?_
      refine jO ?_
      repeat first|rintro _ _ ⟨rfl,rfl⟩|intro _|refine f1z ?_
      refine zW ?_
      repeat (refine f1y ?_)
      apply a3c (F:=[Own 99 15 (.slice p0 n.l0.length q0) n.l0.length (aC mc n.l0)]) rfl rfl rfl hy1
      · refine Ent.drop (Ent.trans ?_ nH)
        exact Ent.refl
      · refine yI (M:=Own 99 15 (.slice p0 n.l0.length q0) n.l0.length (aC mc n.l0)::Cells b 94 (nB c b0 b1 b2)::bL b0 c.r0 n.l0::bL b1 c.r1 n.l1::bL b2 c.r2 n.l2::Cells bx 38 [.pointer (some ⟨b,0,none⟩)]::A (i+1)) nH ?_
        repeat (refine f1y ?_)
        refine rR (yJ ?_)
        repeat first|refine gd ?_|intro _
        refine aT (i+1) (om) (om) ?_ Ent.refl
        exact m9
      · refine yI (M:=Own 99 15 (.slice p0 n.l0.length q0) n.l0.length (aC mc n.l0)::C) nH ?_
        repeat (refine f1y ?_)
        refine rR (yJ ?_)
        repeat first|refine gd ?_|intro _
        exact vW rfl rfl (om) (Ent.drop Ent.refl)
    · have hil:i=n.l0.length:=by omega
      subst hil
      repeat first|refine gd ?_|intro _|refine aD @kL ?_
      rename_i p1 q1
      apply aW (E0:=[(0,_),(10,_),(11,_),(15,_),(16,_)]) (fun E0 (i:Nat)=>(17,.int .i64 i)::E0) (fun i=>Own 99 15 (.slice p1 n.l1.length q1) n.l1.length (aC mc n.l1)::Cells b 94 (nB c b0 b1 b2)::bL b0 c.r0 n.l0::bL b1 c.r1 n.l1::bL b2 c.r2 n.l2::Cells bx 38 [.pointer (some ⟨b,0,none⟩)]::A (n.l0.length+i)) (fun i=>i≤n.l1.length) (fun i=>n.l1.length-i) 0
      · exact m9
      · exact Nat.zero_le _
      · simp only [Nat.add_zero];exact aB
      · intro i hi
        by_cases hlt:i<n.l1.length
        · have hx:(n.l0.length+i)<((nY n).map mv).length:=by simp [nY];omega
          have hxs:((nY n).map mv)[n.l0.length+i]=mv n.l1[i]:=by simp [nY,List.getElem_append,hlt,show ¬n.l0.length+i<n.l0.length by omega]
          have hy1:=hy (n.l0.length+i) hx
          rw [hxs] at hy1
          repeat first|rintro _ _ ⟨rfl,rfl⟩|intro _|refine f1z ?_
          refine jO ?_
          repeat first|rintro _ _ ⟨rfl,rfl⟩|intro _|refine f1z ?_
          refine jO ?_
          repeat first|rintro _ _ ⟨rfl,rfl⟩|intro _|refine f1z ?_
          refine zW ?_
          repeat (refine f1y ?_)
          apply a3c (F:=[Own 99 15 (.slice p1 n.l1.length q1) n.l1.length (aC mc n.l1)]) rfl rfl rfl hy1
          · refine Ent.drop (Ent.trans ?_ nH)
            exact Ent.refl
          · refine yI (M:=Own 99 15 (.slice p1 n.l1.length q1) n.l1.length (aC mc n.l1)::Cells b 94 (nB c b0 b1 b2)::bL b0 c.r0 n.l0::bL b1 c.r1 n.l1::bL b2 c.r2 n.l2::Cells bx 38 [.pointer (some ⟨b,0,none⟩)]::A (n.l0.length+i+1)) nH ?_
            repeat (refine f1y ?_)
            refine rR (yJ ?_)
            repeat first|refine gd ?_|intro _
            refine aT (i+1) (om) (om) ?_ Ent.refl
            exact m9
          · refine yI (M:=Own 99 15 (.slice p1 n.l1.length q1) n.l1.length (aC mc n.l1)::C) nH ?_
            repeat (refine f1y ?_)
            refine rR (yJ ?_)
            repeat first|refine gd ?_|intro _
            exact vW rfl rfl (om) (Ent.drop Ent.refl)
        · have hil:i=n.l1.length:=by omega
          subst hil
          repeat first|refine gd ?_|intro _|refine aD @kL ?_
          rename_i p2 q2
          apply aW (E0:=[(0,_),(10,_),(11,_),(15,_),(16,_)]) (fun E0 (i:Nat)=>(17,.int .i64 i)::E0) (fun i=>Own 99 15 (.slice p2 n.l2.length q2) n.l2.length (aC mc n.l2)::Cells b 94 (nB c b0 b1 b2)::bL b0 c.r0 n.l0::bL b1 c.r1 n.l1::bL b2 c.r2 n.l2::Cells bx 38 [.pointer (some ⟨b,0,none⟩)]::A (n.l0.length+n.l1.length+i)) (fun i=>i≤n.l2.length) (fun i=>n.l2.length-i) 0
          · exact m9
          · exact Nat.zero_le _
          · simp only [Nat.add_zero];exact aB
          · intro i hi
            by_cases hlt:i<n.l2.length
            · have hx:(n.l0.length+n.l1.length+i)<((nY n).map mv).length:=by simp [nY];omega
              have hxs:((nY n).map mv)[n.l0.length+n.l1.length+i]=mv n.l2[i]:=by simp [nY,List.getElem_append,hlt,show ¬n.l0.length+n.l1.length+i<n.l0.length by omega,show ¬n.l0.length+n.l1.length+i-n.l0.length<n.l1.length by omega,show n.l0.length+n.l1.length+i-n.l0.length-n.l1.length=i by omega]
              have hy1:=hy (n.l0.length+n.l1.length+i) hx
              rw [hxs] at hy1
              repeat first|rintro _ _ ⟨rfl,rfl⟩|intro _|refine f1z ?_
              refine jO ?_
              repeat first|rintro _ _ ⟨rfl,rfl⟩|intro _|refine f1z ?_
              refine jO ?_
              repeat first|rintro _ _ ⟨rfl,rfl⟩|intro _|refine f1z ?_
              refine zW ?_
              repeat (refine f1y ?_)
              apply a3c (F:=[Own 99 15 (.slice p2 n.l2.length q2) n.l2.length (aC mc n.l2)]) rfl rfl rfl hy1
              · refine Ent.drop (Ent.trans ?_ nH)
                exact Ent.refl
              · refine yI (M:=Own 99 15 (.slice p2 n.l2.length q2) n.l2.length (aC mc n.l2)::Cells b 94 (nB c b0 b1 b2)::bL b0 c.r0 n.l0::bL b1 c.r1 n.l1::bL b2 c.r2 n.l2::Cells bx 38 [.pointer (some ⟨b,0,none⟩)]::A (n.l0.length+n.l1.length+i+1)) nH ?_
                repeat (refine f1y ?_)
                refine rR (yJ ?_)
                repeat first|refine gd ?_|intro _
                refine aT (i+1) (om) (om) ?_ Ent.refl
                exact m9
              · refine yI (M:=Own 99 15 (.slice p2 n.l2.length q2) n.l2.length (aC mc n.l2)::C) nH ?_
                repeat (refine f1y ?_)
                refine rR (yJ ?_)
                repeat first|refine gd ?_|intro _
                exact vW rfl rfl (om) (Ent.drop Ent.refl)
            · have hil:i=n.l2.length:=by omega
              subst hil
              repeat first|refine gd ?_|intro _
              refine b7y rfl rfl ?_
              have hlen:((nY n).map mv).length=n.l0.length+n.l1.length+n.l2.length:=by simp [nY];omega
              rw [hlen]
              exact Ent.drop Ent.refl
theorem a8c {c:Cfg} (h:aF c=true):c.r0≤64∧c.r1≤64∧c.r2≤64:=by
  simp only [aF,gI,Bool.and_eq_true,decide_eq_true_eq] at h
  omega
attribute [local irreducible] WM e0a e7w c5a a9t f1j Code.wpIn
theorem d0j {F:List HP} {b:Nat} {c:Cfg} {n:Nets}:FnF Tryz.prog 62 [.pointer (some ⟨b,0,none⟩)] [nQ b c n] F (fun r L'=>r= .bool (decide (nY n=[]))∧L'=[nQ b c n]):=by
  refine FnF.mkM Tryz.func62 rfl rfl Tryz.ntmps62 rfl ?_
  refine sY fun b0 b1 b2 ⟨hc,hn0,hn1,hn2⟩=>?_
  obtain ⟨r0,r1,r2⟩:=a8c hc
  repeat first|refine gd ?_|intro _|refine aD @e3g ?_
  rename_i bt bx
  apply b4i (J:=fun i=>match i with|0=>Cells bt 4 [.bool false]::F|_+1=>[Fact False]) (Cells b 94 (nB c b0 b1 b2)::bL b0 c.r0 n.l0::bL b1 c.r1 n.l1::bL b2 c.r2 n.l2::Cells bx 38 [.pointer (some ⟨b,0,none⟩)]::Cells bt 4 [.bool false]::F) rfl (k6 Tryz.func168 rfl rfl) (e3h (b:=b) (c:=c) (n:=n) (b0:=b0) (b1:=b1) (b2:=b2) (om) (om) (om))
  · dsimp only [pO];exact aB
  · rfl
  · intro l r D F' i hi hr
    cases i with
    |succ i=>
     exact c9g (M:=[]) (by dsimp only [pO];exact aB)
    |zero=>
     dsimp only [pO]
     repeat first|intro _|refine f5f ?_
     refine c9h hr ?_
     repeat first|intro _|refine f5f ?_
     exact d3b (by exact aB)
  · intro D
    by_cases h:nY n=[]
    · have e0:((nY n).map mv).length=0:=by simp [h]
      rw [e0]
      dsimp only [pO]
      repeat first|intro _|refine f5f ?_
      apply b9r rfl rfl bH
      · exact ⟨by rw [a8o,decide_eq_true h],rfl⟩
      · (apply gY;(focus (exact aB));all_goals exact mZ)
    · have hl:∃ k,((nY n).map mv).length=k+1:=by
        cases e:nY n with
        |nil=>exact absurd e h
        |cons a r=>exact ⟨r.length,by simp⟩
      obtain ⟨k,hk⟩:=hl
      rw [hk]
      exact c2g (M:=[]) (by dsimp only [pO];exact aB)
  · intro D h0
    have h:nY n≠[]:=by rintro h;rw [h] at h0;simp at h0
    repeat first|intro _|refine f5f ?_
    apply b9r rfl rfl bH
    · exact ⟨by rw [a8o,decide_eq_false h],rfl⟩
    · (apply gY;(focus (exact aB));all_goals exact mZ)
end
end Go.Sx
