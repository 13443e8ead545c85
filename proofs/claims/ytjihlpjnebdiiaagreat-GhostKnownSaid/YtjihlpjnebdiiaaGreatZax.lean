/- MaC, Wi2: several of my texts as one. My own work. -/
import Derived.Test.YtjihlpjnebdiiaaGreatZau
import Derived.Test.YtjihlpjnebdiiaaGreatZav
import Derived.Test.YtjihlpjnebdiiaaGreatZaw
set_option linter.unusedVariables false
set_option linter.unusedSectionVars false
set_option linter.unusedSimpArgs false
set_option maxRecDepth 100000
set_option maxHeartbeats 4000000
namespace Go.Sx
open Go Go.Proofs
section
def e7r (c:Cfg) (a:CaS) (k:CoS) (x:Op3):CoS:=if mM c a x=0 then b4y k (pJ c a x) else k
def e7h (c:Cfg) (a:CaS) (k:CoS) (i:Int) (x:Op3) (l:List Com):List Com:=if mM c a x=0 then l++[⟨i,k.rs.length,x,pJ c a x⟩] else l
attribute [local irreducible] Exit.then Exit.inBlock Code.wp WC WO WE WQ V bF tV d3 bW dF uH IntKind.wrap WR Code.rounds WT KO
abbrev MC (b:Nat) (c:Cfg) (odd:Int) (nk na nh nt:Nat) (pk pa ph pt:Option Addr×Nat) (bn:Nat):HP:=Cells b 81 (e7m c odd nk na nh nt pk pa ph pt bn)
abbrev e8t (p:Option Addr×Nat) (l:List Nat):HP:=Own 82 1 (.slice p.1 l.length p.2) l.length (aC a7d l)
abbrev e7i (p:Option Addr×Nat) (l:List Nat):HP:=Own 46 1 (.slice p.1 l.length p.2) l.length (aC a7d l)
abbrev f0l (p:Option Addr×Nat) (l:List Nat):HP:=Own 52 1 (.slice p.1 l.length p.2) l.length (aC a7d l)
abbrev e7s (p:Option Addr×Nat) (l:List Com):HP:=Own 60 6 (.slice p.1 l.length p.2) l.length (aC e7d l)
section
variable {F:List HP} {b:Nat} {c:Cfg} {odd:Int} {nk na nh nt:Nat} {pk pa ph pt:Option Addr×Nat} {bn:Nat}
theorem c0y {Q P:Prop} (k:Q) (h:Hid Q→P:=by
  intro k
  first
  |(refine aG ?_;refine q9 (id:=1) .true (pl:= .p 0 <| .p 1 <| .p 2 <| .p 4 <| .r 3 <| .r 5 <| .e true [(6,.p 7 <| .p 8 <| .p 9 <| .p 10 <| .p 11 <| .p 12 <| .p 13 <| .done)]) k.out)):P:=h ⟨k⟩
theorem b3e {x:Op3} (hw:c.wf) (hx:x.wf):FnF Tryz.prog 105 [.pointer (some ⟨b,0,none⟩),ov x] [MC b c odd nk na nh nt pk pa ph pt bn] F (fun r L'=>r= .int .i64 (c8 c x)∧L'=[MC b c odd nk na nh nt pk pa ph pt bn]):=by
  have hS:=fun F=>yE (F:=F) (c:=c) (a:=x.addr) hw hx.2.1
  refine FnF.mk' Tryz.func105 rfl rfl Tryz.ntmps105 rfl ?_
  repeat first|refine go ?_|intro _|refine c0y ?_|refine cM ?_|refine aD @hS ?_
  (apply aA rfl rfl bB)
  · exact ⟨rfl,rfl⟩
  · exact aB
theorem c4i {x:Op3}:FnF Tryz.prog 112 [ov x] [] F (fun r L'=>r= .int .i64 (cP x)∧L'=[]):=by
  refine FnF.mk' Tryz.func112 rfl rfl Tryz.ntmps112 rfl ?_
  by_cases h:x.kind=1
  · repeat first|refine gd ?_|intro _
    (apply aA rfl rfl bB;(first|exact lW|exact ⟨by simp [cP,h]<;>omega,rfl⟩);exact iC)
  · repeat first|refine gd ?_|intro _
    (apply aA rfl rfl bB;(first|exact lW|exact ⟨by simp [cP,h]<;>omega,rfl⟩);exact iC)
theorem c0z {Q P:Prop} (k:Q) (h:Hid Q→P:=by
  intro k
  first
  |(refine aG ?_;refine q9 (id:=1) .true (pl:= .p 0 <| .p 1 <| .p 2 <| .r 3 <| .r 4 <| .e true [(5,.p 6 <| .p 7 <| .done)]) k.out)):P:=h ⟨k⟩
theorem a6b {n:Nets} {m:Msg} (hw:c.wf):FnF Tryz.prog 108 [.pointer (some ⟨b,0,none⟩),mv m] [MC b c odd nk na nh nt pk pa ph pt bn,oB bn c n] F
    (fun r L'=>r= .bool (decide (xU c n m=0))∧L'=[MC b c odd nk na nh nt pk pa ph pt bn,oB bn c (gH c n m)]):=by
  have hS:=fun F=>d3z (F:=F) (b:=bn) (c:=c) (n:=n) (m:=m) hw
  refine FnF.mk' Tryz.func108 rfl rfl Tryz.ntmps108 rfl ?_
  repeat first|refine go ?_|intro _|refine c0z ?_|refine cM ?_|refine aD @hS ?_
  (apply aA rfl rfl bB)
  · exact ⟨rfl,rfl⟩
  · exact aB
theorem c1a {Q P:Prop} (k:Q) (h:Hid Q→P:=by
  intro k
  first
  |(refine aG ?_;refine q9 (id:=2) .true (pl:= .p 0 <| .p 1 <| .p 2 <| .p 3 <| .p 5 <| .p 6 <| .p 8 <| .r 4 <| .r 7 <| .p 9 <| .e true [(10,.e true [(11,.p 12 <| .p 13 <| .e false [(14,.done)])])]) k.out)):P:=h ⟨k⟩
theorem b0v {kb:List Nat} {i:Nat} {k:CoS} {tr:List Com} {x:Op3} {n:Int} (hi:i<kb.length) (hh:¬k.rs.length=k.l.length) (ht:tr.length≤1000000000000) :
    FnF Tryz.prog 110 [.pointer (some ⟨b,0,none⟩),.int .i64 i,ov x,.int .i64 n] [MC b c odd kb.length na nh tr.length pk pa ph pt bn,e8t pk kb,a8c kb[i] k,e7s pt tr] F
    (fun r L'=>∃ pt':Option Addr×Nat,r= .bool true∧L'=[MC b c odd kb.length na nh (tr++[(⟨i,k.rs.length,x,n⟩:Com)]).length pk pa ph pt' bn,e8t pk kb,a8c kb[i] (b4y k n),e7s pt' (tr++[(⟨i,k.rs.length,x,n⟩:Com)])]):=by
  have hg:=lZ hi
  have hC:=fun F=>b5a (F:=F) (b:=kb[i]) (l:=k.l) (rs:=k.rs) (tr:=k.tr) (n:=n) hh
  refine FnF.mk' Tryz.func110 rfl rfl Tryz.ntmps110 rfl ?_
  repeat first|refine go ?_|intro _|refine c1a ?_|refine cM ?_|refine aD @hC ?_
  rename_i b1 b2 p1 c1
  (apply aA rfl rfl bB)
  · exact ⟨(p1,c1),rfl,rfl⟩
  · simp only [List.length_append,List.length_singleton,e7s,aZ,cG,b4y]
    exact aB
theorem yJ {Q P:Prop} (k:Q) (h:Hid Q→P:=by
  intro k
  first
  |(refine aG ?_;refine q9 (id:=1) .true (pl:= .p 0 <| .p 1 <| .p 2 <| .p 4 <| .r 3 <| .p 5 <| .r 6 <| .r 7 <| .e true [(8,.p 9 <| .p 10 <| .p 11 <| .p 12 <| .p 13 <| .done)]) k.out)):P:=h ⟨k⟩
theorem c4j {kb ab:List Nat} {i:Nat} {k:CoS} {a:CaS} {tr:List Com} {x:Op3} (hi:i<kb.length) (hj:i<ab.length) (hh:¬k.rs.length=k.l.length) (ht:tr.length≤1000000000000) (hx:x.wf) :
    FnF Tryz.prog 106 [.pointer (some ⟨b,0,none⟩),.int .i64 i,ov x] [MC b c odd kb.length ab.length nh tr.length pk pa ph pt bn,e8t pk kb,a8c kb[i] k,e7i pa ab,a8y ab[i] c (i:Int) a,e7s pt tr] F
    (fun r L'=>∃ pt':Option Addr×Nat,r= .bool (decide (mM c a x=0))∧L'=[MC b c odd kb.length ab.length nh (e7h c a k i x tr).length pk pa ph pt' bn,e8t pk kb,a8c kb[i] (e7r c a k x),e7i pa ab,a8y ab[i] c (i:Int) (fG c a x),e7s pt' (e7h c a k i x tr)]):=by
  have hg:=lZ hj
  have hD:=fun F=>e2k (F:=F) (b:=ab[i]) (c:=c) (core:=(i:Int)) (x:=x) (k:=a) hx
  have hC:=fun F n=>b0v (F:=F) (b:=b) (c:=c) (odd:=odd) (na:=ab.length) (nh:=nh) (pk:=pk) (pa:=pa) (ph:=ph) (pt:=pt) (bn:=bn) (kb:=kb) (k:=k) (tr:=tr) (x:=x) (n:=n) hi hh ht
  refine FnF.mk' Tryz.func106 rfl rfl Tryz.ntmps106 rfl ?_
  (first|(refine eN (.slice pa.1 ab.length pa.2) inferInstance (om) ?_;intro _)|(refine eQ (.slice pa.1 ab.length pa.2) inferInstance (om) ?_;intro _))
  by_cases he:mM c a x=0
  · repeat first|refine go ?_|intro _|refine yJ ?_|refine cM ?_|refine aD @hD ?_|refine aD @hC ?_
    rename_i p1
    (apply aA rfl rfl bB)
    · exact ⟨p1,by simp [he],rfl⟩
    · unfold e7h e7r
      rw [if_pos he,if_pos he]
      exact aB
  · repeat first|refine go ?_|intro _|refine yJ ?_|refine cM ?_|refine aD @hD ?_|refine aD @hC ?_
    (apply aA rfl rfl bB)
    · exact ⟨pt,by simp [he],rfl⟩
    · unfold e7h e7r
      rw [if_neg he,if_neg he]
      exact aB
theorem c1b {ab:List Nat} {i:Nat} {a:CaS} {x:Op3} (hj:i<ab.length) (hx:x.wf) (he:¬mM c a x=0) :
    FnF Tryz.prog 106 [.pointer (some ⟨b,0,none⟩),.int .i64 i,ov x] [MC b c odd nk ab.length nh nt pk pa ph pt bn,e7i pa ab,a8y ab[i] c (i:Int) a] F
    (fun r L'=>r= .bool false∧L'=[MC b c odd nk ab.length nh nt pk pa ph pt bn,e7i pa ab,a8y ab[i] c (i:Int) a]):=by
  have hg:=lZ hj
  have hD:=fun F=>e2k (F:=F) (b:=ab[i]) (c:=c) (core:=(i:Int)) (x:=x) (k:=a) hx
  have eK:fG c a x=a:=by unfold fG;rw [if_neg (fun g=>he g.1)]
  simp only [eK] at hD
  refine FnF.mk' Tryz.func106 rfl rfl Tryz.ntmps106 rfl ?_
  (first|(refine eN (.slice pa.1 ab.length pa.2) inferInstance (om) ?_;intro _)|(refine eQ (.slice pa.1 ab.length pa.2) inferInstance (om) ?_;intro _))
  repeat first|refine go ?_|intro _|refine yJ ?_|refine cM ?_|refine aD @hD ?_
  (apply aA rfl rfl bB)
  · exact ⟨rfl,rfl⟩
  · exact aB
theorem tN {Q P:Prop} (k:Q) (h:Hid Q→P:=by
  intro k
  first
  |(refine aG ?_;refine q9 (id:=1) .true (pl:= .p 0 <| .p 1 <| .p 2 <| .p 4 <| .r 3 <| .r 5 <| .p 6 <| .r 7 <| .r 8 <| .e true [(9,.p 10 <| .p 11 <| .p 12 <| .p 13 <| .e false [(14,.e false [(15,.p 16 <| .p 17 <| .done)])]),(14,.e true [(9,.p 10 <| .p 11 <| .p 12 <| .p 13 <| .e false [(15,.p 16 <| .p 17 <| .done)])])]) k.out)):P:=h ⟨k⟩
theorem a2k {ab:List Nat} {i:Nat} {a:CaS} {n:Nets} {m:Msg} (hw:c.wf) (hj:i<ab.length) (hd:m.dst=i) (ho:0≤odd∧odd≤1000000000000) (hg:∀ m∈a.mis,-9223372036854775808≤m.got∧m.got≤9223372036854775806) :
    FnF Tryz.prog 102 [.pointer (some ⟨b,0,none⟩),mv m] [MC b c odd nk ab.length nh nt pk pa ph pt bn,e7i pa ab,a8y ab[i] c (i:Int) a,oB bn c n] F
    (fun r L'=>r= .tuple [].toArray∧L'=[MC b c (if bI c i a m=0 then odd else odd+1) nk ab.length nh nt pk pa ph pt bn,e7i pa ab,a8y ab[i] c (i:Int) (bH c i a m),oB bn c (if dK c i a m then gH c n (gT c i a m) else n)]):=by
  have hgv:=lZ hj
  have hT:=fun F=>d7n (F:=F) (b:=ab[i]) (c:=c) (core:=(i:Int)) (m:=m) (k:=a) hg
  have hS:=fun F n odd=>a6b (F:=F) (b:=b) (c:=c) (odd:=odd) (nk:=nk) (na:=ab.length) (nh:=nh) (nt:=nt) (pk:=pk) (pa:=pa) (ph:=ph) (pt:=pt) (bn:=bn) (n:=n) (m:=gT c i a m) hw
  obtain ⟨mk,ml,ms,md,mw,mac',mo,mww⟩:=m
  dsimp only at hd
  subst hd
  refine FnF.mk' Tryz.func102 rfl rfl Tryz.ntmps102 rfl ?_
  (first|(refine eN (.slice pa.1 ab.length pa.2) inferInstance (om) ?_;intro _)|(refine eQ (.slice pa.1 ab.length pa.2) inferInstance (om) ?_;intro _))
  by_cases he:bI c i a ⟨mk,ml,ms,i,mw,mac',mo,mww⟩=0
  · cases hb:dK c i a ⟨mk,ml,ms,i,mw,mac',mo,mww⟩ with
    |true=>
     simp only [he,hb] at hT
     repeat' (first|refine go ?_|intro _|refine tN ?_|refine cM ?_|refine aD @hT ?_|refine aD @hS ?_|refine mH ?_ ?_|fail)
     all_goals (apply aA rfl rfl bB)
     all_goals first|exact ⟨rfl,rfl⟩|(simp only [he,hb,if_true];exact aB)
    |false=>
     simp only [he,hb] at hT
     repeat' (first|refine go ?_|intro _|refine tN ?_|refine cM ?_|refine aD @hT ?_|refine aD @hS ?_|refine mH ?_ ?_|fail)
     all_goals (apply aA rfl rfl bB)
     all_goals first|exact ⟨rfl,rfl⟩|(simp only [he,hb,if_true,Bool.false_eq_true,if_false];exact aB)
  · cases hb:dK c i a ⟨mk,ml,ms,i,mw,mac',mo,mww⟩ with
    |true=>
     simp only [hb] at hT
     repeat' (first|refine go ?_|intro _|refine tN ?_|refine cM ?_|refine aD @hT ?_|refine aD @hS ?_|refine mH ?_ ?_|fail)
     all_goals (apply aA rfl rfl bB)
     all_goals first|exact ⟨rfl,rfl⟩|(simp only [he,hb,if_true,if_false];exact aB)
    |false=>
     simp only [hb] at hT
     repeat' (first|refine go ?_|intro _|refine tN ?_|refine cM ?_|refine aD @hT ?_|refine aD @hS ?_|refine mH ?_ ?_|fail)
     all_goals (apply aA rfl rfl bB)
     all_goals first|exact ⟨rfl,rfl⟩|(simp only [he,hb,if_false,Bool.false_eq_true];exact aB)
end
end
section
attribute [local irreducible] Exit.then Exit.inBlock Code.wp WC WO WE WQ V bF tV d3 bW dF uH IntKind.wrap WR Code.rounds WT KO
theorem d2o {F:List HP} {c:Cfg} {l:List Com} {v:Value} {addr:Int} (hc:c.wf) (k:RdL F 6 v l.length (aC e7d l)) (hl:l.length≤1099511627776):FnF Tryz.prog 34 [c.val,v,.int .i64 addr] [] F (fun r L'=>r= .int .i64 (c1q c l addr)∧L'=[]):=by
  cases hck:aF c with
  |false=>
   have hN:=fun F=>c1j (F:=F) hc hck
   refine FnF.mk' Tryz.func34 rfl rfl Tryz.ntmps34 rfl ?_
   repeat first|refine gd ?_|intro _|refine aD @hN ?_
   (apply aA rfl rfl bB;(first|exact lW|exact ⟨by simp [c1q,hck]<;>omega,rfl⟩);exact iC)
  |true=>
   have hN:=fun F=>c4z (F:=F) hc hck
   refine FnF.mk' Tryz.func34 rfl rfl Tryz.ntmps34 rfl ?_
   repeat first|refine gd ?_|intro _|refine aD @hN ?_
   rename_i bm
   apply bC (E0:=[(2,_),(7,_),(18,_),(19,_)]) (fun E0 (i:Nat)=>(20,.int .i64 i)::E0) (fun i=>yP bm c (jC c (l.take i))::F) (fun i=>i≤l.length) (fun i=>l.length-i) 0
   · exact nB
   · exact Nat.zero_le _
   · rw [show jC c (l.take 0)=List.replicate (c.words*c.lines).toNat 0 from rfl]
     exact aB
   · intro i hi
     by_cases hlt:i<l.length
     · have hst:=c8i (c:=c) hlt
       have hD:=fun F=>e6t (F:=F) (b:=bm) (c:=c) (ms:=jC c (l.take i)) (x:=l[i].op)
       repeat first|refine gd ?_|intro _|refine aD @hD ?_
       refine aS (i+1) (om) (om) ?_ ?_
       · exact nB
       · rw [hst];exact aB
     · have hil:i=l.length:=by omega
       subst hil
       rw [List.take_length]
       repeat first|refine gd ?_|intro _|refine aD @d3n ?_
       (apply aA rfl rfl bB;(first|exact lW|exact ⟨by simp [c1q,hck]<;>omega,rfl⟩);exact iC)
end
end Go.Sx
