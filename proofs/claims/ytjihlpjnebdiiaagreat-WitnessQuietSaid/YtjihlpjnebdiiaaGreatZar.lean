/- Ca5, MaC, MaT, MaV, Range, Net2: several of my texts as one. My own work. -/
import Derived.Test.YtjihlpjnebdiiaaGreatZr
import Derived.Test.YtjihlpjnebdiiaaGreatZao
import Derived.Test.YtjihlpjnebdiiaaGreatZal
import Derived.Test.YtjihlpjnebdiiaaGreatZap
import Derived.Test.YtjihlpjnebdiiaaGreatZaq
import Derived.Test.YtjihlpjnebdiiaaGreatZam
import Derived.RangeFuncIn
import Derived.RangeFuncLeaves
import Derived.RangeFuncRecord
import Derived.RangeFuncSeq
import Derived.TacticsIn
import Derived.Test.YtjihlpjnebdiiaaGreatGo
import Derived.Test.YtjihlpjnebdiiaaGreatZaa
set_option linter.unusedVariables false
set_option linter.unusedSectionVars false
set_option linter.unusedSimpArgs false
/- What caches do: a message is taken. The program's. My own work. -/
namespace Go.Sx
open Go Go.Proofs
set_option maxRecDepth 100000
set_option maxHeartbeats 4000000
attribute [local irreducible] Go.Exit.then Go.Exit.inBlock Go.Code.wp WC WO WE WQ V LoopQ FnQ Sat Star band bor IntKind.wrap WR Code.rounds WT KO
theorem dr_Ca5_143 {Q P:Prop} (k:Q) (h:Hid Q→P:=by
  intro k
  first
  |(refine is_draw ?_;apply WC_mix (id:=18) .true _ (pl:= .p 0 <| .p 2 <| .p 4 <| .r 1 <| .e true [(3,.e true [(5,.p 6 <| .p 7 <| .done)]),(5,.e false [(3,.p 6 <| .p 7 <| .done)])]);exact mixed;kernel_rfl;kernel_rfl;exact Ent.refl;exact k.out)):P:=h ⟨k⟩
theorem ca_TakeO {F:List HP} {b a f e:Nat} {c:Cfg} {core:Int} {m:Msg} {k:CaS} (hc:checkB c=true) (hg:∀ m∈k.mis,-9223372036854775808≤m.got∧m.got≤9223372036854775806) :
    FnF Tryz.prog 143 [.pointer (some ⟨b,0,none⟩),mv m] (CaO b a f e c core k) F
      (fun r L'=>r= .tuple [mv (caTakeM c core k m),.bool (caTakeB c core k m),.int .i64 (caTakeE c core k m)].toArray∧L'=CaO b a f e c core (caTakeK c core k m)):=by
  have hMay:=fun F=>msg_May (F:=F) (m:=m) (cfg_wf hc)
  by_cases h:caTakeOk c core m=true
  · have h':=h
    simp only [caTakeOk,Bool.and_eq_true,decide_eq_true_eq,Bool.not_eq_true',decide_eq_false_iff_not] at h'
    obtain ⟨⟨h1,h2⟩,h3⟩:=h'
    have hli:I64 m.line:=okLine_i64 (may_line h1)
    have hk:=h1.2.1
    have hkk:m.kind=4∨m.kind=5∨m.kind=6∨m.kind=7∨m.kind=8∨m.kind=9∨m.kind=10:=by
      unfold HomeP at h2;omega
    simp only [decide_eq_true h1] at hMay
    have hHome:=fun F=>msg_Home (F:=F) (k:=m.kind)
    simp only [decide_eq_false h2] at hHome
    have hS:=fun F=>ca_fwdSO (F:=F) (b:=b) (a:=a) (f:=f) (e:=e) (core:=core) (m:=m) (k:=k) hc hli
    have hM:=fun F=>ca_fwdMO (F:=F) (b:=b) (a:=a) (f:=f) (e:=e) (core:=core) (m:=m) (k:=k) hc hli
    have hI:=fun F=>ca_invO (F:=F) (b:=b) (a:=a) (f:=f) (e:=e) (core:=core) (m:=m) (k:=k) hc hli
    have hD:=fun F=>ca_dataO (F:=F) (b:=b) (a:=a) (f:=f) (e:=e) (core:=core) (m:=m) (k:=k) hc hli
    have hG:=fun F=>ca_grantO (F:=F) (b:=b) (a:=a) (f:=f) (e:=e) (core:=core) (m:=m) (k:=k) hc hli
    have hA:=fun F=>ca_ackO (F:=F) (b:=b) (a:=a) (f:=f) (e:=e) (core:=core) (m:=m) (k:=k) hc hli hg
    have hP:=fun F=>ca_putAckO (F:=F) (b:=b) (a:=a) (f:=f) (e:=e) (c:=c) (core:=core) (m:=m) (k:=k) hc
    unfold caTakeM caTakeB caTakeE caTakeK
    rcases hkk with g|g|g|g|g|g|g<;>simp only [h,g,if_true,Int.reduceEq,if_false,or_true,or_false,Int.reduceLE,and_true,and_false,decide_false,true_or,false_or]
    · refine FnF.mk' Tryz.func143 rfl rfl Tryz.ntmps143 rfl ?_
      repeat' (first|refine go ?_|intro _|refine dr_Ca5_143 ?_|refine drq ?_|refine cal @hMay ?_|refine cal @hHome ?_|refine cal @hS ?_|refine spl ?_ ?_|fail)
      all_goals exact fin0
    · refine FnF.mk' Tryz.func143 rfl rfl Tryz.ntmps143 rfl ?_
      repeat' (first|refine go ?_|intro _|refine dr_Ca5_143 ?_|refine drq ?_|refine cal @hMay ?_|refine cal @hHome ?_|refine cal @hM ?_|refine spl ?_ ?_|fail)
      all_goals exact fin0
    · refine FnF.mk' Tryz.func143 rfl rfl Tryz.ntmps143 rfl ?_
      repeat' (first|refine go ?_|intro _|refine dr_Ca5_143 ?_|refine drq ?_|refine cal @hMay ?_|refine cal @hHome ?_|refine cal @hI ?_|refine spl ?_ ?_|fail)
      all_goals exact fin0
    · refine FnF.mk' Tryz.func143 rfl rfl Tryz.ntmps143 rfl ?_
      repeat' (first|refine go ?_|intro _|refine dr_Ca5_143 ?_|refine drq ?_|refine cal @hMay ?_|refine cal @hHome ?_|refine cal @hD ?_|refine spl ?_ ?_|fail)
      all_goals exact fin0
    · refine FnF.mk' Tryz.func143 rfl rfl Tryz.ntmps143 rfl ?_
      repeat' (first|refine go ?_|intro _|refine dr_Ca5_143 ?_|refine drq ?_|refine cal @hMay ?_|refine cal @hHome ?_|refine cal @hG ?_|refine spl ?_ ?_|fail)
      all_goals exact fin0
    · refine FnF.mk' Tryz.func143 rfl rfl Tryz.ntmps143 rfl ?_
      repeat' (first|refine go ?_|intro _|refine dr_Ca5_143 ?_|refine drq ?_|refine cal @hMay ?_|refine cal @hHome ?_|refine cal @hA ?_|refine spl ?_ ?_|fail)
      all_goals exact fin0
    · refine FnF.mk' Tryz.func143 rfl rfl Tryz.ntmps143 rfl ?_
      repeat' (first|refine go ?_|intro _|refine dr_Ca5_143 ?_|refine drq ?_|refine cal @hMay ?_|refine cal @hHome ?_|refine cal @hP ?_|refine spl ?_ ?_|fail)
      all_goals exact fin0
  · have e1:caTakeE c core k m=1:=if_neg h
    have e2:caTakeB c core k m=false:=by unfold caTakeB;rw [e1];simp
    have e3:caTakeM c core k m= .zero:=if_neg h
    have e4:caTakeK c core k m=k:=if_neg h
    rw [e1,e2,e3,e4]
    by_cases h1:MayP c m
    · simp only [decide_eq_true h1] at hMay
      by_cases h2:HomeP m.kind
      · have hHome:=fun F=>msg_Home (F:=F) (k:=m.kind)
        simp only [decide_eq_true h2] at hHome
        refine FnF.mk' Tryz.func143 rfl rfl Tryz.ntmps143 rfl ?_
        repeat' (first|refine go ?_|intro _|refine dr_Ca5_143 ?_|refine drq ?_|refine cal @hMay ?_|refine cal @hHome ?_|refine spl ?_ ?_|fail)
        all_goals exact fin0
      · have hHome:=fun F=>msg_Home (F:=F) (k:=m.kind)
        simp only [decide_eq_false h2] at hHome
        have h3:¬m.dst=core:=fun h3=>h (by simp [caTakeOk,h1,h2,h3])
        refine FnF.mk' Tryz.func143 rfl rfl Tryz.ntmps143 rfl ?_
        repeat' (first|refine go ?_|intro _|refine dr_Ca5_143 ?_|refine drq ?_|refine cal @hMay ?_|refine cal @hHome ?_|refine spl ?_ ?_|fail)
        all_goals exact fin0
    · simp only [decide_eq_false h1] at hMay
      refine FnF.mk' Tryz.func143 rfl rfl Tryz.ntmps143 rfl ?_
      repeat' (first|refine go ?_|intro _|refine dr_Ca5_143 ?_|refine drq ?_|refine cal @hMay ?_|refine spl ?_ ?_|fail)
      all_goals exact fin0
theorem ca_Take {F:List HP} {b:Nat} {c:Cfg} {core:Int} {m:Msg} {k:CaS} (hg:∀ m∈k.mis,-9223372036854775808≤m.got∧m.got≤9223372036854775806) :
    FnF Tryz.prog 143 [.pointer (some ⟨b,0,none⟩),mv m] [CaP b c core k] F
      (fun r L'=>r= .tuple [mv (caTakeM c core k m),.bool (caTakeB c core k m),.int .i64 (caTakeE c core k m)].toArray∧L'=[CaP b c core (caTakeK c core k m)]):=
  ca_close (fun a f e hf=>ca_TakeO hf.1 hg) (enters_of Tryz.func143 rfl rfl)
end Go.Sx

/- What a machine does: its parts. My own work. -/
namespace Go.Sx
open Go Go.Proofs
def doK (c:Cfg) (a:CaS) (k:CoS) (x:Op3):CoS:=if caDoE c a x=0 then coCom k (caDoV c a x) else k
def doT (c:Cfg) (a:CaS) (k:CoS) (i:Int) (x:Op3) (l:List Com):List Com:=if caDoE c a x=0 then l++[⟨i,k.rs.length,x,caDoV c a x⟩] else l
set_option maxRecDepth 100000
set_option maxHeartbeats 4000000
attribute [local irreducible] Go.Exit.then Go.Exit.inBlock Go.Code.wp WC WO WE WQ V LoopQ FnQ Sat Star band bor IntKind.wrap WR Code.rounds WT KO
abbrev MC (b:Nat) (c:Cfg) (odd:Int) (nk na nh nt:Nat) (pk pa ph pt:Option Addr×Nat) (bn:Nat):HP:=Cells b 81 (mac c odd nk na nh nt pk pa ph pt bn)
abbrev OwK (p:Option Addr×Nat) (l:List Nat):HP:=Own 82 1 (.slice p.1 l.length p.2) l.length (flat pvc l)
abbrev OwA (p:Option Addr×Nat) (l:List Nat):HP:=Own 46 1 (.slice p.1 l.length p.2) l.length (flat pvc l)
abbrev OwH (p:Option Addr×Nat) (l:List Nat):HP:=Own 52 1 (.slice p.1 l.length p.2) l.length (flat pvc l)
abbrev OwT (p:Option Addr×Nat) (l:List Com):HP:=Own 60 6 (.slice p.1 l.length p.2) l.length (flat cmc l)
section
variable {F:List HP} {b:Nat} {c:Cfg} {odd:Int} {nk na nh nt:Nat} {pk pa ph pt:Option Addr×Nat} {bn:Nat}
theorem dr_MaC_105 {Q P:Prop} (k:Q) (h:Hid Q→P:=by
  intro k
  first
  |(refine is_draw ?_;apply WC_mix (id:=1) .true _ (pl:= .p 0 <| .p 1 <| .p 2 <| .p 4 <| .r 3 <| .r 5 <| .e true [(6,.p 7 <| .p 8 <| .p 9 <| .p 10 <| .p 11 <| .p 12 <| .p 13 <| .done)]);exact mixed;kernel_rfl;kernel_rfl;exact Ent.refl;exact k.out)):P:=h ⟨k⟩
theorem ma_line {x:Op3} (hw:c.wf) (hx:x.wf):FnF Tryz.prog 105 [.pointer (some ⟨b,0,none⟩),ov x] [MC b c odd nk na nh nt pk pa ph pt bn] F (fun r L'=>r= .int .i64 (maLine c x)∧L'=[MC b c odd nk na nh nt pk pa ph pt bn]):=by
  have hS:=fun F=>split_Addr (F:=F) (c:=c) (a:=x.addr) hw hx.2.1
  refine FnF.mk' Tryz.func105 rfl rfl Tryz.ntmps105 rfl ?_
  repeat (first|refine go ?_|intro _|refine dr_MaC_105 ?_|refine drq ?_|refine cal @hS ?_)
  (apply WE_ret rfl rfl zqR)
  · exact ⟨rfl,rfl⟩
  · exact entu0
theorem ma_kind {x:Op3}:FnF Tryz.prog 112 [ov x] [] F (fun r L'=>r= .int .i64 (kindOf x)∧L'=[]):=by
  refine FnF.mk' Tryz.func112 rfl rfl Tryz.ntmps112 rfl ?_
  by_cases h:x.kind=1
  · repeat (first|refine gd ?_|intro _)
    (apply WE_ret rfl rfl zqR;(first|exact zqL|exact ⟨by simp [kindOf,h]<;>omega,rfl⟩);exact zqN)
  · repeat (first|refine gd ?_|intro _)
    (apply WE_ret rfl rfl zqR;(first|exact zqL|exact ⟨by simp [kindOf,h]<;>omega,rfl⟩);exact zqN)
theorem dr_MaC_108 {Q P:Prop} (k:Q) (h:Hid Q→P:=by
  intro k
  first
  |(refine is_draw ?_;apply WC_mix (id:=1) .true _ (pl:= .p 0 <| .p 1 <| .p 2 <| .r 3 <| .r 4 <| .e true [(5,.p 6 <| .p 7 <| .done)]);exact mixed;kernel_rfl;kernel_rfl;exact Ent.refl;exact k.out)):P:=h ⟨k⟩
theorem ma_send {n:Nets} {m:Msg} (hw:c.wf):FnF Tryz.prog 108 [.pointer (some ⟨b,0,none⟩),mv m] [MC b c odd nk na nh nt pk pa ph pt bn,NetP bn c n] F
    (fun r L'=>r= .bool (decide (nsendE c n m=0))∧L'=[MC b c odd nk na nh nt pk pa ph pt bn,NetP bn c (nsendN c n m)]):=by
  have hS:=fun F=>net_Send (F:=F) (b:=bn) (c:=c) (n:=n) (m:=m) hw
  refine FnF.mk' Tryz.func108 rfl rfl Tryz.ntmps108 rfl ?_
  repeat (first|refine go ?_|intro _|refine dr_MaC_108 ?_|refine drq ?_|refine cal @hS ?_)
  (apply WE_ret rfl rfl zqR)
  · exact ⟨rfl,rfl⟩
  · exact entu0
theorem dr_MaC_110 {Q P:Prop} (k:Q) (h:Hid Q→P:=by
  intro k
  first
  |(refine is_draw ?_;apply WC_mix (id:=2) .true _ (pl:= .p 0 <| .p 1 <| .p 2 <| .p 3 <| .p 5 <| .p 6 <| .p 8 <| .r 4 <| .r 7 <| .p 9 <| .e true [(10,.e true [(11,.p 12 <| .p 13 <| .e false [(14,.done)])])]);exact mixed;kernel_rfl;kernel_rfl;exact Ent.refl;exact k.out)):P:=h ⟨k⟩
theorem ma_commit {kb:List Nat} {i:Nat} {k:CoS} {tr:List Com} {x:Op3} {n:Int} (hi:i<kb.length) (hh:¬k.rs.length=k.l.length) (ht:tr.length≤1000000000000) :
    FnF Tryz.prog 110 [.pointer (some ⟨b,0,none⟩),.int .i64 i,ov x,.int .i64 n] [MC b c odd kb.length na nh tr.length pk pa ph pt bn,OwK pk kb,corK kb[i] k,OwT pt tr] F
    (fun r L'=>∃ pt':Option Addr×Nat,r= .bool true∧L'=[MC b c odd kb.length na nh (tr++[(⟨i,k.rs.length,x,n⟩:Com)]).length pk pa ph pt' bn,OwK pk kb,corK kb[i] (coCom k n),OwT pt' (tr++[(⟨i,k.rs.length,x,n⟩:Com)])]):=by
  have hg:=pv_get hi
  have hC:=fun F=>core_Commit (F:=F) (b:=kb[i]) (l:=k.l) (rs:=k.rs) (tr:=k.tr) (n:=n) hh
  refine FnF.mk' Tryz.func110 rfl rfl Tryz.ntmps110 rfl ?_
  repeat (first|refine go ?_|intro _|refine dr_MaC_110 ?_|refine drq ?_|refine cal @hC ?_)
  rename_i b1 b2 p1 c1
  (apply WE_ret rfl rfl zqR)
  · exact ⟨(p1,c1),rfl,rfl⟩
  · simp only [List.length_append,List.length_singleton,OwT,flat_append,flat_one,coCom]
    exact entu0
theorem dr_MaC_106 {Q P:Prop} (k:Q) (h:Hid Q→P:=by
  intro k
  first
  |(refine is_draw ?_;apply WC_mix (id:=1) .true _ (pl:= .p 0 <| .p 1 <| .p 2 <| .p 4 <| .r 3 <| .p 5 <| .r 6 <| .r 7 <| .e true [(8,.p 9 <| .p 10 <| .p 11 <| .p 12 <| .p 13 <| .done)]);exact mixed;kernel_rfl;kernel_rfl;exact Ent.refl;exact k.out)):P:=h ⟨k⟩
theorem ma_does {kb ab:List Nat} {i:Nat} {k:CoS} {a:CaS} {tr:List Com} {x:Op3} (hi:i<kb.length) (hj:i<ab.length) (hh:¬k.rs.length=k.l.length) (ht:tr.length≤1000000000000) (hx:x.wf) :
    FnF Tryz.prog 106 [.pointer (some ⟨b,0,none⟩),.int .i64 i,ov x] [MC b c odd kb.length ab.length nh tr.length pk pa ph pt bn,OwK pk kb,corK kb[i] k,OwA pa ab,CaP ab[i] c (i:Int) a,OwT pt tr] F
    (fun r L'=>∃ pt':Option Addr×Nat,r= .bool (decide (caDoE c a x=0))∧L'=[MC b c odd kb.length ab.length nh (doT c a k i x tr).length pk pa ph pt' bn,OwK pk kb,corK kb[i] (doK c a k x),OwA pa ab,CaP ab[i] c (i:Int) (caDoK c a x),OwT pt' (doT c a k i x tr)]):=by
  have hg:=pv_get hj
  have hD:=fun F=>ca_Do (F:=F) (b:=ab[i]) (c:=c) (core:=(i:Int)) (x:=x) (k:=a) hx
  have hC:=fun F n=>ma_commit (F:=F) (b:=b) (c:=c) (odd:=odd) (na:=ab.length) (nh:=nh) (pk:=pk) (pa:=pa) (ph:=ph) (pt:=pt) (bn:=bn) (kb:=kb) (k:=k) (tr:=tr) (x:=x) (n:=n) hi hh ht
  refine FnF.mk' Tryz.func106 rfl rfl Tryz.ntmps106 rfl ?_
  (first|(refine WO_some (.slice pa.1 ab.length pa.2) inferInstance (by omega) ?_;intro _)|(refine WC_some (.slice pa.1 ab.length pa.2) inferInstance (by omega) ?_;intro _))
  by_cases he:caDoE c a x=0
  · repeat (first|refine go ?_|intro _|refine dr_MaC_106 ?_|refine drq ?_|refine cal @hD ?_|refine cal @hC ?_)
    rename_i p1
    (apply WE_ret rfl rfl zqR)
    · exact ⟨p1,by simp [he],rfl⟩
    · unfold doT doK
      rw [if_pos he,if_pos he]
      exact entu0
  · repeat (first|refine go ?_|intro _|refine dr_MaC_106 ?_|refine drq ?_|refine cal @hD ?_|refine cal @hC ?_)
    (apply WE_ret rfl rfl zqR)
    · exact ⟨pt,by simp [he],rfl⟩
    · unfold doT doK
      rw [if_neg he,if_neg he]
      exact entu0
theorem ma_does_no {ab:List Nat} {i:Nat} {a:CaS} {x:Op3} (hj:i<ab.length) (hx:x.wf) (he:¬caDoE c a x=0) :
    FnF Tryz.prog 106 [.pointer (some ⟨b,0,none⟩),.int .i64 i,ov x] [MC b c odd nk ab.length nh nt pk pa ph pt bn,OwA pa ab,CaP ab[i] c (i:Int) a] F
    (fun r L'=>r= .bool false∧L'=[MC b c odd nk ab.length nh nt pk pa ph pt bn,OwA pa ab,CaP ab[i] c (i:Int) a]):=by
  have hg:=pv_get hj
  have hD:=fun F=>ca_Do (F:=F) (b:=ab[i]) (c:=c) (core:=(i:Int)) (x:=x) (k:=a) hx
  have eK:caDoK c a x=a:=by unfold caDoK;rw [if_neg (fun g=>he g.1)]
  simp only [eK] at hD
  refine FnF.mk' Tryz.func106 rfl rfl Tryz.ntmps106 rfl ?_
  (first|(refine WO_some (.slice pa.1 ab.length pa.2) inferInstance (by omega) ?_;intro _)|(refine WC_some (.slice pa.1 ab.length pa.2) inferInstance (by omega) ?_;intro _))
  repeat (first|refine go ?_|intro _|refine dr_MaC_106 ?_|refine drq ?_|refine cal @hD ?_)
  (apply WE_ret rfl rfl zqR)
  · exact ⟨rfl,rfl⟩
  · exact entu0
theorem dr_MaC_102 {Q P:Prop} (k:Q) (h:Hid Q→P:=by
  intro k
  first
  |(refine is_draw ?_;apply WC_mix (id:=1) .true _ (pl:= .p 0 <| .p 1 <| .p 2 <| .p 4 <| .r 3 <| .r 5 <| .p 6 <| .r 7 <| .r 8 <| .e true [(9,.p 10 <| .p 11 <| .p 12 <| .p 13 <| .e false [(14,.e false [(15,.p 16 <| .p 17 <| .done)])]),(14,.e true [(9,.p 10 <| .p 11 <| .p 12 <| .p 13 <| .e false [(15,.p 16 <| .p 17 <| .done)])])]);exact mixed;kernel_rfl;kernel_rfl;exact Ent.refl;exact k.out)):P:=h ⟨k⟩
theorem ma_answered {ab:List Nat} {i:Nat} {a:CaS} {n:Nets} {m:Msg} (hw:c.wf) (hj:i<ab.length) (hd:m.dst=i) (ho:0≤odd∧odd≤1000000000000) (hg:∀ m∈a.mis,-9223372036854775808≤m.got∧m.got≤9223372036854775806) :
    FnF Tryz.prog 102 [.pointer (some ⟨b,0,none⟩),mv m] [MC b c odd nk ab.length nh nt pk pa ph pt bn,OwA pa ab,CaP ab[i] c (i:Int) a,NetP bn c n] F
    (fun r L'=>r= .tuple [].toArray∧L'=[MC b c (if caTakeE c i a m=0 then odd else odd+1) nk ab.length nh nt pk pa ph pt bn,OwA pa ab,CaP ab[i] c (i:Int) (caTakeK c i a m),NetP bn c (if caTakeB c i a m then nsendN c n (caTakeM c i a m) else n)]):=by
  have hgv:=pv_get hj
  have hT:=fun F=>ca_Take (F:=F) (b:=ab[i]) (c:=c) (core:=(i:Int)) (m:=m) (k:=a) hg
  have hS:=fun F n odd=>ma_send (F:=F) (b:=b) (c:=c) (odd:=odd) (nk:=nk) (na:=ab.length) (nh:=nh) (nt:=nt) (pk:=pk) (pa:=pa) (ph:=ph) (pt:=pt) (bn:=bn) (n:=n) (m:=caTakeM c i a m) hw
  obtain ⟨mk,ml,ms,md,mw,mac',mo,mww⟩:=m
  dsimp only at hd
  subst hd
  refine FnF.mk' Tryz.func102 rfl rfl Tryz.ntmps102 rfl ?_
  (first|(refine WO_some (.slice pa.1 ab.length pa.2) inferInstance (by omega) ?_;intro _)|(refine WC_some (.slice pa.1 ab.length pa.2) inferInstance (by omega) ?_;intro _))
  by_cases he:caTakeE c i a ⟨mk,ml,ms,i,mw,mac',mo,mww⟩=0
  · cases hb:caTakeB c i a ⟨mk,ml,ms,i,mw,mac',mo,mww⟩ with
    |true=>
     simp only [he,hb] at hT
     repeat' (first|refine go ?_|intro _|refine dr_MaC_102 ?_|refine drq ?_|refine cal @hT ?_|refine cal @hS ?_|refine spl ?_ ?_|fail)
     all_goals (apply WE_ret rfl rfl zqR)
     all_goals first|exact ⟨rfl,rfl⟩|(simp only [he,hb,if_true];exact entu0)
    |false=>
     simp only [he,hb] at hT
     repeat' (first|refine go ?_|intro _|refine dr_MaC_102 ?_|refine drq ?_|refine cal @hT ?_|refine cal @hS ?_|refine spl ?_ ?_|fail)
     all_goals (apply WE_ret rfl rfl zqR)
     all_goals first|exact ⟨rfl,rfl⟩|(simp only [he,hb,if_true,Bool.false_eq_true,if_false];exact entu0)
  · cases hb:caTakeB c i a ⟨mk,ml,ms,i,mw,mac',mo,mww⟩ with
    |true=>
     simp only [hb] at hT
     repeat' (first|refine go ?_|intro _|refine dr_MaC_102 ?_|refine drq ?_|refine cal @hT ?_|refine cal @hS ?_|refine spl ?_ ?_|fail)
     all_goals (apply WE_ret rfl rfl zqR)
     all_goals first|exact ⟨rfl,rfl⟩|(simp only [he,hb,if_true,if_false];exact entu0)
    |false=>
     simp only [hb] at hT
     repeat' (first|refine go ?_|intro _|refine dr_MaC_102 ?_|refine drq ?_|refine cal @hT ?_|refine cal @hS ?_|refine spl ?_ ?_|fail)
     all_goals (apply WE_ret rfl rfl zqR)
     all_goals first|exact ⟨rfl,rfl⟩|(simp only [he,hb,if_false,Bool.false_eq_true];exact entu0)
end
end Go.Sx

/- Traces of machines have their programs' order. My own work. -/
namespace Go.Sx
open Go Go.Proofs
def maPj (s:MaS):List (List Op3×List Int)×List Com:=(s.ks.map fun k=>(k.l,k.rs),s.tr)
def MaMv (s s':MaS):Prop:=maPj s'=maPj s∨∃ (i:Int) (v:Int),0≤i∧i<s.ks.length∧coHas (maK s i)=true∧maPj s'=maPj (maCom s i (coOp (maK s i)) v)
section
variable {c:Cfg} {n:Nat} {s:MaS}
theorem ms_does {i:Int} (h0:0≤i) (h1:i<s.ks.length) (hh:coHas (maK s i)=true):MaMv s (maDoes c s i (coOp (maK s i))):=by
  unfold maDoes
  split
  · exact .inr ⟨i,_,h0,h1,hh,rfl⟩
  · exact .inl rfl
theorem ms_act {i w:Int} (h0:0≤i) (h1:i<s.ks.length):MaMv s (maActS c s i w):=by
  unfold maActS
  split
  · exact .inl rfl
  · split
    · exact .inl rfl
    · rename_i hh
      have hh:coHas (maK s i)=true:=by simpa using hh
      split
      · split
        · exact .inr ⟨i,_,h0,h1,hh,rfl⟩
        · exact .inl rfl
      · split
        · exact ms_does h0 h1 hh
        · split
          · exact .inl rfl
          · split
            · exact .inl rfl
            · split
              · unfold maEv;split<;>exact .inl rfl
              · exact .inl rfl
theorem pj_take (m:Msg):maPj (maTake c s m)=maPj s∧(maTake c s m).ks=s.ks:=by unfold maTake;split<;>exact ⟨rfl,rfl⟩
theorem ms_of {s s1 s2:MaS} (h1:maPj s1=maPj s∧s1.ks=s.ks) (h2:MaMv s1 s2):MaMv s s2:=by
  rcases h2 with h2|⟨i,v,g0,g1,g2,g3⟩
  · exact .inl (h2.trans h1.1)
  · have hk:maK s1 i=maK s i:=by unfold maK;rw [h1.2]
    refine .inr ⟨i,v,g0,by rw [←h1.2];exact g1,by rw [←hk];exact g2,?_⟩
    rw [g3,hk]
    have ht:s1.tr=s.tr:=congrArg Prod.snd h1.1
    unfold maPj maCom
    rw [hk,h1.2,ht]
theorem ms_then {m:Msg} (h0:0≤m.dst) (h1:m.dst<s.ks.length):MaMv s (maThen c s m):=by
  unfold maThen
  split
  · rename_i g;exact ms_does h0 h1 g.1
  · exact .inl rfl
theorem ms_del (h:MaL c n s) {k i:Int}:MaMv s (maDelS c s k i):=by
  unfold maDelS
  split
  · exact .inl rfl
  · rename_i g
    have hb:natB s.n k i=true:=by cases e:natB s.n k i with|true=>rfl|false=>exact absurd (.inl e) g
    have hmem:=h.nt k _ (nat_mem hb)
    split
    · split<;>exact .inl rfl
    · rename_i hk0
      split
      · exact .inl (pj_take _).1
      · rename_i hk1
        split
        · exact .inl rfl
        · rename_i h11
          have hnh:¬HomeP (natM s.n k i).kind:=by
            rintro (g|g)
            · have:=hmem.2
              unfold netK at this
              rw [if_pos g] at this;omega
            · exact h11 g
          have hr:=may_core hmem.1 hnh
          have:=h.lk
          exact ms_of (s1:=maTake c (maNs s (ntakeN s.n k i)) (natM s.n k i)) ⟨(pj_take _).1.trans rfl,(pj_take _).2.trans rfl⟩ (ms_then hr.1 (by rw [(pj_take _).2];show _<((s.ks.length:Nat):Int);omega))
theorem ms_pick (h:MaL c n s) (p:Pk):MaMv s (maPick c s p):=by
  unfold maPick
  split
  · exact .inl rfl
  · rename_i g
    split
    · exact ms_del h
    · split
      · unfold maWorkS;split<;>exact .inl rfl
      · split
        · rename_i g3
          have:=g3.2
          simp only [inN,decide_eq_true_eq] at this
          exact ms_act (by omega) (by omega)
        · split
          · unfold maLookS
            split
            · exact .inl rfl
            · split
              · refine .inl ?_
                have:(maKs s p.a (coTry (maK s p.a) (1+p.b.tmod 4))).ks.map (fun k=>(k.l,k.rs))=s.ks.map fun k=>(k.l,k.rs):=by
                  show (s.ks.set _ _).map _=_
                  rw [List.map_set]
                  have:((coTry (maK s p.a) (1+p.b.tmod 4)).l,(coTry (maK s p.a) (1+p.b.tmod 4)).rs)=(s.ks.map fun k=>(k.l,k.rs)).getD p.a.toNat ([],[]):=by
                    rw [List.getD_eq_getElem?_getD,List.getElem?_map]
                    unfold coTry maK
                    rw [List.getD_eq_getElem?_getD]
                    cases s.ks[p.a.toNat]? <;>rfl
                  rw [this,set_getD]
                show ((maKs s p.a (coTry (maK s p.a) (1+p.b.tmod 4))).ks.map _,s.tr)=_
                rw [this];rfl
              · exact .inl rfl
          · exact .inl rfl
structure MaT (c:Cfg) (ps:List (List Op3)) (q:List (List Op3×List Int)×List Com):Prop where
  ln:q.1.map (·.1)=ps
  ct:∀ (i:Nat) k,q.1[i]? =some k→cntC q.2 q.2.length (i:Int)=k.2.length
  le:∀ k∈q.1,k.2.length≤k.1.length
  tr:∀ (j:Nat) x,q.2[j]? =some x→(0≤x.core∧x.core<ps.length)∧x.pos=cntC q.2 j x.core∧x.pos<((ps.getD x.core.toNat []).length:Int)∧x.op=(ps.getD x.core.toNat []).getD x.pos.toNat .zero
theorem cntC_app {l:List Com} {x:Com} {j:Nat} (hj:j≤l.length) (k:Int):cntC (l++[x]) j k=cntC l j k:=by
  unfold cntC
  rw [List.take_append_of_le_length hj]
theorem MaT.step {ps:List (List Op3)} {s s':MaS} (h:MaT c ps (maPj s)) (hs:MaMv s s'):MaT c ps (maPj s'):=by
  rcases hs with hs|⟨i,v,h0,h1,h2,h3⟩
  · rw [hs];exact h
  · rw [h3]
    have hi:i.toNat<s.ks.length:=by omega
    have e:maK s i=s.ks[i.toNat]:=by unfold maK;rw [List.getD_eq_getElem?_getD,List.getElem?_eq_getElem hi];rfl
    have hat:(maPj s).1[i.toNat]? =some ((maK s i).l,(maK s i).rs):=by
      show (s.ks.map _)[i.toNat]? =_
      rw [List.getElem?_map,List.getElem?_eq_getElem hi,←e];rfl
    have hpl:ps[i.toNat]? =some (maK s i).l:=by
      rw [←h.ln,List.getElem?_map,hat];rfl
    have hpsl:s.ks.length=ps.length:=by rw [←h.ln];show _=((s.ks.map _).map _).length;simp
    have hlt:(maK s i).rs.length<(maK s i).l.length:=by
      have g1:=h.le _ (List.mem_of_getElem? hat)
      have g2:(maK s i).rs.length≠(maK s i).l.length:=by simpa [coHas,headB] using h2
      dsimp only at g1;omega
    have hct:=h.ct _ _ hat
    have e1:(maPj (maCom s i (coOp (maK s i)) v)).1=(maPj s).1.set i.toNat ((maK s i).l,(maK s i).rs++[v]):=by
      show (s.ks.set _ _).map _=_
      rw [List.map_set];rfl
    have e2:(maPj (maCom s i (coOp (maK s i)) v)).2=(maPj s).2++[⟨i,(maK s i).rs.length,coOp (maK s i),v⟩]:=rfl
    generalize maPj (maCom s i (coOp (maK s i)) v)=q at *
    obtain ⟨q1,q2⟩:=q
    dsimp only at e1 e2
    subst e1 e2
    have hcnt:∀ k:Int,cntC ((maPj s).2++[(⟨i,(maK s i).rs.length,coOp (maK s i),v⟩:Com)]) ((maPj s).2++[(⟨i,(maK s i).rs.length,coOp (maK s i),v⟩:Com)]).length k=cntC (maPj s).2 (maPj s).2.length k+if i=k then 1 else 0:=fun k=>by
      rw [List.length_append,List.length_singleton,cntC_succ (by rw [List.length_append];simp),cntC_app (Nat.le_refl _),List.getElem_append_right (Nat.le_refl _)]
      simp
    refine ⟨?_,fun j k hk=>?_,?_,fun j x hx=>?_⟩
    · dsimp only
      rw [List.map_set,h.ln]
      dsimp only
      have:(maK s i).l=ps.getD i.toNat []:=by rw [List.getD_eq_getElem?_getD,hpl];rfl
      rw [this,set_getD]
    · dsimp only at hk ⊢
      rw [hcnt]
      rw [List.getElem?_set] at hk
      split at hk
      · rename_i g
        split at hk
        · cases hk
          subst g
          have:((i.toNat:Nat):Int)=i:=by omega
          rw [this] at hct ⊢
          rw [hct,if_pos rfl,List.length_append];rfl
        · cases hk
      · rename_i g
        rw [h.ct j k hk,if_neg (by omega)];rfl
    · dsimp only
      refine set_all (P:=fun k:List Op3×List Int=>k.2.length≤k.1.length) h.le ?_
      dsimp only
      rw [List.length_append];simp;omega
    · dsimp only at hx ⊢
      by_cases hj:j<(maPj s).2.length
      · rw [List.getElem?_append_left hj] at hx
        rw [cntC_app (by omega)]
        exact h.tr j x hx
      · have hj2:j=(maPj s).2.length:=by
          have:=(List.getElem?_eq_some_iff.1 hx).1
          rw [List.length_append] at this
          simp at this;omega
        subst hj2
        rw [List.getElem?_append_right (Nat.le_refl _)] at hx
        simp at hx
        subst hx
        rw [cntC_app (Nat.le_refl _)]
        have:((i.toNat:Nat):Int)=i:=by omega
        rw [this] at hct
        have hg:ps.getD i.toNat []=(maK s i).l:=by rw [List.getD_eq_getElem?_getD,hpl];rfl
        refine ⟨⟨h0,by dsimp only;omega⟩,by dsimp only;rw [hct],?_,?_⟩
        · dsimp only;rw [hg];omega
        · dsimp only;rw [hg];rfl
theorem MaT.new {ps:List (List Op3)}:MaT c ps (maPj (maNew c ps)):=by
  refine ⟨?_,fun i k hk=>?_,fun k hk=>?_,fun j x hx=>?_⟩
  · show ((ps.map _).map _).map _=ps
    rw [List.map_map,List.map_map]
    exact List.map_id' ps
  · change ((ps.map _).map _)[i]? =some k at hk
    rw [List.map_map] at hk
    obtain ⟨l,_,rfl⟩:=List.mem_map.1 (List.mem_of_getElem? hk)
    rfl
  · change k∈(ps.map _).map _ at hk
    rw [List.map_map] at hk
    obtain ⟨l,_,rfl⟩:=List.mem_map.1 hk
    exact Nat.zero_le _
  · change ([]:List Com)[j]? =some x at hx
    cases hx
end
end Go.Sx

/- A machine, seen line by line. My own work. -/
namespace Go.Sx
open Go Go.Proofs
def amM (m:Msg):AM Words:=
  if m.kind=1∨m.kind=2 then .get m.kind m.src else if m.kind=3 then .put m.src m.words else if m.kind=4 then .fwd 1 m.dst m.who m.acks else if m.kind=5 then .fwd 2 m.dst m.who m.acks
  else if m.kind=6 then .inv m.dst m.who else if m.kind=7 then .data m.dst m.own m.acks m.words else if m.kind=8 then .grant m.dst m.acks else if m.kind=9 then .ack m.dst else if m.kind=10 then .pack m.dst else .done m.src
def maCa (s:MaS) (r:Int):CaS:=if 0≤r then maA s r else caZ
def ofL (line:Int) (l:List Msg):List Msg:=l.filter fun m=>decide (m.line=line)
def actQ (line:Int) (q:List QE):Option (Int×Int):=(q.find? fun e=>decide (e.m.line=line)&& e.st&& !decide (e.m.kind=3)).map fun e=>(e.m.kind,e.m.src)
def vrq (line:Int) (n:Nets) (q:List QE):List (AM Words):=(ofL line n.l0++oC line q).map amM
def vfly (line:Int) (n:Nets) (q:List QE):List (AM Words):=(ofL line (n.l1++n.l2)++oP line q).map amM
def maHo (c:Cfg) (s:MaS) (line:Int):HomS:=maH s (lineH c line)
def maV (c:Cfg) (s:MaS) (line:Int):LV Words where
  st r:=cst c (maCa s r) line
  wd r:=cwd c (maCa s r) line
  ms r:=cms (maCa s r) line
  bf r:=cbf (maCa s r) line
  rq:=vrq line s.n (maHo c s line).q
  fly:=vfly line s.n (maHo c s line).q
  act:=actQ line (maHo c s line).q
  o:=(hmEnt (maHo c s line) line).o
  sh x:=shHas (hmEnt (maHo c s line) line).s x
  mem:=lineWo c (maHo c s line).ms line
  now:=lineWo c (trMs c s.tr) line
section
variable {c:Cfg} {line:Int} {n:Nets} {q:List QE}
theorem ofL_cons (m:Msg) (l:List Msg):ofL line (m::l)=if m.line=line then m::ofL line l else ofL line l:=by
  unfold ofL;rw [List.filter_cons];by_cases h:m.line=line<;>simp [h]
theorem ofL_perm {l l':List Msg} (h:l.Perm l'):(ofL line l).Perm (ofL line l'):=h.filter _
theorem netK_012 {m:Msg} (h:MayP c m):netK m.kind=0∨netK m.kind=1∨netK m.kind=2:=by
  have:=h.2.1
  unfold netK
  split
  · exact .inl rfl
  · split
    · exact .inr (.inl rfl)
    · rw [if_pos (by omega)];exact .inr (.inr rfl)
theorem nsend_get {m:Msg} (hm:MayP c m) (hr:0<nleft c n (netK m.kind)):nsendN c n m=nset n (netK m.kind) (nget n (netK m.kind)++[m]):=by
  unfold nsendN putL
  unfold nleft at hr
  rw [if_pos hm,if_neg (by omega)]
theorem app_perm {α:Type} {l:List α} {x:α}:(l++[x]).Perm (x::l):=List.perm_append_singleton x l
theorem vrq_send {m:Msg} (hm:MayP c m) (hr:0<nleft c n (netK m.kind)):(vrq line (nsendN c n m) q).Perm (if m.line=line∧netK m.kind=0 then amM m::vrq line n q else vrq line n q):=by
  rw [nsend_get hm hr]
  rcases netK_012 hm with h|h|h
  · rw [h]
    show ((ofL line (n.l0++[m])++_).map amM).Perm _
    have h1:=(ofL_perm (line:=line) (app_perm (l:=n.l0) (x:=m)))
    rw [ofL_cons] at h1
    by_cases hl:m.line=line
    · rw [if_pos hl] at h1
      rw [if_pos ⟨hl,rfl⟩]
      exact (h1.append_right _).map amM
    · rw [if_neg hl] at h1
      rw [if_neg (fun g=>hl g.1)]
      exact (h1.append_right _).map amM
  · rw [h,if_neg (by omega)];exact List.Perm.refl _
  · rw [h,if_neg (by omega)];exact List.Perm.refl _
theorem vfly_send {m:Msg} (hm:MayP c m) (hr:0<nleft c n (netK m.kind)):(vfly line (nsendN c n m) q).Perm (if m.line=line∧netK m.kind≠0 then amM m::vfly line n q else vfly line n q):=by
  rw [nsend_get hm hr]
  have key:∀ l:List Msg,l.Perm (m::(n.l1++n.l2))→((ofL line l++oP line q).map amM).Perm (if m.line=line then amM m::vfly line n q else vfly line n q):=fun l hl=>by
    have h1:=ofL_perm (line:=line) hl
    rw [ofL_cons] at h1
    by_cases hl:m.line=line
    · rw [if_pos hl] at h1 ⊢
      exact (h1.append_right _).map amM
    · rw [if_neg hl] at h1 ⊢
      exact (h1.append_right _).map amM
  rcases netK_012 hm with h|h|h
  · rw [h,if_neg (by omega)];exact List.Perm.refl _
  · rw [h]
    have:=key (n.l1++[m]++n.l2) (by rw [List.append_assoc];exact List.perm_middle)
    by_cases hl:m.line=line
    · rw [if_pos ⟨hl,by omega⟩];rw [if_pos hl] at this;exact this
    · rw [if_neg (fun g=>hl g.1)];rw [if_neg hl] at this;exact this
  · rw [h]
    have:=key (n.l1++(n.l2++[m])) (by rw [←List.append_assoc];exact app_perm)
    by_cases hl:m.line=line
    · rw [if_pos ⟨hl,by omega⟩];rw [if_pos hl] at this;exact this
    · rw [if_neg (fun g=>hl g.1)];rw [if_neg hl] at this;exact this
theorem take_perm {l:List Msg} {i:Int} (h:inL l i=true):l.Perm (atL .zero l i::takeL l i):=by
  unfold atL takeL
  rw [h]
  unfold inL at h
  have h:=of_decide_eq_true h
  have hl:i.toNat<l.length:=by omega
  rw [if_pos rfl,if_pos rfl,List.getD_eq_getElem?_getD,List.getElem?_eq_getElem hl]
  obtain ⟨e,_,e3⟩:=l_cut hl
  rw [e3]
  exact (List.Perm.of_eq e).trans List.perm_middle
theorem vrq_take {k i:Int} (h:natB n k i=true) (hk:hasN k=true):(vrq line n q).Perm (if (natM n k i).line=line∧k=0 then amM (natM n k i)::vrq line (ntakeN n k i) q else vrq line (ntakeN n k i) q):=by
  have hp:=take_perm h
  rcases hasN_case hk with rfl|rfl|rfl
  · have h1:=ofL_perm (line:=line) hp
    rw [ofL_cons] at h1
    by_cases hl:(natM n 0 i).line=line
    · rw [if_pos (show (atL .zero (nget n 0) i).line=line from hl)] at h1
      rw [if_pos ⟨hl,rfl⟩]
      exact (h1.append_right _).map amM
    · rw [if_neg (show ¬(atL .zero (nget n 0) i).line=line from hl)] at h1
      rw [if_neg (fun g=>hl g.1)]
      exact (h1.append_right _).map amM
  · rw [if_neg (by omega)];exact List.Perm.refl _
  · rw [if_neg (by omega)];exact List.Perm.refl _
theorem vfly_take {k i:Int} (h:natB n k i=true) (hk:hasN k=true):(vfly line n q).Perm (if (natM n k i).line=line∧k≠0 then amM (natM n k i)::vfly line (ntakeN n k i) q else vfly line (ntakeN n k i) q):=by
  have hp:=take_perm h
  have key:∀ l:List Msg,(n.l1++n.l2).Perm (natM n k i::l)→(vfly line n q).Perm (if (natM n k i).line=line then amM (natM n k i)::(ofL line l++oP line q).map amM else (ofL line l++oP line q).map amM):=fun l hl=>by
    have h1:=ofL_perm (line:=line) hl
    rw [ofL_cons] at h1
    by_cases hl:(natM n k i).line=line
    · rw [if_pos hl] at h1 ⊢
      exact (h1.append_right _).map amM
    · rw [if_neg hl] at h1 ⊢
      exact (h1.append_right _).map amM
  rcases hasN_case hk with rfl|rfl|rfl
  · rw [if_neg (by omega)];exact List.Perm.refl _
  · have:=key (takeL n.l1 i++n.l2) (hp.append_right _)
    by_cases hl:(natM n 1 i).line=line
    · rw [if_pos ⟨hl,by omega⟩];rw [if_pos hl] at this;exact this
    · rw [if_neg (fun g=>hl g.1)];rw [if_neg hl] at this;exact this
  · have:=key (n.l1++takeL n.l2 i) ((hp.append_left n.l1).trans List.perm_middle)
    by_cases hl:(natM n 2 i).line=line
    · rw [if_pos ⟨hl,by omega⟩];rw [if_pos hl] at this;exact this
    · rw [if_neg (fun g=>hl g.1)];rw [if_neg hl] at this;exact this
end
end Go.Sx

/- A range over a function: the statement's rule, its rounds, and the iterator's calls of yield, in the logic of assertions. My own work; names no program. -/
namespace Go.Sx
open Go
inductive AllIn:Fence→Prop
  |wide:AllIn Fence.wide
  |round (l:Nat):AllIn (Fence.wide.inRound l)
theorem AllIn.fn {F:Fence} (h:AllIn F) (f:FuncId):F.fn f:=by cases h<;>trivial
theorem AllIn.depth {F:Fence} (h:AllIn F):F.depth=none:=by cases h<;>rfl
theorem AllIn.calls {F:Fence} (h:AllIn F) {n:Nat} {P:Program} {f:FuncId} {args:Array Value} {w:World} {R:Ending→World→Prop} (k:Calls P f args w R):CallsIn F n P f args w R:=by
  cases h
  · exact callsIn_wide.2 k
  · exact (callsIn_wide (n:=n)).2 k
theorem AllIn.rows {F:Fence} (h:AllIn F) {n:Nat} {P:Program} {r:String} {args:Array Value} {w:World} {R:Value→World→Prop} (k:Rows P r args w R):RowsIn F n P r args w R:=by
  cases h
  · exact fun c cs _=>let ⟨v,w',hR,hs⟩:=k c cs;⟨v,w',hR,stepsIn_wide.2 hs⟩
  · exact fun c cs _=>let ⟨v,w',hR,hs⟩:=k c cs;⟨v,w',hR,stepsIn_wide.2 hs⟩
abbrev bare (a:Act):Act:={ a with defers:=[]}
section
variable (F:Fence) (P:Program) (N:Nat) (ds:List Deferred)
def WM (c:Code) (env:Env) (L:List HP) (Q:Exit→Act→World→Prop):Prop:=∀ a w,EnvOk N env (bare a)→a.defers=ds→Sat L w→c.wpIn F 0 P Q a w
def WME (e:Exit) (env:Env) (L:List HP) (Q:Exit→Act→World→Prop):Prop:=∀ a w,EnvOk N env (bare a)→a.defers=ds→Sat L w→Q e a w
def WMO (all:Array Oper) (todo:List Oper) (env:Env) (L:List HP) (Q:Exit→Act→World→Prop):Prop:=∀ a w,EnvOk N env (bare a)→a.defers=ds→Sat L w→wpListIn F 0 P all Q todo a w
end
section
variable {F:Fence} {P:Program} {N:Nat} {ds:List Deferred} {env:Env} {L:List HP} {Q:Exit→Act→World→Prop}
theorem WM_seq {x y:Code} (h:WM F P N ds x env L (Exit.then (y.wpIn F 0 P Q) Q)):WM F P N ds (.seq x y) env L Q:=fun a w ha hd hw=>wpIn_seq (h a w ha hd hw)
theorem WM_skip (h:WME N ds .normal env L Q):WM F P N ds .skip env L Q:=fun a w ha hd hw=>wpIn_skip (h a w ha hd hw)
theorem WM_ret (h:WME N ds .ret env L Q):WM F P N ds .ret env L Q:=fun a w ha hd hw=>wpIn_ret (h a w ha hd hw)
theorem WM_block {id:Nat} {c:Code} (h:WM F P N ds c env L (Exit.inBlock id Q)):WM F P N ds (.block id c) env L Q:=fun a w ha hd hw=>wpIn_block (h a w ha hd hw)
theorem WM_region {id:Nat} {ops:List Oper} (h:WMO F P N ds ops.toArray ops env L Q):WM F P N ds (.region id ops.toArray false) env L Q:=fun a w ha hd hw=>wpIn_region_lit (h a w ha hd hw)
theorem bare_eval (a:Act) (x:Operand):(bare a).eval x=a.eval x:=by cases x<;>rfl
theorem WME_then {y:Code} {Q':Exit→Act→World→Prop} (h:WM F P N ds y env L Q):WME N ds .normal env L (Exit.then (y.wpIn F 0 P Q) Q'):=h
theorem WME_then_wp {y:Code} {Q':Exit→Act→World→Prop} (h:WM Fence.wide P N ds y env L Q):WME N ds .normal env L (Exit.then (y.wp P Q) Q'):=fun a w ha hd hw=>wpIn_wide.1 (h a w ha hd hw)
theorem WME_then_ret {K:Act→World→Prop} (h:WME N ds .ret env L Q):WME N ds .ret env L (Exit.then K Q):=h
theorem WME_block {id:Nat} (h:WME N ds .normal env L Q):WME N ds .normal env L (Exit.inBlock id Q):=h
theorem WME_block_ret {id:Nat} (h:WME N ds .ret env L Q):WME N ds .ret env L (Exit.inBlock id Q):=h
theorem WMO_nil {all:Array Oper} (h:WME N ds .normal env L Q):WMO F P N ds all [] env L Q:=h
theorem WMO_ent {all:Array Oper} {o:List Oper} {M:List HP} (e:Ent L M) (h:WMO F P N ds all o env M Q):WMO F P N ds all o env L Q:=fun a w ha hd hw=>h a w ha hd (e.sat hw)
theorem WME_absurd {c:Exit} {M:List HP} (e:Ent L (Fact False::M)):WME N ds c env L Q:=fun a w ha hd hw=>(fact_of (e.sat hw)).elim
theorem WM_absurd {c:Code} {M:List HP} (e:Ent L (Fact False::M)):WM F P N ds c env L Q:=fun a w ha hd hw=>(fact_of (e.sat hw)).elim
theorem semAt_plain {r:Option Nat} {ρ:Operand→Value} {o:Oper} (h:∀ c,o.op≠ .defer c):Oper.semAt r ρ o=execOp ρ o:=by
  cases r with
  |none=>exact Oper.semAt_none ρ o
  |some l=>exact Oper.semAt_some l ρ o h
theorem WMO_v {op:Op} {ty:TypeId} {pos:String} {aft:Array Edge} {d:Nat} {all:Array Oper} {rest:List Oper} {v:Value} (hF:AllIn F)
    (h:V P N op ty env L v) (hd:Nat.blt d N=true) (hop:∀ c,op≠ .defer c) (k:WMO F P N ds all rest ((d,v)::env) L Q):WMO F P N ds all (⟨some d,op,ty,pos,aft,none⟩::rest) env L Q:=by
  intro a w ha hds hw
  have h1:=h (bare a) w ha hw
  have e:(bare a).eval=a.eval:=funext (bare_eval a)
  rw [e] at h1
  simp only [wpListIn,Region.wanted,if_true,Oper.wpIn]
  refine ⟨fun f _=>hF.fn f,?_⟩
  rw [semAt_plain hop,execOp_plain,h1,Oper.uponIn_value]
  exact k _ w (ha.put hd v) hds hw
theorem WMO_k {o:Oper} {all:Array Oper} {rest:List Oper} {post:Env→List HP→Prop} (hF:AllIn F) (hg:o.guard=none) (hop:∀ c,o.op≠ .defer c) (h:KO P N o env L post)
    (next:∀ e' L',post e' L'→WMO F P N ds all rest e' L' Q):WMO F P N ds all (o::rest) env L Q:=by
  intro a w ha hds hw
  have h1:=h (bare a) w ha hw (fun a' w'=>∃ e' L',post e' L'∧EnvOk N e' a'∧Sat L' w') (fun _ _ _=>False) (fun e' L' a' w' hp ha' hw'=>⟨e',L',hp,ha',hw'⟩)
  have e:(bare a).eval=a.eval:=funext (bare_eval a)
  simp only [wpListIn,Region.wanted,hg,if_true,Oper.wpIn]
  refine ⟨fun f _=>hF.fn f,?_⟩
  rw [semAt_plain hop]
  unfold Oper.wp at h1
  rw [e] at h1
  have fin:∀ v w',(∃ e' L',post e' L'∧EnvOk N e' ((bare a).put o.dst v)∧Sat L' w')→wpListIn F 0 P all Q rest (a.put o.dst v) w':=by
    rintro v w' ⟨e',L',hp,ha',hw'⟩
    refine next e' L' hp _ w' ?_ ?_ hw'
    · have:bare (a.put o.dst v)=(bare a).put o.dst v:=by cases o.dst<;>rfl
      rw [this];exact ha'
    · have:(a.put o.dst v).defers=a.defers:=by cases o.dst<;>rfl
      rw [this];exact hds
  generalize (execOp a.eval o).run P w=r at h1 ⊢
  cases r with
  |ok n w'=>
   cases n<;>simp only [Oper.upon] at h1
   case value=>exact fin _ _ h1
   case skip=>exact fin _ _ h1
   case defer d=>
     obtain ⟨e',L',_,ha',_⟩:=h1
     have:=ha'.defers
     cases hd:o.dst<;>simp [Act.put,hd] at this
   case enter=>
     refine ⟨(fun hh=>by rw [hF.depth] at hh;cases hh),hF.calls (h1.mono fun e2 w2 hR=>?_)⟩
     cases e2 with
     |returned v=>exact fin _ _ hR
     |panicked c=>exact hR.elim
     |outgrown=>obtain ⟨_,_,hh⟩:=hR;exact hh.elim
   case row=>exact ⟨(fun hh=>by rw [hF.depth] at hh;cases hh),hF.rows (h1.mono fun v w2 hR=>fin _ _ hR)⟩
  |halt x w'=>cases x<;>simp only [Oper.upon] at h1
end
abbrev markOf (D:Nat):Deferred:={ target:= .collected D,args:= #[]}
theorem sat_obj_upd {b:Nat} {o o':Obj} {L:List HP} {w:World} (h:Sat (ObjAt b o::L) w):Sat (ObjAt b o'::L) (w.putObj b o'):=by
  have hb:=sat_obj h
  have hlt:b<w.heap.size:=(Array.getElem?_eq_some_iff.1 hb).1
  exact sat_upd (b:=b) (o:=o') (ObjAt b o') (fun h hp=>⟨_,hp.pf⟩) (fun h e=>⟨e⟩) (World.putObj_heap_same hlt) (fun k hk=>World.putObj_heap_other hk) rfl rfl rfl h
def Yields (P:Program) (l:Nat) (v:Value) (A B C:List HP):Prop:=
  ∀ F w,Sat (app A F) w→YieldAt Fence.wide 0 P l #[v] w (fun e w'=>(e= .returned (.bool true)∧Sat (app B F) w')∨(e= .returned (.bool false)∧Sat (app C F) w'))
theorem app_ent {A B F:List HP} (h:Ent A B):Ent (app A F) (app B F):=fun x hx=>by
  rw [app_eq] at hx ⊢
  obtain ⟨S,T,d,h1,h2⟩:=star_split hx
  exact star_append_of d (h _ h1) h2
def Seq (P:Program) (gf:FuncId) (cap:List Value) (pre:List HP) (xs:List Value):Prop:=
  ∀ (l:Nat) (A:Nat→List HP) (C:List HP),(∀ i (h:i<xs.length),Yields P l xs[i] (app pre (A i)) (app pre (A (i+1))) C)→
    ∀ w,Sat (app pre (A 0)) w→Calls P gf (.func (.yield l) #[] #[]::cap).toArray w (fun e w'=>(∃ v,e= .returned v)∧(Sat (app pre (A xs.length)) w'∨(0<xs.length∧Sat C w')))
theorem app_front {x:HP}:∀ {pre L:List HP},Ent (app pre (x::L)) (x::app pre L)
  | [],_=>Ent.refl
  |_::r,_=>Ent.trans (Ent.cons (app_front (pre:=r))) (fun _ h=>star_swap h)
theorem app_back {x:HP}:∀ {pre L:List HP},Ent (x::app pre L) (app pre (x::L))
  | [],_=>Ent.refl
  |_::r,_=>Ent.trans (fun _ h=>star_swap h) (Ent.cons (app_back (pre:=r)))
theorem app_comm {A B:List HP}:Ent (app A B) (app B A):=fun x hx=>by
  rw [app_eq] at hx ⊢
  obtain ⟨S,T,d,h1,h2⟩:=star_split hx
  exact star_append_of (fun b a c=>d b c a) h2 h1
section
variable {P:Program} {N:Nat} {env:Env} {L:List HP} {Q:Exit→Act→World→Prop}
theorem bare_self {a:Act} (h:a.defers=[]):bare a=a:=by cases a;simp at h;subst h;rfl
theorem WMO_yield {f x:Operand} {ats:Array TypeId} {l:Nat} {v:Value} {A B C F:List HP} {ty:TypeId} {pos:String} {aft:Array Edge} {d:Nat} {all:Array Oper} {rest:List Oper}
    (hf:ev env f=some (.func (.yield l) #[] #[])) (hx:ev env x=some v) (hd:Nat.blt d N=true) (hy:Yields P l v A B C) (he:Ent L (app A F))
    (k1:WMO Fence.wide P N [] all rest ((d,.bool true)::env) (app B F) Q) (k2:WMO Fence.wide P N [] all rest ((d,.bool false)::env) (app C F) Q) :
    WMO Fence.wide P N [] all (⟨some d,.call ⟨.value f, #[x],ats⟩,ty,pos,aft,none⟩::rest) env L Q:=by
  intro a w hA hds hw
  have e1:a.eval f= .func (.yield l) #[] #[]:=by rw [←bare_eval];exact hA.ev hf
  have e2:a.eval x=v:=by rw [←bare_eval];exact hA.ev hx
  obtain ⟨fn,tmps,assign,body,hy1,hy2⟩:=hy F w (he.sat hw)
  simp only [wpListIn,Region.wanted,if_true,Oper.wpIn]
  refine ⟨fun _ _=>trivial,?_⟩
  rw [Fence.wide_round,Oper.semAt_none]
  have hx:(execOp a.eval ⟨some d,.call ⟨.value f, #[x],ats⟩,ty,pos,aft,none⟩).run P w= .ok (.round l fn tmps assign body) w:=by
    simp only [execOp,resolve,Sem.run_bind,Deferred.ofValue,e1,Sem.run_pure,Result.andThen_ok,invoke]
    rw [←hy1]
    congr 2
    simp [e2]
  rw [hx,Oper.uponIn_round]
  refine ⟨(fun hh=>by cases hh),hy2.mono fun e w' hR=>?_⟩
  rcases hR with ⟨rfl,h⟩|⟨rfl,h⟩
  · exact k1 _ w' (hA.put hd _) hds h
  · exact k2 _ w' (hA.put hd _) hds h
theorem WC_regionY {id:Nat} {ops:List Oper} (h:WMO Fence.wide P N [] ops.toArray ops env L Q):WC P N (.region id ops.toArray false) env L Q:=
  fun a w ha hw=>wpIn_wide.1 (wpIn_region_lit (n:=0) (h a w (by rw [bare_self ha.defers];exact ha) ha.defers hw))
theorem WME_out {e:Exit} (h:WE N e env L Q):WME N [] e env L Q:=fun a w ha hd hw=>h a w (by rw [←bare_self hd];exact ha) hw
structure IsRec (r:LoopState→Option Code→Loop):Prop where
  pf:∃ fn tmps params assign body defers,r=fun st pe=>{ state:=st,pending:=pe,fn,tmps,params,assign,body,defers}
def RoundEnd (l:Nat) (r:LoopState→Option Code→Loop) (B C:List HP):Exit→Act→World→Prop
  | .normal,_,w=>Sat (ObjAt l (.loop (r .busy none))::B) w
  | .ret,_,w=>Sat (ObjAt l (.loop (r .busy none))::C) w
  |_,_,_=>False
theorem WME_stop {l:Nat} {r:LoopState→Option Code→Loop} {B C:List HP} (e:Ent L (ObjAt l (.loop (r .busy none))::C)):WME N [] .ret env L (RoundEnd l r B C):=fun _ _ _ _ hw=>e.sat hw
def BeginQ (P:Program) (l:Nat) (body:Code) (Q:Exit→Act→World→Prop):Exit→Act→World→Prop:=
  Exit.then (fun a w=>∃ w2,(Instr.beginRound l).run P w= .ok () w2∧body.wpIn (Fence.wide.inRound l) 0 P Q a w2) (fun _ _ _=>False)
theorem WME_begin {l:Nat} {r:LoopState→Option Code→Loop} {body:Code} (hr:IsRec r) (h:WM (Fence.wide.inRound l) P N [] body env (ObjAt l (.loop (r .busy none))::L) Q) :
    WME N [] .normal env (ObjAt l (.loop (r .ready none))::L) (BeginQ P l body Q):=by
  obtain ⟨fn,tmps,params,assign,body',defers,rfl⟩:=hr.pf
  intro a w ha hd hw
  exact ⟨_,run_beginRound (sat_obj hw) rfl,h a _ ha hd (sat_obj_upd hw)⟩
theorem sat_alloc {o:Obj} {w:World} (h:Sat L w):Sat (ObjAt w.heap.size o::L) (w.alloc o):=sat_new (ObjAt w.heap.size o) (fun h e=>⟨e⟩) h
theorem WC_rangeFunc {g:Operand} {p:Tmp} {assign body:Code} {gf:FuncId} {cap:List Value} {pre:List HP} {xs:List Value} (J:Nat→List HP) (Jx:List HP)
    (hg:ev env g=some (.func (.func gf) #[] cap.toArray)) (he:Enters P gf) (hseq:Seq P gf cap pre xs) (hL:Ent L (app pre (J 0))) (hp:Nat.blt p N=true)
    (hround:∀ l r D F i (hi:i<xs.length),IsRec r→WM (Fence.wide.inRound l) P N [] assign ((p,xs[i])::env) (ObjAt l (.loop (r .ready none))::ObjAt D (.deferred (some []))::app (app pre (J i)) F)
      (BeginQ P l body (RoundEnd l r (ObjAt D (.deferred (some []))::app (app pre (J (i+1))) F) (ObjAt D (.deferred (some []))::app Jx F))))
    (hdone:∀ D,WME N [markOf D] .normal env (ObjAt D (.deferred (some []))::app pre (J xs.length)) Q)
    (hstop:∀ D,0<xs.length→WME N [markOf D] .ret env (ObjAt D (.deferred (some []))::Jx) Q):WC P N (.rangeFunc g #[p] assign body) env L Q:=by
  intro a w ha hw
  refine (wpIn_wide (n:=0)).1 (wpIn_rangeFunc ?_)
  intro fn _
  have hev:a.eval g= .func (.func gf) #[] cap.toArray:=ha.ev hg
  obtain ⟨rec,hrec⟩:∃ rec:LoopState→Option Code→Loop,rec=fun st pe=>{ state:=st,pending:=pe,fn,tmps:=a.tmps,params:= #[p],assign,body,defers:=w.heap.size}:=⟨_,rfl⟩
  have isr:IsRec rec:=⟨_,_,_,_,_,_,hrec⟩
  have hs1:=sat_alloc (o:= .deferred (some [])) hw
  have hs2:=sat_alloc (o:= .loop (rec .ready none)) hs1
  rw [World.size_alloc] at hs2
  have hd0:=ha.defers
  have hbare:∀ ds,bare { a with defers:=ds}=a:=fun ds=>by cases a;simp at hd0;subst hd0;rfl
  refine ⟨w.heap.size+1,[markOf w.heap.size],(w.alloc (.deferred (some []))).alloc (.loop (rec .ready none)),{ target:= .fn (.func gf) cap.toArray,args:= #[.func (.yield (w.heap.size+1)) #[] #[]]},(w.alloc (.deferred (some []))).alloc (.loop (rec .ready none)),gf,
    (.func (.yield (w.heap.size+1)) #[] #[]::cap).toArray,(w.alloc (.deferred (some []))).alloc (.loop (rec .ready none)),?_,?_,fun _ _=>trivial,?_,(fun hh=>by cases hh),?_⟩
  · rw [hrec];exact run_enterLoop_outer _ _ _ _ _
  · simp only [resolve,hev]
    simp [go_sem]
  · simp only [invoke]
    rw [he]
    congr 2
    apply Array.ext'
    simp
  · refine callsIn_wide.2 ((hseq (w.heap.size+1) (fun i=>ObjAt (w.heap.size+1) (.loop (rec .ready none))::ObjAt w.heap.size (.deferred (some []))::J i)
      (ObjAt (w.heap.size+1) (.loop (rec .done (some .ret)))::ObjAt w.heap.size (.deferred (some []))::Jx) ?_ _ ?_).mono ?_)
    · intro i hi F W hW
      have hW2:Sat (ObjAt (w.heap.size+1) (.loop (rec .ready none))::ObjAt w.heap.size (.deferred (some []))::app (app pre (J i)) F) W:=(app_ent (Ent.trans app_front (Ent.cons app_front))).sat hW
      have hl:=sat_obj hW2
      have hy:=run_yield (P:=P) (args:= #[xs[i]]) hl (by rw [hrec];rfl)
      rw [hrec] at hy
      refine ⟨fn,_,assign,body,hy,roundIn_of_wpIn trivial ?_⟩
      have hen:EnvOk N ((p,xs[i])::env) (bare { tmps:=(#[p].zip #[xs[i]]).foldl (fun tmps (t,a)=>tmps.setIfInBounds t a) a.tmps,defers:=[]}):=by
        have:=ha.put hp xs[i]
        have e:a.put (some p) xs[i]={ tmps:=(#[p].zip #[xs[i]]).foldl (fun tmps (t,a)=>tmps.setIfInBounds t a) a.tmps,defers:=[]}:=by
          simp [Act.put,hd0]
        rw [←e]
        have e2:bare (a.put (some p) xs[i])=a.put (some p) xs[i]:=bare_self (by simp [Act.put,hd0])
        rw [e2];exact this
      refine wpIn_mono (hround _ rec w.heap.size F i hi isr _ W hen rfl hW2) ?_
      intro e a1 w1 h1
      cases e with
      |normal=>
       obtain ⟨w2,hb,hbody⟩:=h1
       refine ⟨w2,hb,wpIn_mono hbody ?_⟩
       intro e a2 w3 h3
       cases e with
       |normal=>
        have h4:Sat (ObjAt (w.heap.size+1) (.loop (rec .busy none))::ObjAt w.heap.size (.deferred (some []))::app (app pre (J (i+1))) F) w3:=h3
        have hl:=sat_obj h4
        have h5:=sat_obj_upd (o':= .loop { rec .busy none with state:= .ready,pending:=none}) h4
        refine ⟨_,_,run_endRound none hl,.inl ⟨rfl,?_⟩⟩
        rw [hrec] at h5 ⊢
        exact (app_ent (Ent.trans (Ent.cons app_back) app_back)).sat h5
       |ret=>
        have h4:Sat (ObjAt (w.heap.size+1) (.loop (rec .busy none))::ObjAt w.heap.size (.deferred (some []))::app Jx F) w3:=h3
        have hl:=sat_obj h4
        have h5:=sat_obj_upd (o':= .loop { rec .busy none with state:= .done,pending:=some .ret}) h4
        refine ⟨_,_,run_endRound (some .ret) hl,.inr ⟨rfl,?_⟩⟩
        rw [hrec] at h5 ⊢
        exact h5
       |exit id=>exact h3.elim
       |goto t=>exact h3.elim
       |panic c=>exact h3.elim
       |outgrown=>exact h3.elim
      |ret=>exact h1
      |exit id=>exact h1
      |goto t=>exact h1
      |panic c=>exact h1
      |outgrown=>exact h1
    · exact (Ent.trans (Ent.cons (Ent.cons hL)) (Ent.trans (Ent.cons app_back) app_back)).sat hs2
    · rintro e W2 ⟨⟨v,rfl⟩,h|⟨h0,h⟩⟩
      · have h2:Sat (ObjAt (w.heap.size+1) (.loop (rec .ready none))::ObjAt w.heap.size (.deferred (some []))::app pre (J xs.length)) W2:=(Ent.trans app_front (Ent.cons app_front)).sat h
        have hl:=sat_obj h2
        have h5:=sat_obj_upd (o':= .loop { rec .ready none with state:= .exhausted}) h2
        refine ⟨none,_,?_,hdone w.heap.size _ _ (by rw [hbare];exact ha) (by simp [hd0]) (Ent.drop Ent.refl |>.sat h5)⟩
        have:=run_endLoop (P:=P) hl (by rw [hrec];simp)
        rw [hrec] at this ⊢;exact this
      · have hl:=sat_obj h
        have h5:=sat_obj_upd (o':= .loop { rec .done (some .ret) with state:= .exhausted}) h
        refine ⟨some .ret,_,?_,wpIn_ret (hstop w.heap.size h0 _ _ (by rw [hbare];exact ha) (by simp [hd0]) (Ent.drop Ent.refl |>.sat h5))⟩
        have:=run_endLoop (P:=P) hl (by rw [hrec];simp)
        rw [hrec] at this ⊢;exact this
def SeqQ (P:Program) (fn:Func) (pre:List HP) (A:Nat→List HP) (C:List HP) (n:Nat):Exit→Act→World→Prop:=
  bodyPost P fn (fun e w'=>(∃ v,e= .returned v)∧(Sat (app pre (A n)) w'∨(0<n∧Sat C w')))
theorem Seq.mk {f:FuncId} {fn:Func} {c:Code} {N:Nat} {cap:List Value} {pre:List HP} {xs:List Value} (hf:P.funcs[f]? =some fn) (hb:fn.body=some c) (hN:fn.ntmps=N) (hv:Nat.ble (cap.length+1) N=true)
    (h:∀ l A C,(∀ i (h:i<xs.length),Yields P l xs[i] (app pre (A i)) (app pre (A (i+1))) C)→WC P N c (envOf 0 (.func (.yield l) #[] #[]::cap)) (app pre (A 0)) (SeqQ P fn pre A C xs.length)):Seq P f cap pre xs:=by
  intro l A C hy w hw
  refine calls_of_wp hf hb ?_
  have hle:(Value.func (.yield l) #[] #[]::cap).length≤N:=by simpa using hv
  refine h l A C hy _ w ⟨?_,rfl,fun t v e=>?_⟩ hw
  · simp [hN];simp at hle;omega
  · obtain ⟨_,h2⟩:=envOf_get _ 0 t v e
    have ht:t<(Value.func (.yield l) #[] #[]::cap).length:=(List.getElem?_eq_some_iff.1 h2).1
    rw [Array.getD_eq_getD_getElem?,Array.getElem?_append_left (by simpa using ht)]
    simp at h2
    simp [h2]
theorem run_results0 {fn:Func} (h:fn.results.toList=[]) (tmps:Array Value) (w:World):∃ v,(results fn tmps).run P w= .ok v w:=by
  rw [results_eq,Array.mapM_eq_mapM_toList,h]
  exact ⟨_,rfl⟩
theorem WE_seq_done {fn:Func} {pre:List HP} {A:Nat→List HP} {C:List HP} {n:Nat} {e:Exit} (he:(match e with| .normal=>true| .ret=>true|_=>false)=true) (hrs:fn.results.toList=[]) (h:Ent L (app pre (A n))):WE N e env L (SeqQ P fn pre A C n):=by
  intro a w ha hw
  obtain ⟨v,hr⟩:=run_results0 (P:=P) hrs a.tmps w
  have fin:a.defers=[]∧∃ v,(results fn a.tmps).run P w= .ok v w∧((∃ u,Ending.returned v= .returned u)∧(Sat (app pre (A n)) w∨(0<n∧Sat C w))):=⟨ha.defers,v,hr,⟨v,rfl⟩,.inl (h.sat hw)⟩
  cases e with
  |normal=>exact fin
  |ret=>exact fin
  |_=>simp at he
theorem WE_seq_stop {fn:Func} {pre:List HP} {A:Nat→List HP} {C:List HP} {n:Nat} {e:Exit} (he:(match e with| .normal=>true| .ret=>true|_=>false)=true) (hrs:fn.results.toList=[]) (hn:0<n) (h:Ent L C):WE N e env L (SeqQ P fn pre A C n):=by
  intro a w ha hw
  obtain ⟨v,hr⟩:=run_results0 (P:=P) hrs a.tmps w
  have fin:a.defers=[]∧∃ v,(results fn a.tmps).run P w= .ok v w∧((∃ u,Ending.returned v= .returned u)∧(Sat (app pre (A n)) w∨(0<n∧Sat C w))):=⟨ha.defers,v,hr,⟨v,rfl⟩,.inr ⟨hn,h.sat hw⟩⟩
  cases e with
  |normal=>exact fin
  |ret=>exact fin
  |_=>simp at he
def FnQM (P:Program) (fn:Func) (post:Value→List HP→Prop) (F:List HP):Exit→Act→World→Prop:=
  bodyPostM Fence.wide 0 P fn (fun e w'=>∃ v L',e= .returned v∧post v L'∧Sat (app L' F) w')
theorem FnF.mkM {f:FuncId} {fn:Func} {c:Code} {N:Nat} {vs:List Value} {pre F:List HP} {post:Value→List HP→Prop}
    (hf:P.funcs[f]? =some fn) (hb:fn.body=some c) (hn:(fn.name == "runtime.NumGoroutine")=false) (hN:fn.ntmps=N) (hv:Nat.ble vs.length N=true)
    (h:WC P N c (envOf 0 vs) (app pre F) (FnQM P fn post F)):FnF P f vs pre F post:=by
  refine ⟨enters_of hf hb hn,fun w hw=>callsIn_wide.1 (callsIn_of_wp_marks (n:=0) hf hb trivial (wpIn_wide.2 ?_))⟩
  have hle:vs.length≤N:=by simpa using hv
  refine h _ w ⟨?_,rfl,fun t v e=>?_⟩ hw
  · simp [hN];omega
  · obtain ⟨_,h2⟩:=envOf_get vs 0 t v e
    have ht:t<vs.length:=(List.getElem?_eq_some_iff.1 h2).1
    rw [Array.getD_eq_getD_getElem?,Array.getElem?_append_left (by simpa using ht)]
    simp at h2
    simp [h2]
theorem WME_retM {fn:Func} {post:Value→List HP→Prop} {F:List HP} {e:Exit} {D:Nat} (he:(match e with| .normal=>true| .ret=>true|_=>false)=true) {rs:List ResultVar} {vs:List Value}
    (hrs:fn.results.toList=rs) (hr:ResOk P env L rs vs) (L':List HP) (hp:post (retVal vs) L') (hL:Ent L (app L' F)):WME N [markOf D] e env (ObjAt D (.deferred (some []))::L) (FnQM P fn post F):=by
  intro a w ha hd hw
  have hD:=sat_obj hw
  have h2:Sat L (w.putObj D (.deferred none)):=(Ent.drop Ent.refl).sat (sat_obj_upd (o':= .deferred none) hw)
  have key:(results fn a.tmps).run P (w.putObj D (.deferred none))= .ok (retVal vs) (w.putObj D (.deferred none)):=by
    have h1:=resOk_run ha h2 hr
    subst hrs
    rw [results_eq,Array.mapM_eq_mapM_toList]
    simp only [Sem.run_bind,Sem.run_map]
    have h1':(List.mapM (readRes a.tmps) fn.results.toList).run P (w.putObj D (.deferred none))= .ok vs (w.putObj D (.deferred none)):=h1
    rw [h1']
    simp only [Result.andThen_ok,Sem.run_pure]
    congr 1
    unfold retVal
    match vs with
    | []=>rfl
    | [v]=>rfl
    |a::b::r=>simp
  have fin:LeavesInM Fence.wide 0 P fn a.tmps (fun e w'=>∃ v L',e= .returned v∧post v L'∧Sat (app L' F) w') a.defers .returning w:=by
    rw [hd]
    exact ⟨by simp,.inl ⟨D,_,rfl,run_takeDeferred hD,_,key,_,L',rfl,hp,hL.sat h2⟩⟩
  cases e with
  |normal=>exact fin
  |ret=>exact fin
  |_=>simp at he
end
set_option maxRecDepth 100000
theorem gom {Q P:Prop} (k:Q) (h:Hid Q→P:=by
  intro k
  (first|refine WM_seq ?_|refine WM_skip ?_|refine WM_ret ?_|refine WM_block ?_|refine WM_region ?_|refine WMO_nil ?_|refine WME_then ?_|refine WME_then_wp ?_|refine WME_then_ret ?_|refine WME_block ?_|refine WME_block_ret ?_|(apply WMO_v;(first|exact AllIn.wide|exact AllIn.round _);exact zqV;rfl;(intro _ h;cases h))|(apply WMO_k;(first|exact AllIn.wide|exact AllIn.round _);rfl;(intro _ h;cases h);exact zqK;(first|refine fresh_intro ?_|refine gives_intro ?_|refine same_intro ?_)))
  (repeat (first|refine WM_seq ?_|refine WM_skip ?_|refine WM_ret ?_|refine WM_block ?_|refine WM_region ?_|refine WMO_nil ?_|refine WME_then ?_|refine WME_then_wp ?_|refine WME_then_ret ?_|refine WME_block ?_|refine WME_block_ret ?_|(apply WMO_v;(first|exact AllIn.wide|exact AllIn.round _);exact zqV;rfl;(intro _ h;cases h))|(apply WMO_k;(first|exact AllIn.wide|exact AllIn.round _);rfl;(intro _ h;cases h);exact zqK;(first|refine fresh_intro ?_|refine gives_intro ?_|refine same_intro ?_))))
  exact k.out):P:=h ⟨k⟩
theorem gov {Q P:Prop} (k:Q) (h:Hid Q→P:=by
  intro k
  ((apply WMO_v;(first|exact AllIn.wide|exact AllIn.round _);exact zqV;rfl;(intro _ h;cases h)))
  (repeat ((apply WMO_v;(first|exact AllIn.wide|exact AllIn.round _);exact zqV;rfl;(intro _ h;cases h))))
  exact k.out):P:=h ⟨k⟩
theorem gon {Q P:Prop} (k:Q) (h:Hid Q→P:=by
  intro k
  (first|(apply WO_v;exact zqV;rfl)|refine WT_done ?_|refine WT_n ?_|(apply WT_p;rfl;exact zqI;exact zqV;rfl)|(apply WT_r;rfl;exact zqI;exact zqV;rfl)|refine WC_seq ?_|refine WO_nil ?_|refine WE_then ?_|refine WE_rounds ?_|refine WR_succ ?_|refine WC_ret ?_|refine WE_then_ret ?_|refine WC_block ?_|refine WC_exit ?_|refine WE_block_at ?_|(refine WE_block_on ?_ ?_;rfl)|refine WE_then_exit ?_|refine WE_block ?_|refine WE_block_ret ?_|refine WE_loop_exit ?_|refine WE_loop_ret ?_|refine WC_skip ?_|(apply WC_cond_t;rfl;(with_reducible rfl))|(apply WC_cond_f;rfl;(with_reducible rfl))|refine WQ_nil ?_|(apply WO_k;rfl;exact zqK;(first|refine fresh_intro ?_|refine gives_intro ?_|refine same_intro ?_))|(apply WT_k;rfl;exact zqI;exact zqK;(first|refine fresh_intro ?_|refine gives_intro ?_|refine same_intro ?_))|(apply WT_v;rfl;exact zqI;exact zqV;rfl)|refine after_free ?_|refine after_turns rfl ?_|(refine after_still ?_ ?_;(focus (exact zqN;done)))|(apply WT_po;rfl;exact zqO;rfl)|(apply WT_ro;rfl;exact zqO;rfl)|(apply WT_ko;rfl;exact zqO;rfl;(refine ⟨by first|exact After.free|exact After.turns rfl|(refine After.still ?_;exact zqN;done),?_⟩))|(apply WQ_op;exact zqV;rfl)|(apply WO_gl_in;rfl;rfl;(with_reducible rfl);rfl;rfl)|(apply WQ_gl_in;rfl;rfl;(with_reducible rfl);rfl;rfl)|(apply WO_gl_out;rfl;rfl;(with_reducible rfl);rfl;rfl;rfl)|(apply WQ_gl_out;rfl;rfl;(with_reducible rfl);rfl;rfl;rfl)|(apply WO_gl_undef;rfl;rfl;(with_reducible rfl);rfl)|(apply WQ_gl_undef;rfl;rfl;(with_reducible rfl);rfl)|(apply WO_gi_t;rfl;rfl;rfl;rfl;(first|exact dec_t zqA|(first|(with_reducible assumption)|decide)))|(apply WO_gi_f;rfl;rfl;rfl;rfl;(first|exact dec_f zqA|(first|(with_reducible assumption)|decide)))|(apply WO_go_t;rfl;rfl;rfl;rfl;(first|exact dec_f zqA|(first|(with_reducible assumption)|decide)))|(apply WO_go_f;rfl;rfl;rfl;rfl;(first|exact dec_t zqA|(first|(with_reducible assumption)|decide)))|(apply WQ_gi_t;rfl;rfl;rfl;rfl;(first|exact dec_t zqA|(first|(with_reducible assumption)|decide)))|(apply WQ_gi_f;rfl;rfl;rfl;rfl;(first|exact dec_f zqA|(first|(with_reducible assumption)|decide)))|(apply WQ_go_t;rfl;rfl;rfl;rfl;(first|exact dec_f zqA|(first|(with_reducible assumption)|decide)))|(apply WQ_go_f;rfl;rfl;rfl;rfl;(first|exact dec_t zqA|(first|(with_reducible assumption)|decide)))|(apply WC_yes;rfl;(first|(with_reducible assumption)|(with_reducible rfl)|(with_reducible exact nn_eq)|(with_reducible exact nn_ne)|omega|decide|exact rfl))|(apply WC_no;rfl;(first|(with_reducible assumption)|(with_reducible rfl)|(with_reducible exact nn_eq)|(with_reducible exact nn_ne)|omega|decide|exact rfl))|(apply WC_bt;rfl;(first|(with_reducible assumption)|decide))|(apply WC_bf;rfl;(first|(with_reducible assumption)|decide)))
  (repeat (first|(apply WO_v;exact zqV;rfl)|refine WT_done ?_|refine WT_n ?_|(apply WT_p;rfl;exact zqI;exact zqV;rfl)|(apply WT_r;rfl;exact zqI;exact zqV;rfl)|refine WC_seq ?_|refine WO_nil ?_|refine WE_then ?_|refine WE_rounds ?_|refine WR_succ ?_|refine WC_ret ?_|refine WE_then_ret ?_|refine WC_block ?_|refine WC_exit ?_|refine WE_block_at ?_|(refine WE_block_on ?_ ?_;rfl)|refine WE_then_exit ?_|refine WE_block ?_|refine WE_block_ret ?_|refine WE_loop_exit ?_|refine WE_loop_ret ?_|refine WC_skip ?_|(apply WC_cond_t;rfl;(with_reducible rfl))|(apply WC_cond_f;rfl;(with_reducible rfl))|refine WQ_nil ?_|(apply WO_k;rfl;exact zqK;(first|refine fresh_intro ?_|refine gives_intro ?_|refine same_intro ?_))|(apply WT_k;rfl;exact zqI;exact zqK;(first|refine fresh_intro ?_|refine gives_intro ?_|refine same_intro ?_))|(apply WT_v;rfl;exact zqI;exact zqV;rfl)|refine after_free ?_|refine after_turns rfl ?_|(refine after_still ?_ ?_;(focus (exact zqN;done)))|(apply WT_po;rfl;exact zqO;rfl)|(apply WT_ro;rfl;exact zqO;rfl)|(apply WT_ko;rfl;exact zqO;rfl;(refine ⟨by first|exact After.free|exact After.turns rfl|(refine After.still ?_;exact zqN;done),?_⟩))|(apply WQ_op;exact zqV;rfl)|(apply WO_gl_in;rfl;rfl;(with_reducible rfl);rfl;rfl)|(apply WQ_gl_in;rfl;rfl;(with_reducible rfl);rfl;rfl)|(apply WO_gl_out;rfl;rfl;(with_reducible rfl);rfl;rfl;rfl)|(apply WQ_gl_out;rfl;rfl;(with_reducible rfl);rfl;rfl;rfl)|(apply WO_gl_undef;rfl;rfl;(with_reducible rfl);rfl)|(apply WQ_gl_undef;rfl;rfl;(with_reducible rfl);rfl)|(apply WO_gi_t;rfl;rfl;rfl;rfl;(first|exact dec_t zqA|(first|(with_reducible assumption)|decide)))|(apply WO_gi_f;rfl;rfl;rfl;rfl;(first|exact dec_f zqA|(first|(with_reducible assumption)|decide)))|(apply WO_go_t;rfl;rfl;rfl;rfl;(first|exact dec_f zqA|(first|(with_reducible assumption)|decide)))|(apply WO_go_f;rfl;rfl;rfl;rfl;(first|exact dec_t zqA|(first|(with_reducible assumption)|decide)))|(apply WQ_gi_t;rfl;rfl;rfl;rfl;(first|exact dec_t zqA|(first|(with_reducible assumption)|decide)))|(apply WQ_gi_f;rfl;rfl;rfl;rfl;(first|exact dec_f zqA|(first|(with_reducible assumption)|decide)))|(apply WQ_go_t;rfl;rfl;rfl;rfl;(first|exact dec_f zqA|(first|(with_reducible assumption)|decide)))|(apply WQ_go_f;rfl;rfl;rfl;rfl;(first|exact dec_t zqA|(first|(with_reducible assumption)|decide)))|(apply WC_yes;rfl;(first|(with_reducible assumption)|(with_reducible rfl)|(with_reducible exact nn_eq)|(with_reducible exact nn_ne)|omega|decide|exact rfl))|(apply WC_no;rfl;(first|(with_reducible assumption)|(with_reducible rfl)|(with_reducible exact nn_eq)|(with_reducible exact nn_ne)|omega|decide|exact rfl))|(apply WC_bt;rfl;(first|(with_reducible assumption)|decide))|(apply WC_bf;rfl;(first|(with_reducible assumption)|decide))))
  exact k.out):P:=h ⟨k⟩
end Go.Sx

/- What nets do, second part: all messages, one by one. My own work. -/
namespace Go.Sx
open Go Go.Proofs
set_option maxRecDepth 100000
set_option maxHeartbeats 4000000
attribute [local irreducible] Go.Exit.then Go.Exit.inBlock Go.Code.wp WC WO WE WQ V LoopQ FnQ Sat Star band bor IntKind.wrap WR Code.rounds WT KO
theorem net_all {F:List HP} {b:Nat}:FnF Tryz.prog 120 [.pointer (some ⟨b,0,none⟩)] [] F (fun r L'=>∃ bx,r= .func (.func 168) #[] #[.pointer (some ⟨bx,0,none⟩)]∧L'=[Cells bx 38 [.pointer (some ⟨b,0,none⟩)]]):=by
  refine FnF.mk' Tryz.func120 rfl rfl Tryz.ntmps120 rfl ?_
  repeat (first|refine gd ?_|intro _)
  (apply WE_ret rfl rfl zqR)
  · exact ⟨_,rfl,rfl⟩
  · exact entu0
theorem net_seq {b bx b0 b1 b2:Nat} {c:Cfg} {n:Nets} (hn0:n.l0.length≤4096) (hn1:n.l1.length≤4096) (hn2:n.l2.length≤4096):Seq Tryz.prog 168 [.pointer (some ⟨bx,0,none⟩)] [Cells b 94 (ncells c b0 b1 b2),Bag_msg b0 c.r0 n.l0,Bag_msg b1 c.r1 n.l1,Bag_msg b2 c.r2 n.l2,Cells bx 38 [.pointer (some ⟨b,0,none⟩)]] ((nall n).map mv):=by
  refine Seq.mk Tryz.func168 rfl Tryz.ntmps168 rfl ?_
  intro l A C hy
  simp only [app] at hy ⊢
  repeat (first|refine gd ?_|intro _)
  refine WC_rounds 4 ?_
  repeat (first|refine gd ?_|intro _|refine cal @bag_List_msg ?_)
  rename_i p0 q0
  apply WC_loopE (E0:=[(0,_),(10,_),(11,_),(15,_),(16,_)]) (fun E0 (i:Nat)=>(17,.int .i64 i)::E0) (fun i=>Own 99 15 (.slice p0 n.l0.length q0) n.l0.length (flat mc n.l0)::Cells b 94 (ncells c b0 b1 b2)::Bag_msg b0 c.r0 n.l0::Bag_msg b1 c.r1 n.l1::Bag_msg b2 c.r2 n.l2::Cells bx 38 [.pointer (some ⟨b,0,none⟩)]::A (i)) (fun i=>i≤n.l0.length) (fun i=>n.l0.length-i) 0
  · exact zqU
  · exact Nat.zero_le _
  · exact entu0
  · intro i hi
    by_cases hlt:i<n.l0.length
    · have hx:i<((nall n).map mv).length:=by simp [nall];omega
      have hxs:((nall n).map mv)[i]=mv n.l0[i]:=by simp [nall,List.getElem_append,hlt]
      have hy1:=hy i hx
      rw [hxs] at hy1
      repeat (first|rintro _ _ ⟨rfl,rfl⟩|intro _|refine gon ?_)
      refine WC_region ?_
      repeat (first|rintro _ _ ⟨rfl,rfl⟩|intro _|refine gon ?_)
      refine WC_region ?_
      repeat (first|rintro _ _ ⟨rfl,rfl⟩|intro _|refine gon ?_)
      refine WC_regionY ?_
      repeat (refine gov ?_)
      apply WMO_yield (F:=[Own 99 15 (.slice p0 n.l0.length q0) n.l0.length (flat mc n.l0)]) rfl rfl rfl hy1
      · refine Ent.drop (Ent.trans ?_ app_comm)
        exact Ent.refl
      · refine WMO_ent (M:=Own 99 15 (.slice p0 n.l0.length q0) n.l0.length (flat mc n.l0)::Cells b 94 (ncells c b0 b1 b2)::Bag_msg b0 c.r0 n.l0::Bag_msg b1 c.r1 n.l1::Bag_msg b2 c.r2 n.l2::Cells bx 38 [.pointer (some ⟨b,0,none⟩)]::A (i+1)) app_comm ?_
        repeat (refine gov ?_)
        refine WMO_nil (WME_out ?_)
        repeat (first|refine gd ?_|intro _)
        refine WE_loop (i+1) (by omega) (by omega) ?_ Ent.refl
        exact zqU
      · refine WMO_ent (M:=Own 99 15 (.slice p0 n.l0.length q0) n.l0.length (flat mc n.l0)::C) app_comm ?_
        repeat (refine gov ?_)
        refine WMO_nil (WME_out ?_)
        repeat (first|refine gd ?_|intro _)
        exact WE_seq_stop rfl rfl (by omega) (Ent.drop Ent.refl)
    · have hil:i=n.l0.length:=by omega
      subst hil
      repeat (first|refine gd ?_|intro _|refine cal @bag_List_msg ?_)
      rename_i p1 q1
      apply WC_loopE (E0:=[(0,_),(10,_),(11,_),(15,_),(16,_)]) (fun E0 (i:Nat)=>(17,.int .i64 i)::E0) (fun i=>Own 99 15 (.slice p1 n.l1.length q1) n.l1.length (flat mc n.l1)::Cells b 94 (ncells c b0 b1 b2)::Bag_msg b0 c.r0 n.l0::Bag_msg b1 c.r1 n.l1::Bag_msg b2 c.r2 n.l2::Cells bx 38 [.pointer (some ⟨b,0,none⟩)]::A (n.l0.length+i)) (fun i=>i≤n.l1.length) (fun i=>n.l1.length-i) 0
      · exact zqU
      · exact Nat.zero_le _
      · simp only [Nat.add_zero];exact entu0
      · intro i hi
        by_cases hlt:i<n.l1.length
        · have hx:(n.l0.length+i)<((nall n).map mv).length:=by simp [nall];omega
          have hxs:((nall n).map mv)[n.l0.length+i]=mv n.l1[i]:=by simp [nall,List.getElem_append,hlt,show ¬n.l0.length+i<n.l0.length by omega]
          have hy1:=hy (n.l0.length+i) hx
          rw [hxs] at hy1
          repeat (first|rintro _ _ ⟨rfl,rfl⟩|intro _|refine gon ?_)
          refine WC_region ?_
          repeat (first|rintro _ _ ⟨rfl,rfl⟩|intro _|refine gon ?_)
          refine WC_region ?_
          repeat (first|rintro _ _ ⟨rfl,rfl⟩|intro _|refine gon ?_)
          refine WC_regionY ?_
          repeat (refine gov ?_)
          apply WMO_yield (F:=[Own 99 15 (.slice p1 n.l1.length q1) n.l1.length (flat mc n.l1)]) rfl rfl rfl hy1
          · refine Ent.drop (Ent.trans ?_ app_comm)
            exact Ent.refl
          · refine WMO_ent (M:=Own 99 15 (.slice p1 n.l1.length q1) n.l1.length (flat mc n.l1)::Cells b 94 (ncells c b0 b1 b2)::Bag_msg b0 c.r0 n.l0::Bag_msg b1 c.r1 n.l1::Bag_msg b2 c.r2 n.l2::Cells bx 38 [.pointer (some ⟨b,0,none⟩)]::A (n.l0.length+i+1)) app_comm ?_
            repeat (refine gov ?_)
            refine WMO_nil (WME_out ?_)
            repeat (first|refine gd ?_|intro _)
            refine WE_loop (i+1) (by omega) (by omega) ?_ Ent.refl
            exact zqU
          · refine WMO_ent (M:=Own 99 15 (.slice p1 n.l1.length q1) n.l1.length (flat mc n.l1)::C) app_comm ?_
            repeat (refine gov ?_)
            refine WMO_nil (WME_out ?_)
            repeat (first|refine gd ?_|intro _)
            exact WE_seq_stop rfl rfl (by omega) (Ent.drop Ent.refl)
        · have hil:i=n.l1.length:=by omega
          subst hil
          repeat (first|refine gd ?_|intro _|refine cal @bag_List_msg ?_)
          rename_i p2 q2
          apply WC_loopE (E0:=[(0,_),(10,_),(11,_),(15,_),(16,_)]) (fun E0 (i:Nat)=>(17,.int .i64 i)::E0) (fun i=>Own 99 15 (.slice p2 n.l2.length q2) n.l2.length (flat mc n.l2)::Cells b 94 (ncells c b0 b1 b2)::Bag_msg b0 c.r0 n.l0::Bag_msg b1 c.r1 n.l1::Bag_msg b2 c.r2 n.l2::Cells bx 38 [.pointer (some ⟨b,0,none⟩)]::A (n.l0.length+n.l1.length+i)) (fun i=>i≤n.l2.length) (fun i=>n.l2.length-i) 0
          · exact zqU
          · exact Nat.zero_le _
          · simp only [Nat.add_zero];exact entu0
          · intro i hi
            by_cases hlt:i<n.l2.length
            · have hx:(n.l0.length+n.l1.length+i)<((nall n).map mv).length:=by simp [nall];omega
              have hxs:((nall n).map mv)[n.l0.length+n.l1.length+i]=mv n.l2[i]:=by simp [nall,List.getElem_append,hlt,show ¬n.l0.length+n.l1.length+i<n.l0.length by omega,show ¬n.l0.length+n.l1.length+i-n.l0.length<n.l1.length by omega,show n.l0.length+n.l1.length+i-n.l0.length-n.l1.length=i by omega]
              have hy1:=hy (n.l0.length+n.l1.length+i) hx
              rw [hxs] at hy1
              repeat (first|rintro _ _ ⟨rfl,rfl⟩|intro _|refine gon ?_)
              refine WC_region ?_
              repeat (first|rintro _ _ ⟨rfl,rfl⟩|intro _|refine gon ?_)
              refine WC_region ?_
              repeat (first|rintro _ _ ⟨rfl,rfl⟩|intro _|refine gon ?_)
              refine WC_regionY ?_
              repeat (refine gov ?_)
              apply WMO_yield (F:=[Own 99 15 (.slice p2 n.l2.length q2) n.l2.length (flat mc n.l2)]) rfl rfl rfl hy1
              · refine Ent.drop (Ent.trans ?_ app_comm)
                exact Ent.refl
              · refine WMO_ent (M:=Own 99 15 (.slice p2 n.l2.length q2) n.l2.length (flat mc n.l2)::Cells b 94 (ncells c b0 b1 b2)::Bag_msg b0 c.r0 n.l0::Bag_msg b1 c.r1 n.l1::Bag_msg b2 c.r2 n.l2::Cells bx 38 [.pointer (some ⟨b,0,none⟩)]::A (n.l0.length+n.l1.length+i+1)) app_comm ?_
                repeat (refine gov ?_)
                refine WMO_nil (WME_out ?_)
                repeat (first|refine gd ?_|intro _)
                refine WE_loop (i+1) (by omega) (by omega) ?_ Ent.refl
                exact zqU
              · refine WMO_ent (M:=Own 99 15 (.slice p2 n.l2.length q2) n.l2.length (flat mc n.l2)::C) app_comm ?_
                repeat (refine gov ?_)
                refine WMO_nil (WME_out ?_)
                repeat (first|refine gd ?_|intro _)
                exact WE_seq_stop rfl rfl (by omega) (Ent.drop Ent.refl)
            · have hil:i=n.l2.length:=by omega
              subst hil
              repeat (first|refine gd ?_|intro _)
              refine WE_seq_done rfl rfl ?_
              have hlen:((nall n).map mv).length=n.l0.length+n.l1.length+n.l2.length:=by simp [nall];omega
              rw [hlen]
              exact Ent.drop Ent.refl
theorem cfg_roomsN {c:Cfg} (h:checkB c=true):c.r0≤64∧c.r1≤64∧c.r2≤64:=by
  simp only [checkB,fitsB,Bool.and_eq_true,decide_eq_true_eq] at h
  omega
attribute [local irreducible] WM WME WMO BeginQ RoundEnd FnQM Code.wpIn
theorem net_Empty {F:List HP} {b:Nat} {c:Cfg} {n:Nets}:FnF Tryz.prog 62 [.pointer (some ⟨b,0,none⟩)] [NetP b c n] F (fun r L'=>r= .bool (decide (nall n=[]))∧L'=[NetP b c n]):=by
  refine FnF.mkM Tryz.func62 rfl rfl Tryz.ntmps62 rfl ?_
  refine net_open fun b0 b1 b2 ⟨hc,hn0,hn1,hn2⟩=>?_
  obtain ⟨r0,r1,r2⟩:=cfg_roomsN hc
  repeat (first|refine gd ?_|intro _|refine cal @net_all ?_)
  rename_i bt bx
  apply WC_rangeFunc (J:=fun i=>match i with|0=>Cells bt 4 [.bool false]::F|_+1=>[Fact False]) (Cells b 94 (ncells c b0 b1 b2)::Bag_msg b0 c.r0 n.l0::Bag_msg b1 c.r1 n.l1::Bag_msg b2 c.r2 n.l2::Cells bx 38 [.pointer (some ⟨b,0,none⟩)]::Cells bt 4 [.bool false]::F) rfl (enters_of Tryz.func168 rfl rfl) (net_seq (b:=b) (c:=c) (n:=n) (b0:=b0) (b1:=b1) (b2:=b2) (by omega) (by omega) (by omega))
  · dsimp only [app];exact entu0
  · rfl
  · intro l r D F' i hi hr
    cases i with
    |succ i=>
     exact WM_absurd (M:=[]) (by dsimp only [app];exact entu0)
    |zero=>
     dsimp only [app]
     repeat (first|intro _|refine gom ?_)
     refine WME_begin hr ?_
     repeat (first|intro _|refine gom ?_)
     exact WME_stop (by exact entu0)
  · intro D
    by_cases h:nall n=[]
    · have e0:((nall n).map mv).length=0:=by simp [h]
      rw [e0]
      dsimp only [app]
      repeat (first|intro _|refine gom ?_)
      apply WME_retM rfl rfl zqR
      · exact ⟨by rw [retVal_one,decide_eq_true h],rfl⟩
      · (apply net_in;(focus (exact entu0));all_goals exact zqS)
    · have hl:∃ k,((nall n).map mv).length=k+1:=by
        cases e:nall n with
        |nil=>exact absurd e h
        |cons a r=>exact ⟨r.length,by simp⟩
      obtain ⟨k,hk⟩:=hl
      rw [hk]
      exact WME_absurd (M:=[]) (by dsimp only [app];exact entu0)
  · intro D h0
    have h:nall n≠[]:=by rintro h;rw [h] at h0;simp at h0
    repeat (first|intro _|refine gom ?_)
    apply WME_retM rfl rfl zqR
    · exact ⟨by rw [retVal_one,decide_eq_false h],rfl⟩
    · (apply net_in;(focus (exact entu0));all_goals exact zqS)
end Go.Sx
