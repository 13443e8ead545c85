/- CaR7: several of my texts as one. My own work. -/
import Derived.Test.YtjihlpjnebdiiabGreatZbg
import Derived.Test.YtjihlpjnebdiiabGreatZbf
import Derived.Test.YtjihlpjnebdiiabGreatZaz
import Derived.Test.YtjihlpjnebdiiabGreatZba
set_option linter.unusedVariables false
set_option linter.unusedSectionVars false
set_option linter.unusedSimpArgs false
set_option maxRecDepth 100000
set_option maxHeartbeats 4000000
namespace Go.Sx
open Go Go.Proofs Tryz
section
attribute [local irreducible] Exit.then Exit.inBlock Code.wp WC WO WE WQ V aW dL Sat bz bK dU IntKind.wrap WR Code.rounds WT KO
theorem rE {Q P:Prop} (k:Q) (h:Hid Q→P:=by
  intro k
  first
  |(refine an ?_;refine bF (id:=11) .true (pl:= .p 0 <| .p 1 <| .p 2 <| .p 4 <| .p 6 <| .r 3 <| .r 5 <| .e true [(7,.done)]) k.out)
  |(refine an ?_;refine bF (id:=12) .true (pl:= .p 0 <| .p 2 <| .p 3 <| .p 4 <| .p 6 <| .r 1 <| .r 5 <| .r 7 <| .p 8 <| .e true [(9,.p 10 <| .p 11 <| .done)]) k.out)
  |(refine an ?_;refine bF (id:=16) .true (pl:= .p 0 <| .p 1 <| .p 2 <| .p 4 <| .p 6 <| .p 8 <| .p 10 <| .r 3 <| .r 5 <| .r 7 <| .r 9 <| .r 11 <| .e true [(12,.p 13 <| .done)]) k.out)
  |(refine an ?_;refine bF (id:=19) .true (pl:= .p 0 <| .p 1 <| .p 2 <| .p 4 <| .p 6 <| .r 3 <| .r 5 <| .r 7 <| .e true [(8,.p 9 <| .done)]) k.out)
  |(refine an ?_;refine bF (id:=21) .true (pl:= .p 0 <| .p 1 <| .p 2 <| .p 4 <| .r 3 <| .r 5 <| .e true [(6,.p 7 <| .done)]) k.out)
  |(refine an ?_;refine bF (id:=23) .true (pl:= .p 0 <| .p 1 <| .p 2 <| .p 4 <| .r 3 <| .r 5 <| .e true [(6,.p 7 <| .done)]) k.out)
  |(refine an ?_;refine bF (id:=28) .true (pl:= .p 0 <| .p 1 <| .p 2 <| .p 4 <| .r 3 <| .r 5 <| .e true [(6,.p 7 <| .p 8 <| .p 9 <| .e false [(10,.e false [(11,.p 12 <| .done)])]),(10,.e true [(6,.p 7 <| .p 8 <| .p 9 <| .e false [(11,.p 12 <| .done)])])]) k.out)
  |(refine an ?_;refine bF (id:=30) .true (pl:= .p 0 <| .p 1 <| .p 2 <| .p 4 <| .r 3 <| .r 5 <| .e true [(6,.p 7 <| .p 8 <| .p 9 <| .p 10 <| .e false [(11,.e false [(12,.p 13 <| .p 14 <| .done)])]),(11,.e true [(6,.p 7 <| .p 8 <| .p 9 <| .p 10 <| .e false [(12,.p 13 <| .p 14 <| .done)])])]) k.out)
  |(refine an ?_;refine bF (id:=34) .true (pl:= .p 0 <| .p 1 <| .p 2 <| .p 4 <| .p 6 <| .r 3 <| .r 5 <| .r 7 <| .r 8 <| .e true [(9,.done)]) k.out)):P:=h ⟨k⟩
theorem GY {F:List HP} {b a f e:Nat} {c:au} {ap:Int} {m:bA} {k:cT} (hc:aB c=true) (hg:∀ m∈k.aP,nf m∧m.gY≤9223372036854775806) (h:dI c ap m=true) (g:m.ah=9) :
    az prog 267 [.pointer (some ⟨b,0,none⟩),mv m] (kU b a f e c ap k) F
      (fun r L'=>r= .tuple [mv (dg c ap k m),.bool (cJ c ap k m),.int .i64 (c4 c ap k m)].toArray∧L'=kU b a f e c ap (cw c ap k m)):=by
  have fB:=fun F=>jP (F:=F) (m:=m) (gA hc);have cZ:=fun F=>gW (F:=F) (k:=m.ah);have h':=h;simp only [dI,Bool.and_eq_true,decide_eq_true_eq,Bool.not_eq_true',decide_eq_false_iff_not] at h';obtain ⟨⟨h1,h2⟩,h3⟩:=h';simp only [decide_eq_true h1] at fB;simp only [decide_eq_false h2] at cZ;have vR:=fun F=>jq (F:=F) (b:=b) (a:=a) (f:=f) (e:=e) (c:=c) (ap:=ap) (k:=k) (aa:=m.aa);have sy:=fun F=>iN (F:=F) (b:=a) (c:=c) (l:=k.al) (aa:=m.aa);unfold dg cJ c4 cw;simp only [h,g,if_true,Int.reduceEq,if_false,or_true,or_false,Int.reduceLE,and_true,and_false,decide_false,true_or,false_or];have hD:=fun F=>KW (F:=F) (b:=f) (ak:=c.aS) (l:=k.aP) (aa:=m.aa) hg;have oG:=fun F=>yn (F:=F) (b:=f) (ak:=c.aS) (l:=fW k.aP m.aa) (aa:=m.aa) (QT (fun x hx=>(hg x hx).1.2.2.1));by_cases h4:lB k.aP m.aa=0
  ·have e1:qz (lB k.aP m.aa)=0:=if_pos h4;have e3:sn c k m=dn c ⟨k.al,fW k.aP m.aa,k.bD⟩ m.aa:=if_pos h4;rw [e1,e3];simp only [h4] at hD;cases h5:l9 (fW k.aP m.aa) m.aa with
   |false=>
    have e2:dn c ⟨k.al,fW k.aP m.aa,k.bD⟩ m.aa=⟨k.al,iz (fW k.aP m.aa) m.aa,k.bD⟩:=by unfold dn iz;rw [h5];rfl
    rw [e2];simp only [h5] at oG;refine ay func267 ntmps267 ?_;repeat' (first|refine go ?_|intro _|refine rE ?_|refine av ?_|refine ae @fB ?_|refine ae @cZ ?_|refine ae @vR ?_|refine ae @hD ?_|refine ae @oG ?_|refine bj ?_ ?_|fail)
    all_goals exact aM
   |true=>
    simp only [h5] at oG;cases h6:(fR (fW k.aP m.aa) m.aa).granted with
    |false=>
     have e2:dn c ⟨k.al,fW k.aP m.aa,k.bD⟩ m.aa=⟨db c k.al m.aa (fR (fW k.aP m.aa) m.aa).bI (fR (fW k.aP m.aa) m.aa).ag,iz (fW k.aP m.aa) m.aa,k.bD⟩:=by unfold dn;rw [h5,if_pos rfl,h6];rfl
     rw [e2];have j9:=fun F=>jO (F:=F) (b:=a) (c:=c) (l:=k.al) (aa:=m.aa) (st:=(fR (fW k.aP m.aa) m.aa).bI) (w:=(fR (fW k.aP m.aa) m.aa).ag);refine ay func267 ntmps267 ?_;repeat' (first|refine go ?_|intro _|refine rE ?_|refine av ?_|refine ae @fB ?_|refine ae @cZ ?_|refine ae @vR ?_|refine ae @hD ?_|refine ae @oG ?_|refine ae @sy ?_|refine ae @j9 ?_|refine bj ?_ ?_|fail)
     all_goals exact aM
    |true=>
     have e2:dn c ⟨k.al,fW k.aP m.aa,k.bD⟩ m.aa=⟨db c k.al m.aa (fR (fW k.aP m.aa) m.aa).bI (bg c k.al m.aa).ag,iz (fW k.aP m.aa) m.aa,k.bD⟩:=by unfold dn;rw [h5,if_pos rfl,h6];rfl
     rw [e2];have j9:=fun F=>jO (F:=F) (b:=a) (c:=c) (l:=k.al) (aa:=m.aa) (st:=(fR (fW k.aP m.aa) m.aa).bI) (w:=(bg c k.al m.aa).ag);refine ay func267 ntmps267 ?_;repeat' (first|refine go ?_|intro _|refine rE ?_|refine av ?_|refine ae @fB ?_|refine ae @cZ ?_|refine ae @vR ?_|refine ae @hD ?_|refine ae @oG ?_|refine ae @sy ?_|refine ae @j9 ?_|refine bj ?_ ?_|fail)
     all_goals exact aM
  ·have e1:qz (lB k.aP m.aa)=7:=if_neg h4;have e3:sn c k m=k:=if_neg h4;have e4:fW k.aP m.aa=k.aP:=if_neg h4;rw [e1,e3];rw [e4] at hD;refine ay func267 ntmps267 ?_;repeat' (first|refine go ?_|intro _|refine rE ?_|refine av ?_|refine ae @fB ?_|refine ae @cZ ?_|refine ae @vR ?_|refine ae @hD ?_|refine bj ?_ ?_|fail)
   all_goals exact aM
theorem GZ {F:List HP} {b a f e:Nat} {c:au} {ap:Int} {m:bA} {k:cT} (hc:aB c=true) (hg:∀ m∈k.aP,nf m∧m.gY≤9223372036854775806) :
    az prog 267 [.pointer (some ⟨b,0,none⟩),mv m] (kU b a f e c ap k) F
      (fun r L'=>r= .tuple [mv (dg c ap k m),.bool (cJ c ap k m),.int .i64 (c4 c ap k m)].toArray∧L'=kU b a f e c ap (cw c ap k m)):=by
  by_cases h:dI c ap m=true
  ·have h':=h;simp only [dI,Bool.and_eq_true,decide_eq_true_eq,Bool.not_eq_true',decide_eq_false_iff_not] at h';obtain ⟨⟨h1,h2⟩,h3⟩:=h';have hk:=h1.2.1;have sR:m.ah=4∨m.ah=5∨m.ah=6∨m.ah=7∨m.ah=8∨m.ah=9∨m.ah=10:=by
     unfold cA at h2;omega
   rcases sR with g|g|g|g|g|g|g
   ·exact GU hc hg h g
   ·exact GV hc hg h g
   ·exact GW hc hg h g
   ·exact GR hc hg h g
   ·exact GS hc hg h g
   ·exact GY hc hg h g
   ·exact EL hc hg h g
  ·exact CM hc hg h
theorem IR {F:List HP} {b:Nat} {c:au} {ap:Int} {m:bA} {k:cT} (hg:∀ m∈k.aP,nf m∧m.gY≤9223372036854775806) :
    az prog 267 [.pointer (some ⟨b,0,none⟩),mv m] [iE b c ap k] F
      (fun r L'=>r= .tuple [mv (dg c ap k m),.bool (cJ c ap k m),.int .i64 (c4 c ap k m)].toArray∧L'=[iE b c ap (cw c ap k m)]):=
  lZ (fun a f e hf=>GZ hf.1 hg) (fb func267 rfl rfl)
theorem DB {F:List HP} {b:Nat} {c:au} {ap aa ah:Int} {k:cT} (hI:cj c k.al) :
    az prog 96 [.pointer (some ⟨b,0,none⟩),.int .i64 aa,.int .i64 ah] [iE b c ap k] F (fun r L'=>r= .tuple [mv (dm c ap k aa ah),.int .i64 (dd c k aa ah)].toArray∧L'=[iE b c ap (cH c k aa ah)]):=
  lZ (fun a f e hf=>IH hf.1 hI) (fb func96 rfl rfl)
theorem G0 {F:List HP} {b:Nat} {c:au} {ap s w:Int} {k:cT} (hI:cj c k.al) (uG:∀ x∈k.al,0≤x.st) :
    az prog 183 [.pointer (some ⟨b,0,none⟩),.int .i64 s,.int .i64 w] [iE b c ap k] F
      (fun r L'=>r= .tuple [mv (jT c ap k s w),.bool (iI c k s w),.int .i64 (jH c k s w)].toArray∧L'=[iE b c ap (gr c k s w)]):=
  lZ (fun a f e hf=>EK hf.1 hI uG) (fb func183 rfl rfl)
theorem EN {F:List HP} {b:Nat} {c:au} {ap:Int} {k:cT} (hm:∀ m∈k.aP,bG c m.aa=true) :
    az prog 179 [.pointer (some ⟨b,0,none⟩)] [iE b c ap k] F (fun r L'=>r= .tuple [mv (iW c ap k),.bool (gT k)].toArray∧L'=[iE b c ap (gU c k)]):=
  lZ (fun a f e hf=>CL hf.1 hm) (fb func179 rfl rfl)
theorem A2 {F:List HP} {b:Nat} {c:au} {ap:Int} {x:c5} {k:cT} (hx:x.wf) :
    az prog 182 [.pointer (some ⟨b,0,none⟩),ov x] [iE b c ap k] F (fun r L'=>r= .tuple [.int .i64 (nJ c k x),.int .i64 (kf c k x)].toArray∧L'=[iE b c ap (ff c k x)]):=
  lZ (fun a f e hf=>Lx hf.1 hx) (fb func182 rfl rfl)
end
end Go.Sx
