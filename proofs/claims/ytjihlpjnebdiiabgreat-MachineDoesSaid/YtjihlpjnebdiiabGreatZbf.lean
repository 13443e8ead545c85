/- CaR6: several of my texts as one. My own work. -/
import Derived.Test.YtjihlpjnebdiiabGreatZbc
set_option linter.unusedVariables false
set_option linter.unusedSectionVars false
set_option linter.unusedSimpArgs false
set_option maxRecDepth 100000
set_option maxHeartbeats 4000000
namespace Go.Sx
open Go Go.Proofs Tryz
section
attribute [local irreducible] Exit.then Exit.inBlock Code.wp WC WO WE WQ V aW dL Sat bz bK dU IntKind.wrap WR Code.rounds WT KO
theorem jl {Q P:Prop} (k:Q) (h:Hid Q→P:=by
  intro k
  first
  |(refine an ?_;refine bF (id:=11) .true (pl:= .p 0 <| .p 1 <| .p 2 <| .p 4 <| .p 6 <| .r 3 <| .r 5 <| .e true [(7,.done)]) k.out)
  |(refine an ?_;refine bF (id:=12) .true (pl:= .p 0 <| .p 2 <| .p 3 <| .p 4 <| .p 6 <| .r 1 <| .r 5 <| .r 7 <| .p 8 <| .e true [(9,.p 10 <| .p 11 <| .done)]) k.out)
  |(refine an ?_;refine bF (id:=16) .true (pl:= .p 0 <| .p 1 <| .p 2 <| .p 4 <| .p 6 <| .p 8 <| .p 10 <| .r 3 <| .r 5 <| .r 7 <| .r 9 <| .r 11 <| .e true [(12,.p 13 <| .done)]) k.out)
  |(refine an ?_;refine bF (id:=19) .true (pl:= .p 0 <| .p 1 <| .p 2 <| .p 4 <| .p 6 <| .r 3 <| .r 5 <| .r 7 <| .e true [(8,.p 9 <| .done)]) k.out)
  |(refine an ?_;refine bF (id:=21) .true (pl:= .p 0 <| .p 1 <| .p 2 <| .p 4 <| .r 3 <| .r 5 <| .e true [(6,.p 7 <| .done)]) k.out)
  |(refine an ?_;refine bF (id:=23) .true (pl:= .p 0 <| .p 1 <| .p 2 <| .p 4 <| .r 3 <| .r 5 <| .e true [(6,.p 7 <| .done)]) k.out)
  |(refine an ?_;refine bF (id:=28) .true (pl:= .p 0 <| .p 1 <| .p 2 <| .p 4 <| .r 3 <| .r 5 <| .e true [(6,.p 7 <| .p 8 <| .p 9 <| .e false [(10,.e false [(11,.p 12 <| .done)])]),(10,.e true [(6,.p 7 <| .p 8 <| .p 9 <| .e false [(11,.p 12 <| .done)])])]) k.out)
  |(refine an ?_;refine bF (id:=30) .true (pl:= .p 0 <| .p 1 <| .p 2 <| .p 4 <| .r 3 <| .r 5 <| .e true [(6,.p 7 <| .p 8 <| .p 9 <| .p 10 <| .e false [(11,.e false [(12,.p 13 <| .p 14 <| .done)])]),(11,.e true [(6,.p 7 <| .p 8 <| .p 9 <| .p 10 <| .e false [(12,.p 13 <| .p 14 <| .done)])])]) k.out)
  |(refine an ?_;refine bF (id:=34) .true (pl:= .p 0 <| .p 1 <| .p 2 <| .p 4 <| .p 6 <| .r 3 <| .r 5 <| .r 7 <| .r 8 <| .e true [(9,.done)]) k.out)):P:=h ⟨k⟩
theorem GR {F:List HP} {b a f e:Nat} {c:au} {ap:Int} {m:bA} {k:cT} (hc:aB c=true) (hg:∀ m∈k.aP,nf m∧m.gY≤9223372036854775806) (h:dI c ap m=true) (g:m.ah=7) :
    az prog 267 [.pointer (some ⟨b,0,none⟩),mv m] (kU b a f e c ap k) F
      (fun r L'=>r= .tuple [mv (dg c ap k m),.bool (cJ c ap k m),.int .i64 (c4 c ap k m)].toArray∧L'=kU b a f e c ap (cw c ap k m)):=by
  have fB:=fun F=>jP (F:=F) (m:=m) (gA hc);have cZ:=fun F=>gW (F:=F) (k:=m.ah);have h':=h;simp only [dI,Bool.and_eq_true,decide_eq_true_eq,Bool.not_eq_true',decide_eq_false_iff_not] at h';obtain ⟨⟨h1,h2⟩,h3⟩:=h';simp only [decide_eq_true h1] at fB;simp only [decide_eq_false h2] at cZ;have vR:=fun F=>jq (F:=F) (b:=b) (a:=a) (f:=f) (e:=e) (c:=c) (ap:=ap) (k:=k) (aa:=m.aa);have sy:=fun F=>iN (F:=F) (b:=a) (c:=c) (l:=k.al) (aa:=m.aa);unfold dg cJ c4 cw;simp only [h,g,if_true,Int.reduceEq,if_false,or_true,or_false,Int.reduceLE,and_true,and_false,decide_false,true_or,false_or];have hD:=fun F=>Bs (F:=F) (b:=f) (ak:=c.aS) (l:=k.aP) (aa:=m.aa) (aH:=m.aH) (bI:=m.bI) (w:=m.ag) (fun x hx=>(hg x hx).1);have oG:=fun F=>yn (F:=F) (b:=f) (ak:=c.aS) (l:=dw k.aP m.aa m.aH m.bI m.ag) (aa:=m.aa) (Oa (fun x hx=>(hg x hx).1.2.2.1));by_cases h4:fm k.aP m.aa m.aH m.bI=0
  ·have e1:qz (fm k.aP m.aa m.aH m.bI)=0:=if_pos h4;have e3:o8 c k m=dn c ⟨k.al,dw k.aP m.aa m.aH m.bI m.ag,k.bD⟩ m.aa:=if_pos h4;rw [e1,e3];simp only [h4] at hD;cases h5:l9 (dw k.aP m.aa m.aH m.bI m.ag) m.aa with
   |false=>
    have e2:dn c ⟨k.al,dw k.aP m.aa m.aH m.bI m.ag,k.bD⟩ m.aa=⟨k.al,iz (dw k.aP m.aa m.aH m.bI m.ag) m.aa,k.bD⟩:=by unfold dn iz;rw [h5];rfl
    rw [e2];simp only [h5] at oG;refine ay func267 ntmps267 ?_;repeat' (first|refine go ?_|intro _|refine jl ?_|refine av ?_|refine ae @fB ?_|refine ae @cZ ?_|refine ae @vR ?_|refine ae @hD ?_|refine ae @oG ?_|refine bj ?_ ?_|fail)
    all_goals exact aM
   |true=>
    simp only [h5] at oG;cases h6:(fR (dw k.aP m.aa m.aH m.bI m.ag) m.aa).granted with
    |false=>
     have e2:dn c ⟨k.al,dw k.aP m.aa m.aH m.bI m.ag,k.bD⟩ m.aa=⟨db c k.al m.aa (fR (dw k.aP m.aa m.aH m.bI m.ag) m.aa).bI (fR (dw k.aP m.aa m.aH m.bI m.ag) m.aa).ag,iz (dw k.aP m.aa m.aH m.bI m.ag) m.aa,k.bD⟩:=by unfold dn;rw [h5,if_pos rfl,h6];rfl
     rw [e2];have j9:=fun F=>jO (F:=F) (b:=a) (c:=c) (l:=k.al) (aa:=m.aa) (st:=(fR (dw k.aP m.aa m.aH m.bI m.ag) m.aa).bI) (w:=(fR (dw k.aP m.aa m.aH m.bI m.ag) m.aa).ag);refine ay func267 ntmps267 ?_;repeat' (first|refine go ?_|intro _|refine jl ?_|refine av ?_|refine ae @fB ?_|refine ae @cZ ?_|refine ae @vR ?_|refine ae @hD ?_|refine ae @oG ?_|refine ae @sy ?_|refine ae @j9 ?_|refine bj ?_ ?_|fail)
     all_goals exact aM
    |true=>
     have e2:dn c ⟨k.al,dw k.aP m.aa m.aH m.bI m.ag,k.bD⟩ m.aa=⟨db c k.al m.aa (fR (dw k.aP m.aa m.aH m.bI m.ag) m.aa).bI (bg c k.al m.aa).ag,iz (dw k.aP m.aa m.aH m.bI m.ag) m.aa,k.bD⟩:=by unfold dn;rw [h5,if_pos rfl,h6];rfl
     rw [e2];have j9:=fun F=>jO (F:=F) (b:=a) (c:=c) (l:=k.al) (aa:=m.aa) (st:=(fR (dw k.aP m.aa m.aH m.bI m.ag) m.aa).bI) (w:=(bg c k.al m.aa).ag);refine ay func267 ntmps267 ?_;repeat' (first|refine go ?_|intro _|refine jl ?_|refine av ?_|refine ae @fB ?_|refine ae @cZ ?_|refine ae @vR ?_|refine ae @hD ?_|refine ae @oG ?_|refine ae @sy ?_|refine ae @j9 ?_|refine bj ?_ ?_|fail)
     all_goals exact aM
  ·have e1:qz (fm k.aP m.aa m.aH m.bI)=7:=if_neg h4;have e3:o8 c k m=k:=if_neg h4;have e4:dw k.aP m.aa m.aH m.bI m.ag=k.aP:=if_neg h4;rw [e1,e3];rw [e4] at hD;refine ay func267 ntmps267 ?_;repeat' (first|refine go ?_|intro _|refine jl ?_|refine av ?_|refine ae @fB ?_|refine ae @cZ ?_|refine ae @vR ?_|refine ae @hD ?_|refine bj ?_ ?_|fail)
   all_goals exact aM
theorem GS {F:List HP} {b a f e:Nat} {c:au} {ap:Int} {m:bA} {k:cT} (hc:aB c=true) (hg:∀ m∈k.aP,nf m∧m.gY≤9223372036854775806) (h:dI c ap m=true) (g:m.ah=8) :
    az prog 267 [.pointer (some ⟨b,0,none⟩),mv m] (kU b a f e c ap k) F
      (fun r L'=>r= .tuple [mv (dg c ap k m),.bool (cJ c ap k m),.int .i64 (c4 c ap k m)].toArray∧L'=kU b a f e c ap (cw c ap k m)):=by
  have fB:=fun F=>jP (F:=F) (m:=m) (gA hc);have cZ:=fun F=>gW (F:=F) (k:=m.ah);have h':=h;simp only [dI,Bool.and_eq_true,decide_eq_true_eq,Bool.not_eq_true',decide_eq_false_iff_not] at h';obtain ⟨⟨h1,h2⟩,h3⟩:=h';simp only [decide_eq_true h1] at fB;simp only [decide_eq_false h2] at cZ;have vR:=fun F=>jq (F:=F) (b:=b) (a:=a) (f:=f) (e:=e) (c:=c) (ap:=ap) (k:=k) (aa:=m.aa);have sy:=fun F=>iN (F:=F) (b:=a) (c:=c) (l:=k.al) (aa:=m.aa);unfold dg cJ c4 cw;simp only [h,g,if_true,Int.reduceEq,if_false,or_true,or_false,Int.reduceLE,and_true,and_false,decide_false,true_or,false_or];by_cases Xe:(bg c k.al m.aa).st=3
  ·have hD:=fun F=>Gw (F:=F) (b:=f) (ak:=c.aS) (l:=k.aP) (aa:=m.aa) (aH:=m.aH) (fun x hx=>(hg x hx).1);have oG:=fun F=>yn (F:=F) (b:=f) (ak:=c.aS) (l:=dy k.aP m.aa m.aH) (aa:=m.aa) (Ld (fun x hx=>(hg x hx).1.2.2.1));by_cases h4:fm k.aP m.aa m.aH 4=0
   ·have e1:u5 c k m=0:=by unfold u5;rw [if_pos Xe];exact if_pos h4
    have e3:p8 c k m=dn c ⟨k.al,dy k.aP m.aa m.aH,k.bD⟩ m.aa:=if_pos e1;rw [e1,e3];simp only [h4] at hD;cases h5:l9 (dy k.aP m.aa m.aH) m.aa with
    |false=>
     have e2:dn c ⟨k.al,dy k.aP m.aa m.aH,k.bD⟩ m.aa=⟨k.al,iz (dy k.aP m.aa m.aH) m.aa,k.bD⟩:=by unfold dn iz;rw [h5];rfl
     rw [e2];simp only [h5] at oG;refine ay func267 ntmps267 ?_;repeat' (first|refine go ?_|intro _|refine jl ?_|refine av ?_|refine ae @fB ?_|refine ae @cZ ?_|refine ae @vR ?_|refine ae @hD ?_|refine ae @oG ?_|refine bj ?_ ?_|fail)
     all_goals exact aM
    |true=>
     simp only [h5] at oG;cases h6:(fR (dy k.aP m.aa m.aH) m.aa).granted with
     |false=>
      have e2:dn c ⟨k.al,dy k.aP m.aa m.aH,k.bD⟩ m.aa=⟨db c k.al m.aa (fR (dy k.aP m.aa m.aH) m.aa).bI (fR (dy k.aP m.aa m.aH) m.aa).ag,iz (dy k.aP m.aa m.aH) m.aa,k.bD⟩:=by unfold dn;rw [h5,if_pos rfl,h6];rfl
      rw [e2];have j9:=fun F=>jO (F:=F) (b:=a) (c:=c) (l:=k.al) (aa:=m.aa) (st:=(fR (dy k.aP m.aa m.aH) m.aa).bI) (w:=(fR (dy k.aP m.aa m.aH) m.aa).ag);refine ay func267 ntmps267 ?_;repeat' (first|refine go ?_|intro _|refine jl ?_|refine av ?_|refine ae @fB ?_|refine ae @cZ ?_|refine ae @vR ?_|refine ae @hD ?_|refine ae @oG ?_|refine ae @sy ?_|refine ae @j9 ?_|refine bj ?_ ?_|fail)
      all_goals exact aM
     |true=>
      have e2:dn c ⟨k.al,dy k.aP m.aa m.aH,k.bD⟩ m.aa=⟨db c k.al m.aa (fR (dy k.aP m.aa m.aH) m.aa).bI (bg c k.al m.aa).ag,iz (dy k.aP m.aa m.aH) m.aa,k.bD⟩:=by unfold dn;rw [h5,if_pos rfl,h6];rfl
      rw [e2];have j9:=fun F=>jO (F:=F) (b:=a) (c:=c) (l:=k.al) (aa:=m.aa) (st:=(fR (dy k.aP m.aa m.aH) m.aa).bI) (w:=(bg c k.al m.aa).ag);refine ay func267 ntmps267 ?_;repeat' (first|refine go ?_|intro _|refine jl ?_|refine av ?_|refine ae @fB ?_|refine ae @cZ ?_|refine ae @vR ?_|refine ae @hD ?_|refine ae @oG ?_|refine ae @sy ?_|refine ae @j9 ?_|refine bj ?_ ?_|fail)
      all_goals exact aM
   ·have e1:u5 c k m=7:=by unfold u5;rw [if_pos Xe];exact if_neg h4
    have e3:p8 c k m=k:=by unfold p8;rw [e1];rfl
    have e4:dy k.aP m.aa m.aH=k.aP:=if_neg h4;rw [e1,e3];rw [e4] at hD;refine ay func267 ntmps267 ?_;repeat' (first|refine go ?_|intro _|refine jl ?_|refine av ?_|refine ae @fB ?_|refine ae @cZ ?_|refine ae @vR ?_|refine ae @hD ?_|refine bj ?_ ?_|fail)
    all_goals exact aM
  ·have e1:u5 c k m=7:=if_neg Xe;have e3:p8 c k m=k:=by unfold p8;rw [e1];rfl
   rw [e1,e3];refine ay func267 ntmps267 ?_;repeat' (first|refine go ?_|intro _|refine jl ?_|refine av ?_|refine ae @fB ?_|refine ae @cZ ?_|refine ae @vR ?_|refine bj ?_ ?_|fail)
   all_goals exact aM
end
end Go.Sx
