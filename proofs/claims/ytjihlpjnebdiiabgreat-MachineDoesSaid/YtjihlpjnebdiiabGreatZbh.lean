/- HomR5, HomW: several of my texts as one. My own work. -/
import Derived.Test.YtjihlpjnebdiiabGreatZbg
set_option linter.unusedVariables false
set_option linter.unusedSectionVars false
set_option linter.unusedSimpArgs false
set_option maxRecDepth 100000
set_option maxHeartbeats 4000000
namespace Go.Sx
open Go Go.Proofs Tryz
section
theorem zD {xs:List kW} {i:Nat} (hi:i<xs.length) {e:dP} {a:Option Addr} {k:Nat}:aV (aj zJ xs) (i*5) (Ao e a k)=aj zJ (xs.set i (e,a,k)):=IP hi (e,a,k)
attribute [local irreducible] Exit.then Exit.inBlock Code.wp WC WO WE WQ V aW dL Sat bz bK dU IntKind.wrap WR Code.rounds WT KO
theorem pH {Q P:Prop} (k:Q) (h:Hid Q→P:=by
  intro k
  first
  |(refine an ?_;refine bF (id:=6) (.only [11]) (pl:= .p 0 <| .p 1 <| .p 2 <| .p 4 <| .r 3 <| .r 5 <| .e true [(6,.p 7 <| .p 8 <| .p 9 <| .e true [(10,.e true [(11,.n [] <| .p 12 <| .done)])]),(10,.e true [(6,.p 7 <| .p 8 <| .p 9 <| .e true [(11,.n [] <| .p 12 <| .done)])])]) k.out)
  |(refine an ?_;refine bF (id:=7) (.only [10,15]) (pl:= .p 0 <| .p 1 <| .p 2 <| .p 4 <| .r 3 <| .r 5 <| .p 6 <| .r 7 <| .r 8 <| .r 9 <| .e true [(10,.n [15] <| .p 11 <| .p 12 <| .p 13 <| .e true [(14,.e true [(15,.n [] <| .p 16 <| .done)])]),(14,.e true [(10,.n [15] <| .p 11 <| .p 12 <| .p 13 <| .e true [(15,.n [] <| .p 16 <| .done)])])]) k.out)
  |(refine an ?_;refine bF (id:=18) (.only [7]) (pl:= .p 0 <| .p 1 <| .p 2 <| .p 4 <| .p 5 <| .r 3 <| .r 6 <| .e true [(7,.n [] <| .done)]) k.out)
  |(refine an ?_;refine bF (id:=21) (.only [8]) (pl:= .p 0 <| .p 1 <| .p 2 <| .p 4 <| .p 6 <| .r 3 <| .r 5 <| .r 7 <| .e true [(8,.n [] <| .done)]) k.out)
  |(refine an ?_;refine bF (id:=19) .true (pl:= .p 0 <| .p 1 <| .p 2 <| .p 4 <| .p 6 <| .r 3 <| .r 5 <| .r 7 <| .p 8 <| .e true [(9,.done)]) k.out)):P:=h ⟨k⟩
theorem EM {F:List HP} {b:Nat} {c:au} {num:Int} {s:di} {n:Int} {l:L3} (h:tS c num s) (hr:fi s.q n=true) (ho:0≤s.aR∧s.aR≤1000000000000) (hE:fo (gJ s (jm s n).aa) (jm s n)=0) :
    az prog 92 [.pointer (some ⟨b,0,none⟩),.int .i64 n,.agg (UD l).toArray] [fI b c num s] F
      (fun r L'=>r= .tuple [mv .zero,.bool false,.bool true].toArray∧L'=[fI b c num (sH c s n)]):=by
  have hc:=wO h.ok;have kH:=sd hr;obtain ⟨i,hi,rfl,ea⟩:=p6 kH;have v9:im c num (jm s i) 0=true:=by unfold jm;rw [ea];exact h.G9 _ (List.getElem_mem hi)
  obtain ⟨f1,f2,f3,f4,f5⟩:=qn h.ok v9;obtain ⟨g1,g2,g3,_⟩:=sc h f3;have hs:cK (gJ s (jm s i).aa).s=true:=by simp only [lQ,Bool.and_eq_true] at g2;exact g2.1.1
  have cO:xW (gJ s (jm s i).aa) (jm s i)=true:=by
    simp only [xW,g2,Bool.true_and,Bool.and_eq_true,decide_eq_true_eq];omega
  have YJ:=(kL h.ok).2.2.2;obtain ⟨j,hj⟩:∃ j:Nat,(jm s i).aa=j:=⟨(jm s i).aa.toNat,by have:=f3.1;omega⟩;have hl:dZ (jm s i).aa:=by have:=f3.2.1;have:=f3.1;unfold dZ;omega
  have hH:=fun F bq=>nU (F:=F) (b:=bq) (ak:=c.aQ) (l:=s.q) (n:=i);have hR:=fun F bq=>rz (F:=F) (b:=bq) (ak:=c.aQ) (l:=s.q) (n:=i);simp only [hr] at hR;simp only [kH] at hH;have Xf:jm s i=s.q[i].m:=by unfold jm;rw [ea]
  have hL:=fun F be=>BC (F:=F) (b:=be) (c:=c) (ms:=s.ms) hc hl;generalize hM:jm s i=m at *;obtain ⟨kd,ln,sr,ds,wh,ac,ow,w⟩:=m;dsimp only at hj;subst hj;obtain ⟨es,ms,q,aR⟩:=s;unfold sH;simp only [hM];dsimp only at *;refine ay func92 ntmps92 ?_;refine jD fun p k be bq xs he=>?_;have Em:j<xs.length:=by have:=he.1;have:=f3.2.1;omega
  have UQ:xs[j].1=gJ ⟨es,ms,q,aR⟩ j:=by
    have:=he.2 j Em f3;rw [this] at g1;exact Option.some.inj g1
  haveI kr:=fun L=>Hv (L:=L) (xs:=xs) Em;have h0:fo xs[j].1 ⟨kd,j,sr,ds,wh,ac,ow,w⟩=0:=by rw [UQ];exact hE
  have hN:=fun F=>Rg (F:=F) (xs:=xs) Em (m:=⟨kd,j,sr,ds,wh,ac,ow,w⟩) (w:=fj c ms j) h0;have EX:=(Bt (w:=fj c ms j) h0).2.1;have He:=fun F be=>GJ (F:=F) (b:=be) (c:=c) (ms:=ms) (aa:=j) (w:=w) hc hl;have hS:=fun F u (k:bN F 15 u (bP xs[j].1 ⟨kd,j,sr,ds,wh,ac,ow,w⟩ (fj c ms j)).length (aj mc (bP xs[j].1 ⟨kd,j,sr,ds,wh,ac,ow,w⟩ (fj c ms j))))=>GC (F:=F) (b:=bq) (ak:=c.aQ) (l:=q) (n:=(i:Int)) (u:=u) k EX;have hf:=fun y=>yE he Em y;dsimp only at hf;rw [←UQ];dsimp only at *;repeat first|refine go ?_|intro _|refine pH ?_|refine av ?_|refine ae @hH ?_
  (first|(refine aX (.slice p xs.length k) inferInstance (om) ?_;intro _)|(refine aY (.slice p xs.length k) inferInstance (om) ?_;intro _));(first|refine aD (kc bq c.aQ q) ?_|refine aE (kc bq c.aQ q) ?_|refine aF (kc bq c.aQ q) ?_);refine kn fun p2 c2 qs hf=>?_;obtain ⟨hq,q1,q2,q3,wG⟩:=hf;have pT:i<qs.length:=by rw [←hq] at hi;simpa using hi
  have hm:qs[i].1.m=⟨kd,j,sr,ds,wh,ac,ow,w⟩:=by
    rw [Xf];subst hq;simp
  have LK:List.take 15 (List.drop 0 (qc qs[i]))=mc ⟨kd,j,sr,ds,wh,ac,ow,w⟩:=by
    show mc qs[i].1.m=_;rw [hm]
  repeat first|refine go ?_|intro _|refine pH ?_|refine av ?_
  simp only [LK];((first|apply cy (L':=(kc bq c.aQ q)::_)|apply cD (L':=(kc bq c.aQ q)::_)|apply cE (L':=(kc bq c.aQ q)::_)|apply cR (L':=(kc bq c.aQ q)::_));(focus (apply ed;(focus (exact af));all_goals exact bu)));cases hw:jS xs[j].1 ⟨kd,j,sr,ds,wh,ac,ow,w⟩ with
  |true=>
   simp only [hw] at hN;rw [if_pos rfl];repeat' (first|refine go ?_|intro _|refine pH ?_|refine av ?_|refine ae @hR ?_|refine ae @hL ?_|refine ae @hN ?_|refine ae @hS ?_|refine ae @He ?_|refine bj ?_ ?_|fail)
   all_goals (apply ad rfl rfl ar)
   all_goals first
   |exact ⟨rfl,rfl⟩
   |(apply mj
     ·exact af
     ·simp
     ·exact zD Em
     ·exact yE he Em _)
  |false=>
   simp only [hw] at hN;rw [if_neg (by simp)];repeat' (first|refine go ?_|intro _|refine pH ?_|refine av ?_|refine ae @hR ?_|refine ae @hL ?_|refine ae @hN ?_|refine ae @hS ?_|refine ae @He ?_|refine bj ?_ ?_|fail)
   all_goals (apply ad rfl rfl ar)
   all_goals first
   |exact ⟨rfl,rfl⟩
   |(apply mj
     ·exact af
     ·simp
     ·exact zD Em
     ·exact yE he Em _)
end
section
attribute [local irreducible] Exit.then Exit.inBlock Code.wp WC WO WE WQ V aW dL Sat bz bK dU IntKind.wrap WR Code.rounds WT KO
theorem DN {b be bq n:Nat} {p:Option Addr} {k:Nat} {c:au} {num:Int} {s:di} {xs:List kW} {vs:List Value} {L M:List HP}
    (h:ai L (ao b 201 (O7 c num p n k be bq s.aR)::aT 228 5 (.slice p n k) n vs::bZ (xs.map oK)::oh be c s.ms::oJ 196 205 bq c.aQ s.q::M)) (hn:n=xs.length) (hv:vs=aj zJ xs) (he:wa c num s.es xs):ai L (fI b c num s::M):=mj h hn hv he
theorem Rn {F:List HP} {b:Nat} {c:au} {num:Int} {s:di} {n:Int} {l:L3} (h:tS c num s) (ho:0≤s.aR∧s.aR≤1000000000000) :
    az prog 92 [.pointer (some ⟨b,0,none⟩),.int .i64 n,.agg (UD l).toArray] [fI b c num s] F
      (fun r L'=>r= .tuple [mv (ec s n l),.bool (dG s n l),.bool (jG s n l)].toArray∧L'=[fI b c num (cQ c s n l)]):=by
  cases hr:fi s.q n with
  |false=>exact IQ h hr
  |true=>
   have e1:ec s n l= .zero:=by simp [ec,hr]
   have e2:dG s n l=false:=by simp [dG,hr]
   have e3:jG s n l=true:=by simp [jG,hr]
   have hm:=uA (sd hr);rw [e1,e2,e3];rcases zx h (h.G9 _ hm) with hE|hE
   ·have e4:cQ c s n l=Ax s n:=by
      unfold cQ k7;rw [if_pos hr,if_neg];have:fo (gJ s (jm s n).aa) (jm s n)=7:=hE.1;omega
    rw [e4];exact GX h hr ho hE
   ·have e4:cQ c s n l=sH c s n:=by
      have hE':fo (gJ s (jm s n).aa) (jm s n)=0:=hE;unfold cQ k7;rw [if_pos hr,if_pos hE']
    rw [e4];exact EM h hr ho hE
end
end Go.Sx
