/- HomR3, CaR5, HomR4: several of my texts as one. My own work. -/
import Derived.Test.YtjihlpjnebdiiabGreatZay
import Derived.Test.YtjihlpjnebdiiabGreatZbc
set_option linter.unusedVariables false
set_option linter.unusedSectionVars false
set_option linter.unusedSimpArgs false
set_option maxRecDepth 100000
set_option maxHeartbeats 4000000
namespace Go.Sx
open Go Go.Proofs Tryz
section
theorem yE {c:au} {num:Int} {es:List (Int×dP)} {xs:List kW} (h:wa c num es xs) {i:Nat} (hi:i<xs.length) (y:kW):wa c num (iS es (i:Int) y.1) (xs.set i y):=by
  refine ⟨by rw [List.length_set];exact h.1,fun k hk ho=>?_⟩;have sv:k<xs.length:=by simpa using hk
  rw [r8];by_cases e:k=i
  ·subst e;rw [if_pos rfl];simp
  ·rw [if_neg (om),List.getElem_set_ne (om)];exact h.2 k sv ho
theorem IP {xs:List kW} {i:Nat} (hi:i<xs.length) (y:kW):aV (aj zJ xs) (i*5) (zJ y)=aj zJ (xs.set i y):=
  mb (enc:=zJ) (n:=5) (fun _=>rfl) xs i hi (cs:=zJ y) (x:=y) (by simp) (by simp [aV])
attribute [local irreducible] Exit.then Exit.inBlock Code.wp WC WO WE WQ V aW dL Sat bz bK dU IntKind.wrap WR Code.rounds WT KO
theorem js {Q P:Prop} (k:Q) (h:Hid Q→P:=by
  intro k
  first
  |(refine an ?_;refine bF (id:=6) (.only [11]) (pl:= .p 0 <| .p 1 <| .p 2 <| .p 4 <| .r 3 <| .r 5 <| .e true [(6,.p 7 <| .p 8 <| .p 9 <| .e true [(10,.e true [(11,.n [] <| .p 12 <| .done)])]),(10,.e true [(6,.p 7 <| .p 8 <| .p 9 <| .e true [(11,.n [] <| .p 12 <| .done)])])]) k.out)
  |(refine an ?_;refine bF (id:=7) (.only [10,15]) (pl:= .p 0 <| .p 1 <| .p 2 <| .p 4 <| .r 3 <| .r 5 <| .p 6 <| .r 7 <| .r 8 <| .r 9 <| .e true [(10,.n [15] <| .p 11 <| .p 12 <| .p 13 <| .e true [(14,.e true [(15,.n [] <| .p 16 <| .done)])]),(14,.e true [(10,.n [15] <| .p 11 <| .p 12 <| .p 13 <| .e true [(15,.n [] <| .p 16 <| .done)])])]) k.out)
  |(refine an ?_;refine bF (id:=18) (.only [7]) (pl:= .p 0 <| .p 1 <| .p 2 <| .p 4 <| .p 5 <| .r 3 <| .r 6 <| .e true [(7,.n [] <| .done)]) k.out)
  |(refine an ?_;refine bF (id:=21) (.only [8]) (pl:= .p 0 <| .p 1 <| .p 2 <| .p 4 <| .p 6 <| .r 3 <| .r 5 <| .r 7 <| .e true [(8,.n [] <| .done)]) k.out)
  |(refine an ?_;refine bF (id:=19) .true (pl:= .p 0 <| .p 1 <| .p 2 <| .p 4 <| .p 6 <| .r 3 <| .r 5 <| .r 7 <| .p 8 <| .e true [(9,.done)]) k.out)):P:=h ⟨k⟩
theorem IQ {F:List HP} {b:Nat} {c:au} {num:Int} {s:di} {n:Int} {l:L3} (h:tS c num s) (hr:fi s.q n=false) :
    az prog 92 [.pointer (some ⟨b,0,none⟩),.int .i64 n,.agg (UD l).toArray] [fI b c num s] F
      (fun r L'=>r= .tuple [mv (ec s n l),.bool (dG s n l),.bool (jG s n l)].toArray∧L'=[fI b c num (cQ c s n l)]):=by
  refine ay func92 ntmps92 ?_;have hH:=fun F bq=>nU (F:=F) (b:=bq) (ak:=c.aQ) (l:=s.q) (n:=n);have hR:=fun F bq=>rz (F:=F) (b:=bq) (ak:=c.aQ) (l:=s.q) (n:=n);have hX:=fun F bq=>Iq (F:=F) (b:=bq) (ak:=c.aQ) (l:=s.q) (n:=n);simp only [hr] at hR;cases kH:rG s.q n with
  |false=>
   simp only [kH] at hH;have hb:fN s.q n=false:=by simp [fN,kH]
   have hg:gi s n l=false:=by simp [gi,hb]
   have e1:ec s n l= .zero:=by simp [ec,hr,hg]
   have e2:dG s n l=false:=by simp [dG,hr,hg]
   have e3:jG s n l=false:=by simp [jG,hr,hg]
   have e4:cQ c s n l=s:=by simp [cQ,hr,hg]
   rw [e1,e2,e3,e4];obtain ⟨es,ms,q,aR⟩:=s;refine jD fun p k be bq xs he=>?_;dsimp only at *;repeat first|refine go ?_|intro _|refine js ?_|refine av ?_|refine ae @hH ?_
   (apply ad rfl rfl ar)
   ·exact ⟨rfl,rfl⟩
   ·exact eb @mj
  |true=>
   simp only [kH] at hH;obtain ⟨i,hi,en,ea⟩:=p6 kH;have hk:=fun hb=>Dk (n:=n) h hb;have UE:=fun F bq=>Ir (F:=F) (b:=bq) (ak:=c.aQ) (l:=s.q) (n:=n);have hN:=fun F=>Da (F:=F) (k:=(fO s.q n).ah);have jR:(fN s.q n=false∧gi s n l=false)∨(fN s.q n=true∧ee (fO s.q n).ah=1∧gi s n l=decide (0<l.2.1))∨(fN s.q n=true∧ee (fO s.q n).ah=2∧gi s n l=decide (0<l.2.2)):=by
     cases hb:fN s.q n with
     |false=>exact .inl ⟨rfl,by simp [gi,hb]⟩
     |true=>
      rcases MN (hk hb).2.1 with hn|hn
      ·exact .inr (.inl ⟨rfl,hn,by simp [gi,hb,hn,LO]⟩)
      ·exact .inr (.inr ⟨rfl,hn,by simp [gi,hb,hn,LO]⟩)
   have e0:gi s n l=false→ec s n l= .zero∧dG s n l=false∧jG s n l=false∧cQ c s n l=s:=fun hg=>by simp [ec,dG,jG,cQ,hr,hg]
   have e1:gi s n l=true→ec s n l=fO s.q n∧dG s n l=true∧jG s n l=true∧cQ c s n l={ s with q:=ig s.q n}:=fun hg=>by simp [ec,dG,jG,cQ,hr,hg]
   obtain ⟨es,ms,q,aR⟩:=s;refine jD fun p k be bq xs he=>?_;dsimp only at *;subst en;repeat first|refine go ?_|intro _|refine js ?_|refine av ?_|refine ae @hH ?_
   (first|refine aD (kc bq c.aQ q) ?_|refine aE (kc bq c.aQ q) ?_|refine aF (kc bq c.aQ q) ?_);refine kn fun p2 c2 qs hf=>?_;obtain ⟨hq,f1,f2,f3,wG⟩:=hf;have pT:i<qs.length:=by rw [←hq] at hi;simpa using hi
   repeat first|refine go ?_|intro _|refine js ?_|refine av ?_
   ((first|apply cy (L':=(kc bq c.aQ q)::_)|apply cD (L':=(kc bq c.aQ q)::_)|apply cE (L':=(kc bq c.aQ q)::_)|apply cR (L':=(kc bq c.aQ q)::_));(focus (apply ed;(focus (exact af));all_goals exact bu)));rcases jR with ⟨hb,hg⟩|⟨hb,hn,hg⟩|⟨hb,hn,hg⟩
   ·simp only [hb] at hX;obtain ⟨d1,d2,d3,d4⟩:=e0 hg;rw [d1,d2,d3,d4];repeat first|refine go ?_|intro _|refine js ?_|refine av ?_|refine ae @hR ?_|refine ae @hX ?_
    (apply ad rfl rfl ar)
    ·exact ⟨rfl,rfl⟩
    ·exact eb @mj
   ·simp only [hb] at hX;simp only [hn] at hN;by_cases hl:0<l.2.1
    ·obtain ⟨d1,d2,d3,d4⟩:=e1 (by rw [hg];exact decide_eq_true hl);rw [d1,d2,d3,d4];repeat first|refine go ?_|intro _|refine js ?_|refine av ?_|refine ae @hR ?_|refine ae @hX ?_|refine ae @hN ?_|refine ae @UE ?_
     (apply ad rfl rfl ar)
     ·exact ⟨rfl,rfl⟩
     ·exact eb @mj
    ·obtain ⟨d1,d2,d3,d4⟩:=e0 (by rw [hg];exact decide_eq_false hl);rw [d1,d2,d3,d4];repeat first|refine go ?_|intro _|refine js ?_|refine av ?_|refine ae @hR ?_|refine ae @hX ?_|refine ae @hN ?_
     (apply ad rfl rfl ar)
     ·exact ⟨rfl,rfl⟩
     ·exact eb @mj
   ·simp only [hb] at hX;simp only [hn] at hN;by_cases hl:0<l.2.2
    ·obtain ⟨d1,d2,d3,d4⟩:=e1 (by rw [hg];exact decide_eq_true hl);rw [d1,d2,d3,d4];repeat first|refine go ?_|intro _|refine js ?_|refine av ?_|refine ae @hR ?_|refine ae @hX ?_|refine ae @hN ?_|refine ae @UE ?_
     (apply ad rfl rfl ar)
     ·exact ⟨rfl,rfl⟩
     ·exact eb @mj
    ·obtain ⟨d1,d2,d3,d4⟩:=e0 (by rw [hg];exact decide_eq_false hl);rw [d1,d2,d3,d4];repeat first|refine go ?_|intro _|refine js ?_|refine av ?_|refine ae @hR ?_|refine ae @hX ?_|refine ae @hN ?_
     (apply ad rfl rfl ar)
     ·exact ⟨rfl,rfl⟩
     ·exact eb @mj
end
section
attribute [local irreducible] Exit.then Exit.inBlock Code.wp WC WO WE WQ V aW dL Sat bz bK dU IntKind.wrap WR Code.rounds WT KO
theorem iy {Q P:Prop} (k:Q) (h:Hid Q→P:=by
  intro k
  first
  |(refine an ?_;refine bF (id:=11) .true (pl:= .p 0 <| .p 1 <| .p 2 <| .p 4 <| .p 6 <| .r 3 <| .r 5 <| .e true [(7,.done)]) k.out)
  |(refine an ?_;refine bF (id:=12) .true (pl:= .p 0 <| .p 2 <| .p 3 <| .p 4 <| .p 6 <| .r 1 <| .r 5 <| .r 7 <| .p 8 <| .e true [(9,.p 10 <| .p 11 <| .done)]) k.out)
  |(refine an ?_;refine bF (id:=16) .true (pl:= .p 0 <| .p 1 <| .p 2 <| .p 4 <| .p 6 <| .p 8 <| .p 10 <| .r 3 <| .r 5 <| .r 7 <| .r 9 <| .r 11 <| .e true [(12,.p 13 <| .done)]) k.out)
  |(refine an ?_;refine bF (id:=19) .true (pl:= .p 0 <| .p 1 <| .p 2 <| .p 4 <| .p 6 <| .r 3 <| .r 5 <| .r 7 <| .e true [(8,.p 9 <| .done)]) k.out)
  |(refine an ?_;refine bF (id:=21) .true (pl:= .p 0 <| .p 1 <| .p 2 <| .p 4 <| .r 3 <| .r 5 <| .e true [(6,.p 7 <| .done)]) k.out)
  |(refine an ?_;refine bF (id:=23) .true (pl:= .p 0 <| .p 1 <| .p 2 <| .p 4 <| .r 3 <| .r 5 <| .e true [(6,.p 7 <| .done)]) k.out)
  |(refine an ?_;refine bF (id:=28) .true (pl:= .p 0 <| .p 1 <| .p 2 <| .p 4 <| .r 3 <| .r 5 <| .e true [(6,.p 7 <| .p 8 <| .p 9 <| .e false [(10,.e false [(11,.p 12 <| .done)])]),(10,.e true [(6,.p 7 <| .p 8 <| .p 9 <| .e false [(11,.p 12 <| .done)])])]) k.out)
  |(refine an ?_;refine bF (id:=30) .true (pl:= .p 0 <| .p 1 <| .p 2 <| .p 4 <| .r 3 <| .r 5 <| .e true [(6,.p 7 <| .p 8 <| .p 9 <| .p 10 <| .e false [(11,.e false [(12,.p 13 <| .p 14 <| .done)])]),(11,.e true [(6,.p 7 <| .p 8 <| .p 9 <| .p 10 <| .e false [(12,.p 13 <| .p 14 <| .done)])])]) k.out)
  |(refine an ?_;refine bF (id:=34) .true (pl:= .p 0 <| .p 1 <| .p 2 <| .p 4 <| .p 6 <| .r 3 <| .r 5 <| .r 7 <| .r 8 <| .e true [(9,.done)]) k.out)):P:=h ⟨k⟩
theorem CM {F:List HP} {b a f e:Nat} {c:au} {ap:Int} {m:bA} {k:cT} (hc:aB c=true) (hg:∀ m∈k.aP,nf m∧m.gY≤9223372036854775806) (h:¬dI c ap m=true) :
    az prog 267 [.pointer (some ⟨b,0,none⟩),mv m] (kU b a f e c ap k) F
      (fun r L'=>r= .tuple [mv (dg c ap k m),.bool (cJ c ap k m),.int .i64 (c4 c ap k m)].toArray∧L'=kU b a f e c ap (cw c ap k m)):=by
  have fB:=fun F=>jP (F:=F) (m:=m) (gA hc);have cZ:=fun F=>gW (F:=F) (k:=m.ah);have e1:c4 c ap k m=1:=if_neg h;have e2:cJ c ap k m=false:=by unfold cJ;rw [e1];simp
  have e3:dg c ap k m= .zero:=if_neg h;have e4:cw c ap k m=k:=if_neg h;rw [e1,e2,e3,e4];by_cases h1:bU c m
  ·simp only [decide_eq_true h1] at fB;by_cases h2:cA m.ah
   ·simp only [decide_eq_true h2] at cZ;refine ay func267 ntmps267 ?_;repeat' (first|refine go ?_|intro _|refine iy ?_|refine av ?_|refine ae @fB ?_|refine ae @cZ ?_|refine bj ?_ ?_|fail)
    all_goals exact aM
   ·simp only [decide_eq_false h2] at cZ;have h3:¬m.dst=ap:=fun h3=>h (by simp [dI,h1,h2,h3]);refine ay func267 ntmps267 ?_;repeat' (first|refine go ?_|intro _|refine iy ?_|refine av ?_|refine ae @fB ?_|refine ae @cZ ?_|refine bj ?_ ?_|fail)
    all_goals exact aM
  ·simp only [decide_eq_false h1] at fB;refine ay func267 ntmps267 ?_;repeat' (first|refine go ?_|intro _|refine iy ?_|refine av ?_|refine ae @fB ?_|refine bj ?_ ?_|fail)
   all_goals exact aM
theorem GU {F:List HP} {b a f e:Nat} {c:au} {ap:Int} {m:bA} {k:cT} (hc:aB c=true) (hg:∀ m∈k.aP,nf m∧m.gY≤9223372036854775806) (h:dI c ap m=true) (g:m.ah=4) :
    az prog 267 [.pointer (some ⟨b,0,none⟩),mv m] (kU b a f e c ap k) F
      (fun r L'=>r= .tuple [mv (dg c ap k m),.bool (cJ c ap k m),.int .i64 (c4 c ap k m)].toArray∧L'=kU b a f e c ap (cw c ap k m)):=by
  have fB:=fun F=>jP (F:=F) (m:=m) (gA hc);have cZ:=fun F=>gW (F:=F) (k:=m.ah);have h':=h;simp only [dI,Bool.and_eq_true,decide_eq_true_eq,Bool.not_eq_true',decide_eq_false_iff_not] at h';obtain ⟨⟨h1,h2⟩,h3⟩:=h';simp only [decide_eq_true h1] at fB;simp only [decide_eq_false h2] at cZ;have vR:=fun F=>jq (F:=F) (b:=b) (a:=a) (f:=f) (e:=e) (c:=c) (ap:=ap) (k:=k) (aa:=m.aa);have sy:=fun F=>iN (F:=F) (b:=a) (c:=c) (l:=k.al) (aa:=m.aa);unfold dg cJ c4 cw;simp only [h,g,if_true,Int.reduceEq,if_false,or_true,or_false,Int.reduceLE,and_true,and_false,decide_false,true_or,false_or];have hF:=fun F=>BH (F:=F) (b:=b) (a:=a) (f:=f) (e:=e) (c:=c) (ap:=ap) (m:=m) (k:=k) (.inl g);simp only [g,Int.reduceEq,if_false,if_true,decide_false,decide_true] at hF;refine ay func267 ntmps267 ?_;repeat' (first|refine go ?_|intro _|refine iy ?_|refine av ?_|refine ae @fB ?_|refine ae @cZ ?_|refine ae @hF ?_|refine bj ?_ ?_|fail)
  all_goals exact aM
theorem GV {F:List HP} {b a f e:Nat} {c:au} {ap:Int} {m:bA} {k:cT} (hc:aB c=true) (hg:∀ m∈k.aP,nf m∧m.gY≤9223372036854775806) (h:dI c ap m=true) (g:m.ah=5) :
    az prog 267 [.pointer (some ⟨b,0,none⟩),mv m] (kU b a f e c ap k) F
      (fun r L'=>r= .tuple [mv (dg c ap k m),.bool (cJ c ap k m),.int .i64 (c4 c ap k m)].toArray∧L'=kU b a f e c ap (cw c ap k m)):=by
  have fB:=fun F=>jP (F:=F) (m:=m) (gA hc);have cZ:=fun F=>gW (F:=F) (k:=m.ah);have h':=h;simp only [dI,Bool.and_eq_true,decide_eq_true_eq,Bool.not_eq_true',decide_eq_false_iff_not] at h';obtain ⟨⟨h1,h2⟩,h3⟩:=h';simp only [decide_eq_true h1] at fB;simp only [decide_eq_false h2] at cZ;have vR:=fun F=>jq (F:=F) (b:=b) (a:=a) (f:=f) (e:=e) (c:=c) (ap:=ap) (k:=k) (aa:=m.aa);have sy:=fun F=>iN (F:=F) (b:=a) (c:=c) (l:=k.al) (aa:=m.aa);unfold dg cJ c4 cw;simp only [h,g,if_true,Int.reduceEq,if_false,or_true,or_false,Int.reduceLE,and_true,and_false,decide_false,true_or,false_or];have hF:=fun F=>BH (F:=F) (b:=b) (a:=a) (f:=f) (e:=e) (c:=c) (ap:=ap) (m:=m) (k:=k) (.inr g);simp only [g,Int.reduceEq,if_false,if_true,decide_false,decide_true] at hF;refine ay func267 ntmps267 ?_;repeat' (first|refine go ?_|intro _|refine iy ?_|refine av ?_|refine ae @fB ?_|refine ae @cZ ?_|refine ae @hF ?_|refine bj ?_ ?_|fail)
  all_goals exact aM
theorem GW {F:List HP} {b a f e:Nat} {c:au} {ap:Int} {m:bA} {k:cT} (hc:aB c=true) (hg:∀ m∈k.aP,nf m∧m.gY≤9223372036854775806) (h:dI c ap m=true) (g:m.ah=6) :
    az prog 267 [.pointer (some ⟨b,0,none⟩),mv m] (kU b a f e c ap k) F
      (fun r L'=>r= .tuple [mv (dg c ap k m),.bool (cJ c ap k m),.int .i64 (c4 c ap k m)].toArray∧L'=kU b a f e c ap (cw c ap k m)):=by
  have fB:=fun F=>jP (F:=F) (m:=m) (gA hc);have cZ:=fun F=>gW (F:=F) (k:=m.ah);have h':=h;simp only [dI,Bool.and_eq_true,decide_eq_true_eq,Bool.not_eq_true',decide_eq_false_iff_not] at h';obtain ⟨⟨h1,h2⟩,h3⟩:=h';simp only [decide_eq_true h1] at fB;simp only [decide_eq_false h2] at cZ;have vR:=fun F=>jq (F:=F) (b:=b) (a:=a) (f:=f) (e:=e) (c:=c) (ap:=ap) (k:=k) (aa:=m.aa);have sy:=fun F=>iN (F:=F) (b:=a) (c:=c) (l:=k.al) (aa:=m.aa);unfold dg cJ c4 cw;simp only [h,g,if_true,Int.reduceEq,if_false,or_true,or_false,Int.reduceLE,and_true,and_false,decide_false,true_or,false_or];have j9:=fun F=>jO (F:=F) (b:=a) (c:=c) (l:=k.al) (aa:=m.aa) (st:=0) (w:= .zero);by_cases h4:2≤(bg c k.al m.aa).st
  ·have e1:q4 c k m.aa=7:=if_pos h4;have e2:tN c ap k m= .zero:=by unfold tN;rw [e1];rfl
   rw [e1,e2,decide_eq_false (by decide),if_neg (by decide)];refine ay func267 ntmps267 ?_;repeat' (first|refine go ?_|intro _|refine iy ?_|refine av ?_|refine ae @fB ?_|refine ae @cZ ?_|refine ae @vR ?_|refine bj ?_ ?_|fail)
   all_goals exact aM
  ·have e1:q4 c k m.aa=0:=if_neg h4;have e2:tN c ap k m=⟨9,m.aa,ap,m.mu,0,0,0,.zero⟩:=if_pos e1;rw [e1,e2,decide_eq_true rfl,if_pos rfl];by_cases h5:(bg c k.al m.aa).st=1
   ·have e3:sm c k m.aa=⟨db c k.al m.aa 0 .zero,k.aP,k.bD⟩:=if_pos h5;rw [e3];refine ay func267 ntmps267 ?_;repeat' (first|refine go ?_|intro _|refine iy ?_|refine av ?_|refine ae @fB ?_|refine ae @cZ ?_|refine ae @vR ?_|refine ae @j9 ?_|refine bj ?_ ?_|fail)
    all_goals exact aM
   ·have e3:sm c k m.aa=k:=if_neg h5;rw [e3];refine ay func267 ntmps267 ?_;repeat' (first|refine go ?_|intro _|refine iy ?_|refine av ?_|refine ae @fB ?_|refine ae @cZ ?_|refine ae @vR ?_|refine bj ?_ ?_|fail)
    all_goals exact aM
theorem EL {F:List HP} {b a f e:Nat} {c:au} {ap:Int} {m:bA} {k:cT} (hc:aB c=true) (hg:∀ m∈k.aP,nf m∧m.gY≤9223372036854775806) (h:dI c ap m=true) (g:m.ah=10) :
    az prog 267 [.pointer (some ⟨b,0,none⟩),mv m] (kU b a f e c ap k) F
      (fun r L'=>r= .tuple [mv (dg c ap k m),.bool (cJ c ap k m),.int .i64 (c4 c ap k m)].toArray∧L'=kU b a f e c ap (cw c ap k m)):=by
  have fB:=fun F=>jP (F:=F) (m:=m) (gA hc);have cZ:=fun F=>gW (F:=F) (k:=m.ah);have h':=h;simp only [dI,Bool.and_eq_true,decide_eq_true_eq,Bool.not_eq_true',decide_eq_false_iff_not] at h';obtain ⟨⟨h1,h2⟩,h3⟩:=h';simp only [decide_eq_true h1] at fB;simp only [decide_eq_false h2] at cZ;have vR:=fun F=>jq (F:=F) (b:=b) (a:=a) (f:=f) (e:=e) (c:=c) (ap:=ap) (k:=k) (aa:=m.aa);have sy:=fun F=>iN (F:=F) (b:=a) (c:=c) (l:=k.al) (aa:=m.aa);unfold dg cJ c4 cw;simp only [h,g,if_true,Int.reduceEq,if_false,or_true,or_false,Int.reduceLE,and_true,and_false,decide_false,true_or,false_or];have hD:=fun F=>Il (F:=F) (b:=e) (ak:=c.aw) (l:=k.bD) (aa:=m.aa);unfold EU;by_cases h4:kK k.bD m.aa=0
  ·have e1:qz (kK k.bD m.aa)=0:=if_pos h4;rw [e1];simp only [h4] at hD;refine ay func267 ntmps267 ?_;repeat' (first|refine go ?_|intro _|refine iy ?_|refine av ?_|refine ae @fB ?_|refine ae @cZ ?_|refine ae @vR ?_|refine ae @hD ?_|refine bj ?_ ?_|fail)
   all_goals exact aM
  ·have e1:qz (kK k.bD m.aa)=7:=if_neg h4;rw [e1];refine ay func267 ntmps267 ?_;repeat' (first|refine go ?_|intro _|refine iy ?_|refine av ?_|refine ae @fB ?_|refine ae @cZ ?_|refine ae @vR ?_|refine ae @hD ?_|refine bj ?_ ?_|fail)
   all_goals exact aM
end
section
theorem Rm {T e:TypeId} {b:Nat} {ak:Int} {q:List QE} {i n:Nat} {p:Option Addr} {c:Nat} {ps:List QP} {L M:List HP}
    (h:ai L (ao b T [.int .i64 ak,.slice p n c]::aT e 17 (.slice p n c) n (aj qc (ps.eraseIdx i))::bZ (ps.map nr)::M)) (hq:ps.map (·.1)=q) (hn:n=(ps.eraseIdx i).length) (h1:(ps.length:Int)≤ak) (h2:ak≤16) (h3:∀ p∈ps,p.1.aK.length≤p.2.2∧p.1.aK.length≤1000):ai L (oJ T e b ak (q.eraseIdx i)::M):=by
  subst hq hn;refine ed (ps:=ps.eraseIdx i) (ai.trans h (ai.cons (ai.cons (yg i)))) (by rw [vu]) rfl rfl ?_ h2 (fun p hp=>h3 p (List.mem_of_mem_eraseIdx hp));have:=List.length_eraseIdx_le ps i;omega
attribute [local irreducible] Exit.then Exit.inBlock Code.wp WC WO WE WQ V aW dL Sat bz bK dU IntKind.wrap WR Code.rounds WT KO
theorem lO {Q P:Prop} (k:Q) (h:Hid Q→P:=by
  intro k
  first
  |(refine an ?_;refine bF (id:=6) (.only [11]) (pl:= .p 0 <| .p 1 <| .p 2 <| .p 4 <| .r 3 <| .r 5 <| .e true [(6,.p 7 <| .p 8 <| .p 9 <| .e true [(10,.e true [(11,.n [] <| .p 12 <| .done)])]),(10,.e true [(6,.p 7 <| .p 8 <| .p 9 <| .e true [(11,.n [] <| .p 12 <| .done)])])]) k.out)
  |(refine an ?_;refine bF (id:=7) (.only [10,15]) (pl:= .p 0 <| .p 1 <| .p 2 <| .p 4 <| .r 3 <| .r 5 <| .p 6 <| .r 7 <| .r 8 <| .r 9 <| .e true [(10,.n [15] <| .p 11 <| .p 12 <| .p 13 <| .e true [(14,.e true [(15,.n [] <| .p 16 <| .done)])]),(14,.e true [(10,.n [15] <| .p 11 <| .p 12 <| .p 13 <| .e true [(15,.n [] <| .p 16 <| .done)])])]) k.out)
  |(refine an ?_;refine bF (id:=18) (.only [7]) (pl:= .p 0 <| .p 1 <| .p 2 <| .p 4 <| .p 5 <| .r 3 <| .r 6 <| .e true [(7,.n [] <| .done)]) k.out)
  |(refine an ?_;refine bF (id:=21) (.only [8]) (pl:= .p 0 <| .p 1 <| .p 2 <| .p 4 <| .p 6 <| .r 3 <| .r 5 <| .r 7 <| .e true [(8,.n [] <| .done)]) k.out)
  |(refine an ?_;refine bF (id:=19) .true (pl:= .p 0 <| .p 1 <| .p 2 <| .p 4 <| .p 6 <| .r 3 <| .r 5 <| .r 7 <| .p 8 <| .e true [(9,.done)]) k.out)):P:=h ⟨k⟩
theorem GX {F:List HP} {b:Nat} {c:au} {num:Int} {s:di} {n:Int} {l:L3} (h:tS c num s) (hr:fi s.q n=true) (ho:0≤s.aR∧s.aR≤1000000000000) (hE:fo (gJ s (jm s n).aa) (jm s n)=7∧(jm s n).ah=1∧(gJ s (jm s n).aa).o=(jm s n).src) :
    az prog 92 [.pointer (some ⟨b,0,none⟩),.int .i64 n,.agg (UD l).toArray] [fI b c num s] F
      (fun r L'=>r= .tuple [mv .zero,.bool false,.bool true].toArray∧L'=[fI b c num (Ax s n)]):=by
  have hc:=wO h.ok;have kH:=sd hr;obtain ⟨i,hi,rfl,ea⟩:=p6 kH;have v9:im c num (jm s i) 0=true:=by unfold jm;rw [ea];exact h.G9 _ (List.getElem_mem hi)
  obtain ⟨f1,f2,f3,f4,f5⟩:=qn h.ok v9;obtain ⟨g1,g2,g3,_⟩:=sc h f3;have hs:cK (gJ s (jm s i).aa).s=true:=by simp only [lQ,Bool.and_eq_true] at g2;exact g2.1.1
  have cO:xW (gJ s (jm s i).aa) (jm s i)=true:=by
    simp only [xW,g2,Bool.true_and,Bool.and_eq_true,decide_eq_true_eq];omega
  have YJ:=(kL h.ok).2.2.2;obtain ⟨j,hj⟩:∃ j:Nat,(jm s i).aa=j:=⟨(jm s i).aa.toNat,by have:=f3.1;omega⟩;have hl:dZ (jm s i).aa:=by have:=f3.2.1;have:=f3.1;unfold dZ;omega
  have hH:=fun F bq=>nU (F:=F) (b:=bq) (ak:=c.aQ) (l:=s.q) (n:=i);have hR:=fun F bq=>rz (F:=F) (b:=bq) (ak:=c.aQ) (l:=s.q) (n:=i);simp only [hr] at hR;simp only [kH] at hH;have Xf:jm s i=s.q[i].m:=by unfold jm;rw [ea]
  have hL:=fun F be=>BC (F:=F) (b:=be) (c:=c) (ms:=s.ms) hc hl;generalize hM:jm s i=m at *;obtain ⟨kd,ln,sr,ds,wh,ac,ow,w⟩:=m;dsimp only at hj;subst hj;obtain ⟨es,ms,q,aR⟩:=s;unfold Ax;rw [Int.toNat_natCast];dsimp only at *;refine ay func92 ntmps92 ?_;refine jD fun p k be bq xs he=>?_;have Em:j<xs.length:=by have:=he.1;have:=f3.2.1;omega
  have UQ:xs[j].1=gJ ⟨es,ms,q,aR⟩ j:=by
    have:=he.2 j Em f3;rw [this] at g1;exact Option.some.inj g1
  haveI kr:=fun L=>Hv (L:=L) (xs:=xs) Em;have hN:=fun F (hk:bN F 1 (.slice xs[j].2.1 xs[j].1.s.ps.length xs[j].2.2) xs[j].1.s.ps.length (aj ic xs[j].1.s.ps))=>BZ (F:=F) (e:=xs[j].1) (m:=⟨kd,j,sr,ds,wh,ac,ow,w⟩) (w:=fj c ms j) hk (by rw [UQ];exact cO) hE.2.1 (by rw [UQ];exact hE.2.2);dsimp only at *;repeat first|refine go ?_|intro _|refine lO ?_|refine av ?_|refine ae @hH ?_
  (first|(refine aX (.slice p xs.length k) inferInstance (om) ?_;intro _)|(refine aY (.slice p xs.length k) inferInstance (om) ?_;intro _));(first|refine aD (kc bq c.aQ q) ?_|refine aE (kc bq c.aQ q) ?_|refine aF (kc bq c.aQ q) ?_);refine kn fun p2 c2 qs hf=>?_;obtain ⟨hq,q1,q2,q3,wG⟩:=hf;have pT:i<qs.length:=by rw [←hq] at hi;simpa using hi
  have hm:qs[i].1.m=⟨kd,j,sr,ds,wh,ac,ow,w⟩:=by
    rw [Xf];subst hq;simp
  have LK:List.take 15 (List.drop 0 (qc qs[i]))=mc ⟨kd,j,sr,ds,wh,ac,ow,w⟩:=by
    show mc qs[i].1.m=_;rw [hm]
  repeat first|refine go ?_|intro _|refine lO ?_|refine av ?_
  simp only [LK];((first|apply cy (L':=(kc bq c.aQ q)::_)|apply cD (L':=(kc bq c.aQ q)::_)|apply cE (L':=(kc bq c.aQ q)::_)|apply cR (L':=(kc bq c.aQ q)::_));(focus (apply ed;(focus (exact af));all_goals exact bu)));repeat' (first|refine go ?_|intro _|refine lO ?_|refine av ?_|refine ae @hR ?_|refine ae @hL ?_|refine ae @hN ?_|refine bj ?_ ?_|fail)
  all_goals rename_i b5 b6 b9 hso b10 b11 b13 b78
  all_goals (first|refine aD (kc bq c.aQ q) ?_|refine aE (kc bq c.aQ q) ?_|refine aF (kc bq c.aQ q) ?_)
  all_goals refine jY fun p3 c3 ps hf2=>?_
  all_goals obtain ⟨VC,w1,w2,w3,hcp2⟩:=hf2
  all_goals have hip:i<ps.length:=by rw [←VC] at hi;simpa using hi
  all_goals
    apply aO (E0:=[(0,_),(1,_),(6,_),(9,_)]) (fun E0 (r:Nat×Option Addr×Nat)=>(16,.int .i64 r.1)::(15,.slice r.2.1 ((ps.take r.1).eraseIdx i).length r.2.2)::E0) (fun r=>aT 205 17 (.slice r.2.1 ((ps.take r.1).eraseIdx i).length r.2.2) ((ps.take r.1).eraseIdx i).length (aj qc ((ps.take r.1).eraseIdx i))::ao bq 196 [.int .i64 c.aQ,.slice p3 ps.length c3]::aT 205 17 (.slice p3 ps.length c3) ps.length (aj qc ps)::bZ (ps.map nr)::ao b 201 (O7 c num p xs.length k be bq (aR+1))::aT 228 5 (.slice p xs.length k) xs.length (aj zJ xs)::bZ (xs.map oK)::oh be c ms::ao b6 159 (mc .zero)::ao b9 159 (mc .zero)::F) (fun r=>r.1≤ps.length) (fun r=>ps.length-r.1) (0,_,_)
    ·exact bH
    ·exact Nat.zero_le _
    ·dsimp only;simp only [List.take_zero,List.eraseIdx_nil,List.length_nil,lU];exact af
    ·rintro ⟨r,p',c'⟩ LZ;dsimp only at LZ ⊢;have hlen:=iu (ps.take r) i;rw [List.length_take] at hlen;by_cases bB:r<ps.length
     ·by_cases Al:r=i
      ·repeat first|refine go ?_|intro _|refine lO ?_|refine av ?_
       refine aC (r+1,p',c') (by dsimp only;omega) (by dsimp only;omega) ?_ ?_
       ·dsimp only;rw [cd ps i r bB,if_pos Al];exact bH
       ·dsimp only;rw [cd ps i r bB,if_pos Al];exact ai.refl
      ·repeat first|refine go ?_|intro _|refine lO ?_|refine av ?_
       rename_i p2 c2;refine aC (r+1,p2,c2) (by dsimp only;omega) (by dsimp only;omega) ?_ ?_
       ·dsimp only;rw [cd ps i r bB,if_neg Al];rw [List.length_append,List.length_singleton];exact bH
       ·dsimp only;rw [cd ps i r bB,if_neg Al];rw [List.length_append,List.length_singleton,aJ,bi];exact af
     ·have kM:r=ps.length:=by omega
      subst kM;rw [List.take_length];repeat first|refine go ?_|intro _|refine lO ?_|refine av ?_
      (apply ad rfl rfl ar)
      ·exact ⟨rfl,rfl⟩
      ·((repeat (first|(with_reducible exact ai.refl)|exact ai.nil|(apply iX;exact G4)|(apply mj)|(apply Rm)|apply ai.drop));all_goals exact bu)
end
end Go.Sx
