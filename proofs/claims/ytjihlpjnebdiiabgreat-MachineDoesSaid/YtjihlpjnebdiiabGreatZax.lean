/- CaR, TabR, HomR: several of my texts as one. My own work. -/
import Derived.Test.YtjihlpjnebdiiabGreatZap
import Derived.Test.YtjihlpjnebdiiabGreatZat
import Derived.Test.YtjihlpjnebdiiabGreatZar
set_option linter.unusedVariables false
set_option linter.unusedSectionVars false
set_option linter.unusedSimpArgs false
set_option maxRecDepth 100000
set_option maxHeartbeats 4000000
namespace Go.Sx
open Go Go.Proofs Tryz
section
attribute [local irreducible] Exit.then Exit.inBlock Code.wp WC WO WE WQ V aW dL Sat bz bK dU IntKind.wrap WR Code.rounds WT KO
abbrev kU (b a f e:Nat) (c:au) (ap:Int) (k:cT):List HP:=[ao b 179 (c.cells++[.int .i64 ap,.pointer (some ⟨a,0,none⟩),.pointer (some ⟨f,0,none⟩),.pointer (some ⟨e,0,none⟩)]),jh a c k.al,cW f c.aS k.aP,lj e c.aw k.bD]
abbrev iE (b:Nat) (c:au) (ap:Int) (k:cT):HP:=O5 179 (fun a=>jh a c k.al) (fun f=>cW f c.aS k.aP) (fun e=>lj e c.aw k.bD) b c ap
theorem Dq {F:List HP} {c:au} {ap:Int} (hw:c.wf) (h:aB c=true∧0≤ap∧ap<c.ax) :
    az prog 88 [c.val,.int .i64 ap] [] F (fun r L'=>∃ b,r= .tuple [.pointer (some ⟨b,0,none⟩),.int .i64 0].toArray∧L'=[iE b c ap ⟨List.replicate (c.cl*c.al).toNat .zero,[],[]⟩]):=by
  obtain ⟨hc,h0,h1⟩:=h;have hr:=yv hc;have hC:=fun F=>eC (F:=F) hw;simp only [cF,hc,if_true] at hC;have hA:=fun F=>K7 (F:=F) hw hc;have hM:=fun F=>KR (F:=F) (ak:=c.aS) hr.1;have hB:=fun F=>KT (F:=F) (ak:=c.aw) hr.2.2.1;refine ay func88 ntmps88 ?_;repeat first|refine gd ?_|intro _|refine ae @hC ?_|refine ae @hA ?_|refine ae @hM ?_|refine ae @hB ?_
  rename_i b0 a f e b1;(apply ad rfl rfl ar)
  ·exact ⟨_,rfl,rfl⟩
  ·refine rl (a:=a) (f:=f) (e:=e) ?_ ⟨hc,h0,h1⟩;change ai (ao _ _ (c.cells++[.int .i64 ap,.pointer (some ⟨a,0,none⟩),.pointer (some ⟨f,0,none⟩),.pointer (some ⟨e,0,none⟩)])::_) _;exact af
theorem jq {F:List HP} {b a f e:Nat} {c:au} {ap aa:Int} {k:cT} :
    az prog 121 [.pointer (some ⟨b,0,none⟩),.int .i64 aa] (kU b a f e c ap k) F (fun r L'=>r= .int .i64 (bg c k.al aa).st∧L'=kU b a f e c ap k):=by
  have hA:=fun F=>iN (F:=F) (b:=a) (c:=c) (l:=k.al) (aa:=aa);refine ay func121 ntmps121 ?_;repeat first|refine gd ?_|intro _|refine ae @hA ?_
  exact aM
theorem BF {F:List HP} {b a f e:Nat} {c:au} {ap aa ah:Int} {k:cT} (hk:ah=1∨ah=2) :
    az prog 199 [.pointer (some ⟨b,0,none⟩),.int .i64 aa,.int .i64 ah] (kU b a f e c ap k) F (fun r L'=>r= .bool (ls c k aa ah)∧L'=kU b a f e c ap k):=by
  have hA:=fun F=>jq (F:=F) (b:=b) (a:=a) (f:=f) (e:=e) (c:=c) (ap:=ap) (k:=k) (aa:=aa);rw [QS hk];refine ay func199 ntmps199 ?_;rcases hk with h|h
  ·by_cases h2:(bg c k.al aa).st=0
   ·repeat first|refine gd ?_|intro _|refine ae @hA ?_
    (apply ad rfl rfl ar)
    ·exact ⟨by simp [h,h2],rfl⟩
    ·exact af
   ·repeat first|refine gd ?_|intro _|refine ae @hA ?_
    (apply ad rfl rfl ar)
    ·exact ⟨by simp [h,h2],rfl⟩
    ·exact af
  ·by_cases h2:(bg c k.al aa).st=2
   ·repeat first|refine gd ?_|intro _|refine ae @hA ?_
    (apply ad rfl rfl ar)
    ·exact ⟨by simp [h,h2],rfl⟩
    ·exact af
   ·repeat first|refine gd ?_|intro _|refine ae @hA ?_
    (apply ad rfl rfl ar)
    ·exact ⟨by simp [h,h2],rfl⟩
    ·exact af
theorem BG {Q P:Prop} (k:Q) (h:Hid Q→P:=by
  intro k
  first
  |(refine an ?_;refine bF (id:=6) .true (pl:= .p 0 <| .p 1 <| .p 2 <| .p 3 <| .p 5 <| .p 6 <| .p 7 <| .p 8 <| .p 9 <| .r 4 <| .r 10 <| .p 11 <| .p 12 <| .e true [(13,.p 14 <| .done)]) k.out)):P:=h ⟨k⟩
theorem CL {F:List HP} {b a f e:Nat} {c:au} {ap:Int} {k:cT} (hc:aB c=true) (hm:∀ m∈k.aP,bG c m.aa=true) :
    az prog 179 [.pointer (some ⟨b,0,none⟩)] (kU b a f e c ap k) F (fun r L'=>r= .tuple [mv (iW c ap k),.bool (gT k)].toArray∧L'=kU b a f e c ap (gU c k)):=by
  have I6:=fun F=>Gv (F:=F) (b:=f) (ak:=c.aS) (l:=k.aP);by_cases h:0≤gx k.aP
  ·obtain ⟨i,hi,e0,_⟩:=fx h;have tQ:gx k.aP=i:=e0;have el:dz k=k.aP[i].aa:=by unfold dz;rw [if_pos h,tQ,Int.toNat_natCast,←ia hi]
   have cO:bG c (dz k)=true:=by rw [el];exact hm _ (List.getElem_mem hi)
   have e1:gT k=true:=decide_eq_true h;have e2:iW c ap k=gj c ap 11 (dz k) .zero:=if_pos e1;have e3:gU c k=⟨eZ c k.al (dz k) false,gy k.aP (dz k),k.bD⟩:=if_pos e1;rw [e1,e2,e3];change ∀ F,az _ _ _ _ F (fun r L'=>r= .tuple [.int .i64 (dz k),.bool (decide (0≤gx k.aP))].toArray∧L'=_) at I6;rw [decide_eq_true h] at I6;have W5:=fun F=>Gx (F:=F) (b:=f) (ak:=c.aS) (l:=k.aP) (aa:=dz k);have O6:=fun F=>ww (F:=F) (b:=a) (c:=c) (l:=k.al) (aa:=dz k) (lk:=false);have hh:=yz hc;have ht:=D9 cO;refine ay func179 ntmps179 ?_;repeat first|refine go ?_|intro _|refine BG ?_|refine av ?_|refine ae @I6 ?_|refine ae @W5 ?_|refine ae @O6 ?_
   rw [ht];exact aM
  ·have e1:gT k=false:=decide_eq_false h;have e2:iW c ap k= .zero:=by unfold iW;rw [e1];rfl
   have e3:gU c k=k:=by unfold gU;rw [e1];rfl
   rw [e1,e2,e3];simp only [decide_eq_false h] at I6;refine ay func179 ntmps179 ?_;repeat first|refine go ?_|intro _|refine BG ?_|refine av ?_|refine ae @I6 ?_
   exact aM
end
section
theorem FM {e:dP} {m:bA} (cO:xW e m=true) (hk:m.ah=1) (ho:¬e.o=m.src):fo e m=0:=by unfold fo;rw [if_pos cO,if_pos hk,if_neg ho]
theorem uC {T:TypeId} {b:Nat} {m:bA} {L M:List HP} (h:ai L M):ai (ao b T (mc m)::L) (aT T 15 (.slice (some ⟨b,0,none⟩) [m].length 1) [m].length (aj mc [m])::M):=
  lE (n:=1) (cap:=1) (sz:=15) (l:=mc m) (xs:=aj mc [m]) rfl (Nat.le_refl _) (by decide) rfl rfl h
theorem Dr {e:dP} {m:bA} (cO:xW e m=true) (hk:m.ah=2∨m.ah=3):fo e m=0:=by
  unfold fo;rw [if_pos cO,if_neg (om)];rcases hk with h|h
  ·rw [if_pos h]
  ·rw [if_neg (om),if_pos h]
attribute [local irreducible] Exit.then Exit.inBlock Code.wp WC WO WE WQ V aW dL Sat bz bK dU IntKind.wrap WR Code.rounds WT KO
theorem pP {F:List HP} {e:dP} {a:Option Addr} {k:Nat} (hk:bN F 1 (.slice a e.s.ps.length k) e.s.ps.length (aj ic e.s.ps)) (hn:e.s.ps.length≤1000):az prog 258 [.agg (Ao e a k).toArray] [] F (fun r L'=>r= .bool (lQ e)∧L'=[]):=by
  have hM:=fun F (hk:bN F 1 (.slice a e.s.ps.length k) e.s.ps.length (aj ic e.s.ps))=>vq (F:=F) hk hn;refine ay func258 ntmps258 ?_;cases hm:cK e.s with
  |true=>
   simp only [hm] at hM;by_cases h1: -1≤e.o
   ·repeat first|refine gd ?_|intro _|refine ae @hM ?_
    (apply ad rfl rfl ar;(first|exact cS|exact ⟨by simp [lQ,hm,h1]<;>omega,rfl⟩);exact bM)
   ·repeat first|refine gd ?_|intro _|refine ae @hM ?_
    (apply ad rfl rfl ar;(first|exact cS|exact ⟨by simp [lQ,hm,h1]<;>omega,rfl⟩);exact bM)
  |false=>
   simp only [hm] at hM;repeat first|refine gd ?_|intro _|refine ae @hM ?_
   (apply ad rfl rfl ar;(first|exact cS|exact ⟨by simp [lQ,hm]<;>omega,rfl⟩);exact bM)
theorem Lo {F:List HP} {ax dJ:Int}:az prog 178 [.int .i64 ax,.int .i64 dJ] [] F
    (fun r L'=>r= .tuple [.agg (Ao (if cK ⟨ax,dJ,[],false⟩ then ⟨-1,⟨ax,dJ,[],false⟩⟩ else .no) none 0).toArray,.int .i64 (if cK ⟨ax,dJ,[],false⟩ then 0 else 1)].toArray∧L'=[]):=by
  have hN:=fun F=>pP (F:=F) (e:=⟨-1,⟨ax,dJ,[],false⟩⟩) (a:=none) (k:=0) ou (by simp);cases e:cK ⟨ax,dJ,[],false⟩ with
  |true=>
   have e2:lQ ⟨-1,⟨ax,dJ,[],false⟩⟩=true:=by
     have:=(cP e).1;exact lc e (by simp) (by dsimp only at this ⊢;omega)
   simp only [e,e2,if_true] at hN ⊢;refine ay func178 ntmps178 ?_;repeat first|refine gd ?_|intro _|refine ae @hN ?_
   exact aM
  |false=>
   have e2:lQ ⟨-1,⟨ax,dJ,[],false⟩⟩=false:=by simp [lQ,e]
   simp only [e,e2,Bool.false_eq_true,if_false] at hN ⊢;refine ay func178 ntmps178 ?_;repeat first|refine gd ?_|intro _|refine ae @hN ?_
   exact aM
theorem sf {F:List HP} {m:bA} {ah to mu aH bI:Int} {w:Words}:az prog 269 [mv m,.int .i64 ah,.int .i64 to,.int .i64 mu,.int .i64 aH,.int .i64 bI,wv w] [] F (fun r L'=>r=mv (fw m ah to mu aH bI w)∧L'=[]):=by
  refine ay func269 ntmps269 ?_;repeat first|refine gd ?_|intro _
  (apply ad rfl rfl ar;(first|exact cS|exact ⟨by simp [fw]<;>omega,rfl⟩);exact bM)
theorem kj {F:List HP} {m:bA} {ah to mu aH bI:Int}:az prog 269 [mv m,.int .i64 ah,.int .i64 to,.int .i64 mu,.int .i64 aH,.int .i64 bI,wv .zero] [] F (fun r L'=>r=mv (fw m ah to mu aH bI .zero)∧L'=[]):=sf
theorem zB {Q P:Prop} (k:Q) (h:Hid Q→P:=by
  intro k
  first
  |(refine an ?_;refine bF (id:=10) .false (pl:= .p 0 <| .p 5 <| .p 7 <| .r 1 <| .r 2 <| .p 3 <| .r 4 <| .r 6 <| .r 8 <| .e true [(9,.e true [(10,.p 11 <| .e true [(12,.p 13 <| .done)])])]) k.out)
  |(refine an ?_;refine bF (id:=12) .false (pl:= .p 0 <| .p 4 <| .r 1 <| .p 2 <| .r 3 <| .r 5 <| .e true [(6,.e true [(7,.p 8 <| .e true [(9,.p 10 <| .done)])])]) k.out)
  |(refine an ?_;refine bF (id:=14) .false (pl:= .p 3 <| .r 0 <| .p 1 <| .r 2 <| .r 4 <| .e true [(5,.e true [(6,.p 7 <| .e true [(8,.p 9 <| .done)])])]) k.out)
  |(refine an ?_;refine bF (id:=16) .false (pl:= .p 2 <| .r 0 <| .r 1 <| .r 3 <| .e true [(4,.e true [(5,.p 6 <| .e true [(7,.e true [(8,.done)])]),(7,.e true [(5,.p 6 <| .e true [(8,.done)])])]),(7,.e true [(4,.e true [(5,.p 6 <| .e true [(8,.done)])])])]) k.out)
  |(refine an ?_;refine bF (id:=25) .false (pl:= .p 0 <| .p 3 <| .p 4 <| .r 1 <| .r 2 <| .r 5 <| .e true [(6,.e true [(7,.e true [(8,.p 9 <| .e true [(10,.done)])])])]) k.out)
  |(refine an ?_;refine bF (id:=27) .false (pl:= .p 0 <| .p 3 <| .p 4 <| .r 1 <| .r 2 <| .r 5 <| .e true [(6,.e true [(7,.e true [(8,.p 9 <| .e true [(10,.done)])])])]) k.out)
  |(refine an ?_;refine bF (id:=28) .false (pl:= .p 0 <| .p 3 <| .p 5 <| .p 6 <| .r 1 <| .r 2 <| .r 4 <| .r 7 <| .e true [(8,.e true [(9,.e true [(10,.p 11 <| .e true [(12,.done)])])])]) k.out)
  |(refine an ?_;refine bF (id:=32) .false (pl:= .p 0 <| .p 3 <| .p 4 <| .p 5 <| .p 7 <| .r 1 <| .r 2 <| .r 6 <| .r 8 <| .e true [(9,.e true [(10,.e true [(11,.p 12 <| .e true [(13,.done)])])])]) k.out)):P:=h ⟨k⟩
theorem BZ {F:List HP} {e:dP} {a:Option Addr} {k:Nat} {m:bA} {w:Words} (hk:bN F 1 (.slice a e.s.ps.length k) e.s.ps.length (aj ic e.s.ps)) (cO:xW e m=true) (xZ:m.ah=1) (ho:e.o=m.src) :
    az prog 192 [.agg (Ao e a k).toArray,mv m,wv w] [] F (fun r L'=>r= .tuple [.agg (G8 .no none 0 none 0 0 false).toArray,.int .i64 7].toArray∧L'=[]):=by
  obtain ⟨hm,h2,h3,h4,h5⟩:=kF cO;have dX:lQ e=true:=lc hm h2 h3;have hn:=(cP hm).2.2;have hM:=fun F (hk:bN F 1 (.slice a e.s.ps.length k) e.s.ps.length (aj ic e.s.ps))=>pP (F:=F) hk (om);simp only [dX] at hM;refine ay func192 ntmps192 ?_;cases hh:dM e.s m.src with
  |true=>
   have hA:=fun F (hk:bN F 1 (.slice a e.s.ps.length k) e.s.ps.length (aj ic e.s.ps))=>oO (F:=F) (x:=m.src) hk hm h4 h5 hh;repeat first|refine go ?_|intro _|refine zB ?_|refine av ?_|refine ae @hM ?_|refine ae @hA ?_
   exact aM
  |false=>
   have hA:=fun F (hk:bN F 1 (.slice a e.s.ps.length k) e.s.ps.length (aj ic e.s.ps))=>vr (F:=F) (x:=m.src) hk (om) (fun h=>by rw [hh] at h;cases h);repeat first|refine go ?_|intro _|refine zB ?_|refine av ?_|refine ae @hM ?_|refine ae @hA ?_
   exact aM
end
section
abbrev zJ (x:kW):List Value:=Ao x.1 x.2.1 x.2.2
abbrev O7 (c:au) (num:Int) (p:Option Addr) (n k:Nat) (be bq:Nat) (aR:Int):List Value:=[.int .i64 c.ax,.int .i64 c.bY,.int .i64 c.cl,.int .i64 c.al,.int .i64 c.ag,.int .i64 c.aZ,.int .i64 c.ef,.int .i64 c.aS,.int .i64 c.aQ,.int .i64 c.aw,.int .i64 c.r0,.int .i64 c.r1,.int .i64 c.r2,.int .i64 num,.slice p n k,.pointer (some ⟨be,0,none⟩),.pointer (some ⟨bq,0,none⟩),.int .i64 aR]
def wa (c:au) (num:Int) (es:List (Int×dP)) (xs:List kW):Prop:=(xs.length:Int)=c.aZ∧∀ k:Nat,∀ hk:k<xs.length,B5 c num k→fH es k=some xs[k].1
def fI (b:Nat) (c:au) (num:Int) (s:di):HP:=Ex fun x:((Option Addr×Nat)×Nat×Nat)×List kW=>[ao b 201 (O7 c num x.1.1.1 x.2.length x.1.1.2 x.1.2.1 x.1.2.2 s.aR),aT 228 5 (.slice x.1.1.1 x.2.length x.1.1.2) x.2.length (aj zJ x.2),bZ (x.2.map oK),oh x.1.2.1 c s.ms,oJ 196 205 x.1.2.2 c.aQ s.q,ja (wa c num s.es x.2)]
theorem mj {b be bq n:Nat} {p:Option Addr} {k:Nat} {c:au} {num aR:Int} {xs:List kW} {vs:List Value} {es:List (Int×dP)} {ms:List Int} {q:List QE} {L M:List HP}
    (h:ai L (ao b 201 (O7 c num p n k be bq aR)::aT 228 5 (.slice p n k) n vs::bZ (xs.map oK)::oh be c ms::oJ 196 205 bq c.aQ q::M)) (hn:n=xs.length) (hv:vs=aj zJ xs) (he:wa c num es xs):ai L (fI b c num ⟨es,ms,q,aR⟩::M):=by
  subst hn hv;refine ai.trans h (ai.trans ?_ (fU (p:=fun x:((Option Addr×Nat)×Nat×Nat)×List kW=>[ao b 201 (O7 c num x.1.1.1 x.2.length x.1.1.2 x.1.2.1 x.1.2.2 aR),aT 228 5 (.slice x.1.1.1 x.2.length x.1.1.2) x.2.length (aj zJ x.2),bZ (x.2.map oK),oh x.1.2.1 c ms,oJ 196 205 x.1.2.2 c.aQ q,ja (wa c num es x.2)]) (((p,k),be,bq),xs)));exact ai.cons (ai.cons (ai.cons (ai.cons (ai.cons (cX he)))))
theorem TL {b:Nat} {c:au} {num:Int} {s:di} {L:List HP} {w:World} (h:Sat (fI b c num s::L) w):∃ p k be bq,∃ xs:List kW,wa c num s.es xs∧
    Sat (ao b 201 (O7 c num p xs.length k be bq s.aR)::aT 228 5 (.slice p xs.length k) xs.length (aj zJ xs)::bZ (xs.map oK)::oh be c s.ms::oJ 196 205 bq c.aQ s.q::L) w:=by
  obtain ⟨⟨⟨⟨p,k⟩,be,bq⟩,xs⟩,hx⟩:=eN h;simp only [eX] at hx;exact ⟨p,k,be,bq,xs,fc (aG (aG (aG (aG (aG hx))))),(ai.cons (ai.cons (ai.cons (ai.cons (ai.cons (ai.drop ai.refl)))))) _ hx⟩
section
variable {b:Nat} {c:au} {num:Int} {s:di} {P:Program} {N:Nat} {env:Env} {L:List HP} {Q:Exit→Act→World→Prop}
theorem jD {co:Code} (h:∀ p k be bq,∀ xs:List kW,wa c num s.es xs→WC P N co env (ao b 201 (O7 c num p xs.length k be bq s.aR)::aT 228 5 (.slice p xs.length k) xs.length (aj zJ xs)::bZ (xs.map oK)::oh be c s.ms::oJ 196 205 bq c.aQ s.q::L) Q):WC P N co env (fI b c num s::L) Q:=by
  intro a w ha hw;obtain ⟨p,k,be,bq,xs,he,hx⟩:=TL hw;exact h p k be bq xs he a w ha hx
end
theorem JH {c:au} {num:Int} {m:bA} {L7:Int} (h:¬bU c m):im c num m L7=false:=by simp [im,h]
theorem Ht {c:au} {num:Int} {m:bA} (h:bU c m):im c num m 0=(decide (m.ah≤3)&& decide (m.dst=num)):=by
  have hk:=h.2.1;simp only [im,decide_eq_true h,Bool.true_and];by_cases h3:m.ah≤3
  ·have e1:ee m.ah=0:=if_pos ⟨hk.1,h3⟩;have e2:cA m.ah:= .inl ⟨hk.1,h3⟩;simp [e1,e2,h3]
  ·have e1:¬ee m.ah=0:=by
     unfold ee;rw [if_neg (om)];split
     ·omega
     ·split<;>omega
   simp [e1,h3]
theorem Hu {c:au} {num:Int} {m:bA} (h:bU c m):im c num m 2=(decide (m.ah=11)&& decide (m.dst=num)):=by
  have hk:=h.2.1;simp only [im,decide_eq_true h,Bool.true_and];by_cases h3:m.ah=11
  ·have e1:ee m.ah=2:=by rw [h3];decide
   have e2:cA m.ah:= .inr h3;simp only [decide_eq_true e1,decide_eq_true e2,decide_eq_true h3,Bool.true_and]
  ·by_cases e2:cA m.ah
   ·have e1:ee m.ah=0:=if_pos (e2.resolve_right h3);simp [e1,h3]
   ·simp [e2,h3]
attribute [local irreducible] Exit.then Exit.inBlock Code.wp WC WO WE WQ V aW dL Sat bz bK dU IntKind.wrap WR Code.rounds WT KO
theorem rB {Q P:Prop} (k:Q) (h:Hid Q→P:=by
  intro k
  first
  |(refine an ?_;refine bF (id:=3) .true (pl:= .p 0 <| .p 1 <| .p 2 <| .r 3 <| .r 4 <| .e true [(5,.p 6 <| .done)]) k.out)):P:=h ⟨k⟩
theorem Lp {F:List HP} {b:Nat} {c:au} {num:Int} {s:di} {m:bA} (hc:c.wf):az prog 185 [.pointer (some ⟨b,0,none⟩),mv m] [fI b c num s] F (fun r L'=>r= .int .i64 (jv c num s m)∧L'=[fI b c num (iK c num s m)]):=by
  have hM:=fun F=>jP (F:=F) (c:=c) (m:=m) hc;obtain ⟨es,ms,q,aR⟩:=s;have dC:im c num m 0=false→jv c num ⟨es,ms,q,aR⟩ m=1∧iK c num ⟨es,ms,q,aR⟩ m=⟨es,ms,q,aR⟩:=fun h=>by simp [jv,iK,h]
  by_cases h1:bU c m
  ·simp only [decide_eq_true h1] at hM;by_cases h2:m.ah≤3
   ·by_cases h3:m.dst=num
    ·have e:im c num m 0=true:=by rw [Ht h1];simp [h2,h3]
     have e1:jv c num ⟨es,ms,q,aR⟩ m=me c.aQ q m:=by simp [jv,e]
     have e2:iK c num ⟨es,ms,q,aR⟩ m=⟨es,ms,mf c.aQ q m,aR⟩:=by simp [iK,e]
     rw [e1,e2];refine ay func185 ntmps185 ?_;refine jD fun p k be bq xs he=>?_;repeat first|refine go ?_|intro _|refine rB ?_|refine av ?_|refine ae @hM ?_|refine ae @K6 ?_
     (apply ad rfl rfl ar)
     ·exact ⟨rfl,rfl⟩
     ·exact eb @mj
    ·obtain ⟨e1,e2⟩:=dC (by rw [Ht h1];simp [h3]);rw [e1,e2];refine ay func185 ntmps185 ?_;refine jD fun p k be bq xs he=>?_;repeat first|refine go ?_|intro _|refine rB ?_|refine av ?_|refine ae @hM ?_
     (apply ad rfl rfl ar)
     ·exact ⟨rfl,rfl⟩
     ·exact eb @mj
   ·obtain ⟨e1,e2⟩:=dC (by rw [Ht h1];simp [h2]);rw [e1,e2];refine ay func185 ntmps185 ?_;refine jD fun p k be bq xs he=>?_;repeat first|refine go ?_|intro _|refine rB ?_|refine av ?_|refine ae @hM ?_
    (apply ad rfl rfl ar)
    ·exact ⟨rfl,rfl⟩
    ·exact eb @mj
  ·obtain ⟨e1,e2⟩:=dC (JH h1);simp only [decide_eq_false h1] at hM;rw [e1,e2];refine ay func185 ntmps185 ?_;refine jD fun p k be bq xs he=>?_;repeat first|refine go ?_|intro _|refine rB ?_|refine av ?_|refine ae @hM ?_
   (apply ad rfl rfl ar)
   ·exact ⟨rfl,rfl⟩
   ·exact eb @mj
theorem rC {Q P:Prop} (k:Q) (h:Hid Q→P:=by
  intro k
  first
  |(refine an ?_;refine bF (id:=3) .true (pl:= .p 0 <| .p 1 <| .p 2 <| .p 4 <| .p 6 <| .r 3 <| .r 5 <| .r 7 <| .e true [(8,.p 9 <| .done)]) k.out)):P:=h ⟨k⟩
theorem Rd {F:List HP} {b:Nat} {c:au} {num:Int} {s:di} {m:bA} (hc:c.wf):az prog 187 [.pointer (some ⟨b,0,none⟩),mv m] [fI b c num s] F (fun r L'=>r= .int .i64 (fZ c num s m)∧L'=[fI b c num (iB c num s m)]):=by
  have hM:=fun F=>jP (F:=F) (c:=c) (m:=m) hc;obtain ⟨es,ms,q,aR⟩:=s;have dC:im c num m 2=false→fZ c num ⟨es,ms,q,aR⟩ m=1∧iB c num ⟨es,ms,q,aR⟩ m=⟨es,ms,q,aR⟩:=fun h=>by simp [fZ,iB,h]
  by_cases h1:bU c m
  ·simp only [decide_eq_true h1] at hM;by_cases h2:m.ah=11
   ·by_cases h3:m.dst=num
    ·have e:im c num m 2=true:=by rw [Hu h1];simp [h2,h3]
     have e1:fZ c num ⟨es,ms,q,aR⟩ m=rj q m.aa m.src:=by simp [fZ,e]
     have e2:iB c num ⟨es,ms,q,aR⟩ m=⟨es,ms,n9 q m.aa m.src,aR⟩:=by simp [iB,e]
     rw [e1,e2];refine ay func187 ntmps187 ?_;refine jD fun p k be bq xs he=>?_;repeat first|refine go ?_|intro _|refine rC ?_|refine av ?_|refine ae @hM ?_|refine ae @EG ?_
     (apply ad rfl rfl ar)
     ·exact ⟨rfl,rfl⟩
     ·exact eb @mj
    ·obtain ⟨e1,e2⟩:=dC (by rw [Hu h1];simp [h3]);rw [e1,e2];refine ay func187 ntmps187 ?_;refine jD fun p k be bq xs he=>?_;repeat first|refine go ?_|intro _|refine rC ?_|refine av ?_|refine ae @hM ?_
     (apply ad rfl rfl ar)
     ·exact ⟨rfl,rfl⟩
     ·exact eb @mj
   ·obtain ⟨e1,e2⟩:=dC (by rw [Hu h1];simp [h2]);rw [e1,e2];refine ay func187 ntmps187 ?_;refine jD fun p k be bq xs he=>?_;repeat first|refine go ?_|intro _|refine rC ?_|refine av ?_|refine ae @hM ?_
    (apply ad rfl rfl ar)
    ·exact ⟨rfl,rfl⟩
    ·exact eb @mj
  ·obtain ⟨e1,e2⟩:=dC (JH h1);simp only [decide_eq_false h1] at hM;rw [e1,e2];refine ay func187 ntmps187 ?_;refine jD fun p k be bq xs he=>?_;repeat first|refine go ?_|intro _|refine rC ?_|refine av ?_|refine ae @hM ?_
   (apply ad rfl rfl ar)
   ·exact ⟨rfl,rfl⟩
   ·exact eb @mj
end
end Go.Sx
