/- Hom, Hom2, HomPl, Hom3, Ca, Hom4, Hom5, HomPl2, CaPl, CaInv, Vw: several of my texts as one. My own work. -/
import Derived.Test.YtjihlpjnebdiiabGreatZai
import Derived.Test.YtjihlpjnebdiiabGreatZaj
import Derived.Test.YtjihlpjnebdiiabGreatZag
import Derived.Test.YtjihlpjnebdiiabGreatZao
import Derived.Test.YtjihlpjnebdiiabGreatZah
set_option linter.unusedVariables false
set_option linter.unusedSectionVars false
set_option linter.unusedSimpArgs false
set_option maxRecDepth 100000
set_option maxHeartbeats 4000000
namespace Go.Sx
open Go Go.Proofs Tryz
section
structure di where
  es:List (Int×dP)
  ms:List Int
  q:List QE
  aR:Int
abbrev kW:=dP×Option Addr×Nat
abbrev Sn (x:kW):Value:= .slice x.2.1 x.1.s.ps.length x.2.2
abbrev O4 (x:kW):Value:= .agg (Ao x.1 x.2.1 x.2.2).toArray
abbrev oK (x:kW):HP:=OY 1 (Sn x) x.1.s.ps.length (aj ic x.1.s.ps)
abbrev pS (ps:List (Int×kW)):List HP:=ps.map fun p=>oK p.2
abbrev vP (ps:List (Int×kW)):List (Int×dP):=ps.map fun p=>(p.1,p.2.1)
abbrev hz:kW:=(.no,none,0)
theorem QL (ps:List (Int×kW)) (k:Int):fH (vP ps) k=(fH ps k).map (·.1):=by
  induction ps with
  |nil=>rfl
  |cons p r ih=>
   show fH ((p.1,p.2.1)::vP r) k=_;rw [my,my,ih];split<;>rfl
theorem pY (ps:List (Int×kW)) (k:Int) (x:kW):vP (iS ps k x)=iS (vP ps) k x.1:=by
  induction ps with
  |nil=>rfl
  |cons p r ih=>
   show vP (if p.1=k then (k,x)::r else p::iS r k x)=if p.1=k then (k,x.1)::vP r else (p.1,p.2.1)::iS (vP r) k x.1;split
   ·rfl
   ·show (p.1,p.2.1)::vP (iS r k x)=_;rw [ih]
theorem FC {L:List HP} (ps:List (Int×kW)) (k:Int) (x:kW):ai (oK x::bZ (pS ps)::L) (bZ (pS (iS ps k x))::L):=by
  have h:∀ ps:List (Int×kW),ai (oK x::(pS ps++L)) (pS (iS ps k x)++L):=by
    intro ps;induction ps with
    |nil=>exact ai.refl
    |cons p r ih=>
     show ai (oK x::oK p.2::(pS r++L)) (pS (if p.1=k then (k,x)::r else p::iS r k x)++L);split
     ·exact ai.cons (ai.drop ai.refl)
     ·exact ai.trans (fD (List.Perm.swap _ _ _)) (ai.cons ih)
  exact ai.trans (ai.cons km) (ai.trans (h ps) jN)
theorem Ju {L M:List HP} {T:TypeId} {ps:List (Int×kW)} {k:Int} {x:kW} (h:ai L (aT T 1 (Sn x) x.1.s.ps.length (aj ic x.1.s.ps)::bZ (pS ps)::M)):ai L (bZ (pS (iS ps k x))::M):=
  ai.trans h (ai.trans zY (FC ps k x))
theorem Th {L:List HP} (ps:List (Int×kW)) (k:Int):bN (bZ (pS ps)::L) 1 (Sn ((fH ps k).getD hz)) ((fH ps k).getD hz).1.s.ps.length (aj ic ((fH ps k).getD hz).1.s.ps):=by
  cases e:fH ps k with
  |none=>exact ou
  |some x=>
   obtain ⟨i,hi,h⟩:=List.getElem_of_mem (M8 e);have hx:ps[i].2=x:=by rw [h]
   have k:bN (oK ps[i].2::bZ ((ps.eraseIdx i).map fun p=>oK p.2)::L) 1 (Sn ps[i].2) ps[i].2.1.s.ps.length (aj ic ps[i].2.1.s.ps):=bN.WX;have e:=nj (f:=fun p:Int×kW=>oK p.2) (L:=L) i hi;rw [hx] at k;rw [hx] at e;exact ⟨fun w h=>k.len w (e.gX (by simpa using h)),fun w h=>k.q7 w (e.gX (by simpa using h)),fun w h=>k.pf w (e.gX (by simpa using h))⟩
abbrev G5 (c:au) (num:Int) (bm be bq:Nat) (aR:Int):List Value:=[.int .i64 c.ax,.int .i64 c.bY,.int .i64 c.cl,.int .i64 c.al,.int .i64 c.ag,.int .i64 c.aZ,.int .i64 c.ef,.int .i64 c.aS,.int .i64 c.aQ,.int .i64 c.aw,.int .i64 c.r0,.int .i64 c.r1,.int .i64 c.r2,.int .i64 num,.map (some bm),.pointer (some ⟨be,0,none⟩),.pointer (some ⟨bq,0,none⟩),.int .i64 aR]
def gQ (b:Nat) (c:au) (num:Int) (s:di):HP:=Ex fun x:(Nat×Nat×Nat)×List (Int×kW)=>[ao b 263 (G5 c num x.1.1 x.1.2.1 x.1.2.2 s.aR),kA x.1.1 O4 x.2,bZ (pS x.2),vF x.1.2.1 c s.ms,oJ 332 203 x.1.2.2 c.aQ s.q,ja (vP x.2=s.es)]
theorem mg {b bm be bq:Nat} {c:au} {num aR:Int} {ps:List (Int×kW)} {es:List (Int×dP)} {ms:List Int} {q:List QE} {L M:List HP}
    (h:ai L (ao b 263 (G5 c num bm be bq aR)::kA bm O4 ps::bZ (pS ps)::vF be c ms::oJ 332 203 bq c.aQ q::M)) (he:vP ps=es):ai L (gQ b c num ⟨es,ms,q,aR⟩::M):=by
  refine ai.trans h (ai.trans ?_ (fU (p:=fun x:(Nat×Nat×Nat)×List (Int×kW)=>[ao b 263 (G5 c num x.1.1 x.1.2.1 x.1.2.2 aR),kA x.1.1 O4 x.2,bZ (pS x.2),vF x.1.2.1 c ms,oJ 332 203 x.1.2.2 c.aQ q,ja (vP x.2=es)]) ((bm,be,bq),ps)));exact ai.cons (ai.cons (ai.cons (ai.cons (ai.cons (cX he)))))
theorem MK {b:Nat} {c:au} {num:Int} {s:di} {L:List HP} {w:World} (h:Sat (gQ b c num s::L) w):∃ bm be bq,∃ ps:List (Int×kW),vP ps=s.es∧
    Sat (ao b 263 (G5 c num bm be bq s.aR)::kA bm O4 ps::bZ (pS ps)::vF be c s.ms::oJ 332 203 bq c.aQ s.q::L) w:=by
  obtain ⟨⟨⟨bm,be,bq⟩,ps⟩,hx⟩:=eN h;simp only [eX] at hx;exact ⟨bm,be,bq,ps,fc (aG (aG (aG (aG (aG hx))))),(ai.cons (ai.cons (ai.cons (ai.cons (ai.cons (ai.drop ai.refl)))))) _ hx⟩
section
variable {b:Nat} {c:au} {num:Int} {s:di} {P:Program} {N:Nat} {env:Env} {L:List HP} {Q:Exit→Act→World→Prop}
theorem lf {co:Code} (h:∀ bm be bq,∀ ps:List (Int×kW),vP ps=s.es→WC P N co env (ao b 263 (G5 c num bm be bq s.aR)::kA bm O4 ps::bZ (pS ps)::vF be c s.ms::oJ 332 203 bq c.aQ s.q::L) Q):WC P N co env (gQ b c num s::L) Q:=by
  intro a w ha hw;obtain ⟨bm,be,bq,ps,he,hx⟩:=MK hw;exact h bm be bq ps he a w ha hx
end
def im (c:au) (num:Int) (m:bA) (L7:Int):Bool:=decide (bU c m)&& decide (ee m.ah=L7)&& decide (cA m.ah)&& decide (m.dst=num)
def jv (c:au) (num:Int) (s:di) (m:bA):Int:=if im c num m 0 then me c.aQ s.q m else 1
def iK (c:au) (num:Int) (s:di) (m:bA):di:=if im c num m 0 then { s with q:=mf c.aQ s.q m} else s
def fZ (c:au) (num:Int) (s:di) (m:bA):Int:=if im c num m 2 then rj s.q m.aa m.src else 1
def iB (c:au) (num:Int) (s:di) (m:bA):di:=if im c num m 2 then { s with q:=n9 s.q m.aa m.src} else s
def gJ (s:di) (aa:Int):dP:=(fH s.es aa).getD .no
def RW (s:di) (aa:Int):Bool:=(fH s.es aa).isSome
attribute [local irreducible] Exit.then Exit.inBlock Code.wp WC WO WE WQ V aW dL Sat bz bK dU IntKind.wrap WR Code.rounds WT KO
instance:F2 prog 261 O4 hz:=⟨_,_,_,_,_,underlying261,underlying3,TZ.pf⟩
theorem Jv {F:List HP} {b:Nat} {c:au} {num:Int} {s:di} {m:bA} {L7:Int} (hc:c.wf):az prog 223 [.pointer (some ⟨b,0,none⟩),mv m,.int .i64 L7] [gQ b c num s] F (fun r L'=>r= .bool (im c num m L7)∧L'=[gQ b c num s]):=by
  have hM:=fun F=>D4 (F:=F) (c:=c) (m:=m) hc;have hH:=fun F=>wX (F:=F) (k:=m.ah);obtain ⟨es,ms,q,aR⟩:=s;refine ay func223 ntmps223 ?_;refine lf fun bm be bq ps he=>?_;by_cases h1:bU c m
  ·simp only [decide_eq_true h1] at hM;by_cases h2:ee m.ah=L7
   ·by_cases h3:cA m.ah
    ·simp only [decide_eq_true h3] at hH;repeat first|refine gd ?_|intro _|refine ae @hM ?_|refine ae @qQ ?_|refine ae @hH ?_
     (apply ad rfl rfl ar)
     ·exact ⟨by simp [im,h1,h2,h3],rfl⟩
     ·exact eb @mg
    ·simp only [decide_eq_false h3] at hH;repeat first|refine gd ?_|intro _|refine ae @hM ?_|refine ae @qQ ?_|refine ae @hH ?_
     (apply ad rfl rfl ar)
     ·exact ⟨by simp [im,h1,h2,h3],rfl⟩
     ·exact eb @mg
   ·repeat first|refine gd ?_|intro _|refine ae @hM ?_|refine ae @qQ ?_|refine ae @hH ?_
    (apply ad rfl rfl ar)
    ·exact ⟨by simp [im,h1,h2],rfl⟩
    ·exact eb @mg
  ·simp only [decide_eq_false h1] at hM;repeat first|refine gd ?_|intro _|refine ae @hM ?_|refine ae @qQ ?_|refine ae @hH ?_
   (apply ad rfl rfl ar)
   ·exact ⟨by simp [im,h1],rfl⟩
   ·exact eb @mg
end
section
attribute [local irreducible] Exit.then Exit.inBlock Code.wp WC WO WE WQ V aW dL Sat bz bK dU IntKind.wrap WR Code.rounds WT KO
theorem zv {Q P:Prop} (k:Q) (h:Hid Q→P:=by
  intro k
  first
  |(refine an ?_;refine bF (id:=3) .true (pl:= .p 0 <| .p 1 <| .p 2 <| .r 3 <| .r 4 <| .e true [(5,.p 6 <| .done)]) k.out)):P:=h ⟨k⟩
theorem Lb {F:List HP} {b:Nat} {c:au} {num:Int} {s:di} {m:bA} (hc:c.wf):az prog 144 [.pointer (some ⟨b,0,none⟩),mv m] [gQ b c num s] F (fun r L'=>r= .int .i64 (jv c num s m)∧L'=[gQ b c num (iK c num s m)]):=by
  have hM:=fun F=>Jv (F:=F) (b:=b) (num:=num) (s:=s) (m:=m) (L7:=0) hc;cases e:im c num m 0 with
  |true=>
   simp only [e] at hM;have e1:jv c num s m=me c.aQ s.q m:=by simp [jv,e]
   have e2:iK c num s m=⟨s.es,s.ms,mf c.aQ s.q m,s.aR⟩:=by simp [iK,e]
   rw [e1,e2];refine ay func144 ntmps144 ?_;repeat first|refine go ?_|intro _|refine ae @hM ?_
   (first|refine aD (gQ b c num s) ?_|refine aE (gQ b c num s) ?_|refine aF (gQ b c num s) ?_);refine lf fun bm be bq ps he=>?_;repeat first|refine go ?_|intro _|refine zv ?_|refine av ?_|refine ae @S9 ?_
   (apply ad rfl rfl ar)
   ·exact ⟨rfl,rfl⟩
   ·exact eb @mg
  |false=>
   simp only [e] at hM;have e1:jv c num s m=1:=by simp [jv,e]
   have e2:iK c num s m=s:=by simp [iK,e]
   rw [e1,e2];refine ay func144 ntmps144 ?_;repeat first|refine go ?_|intro _|refine zv ?_|refine av ?_|refine ae @hM ?_
   exact aM
theorem zw {Q P:Prop} (k:Q) (h:Hid Q→P:=by
  intro k
  first
  |(refine an ?_;refine bF (id:=3) .true (pl:= .p 0 <| .p 1 <| .p 2 <| .p 4 <| .p 6 <| .r 3 <| .r 5 <| .r 7 <| .e true [(8,.p 9 <| .done)]) k.out)):P:=h ⟨k⟩
theorem QM {F:List HP} {b:Nat} {c:au} {num:Int} {s:di} {m:bA} (hc:c.wf):az prog 147 [.pointer (some ⟨b,0,none⟩),mv m] [gQ b c num s] F (fun r L'=>r= .int .i64 (fZ c num s m)∧L'=[gQ b c num (iB c num s m)]):=by
  have hM:=fun F=>Jv (F:=F) (b:=b) (num:=num) (s:=s) (m:=m) (L7:=2) hc;cases e:im c num m 2 with
  |true=>
   simp only [e] at hM;have e1:fZ c num s m=rj s.q m.aa m.src:=by simp [fZ,e]
   have e2:iB c num s m=⟨s.es,s.ms,n9 s.q m.aa m.src,s.aR⟩:=by simp [iB,e]
   rw [e1,e2];refine ay func147 ntmps147 ?_;repeat first|refine go ?_|intro _|refine ae @hM ?_
   (first|refine aD (gQ b c num s) ?_|refine aE (gQ b c num s) ?_|refine aF (gQ b c num s) ?_);refine lf fun bm be bq ps he=>?_;repeat first|refine go ?_|intro _|refine zw ?_|refine av ?_|refine ae @C7 ?_
   (apply ad rfl rfl ar)
   ·exact ⟨rfl,rfl⟩
   ·exact eb @mg
  |false=>
   simp only [e] at hM;have e1:fZ c num s m=1:=by simp [fZ,e]
   have e2:iB c num s m=s:=by simp [iB,e]
   rw [e1,e2];refine ay func147 ntmps147 ?_;repeat first|refine go ?_|intro _|refine zw ?_|refine av ?_|refine ae @hM ?_
   exact aM
theorem Ti {F:List HP} {b:Nat} {c:au} {num:Int} {s:di}:az prog 64 [.pointer (some ⟨b,0,none⟩)] [gQ b c num s] F (fun r L'=>r= .int .i64 s.aR∧L'=[gQ b c num s]):=by
  obtain ⟨es,ms,q,aR⟩:=s;refine ay func64 ntmps64 ?_;refine lf fun bm be bq ps he=>?_;repeat first|refine gd ?_|intro _
  (apply ad rfl rfl ar)
  ·exact ⟨rfl,rfl⟩
  ·exact eb @mg
theorem N2 {F:List HP} {b:Nat} {c:au} {num:Int} {s:di}:az prog 105 [.pointer (some ⟨b,0,none⟩)] [gQ b c num s] F (fun r L'=>∃ p k,r= .slice p s.q.length k∧L'=[J4 203 (.slice p s.q.length k) s.q,gQ b c num s]):=by
  obtain ⟨es,ms,q,aR⟩:=s;refine ay func105 ntmps105 ?_;refine lf fun bm be bq ps he=>?_;repeat first|refine gd ?_|intro _|refine ae @Qg ?_
  (apply ad rfl rfl ar)
  ·exact ⟨_,_,rfl,rfl⟩
  ·exact eb @mg
theorem GH {ps:List (Int×kW)} {k:Int} {x:kW} (e:fH ps k=some x) (L:List HP):bN (bZ (pS ps)::L) 1 (.slice x.2.1 x.1.s.ps.length x.2.2) x.1.s.ps.length (aj ic x.1.s.ps):=by
  have:=Th (L:=L) ps k;rw [e] at this;exact this
end
section
def B5 (c:au) (num k:Int):Prop:=0≤k∧k<c.aZ∧k % c.bY=num
instance (c:au) (num k:Int):Decidable (B5 c num k):=by unfold B5;infer_instance
structure tS (c:au) (num:Int) (s:di):Prop where
  ok:aB c=true
  nm:0≤num∧num<c.bY
  bI:∀ k,RW s k=decide (B5 c num k)
  may:∀ k e,fH s.es k=some e→lQ e=true∧e.s.ax=c.ax∧e.s.dJ=c.ef
  G9:∀ x∈s.q,im c num x.m 0=true
  snd:∀ x∈s.q,∀ y∈x.aK,(4≤y.ah∧y.ah≤10)∧y.aa=x.m.aa∧y.src=num
  len:(s.q.length:Int)≤c.aQ
theorem wO {c:au} (h:aB c=true):c.wf:=by
  simp only [aB,eJ,Bool.and_eq_true,decide_eq_true_eq] at h;unfold au.wf dZ;omega
theorem yu {c:au} (h:aB c=true):1≤c.aQ∧c.aQ≤16:=by
  simp only [aB,eJ,Bool.and_eq_true,decide_eq_true_eq] at h;omega
theorem qn {c:au} {num:Int} {m:bA} (hc:aB c=true) (h:im c num m 0=true):bU c m∧(1≤m.ah∧m.ah≤3)∧B5 c num m.aa∧(0≤m.src∧m.src<c.ax)∧m.dst=num:=by
  simp only [im,Bool.and_eq_true,decide_eq_true_eq] at h;obtain ⟨⟨⟨h1,h2⟩,h3⟩,h4⟩:=h;have hk:1≤m.ah∧m.ah≤3:=by
    unfold ee at h2;split at h2
    ·assumption
    ·split at h2
     ·omega
     ·split at h2<;>omega
  obtain ⟨g1,g2,g3,g4,g5⟩:=h1;have hu:nq c m:=by unfold iF at g4;rw [if_pos h3] at g4;exact g4
  obtain ⟨u1,u2,u3⟩:=hu;have hh:=(kL hc).2.1;refine ⟨⟨g1,g2,g3,g4,g5⟩,hk,⟨g3.1,g3.2,?_⟩,u1,h4⟩;rw [←h4,u2];unfold fQ;rw [Int.tmod_eq_emod_of_nonneg g3.1]
theorem sc {c:au} {num:Int} {s:di} (h:tS c num s) {k:Int} (ho:B5 c num k):fH s.es k=some (gJ s k)∧lQ (gJ s k)=true∧(gJ s k).s.ax=c.ax∧(gJ s k).s.dJ=c.ef:=by
  have h1:=h.bI k;rw [decide_eq_true ho] at h1;unfold RW at h1;cases e:fH s.es k with
  |none=>rw [e] at h1;cases h1
  |some x=>
   have e2:gJ s k=x:=by unfold gJ;rw [e];rfl
   rw [e2];exact ⟨rfl,h.may k x e⟩
def jm (s:di) (lD:Int):bA:=(ss s.q lD).m
def Ax (s:di) (lD:Int):di:=⟨s.es,s.ms,s.q.eraseIdx lD.toNat,s.aR+1⟩
def sH (c:au) (s:di) (lD:Int):di:=
  ⟨iS s.es (jm s lD).aa (dx (gJ s (jm s lD).aa) (jm s lD)),if jS (gJ s (jm s lD).aa) (jm s lD) then En c s.ms (jm s lD).aa (jm s lD).ag else s.ms,
    dO s.q lD (bP (gJ s (jm s lD).aa) (jm s lD) (fj c s.ms (jm s lD).aa)),s.aR⟩
def k7 (c:au) (s:di) (lD:Int):di:=if fo (gJ s (jm s lD).aa) (jm s lD)=0 then sH c s lD else Ax s lD
abbrev L3:=Int×Int×Int
abbrev UD (l:L3):List Value:=[.int .i64 l.1,.int .i64 l.2.1,.int .i64 l.2.2]
def LO (l:L3) (n:Int):Int:=if n=0 then l.1 else if n=1 then l.2.1 else l.2.2
def gi (s:di) (lD:Int) (l:L3):Bool:=fN s.q lD&& decide (0<LO l (ee (fO s.q lD).ah))
def cQ (c:au) (s:di) (lD:Int) (l:L3):di:=if fi s.q lD then k7 c s lD else if gi s lD l then { s with q:=ig s.q lD} else s
def ec (s:di) (lD:Int) (l:L3):bA:=if fi s.q lD then .zero else if gi s lD l then fO s.q lD else .zero
def dG (s:di) (lD:Int) (l:L3):Bool:=if fi s.q lD then false else gi s lD l
def jG (s:di) (lD:Int) (l:L3):Bool:=if fi s.q lD then true else gi s lD l
theorem zx {c:au} {num:Int} {s:di} (h:tS c num s) {m:bA} (hm:im c num m 0=true):(fo (gJ s m.aa) m=7∧m.ah=1∧(gJ s m.aa).o=m.src)∨fo (gJ s m.aa) m=0:=by
  obtain ⟨f1,f2,f3,f4,f5⟩:=qn h.ok hm;obtain ⟨g1,g2,g3,_⟩:=sc h f3;have cO:xW (gJ s m.aa) m=true:=by
    simp only [xW,g2,Bool.true_and,Bool.and_eq_true,decide_eq_true_eq];omega
  unfold fo;rw [if_pos cO];by_cases k1:m.ah=1
  ·rw [if_pos k1];split
   ·exact .inl ⟨rfl,k1,by assumption⟩
   ·exact .inr rfl
  ·rw [if_neg k1];right;split
   ·rfl
   ·rw [if_pos (om)]
theorem QN {q:List QE} {n:Int} {m:bA} (hr:fi q n=true) (hm:(ss q n).m=m) (hk:m.ah≠3):n9 (ig (dO q n [m]) n) m.aa m.src=q.eraseIdx n.toNat:=by
  have WZ:=hr;obtain ⟨i,hi,rfl,ea,hs,hf⟩:=Fo hr;have kH:rG q (i:Int)=true:=by simp only [rG,decide_eq_true_eq];omega
  have e1:dO q i [m]=q.set i { q[i] with st:=true,aK:=[m]}:=by simp [dO,gC,kH,WZ,ea]
  rw [e1];have Pu:q[i].m=m:=by rw [←ea];exact hm
  generalize hx:({ q[i] with st:=true,aK:=[m]}:QE)=x;have x1:x.m=m:=by rw [←hx];exact Pu
  have x2:x.st=true:=by rw [←hx]
  have x3:x.aK=[m]:=by rw [←hx]
  have LP:rG (q.set i x) (i:Int)=true:=by simp only [rG,decide_eq_true_eq,List.length_set];omega
  have ea2:ss (q.set i x) i=x:=by simp [ss,LP,hi]
  have e2:ig (q.set i x) i=q.set i { x with aK:=[]}:=by
    simp [ig,kR,LP,ea2,x3,x1,hk]
  rw [e2];generalize hy:({ x with aK:=[]}:QE)=y;have y1:y.m=m:=by rw [←hy];exact x1
  have y2:y.st=true:=by rw [←hy];exact x2
  have y3:y.aK=[]:=by rw [←hy]
  have So:bO (iQ m.aa m.src) (q.set i y)=i:=by
    refine eU (by simpa using hi) ?_ ?_
    ·intro j hj rp;have PC:j<q.length:=by simpa using hj
     rw [List.getElem_set_ne (om)];have:=hf j PC rp;rw [Pu] at this;simp [iQ,this]
    ·simp [iQ,y1,y2,y3,hk]
  unfold n9;rw [So,if_neg (om),Int.toNat_natCast,List.eraseIdx_set_eq]
end
section
attribute [local irreducible] Exit.then Exit.inBlock Code.wp WC WO WE WQ V aW dL Sat bz bK dU IntKind.wrap WR Code.rounds WT KO
theorem jp {Q P:Prop} (k:Q) (h:Hid Q→P:=by
  intro k
  first
  |(refine an ?_;refine bF (id:=1) (.only [11]) (pl:= .p 0 <| .p 1 <| .p 2 <| .p 4 <| .r 3 <| .r 5 <| .e true [(6,.p 7 <| .p 8 <| .p 9 <| .e true [(10,.e true [(11,.n [] <| .p 12 <| .done)])]),(10,.e true [(6,.p 7 <| .p 8 <| .p 9 <| .e true [(11,.n [] <| .p 12 <| .done)])])]) k.out)
  |(refine an ?_;refine bF (id:=2) (.only [14]) (pl:= .p 0 <| .p 1 <| .p 2 <| .p 4 <| .r 3 <| .r 5 <| .r 6 <| .r 7 <| .r 8 <| .e true [(9,.p 10 <| .p 11 <| .p 12 <| .e true [(13,.e true [(14,.n [] <| .p 15 <| .done)])]),(13,.e true [(9,.p 10 <| .p 11 <| .p 12 <| .e true [(14,.n [] <| .p 15 <| .done)])])]) k.out)
  |(refine an ?_;refine bF (id:=5) (.only [7]) (pl:= .p 0 <| .p 1 <| .p 2 <| .p 4 <| .r 3 <| .r 5 <| .e true [(6,.e true [(7,.n [] <| .done)])]) k.out)
  |(refine an ?_;refine bF (id:=7) (.only [8]) (pl:= .p 0 <| .p 1 <| .p 2 <| .p 4 <| .p 6 <| .r 3 <| .r 5 <| .r 7 <| .e true [(8,.n [] <| .done)]) k.out)
  |(refine an ?_;refine bF (id:=8) (.only [7]) (pl:= .p 0 <| .p 1 <| .p 2 <| .p 4 <| .p 5 <| .r 3 <| .r 6 <| .e true [(7,.n [] <| .done)]) k.out)
  |(refine an ?_;refine bF (id:=11) (.only [8]) (pl:= .p 0 <| .p 1 <| .p 2 <| .p 4 <| .p 6 <| .r 3 <| .r 5 <| .r 7 <| .e true [(8,.n [] <| .done)]) k.out)
  |(refine an ?_;refine bF (id:=9) .true (pl:= .p 0 <| .p 1 <| .p 2 <| .p 4 <| .p 6 <| .r 3 <| .r 5 <| .r 7 <| .e true [(8,.done)]) k.out)):P:=h ⟨k⟩
theorem N3 {F:List HP} {b:Nat} {c:au} {num:Int} {s:di} {n:Int} (h:tS c num s) (hr:fi s.q n=true) (ho:0≤s.aR∧s.aR≤1000000000000) :
    az prog 231 [.pointer (some ⟨b,0,none⟩),.int .i64 n,mv (jm s n)] [gQ b c num s] F (fun r L'=>r= .tuple [].toArray∧L'=[gQ b c num (k7 c s n)]):=by
  have hc:=wO h.ok;obtain ⟨i,hi,en,ea,es0,_⟩:=Fo hr;have v9:im c num (jm s n) 0=true:=by
    unfold jm;rw [ea];exact h.G9 _ (List.getElem_mem hi)
  obtain ⟨f1,f2,f3,f4,f5⟩:=qn h.ok v9;obtain ⟨g1,g2,g3,_⟩:=sc h f3;have hs:cK (gJ s (jm s n).aa).s=true:=by simp only [lQ,Bool.and_eq_true] at g2;exact g2.1.1
  have hb9:(gJ s (jm s n).aa).s.ps.length≤1000:=by have:=cP hs;omega
  have YJ:=(kL h.ok).2.2.2;have hl:dZ (jm s n).aa:=by have:=f3.2.1;have:=f3.1;unfold dZ;omega
  have Pv:=zx h v9;have U2:=fun hk=>QN (m:=jm s n) hr rfl hk;obtain ⟨es,ms,q,aR⟩:=s;generalize hX:jm ⟨es,ms,q,aR⟩ n=m at *;generalize YK:gJ ⟨es,ms,q,aR⟩ m.aa=en at *;have hL:=fun F b=>NS (F:=F) (b:=b) (c:=c) (ms:=ms) hc hl;have hW:=fun F b=>K1 (F:=F) (b:=b) (c:=c) (ms:=ms) (w:=m.ag) hc hl;refine ay func231 ntmps231 ?_;refine lf fun bm be bq ps he=>?_;dsimp only at he g1 ho hr U2 ⊢;subst he;obtain ⟨⟨Ha,a,k⟩,hp,rfl⟩:∃ x:kW,fH ps m.aa=some x∧x.1=en:=by
    rw [QL] at g1;cases e:fH ps m.aa with
    |none=>rw [e] at g1;cases g1
    |some x=>rw [e] at g1;exact ⟨x,rfl,by cases g1;rfl⟩
  dsimp only at *;haveI kr:=fun L=>GH hp L;have hN:=fun F (hk:bN F 1 (.slice a Ha.s.ps.length k) Ha.s.ps.length (aj ic Ha.s.ps))=>NP (F:=F) (e:=Ha) (a:=a) (k:=k) (m:=m) (w:=fj c ms m.aa) hk hb9;rcases Pv with ⟨c1,c2,c3⟩|c1
  ·have e1:k7 c ⟨vP ps,ms,q,aR⟩ n=⟨vP ps,ms,q.eraseIdx n.toNat,aR+1⟩:=by
     unfold k7;rw [hX,YK,if_neg (om)];rfl
   rw [e1,←U2 (om)];simp only [c1] at hN;have hS:=fun F u (k:bN F 15 u 1 (mc m))=>Fu (F:=F) (b:=bq) (ak:=c.aQ) (l:=q) (n:=n) (u:=u) (s:=[m]) k (by simp);repeat' (first|refine go ?_|intro _|refine jp ?_|refine av ?_|refine ae @hL ?_|refine bj ?_ ?_|fail)
   all_goals (simp only [hp,Option.getD_some])
   all_goals (repeat' (first|refine go ?_|intro _|refine jp ?_|refine av ?_|refine ae @hN ?_|refine ae @hS ?_|refine ae @Jp ?_|refine ae @C7 ?_|refine bj ?_ ?_|fail))
   all_goals (apply ad rfl rfl ar)
   all_goals first
   |exact ⟨rfl,rfl⟩
   |exact eb @mg
  ·have e1:k7 c ⟨vP ps,ms,q,aR⟩ n=⟨iS (vP ps) m.aa (dx Ha m),if jS Ha m then En c ms m.aa m.ag else ms,dO q n (bP Ha m (fj c ms m.aa)),aR⟩:=by
     unfold k7 sH;rw [hX,YK,if_pos c1]
   have EX:=(Bt (w:=fj c ms m.aa) c1).2.1;rw [e1];simp only [c1] at hN;have hS:=fun F u (k:bN F 15 u (bP Ha m (fj c ms m.aa)).length (aj mc (bP Ha m (fj c ms m.aa))))=>Fu (F:=F) (b:=bq) (ak:=c.aQ) (l:=q) (n:=n) (u:=u) k EX;cases hw:jS Ha m with
   |true=>
    simp only [hw] at hN;rw [if_pos rfl];repeat' (first|refine go ?_|intro _|refine jp ?_|refine av ?_|refine ae @hL ?_|refine bj ?_ ?_|fail)
    all_goals (simp only [hp,Option.getD_some])
    all_goals (repeat' (first|refine go ?_|intro _|refine jp ?_|refine av ?_|refine ae @hN ?_|refine ae @hS ?_|refine bj ?_ ?_|fail))
    all_goals (apply kO;rfl;exact qy;exact pE (xv:=(dx Ha m,_,_)) rfl rfl rfl inferInstance rfl;refine aU ?_)
    all_goals (repeat' (first|refine go ?_|intro _|refine jp ?_|refine av ?_|refine ae @hW ?_|refine bj ?_ ?_|fail))
    all_goals (apply ad rfl rfl ar)
    all_goals first
    |exact ⟨rfl,rfl⟩
    |(((repeat (first|(with_reducible exact ai.refl)|exact ai.nil|(apply iX;exact G4)|(apply mg)|(apply Ju)|apply ai.drop));all_goals (first|rfl|(with_reducible assumption)|(simp [pY];done)|(simp [pY];omega)|omega|(constructor<;>(simp [pY])<;>omega))))
   |false=>
    simp only [hw] at hN;rw [if_neg (by simp)];repeat' (first|refine go ?_|intro _|refine jp ?_|refine av ?_|refine ae @hL ?_|refine bj ?_ ?_|fail)
    all_goals (simp only [hp,Option.getD_some])
    all_goals (repeat' (first|refine go ?_|intro _|refine jp ?_|refine av ?_|refine ae @hN ?_|refine ae @hS ?_|refine bj ?_ ?_|fail))
    all_goals (apply kO;rfl;exact qy;exact pE (xv:=(dx Ha m,_,_)) rfl rfl rfl inferInstance rfl;refine aU ?_)
    all_goals (repeat' (first|refine go ?_|intro _|refine jp ?_|refine av ?_|refine ae @hW ?_|refine bj ?_ ?_|fail))
    all_goals (apply ad rfl rfl ar)
    all_goals first
    |exact ⟨rfl,rfl⟩
    |(((repeat (first|(with_reducible exact ai.refl)|exact ai.nil|(apply iX;exact G4)|(apply mg)|(apply Ju)|apply ai.drop));all_goals (first|rfl|(with_reducible assumption)|(simp [pY];done)|(simp [pY];omega)|omega|(constructor<;>(simp [pY])<;>omega))))
end
section
structure cT where
  al:List Way
  aP:List bR
  bD:List li
def ls (c:au) (k:cT) (aa ah:Int):Bool:=if ah=1 then decide ((bg c k.al aa).st≠0) else decide ((bg c k.al aa).st=2∨(bg c k.al aa).st=4)
def gj (c:au) (ap ah aa:Int) (w:Words):bA:=⟨ah,aa,ap,uY c aa,0,0,0,w⟩
def dd (c:au) (k:cT) (aa ah:Int):Int:=
  if bG c aa=false∨(ah≠1∧ah≠2) then 1
  else if dp k.aP aa=true∨iP k.bD aa=true∨ls c k aa ah=true then 6
  else if (k.aP.length:Int)=c.aS then 4
  else if gI c k.al aa=false∧df c k.al aa<0 then 5
  else 0
def cH (c:au) (k:cT) (aa ah:Int):cT:=
  if dd c k aa ah=0 then ⟨if gI c k.al aa then eZ c k.al aa true else fJ c k.al aa (df c k.al aa),gH c.aS k.aP aa ah,k.bD⟩ else k
def dm (c:au) (ap:Int) (k:cT) (aa ah:Int):bA:=if dd c k aa ah=0 then gj c ap ah aa .zero else .zero
def jH (c:au) (k:cT) (s w:Int):Int:=
  if ng c s w=false∨(iw c k.al s w).st=0 then 5
  else if (iw c k.al s w).lk=true then 6
  else if 2≤(iw c k.al s w).st∧jV c.aw k.bD (iw c k.al s w).aa≠0 then 4
  else 0
def iI (c:au) (k:cT) (s w:Int):Bool:=decide (jH c k s w=0∧2≤(iw c k.al s w).st)
def jT (c:au) (ap:Int) (k:cT) (s w:Int):bA:=if iI c k s w then gj c ap 3 (iw c k.al s w).aa (iw c k.al s w).ag else .zero
def gr (c:au) (k:cT) (s w:Int):cT:=
  if jH c k s w=0 then ⟨db c k.al (iw c k.al s w).aa 0 .zero,k.aP,if 2≤(iw c k.al s w).st then kT c.aw k.bD (iw c k.al s w).aa (iw c k.al s w).ag else k.bD⟩ else k
def fe (c:au) (k:cT) (aa:Int):Int:=if 2≤(bg c k.al aa).st then 0 else if fY k.bD aa=0 then 0 else 7
def sI (c:au) (k:cT) (aa:Int):Words:=if 2≤(bg c k.al aa).st then (bg c k.al aa).ag else jB k.bD aa
def eo (c:au) (k:cT) (aa st:Int) (vG:Bool):cT:=
  if 2≤(bg c k.al aa).st then ⟨db c k.al aa st (bg c k.al aa).ag,k.aP,k.bD⟩ else if vG then ⟨k.al,k.aP,iA k.bD aa⟩ else k
def fp (c:au) (ap:Int) (k:cT) (m:bA) (bI:Int):bA:=if fe c k m.aa=0 then ⟨7,m.aa,ap,m.mu,1,m.aH,bI,sI c k m.aa⟩ else .zero
def q4 (c:au) (k:cT) (aa:Int):Int:=if 2≤(bg c k.al aa).st then 7 else 0
def sm (c:au) (k:cT) (aa:Int):cT:=if (bg c k.al aa).st=1 then ⟨db c k.al aa 0 .zero,k.aP,k.bD⟩ else k
def tN (c:au) (ap:Int) (k:cT) (m:bA):bA:=if q4 c k m.aa=0 then ⟨9,m.aa,ap,m.mu,0,0,0,.zero⟩ else .zero
def dn (c:au) (k:cT) (aa:Int):cT:=
  if l9 k.aP aa then ⟨db c k.al aa (fR k.aP aa).bI (if (fR k.aP aa).granted then (bg c k.al aa).ag else (fR k.aP aa).ag),iz k.aP aa,k.bD⟩ else k
def qz (e:Int):Int:=if e=0 then 0 else 7
def o8 (c:au) (k:cT) (m:bA):cT:=if fm k.aP m.aa m.aH m.bI=0 then dn c ⟨k.al,dw k.aP m.aa m.aH m.bI m.ag,k.bD⟩ m.aa else k
def u5 (c:au) (k:cT) (m:bA):Int:=if (bg c k.al m.aa).st=3 then qz (fm k.aP m.aa m.aH 4) else 7
def p8 (c:au) (k:cT) (m:bA):cT:=if u5 c k m=0 then dn c ⟨k.al,dy k.aP m.aa m.aH,k.bD⟩ m.aa else k
def sn (c:au) (k:cT) (m:bA):cT:=if lB k.aP m.aa=0 then dn c ⟨k.al,fW k.aP m.aa,k.bD⟩ m.aa else k
def EU (k:cT) (aa:Int):cT:=⟨k.al,k.aP,mV k.bD aa⟩
def dI (c:au) (ap:Int) (m:bA):Bool:=decide (bU c m)&& !decide (cA m.ah)&& decide (m.dst=ap)
def c4 (c:au) (ap:Int) (k:cT) (m:bA):Int:=
  if dI c ap m then (if m.ah=4∨m.ah=5 then fe c k m.aa else if m.ah=6 then q4 c k m.aa else if m.ah=7 then qz (fm k.aP m.aa m.aH m.bI) else if m.ah=8 then u5 c k m
   else if m.ah=9 then qz (lB k.aP m.aa) else qz (kK k.bD m.aa)) else 1
def cJ (c:au) (ap:Int) (k:cT) (m:bA):Bool:=decide (c4 c ap k m=0∧4≤m.ah∧m.ah≤6)
def dg (c:au) (ap:Int) (k:cT) (m:bA):bA:=
  if dI c ap m then (if m.ah=4 then fp c ap k m 1 else if m.ah=5 then fp c ap k m 4 else if m.ah=6 then tN c ap k m else .zero) else .zero
def cw (c:au) (ap:Int) (k:cT) (m:bA):cT:=
  if dI c ap m then (if m.ah=4 then eo c k m.aa 3 false else if m.ah=5 then eo c k m.aa 0 true else if m.ah=6 then (if q4 c k m.aa=0 then sm c k m.aa else k) else if m.ah=7 then o8 c k m
   else if m.ah=8 then p8 c k m else if m.ah=9 then sn c k m else EU k m.aa) else k
def gT (k:cT):Bool:=decide (0≤gx k.aP)
def dz (k:cT):Int:=if 0≤gx k.aP then (k.aP.getD (gx k.aP).toNat .zero).aa else 0
def iW (c:au) (ap:Int) (k:cT):bA:=if gT k then gj c ap 11 (dz k) .zero else .zero
def gU (c:au) (k:cT):cT:=if gT k then ⟨eZ c k.al (dz k) false,gy k.aP (dz k),k.bD⟩ else k
def bJ (x:c5):Int:=if x.ah=1 then 1 else 2
def kf (c:au) (k:cT) (x:c5):Int:=if zI c x=0 then (if ls c k (dS c x.addr) (bJ x) then 0 else 5) else zI c x
def nJ (c:au) (k:cT) (x:c5):Int:=if kf c k x=0 then BM c (bg c k.al (dS c x.addr)).ag x else 0
def ff (c:au) (k:cT) (x:c5):cT:=if kf c k x=0∧x.ah≠1 then ⟨db c k.al (dS c x.addr) 4 (vN c (bg c k.al (dS c x.addr)).ag x),k.aP,k.bD⟩ else k
def O5 (T:TypeId) (A M W:Nat→HP) (b:Nat) (c:au) (ap:Int):HP:=
  Ex fun q:Nat×Nat×Nat=>[ao b T (c.cells++[.int .i64 ap,.pointer (some ⟨q.1,0,none⟩),.pointer (some ⟨q.2.1,0,none⟩),.pointer (some ⟨q.2.2,0,none⟩)]),A q.1,M q.2.1,W q.2.2,ja (aB c=true∧0≤ap∧ap<c.ax)]
theorem rl {T:TypeId} {A M W:Nat→HP} {b a f e:Nat} {c:au} {ap:Int} {L R:List HP}
    (h:ai L (ao b T (c.cells++[.int .i64 ap,.pointer (some ⟨a,0,none⟩),.pointer (some ⟨f,0,none⟩),.pointer (some ⟨e,0,none⟩)])::A a::M f::W e::R)) (hf:aB c=true∧0≤ap∧ap<c.ax):ai L (O5 T A M W b c ap::R):=by
  refine ai.trans h (ai.trans ?_ (fU (p:=fun q:Nat×Nat×Nat=>[ao b T (c.cells++[.int .i64 ap,.pointer (some ⟨q.1,0,none⟩),.pointer (some ⟨q.2.1,0,none⟩),.pointer (some ⟨q.2.2,0,none⟩)]),A q.1,M q.2.1,W q.2.2,ja (aB c=true∧0≤ap∧ap<c.ax)]) (a,f,e)));exact ai.cons (ai.cons (ai.cons (ai.cons (cX hf))))
theorem Hn {T:TypeId} {A M W:Nat→HP} {b:Nat} {c:au} {ap:Int} {L:List HP} {w:World} (h:Sat (O5 T A M W b c ap::L) w):∃ a f e,(aB c=true∧0≤ap∧ap<c.ax)∧
    Sat (ao b T (c.cells++[.int .i64 ap,.pointer (some ⟨a,0,none⟩),.pointer (some ⟨f,0,none⟩),.pointer (some ⟨e,0,none⟩)])::A a::M f::W e::L) w:=by
  obtain ⟨⟨a,f,e⟩,hx⟩:=eN h;simp only [eX] at hx;exact ⟨a,f,e,fc (aG (aG (aG (aG hx)))),(ai.cons (ai.cons (ai.cons (ai.cons (ai.drop ai.refl))))) _ hx⟩
section
variable {T:TypeId} {A M W:Nat→HP} {b:Nat} {c:au} {ap:Int} {P:Program} {N:Nat} {env:Env} {L:List HP} {Q:Exit→Act→World→Prop}
theorem nO {co:Code} (h:∀ a f e,(aB c=true∧0≤ap∧ap<c.ax)→WC P N co env (ao b T (c.cells++[.int .i64 ap,.pointer (some ⟨a,0,none⟩),.pointer (some ⟨f,0,none⟩),.pointer (some ⟨e,0,none⟩)])::A a::M f::W e::L) Q):WC P N co env (O5 T A M W b c ap::L) Q:=by
  intro x w ha hw;obtain ⟨a,f,e,hf,hx⟩:=Hn hw;exact h a f e hf x w ha hx
theorem FD {all:Array Oper} {o:List Oper} (h:∀ a f e,(aB c=true∧0≤ap∧ap<c.ax)→WO P N all o env (ao b T (c.cells++[.int .i64 ap,.pointer (some ⟨a,0,none⟩),.pointer (some ⟨f,0,none⟩),.pointer (some ⟨e,0,none⟩)])::A a::M f::W e::L) Q):WO P N all o env (O5 T A M W b c ap::L) Q:=by
  intro x w ha hw;obtain ⟨a,f,e,hf,hx⟩:=Hn hw;exact h a f e hf x w ha hx
end
theorem lZ {T:TypeId} {A A' M M' W W':Nat→HP} {b:Nat} {c:au} {ap:Int} {P:Program} {fn:FuncId} {vs:List Value} {F:List HP} {u:Value}
    (h:∀ a f e,(aB c=true∧0≤ap∧ap<c.ax)→az P fn vs [ao b T (c.cells++[.int .i64 ap,.pointer (some ⟨a,0,none⟩),.pointer (some ⟨f,0,none⟩),.pointer (some ⟨e,0,none⟩)]),A a,M f,W e] F
     (fun r L'=>r=u∧L'=[ao b T (c.cells++[.int .i64 ap,.pointer (some ⟨a,0,none⟩),.pointer (some ⟨f,0,none⟩),.pointer (some ⟨e,0,none⟩)]),A' a,M' f,W' e]))
    (en:sk P fn):az P fn vs [O5 T A M W b c ap] F (fun r L'=>r=u∧L'=[O5 T A' M' W' b c ap]):=by
  refine ⟨en,fun w hw=>?_⟩;obtain ⟨a,f,e,hf,hx⟩:=Hn hw;refine ((h a f e hf).runs w hx).mono ?_;rintro x w' ⟨v,L',he,⟨hv,hL⟩,hs⟩;subst hL;exact ⟨v,_,he,⟨hv,rfl⟩,(rl ai.refl hf).gX hs⟩
theorem gA {c:au} (h:aB c=true):c.wf:=by
  simp only [aB,eJ,Bool.and_eq_true,decide_eq_true_eq] at h;unfold au.wf dZ;omega
theorem yv {c:au} (h:aB c=true):(1≤c.aS∧c.aS≤8)∧(1≤c.aQ∧c.aQ≤16)∧(1≤c.aw∧c.aw≤8)∧(1≤c.r0∧c.r0≤64)∧(1≤c.r1∧c.r1≤64)∧(1≤c.r2∧c.r2≤64):=by
  simp only [aB,eJ,Bool.and_eq_true,decide_eq_true_eq] at h;omega
theorem wx {c:au} {aa:Int} (h:bG c aa=true):dZ aa:=by
  obtain ⟨hc,h0,h1⟩:=wZ h;have:=(dR hc).2.2;unfold dZ;omega
attribute [local irreducible] Exit.then Exit.inBlock Code.wp WC WO WE WQ V aW dL Sat bz bK dU IntKind.wrap WR Code.rounds WT KO
abbrev pU (b a f e:Nat) (c:au) (ap:Int) (k:cT):List HP:=[ao b 257 (c.cells++[.int .i64 ap,.pointer (some ⟨a,0,none⟩),.pointer (some ⟨f,0,none⟩),.pointer (some ⟨e,0,none⟩)]),ud a c k.al,vO f c.aS k.aP,Wb e c.aw k.bD]
abbrev oL (b:Nat) (c:au) (ap:Int) (k:cT):HP:=O5 257 (fun a=>ud a c k.al) (fun f=>vO f c.aS k.aP) (fun e=>Wb e c.aw k.bD) b c ap
theorem ML {F:List HP} {c:au} {ap:Int} (hw:c.wf) (h:aB c=true∧0≤ap∧ap<c.ax) :
    az prog 54 [c.val,.int .i64 ap] [] F (fun r L'=>∃ b,r= .tuple [.pointer (some ⟨b,0,none⟩),.int .i64 0].toArray∧L'=[oL b c ap ⟨List.replicate (c.cl*c.al).toNat .zero,[],[]⟩]):=by
  obtain ⟨hc,h0,h1⟩:=h;have hr:=yv hc;have hA:=fun F=>QA (F:=F) hw hc;have hM:=fun F=>Qh (F:=F) (ak:=c.aS) hr.1;have hB:=fun F=>Tb (F:=F) (ak:=c.aw) hr.2.2.1;refine ay func54 ntmps54 ?_;repeat first|refine gd ?_|intro _|refine ae @hA ?_|refine ae @hM ?_|refine ae @hB ?_
  rename_i b0 a f e b1;(apply ad rfl rfl ar)
  ·exact ⟨_,rfl,rfl⟩
  ·refine rl (a:=a) (f:=f) (e:=e) ?_ ⟨hc,h0,h1⟩;change ai (ao _ _ (c.cells++[.int .i64 ap,.pointer (some ⟨a,0,none⟩),.pointer (some ⟨f,0,none⟩),.pointer (some ⟨e,0,none⟩)])::_) _;exact af
theorem pZ {F:List HP} {b a f e:Nat} {c:au} {ap aa:Int} {k:cT} (hc:aB c=true) (iD:dZ aa) :
    az prog 79 [.pointer (some ⟨b,0,none⟩),.int .i64 aa] (pU b a f e c ap k) F (fun r L'=>r= .tuple [J5 (bg c k.al aa),.bool (gI c k.al aa)].toArray∧L'=pU b a f e c ap k):=by
  refine ay func79 ntmps79 ?_;have hA:=fun F=>NT (F:=F) (b:=a) (c:=c) (l:=k.al) (aa:=aa) (gA hc) iD;repeat first|refine gd ?_|intro _|refine ae @hA ?_
  (apply ad rfl rfl ar)
  ·exact ⟨rfl,rfl⟩
  ·exact af
theorem Tj {F:List HP} {b:Nat} {c:au} {ap s w:Int} {k:cT} :
    az prog 104 [.pointer (some ⟨b,0,none⟩),.int .i64 s,.int .i64 w] [oL b c ap k] F (fun r L'=>r= .tuple [J5 (iw c k.al s w),.bool (ng c s w)].toArray∧L'=[oL b c ap k]):=by
  refine ay func104 ntmps104 ?_;refine nO fun a f e hf=>?_;have hA:=fun F=>MI (F:=F) (b:=a) (c:=c) (l:=k.al) (s:=s) (k:=w);repeat first|refine gd ?_|intro _|refine ae @hA ?_
  (apply ad rfl rfl ar)
  ·exact ⟨rfl,rfl⟩
  ·(apply rl;(focus (exact af));all_goals exact bu)
theorem yw {F:List HP} {b:Nat} {c:au} {ap:Int} {k:cT} :
    az prog 103 [.pointer (some ⟨b,0,none⟩)] [oL b c ap k] F (fun r L'=>∃ p q,r= .slice p k.aP.length q∧L'=[aT 184 15 (.slice p k.aP.length q) k.aP.length (aj fg k.aP),oL b c ap k]):=by
  refine ay func103 ntmps103 ?_;refine nO fun a f e hf=>?_;repeat first|refine gd ?_|intro _|refine ae @np ?_
  (apply ad rfl rfl ar)
  ·exact ⟨_,_,rfl,rfl⟩
  ·refine ai.cons ?_;(apply rl;(focus (exact af));all_goals exact bu)
theorem Iu {F:List HP} {b:Nat} {c:au} {ap:Int} {k:cT} :
    az prog 74 [.pointer (some ⟨b,0,none⟩)] [oL b c ap k] F (fun r L'=>∃ p q,r= .slice p k.bD.length q∧L'=[aT 131 10 (.slice p k.bD.length q) k.bD.length (aj bc k.bD),oL b c ap k]):=by
  refine ay func74 ntmps74 ?_;refine nO fun a f e hf=>?_;repeat first|refine gd ?_|intro _|refine ae @Qq ?_
  (apply ad rfl rfl ar)
  ·exact ⟨_,_,rfl,rfl⟩
  ·refine ai.cons ?_;(apply rl;(focus (exact af));all_goals exact bu)
theorem o9 {F:List HP} {st:Int}:az prog 247 [.int .i64 st] [] F (fun r L'=>r= .bool (decide (2≤st))∧L'=[]):=by
  refine ay func247 ntmps247 ?_;repeat first|refine gd ?_|intro _
  exact aM
theorem AU {F:List HP} {b a f e:Nat} {c:au} {ap ah aa:Int} {k:cT} (hc:aB c=true) (iD:dZ aa) :
    az prog 239 [.pointer (some ⟨b,0,none⟩),.int .i64 ah,.int .i64 aa] (pU b a f e c ap k) F (fun r L'=>r=mv (gj c ap ah aa .zero)∧L'=pU b a f e c ap k):=by
  refine ay func239 ntmps239 ?_;have hL:=fun F=>nZ (F:=F) (c:=c) (a:=aa) (gA hc) iD;repeat first|refine gd ?_|intro _|refine ae @hL ?_
  (apply ad rfl rfl ar)
  ·exact ⟨rfl,rfl⟩
  ·exact af
theorem Lc {Q P:Prop} (k:Q) (h:Hid Q→P:=by
  intro k
  first
  |(refine an ?_;refine bF (id:=1) .true (pl:= .p 0 <| .p 1 <| .p 3 <| .p 4 <| .p 5 <| .p 7 <| .r 2 <| .r 6 <| .r 8 <| .p 9 <| .e true [(10,.done)]) k.out)):P:=h ⟨k⟩
theorem MM {F:List HP} {b a f e:Nat} {c:au} {ap ah:Int} {m:bA} {k:cT} :
    az prog 334 [.pointer (some ⟨b,0,none⟩),mv m,.int .i64 ah] (pU b a f e c ap k) F (fun r L'=>r=mv ⟨ah,m.aa,ap,m.mu,0,0,0,.zero⟩∧L'=pU b a f e c ap k):=by
  refine ay func334 ntmps334 ?_;repeat first|refine go ?_|intro _|refine Lc ?_|refine av ?_
  (apply ad rfl rfl ar)
  ·exact ⟨rfl,rfl⟩
  ·exact af
theorem Jw {F:List HP} {b a f e:Nat} {c:au} {ap aa ah:Int} {k:cT} (hc:aB c=true) (iD:dZ aa) :
    az prog 244 [.pointer (some ⟨b,0,none⟩),.int .i64 aa,.int .i64 ah] (pU b a f e c ap k) F (fun r L'=>r= .bool (ls c k aa ah)∧L'=pU b a f e c ap k):=by
  have hL:=fun F=>pZ (F:=F) (b:=b) (a:=a) (f:=f) (e:=e) (c:=c) (ap:=ap) (k:=k) hc iD;refine ay func244 ntmps244 ?_;unfold ls;by_cases h1:ah=1
  ·rw [if_pos h1];repeat first|refine gd ?_|intro _|refine ae @hL ?_
   (apply ad rfl rfl ar)
   ·exact ⟨rfl,rfl⟩
   ·exact af
  ·rw [if_neg h1];by_cases h2:(bg c k.al aa).st=2
   ·repeat first|refine gd ?_|intro _|refine ae @hL ?_
    (apply ad rfl rfl ar)
    ·exact ⟨by simp [h2],rfl⟩
    ·exact af
   ·repeat first|refine gd ?_|intro _|refine ae @hL ?_
    (apply ad rfl rfl ar)
    ·exact ⟨by simp [h2],rfl⟩
    ·exact af
end
section
theorem Tk {b:Nat} {c:au} {num:Int} {s:di} {L:List HP} {w:World} (h:Sat (gQ b c num s::L) w):(s.q.length:Int)≤c.aQ∧c.aQ≤16∧∀ x∈s.q,x.aK.length≤1000:=by
  obtain ⟨bm,be,bq,ps,he,hx⟩:=MK h;obtain ⟨p,c0,qs,⟨h0,h1,h2,h3,_⟩,_⟩:=Hk (oq (oq (oq (oq hx))));rw [←h0];refine ⟨by simpa using h1,h2,fun x hx=>?_⟩;obtain ⟨y,hy,rfl⟩:=List.mem_map.1 hx;exact (h3 y hy).2
theorem Tl {b:Nat} {c:au} {num:Int} {s:di} {P:Program} {N:Nat} {co:Code} {env:Env} {L:List HP} {Q:Exit→Act→World→Prop}
    (h:(s.q.length:Int)≤c.aQ∧c.aQ≤16∧(∀ x∈s.q,x.aK.length≤1000)→WC P N co env (gQ b c num s::L) Q):WC P N co env (gQ b c num s::L) Q:=fun a w ha hw=>h (Tk hw) a w ha hw
theorem sd {q:List QE} {n:Int} (h:fi q n=true):rG q n=true:=by
  simp only [fi,Bool.and_eq_true] at h;exact h.1.1
theorem uA {q:List QE} {n:Int} (h:rG q n=true):ss q n∈q:=by
  obtain ⟨i,hi,_,e⟩:=p6 h;rw [e];exact List.getElem_mem hi
theorem Dk {c:au} {num:Int} {s:di} {n:Int} (h:tS c num s) (hn:fN s.q n=true):fO s.q n∈(ss s.q n).aK∧(4≤(fO s.q n).ah∧(fO s.q n).ah≤10)∧(fO s.q n).aa=(ss s.q n).m.aa∧(fO s.q n).src=num:=by
  have hb:=hn;simp only [fN,Bool.and_eq_true,decide_eq_true_eq] at hb;have hm:=uA hb.1;have e:fO s.q n=(ss s.q n).aK.headD .zero:=by unfold fO;rw [if_pos hn]
  have gP:fO s.q n∈(ss s.q n).aK:=by
    rw [e];cases hs:(ss s.q n).aK with
    |nil=>rw [hs] at hb;exact absurd rfl hb.2
    |cons a r=>simp
  exact ⟨gP,h.snd _ hm _ gP⟩
theorem MN {k:Int} (h:4≤k∧k≤10):ee k=1∨ee k=2:=by
  unfold ee;rw [if_neg (om)];split
  ·exact .inl rfl
  ·rw [if_pos (om)];exact .inr rfl
attribute [local irreducible] Exit.then Exit.inBlock Code.wp WC WO WE WQ V aW dL Sat bz bK dU IntKind.wrap WR Code.rounds WT KO
theorem QO {F:List HP} {b:Nat} {c:au} {num:Int} {s:di} {n:Int} {l:L3} (h:tS c num s) (ho:0≤s.aR∧s.aR≤1000000000000) :
    az prog 151 [.pointer (some ⟨b,0,none⟩),.int .i64 n,.agg (UD l).toArray] [gQ b c num s] F
      (fun r L'=>r= .tuple [mv (ec s n l),.bool (dG s n l),.bool (jG s n l)].toArray∧L'=[gQ b c num (cQ c s n l)]):=by
  refine ay func151 ntmps151 ?_;refine Tl fun hf=>?_;obtain ⟨_,_,hf⟩:=hf;cases hr:fi s.q n with
  |true=>
   have kH:=sd hr;have hG:=fun F bq=>MF (F:=F) (b:=bq) (ak:=c.aQ) kH (by have:=hf _ (uA kH);omega);have hR:=fun F bq=>AS (F:=F) (b:=bq) (ak:=c.aQ) (l:=s.q) (n:=n);simp only [hr] at hR;have hS:=fun F=>N3 (F:=F) (b:=b) h hr ho;have e1:ec s n l= .zero:=by simp [ec,hr]
   have e2:dG s n l=false:=by simp [dG,hr]
   have e3:jG s n l=true:=by simp [jG,hr]
   have e4:cQ c s n l=k7 c s n:=by simp [cQ,hr]
   rw [e1,e2,e3,e4];simp only [jm] at hS;obtain ⟨es,ms,q,aR⟩:=s;refine lf fun bm be bq ps he=>?_;dsimp only at *;subst he;repeat first|refine gd ?_|intro _|refine ae @hG ?_|refine ae @hR ?_
   ((first|apply cy (L':=(gQ b c num ⟨vP ps,ms,q,aR⟩)::_)|apply cD (L':=(gQ b c num ⟨vP ps,ms,q,aR⟩)::_)|apply cE (L':=(gQ b c num ⟨vP ps,ms,q,aR⟩)::_)|apply cR (L':=(gQ b c num ⟨vP ps,ms,q,aR⟩)::_));(focus (apply mg;(focus (exact af));all_goals exact bu)));repeat first|refine gd ?_|intro _|refine ae @hS ?_
   exact aM
  |false=>
   have hR:=fun F bq=>AS (F:=F) (b:=bq) (ak:=c.aQ) (l:=s.q) (n:=n);simp only [hr] at hR;have hX:=fun F bq=>Qe (F:=F) (b:=bq) (ak:=c.aQ) (l:=s.q) (n:=n);cases kH:rG s.q n with
   |false=>
    have hG:=fun F bq=>KL (F:=F) (b:=bq) (ak:=c.aQ) kH;have hb:fN s.q n=false:=by simp [fN,kH]
    have hg:gi s n l=false:=by simp [gi,hb]
    have e1:ec s n l= .zero:=by simp [ec,hr,hg]
    have e2:dG s n l=false:=by simp [dG,hr,hg]
    have e3:jG s n l=false:=by simp [jG,hr,hg]
    have e4:cQ c s n l=s:=by simp [cQ,hr,hg]
    rw [e1,e2,e3,e4];simp only [hb] at hX;obtain ⟨es,ms,q,aR⟩:=s;refine lf fun bm be bq ps he=>?_;dsimp only at *;repeat first|refine gd ?_|intro _|refine ae @hG ?_|refine ae @hR ?_|refine ae @hX ?_
    (apply ad rfl rfl ar)
    ·exact ⟨rfl,rfl⟩
    ·exact eb @mg
   |true=>
    have hG:=fun F bq=>MF (F:=F) (b:=bq) (ak:=c.aQ) kH (by have:=hf _ (uA kH);omega);cases hb:fN s.q n with
    |false=>
     have hg:gi s n l=false:=by simp [gi,hb]
     have e1:ec s n l= .zero:=by simp [ec,hr,hg]
     have e2:dG s n l=false:=by simp [dG,hr,hg]
     have e3:jG s n l=false:=by simp [jG,hr,hg]
     have e4:cQ c s n l=s:=by simp [cQ,hr,hg]
     rw [e1,e2,e3,e4];simp only [hb] at hX;obtain ⟨es,ms,q,aR⟩:=s;refine lf fun bm be bq ps he=>?_;dsimp only at *;repeat first|refine gd ?_|intro _|refine ae @hG ?_|refine ae @hR ?_|refine ae @hX ?_
     (apply ad rfl rfl ar)
     ·exact ⟨rfl,rfl⟩
     ·exact eb @mg
    |true=>
     have hk:=Dk h hb;have UE:=fun F bq=>Jp (F:=F) (b:=bq) (ak:=c.aQ) (l:=s.q) (n:=n);have hN:=fun F=>qQ (F:=F) (k:=(fO s.q n).ah);rcases MN hk.2.1 with hn|hn
     ·simp only [hn] at hN;have Sh:gi s n l=decide (0<l.2.1):=by simp [gi,hb,hn,LO]
      by_cases hl:0<l.2.1
      ·have hg:gi s n l=true:=by rw [Sh];exact decide_eq_true hl
       have e1:ec s n l=fO s.q n:=by simp [ec,hr,hg]
       have e2:dG s n l=true:=by simp [dG,hr,hg]
       have e3:jG s n l=true:=by simp [jG,hr,hg]
       have e4:cQ c s n l={ s with q:=ig s.q n}:=by simp [cQ,hr,hg]
       rw [e1,e2,e3,e4];simp only [hb] at hX;obtain ⟨es,ms,q,aR⟩:=s;refine lf fun bm be bq ps he=>?_;dsimp only at *;repeat first|refine gd ?_|intro _|refine ae @hG ?_|refine ae @hR ?_|refine ae @hX ?_|refine ae @hN ?_|refine ae @UE ?_
       (apply ad rfl rfl ar)
       ·exact ⟨rfl,rfl⟩
       ·exact eb @mg
      ·have hg:gi s n l=false:=by rw [Sh];exact decide_eq_false hl
       have e1:ec s n l= .zero:=by simp [ec,hr,hg]
       have e2:dG s n l=false:=by simp [dG,hr,hg]
       have e3:jG s n l=false:=by simp [jG,hr,hg]
       have e4:cQ c s n l=s:=by simp [cQ,hr,hg]
       rw [e1,e2,e3,e4];simp only [hb] at hX;obtain ⟨es,ms,q,aR⟩:=s;refine lf fun bm be bq ps he=>?_;dsimp only at *;repeat first|refine gd ?_|intro _|refine ae @hG ?_|refine ae @hR ?_|refine ae @hX ?_|refine ae @hN ?_
       (apply ad rfl rfl ar)
       ·exact ⟨rfl,rfl⟩
       ·exact eb @mg
     ·simp only [hn] at hN;have Sh:gi s n l=decide (0<l.2.2):=by simp [gi,hb,hn,LO]
      by_cases hl:0<l.2.2
      ·have hg:gi s n l=true:=by rw [Sh];exact decide_eq_true hl
       have e1:ec s n l=fO s.q n:=by simp [ec,hr,hg]
       have e2:dG s n l=true:=by simp [dG,hr,hg]
       have e3:jG s n l=true:=by simp [jG,hr,hg]
       have e4:cQ c s n l={ s with q:=ig s.q n}:=by simp [cQ,hr,hg]
       rw [e1,e2,e3,e4];simp only [hb] at hX;obtain ⟨es,ms,q,aR⟩:=s;refine lf fun bm be bq ps he=>?_;dsimp only at *;repeat first|refine gd ?_|intro _|refine ae @hG ?_|refine ae @hR ?_|refine ae @hX ?_|refine ae @hN ?_|refine ae @UE ?_
       (apply ad rfl rfl ar)
       ·exact ⟨rfl,rfl⟩
       ·exact eb @mg
      ·have hg:gi s n l=false:=by rw [Sh];exact decide_eq_false hl
       have e1:ec s n l= .zero:=by simp [ec,hr,hg]
       have e2:dG s n l=false:=by simp [dG,hr,hg]
       have e3:jG s n l=false:=by simp [jG,hr,hg]
       have e4:cQ c s n l=s:=by simp [cQ,hr,hg]
       rw [e1,e2,e3,e4];simp only [hb] at hX;obtain ⟨es,ms,q,aR⟩:=s;refine lf fun bm be bq ps he=>?_;dsimp only at *;repeat first|refine gd ?_|intro _|refine ae @hG ?_|refine ae @hR ?_|refine ae @hX ?_|refine ae @hN ?_
       (apply ad rfl rfl ar)
       ·exact ⟨rfl,rfl⟩
       ·exact eb @mg
end
section
def pC (c:au):dP:=⟨-1,⟨c.ax,c.ef,[],false⟩⟩
def Eg (c:au) (l:List Int):List (Int×kW):=l.foldl (fun m k=>iS m k (pC c,none,0)) []
def Iv (c:au) (l:List Int):List (Int×dP):=l.foldl (fun m k=>iS m k (pC c)) []
theorem D8 (c:au) (l:List Int):vP (Eg c l)=Iv c l:=by
  have:∀ (l:List Int) (m:List (Int×kW)),vP (l.foldl (fun m k=>iS m k (pC c,none,0)) m)=l.foldl (fun m k=>iS m k (pC c)) (vP m):=by
    intro l;induction l with
    |nil=>intro m;rfl
    |cons a r ih=>intro m;rw [List.foldl_cons,List.foldl_cons,ih,pY]
  exact this l []
theorem AV (c:au) (l:List Int) (k:Int):fH (Iv c l) k=if k∈l then some (pC c) else none:=by
  have:∀ (l:List Int) (m:List (Int×dP)),fH (l.foldl (fun m k=>iS m k (pC c)) m) k=if k∈l then some (pC c) else fH m k:=by
    intro l;induction l with
    |nil=>intro m;simp
    |cons a r ih=>
     intro m;rw [List.foldl_cons,ih,r8];by_cases h1:k∈r
     ·simp [h1]
     ·by_cases h2:k=a<;>simp [h1,h2]
  exact this l []
def lT (c:au) (num:Int):di:=⟨Iv c (ju c num),List.replicate (c.ag*c.aZ).toNat 0,[],0⟩
theorem Ho {c:au} (h:aB c=true):cK ⟨c.ax,c.ef,[],false⟩=true:=by
  simp only [aB,eJ,Bool.and_eq_true,decide_eq_true_eq] at h;refine z3 (by dsimp only;omega) (by dsimp only;omega) (by dsimp only;omega) (by dsimp only;omega) (by simp;omega) (fun h=>by cases h) List.Pairwise.nil (fun c hc=>by cases hc)
def tA (c:au) (num:Int):Bool:=aB c&& decide (0≤num∧num<c.bY)
theorem N4 {L M:List HP} {ps:List (Int×kW)} {k:Int} {c:au} (h:ai L (bZ (pS ps)::M)):ai L (bZ (pS (iS ps k (pC c,none,0)))::M):=
  ai.trans h (ai.trans zZ (FC ps k (pC c,none,0)))
attribute [local irreducible] Exit.then Exit.inBlock Code.wp WC WO WE WQ V aW dL Sat bz bK dU IntKind.wrap WR Code.rounds WT KO
theorem sZ {Q P:Prop} (k:Q) (h:Hid Q→P:=by
  intro k
  first
  |(refine an ?_;refine bF (id:=9) .false (pl:= .p 0 <| .p 1 <| .p 2 <| .p 4 <| .p 5 <| .p 7 <| .r 3 <| .r 6 <| .r 8 <| .e true [(9,.p 10 <| .p 11 <| .p 12 <| .e true [(13,.done)])]) k.out)):P:=h ⟨k⟩
theorem Tm {F:List HP} {c:au} {num:Int} (hc:c.wf) (h:tA c num=true):az prog 55 [c.val,.int .i64 num] [] F (fun r L'=>∃ b,r= .tuple [.pointer (some ⟨b,0,none⟩),.int .i64 0].toArray∧L'=[gQ b c num (lT c num)]):=by
  simp only [tA,Bool.and_eq_true,decide_eq_true_eq] at h;obtain ⟨hb,h0,h1⟩:=h;have hM:=fun F=>Qb (F:=F) hc hb;have hQ:=fun F=>S8 (F:=F) (yu hb);have hI:dZ num:=by have:=(kL hb).2.1;unfold dZ;omega
  have Sp:=fun F=>Gq (F:=F) hc hI;have hT:=fun F=>Qv (F:=F) (ax:=c.ax) (dJ:=c.ef);simp only [Ho hb,if_true] at hT;have YL:(ju c num).length≤1099511627776:=by
    have:=(kL hb).2.2.2;unfold ju;split
    ·rw [Fq];unfold vE;refine Nat.le_trans (Nat.div_le_self _ _) ?_;have:=(kL hb).2.1;omega
    ·simp
  unfold lT;generalize ju c num=ll at Sp YL ⊢;refine ay func55 ntmps55 ?_;repeat first|refine go ?_|intro _|refine sZ ?_|refine av ?_|refine ae @hM ?_|refine ae @hQ ?_|refine ae @Sp ?_
  rename_i bc be bq bm b p cap;apply aO (E0:=[(2,_),(10,_),(45,_),(46,_)]) (fun E0 (i:Nat)=>(47,.int .i64 i)::E0) (fun i=>aT 3 1 (.slice p ll.length cap) ll.length (aj ic ll)::ao b 263 (G5 c num bm be bq 0)::kA bm O4 (Eg c (ll.take i))::bZ (pS (Eg c (ll.take i)))::mP bq c.aQ []::vF be c (List.replicate (c.ag*c.aZ).toNat 0)::ao bc 25 c.cells::F) (fun i=>i≤ll.length) (fun i=>ll.length-i) 0
  ·exact bH
  ·exact Nat.zero_le _
  ·simp only [List.take_zero,show Eg c []=[] from rfl];refine ai.trans ?_ (ai.cons (ai.cons (ai.cons all_nil)));exact af
  ·intro i hi;by_cases bB:i<ll.length
   ·have et:Eg c (ll.take (i+1))=iS (Eg c (ll.take i)) ll[i] (pC c,none,0):=by
      rw [List.take_add_one,List.getElem?_eq_getElem bB]
      show Eg c (_++[_])=_;unfold Eg;rw [List.foldl_append];rfl
    repeat first|refine go ?_|intro _|refine sZ ?_|refine av ?_|refine ae @hT ?_
    (apply kO;rfl;exact qy;exact pE (xv:=(pC c,none,0)) rfl rfl rfl inferInstance rfl;refine aU ?_);repeat first|refine go ?_|intro _|refine sZ ?_|refine av ?_
    refine aC (i+1) (om) (om) ?_ ?_
    ·exact bH
    ·rw [et];exact eb @N4
   ·have kM:i=ll.length:=by omega
    subst kM;rw [List.take_length];repeat first|refine go ?_|intro _|refine sZ ?_|refine av ?_
    (apply ad rfl rfl ar)
    ·exact ⟨_,rfl,rfl⟩
    ·((repeat (first|(with_reducible exact ai.refl)|exact ai.nil|(apply iX;exact G4)|(apply mg)|apply ai.drop));all_goals (first|rfl|(with_reducible assumption)|(simp [D8];done)|(simp [D8];omega)|omega|(constructor<;>(simp [D8])<;>omega)))
end
section
theorem Iw {e:dP} {m:bA} (h:fo e m=0):(dx e m).s.ax=e.s.ax∧(dx e m).s.dJ=e.s.dJ:=by
  obtain ⟨cO,hk⟩:=pW h;obtain ⟨h1,h2,h3,h4,h5⟩:=kF cO;obtain ⟨a1,a2,a3⟩:=Fw h1 h4 h5;unfold dx;rw [if_pos h];rcases hk with ⟨k,ho⟩|k|k
  ·rw [if_pos k];unfold kX;rw [if_neg ho];split
   ·exact ⟨a2,a3⟩
   ·split
    ·exact ⟨rfl,rfl⟩
    ·exact ⟨a2,a3⟩
  ·rw [if_neg (om),if_pos k];exact ⟨rfl,rfl⟩
  ·rw [if_neg (om),if_neg (om)];unfold rc;split<;>exact ⟨rfl,rfl⟩
theorem Ix {e:dP} {m:bA} {w:Words} (h:fo e m=0):∀ y∈bP e m w,(4≤y.ah∧y.ah≤10)∧y.aa=m.aa∧y.src=m.dst:=by
  obtain ⟨cO,hk⟩:=pW h;intro y hy;unfold bP at hy;rw [if_pos h] at hy;rcases hk with ⟨k,ho⟩|k|k
  ·rw [if_pos k] at hy;unfold jE at hy;rw [if_neg ho] at hy;split at hy
   ·rw [List.mem_singleton] at hy;subst hy;exact ⟨⟨by simp [fw],by simp [fw]⟩,rfl,rfl⟩
   ·split at hy<;>(rw [List.mem_singleton] at hy;subst hy;exact ⟨⟨by simp [fw],by simp [fw]⟩,rfl,rfl⟩)
  ·rw [if_neg (om),if_pos k] at hy;rcases List.mem_cons.1 hy with rfl|hy
   ·unfold lW;split
    ·exact ⟨⟨by simp [fw],by simp [fw]⟩,rfl,rfl⟩
    ·split<;>exact ⟨⟨by simp [fw],by simp [fw]⟩,rfl,rfl⟩
   ·obtain ⟨o,_,rfl⟩:=List.mem_map.1 hy;exact ⟨⟨by simp [oE,fw],by simp [oE,fw]⟩,rfl,rfl⟩
  ·rw [if_neg (om),if_neg (om)] at hy;rw [List.mem_singleton] at hy;subst hy;exact ⟨⟨by simp [fw],by simp [fw]⟩,rfl,rfl⟩
theorem yx {c:au} {num:Int} (h:tA c num=true) (k:Int):k∈ju c num↔B5 c num k:=by
  simp only [tA,Bool.and_eq_true,decide_eq_true_eq] at h;obtain ⟨hb,h0,h1⟩:=h;have hB:=kL hb;obtain ⟨H,eH⟩:∃ H:Nat,c.bY=H:=⟨c.bY.toNat,om⟩;obtain ⟨n,en⟩:∃ n:Nat,c.aZ=n:=⟨c.aZ.toNat,om⟩;obtain ⟨g,rfl⟩:∃ n:Nat,num=n:=⟨num.toNat,om⟩;have r1:ju c g=yS g H (vE n g H):=by simp [ju,hb,eH,en];omega
  have hg:g<H:=by omega
  rw [r1];unfold B5 yS;rw [eH,en];simp only [List.mem_map,List.mem_range];constructor
  ·rintro ⟨i,hi,rfl⟩;have:=(Hl (n:=n) (k:=i) hg).1 hi;refine ⟨om,om,?_⟩;have h3:(g+i*H) % H=g:=by rw [Nat.add_mul_mod_self_right];exact Nat.mod_eq_of_lt hg
   exact_mod_cast h3
  ·rintro ⟨k0,k1,k2⟩;obtain ⟨k,rfl⟩:∃ n:Nat,k=n:=⟨k.toNat,om⟩;have h3:k % H=g:=by exact_mod_cast k2
   have h4:=Nat.div_add_mod k H;have h5:g+k / H*H=k:=by rw [Nat.mul_comm];omega
   refine ⟨k / H,(Hl (n:=n) (k:=k / H) hg).2 (om),by rw [h5]⟩
theorem QQ {c:au} {num:Int} (h:tA c num=true):tS c num (lT c num):=by
  have h0:=h;simp only [tA,Bool.and_eq_true,decide_eq_true_eq] at h0;refine ⟨h0.1,h0.2,fun k=>?_,fun k e he=>?_,fun x hx=>absurd hx (List.not_mem_nil),fun x hx=>absurd hx (List.not_mem_nil),?_⟩
  ·show (fH (Iv c (ju c num)) k).isSome=_;rw [AV];by_cases hk:B5 c num k
   ·rw [if_pos ((yx h k).2 hk),decide_eq_true hk];rfl
   ·rw [if_neg (fun hh=>hk ((yx h k).1 hh)),decide_eq_false hk];rfl
  ·have Al:fH (Iv c (ju c num)) k=some e:=he;rw [AV] at Al;split at Al
   ·cases Al;have hb:=kL h0.1;exact ⟨lc (Ho h0.1) (by simp [pC]) (by simp only [pC];omega),rfl,rfl⟩
   ·cases Al
  ·have:=yu h0.1
   show ((0:Nat):Int)≤_;omega
theorem Mo {c:au} {num:Int} {s:di} (h:tS c num s) {q:List QE} (hr:∀ x∈q,im c num x.m 0=true) (hs:∀ x∈q,∀ y∈x.aK,(4≤y.ah∧y.ah≤10)∧y.aa=x.m.aa∧y.src=num) (hl:(q.length:Int)≤c.aQ) (o:Int):tS c num ⟨s.es,s.ms,q,o⟩:=
  ⟨h.ok,h.nm,h.bI,h.may,hr,hs,hl⟩
theorem QR {c:au} {num:Int} {s:di} (h:tS c num s) (m:bA):tS c num (iK c num s m):=by
  unfold iK;split
  ·rename_i hm;refine Mo h ?_ ?_ ?_ s.aR;all_goals unfold mf
   ·intro x hx;split at hx
    ·rcases List.mem_append.1 hx with hx|hx
     ·exact h.G9 x hx
     ·rw [List.mem_singleton] at hx;subst hx;exact hm
    ·exact h.G9 x hx
   ·intro x hx;split at hx
    ·rcases List.mem_append.1 hx with hx|hx
     ·exact h.snd x hx
     ·rw [List.mem_singleton] at hx;subst hx;intro y hy;cases hy
    ·exact h.snd x hx
   ·have hl:=h.len;split
    ·rename_i he;have:¬(s.q.length:Int)=c.aQ:=fun hh=>by
       unfold me at he;split at he
       ·cases he
       ·simp [hh] at he
     rw [List.length_append,List.length_singleton];omega
    ·exact hl
  ·exact h
theorem yy {c:au} {num:Int} {s:di} (h:tS c num s) (n:Nat) (o:Int):tS c num ⟨s.es,s.ms,s.q.eraseIdx n,o⟩:=by
  refine Mo h (fun x hx=>h.G9 x (List.mem_of_mem_eraseIdx hx)) (fun x hx=>h.snd x (List.mem_of_mem_eraseIdx hx)) ?_ o;have:=h.len;have:=List.length_eraseIdx_le s.q n;omega
theorem N5 {c:au} {num:Int} {s:di} (h:tS c num s) (m:bA):tS c num (iB c num s m):=by
  unfold iB n9;split
  ·split
   ·exact h
   ·exact yy h _ s.aR
  ·exact h
theorem xk {α:Type} {l:List α} {n:Nat} {a x:α} (h:x∈l.set n a):x∈l∨x=a:=List.mem_or_eq_of_mem_set h
theorem N6 {c:au} {num:Int} {s:di} (h:tS c num s) (n:Int):tS c num { s with q:=ig s.q n}:=by
  unfold ig;split
  ·rename_i he;split
   ·exact yy h _ s.aR
   ·have kH:rG s.q n=true:=by
      cases hc:rG s.q n with
      |true=>rfl
      |false=>simp [kR,hc] at he
    have hm:=uA kH;refine Mo h ?_ ?_ (by rw [List.length_set];exact h.len) s.aR
    ·intro x hx;rcases xk hx with hx|rfl
     ·exact h.G9 x hx
     ·exact h.G9 (ss s.q n) hm
    ·intro x hx;rcases xk hx with hx|rfl
     ·exact h.snd x hx
     ·intro y hy;exact h.snd (ss s.q n) hm y (List.mem_of_mem_drop hy)
  ·exact h
theorem N7 {c:au} {num:Int} {s:di} (h:tS c num s) {n:Int} (hr:fi s.q n=true) (h0:fo (gJ s (jm s n).aa) (jm s n)=0):tS c num (sH c s n):=by
  have hm:=uA (sd hr);have v9:im c num (jm s n) 0=true:=h.G9 _ hm;obtain ⟨f1,f2,f3,f4,f5⟩:=qn h.ok v9;obtain ⟨g1,g2,g3,g4⟩:=sc h f3;have hz:=Iw h0;refine ⟨h.ok,h.nm,fun k=>?_,fun k e he=>?_,?_,?_,?_⟩
  ·show (fH (iS s.es _ _) k).isSome=_;rw [r8];split
   ·rename_i hk;subst hk;rw [decide_eq_true f3];rfl
   ·exact h.bI k
  ·have Al:fH (iS s.es (jm s n).aa (dx (gJ s (jm s n).aa) (jm s n))) k=some e:=he;rw [r8] at Al;split at Al
   ·cases Al;exact ⟨NR h0,by rw [hz.1,g3],by rw [hz.2,g4]⟩
   ·exact h.may k e Al
  ·intro x hx;have qF:x∈dO s.q n (bP (gJ s (jm s n).aa) (jm s n) (fj c s.ms (jm s n).aa)):=hx;unfold dO at qF;split at qF
   ·rcases xk qF with hx|rfl
    ·exact h.G9 x hx
    ·exact v9
   ·exact h.G9 x qF
  ·intro x hx;have qF:x∈dO s.q n (bP (gJ s (jm s n).aa) (jm s n) (fj c s.ms (jm s n).aa)):=hx;unfold dO at qF;split at qF
   ·rcases xk qF with hx|rfl
    ·exact h.snd x hx
    ·intro y hy;have:=Ix h0 y hy;rw [f5] at this;exact this
   ·exact h.snd x qF
  ·show ((dO s.q n _).length:Int)≤_;unfold dO;split
   ·rw [List.length_set];exact h.len
   ·exact h.len
theorem N8 {c:au} {num:Int} {s:di} (h:tS c num s) (n:Int) (l:L3):tS c num (cQ c s n l):=by
  unfold cQ;split
  ·rename_i hr;unfold k7;split
   ·rename_i h0;exact N7 h hr h0
   ·exact yy h _ _
  ·split
   ·exact N6 h n
   ·exact h
theorem Tn {c:au} {s:di} (n:Int) (l:L3):s.aR≤(cQ c s n l).aR∧(cQ c s n l).aR≤s.aR+1:=by
  unfold cQ k7 sH Ax;split
  ·split
   ·exact ⟨Int.le_refl _,by show s.aR≤_;omega⟩
   ·exact ⟨by show s.aR≤s.aR+1;omega,Int.le_refl _⟩
  ·split
   ·exact ⟨Int.le_refl _,by show s.aR≤_;omega⟩
   ·exact ⟨Int.le_refl _,om⟩
end
section
theorem cR {P:Program} {N:Nat} {st:St} {ops:Array Oper} {LS L L':List HP} {pl:oB} {env:Env} {Q:Exit→Act→World→Prop} (e:ai L L') (h:WT st P N ops LS pl env L' Q):WT st P N ops LS pl env L Q:=fun a w ha hw=>h a w ha (e.gX hw)
theorem MO {c:au} {l:List Way} {aa:Int} {i:Nat} (hI:cj c l) (hi:df c l aa=i) (dC:gI c l aa=false) :
    ∃ h:bL c aa+i<l.length,oF c l aa i=0∧fJ c l aa i=l.set (bL c aa+i) ⟨0,aa,.zero,true⟩∧bS c (fJ c l aa i) aa=i∧bg c (fJ c l aa i) aa=⟨0,aa,.zero,true⟩:=by
  have hn:bS c l aa= -1:=by
    have:=l5 c l aa;simp [gI] at dC;omega
  obtain ⟨j,hj,e,h1,h2⟩:=fx (show 0≤bO (fun w=> !cr w) (cL c l aa) by unfold df at hi;omega);have rp:j=i:=by unfold df at hi;omega
  subst rp;have cO:bG c aa=true:=by
    cases h:bG c aa with
    |true=>rfl
    |false=>rw [lG h] at hj;simp at hj
  obtain ⟨hb,eg⟩:=k6 cO hj;have UC:j<c.al.toNat:=by rw [mz cO,List.length_take] at hj;omega
  have h3:cr ((cL c l aa).getD j .zero)=false:=by rw [←ia hj];simpa using h1
  have e1:oF c l aa j=0:=by
    unfold oF;rw [if_pos ⟨om,om⟩,if_pos hn,Int.toNat_natCast,h3];rfl
  have e2:fJ c l aa j=l.set (bL c aa+j) ⟨0,aa,.zero,true⟩:=by unfold fJ;rw [if_pos e1,Int.toNat_natCast]
  have vA:cj c (fJ c l aa j):=xi hI;have J7:bL c aa+j<(fJ c l aa j).length:=by rw [Fz];exact hb
  have e3:(fJ c l aa j)[bL c aa+j]=⟨0,aa,.zero,true⟩:=by simp only [e2];rw [List.getElem_set_self]
  have h4:=uz (aa:=aa) vA J7 (by rw [e3];simp [ib,cr]);have e4:bS c (fJ c l aa j) aa=j:=by rw [h4.2];omega
  exact ⟨hb,e1,e2,e4,by rw [jd e4 J7,e3]⟩
theorem N9 {c:au} {l:List Way} {aa:Int} (hI:cj c l) (hf:¬df c l aa<0) (dC:gI c l aa=false):eZ c (fJ c l aa (df c l aa)) aa true=fJ c l aa (df c l aa):=by
  obtain ⟨i,hi⟩:∃ i:Nat,df c l aa=i:=⟨(df c l aa).toNat,om⟩;obtain ⟨hb,_,e2,e3,e4⟩:=MO hI hi dC;rw [hi];unfold eZ;have e5:rk c (fJ c l aa i) aa=0:=by unfold rk;rw [e3,if_neg (om)]
  rw [if_pos e5,e3,e4,Int.toNat_natCast,e2,List.set_set]
theorem QS {c:au} {k:cT} {aa ah:Int} (hk:ah=1∨ah=2):ls c k aa ah=decide (ah=1∧(bg c k.al aa).st≠0∨ah=2∧((bg c k.al aa).st=2∨(bg c k.al aa).st=4)):=by
  unfold ls;rcases hk with h|h
  ·subst h;rw [if_pos rfl];apply decide_eq_decide.2;omega
  ·subst h;rw [if_neg (om)];apply decide_eq_decide.2;omega
theorem D9 {c:au} {aa:Int} (h:bG c aa=true):aa.tmod c.bY=uY c aa:=by
  have h0:=(wZ h).2.1;unfold uY;rw [if_pos h,z2 h0]
theorem yz {c:au} (h:aB c=true):1≤c.bY∧c.bY≤16:=by
  obtain ⟨_,⟨k,hk,e⟩,_⟩:=cp h;have:=mE hk;rw [e];exact ⟨this.1,by have:=this.2;simpa using this⟩
theorem gE {α:Type} {P:α→Prop} {l:List α} {i:Nat} {x:α} (h:∀ m∈l,P m) (hx:P x):∀ m∈l.set i x,P m:=fun m hm=>by
  rcases List.mem_or_eq_of_mem_set hm with g|g
  ·exact h m g
  ·rw [g];exact hx
theorem yA {P:bR→Prop} {l:List bR} {aa:Int} (h:∀ m∈l,P m) (hz:P .zero):P (iR l aa):=by
  unfold iR;by_cases g:(nK l aa).toNat<l.length
  ·rw [←ia g];exact h _ (List.getElem_mem g)
  ·rw [List.getD_eq_getElem?_getD,List.getElem?_eq_none (om)];exact hz
theorem Oa {l:List bR} {aa aH bI:Int} {w:Words} (h:∀ m∈l,0≤m.gY):∀ m∈dw l aa aH bI w,0≤m.gY:=by
  unfold dw;split
  ·exact gE h (yA (P:=fun m=>0≤m.gY) h (by decide))
  ·exact h
theorem Ld {l:List bR} {aa aH:Int} (h:∀ m∈l,0≤m.gY):∀ m∈dy l aa aH,0≤m.gY:=by
  unfold dy;split
  ·exact gE h (yA (P:=fun m=>0≤m.gY) h (by decide))
  ·exact h
theorem QT {l:List bR} {aa:Int} (h:∀ m∈l,0≤m.gY):∀ m∈fW l aa,0≤m.gY:=by
  unfold fW;split
  ·exact gE h (by have:=yA (P:=fun m=>0≤m.gY) (aa:=aa) h (by decide);dsimp only;omega)
  ·exact h
end
section
def AD (x:Way):Prop:=0≤x.st∧x.st≤4
def ue (c:au) (n:Nat) (m:bR):Prop:=bG c m.aa=true∧nf m∧m.gY≤n
def mh (c:au) (n:Nat) (k:cT):Prop:=cj c k.al∧(∀ x∈k.al,AD x)∧(∀ m∈k.aP,ue c n m)
theorem Ea {c:au} {n n':Nat} {m:bR} (hn:n≤n') (h:ue c n m):ue c n' m:=⟨h.1,h.2.1,by have:=h.2.2;omega⟩
theorem BA {c:au} {n n':Nat} {k:cT} (hn:n≤n') (h:mh c n k):mh c n' k:=⟨h.1,h.2.1,fun m hm=>Ea hn (h.2.2 m hm)⟩
theorem Le (c:au) (n:Nat) (w:Nat):mh c n ⟨List.replicate w .zero,[],[]⟩:=
  ⟨Bv c w,fun x hx=>by rw [(List.mem_replicate.1 hx).2];exact ⟨by decide,by decide⟩,fun m hm=>by cases hm⟩
theorem Dl {P:Way→Prop} {c:au} {l:List Way} {aa:Int} (h:∀ x∈l,P x) (hz:P .zero):P (bg c l aa):=by
  by_cases g:bS c l aa<0
  ·unfold bg;rw [if_pos g];exact hz
  ·obtain ⟨i,hi⟩:∃ i:Nat,bS c l aa=i:=⟨(bS c l aa).toNat,om⟩;obtain ⟨h2,_⟩:=ld hi;rw [jd hi h2];exact h _ (List.getElem_mem h2)
theorem Jy:AD .zero:=⟨by decide,by decide⟩
theorem To {c:au} {l:List Way} {aa kV:Int} (h:∀ x∈l,AD x):∀ x∈fJ c l aa kV,AD x:=by
  unfold fJ;split
  ·exact gE h Jy
  ·exact h
theorem Jz {c:au} {l:List Way} {aa:Int} {lk:Bool} (h:∀ x∈l,AD x):∀ x∈eZ c l aa lk,AD x:=by
  unfold eZ;split
  ·exact gE h (Dl (P:=AD) h Jy)
  ·exact h
theorem Ay {c:au} {l:List Way} {aa st:Int} {w:Words} (h:∀ x∈l,AD x):∀ x∈db c l aa st w,AD x:=by
  unfold db;split
  ·rename_i h0;refine gE h ?_;unfold lC at h0;split at h0
   ·cases h0
   ·split at h0
    ·cases h0
    ·rename_i h1 h2;unfold AD;dsimp only;omega
  ·exact h
theorem se {l:List bR} {aa:Int} (h:dp l aa=true):iR l aa∈l∧(iR l aa).aa=aa:=by
  obtain ⟨i,hi,_,e,el⟩:=iT h;rw [e];exact ⟨List.getElem_mem hi,el⟩
theorem QU {c:au} {n:Nat} {ak aa ah:Int} {l:List bR} (hl:bG c aa=true) (h:∀ m∈l,ue c n m):∀ m∈gH ak l aa ah,ue c n m:=by
  unfold gH;split
  ·rename_i h0;intro m hm;rcases List.mem_append.1 hm with g|g
   ·exact h m g
   ·simp only [List.mem_singleton] at g;subst g;have hk:ah=1∨ah=2:=by
      unfold lS at h0;split at h0
      ·cases h0
      ·omega
    exact ⟨hl,⟨hk,by dsimp only;omega,by dsimp only;omega,fun g=>by dsimp only at g;omega⟩,by dsimp only;omega⟩
  ·exact h
theorem xl {l:List bR} {aa aH bI:Int} (h:fm l aa aH bI=0):dp l aa=true∧u4 (iR l aa) aH bI=true:=by
  unfold fm at h;split at h
  ·rename_i h1;split at h
   ·rename_i h2;exact ⟨h1,h2⟩
   ·cases h
  ·cases h
theorem BB {m:bR} {aH bI:Int} (h:u4 m aH bI=true):m.dc= -1∧m.gY≤aH:=by
  unfold u4 at h;rw [Bool.and_eq_true,decide_eq_true_eq] at h;exact h.1
theorem QV {c:au} {n:Nat} {l:List bR} {aa aH bI:Int} {w:Words} (h:∀ m∈l,ue c n m):∀ m∈dw l aa aH bI w,ue c n m:=by
  unfold dw;split
  ·rename_i h0;obtain ⟨h1,h2⟩:=xl h0;obtain ⟨g1,g2⟩:=BB h2;obtain ⟨a1,a2,a3⟩:=h _ (se h1).1;obtain ⟨b1,b2,b3,b4⟩:=a2;exact gE h ⟨a1,⟨b1,by dsimp only;omega,b3,fun _=>by dsimp only;omega⟩,a3⟩
  ·exact h
theorem Ob {c:au} {n:Nat} {l:List bR} {aa aH:Int} (h:∀ m∈l,ue c n m):∀ m∈dy l aa aH,ue c n m:=by
  unfold dy;split
  ·rename_i h0;obtain ⟨h1,h2⟩:=xl h0;obtain ⟨g1,g2⟩:=BB h2;obtain ⟨a1,a2,a3⟩:=h _ (se h1).1;obtain ⟨b1,b2,b3,b4⟩:=a2;exact gE h ⟨a1,⟨b1,by dsimp only;omega,b3,fun _=>by dsimp only;omega⟩,a3⟩
  ·exact h
theorem JA {l:List bR} {aa:Int} (h:lB l aa=0):dp l aa=true∧(iR l aa).ah≠1∧(iR l aa).dc≠(iR l aa).gY:=by
  unfold lB at h;split at h
  ·rename_i h1;split at h
   ·cases h
   ·rename_i h2;exact ⟨h1,fun g=>h2 (.inl g),fun g=>h2 (.inr g)⟩
  ·cases h
theorem Tp {c:au} {n:Nat} {l:List bR} {aa:Int} (h:∀ m∈l,ue c n m):∀ m∈fW l aa,ue c (n+1) m:=by
  unfold fW;split
  ·rename_i h0;obtain ⟨h1,h2,h3⟩:=JA h0;obtain ⟨a1,a2,a3⟩:=h _ (se h1).1;obtain ⟨b1,b2,b3,b4⟩:=a2;exact gE (fun m hm=>Ea (om) (h m hm)) ⟨a1,⟨b1,b2,by dsimp only;omega,fun g=>by have:=b4 g;dsimp only at g ⊢;omega⟩,by dsimp only;omega⟩
  ·exact fun m hm=>Ea (om) (h m hm)
theorem Tq {c:au} {n:Nat} {l:List bR} {aa:Int} (h:∀ m∈l,ue c n m):∀ m∈iz l aa,ue c n m:=by
  unfold iz;split
  ·rename_i h0;have h1:dp l aa=true:=by
     unfold l9 at h0;simp only [Bool.and_eq_true] at h0;exact h0.1.1
   obtain ⟨a1,a2,a3⟩:=h _ (se h1).1;exact gE h ⟨a1,a2,a3⟩
  ·exact h
theorem Oc {c:au} {n:Nat} {l:List bR} {aa:Int} (h:∀ m∈l,ue c n m):∀ m∈gy l aa,ue c n m:=by
  unfold gy;split
  ·exact fun m hm=>h m (List.mem_of_mem_eraseIdx hm)
  ·exact h
theorem AW {c:au} {n:Nat} {k:cT} {aa:Int} (h:mh c n k):mh c n (dn c k aa):=by
  unfold dn;split
  ·exact ⟨rU h.1,Ay h.2.1,Tq h.2.2⟩
  ·exact h
theorem MP {c:au} {k:cT} {aa ah:Int} (h:dd c k aa ah=0):bG c aa=true:=by
  unfold dd at h;split at h
  ·cases h
  ·rename_i h1;cases g:bG c aa with
   |true=>rfl
   |false=>exact absurd (.inl g) h1
theorem QW {c:au} {n:Nat} {k:cT} {aa ah:Int} (h:mh c n k):mh c n (cH c k aa ah):=by
  unfold cH;split
  ·rename_i h0;refine ⟨?_,?_,QU (MP h0) h.2.2⟩
   ·dsimp only;split
    ·exact yq h.1
    ·exact xi h.1
   ·dsimp only;split
    ·exact Jz h.2.1
    ·exact To h.2.1
  ·exact h
theorem Tr {c:au} {n:Nat} {k:cT} {s w:Int} (h:mh c n k):mh c n (gr c k s w):=by
  unfold gr;split
  ·exact ⟨rU h.1,Ay h.2.1,h.2.2⟩
  ·exact h
theorem FE {c:au} {n:Nat} {k:cT} {aa st:Int} {g:Bool} (h:mh c n k):mh c n (eo c k aa st g):=by
  unfold eo;split
  ·exact ⟨rU h.1,Ay h.2.1,h.2.2⟩
  ·split
   ·exact ⟨h.1,h.2.1,h.2.2⟩
   ·exact h
theorem Od {c:au} {n:Nat} {ap:Int} {k:cT} {m:bA} (h:mh c n k):mh c (n+1) (cw c ap k m):=by
  have h':mh c (n+1) k:=BA (om) h;unfold cw;split
  ·split
   ·exact FE h'
   ·split
    ·exact FE h'
    ·split
     ·split
      ·unfold sm;split
       ·exact ⟨rU h'.1,Ay h'.2.1,h'.2.2⟩
       ·exact h'
      ·exact h'
     ·split
      ·unfold o8;split
       ·exact AW ⟨h'.1,h'.2.1,QV h'.2.2⟩
       ·exact h'
      ·split
       ·unfold p8;split
        ·exact AW ⟨h'.1,h'.2.1,Ob h'.2.2⟩
        ·exact h'
       ·split
        ·unfold sn;split
         ·exact AW ⟨h'.1,h'.2.1,Tp h.2.2⟩
         ·exact h'
        ·exact ⟨h'.1,h'.2.1,h'.2.2⟩
  ·exact h'
theorem QX {c:au} {n:Nat} {k:cT} (h:mh c n k):mh c n (gU c k):=by
  unfold gU;split
  ·exact ⟨yq h.1,Jz h.2.1,Oc h.2.2⟩
  ·exact h
theorem Ts {c:au} {n:Nat} {k:cT} {x:c5} (h:mh c n k):mh c n (ff c k x):=by
  unfold ff;split
  ·exact ⟨rU h.1,Ay h.2.1,h.2.2⟩
  ·exact h
end
section
def vw (c:au) (l:List Way) (aa:Int):Option Way:=if bS c l aa<0 then none else some (bg c l aa)
theorem uB {c:au} {l:List Way} {aa:Int} (h:bS c l aa= -1):vw c l aa=none:=by unfold vw;rw [h];rfl
theorem zR {c:au} {l:List Way} {aa:Int} {i:Nat} (h:bS c l aa=i):vw c l aa=some (bg c l aa):=by unfold vw;rw [if_neg (om)]
theorem z5 {c:au} {l:List Way} {aa:Int}:bS c l aa= -1∨∃ i:Nat,bS c l aa=i:=by
  have:=l5 c l aa;by_cases h:bS c l aa= -1
  ·exact .inl h
  ·exact .inr ⟨(bS c l aa).toNat,om⟩
theorem rV {c:au} {l:List Way} {aa:Int}:gI c l aa=(vw c l aa).isSome:=by
  rcases z5 (c:=c) (l:=l) (aa:=aa) with h|⟨i,h⟩
  ·rw [(Dj h).1,uB h];rfl
  ·rw [(wN h).1,zR h];rfl
theorem JB {c:au} {l:List Way} {aa:Int} {w:Way} (h:vw c l aa=some w):w.aa=aa∧cr w=true∧w∈l∧bG c aa=true∧bg c l aa=w:=by
  rcases z5 (c:=c) (l:=l) (aa:=aa) with g|⟨i,g⟩
  ·rw [uB g] at h;cases h
  ·rw [zR g] at h;cases h;obtain ⟨b1,b2,b3,_⟩:=ld g;have e:=jd g b1;exact ⟨yr g,by rw [e];exact (jc.1 b3).1,by rw [e];exact List.getElem_mem b1,b2,rfl⟩
theorem Tt {c:au} {l:List Way} {w:Way} (hI:cj c l) (hw:w∈l) (ht:cr w=true):vw c l w.aa=some w:=by
  obtain ⟨i,hi,rfl⟩:=List.getElem_of_mem hw;obtain ⟨h1,h2⟩:=uz (aa:=l[i].aa) hI hi (by simp [ib,ht]);rw [zR h2,jd h2 (om)];congr 2;omega
theorem JC {c:au} {l:List Way} {aa st:Int} {w:Words}:lC c l aa st w=if (vw c l aa).isNone then 5 else if st<0∨st>4∨rK c w=true then 1 else 0:=by
  unfold lC;rcases z5 (c:=c) (l:=l) (aa:=aa) with h|⟨i,h⟩
  ·rw [uB h,if_pos h];rfl
  ·rw [zR h,if_neg (om)];rfl
theorem MQ {c:au} {l:List Way} {aa st:Int} {w:Words} (hI:cj c l) (x:Int):vw c (db c l aa st w) x =
    if x=aa∧lC c l aa st w=0 then (match vw c l aa with|some y=>if y.lk=true∨st≠0 then some ⟨st,aa,if st=0 then .zero else w,y.lk⟩ else none|none=>none) else vw c l x:=by
  by_cases hx:x=aa
  ·subst hx;by_cases he:lC c l x st w=0
   ·rw [if_pos ⟨rfl,he⟩];obtain ⟨h1,h2,h3⟩:=N1 hI he;have e:=rV (c:=c) (l:=l) (aa:=x);rw [h1] at e;cases hv:vw c l x with
    |none=>rw [hv] at e;cases e
    |some y=>
     have hy:=(JB hv).2.2.2.2;rw [hy] at h2 h3;dsimp only;by_cases Ap:y.lk=true∨st≠0
     ·rw [if_pos Ap];obtain ⟨g1,_,g3⟩:=h2 Ap;have e2:=rV (c:=c) (l:=db c l x st w) (aa:=x);rw [g1] at e2;cases JY:vw c (db c l x st w) x with
      |none=>rw [JY] at e2;cases e2
      |some z=>rw [←g3,(JB JY).2.2.2.2]
     ·rw [if_neg Ap];obtain ⟨g1,_,_⟩:=h3 ⟨by cases hl:y.lk with|false=>rfl|true=>exact absurd (.inl hl) Ap,Decidable.byContradiction fun g=>Ap (.inr g)⟩;have e2:=rV (c:=c) (l:=db c l x st w) (aa:=x);rw [g1] at e2;cases JY:vw c (db c l x st w) x with
      |none=>rfl
      |some z=>rw [JY] at e2;cases e2
   ·rw [if_neg (fun h=>he h.2)];have:db c l x st w=l:=if_neg he;rw [this]
  ·rw [if_neg (fun h=>hx h.1)];obtain ⟨h1,h2⟩:=La (st:=st) (w:=w) hI (Ne.symm hx);unfold vw;rw [h1,h2]
theorem JD {c:au} {l:List Way} {aa:Int} {lk:Bool} (hI:cj c l) (x:Int):vw c (eZ c l aa lk) x =
    if x=aa then (match vw c l aa with|some y=>if lk=true∨y.st≠0 then some ⟨y.st,aa,y.ag,lk⟩ else none|none=>none) else vw c l x:=by
  by_cases hx:x=aa
  ·subst hx;rw [if_pos rfl];rcases z5 (c:=c) (l:=l) (aa:=x) with h|⟨i,h⟩
   ·have:eZ c l x lk=l:=by unfold eZ rk;rw [if_pos h];rfl
    rw [this,uB h]
   ·have hl:=yr h;have he:rk c l x=0:=if_neg (om);have e1:eZ c l x lk=l.set (bL c x+i) { bg c l x with lk:=lk}:=by unfold eZ;rw [if_pos he,h,Int.toNat_natCast]
    obtain ⟨t1,t2⟩:=Di (w:={ bg c l x with lk:=lk}) hI h hl;rw [e1,zR h];dsimp only;by_cases hc:lk=true∨(bg c l x).st≠0
    ·rw [if_pos hc];have ht:cr { bg c l x with lk:=lk}=true:=by
       unfold cr;dsimp only;rcases hc with g|g
       ·rw [g];simp
       ·simp [g]
     obtain ⟨g1,g2⟩:=t1 ht;rw [zR g1,g2];simp only [hl]
    ·rw [if_neg hc];have ht:cr { bg c l x with lk:=lk}=false:=by
       unfold cr;dsimp only;cases lk with
       |true=>exact absurd (.inl rfl) hc
       |false=>simp;exact Decidable.byContradiction fun g=>hc (.inr g)
     exact uB (t2 ht)
  ·rw [if_neg hx];obtain ⟨h1,h2⟩:=It (lk:=lk) hI (Ne.symm hx);unfold vw;rw [h1,h2]
theorem Tu {c:au} {l:List Way} {aa:Int} (hI:cj c l) (hf:¬df c l aa<0) (dC:vw c l aa=none) (x:Int):vw c (fJ c l aa (df c l aa)) x=if x=aa then some ⟨0,aa,.zero,true⟩ else vw c l x:=by
  by_cases hx:x=aa
  ·subst hx;rw [if_pos rfl];obtain ⟨i,hi⟩:∃ i:Nat,df c l x=i:=⟨(df c l x).toNat,om⟩;obtain ⟨_,_,_,h4,h5⟩:=MO hI hi (by rw [rV,dC];rfl);rw [hi,zR h4,h5]
  ·rw [if_neg hx];obtain ⟨h1,h2⟩:=K9 (kV:=df c l aa) hI (Ne.symm hx);unfold vw;rw [h1,h2]
end
end Go.Sx
