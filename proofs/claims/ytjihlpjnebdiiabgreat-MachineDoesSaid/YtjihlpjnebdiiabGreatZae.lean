/- Queue, QuPl, Split, May, Mem, MemPl, Qu2, Qu3: several of my texts as one. My own work. -/
import Derived.Test.YtjihlpjnebdiiabGreatZaa
import Derived.Test.YtjihlpjnebdiiabGreatZab
set_option linter.unusedVariables false
set_option linter.unusedSectionVars false
set_option linter.unusedSimpArgs false
set_option maxRecDepth 100000
set_option maxHeartbeats 4000000
namespace Go.Sx
open Go Go.Proofs Tryz
section
abbrev nr (p:QP):HP:=OY 15 (.slice p.2.1 p.1.aK.length p.2.2) p.1.aK.length (aj mc p.1.aK)
def oJ (T e:TypeId) (b:Nat) (ak:Int) (l:List QE):HP:=
  Ex fun q:(Option Addr×Nat)×List QP=>[ao b T [.int .i64 ak,.slice q.1.1 q.2.length q.1.2],aT e 17 (.slice q.1.1 q.2.length q.1.2) q.2.length (aj qc q.2),bZ (q.2.map nr),ja (q.2.map (·.1)=l∧(q.2.length:Int)≤ak∧ak≤16∧∀ p∈q.2,p.1.aK.length≤p.2.2∧p.1.aK.length≤1000)]
section
variable {T e:TypeId} {b:Nat} {ak:Int} {l:List QE}
theorem ed {n:Nat} {p:Option Addr} {c:Nat} {xs:List Value} {ps:List QP} {L M:List HP}
    (h:ai L (ao b T [.int .i64 ak,.slice p n c]::aT e 17 (.slice p n c) n xs::bZ (ps.map nr)::M)) (hl:ps.map (·.1)=l) (hn:n=ps.length) (hx:xs=aj qc ps) (h1:(ps.length:Int)≤ak) (h2:ak≤16) (h3:∀ p∈ps,p.1.aK.length≤p.2.2∧p.1.aK.length≤1000):ai L (oJ T e b ak l::M):=by
  subst hn hx;refine ai.trans h (ai.trans ?_ (fU (p:=fun q:(Option Addr×Nat)×List QP=>[ao b T [.int .i64 ak,.slice q.1.1 q.2.length q.1.2],aT e 17 (.slice q.1.1 q.2.length q.1.2) q.2.length (aj qc q.2),bZ (q.2.map nr),ja (q.2.map (·.1)=l∧(q.2.length:Int)≤ak∧ak≤16∧∀ p∈q.2,p.1.aK.length≤p.2.2∧p.1.aK.length≤1000)]) ((p,c),ps)));exact ai.cons (ai.cons (ai.cons (cX ⟨hl,h1,h2,h3⟩)))
theorem D0 {T:TypeId} {sz n c:Nat} {p:Option Addr} {xs:List Value} {L:List HP} {w:World} (h:Sat (aT T sz (.slice p n c) n xs::L) w):n≤c:=by
  rcases (qO h).2.2 with ⟨q,h1,h2⟩|⟨g,cap,pd,h1,_,h3,_⟩
  ·omega
  ·cases h1;exact h3
theorem Hk {L:List HP} {w:World} (h:Sat (oJ T e b ak l::L) w):∃ p c,∃ ps:List QP,(ps.map (·.1)=l∧(ps.length:Int)≤ak∧ak≤16∧(∀ p∈ps,p.1.aK.length≤p.2.2∧p.1.aK.length≤1000)∧ps.length≤c)∧
    Sat (ao b T [.int .i64 ak,.slice p ps.length c]::aT e 17 (.slice p ps.length c) ps.length (aj qc ps)::bZ (ps.map nr)::L) w:=by
  obtain ⟨⟨⟨p,c⟩,ps⟩,hx⟩:=eN h;simp only [eX] at hx;have hf:=fc (aG (aG (aG hx)));have El:Sat (ao b T [.int .i64 ak,.slice p ps.length c]::aT e 17 (.slice p ps.length c) ps.length (aj qc ps)::bZ (ps.map nr)::L) w:=(ai.cons (ai.cons (ai.cons (ai.drop ai.refl)))) _ hx;exact ⟨p,c,ps,⟨hf.1,hf.2.1,hf.2.2.1,hf.2.2.2,D0 (oq El)⟩,El⟩
variable {P:Program} {N:Nat} {env:Env} {L:List HP} {Q:Exit→Act→World→Prop}
theorem jY {c:Code} (h:∀ p c0,∀ ps:List QP,(ps.map (·.1)=l∧(ps.length:Int)≤ak∧ak≤16∧(∀ p∈ps,p.1.aK.length≤p.2.2∧p.1.aK.length≤1000)∧ps.length≤c0)→WC P N c env (ao b T [.int .i64 ak,.slice p ps.length c0]::aT e 17 (.slice p ps.length c0) ps.length (aj qc ps)::bZ (ps.map nr)::L) Q):WC P N c env (oJ T e b ak l::L) Q:=by
  intro a w ha hw;obtain ⟨p,c0,ps,hf,hx⟩:=Hk hw;exact h p c0 ps hf a w ha hx
theorem kn {all:Array Oper} {c:List Oper} (h:∀ p c0,∀ ps:List QP,(ps.map (·.1)=l∧(ps.length:Int)≤ak∧ak≤16∧(∀ p∈ps,p.1.aK.length≤p.2.2∧p.1.aK.length≤1000)∧ps.length≤c0)→WO P N all c env (ao b T [.int .i64 ak,.slice p ps.length c0]::aT e 17 (.slice p ps.length c0) ps.length (aj qc ps)::bZ (ps.map nr)::L) Q):WO P N all c env (oJ T e b ak l::L) Q:=by
  intro a w ha hw;obtain ⟨p,c0,ps,hf,hx⟩:=Hk hw;exact h p c0 ps hf a w ha hx
end
theorem Fm {ps:List QP} {m:bA} {st:Bool} {a:Option Addr} {c:Nat} {L M:List HP} (h:ai L (bZ (ps.map nr)::M)):ai L (bZ ((ps++[((⟨m,st,[]⟩:QE),(a,c))]).map nr)::M):=
  ai.trans h (ai.trans zZ (o7 (f:=nr) ((⟨m,st,[]⟩:QE),(a,c))))
theorem D1 {ps:List QP} {i:Nat} (hi:i<ps.length) {x:QP} {T:TypeId} {L M:List HP} (h:ai L (aT T 15 (.slice x.2.1 x.1.aK.length x.2.2) x.1.aK.length (aj mc x.1.aK)::bZ (ps.map nr)::M)):ai L (bZ ((ps.set i x).map nr)::M):=
  ai.trans h (ai.trans zY (ai.trans (ai.cons (yg i)) (uv (f:=nr) i hi x)))
theorem D2 {ps:List QP} {i:Nat} {L M:List HP} (h:ai L (bZ (ps.map nr)::M)):ai L (bZ ((ps.eraseIdx i).map nr)::M):=ai.trans h (yg i)
theorem NA {ps:List QP} {i:Nat} (hi:i<ps.length) {x:QP} {L M:List HP} (hn:0<ps[i].1.aK.length) (hc:ps[i].1.aK.length≤ps[i].2.2) (h1:x.1.aK=ps[i].1.aK.drop 1)
    (h2:LV x=cut (LV ps[i]) 1 ps[i].1.aK.length ps[i].1.aK.length 15) (h:ai L (bZ (ps.map nr)::M)):ai L (bZ ((ps.set i x).map nr)::M):=by
  refine ai.trans h (ai.trans (nj (f:=nr) i hi) (ai.trans (P4 (l:=1) (h:=ps[i].1.aK.length) (m:=ps[i].1.aK.length) (om) (Nat.le_refl _) (Nat.le_refl _)) (ai.trans ?_ (uv (f:=nr) i hi x))));have e1:((aj mc ps[i].1.aK).drop (1*15)).take ((ps[i].1.aK.length-1)*15)=aj mc x.1.aK:=by
    rw [gn (enc:=mc) (n:=15) (fun _=>rfl),iY (enc:=mc) (n:=15) (fun _=>rfl),h1,List.take_of_length_le (by simp)]
  have e2:x.1.aK.length=ps[i].1.aK.length-1:=by rw [h1];simp
  rw [e1];unfold nr;have Uz:Value.slice x.2.1 x.1.aK.length x.2.2=cut (LV ps[i]) 1 ps[i].1.aK.length ps[i].1.aK.length 15:=h2;rw [Uz,e2];exact ai.refl
theorem P8 {T e:TypeId} {b:Nat} {ak:Int} {ps:List QP} {m:bA} {n:Nat} {p:Option Addr} {c:Nat} {xs:List Value} {L M:List HP}
    (h:ai L (ao b T [.int .i64 ak,.slice p n c]::aT e 17 (.slice p n c) n xs::bZ (ps.map nr)::M)) (hn:n=ps.length+1) (hx:xs=aj qc ps++qc ((⟨m,false,[]⟩:QE),(none,0))) (h1:(ps.length:Int)≤ak) (h0:¬(ps.length:Int)=ak) (h2:ak≤16) (h3:∀ p∈ps,p.1.aK.length≤p.2.2∧p.1.aK.length≤1000) :
    ai L (oJ T e b ak (ps.map (·.1)++[⟨m,false,[]⟩])::M):=by
  refine ed (ps:=ps++[((⟨m,false,[]⟩:QE),(none,0))]) (ai.trans h (ai.cons (ai.cons (Fm ai.refl)))) (by simp) (by simp [hn]) (by rw [hx,aJ,bi]) (by simp;omega) h2 ?_;intro p hp;rcases List.mem_append.1 hp with h|h
  ·exact h3 p h
  ·rw [List.mem_singleton.1 h];simp
theorem S6 {T:TypeId} {p:Option Addr} {c i:Nat} {ps:List QP} (hi:i≤ps.length) (hc:ps.length≤c) (L:List HP):bN (aT T 17 (.slice p ps.length c) ps.length (aj qc ps)::L) 17 (cut (.slice p ps.length c) 0 i c 17) (ps.take i).length (aj qc (ps.take i)):=by
  have k0:bN (aT T 17 (.slice p ps.length c) ps.length (aj qc ps)::L) 17 (.slice p ps.length c) ps.length (aj qc ps):=bN.bI;have k:=bN.cut (m:=c) k0 (Nat.zero_le i) hi (om);have e:((aj qc ps).drop (0*17)).take ((i-0)*17)=aj qc (ps.take i):=by
    rw [Nat.zero_mul,List.drop_zero,Nat.sub_zero,iY (enc:=qc) (n:=17) (fun _=>rfl)]
  rw [e] at k;have e2:(ps.take i).length=i-0:=by rw [List.length_take];omega
  rw [e2];exact k
theorem C4 {T:TypeId} {sz n c:Nat} {p:Option Addr} {xs:List Value} {N:Nat} {x:Exit} {env:Env} {L:List HP} {Q:Exit→Act→World→Prop} (h:n≤c→WE N x env (aT T sz (.slice p n c) n xs::L) Q):WE N x env (aT T sz (.slice p n c) n xs::L) Q:=
  fun a w ha hw=>h (D0 hw) a w ha hw
theorem KD {T:TypeId} {sz n c:Nat} {p:Option Addr} {xs:List Value} {P:Program} {N:Nat} {all:Array Oper} {o:List Oper} {env:Env} {L:List HP} {Q:Exit→Act→World→Prop} (h:n≤c→WO P N all o env (aT T sz (.slice p n c) n xs::L) Q):WO P N all o env (aT T sz (.slice p n c) n xs::L) Q:=
  fun a w ha hw=>h (D0 hw) a w ha hw
theorem xP {ps:List QP} {p:QP} (hp:p∈ps) {L:List HP}:bN (bZ (ps.map nr)::L) 15 (LV p) p.1.aK.length (aj mc p.1.aK):=by
  obtain ⟨i,hi,rfl⟩:=List.getElem_of_mem hp;have k:bN (nr ps[i]::bZ ((ps.eraseIdx i).map nr)::L) 15 (LV ps[i]) ps[i].1.aK.length (aj mc ps[i].1.aK):=bN.WX;have e:=nj (f:=nr) (L:=L) i hi;exact ⟨fun w h=>k.len w (e.gX h),fun w h=>k.q7 w (e.gX h),fun w h=>k.pf w (e.gX h)⟩
class zP (L:List HP) (ps:List QP):Prop where
  pf:∀ p∈ps,bN L 15 (LV p) p.1.aK.length (aj mc p.1.aK)
instance (priority:=high) zP.here {ps:List QP} {L:List HP}:zP (bZ (ps.map nr)::L) ps:=⟨fun p hp=>xP hp⟩
instance zP.there {ps:List QP} {q:HP} {L:List HP} [k:zP L ps]:zP (q::L) ps:=⟨fun p hp=>by haveI:=k.pf p hp;exact bN.there⟩
def me (ak:Int) (l:List QE) (m:bA):Int:=if m.ah<1∨m.ah>3 then 1 else if (l.length:Int)=ak then 4 else 0
def mf (ak:Int) (l:List QE) (m:bA):List QE:=if me ak l m=0 then l++[⟨m,false,[]⟩] else l
def rG (l:List QE) (n:Int):Bool:=decide (0≤n∧n<l.length)
def ss (l:List QE) (n:Int):QE:=if rG l n then l.getD n.toNat ⟨.zero,false,[]⟩ else ⟨.zero,false,[]⟩
def tw (l:List QE) (n:Nat) (aa:Int):Bool:=(l.take n).all fun e=> !decide (e.m.aa=aa)
def fi (l:List QE) (n:Int):Bool:=rG l n&& !(ss l n).st&& tw l n.toNat (ss l n).m.aa
def gC (l:List QE) (n:Int) (s:List bA):Int:=if rG l n then (if fi l n&& decide (s.length≠0) then 0 else 7) else 5
def dO (l:List QE) (n:Int) (s:List bA):List QE:=if gC l n s=0 then l.set n.toNat { ss l n with st:=true,aK:=s} else l
def fN (l:List QE) (n:Int):Bool:=rG l n&& decide ((ss l n).aK.length≠0)
def fO (l:List QE) (n:Int):bA:=if fN l n then (ss l n).aK.headD .zero else .zero
def kR (l:List QE) (n:Int):Int:=if rG l n then (if (ss l n).aK.length=0 then 7 else 0) else 5
def ig (l:List QE) (n:Int):List QE:=
  if kR l n=0 then (if (ss l n).aK.length=1∧(ss l n).m.ah=3 then l.eraseIdx n.toNat else l.set n.toNat { ss l n with aK:=(ss l n).aK.drop 1}) else l
def iQ (aa src:Int) (e:QE):Bool:=e.st&& decide (e.m.aa=aa)&& decide (e.m.src=src)&& !decide (e.m.ah=3)&& decide (e.aK.length=0)
def rj (l:List QE) (aa src:Int):Int:=if bO (iQ aa src) l<0 then 7 else 0
def n9 (l:List QE) (aa src:Int):List QE:=if bO (iQ aa src) l<0 then l else l.eraseIdx (bO (iQ aa src) l).toNat
end
section
theorem p6 {l:List QE} {n:Int} (h:rG l n=true):∃ i:Nat,∃ hi:i<l.length,n=i∧ss l n=l[i]:=by
  have h0:=of_decide_eq_true h;refine ⟨n.toNat,om,om,?_⟩;have hi:n.toNat<l.length:=by omega
  simp [ss,h,hi]
theorem Fo {l:List QE} {n:Int} (h:fi l n=true):∃ i:Nat,∃ hi:i<l.length,n=i∧ss l n=l[i]∧l[i].st=false∧∀ j (hj:j<l.length),j<i→l[j].m.aa≠l[i].m.aa:=by
  simp only [fi,Bool.and_eq_true,Bool.not_eq_true'] at h;obtain ⟨⟨h1,h2⟩,h3⟩:=h;obtain ⟨i,hi,rfl,e⟩:=p6 h1;rw [e] at h2 h3;refine ⟨i,hi,rfl,e,h2,fun j hj rp=>?_⟩;simp only [tw,Int.toNat_natCast,List.all_eq_true] at h3;have:=h3 l[j] (by rw [List.mem_iff_getElem];exact ⟨j,by simp;omega,by simp⟩);simpa using this
end
section
attribute [local irreducible] Exit.then Exit.inBlock Code.wp WC WO WE WQ V aW dL Sat bz bK dU IntKind.wrap WR Code.rounds WT KO
def fE (c:au) (a:Int):Bool:=aB c&& decide (0≤a∧a<c.ag*c.aZ)
def dS (c:au) (a:Int):Int:=if fE c a then a / c.ag else 0
def nH (c:au) (a:Int):Int:=if fE c a then a % c.ag else 0
def zQ (c:au) (a:Int):Int:=if fE c a then 0 else 1
def bG (c:au) (l:Int):Bool:=aB c&& decide (0≤l∧l<c.aZ)
def uY (c:au) (l:Int):Int:=if bG c l then l % c.bY else 0
def nI (c:au) (l:Int):Int:=if bG c l then l % c.cl else 0
def ES (c:au) (l:Int):Int:=if bG c l then l / c.cl else 0
def p7 (c:au) (l:Int):Int:=if bG c l then 0 else 1
def fa (c:au) (l w:Int):Bool:=aB c&& decide (0≤l∧l<c.aZ∧0≤w∧w<c.ag)
def vZ (c:au) (l w:Int):Int:=if fa c l w then l*c.ag+w else 0
def og (c:au) (l w:Int):Int:=if fa c l w then 0 else 1
theorem cp {c:au} (h:aB c=true):(1≤c.ax∧c.ax≤64)∧(∃ k:Nat,k≤4∧c.bY=2^k)∧(∃ k:Nat,k≤6∧c.cl=2^k)∧(∃ k:Nat,k≤3∧c.ag=2^k)∧(∃ k:Nat,k≤10∧c.aZ=2^k)∧(1≤c.al∧c.al≤8):=by
  simp only [aB,eJ,Bool.and_eq_true,decide_eq_true_eq] at h;have pw:∀ (n:Int) (m:Nat),q8 n=true→n≤2^m→m<63→∃ k:Nat,k≤m∧n=2^k:=by
    intro n m h1 h2 h3;obtain ⟨k,hk,rfl⟩:=E9 h1;refine ⟨k,?_,rfl⟩;rcases Nat.lt_or_ge m k with h|h
    ·have:(2:Nat)^m<2^k:=Nat.pow_lt_pow_right (om) h;have h4:((2^m:Nat):Int)<((2^k:Nat):Int):=by exact_mod_cast this
     simp at h4;omega
    ·exact h
  simp at h;refine ⟨om,pw _ 4 (by simp_all) (by simp;omega) (om),pw _ 6 (by simp_all) (by simp;omega) (om),pw _ 3 (by simp_all) (by simp;omega) (om),pw _ 10 (by simp_all) (by simp;omega) (om),om⟩
theorem mE {k m:Nat} (h:k≤m):(1:Int)≤2^k∧(2:Int)^k≤2^m:=by
  have h1:(2:Nat)^k≤2^m:=Nat.pow_le_pow_right (om) h;have h2:1≤(2:Nat)^k:=Nat.one_le_two_pow;have h3:((2^k:Nat):Int)≤((2^m:Nat):Int):=by exact_mod_cast h1
  have h4:((1:Nat):Int)≤((2^k:Nat):Int):=by exact_mod_cast h2
  simp at h3 h4;exact ⟨h4,h3⟩
theorem NB {n:Int} {k:Nat} (h0:0≤n) (h1:n≤9223372036854775807) (hk:k<63):bK .i64 n (2^k-1)=n % 2^k:=by
  have hp:=AI hk;have hp0:(0:Int)<2^k:=Int.pow_pos (om);rw [AH h0 (om) (om) (om)];have e:((2:Int)^k-1).toNat=2^k-1:=by
    have:((2^k:Nat):Int)=(2:Int)^k:=by simp
    have h2:1≤(2:Nat)^k:=Nat.one_le_two_pow;omega
  rw [e,Nat.and_two_pow_sub_one_eq_mod];obtain ⟨m,rfl⟩:=Int.eq_ofNat_of_zero_le h0;simp
theorem P9 {n:Int} {k:Nat}:n.fdiv (2^k)=n / 2^k:=by
  rw [Int.fdiv_eq_ediv_of_nonneg];exact Int.le_of_lt (Int.pow_pos (om))
theorem z2 {n m:Int} (h:0≤n):n.tmod m=n % m:=Int.tmod_eq_emod_of_nonneg h
theorem AQ {F:List HP} {n:Int} (hn:dZ n):az prog 209 [.int .i64 n] [] F (fun r L'=>r= .agg [.int .i64 (IntKind.i64.wrap (n-1)),.int .i64 (ua n)].toArray∧L'=[]):=by
  refine ay func209 ntmps209 ?_;repeat first|refine gd ?_|intro _|refine ae @zc ?_
  exact aM
theorem Fp {F:List HP} {n:Int} {k:Nat} (hk:k<63) (h0:0≤n) (h1:n≤9223372036854775807) :
    az prog 210 [.agg [.int .i64 (2^k-1),.int .i64 k].toArray,.int .i64 n] [] F (fun r L'=>r= .tuple [.int .i64 (n / 2^k),.int .i64 (n % 2^k)].toArray∧L'=[]):=by
  refine ay func210 ntmps210 ?_;repeat first|refine gd ?_|intro _
  have LL:min ((k:Int)).toNat IntKind.i64.bits=k:=by simp [IntKind.bits];omega
  rw [LL,P9,NB h0 h1 hk];exact aM
abbrev XS (k:Nat):Value:= .func (.func 210) [.agg [.int .i64 (2^k-1),.int .i64 k].toArray].toArray [].toArray
theorem tH {F:List HP} {c:au} {n m:Int} {f:Value} (hc:c.wf) (h:¬(aB c=true∧0≤n∧n<m)) :
    az prog 208 [c.val,.int .i64 n,.int .i64 m,f] [] F (fun r L'=>r= .tuple [.int .i64 0,.int .i64 0,.int .i64 1].toArray∧L'=[]):=by
  refine ay func208 ntmps208 ?_;have hE:=fun F=>fT (F:=F) hc;cases e:aB c with
  |false=>
   simp only [cF,e] at hE;repeat first|refine gd ?_|intro _|refine ae @hE ?_
   exact aM
  |true=>
   simp only [cF,e,if_true] at hE;rw [e] at h;repeat' (first|refine gd ?_|intro _|refine ae @hE ?_|refine bj ?_ ?_|fail)
   all_goals first|(exfalso;simp at h;omega)|exact aM
theorem xy {F:List HP} {c:au} {n m:Int} {k:Nat} (hc:c.wf) (h:aB c=true) (h0:0≤n) (hm:n<m) (hk:k<63) (h1:n≤9223372036854775807) :
    az prog 208 [c.val,.int .i64 n,.int .i64 m,XS k] [] F (fun r L'=>r= .tuple [.int .i64 (n / 2^k),.int .i64 (n % 2^k),.int .i64 0].toArray∧L'=[]):=by
  refine ay func208 ntmps208 ?_;have hE:=fun F=>fT (F:=F) hc;simp only [cF,h,if_true] at hE;repeat first|refine gd ?_|intro _|refine ae @hE ?_|refine ae @Fp ?_
  exact aM
theorem yl {F:List HP} {n:Int} {k:Nat} (h:n=2^k) (hk:k≤30):az prog 209 [.int .i64 n] [] F (fun r L'=>r= .agg [.int .i64 (2^k-1),.int .i64 k].toArray∧L'=[]):=by
  have hp:=mE hk;simp only [Int.reducePow] at hp;have hb:=AQ (F:=F) (n:=n) (by unfold dZ;omega);have e1:ua n=k:=by rw [h];simp [ua,vl (show k<63 by omega)]
  have e2:IntKind.i64.wrap (n-1)=2^k-1:=by rw [h,k9 (om) (om)]
  rwa [e1,e2] at hb
theorem AR {c:au} {a:Int} (e:fE c a=true):aB c=true∧0≤a∧a<c.ag*c.aZ:=by
  simpa only [fE,Bool.and_eq_true,decide_eq_true_eq] using e
theorem NC {c:au} {a:Int} (e:fE c a=false):¬(aB c=true∧0≤a∧a<eh c):=by
  rintro ⟨h1,h2,h3⟩;simp only [eh,h1,if_true] at h3;simp [fE,h1] at e;omega
theorem wZ {c:au} {a:Int} (e:bG c a=true):aB c=true∧0≤a∧a<c.aZ:=by
  simpa only [bG,Bool.and_eq_true,decide_eq_true_eq] using e
theorem ND {c:au} {a:Int} (e:bG c a=false):¬(aB c=true∧0≤a∧a<c.aZ):=by
  rintro ⟨h1,h2,h3⟩;simp [bG,h1] at e;omega
theorem xz {Q P:Prop} (k:Q) (h:Hid Q→P:=by
  intro k
  first
  |(refine an ?_;refine bF (id:=1) .false (pl:= .p 1 <| .p 4 <| .r 0 <| .r 2 <| .r 5 <| .e true [(3,.e true [(6,.p 7 <| .e true [(8,.p 9 <| .p 10 <| .p 11 <| .p 12 <| .p 13 <| .p 14 <| .done)])])]) k.out)):P:=h ⟨k⟩
theorem wq {F:List HP} {c:au} {a:Int} (hc:c.wf) (ha:dZ a):az prog 108 [c.val,.int .i64 a] [] F (fun r L'=>r= .tuple [.int .i64 (dS c a),.int .i64 (nH c a),.int .i64 (zQ c a)].toArray∧L'=[]):=by
  obtain ⟨_,_,_,_,hw,_⟩:=id hc;unfold dZ at ha;cases e:fE c a with
  |true=>
   obtain ⟨e1,e2,e3⟩:=AR e;obtain ⟨k,hk,ek⟩:=(cp e1).2.2.2.1;have hs:eh c=c.ag*c.aZ:=by simp [eh,e1]
   have r1:dS c a=a / 2^k:=by simp [dS,e,ek]
   have r2:nH c a=a % 2^k:=by simp [nH,e,ek]
   have r3:zQ c a=0:=by simp [zQ,e]
   rw [r1,r2,r3];have hS:=fun F=>mn (F:=F) hc;simp only [hs] at hS;refine ay func108 ntmps108 ?_;repeat first|refine go ?_|intro _|refine xz ?_|refine av ?_|refine ae @hS ?_|refine ae (yl ek) ?_|refine ae @xy ?_
   exact aM
  |false=>
   have r1:dS c a=0:=by simp [dS,e]
   have r2:nH c a=0:=by simp [nH,e]
   have r3:zQ c a=1:=by simp [zQ,e]
   rw [r1,r2,r3];have hn:=NC e;refine ay func108 ntmps108 ?_;repeat first|refine go ?_|intro _|refine xz ?_|refine av ?_|refine ae @mn ?_|refine ae @AQ ?_|refine ae @tH ?_
   exact aM
theorem xA {Q P:Prop} (k:Q) (h:Hid Q→P:=by
  intro k
  first
  |(refine an ?_;refine bF (id:=1) .false (pl:= .p 1 <| .p 2 <| .p 4 <| .r 0 <| .r 3 <| .r 5 <| .e true [(6,.p 7 <| .e true [(8,.p 9 <| .p 10 <| .p 11 <| .p 12 <| .p 13 <| .p 14 <| .p 15 <| .done)])]) k.out)):P:=h ⟨k⟩
theorem nZ {F:List HP} {c:au} {a:Int} (hc:c.wf) (ha:dZ a):az prog 109 [c.val,.int .i64 a] [] F (fun r L'=>r= .tuple [.int .i64 (uY c a),.int .i64 (nI c a),.int .i64 (ES c a),.int .i64 (p7 c a)].toArray∧L'=[]):=by
  obtain ⟨_,_,hs,_⟩:=id hc;unfold dZ at ha;cases e:bG c a with
  |true=>
   obtain ⟨e1,e2,e3⟩:=wZ e;obtain ⟨k,hk,ek⟩:=(cp e1).2.2.1;obtain ⟨m,hm,em⟩:=(cp e1).2.1;have r0:uY c a=a % 2^m:=by simp [uY,e,em]
   have r1:nI c a=a % 2^k:=by simp [nI,e,ek]
   have r2:ES c a=a / 2^k:=by simp [ES,e,ek]
   have r3:p7 c a=0:=by simp [p7,e]
   rw [r0,r1,r2,r3];refine ay func109 ntmps109 ?_;repeat first|refine go ?_|intro _|refine xA ?_|refine av ?_|refine ae (yl ek) ?_|refine ae (yl em) ?_|refine ae @xy ?_|refine ae @Fp ?_
   exact aM
  |false=>
   have r0:uY c a=0:=by simp [uY,e]
   have r1:nI c a=0:=by simp [nI,e]
   have r2:ES c a=0:=by simp [ES,e]
   have r3:p7 c a=1:=by simp [p7,e]
   rw [r0,r1,r2,r3];have hn:=ND e;refine ay func109 ntmps109 ?_;repeat first|refine go ?_|intro _|refine xA ?_|refine av ?_|refine ae @AQ ?_|refine ae @tH ?_
   exact aM
theorem S7 {t s a b:Int} (ht:0≤t) (hta:t<a) (hs:s<b) (hb:0<b):t*b+s<a*b:=by
  have h1:(t+1)*b≤a*b:=Int.mul_le_mul_of_nonneg_right (om) (om);rw [Int.add_mul,Int.one_mul] at h1;omega
theorem KE {t s a b:Int} (h:t*b+s<a*b) (hs:0≤s) (hb:0<b):t<a:=by
  rcases Int.lt_or_le t a with h1|h1
  ·exact h1
  ·have:=Int.mul_le_mul_of_nonneg_right h1 (Int.le_of_lt hb);omega
theorem tI {F:List HP} {c:au} {hi lo e m:Int} (hc:c.wf) (h:¬(aB c=true∧0≤lo∧lo<e∧0≤hi∧hi<m)) :
    az prog 350 [c.val,.int .i64 hi,.int .i64 lo,.int .i64 e,.int .i64 m] [] F (fun r L'=>r= .tuple [.int .i64 0,.int .i64 1].toArray∧L'=[]):=by
  have hE:=fun F=>fT (F:=F) hc;refine ay func350 ntmps350 ?_;cases e:aB c with
  |false=>
   simp only [cF,e] at hE;repeat first|refine gd ?_|intro _|refine ae @hE ?_
   exact aM
  |true=>
   simp only [cF,e,if_true] at hE;rw [e] at h;repeat' (first|refine gd ?_|intro _|refine ae @hE ?_|refine bj ?_ ?_|fail)
   all_goals first|(exfalso;simp at h;omega)|exact aM
theorem EE {F:List HP} {c:au} {hi lo e m:Int} (hc:c.wf) (h:aB c=true) (h0:0≤lo) (h1:lo<e) (h2:0≤hi) (h3:hi<m) (he:e≤64) (hm:m≤8192) :
    az prog 350 [c.val,.int .i64 hi,.int .i64 lo,.int .i64 e,.int .i64 m] [] F (fun r L'=>r= .tuple [.int .i64 (if hi*e+lo<m then hi*e+lo else 0),.int .i64 (if hi*e+lo<m then 0 else 1)].toArray∧L'=[]):=by
  have hE:=fun F=>fT (F:=F) hc;simp only [cF,h,if_true] at hE;have hb:=tL (a:=hi) (b:=e) (m:=8192) (n:=64) h2 (om) (om) he (om);refine ay func350 ntmps350 ?_;by_cases bB:hi*e+lo<m
  ·repeat first|refine gd ?_|intro _|refine ae @hE ?_
   (apply ad rfl rfl ar;(first|exact cS|exact ⟨by simp [bB]<;>omega,rfl⟩);exact bM)
  ·repeat first|refine gd ?_|intro _|refine ae @hE ?_
   (apply ad rfl rfl ar;(first|exact cS|exact ⟨by simp [bB]<;>omega,rfl⟩);exact bM)
theorem tj {Q P:Prop} (k:Q) (h:Hid Q→P:=by
  intro k
  first
  |(refine an ?_;refine bF (id:=1) .false (pl:= .p 1 <| .p 2 <| .p 3 <| .r 0 <| .r 4 <| .r 5 <| .e true [(6,.e true [(7,.p 8 <| .p 9 <| .p 10 <| .p 11 <| .done)])]) k.out)):P:=h ⟨k⟩
theorem Bo {F:List HP} {c:au} {l w:Int} (hc:c.wf) (hl:dZ l) (hw:dZ w):az prog 315 [c.val,.int .i64 l,.int .i64 w] [] F (fun r L'=>r= .tuple [.int .i64 (vZ c l w),.int .i64 (og c l w)].toArray∧L'=[]):=by
  cases e:aB c with
  |false=>
   have r1:vZ c l w=0:=by simp [vZ,fa,e]
   have r2:og c l w=1:=by simp [og,fa,e]
   have hn:∀ a b:Prop,¬(aB c=true∧a∧b):=fun a b h=>by simp [e] at h
   rw [r1,r2];refine ay func315 ntmps315 ?_;repeat first|refine go ?_|intro _|refine tj ?_|refine av ?_|refine ae @mn ?_|refine ae (tI hc (by simp [e])) ?_
   exact aM
  |true=>
   obtain ⟨_,_,_,⟨k,hk,ek⟩,⟨n,hn,en⟩,_⟩:=cp e;have b1:=mE hk;have b2:=mE hn;rw [←ek] at b1;rw [←en] at b2;simp only [Int.reducePow] at b1 b2;have hb:=tL (a:=c.ag) (b:=c.aZ) (m:=8) (n:=1024) (om) (om) (om) (om) (om);have hS:=fun F=>mn (F:=F) hc;simp only [eh,e,if_true] at hS;by_cases h:0≤w∧w<c.ag∧0≤l∧l<c.ag*c.aZ
   ·have key:l*c.ag+w<c.ag*c.aZ↔l<c.aZ:=by
      rw [Int.mul_comm c.ag c.aZ];exact ⟨fun q=>KE q (om) (om),fun q=>S7 (om) q (om) (om)⟩
    have r1:vZ c l w=if l*c.ag+w<c.ag*c.aZ then l*c.ag+w else 0:=by simp only [vZ,fa,e,key];simp;congr 1;simp;omega
    have r2:og c l w=if l*c.ag+w<c.ag*c.aZ then 0 else 1:=by simp only [og,fa,e,key];simp;congr 1;simp;omega
    rw [r1,r2];refine ay func315 ntmps315 ?_;repeat first|refine go ?_|intro _|refine tj ?_|refine av ?_|refine ae @hS ?_|refine ae @EE ?_
    exact aM
   ·have hle:c.aZ≤c.ag*c.aZ:=by
      have:=Int.mul_le_mul_of_nonneg_right (a:=1) (b:=c.ag) (c:=c.aZ) (om) (om);omega
    have r0:fa c l w=false:=by simp only [fa,e];simp;omega
    have r1:vZ c l w=0:=by simp [vZ,r0]
    have r2:og c l w=1:=by simp [og,r0]
    rw [r1,r2];have dC:¬(aB c=true∧0≤w∧w<c.ag∧0≤l∧l<c.ag*c.aZ):=fun q=>h q.2;refine ay func315 ntmps315 ?_;repeat first|refine go ?_|intro _|refine tj ?_|refine av ?_|refine ae @hS ?_|refine ae @tI ?_
    exact aM
def vE (n h H:Nat):Nat:=(n+(H-1)-h) / H
theorem Hl {n h H k:Nat} (hH:h<H):k<vE n h H↔h+k*H<n:=by
  unfold vE;rw [Nat.lt_iff_add_one_le,Nat.le_div_iff_mul_le (om),Nat.add_mul];omega
def yS (h H k:Nat):List Int:=(List.range k).map fun (i:Nat)=>((h+i*H:Nat):Int)
theorem KF (h H k:Nat):yS h H (k+1)=yS h H k++[((h+k*H:Nat):Int)]:=by
  simp [yS,List.range_succ]
theorem Fq (h H k:Nat):(yS h H k).length=k:=by simp [yS]
def ju (c:au) (h:Int):List Int:=if aB c&& decide (0≤h∧h<c.bY) then yS h.toNat c.bY.toNat (vE c.aZ.toNat h.toNat c.bY.toNat) else []
theorem Gq {F:List HP} {c:au} {h:Int} (hc:c.wf) (hh:dZ h) :
    az prog 140 [c.val,.int .i64 h] [] F (fun r L'=>∃ p q,r= .slice p (ju c h).length q∧L'=[aT 3 1 (.slice p (ju c h).length q) (ju c h).length (aj ic (ju c h))]):=by
  have hE:=fun F=>fT (F:=F) hc;cases e:aB c with
  |false=>
   have r1:ju c h=[]:=by simp [ju,e]
   rw [r1];simp only [cF,e] at hE;refine ay func140 ntmps140 ?_;repeat first|refine gd ?_|intro _|refine ae @hE ?_
   (apply ad rfl rfl ar)
   ·exact ⟨_,_,rfl,rfl⟩
   ·exact aI (by exact af)
  |true=>
   simp only [cF,e,if_true] at hE;by_cases hr:0≤h∧h<c.bY
   ·obtain ⟨_,⟨m,hm,em⟩,_,_,⟨n,hn,en⟩,_⟩:=cp e;have b1:=mE hm;have b2:=mE hn;rw [←em] at b1;rw [←en] at b2;simp only [Int.reducePow] at b1 b2;obtain ⟨H,eH⟩:∃ H:Nat,c.bY=H:=⟨c.bY.toNat,om⟩;obtain ⟨n,en⟩:∃ n:Nat,c.aZ=n:=⟨c.aZ.toNat,om⟩;obtain ⟨h,rfl⟩:∃ n:Nat,h=n:=⟨h.toNat,om⟩;have r1:ju c h=yS h H (vE n h H):=by simp [ju,e,eH,en];omega
    have hH:h<H:=by omega
    rw [r1];refine ay func140 ntmps140 ?_;repeat first|refine gd ?_|intro _|refine ae @hE ?_
    rename_i bc
    apply aO (E0:=[(2,_)]) (fun E0 (q:Nat×Option Addr×Nat)=>(6,.int .i64 ((h+q.1*H:Nat):Int))::(5,.slice q.2.1 q.1 q.2.2)::E0)
      (fun q=>aT 3 1 (.slice q.2.1 q.1 q.2.2) q.1 (aj ic (yS h H q.1))::ao bc 25 c.cells::F) (fun q=>q.1≤vE n h H) (fun q=>vE n h H-q.1) (0,none,0)
    ·simp only [Nat.zero_mul,Nat.add_zero];exact bH
    ·exact Nat.zero_le _
    ·exact aI (by exact af)
    ·rintro ⟨k,p,q⟩ hk;dsimp only at hk ⊢;have bB:=Hl (n:=n) (k:=k) hH;have hcn:vE n h H≤n+H:=by
       unfold vE;exact Nat.le_trans (Nat.div_le_self _ _) (om)
     by_cases J2:k<vE n h H
     ·have h2:=bB.1 J2;repeat first|refine gd ?_|intro _
      rename_i b' p' q';refine aC (k+1,p',q') (by dsimp only;omega) (by dsimp only;omega) ?_ ?_
      ·dsimp only;have e3:((h+(k+1)*H:Nat):Int)=((h+k*H:Nat):Int)+c.bY:=by rw [eH,Nat.add_mul];omega
       rw [e3];exact bH
      ·dsimp only;rw [KF,aJ,bi];exact af
     ·have h2:¬h+k*H<n:=fun z=>J2 (bB.2 z);have h3:k=vE n h H:=by omega
      subst h3;repeat first|refine gd ?_|intro _
      rw [show (yS h H (vE n h H)).length=vE n h H from Fq _ _ _];(apply ad rfl rfl ar)
      ·exact ⟨_,_,rfl,rfl⟩
      ·exact af
   ·have r1:ju c h=[]:=by simp [ju,hr]
    rw [r1];refine ay func140 ntmps140 ?_;repeat' (first|refine gd ?_|intro _|refine ae @hE ?_|refine bj ?_ ?_|fail)
    all_goals first|(exfalso;omega)|skip
    all_goals (apply ad rfl rfl ar)
    all_goals first|exact ⟨_,_,rfl,rfl⟩|exact aI (by exact af)
end
section
attribute [local irreducible] Exit.then Exit.inBlock Code.wp WC WO WE WQ V aW dL Sat bz bK dU IntKind.wrap WR Code.rounds WT KO
def k8 (x:c5):Bool:=if x.ah=4 then decide (x.addr=0)&& decide (x.value=0) else if x.ah=1 then decide (0≤x.addr)&& decide (x.addr≤8191)&& decide (x.value=0)
  else if x.ah=2∨x.ah=3 then decide (0≤x.addr)&& decide (x.addr≤8191)&& decide (-2147483648≤x.value)&& decide (x.value≤2147483647) else false
def fl (c:au) (l:List c5):Bool:=(l.all fun x=>k8 x&& decide (x.addr<eh c))&& aB c&& decide (l.length≤64)
theorem uQ {F:List HP} {x:c5}:az prog 131 [ov x] [] F (fun r L'=>r= .bool (k8 x)∧L'=[]):=by
  refine ay func131 ntmps131 ?_;repeat' (first|refine gd ?_|intro _|refine bj ?_ ?_|fail)
  all_goals (apply ad rfl rfl ar;(exact ⟨by first|(simp_all [k8];done)|(simp_all [k8];omega),rfl⟩);exact bM)
theorem xB {F:List HP} {c:au} (hc:c.wf) {l:List c5} {v:Value} (k:bN F 3 v l.length (aj oc l)) (hn:l.length≤1099511627776):az prog 50 [c.val,v] [] F (fun r L'=>r= .bool (fl c l)∧L'=[]):=by
  refine ay func50 ntmps50 ?_;repeat first|refine gd ?_|intro _
  rename_i bc;apply aO (E0:=[(1,_),(2,_),(7,_),(8,_)]) (fun E0 (j:Nat)=>(9,.int .i64 j)::E0) (fun _=>ao bc 25 c.cells::F) (fun j=>j≤l.length∧∀ i (h:i<l.length),i<j→(k8 l[i]&& decide (l[i].addr<eh c))=true) (fun j=>l.length-j) 0
  ·exact bH
  ·exact ⟨Nat.zero_le _,fun i h hi=>by omega⟩
  ·exact af
  ·rintro j ⟨hj,kQ⟩;by_cases bB:j<l.length
   ·cases hm:k8 l[j] with
    |false=>
     have hf:fl c l=false:=by
       have:(l.all fun x=>k8 x&& decide (x.addr<eh c))=false:=by
         rw [List.all_eq_false];exact ⟨_,List.getElem_mem bB,by simp [hm]⟩
       simp [fl,this]
     have hM:=fun F=>uQ (F:=F) (x:=l[j]);simp only [hm] at hM;repeat first|refine gd ?_|intro _|refine ae @hM ?_
     (apply ad rfl rfl ar;(first|exact cS|exact ⟨by simp [hf]<;>omega,rfl⟩);exact bM)
    |true=>
     have hM:=fun F=>uQ (F:=F) (x:=l[j]);simp only [hm] at hM;by_cases hs:l[j].addr<eh c
     ·repeat first|refine gd ?_|intro _|refine ae @hM ?_|refine ae (mn (c:=c)) ?_
      refine aC (j+1) (om) ⟨om,fun i h hi=>?_⟩ ?_ ?_
      ·by_cases e:i=j
       ·subst e;simp [hm,hs]
       ·exact kQ i h (om)
      ·exact bH
      ·exact af
     ·have hf:fl c l=false:=by
        have:(l.all fun x=>k8 x&& decide (x.addr<eh c))=false:=by
          rw [List.all_eq_false];exact ⟨_,List.getElem_mem bB,by simp [hs]⟩
        simp [fl,this]
      repeat first|refine gd ?_|intro _|refine ae @hM ?_|refine ae (mn (c:=c)) ?_
      (apply ad rfl rfl ar;(first|exact cS|exact ⟨by simp [hf]<;>omega,rfl⟩);exact bM)
   ·have ha:(l.all fun x=>k8 x&& decide (x.addr<eh c))=true:=by
      rw [List.all_eq_true];intro x hx;obtain ⟨i,hi,rfl⟩:=List.getElem_of_mem hx;exact kQ i hi (om)
    repeat first|refine gd ?_|intro _|refine ae (fT (c:=c)) ?_
    cases e:aB c
    ·have e1:cF c=1:=by simp [cF,e]
     repeat first|refine gd ?_|intro _
     (apply ad rfl rfl ar;(first|exact cS|exact ⟨by simp [fl,e]<;>omega,rfl⟩);exact bM)
    ·have e1:cF c=0:=by simp [cF,e]
     repeat first|refine gd ?_|intro _
     (apply ad rfl rfl ar;(first|exact cS|exact ⟨by simp [fl,e,ha]<;>omega,rfl⟩);exact bM)
end
section
theorem zm {ms:List Int} {i:Nat} (hi:i<ms.length):(aj ic ms)[i]? =some (.int .i64 ms[i]):=by
  induction ms generalizing i with
  |nil=>simp at hi
  |cons a r ih=>
   cases i with
   |zero=>simp [aj]
   |succ i=>simpa [aj] using ih (i:=i) (by simpa using hi)
theorem mO (ms:List Int):(aj ic ms).length=ms.length:=by
  have:=jj (enc:=ic) (n:=1) (fun _=>rfl) ms;rwa [Nat.mul_one] at this
theorem sa {ms:List Int} {i:Nat} (hi:i<ms.length) (v:Int):aV (aj ic ms) i [.int .i64 v]=aj ic (ms.set i v):=by
  have:=mb (enc:=ic) (n:=1) (fun _=>rfl) ms i hi (cs:=[.int .i64 v]) (x:=v) (by simp) (by simp [aV]);rwa [Nat.mul_one] at this
def vF (b:Nat) (c:au) (ms:List Int):HP:=
  Ex fun g:Nat=>[ao b 277 (c.cells++[.slice (some ⟨g,0,none⟩) ms.length ms.length]),ao g 3 (aj ic ms),ja (aB c=true∧(ms.length:Int)=c.ag*c.aZ∧ms.length≤8192)]
theorem xQ {b g n:Nat} {c:au} {ms:List Int} {xs:List Value} {L M:List HP}
    (h:ai L (ao b 277 (c.cells++[.slice (some ⟨g,0,none⟩) n n])::ao g 3 xs::M)) (hn:n=ms.length) (hx:xs=aj ic ms) (hl:aB c=true∧(ms.length:Int)=c.ag*c.aZ∧ms.length≤8192):ai L (vF b c ms::M):=by
  subst hn hx;refine ai.trans h (ai.trans ?_ (fU (p:=fun g:Nat=>[ao b 277 (c.cells++[.slice (some ⟨g,0,none⟩) ms.length ms.length]),ao g 3 (aj ic ms),ja (aB c=true∧(ms.length:Int)=c.ag*c.aZ∧ms.length≤8192)]) g));exact ai.cons (ai.cons (cX hl))
theorem Qa {b:Nat} {c:au} {ms:List Int} {L:List HP} {w:World} (h:Sat (vF b c ms::L) w):(aB c=true∧(ms.length:Int)=c.ag*c.aZ∧ms.length≤8192)∧
    ∃ g,Sat (ao b 277 (c.cells++[.slice (some ⟨g,0,none⟩) ms.length ms.length])::ao g 3 (aj ic ms)::L) w:=by
  obtain ⟨g,hx⟩:=eN h;simp only [eX] at hx;have hf:=fc (aG (aG hx));exact ⟨hf,g,(ai.cons (ai.cons (ai.drop ai.refl))) _ hx⟩
theorem xc {b:Nat} {c0:au} {ms:List Int} {P:Program} {N:Nat} {c:Code} {env:Env} {L:List HP} {Q:Exit→Act→World→Prop}
    (h:∀ g,(aB c0=true∧(ms.length:Int)=c0.ag*c0.aZ∧ms.length≤8192)→WC P N c env (ao b 277 (c0.cells++[.slice (some ⟨g,0,none⟩) ms.length ms.length])::ao g 3 (aj ic ms)::L) Q):WC P N c env (vF b c0 ms::L) Q:=by
  intro a w ha hw;obtain ⟨hf,g,hx⟩:=Qa hw;exact h g hf a w ha hx
attribute [local irreducible] Exit.then Exit.inBlock Code.wp WC WO WE WQ V aW dL Sat bz bK dU IntKind.wrap WR Code.rounds WT KO
def iV (ms:List Int) (i:Nat) (x:c5):List Int:=if x.ah=2∨x.ah=3 then ms.set i x.value else ms
def oN (ms:List Int) (i:Nat) (x:c5):Int:=if x.ah=2 then 0 else ms.getD i 0
theorem KG {F:List HP} {g T i:Nat} {ms:List Int} {x:c5} (hi:i<ms.length):az prog 160 [.pointer (some ⟨g,i,none⟩),ov x] [ao g T (aj ic ms)] F (fun r L'=>r= .int .i64 (oN ms i x)∧L'=[ao g T (aj ic (iV ms i x))]):=by
  have hg:=zm hi;refine ay func160 ntmps160 ?_;repeat first|refine gd ?_|intro _
  have hle:Nat.ble (i+1) (aj ic ms).length=true:=by rw [mO];exact Nat.ble_eq_true_of_le hi
  have Sh:ms.getD i 0=ms[i]:=by simp [hi]
  by_cases h2:x.ah=2
  ·repeat first|refine gd ?_|intro _
   refine mY rfl (nN (cs:=[.int .i64 x.value]) rfl rfl inferInstance rfl rfl rfl hle) (aU ?_);rw [sa hi];repeat first|refine gd ?_|intro _
   (apply ad rfl rfl ar)
   ·exact ⟨by simp [oN,h2],rfl⟩
   ·simp only [iV,h2,true_or,if_true];exact af
  ·by_cases h3:x.ah=3
   ·repeat first|refine gd ?_|intro _
    refine mY rfl (nN (cs:=[.int .i64 x.value]) rfl rfl inferInstance rfl rfl rfl hle) (aU ?_);rw [sa hi];repeat first|refine gd ?_|intro _
    (apply ad rfl rfl ar)
    ·exact ⟨by simp [oN,h2,hi],rfl⟩
    ·simp only [iV,h3,or_true,if_true];exact af
   ·repeat first|refine gd ?_|intro _
    (apply ad rfl rfl ar)
    ·exact ⟨by simp [oN,h2,hi],rfl⟩
    ·simp only [iV,h2,h3,or_self,if_false];exact af
theorem KH {Q P:Prop} (k:Q) (h:Hid Q→P:=by
  intro k
  first
  |(refine an ?_;refine bF (id:=4) .false (pl:= .r 0 <| .r 1 <| .e true [(2,.e true [(3,.p 4 <| .e true [(5,.p 6 <| .p 7 <| .done)])])]) k.out)):P:=h ⟨k⟩
theorem Gr (l:List Int):(aj ic l).all one=true:=by
  induction l with
  |nil=>rfl
  |cons a r ih=>simp [aj,one]
theorem Mz (n:Nat):List.replicate n (Value.int .i64 0)=aj ic (List.replicate n 0):=by
  induction n with
  |zero=>rfl
  |succ n ih=>rw [List.replicate_succ,List.replicate_succ,ih];rfl
theorem Qb {F:List HP} {c:au} (hc:c.wf) (h:aB c=true):az prog 61 [c.val] [] F (fun r L'=>∃ b,r= .tuple [.pointer (some ⟨b,0,none⟩),.int .i64 0].toArray∧L'=[vF b c (List.replicate (c.ag*c.aZ).toNat 0)]):=by
  have hE:=fun F=>fT (F:=F) hc;simp only [cF,h,if_true] at hE;have hS:=fun F=>mn (F:=F) hc;simp only [eh,h,if_true] at hS;have hw:=dR h;have hm:=tL (m:=8) (n:=1024) (a:=c.ag) (b:=c.aZ) (om) (om) (om) (om) (om);simp only [Int.reduceMul] at hm;generalize hz:c.ag*c.aZ=z at hm hS ⊢;refine ay func61 ntmps61 ?_;repeat first|refine go ?_|intro _|refine KH ?_|refine av ?_|refine ae @hE ?_|refine ae @hS ?_
  (apply ad rfl rfl ar)
  ·exact ⟨_,rfl,rfl⟩
  ·rw [Mz];rename_i bc bs bm;refine xQ (g:=bs) (n:=z.toNat) (ms:=List.replicate z.toNat 0) (ai.cons (ai.cons (ai.drop ai.refl))) (by simp) rfl ?_;exact ⟨h,by simp [hz];omega,by simp;omega⟩
def RU (ms:List Int) (a:Int):Bool:=decide (0≤a∧a<ms.length)
def MA (ms:List Int) (a:Int):Int:=if RU ms a then ms.getD a.toNat 0 else 0
def LN (ms:List Int) (x:c5):Bool:=k8 x&& decide (x.addr<ms.length)
def MB (ms:List Int) (x:c5):Int:=if LN ms x then (if x.ah=4 then 0 else oN ms x.addr.toNat x) else 0
def MD (ms:List Int) (x:c5):List Int:=if LN ms x then (if x.ah=4 then ms else iV ms x.addr.toNat x) else ms
def eY (c:au) (aa:Int):Nat:=(aa*c.ag).toNat
def iH (c:au) (ms:List Int) (aa:Int):List Int:=(ms.drop (eY c aa)).take c.ag.toNat
def fj (c:au) (ms:List Int) (aa:Int):Words:=if fa c aa 0 then Words.of (iH c ms aa) else .zero
def uZ (c:au) (w:Words):Bool:=(w.list.drop c.ag.toNat).all fun n=>decide (n=0)
def ra (c:au) (aa:Int) (w:Words):Bool:=fa c aa 0&& uZ c w
def J3 (c:au) (aa:Int) (w:Words):Int:=if ra c aa w then 0 else 1
def En (c:au) (ms:List Int) (aa:Int) (w:Words):List Int:=if ra c aa w then ms.take (eY c aa)++w.list.take c.ag.toNat++ms.drop (eY c aa+c.ag.toNat) else ms
def nA (c:au) (x:c5):Bool:=fE c x.addr&& k8 x&& !decide (x.ah=4)
def vN (c:au) (w:Words) (x:c5):Words:=if nA c x then Words.of (iV w.list (nH c x.addr).toNat x) else .zero
def BM (c:au) (w:Words) (x:c5):Int:=if nA c x then oN w.list (nH c x.addr).toNat x else 0
def zI (c:au) (x:c5):Int:=if nA c x then 0 else 1
theorem sS (ms:List Int) (i:Nat) (x:c5):(iV ms i x).length=ms.length:=by unfold iV;split<;>simp
theorem C5 {x:c5} (h:k8 x=true):(x.ah=1∨x.ah=2∨x.ah=3∨x.ah=4)∧0≤x.addr∧x.addr≤8191:=by
  unfold k8 at h;split at h
  ·simp at h;omega
  ·split at h
   ·simp at h;omega
   ·split at h
    ·simp at h;omega
    ·cases h
theorem n5 {c:au} {aa:Int} {n:Nat} (h:fa c aa 0=true) (hn:(n:Int)=c.ag*c.aZ):aB c=true∧0≤aa∧aa<c.aZ∧1≤c.ag∧c.ag≤8∧0≤aa*c.ag∧aa*c.ag+c.ag≤n∧vZ c aa 0=aa*c.ag:=by
  have h0:=h;simp only [fa,Bool.and_eq_true,decide_eq_true_eq] at h;have hw:=dR h.1;have h1:=Int.mul_nonneg (a:=aa) (b:=c.ag) (om) (om);have h2:(aa+1)*c.ag≤c.aZ*c.ag:=Int.mul_le_mul_of_nonneg_right (om) (om);rw [Int.add_mul,Int.one_mul,Int.mul_comm c.aZ] at h2;exact ⟨h.1,h.2.1,h.2.2.1,om,om,h1,om,by simp [vZ,h0]⟩
theorem zn {F:List HP} {b:Nat} {c:au} {v:Value} {aa:Int} (hc:c.wf) (hl:dZ aa) (h:fa c aa 0=false) :
    az prog 251 [.pointer (some ⟨b,0,none⟩),.int .i64 aa] [ao b 277 (c.cells++[v])] F (fun r L'=>r= .slice none 0 0∧L'=[ao b 277 (c.cells++[v])]):=by
  have hJ:=fun F=>Bo (F:=F) (c:=c) (l:=aa) (w:=0) hc hl (by unfold dZ;omega);simp only [og,h,if_false,Bool.false_eq_true] at hJ;refine ay func251 ntmps251 ?_;repeat first|refine gd ?_|intro _|refine ae @hJ ?_
  exact aM
theorem Fs {F:List HP} {b g n:Nat} {c:au} {aa:Int} (hc:c.wf) (hl:dZ aa) (h:fa c aa 0=true) (hn:(n:Int)=c.ag*c.aZ) (hb:n≤8192) :
    az prog 251 [.pointer (some ⟨b,0,none⟩),.int .i64 aa] [ao b 277 (c.cells++[.slice (some ⟨g,0,none⟩) n n])] F
      (fun r L'=>r= .slice (some ⟨g,eY c aa,none⟩) c.ag.toNat (n-eY c aa)∧L'=[ao b 277 (c.cells++[.slice (some ⟨g,0,none⟩) n n])]):=by
  have hJ:=fun F=>Bo (F:=F) (c:=c) (l:=aa) (w:=0) hc hl (by unfold dZ;omega);obtain ⟨h1,h2,h3,h4,h5,h6,h7,h8⟩:=n5 h hn;simp only [og,h,if_true,h8] at hJ;generalize hz:aa*c.ag=z at *;have hf:eY c aa=z.toNat:=by unfold eY;rw [hz]
  rw [hf];refine ay func251 ntmps251 ?_;repeat first|refine gd ?_|intro _|refine ae @hJ ?_
  (apply ad rfl rfl ar)
  ·refine ⟨?_,rfl⟩;rw [nD (om)];have e1:(z+c.ag).toNat-z.toNat=c.ag.toNat:=by omega
   simp [e1]
  ·exact af
end
section
theorem Gs {l:List Int} (h:l.length≤8):(Words.of l).list=l++List.replicate (8-l.length) 0:=by
  match l,h with
  | [],_=>rfl
  | [a],_=>rfl
  | [a,b],_=>rfl
  | [a,b,c],_=>rfl
  | [a,b,c,d],_=>rfl
  | [a,b,c,d,e],_=>rfl
  | [a,b,c,d,e,f],_=>rfl
  | [a,b,c,d,e,f,g],_=>rfl
  | [a,b,c,d,e,f,g,i],_=>rfl
  |a::b::c::d::e::f::g::i::j::r,h=>exact absurd h (by simp)
theorem Qc (A L B:List Int) (i:Nat) (h:i<L.length) (v:Int):(A++(L++B)).set (A.length+i) v=A++(L.set i v++B):=by
  rw [List.set_append_right _ _ (om),Nat.add_sub_cancel_left,List.set_append_left _ _ h]
theorem Qd (A L B:List Int) (i:Nat) (h:i<L.length):(A++(L++B)).getD (A.length+i) 0=L.getD i 0:=by
  simp [List.getD_eq_getElem?_getD,List.getElem?_append_right,List.getElem?_append_left h]
theorem NE (L B:List Int) (i:Nat) (h:i<L.length):(L++B).getD i 0=L.getD i 0:=by
  simp [List.getD_eq_getElem?_getD,List.getElem?_append_left h]
theorem Bp (A L B:List Int) (i:Nat) (h:i<L.length) (x:c5):iV (A++(L++B)) (A.length+i) x=A++(iV L i x++B):=by
  unfold iV;split
  ·exact Qc A L B i h _
  ·rfl
theorem Ig {c:au} {ms:List Int} {x:c5} (hn:(ms.length:Int)=c.ag*c.aZ) (h:nA c x=true) :
    fa c (dS c x.addr) 0=true∧LN ms x=true∧x.ah≠4∧0≤nH c x.addr∧nH c x.addr<8∧(fj c ms (dS c x.addr)).list.getD (nH c x.addr).toNat 0=MA ms x.addr∧
    ra c (dS c x.addr) (vN c (fj c ms (dS c x.addr)) x)=true∧En c ms (dS c x.addr) (vN c (fj c ms (dS c x.addr)) x)=MD ms x∧BM c (fj c ms (dS c x.addr)) x=MB ms x:=by
  have h0:=h;simp only [nA,Bool.and_eq_true,Bool.not_eq_true',decide_eq_false_iff_not] at h;obtain ⟨⟨ha,hm⟩,h4⟩:=h;have Uw:=ha;simp only [fE,Bool.and_eq_true,decide_eq_true_eq] at ha;obtain ⟨rH,L4,O2⟩:=ha;have hw:=dR rH;have eL:dS c x.addr=x.addr / c.ag:=by simp [dS,Uw]
  have eW:nH c x.addr=x.addr % c.ag:=by simp [nH,Uw]
  have hq:=Int.ediv_mul_add_emod x.addr c.ag;have WZ:=Int.emod_nonneg x.addr (show c.ag≠0 by omega);have Yi:=Int.emod_lt_of_pos x.addr (show 0<c.ag by omega);rw [eL,eW];generalize x.addr / c.ag=q at *;generalize x.addr % c.ag=r at *;have hql:q<c.aZ:=by
    rcases Int.lt_or_le q c.aZ with h|h
    ·exact h
    ·have:=Int.mul_le_mul_of_nonneg_right h (show 0≤c.ag by omega);rw [Int.mul_comm c.aZ] at this;omega
  have Vp:0≤q:=by
    rcases Int.lt_or_le q 0 with h|h
    ·have:=Int.mul_le_mul_of_nonneg_right (show q≤ -1 by omega) (show 0≤c.ag by omega);omega
    ·exact h
  have hJ:fa c q 0=true:=by simp [fa,rH,Vp,hql];omega
  have hD:LN ms x=true:=by simp [LN,hm];omega
  obtain ⟨j1,j2,j3,j4,j5,j6,j7,j8⟩:=n5 hJ hn;have hfe:eY c q=(q*c.ag).toNat:=rfl;generalize hz:q*c.ag=z at *;have Yy:(ms.take (eY c q)).length=eY c q:=by rw [List.length_take];omega
  have YA:(iH c ms q).length=c.ag.toNat:=by unfold iH;simp;omega
  have Vq:ms=ms.take (eY c q)++(iH c ms q++ms.drop (eY c q+c.ag.toNat)):=by
    unfold iH;rw [←List.drop_drop,List.take_append_drop,List.take_append_drop]
  have Si:x.addr.toNat=(ms.take (eY c q)).length+r.toNat:=by omega
  have Vr:r.toNat<(iH c ms q).length:=by omega
  have Sj:(fj c ms q).list=iH c ms q++List.replicate (8-(iH c ms q).length) 0:=by simp only [fj,hJ,if_true];exact Gs (om)
  have BK:iV (fj c ms q).list r.toNat x=iV (iH c ms q) r.toNat x++List.replicate (8-(iH c ms q).length) 0:=by
    rw [Sj];have:=Bp [] (iH c ms q) (List.replicate (8-(iH c ms q).length) 0) r.toNat Vr x;simpa using this
  have YB:(vN c (fj c ms q) x).list=iV (iH c ms q) r.toNat x++List.replicate (8-(iH c ms q).length) 0:=by
    simp only [vN,h0,if_true,eW];rw [Words.Jd (by rw [sS];rfl),BK]
  have Pm:(fj c ms q).list.getD r.toNat 0=ms.getD x.addr.toNat 0:=by
    rw [Sj,NE _ _ _ Vr,Si];conv=>rhs;rw [Vq]
    have:=Qd (ms.take (eY c q)) (iH c ms q) (ms.drop (eY c q+c.ag.toNat)) r.toNat Vr;rw [←this];congr 2;rw [←Vq]
  have YC:ra c q (vN c (fj c ms q) x)=true:=by
    simp only [ra,hJ,Bool.true_and,uZ];rw [YB,List.drop_left' (by rw [sS];exact YA)];simp
  refine ⟨hJ,hD,h4,WZ,om,?_,YC,?_,?_⟩
  ·rw [Pm];simp [MA,RU,L4];intro h;omega
  ·simp only [En,YC,if_true];rw [YB,List.take_left' (by rw [sS];exact YA)];simp only [MD,hD,if_true,h4,if_false];rw [Si];conv=>rhs;rw [Vq]
   have:=Bp (ms.take (eY c q)) (iH c ms q) (ms.drop (eY c q+c.ag.toNat)) r.toNat Vr x;rw [List.append_assoc,←this];congr 2;rw [←Vq]
  ·simp only [BM,h0,if_true,eW,MB,hD,h4,if_false,oN,Pm]
end
section
attribute [local irreducible] Exit.then Exit.inBlock Code.wp WC WO WE WQ V aW dL Sat bz bK dU IntKind.wrap WR Code.rounds WT KO
abbrev mP:=oJ 332 203
theorem S8 {F:List HP} {ak:Int} (h:1≤ak∧ak≤16):az prog 139 [.int .i64 ak] [] F (fun r L'=>∃ b,r= .tuple [.pointer (some ⟨b,0,none⟩),.int .i64 0].toArray∧L'=[mP b ak []]):=by
  refine ay func139 ntmps139 ?_;repeat first|refine gd ?_|intro _
  (apply ad rfl rfl ar)
  ·exact ⟨_,rfl,rfl⟩
  ·exact ed (ps:=[]) (ai.cons (aI all_nil)) rfl rfl rfl (by simp;omega) h.2 (by simp)
theorem Jo {F:List HP} {b:Nat} {ak:Int} {l:List QE}:az prog 285 [.pointer (some ⟨b,0,none⟩)] [mP b ak l] F (fun r L'=>r= .int .i64 (ak-l.length)∧L'=[mP b ak l]):=by
  refine ay func285 ntmps285 ?_;refine jY fun p c ps hf=>?_;obtain ⟨rfl,h1,h2,h3,wG⟩:=hf;repeat first|refine gd ?_|intro _
  (apply ad rfl rfl ar)
  ·exact ⟨by rw [List.length_map];rfl,rfl⟩
  ·exact eb @ed
theorem xR {F:List HP} {b:Nat} {ak:Int} {l:List QE} {n:Int}:az prog 298 [.pointer (some ⟨b,0,none⟩),.int .i64 n] [mP b ak l] F (fun r L'=>r= .bool (rG l n)∧L'=[mP b ak l]):=by
  refine ay func298 ntmps298 ?_;refine jY fun p c ps hf=>?_;obtain ⟨rfl,h1,h2,h3,wG⟩:=hf;by_cases h:0≤n
  ·repeat first|refine gd ?_|intro _
   (apply ad rfl rfl ar)
   ·exact ⟨by simp [rG,h],rfl⟩
   ·exact eb @ed
  ·repeat first|refine gd ?_|intro _
   (apply ad rfl rfl ar)
   ·exact ⟨by simp [rG,h],rfl⟩
   ·exact eb @ed
theorem KI {F:List HP} {b:Nat} {aa:Int} {T:TypeId} {C:List Value→List HP} {e:QP} (k:bX b F T [.int .i64 aa] C) :
    az prog 300 [qv e,.pointer (some ⟨b,0,none⟩)] [] F (fun r L'=>r= .bool (decide (e.1.m.aa=aa))∧L'=[]):=by
  refine ay func300 ntmps300 ?_;repeat first|refine gd ?_|intro _
  exact aM
theorem Gt {F:List HP} {b:Nat} {aa:Int} {T:TypeId} {C:List Value→List HP} {v:Value} {l:List QP} (k1:bX b F T [.int .i64 aa] C) (k:bN F 17 v l.length (aj qc l)) (hn:l.length≤1099511627776) :
    az prog 299 [v,.func (.func 300) [].toArray [.pointer (some ⟨b,0,none⟩)].toArray] [] F (fun r L'=>r= .bool (decide (0≤bO (fun e:QP=>decide (e.1.m.aa=aa)) l))∧L'=[]):=by
  have hI:=tD (F:=F) (first:=[]) (cap:=[.pointer (some ⟨b,0,none⟩)]) (fk:=300) (p:=fun e=>decide (e.1.m.aa=aa)) k hn (fun x _=>KI k1);refine ay func299 ntmps299 ?_;repeat first|refine gd ?_|intro _|refine ae @hI ?_
  exact aM
theorem NF {ps:List QP} {n:Nat} {aa:Int}:tw (ps.map (·.1)) n aa=decide (bO (fun e:QP=>decide (e.1.m.aa=aa)) (ps.take n)<0):=by
  rcases Int.lt_or_le (bO (fun e:QP=>decide (e.1.m.aa=aa)) (ps.take n)) 0 with h|h
  ·obtain ⟨h1,h2⟩:=ix (p:=fun e:QP=>decide (e.1.m.aa=aa)) (l:=ps.take n) (om);have:tw (ps.map (·.1)) n aa=true:=by
     simp only [tw,←List.map_take,List.all_map,List.all_eq_true];intro x hx;have:=h2 x hx;simpa using this
   rw [this,je h]
  ·obtain ⟨i,hi,h1,h2,h3⟩:=fx h;have:tw (ps.map (·.1)) n aa=false:=by
     simp only [tw,←List.map_take,List.all_map,List.all_eq_false];exact ⟨_,List.getElem_mem hi,by simpa using h2⟩
   rw [this,jg (om)]
theorem AS {F:List HP} {b:Nat} {ak:Int} {l:List QE} {n:Int}:az prog 230 [.pointer (some ⟨b,0,none⟩),.int .i64 n] [mP b ak l] F (fun r L'=>r= .bool (fi l n)∧L'=[mP b ak l]):=by
  have hH:=fun F=>xR (F:=F) (b:=b) (ak:=ak) (l:=l) (n:=n);cases e:rG l n with
  |false=>
   rw [e] at hH;refine ay func230 ntmps230 ?_;repeat first|refine gd ?_|intro _|refine ae @hH ?_
   (apply ad rfl rfl ar)
   ·exact ⟨by simp [fi,e],rfl⟩
   ·exact af
  |true=>
   rw [e] at hH;obtain ⟨i,hi,rfl,ea⟩:=p6 e;refine ay func230 ntmps230 ?_;repeat first|refine go ?_|intro _|refine ae @hH ?_
   (first|refine aD (mP b ak l) ?_|refine aE (mP b ak l) ?_|refine aF (mP b ak l) ?_);refine kn fun p c ps hf=>?_;obtain ⟨rfl,h1,h2,h3,wG⟩:=hf;have pT:i<ps.length:=by simpa using hi
   have uG:(ps.map (·.1))[i]=ps[i].1:=by simp
   rw [uG] at ea;cases es:ps[i].1.st with
   |true=>
    repeat first|refine gd ?_|intro _
    (apply ad rfl rfl ar)
    ·exact ⟨by simp [fi,ea,es],rfl⟩
    ·exact eb @ed
   |false=>
    have BK:(ps.take i).length=i:=by rw [List.length_take];omega
    haveI kr:=fun L=>S6 (T:=203) (p:=p) (c:=c) (i:=i) (ps:=ps) (om) wG L;repeat first|refine gd ?_|intro _|refine ae @Gt ?_
    (apply ad rfl rfl ar)
    ·exact ⟨by simp [fi,ea,es,e,NF],rfl⟩
    ·exact eb @ed
theorem KJ {ps:List QP} {i:Nat} (hi:i<ps.length) (b:Bool):aV (aj qc ps) (i*17+15) [.bool b]=aj qc (ps.set i ((⟨ps[i].1.m,b,ps[i].1.aK⟩:QE),ps[i].2)):=
  eR (enc:=qc) (n:=17) (fun _=>rfl) ps i hi (j:=15) (cs:=[.bool b]) (x:=((⟨ps[i].1.m,b,ps[i].1.aK⟩:QE),ps[i].2)) (by simp) rfl
theorem C6 {ps:List QP} {i:Nat} (hi:i<ps.length) (s:List bA) (a:Option Addr) (c:Nat):aV (aj qc ps) (i*17+16) [.slice a s.length c]=aj qc (ps.set i ((⟨ps[i].1.m,ps[i].1.st,s⟩:QE),(a,c))):=
  eR (enc:=qc) (n:=17) (fun _=>rfl) ps i hi (j:=16) (cs:=[.slice a s.length c]) (x:=((⟨ps[i].1.m,ps[i].1.st,s⟩:QE),(a,c))) (by simp) rfl
theorem sT {Q P:Prop} (k:Q) (h:Hid Q→P:=by
  intro k
  first
  |(refine an ?_;refine bF (id:=5) .true (pl:= .p 0 <| .p 1 <| .p 2 <| .p 3 <| .r 4 <| .r 5 <| .p 6 <| .e true [(7,.e true [(8,.p 9 <| .p 10 <| .e false [(11,.done)])])]) k.out)):P:=h ⟨k⟩
theorem S9 {F:List HP} {b:Nat} {ak:Int} {l:List QE} {m:bA}:az prog 224 [.pointer (some ⟨b,0,none⟩),mv m] [mP b ak l] F (fun r L'=>r= .int .i64 (me ak l m)∧L'=[mP b ak (mf ak l m)]):=by
  refine ay func224 ntmps224 ?_;by_cases hk:m.ah<1∨m.ah>3
  ·have e:me ak l m=1:=by simp only [me,if_pos hk]
   have e2:mf ak l m=l:=by simp [mf,e]
   rw [e,e2];by_cases h1:m.ah<1
   ·repeat first|refine go ?_|intro _|refine sT ?_|refine av ?_
    exact aM
   ·repeat first|refine go ?_|intro _|refine sT ?_|refine av ?_
    exact aM
  ·by_cases hf:(l.length:Int)=ak
   ·have e:me ak l m=4:=by simp only [me,if_neg hk,if_pos hf]
    have e2:mf ak l m=l:=by simp [mf,e]
    rw [e,e2];repeat first|refine go ?_|intro _|refine sT ?_|refine av ?_|refine ae @Jo ?_
    exact aM
   ·have e:me ak l m=0:=by simp only [me,if_neg hk,if_neg hf]
    have e2:mf ak l m=l++[⟨m,false,[]⟩]:=by simp [mf,e]
    rw [e,e2];repeat first|refine go ?_|intro _|refine ae @Jo ?_
    (first|refine aD (mP b ak l) ?_|refine aE (mP b ak l) ?_|refine aF (mP b ak l) ?_);refine jY fun p c ps hf=>?_;obtain ⟨rfl,h1,h2,h3,wG⟩:=hf;repeat first|refine go ?_|intro _|refine sT ?_|refine av ?_
    (apply ad rfl rfl ar)
    ·exact ⟨rfl,rfl⟩
    ·rw [List.length_map] at hf;apply ed (ps:=ps++[((⟨m,false,[]⟩:QE),(none,0))])
     ·exact eb @Fm
     ·simp
     ·simp
     ·rw [aJ,bi];rfl
     ·simp;omega
     ·exact h2
     ·intro p hp;rcases List.mem_append.1 hp with h|h
      ·exact h3 p h
      ·rw [List.mem_singleton.1 h];simp
theorem Ft {l:List bA} {z:bA} (h:0<l.length):l.headD z=l[(0:Int).toNat]'h:=by
  cases l with
  |nil=>simp at h
  |cons a r=>rfl
theorem vu {α β:Type} (f:α→β) (l:List α) (i:Nat):(l.eraseIdx i).map f=(l.map f).eraseIdx i:=by
  induction l generalizing i with
  |nil=>rfl
  |cons a r ih=>cases i with
   |zero=>rfl
   |succ i=>simp [ih]
theorem xd {ps:List QP} {i:Nat} {x:QP}:(ps.set i x).map (·.1)=(ps.map (·.1)).set i x.1:=by rw [List.map_set]
theorem xe {ps:List QP} {i:Nat} {x:QP} (h3:∀ p∈ps,p.1.aK.length≤p.2.2∧p.1.aK.length≤1000) (hx:x.1.aK.length≤x.2.2∧x.1.aK.length≤1000):∀ p∈ps.set i x,p.1.aK.length≤p.2.2∧p.1.aK.length≤1000:=by
  intro p hp;rcases List.mem_or_eq_of_mem_set hp with h|h
  ·exact h3 p h
  ·rw [h];exact hx
theorem sU {Q P:Prop} (k:Q) (h:Hid Q→P:=by
  intro k
  first
  |(refine an ?_;refine bF (id:=5) .false (pl:= .p 0 <| .p 1 <| .p 2 <| .p 4 <| .p 5 <| .p 6 <| .p 7 <| .p 9 <| .p 10 <| .r 3 <| .r 8 <| .e true [(11,.p 12 <| .p 13 <| .e true [(14,.p 15 <| .p 16 <| .e false [(17,.done)])])]) k.out)):P:=h ⟨k⟩
theorem Fu {F:List HP} {b:Nat} {ak:Int} {l:List QE} {n:Int} {u:Value} {s:List bA} (k:bN F 15 u s.length (aj mc s)) (hs:s.length≤1000) :
    az prog 302 [.pointer (some ⟨b,0,none⟩),.int .i64 n,u] [mP b ak l] F (fun r L'=>r= .int .i64 (gC l n s)∧L'=[mP b ak (dO l n s)]):=by
  have hH:=fun F=>xR (F:=F) (b:=b) (ak:=ak) (l:=l) (n:=n);have hR:=fun F=>AS (F:=F) (b:=b) (ak:=ak) (l:=l) (n:=n);cases e:rG l n with
  |false=>
   have e1:gC l n s=5:=by simp [gC,e]
   have e2:dO l n s=l:=by simp [dO,e1]
   rw [e1,e2];rw [e] at hH;refine ay func302 ntmps302 ?_;repeat first|refine go ?_|intro _|refine sU ?_|refine av ?_|refine ae @hH ?_
   exact aM
  |true=>
   rw [e] at hH;cases er:fi l n with
   |false=>
    have e1:gC l n s=7:=by simp [gC,e,er]
    have e2:dO l n s=l:=by simp [dO,e1]
    rw [e1,e2];rw [er] at hR;refine ay func302 ntmps302 ?_;repeat first|refine go ?_|intro _|refine sU ?_|refine av ?_|refine ae @hH ?_|refine ae @hR ?_
    exact aM
   |true=>
    rw [er] at hR;by_cases hz:s.length=0
    ·have e1:gC l n s=7:=by simp [gC,e,er,hz]
     have e2:dO l n s=l:=by simp [dO,e1]
     rw [e1,e2];refine ay func302 ntmps302 ?_;repeat first|refine go ?_|intro _|refine sU ?_|refine av ?_|refine ae @hH ?_|refine ae @hR ?_
     exact aM
    ·have e1:gC l n s=0:=by simp [gC,e,er,hz]
     obtain ⟨i,hi,rfl,ea⟩:=p6 e;have e2:dO l i s=l.set i { l[i] with st:=true,aK:=s}:=by simp [dO,e1,ea]
     rw [e1,e2];refine ay func302 ntmps302 ?_;repeat first|refine go ?_|intro _|refine ae @hH ?_|refine ae @hR ?_
     (first|refine aD (mP b ak l) ?_|refine aE (mP b ak l) ?_|refine aF (mP b ak l) ?_);refine jY fun p c ps hf=>?_;obtain ⟨rfl,h1,h2,h3,wG⟩:=hf;have pT:i<ps.length:=by simpa using hi
     (first|(refine aX (.slice p ps.length c) inferInstance (om) ?_;intro _)|(refine aY (.slice p ps.length c) inferInstance (om) ?_;intro _));repeat first|refine go ?_|intro _|refine sU ?_|refine av ?_|refine ae @tg ?_
     rename_i p' c';have sq:i<(ps.set i ((⟨ps[i].1.m,true,ps[i].1.aK⟩:QE),ps[i].2)).length:=by simpa using pT
     rw [KJ pT true,C6 sq];simp only [List.getElem_set_self,List.set_set];have wi:=fun L M=>@D1 ps i pT ((⟨ps[i].1.m,true,s⟩:QE),(p',c')) 159 L M;(first|refine aD (aT 159 15 (.slice p' s.length c') s.length (aj mc s)) ?_|refine aE (aT 159 15 (.slice p' s.length c') s.length (aj mc s)) ?_|refine aF (aT 159 15 (.slice p' s.length c') s.length (aj mc s)) ?_);refine C4 fun I3=>?_;(apply ad rfl rfl ar)
     ·exact ⟨rfl,rfl⟩
     ·apply ed (ps:=ps.set i ((⟨ps[i].1.m,true,s⟩:QE),(p',c')))
      ·exact eb @wi
      ·rw [xd];simp
      ·simp
      ·rfl
      ·simpa using h1
      ·exact h2
      ·exact xe h3 ⟨I3,hs⟩
theorem Qe {F:List HP} {b:Nat} {ak:Int} {l:List QE} {n:Int}:az prog 232 [.pointer (some ⟨b,0,none⟩),.int .i64 n] [mP b ak l] F (fun r L'=>r= .tuple [mv (fO l n),.bool (fN l n)].toArray∧L'=[mP b ak l]):=by
  have hH:=fun F=>xR (F:=F) (b:=b) (ak:=ak) (l:=l) (n:=n);cases e:rG l n with
  |false=>
   have e1:fN l n=false:=by simp [fN,e]
   rw [e] at hH;refine ay func232 ntmps232 ?_;repeat first|refine gd ?_|intro _|refine ae @hH ?_
   (apply ad rfl rfl ar)
   ·exact ⟨by simp [fO,e1,bA.zero,Words.zero],rfl⟩
   ·exact af
  |true=>
   rw [e] at hH;obtain ⟨i,hi,rfl,ea⟩:=p6 e;refine ay func232 ntmps232 ?_;repeat first|refine go ?_|intro _|refine ae @hH ?_
   (first|refine aD (mP b ak l) ?_|refine aE (mP b ak l) ?_|refine aF (mP b ak l) ?_);refine kn fun p c ps hf=>?_;obtain ⟨rfl,h1,h2,h3,wG⟩:=hf;have pT:i<ps.length:=by simpa using hi
   have uG:(ps.map (·.1))[i]=ps[i].1:=by simp
   rw [uG] at ea;by_cases hz:ps[i].1.aK.length=0
   ·have e1:fN (ps.map (·.1)) i=false:=by simp [fN,ea,hz]
    repeat first|refine gd ?_|intro _
    (apply ad rfl rfl ar)
    ·exact ⟨by simp [fO,e1,bA.zero,Words.zero],rfl⟩
    ·exact eb @ed
   ·have e1:fN (ps.map (·.1)) i=true:=by simp [fN,ea,hz,e]
    haveI kr:=fun L=>xP (ps:=ps) (p:=ps[i]) (List.getElem_mem pT) (L:=L);have hq:fO (ps.map (·.1)) i=ps[i].1.aK[Int.toNat 0]:=by simp only [fO,e1,if_true,ea];exact Ft (om)
    repeat first|refine gd ?_|intro _
    (apply ad rfl rfl ar)
    ·exact ⟨by rw [hq,e1];rfl,rfl⟩
    ·exact eb @ed
theorem Jp {F:List HP} {b:Nat} {ak:Int} {l:List QE} {n:Int}:az prog 234 [.pointer (some ⟨b,0,none⟩),.int .i64 n] [mP b ak l] F (fun r L'=>r= .int .i64 (kR l n)∧L'=[mP b ak (ig l n)]):=by
  have hH:=fun F=>xR (F:=F) (b:=b) (ak:=ak) (l:=l) (n:=n);cases e:rG l n with
  |false=>
   have e1:kR l n=5:=by simp [kR,e]
   have e2:ig l n=l:=by simp [ig,e1]
   rw [e1,e2];rw [e] at hH;refine ay func234 ntmps234 ?_;repeat first|refine gd ?_|intro _|refine ae @hH ?_
   exact aM
  |true=>
   rw [e] at hH;obtain ⟨i,hi,rfl,ea⟩:=p6 e;by_cases hz:l[i].aK.length=0
   ·have e1:kR l i=7:=by simp [kR,e,ea,hz]
    have e2:ig l i=l:=by simp [ig,e1]
    rw [e1,e2];refine ay func234 ntmps234 ?_;repeat first|refine go ?_|intro _|refine ae @hH ?_
    (first|refine aD (mP b ak l) ?_|refine aE (mP b ak l) ?_|refine aF (mP b ak l) ?_);refine kn fun p c ps hf=>?_;obtain ⟨rfl,h1,h2,h3,wG⟩:=hf;have pT:i<ps.length:=by simpa using hi
    rw [List.getElem_map] at hz;repeat first|refine gd ?_|intro _
    (apply ad rfl rfl ar)
    ·exact ⟨rfl,rfl⟩
    ·exact eb @ed
   ·have e1:kR l i=0:=by simp [kR,e,ea,hz]
    have e2:ig l i=if l[i].aK.length=1∧l[i].m.ah=3 then l.eraseIdx i else l.set i { l[i] with aK:=l[i].aK.drop 1}:=by simp [ig,e1,ea]
    rw [e1,e2];refine ay func234 ntmps234 ?_;repeat first|refine go ?_|intro _|refine ae @hH ?_
    (first|refine aD (mP b ak l) ?_|refine aE (mP b ak l) ?_|refine aF (mP b ak l) ?_);refine kn fun p c ps hf=>?_;obtain ⟨rfl,h1,h2,h3,wG⟩:=hf;have pT:i<ps.length:=by simpa using hi
    rw [List.getElem_map] at hz ⊢;have zJ:=h3 _ (List.getElem_mem pT);have hx:cut (.slice ps[i].2.1 ps[i].1.aK.length ps[i].2.2) (Int.toNat 1) ps[i].1.aK.length ps[i].1.aK.length 15= .slice (if ps[i].1.aK.length=1 then ps[i].2.1 else ps[i].2.1.map (·.add (1*15))) (ps[i].1.aK.drop 1).length (ps[i].1.aK.length-1):=by
      rw [List.length_drop];rfl
    have OV:=C6 pT (ps[i].1.aK.drop 1) (if ps[i].1.aK.length=1 then ps[i].2.1 else ps[i].2.1.map (·.add (1*15))) (ps[i].1.aK.length-1);have BK:=fun L M=>@NA ps i pT ((⟨ps[i].1.m,ps[i].1.st,ps[i].1.aK.drop 1⟩:QE),(if ps[i].1.aK.length=1 then ps[i].2.1 else ps[i].2.1.map (·.add (1*15)),ps[i].1.aK.length-1)) L M (om) zJ.1 rfl hx.symm;(first|(refine aX (.slice p ps.length c) inferInstance (om) ?_;intro _)|(refine aY (.slice p ps.length c) inferInstance (om) ?_;intro _));repeat first|refine gd ?_|intro _
    refine xG (DS rfl (Ak.some rfl (om)) (DR rfl) (DR rfl) (fun h=>h) (om) (om) (om)) rfl ?_;rw [hx];repeat first|refine gd ?_|intro _
    rw [OV];generalize hX:(⟨ps[i].1.m,ps[i].1.st,ps[i].1.aK.drop 1⟩:QE)=X at BK ⊢;generalize hY:((if ps[i].1.aK.length=1 then ps[i].2.1 else ps[i].2.1.map (·.add (1*15)),ps[i].1.aK.length-1):Option Addr×Nat)=Y at BK ⊢;have sq:i<(ps.set i (X,Y)).length:=by simpa using pT
    have J2:(ps.set i (X,Y))[i].1.m.ah=ps[i].1.m.ah:=by simp [←hX]
    have Vs:(ps.set i (X,Y)).length=ps.length:=by simp
    have Sa:=xe (i:=i) (x:=(X,Y)) h3 (by rw [←hX,←hY];simp;omega);by_cases hd:ps[i].1.aK.length=1∧ps[i].1.m.ah=3
    ·obtain ⟨PA,Vt⟩:=hd;have Vu:(ps.set i (X,Y))[i].1.m.ah=3:=by rw [J2];exact Vt
     rw [if_pos (show ps[i].1.aK.length=1∧ps[i].1.m.ah=3 from ⟨PA,Vt⟩)];repeat first|refine gd ?_|intro _
     refine ae (@xu (i:=i) (j:=i+1)) ?_;repeat first|refine gd ?_|intro _
     (apply ad rfl rfl ar)
     ·exact ⟨rfl,rfl⟩
     ·apply ed (ps:=(ps.set i (X,Y)).eraseIdx i)
      ·rw [List.eraseIdx_set_eq];exact eb @D2
      ·rw [List.eraseIdx_set_eq,vu]
      ·rw [List.length_eraseIdx,Vs];split<;>omega
      ·rw [iY (enc:=qc) (n:=17) (fun _=>rfl),gn (enc:=qc) (n:=17) (fun _=>rfl)];simp [List.eraseIdx_eq_take_drop_succ]
      ·rw [List.length_eraseIdx,Vs];split<;>omega
      ·exact h2
      ·exact fun p hp=>Sa p (List.mem_of_mem_eraseIdx hp)
    ·rw [if_neg hd];have U1:∀ {L M:List HP} {p:Option Addr} {c:Nat},ai L (ao b 332 [.int .i64 ak,.slice p ps.length c]::aT 203 17 (.slice p ps.length c) ps.length (aj qc (ps.set i (X,Y)))::bZ ((ps.set i (X,Y)).map nr)::M)→ai L (mP b ak ((ps.map (·.1)).set i X)::M):=fun h=>
       ed (ps:=ps.set i (X,Y)) h (by rw [xd]) (by rw [Vs]) rfl (by rw [Vs];exact h1) h2 Sa
     by_cases PA:ps[i].1.aK.length=1
     ·have Vu:(ps.set i (X,Y))[i].1.m.ah≠3:=by rw [J2];exact fun h=>hd ⟨PA,h⟩
      repeat first|refine gd ?_|intro _
      (apply ad rfl rfl ar)
      ·exact ⟨rfl,rfl⟩
      ·((repeat (first|(with_reducible exact ai.refl)|exact ai.nil|(apply iX;exact G4)|(apply U1)|(apply BK)|apply ai.drop));all_goals exact bu)
     ·repeat first|refine gd ?_|intro _
      (apply ad rfl rfl ar)
      ·exact ⟨rfl,rfl⟩
      ·((repeat (first|(with_reducible exact ai.refl)|exact ai.nil|(apply iX;exact G4)|(apply U1)|(apply BK)|apply ai.drop));all_goals exact bu)
theorem KK {α β:Type} (f:α→β) (p:β→Bool) (l:List α):bO p (l.map f)=bO (fun x=>p (f x)) l:=by
  unfold bO;rw [List.findIdx?_map];rfl
theorem Ih {F:List HP} {b1 b2:Nat} {aa src:Int} {T1 T2:TypeId} {C1 C2:List Value→List HP} {e:QP} (k1:bX b1 F T1 [.int .i64 aa] C1) (k2:bX b2 F T2 [.int .i64 src] C2) :
    az prog 295 [qv e,.pointer (some ⟨b1,0,none⟩),.pointer (some ⟨b2,0,none⟩)] [] F (fun r L'=>r= .bool (iQ aa src e.1)∧L'=[]):=by
  refine ay func295 ntmps295 ?_;cases h1:e.1.st with
  |false=>
   repeat first|refine gd ?_|intro _
   (apply ad rfl rfl ar;(first|exact cS|exact ⟨by simp [iQ,h1]<;>omega,rfl⟩);exact bM)
  |true=>
   by_cases h2:e.1.m.aa=aa
   ·by_cases h3:e.1.m.src=src
    ·by_cases h4:e.1.m.ah=3
     ·repeat first|refine gd ?_|intro _
      (apply ad rfl rfl ar;(first|exact cS|exact ⟨by simp [iQ,h1,h2,h3,h4]<;>omega,rfl⟩);exact bM)
     ·repeat first|refine gd ?_|intro _
      (apply ad rfl rfl ar;(first|exact cS|exact ⟨by simp [iQ,h1,h2,h3,h4]<;>omega,rfl⟩);exact bM)
    ·repeat first|refine gd ?_|intro _
     (apply ad rfl rfl ar;(first|exact cS|exact ⟨by simp [iQ,h1,h2,h3]<;>omega,rfl⟩);exact bM)
   ·repeat first|refine gd ?_|intro _
    (apply ad rfl rfl ar;(first|exact cS|exact ⟨by simp [iQ,h1,h2]<;>omega,rfl⟩);exact bM)
theorem Jq {F:List HP} {b1 b2:Nat} {aa src:Int} {T1 T2:TypeId} {C1 C2:List Value→List HP} {v:Value} {l:List QP} (k1:bX b1 F T1 [.int .i64 aa] C1) (k2:bX b2 F T2 [.int .i64 src] C2) (k:bN F 17 v l.length (aj qc l)) (hn:l.length≤1099511627776) :
    az prog 294 [v,.func (.func 295) [].toArray [.pointer (some ⟨b1,0,none⟩),.pointer (some ⟨b2,0,none⟩)].toArray] [] F (fun r L'=>r= .int .i64 (bO (iQ aa src) (l.map (·.1)))∧L'=[]):=by
  rw [KK];exact tD (first:=[]) (p:=fun e=>iQ aa src e.1) k hn (fun x _=>Ih k1 k2)
theorem C7 {F:List HP} {b:Nat} {ak:Int} {l:List QE} {aa src:Int}:az prog 227 [.pointer (some ⟨b,0,none⟩),.int .i64 aa,.int .i64 src] [mP b ak l] F (fun r L'=>r= .int .i64 (rj l aa src)∧L'=[mP b ak (n9 l aa src)]):=by
  refine ay func227 ntmps227 ?_;refine jY fun p c ps hf=>?_;obtain ⟨rfl,h1,h2,h3,wG⟩:=hf;by_cases h:bO (iQ aa src) (ps.map (·.1))<0
  ·have e1:rj (ps.map (·.1)) aa src=7:=by simp [rj,h]
   have e2:n9 (ps.map (·.1)) aa src=ps.map (·.1):=by simp [n9,h]
   rw [e1,e2];repeat first|refine gd ?_|intro _|refine ae @Jq ?_
   (apply ad rfl rfl ar)
   ·exact ⟨rfl,rfl⟩
   ·exact eb @ed
  ·have e1:rj (ps.map (·.1)) aa src=0:=by simp [rj,h]
   have e2:n9 (ps.map (·.1)) aa src=(ps.map (·.1)).eraseIdx (bO (iQ aa src) (ps.map (·.1))).toNat:=by simp [n9,h]
   rw [e1,e2];obtain ⟨i,hi,g1,g2,g3⟩:=fx (p:=iQ aa src) (l:=ps.map (·.1)) (om);have pT:i<ps.length:=by simpa using hi
   have hI:=fun F b1 b2 v T1 T2 C1 C2=>Jq (F:=F) (b1:=b1) (b2:=b2) (v:=v) (T1:=T1) (T2:=T2) (C1:=C1) (C2:=C2) (aa:=aa) (src:=src) (l:=ps);simp only [g1] at hI;rw [g1];repeat first|refine gd ?_|intro _|refine ae @hI ?_
   refine ae (@xu (i:=i) (j:=i+1)) ?_;repeat first|refine gd ?_|intro _
   (apply ad rfl rfl ar)
   ·exact ⟨rfl,rfl⟩
   ·apply ed (ps:=ps.eraseIdx i)
    ·exact eb @D2
    ·rw [vu];simp
    ·rw [List.length_eraseIdx];split<;>omega
    ·rw [iY (enc:=qc) (n:=17) (fun _=>rfl),gn (enc:=qc) (n:=17) (fun _=>rfl)];simp [List.eraseIdx_eq_take_drop_succ]
    ·rw [List.length_eraseIdx];split<;>omega
    ·exact h2
    ·exact fun p hp=>h3 p (List.mem_of_mem_eraseIdx hp)
end
section
def J4 (e:TypeId) (v:Value) (l:List QE):HP:=Ex fun qs:List QP=>[aT e 17 v qs.length (aj qc qs),bZ (qs.map nr),ja (qs.map (·.1)=l)]
section
variable {e:TypeId} {v:Value} {l:List QE}
theorem V4 {qs:List QP} {n:Nat} {xs:List Value} {L M:List HP} (h:ai L (aT e 17 v n xs::bZ (qs.map nr)::M)) (hl:qs.map (·.1)=l) (hn:n=qs.length) (hx:xs=aj qc qs):ai L (J4 e v l::M):=by
  subst hn hx;refine ai.trans h (ai.trans ?_ (fU (p:=fun qs:List QP=>[aT e 17 v qs.length (aj qc qs),bZ (qs.map nr),ja (qs.map (·.1)=l)]) qs));exact ai.cons (ai.cons (cX hl))
theorem ME {L:List HP} {w:World} (h:Sat (J4 e v l::L) w):∃ qs:List QP,qs.map (·.1)=l∧Sat (aT e 17 v qs.length (aj qc qs)::bZ (qs.map nr)::L) w:=by
  obtain ⟨qs,hx⟩:=eN h;simp only [eX] at hx;have hf:=fc (aG (aG hx));exact ⟨qs,hf,(ai.cons (ai.cons (ai.drop ai.refl))) _ hx⟩
variable {P:Program} {N:Nat} {env:Env} {L:List HP} {Q:Exit→Act→World→Prop}
theorem Qf {c:Code} (h:∀ qs:List QP,qs.map (·.1)=l→WC P N c env (aT e 17 v qs.length (aj qc qs)::bZ (qs.map nr)::L) Q):WC P N c env (J4 e v l::L) Q:=by
  intro a w ha hw;obtain ⟨qs,hf,hx⟩:=ME hw;exact h qs hf a w ha hx
theorem NG {all:Array Oper} {c:List Oper} (h:∀ qs:List QP,qs.map (·.1)=l→WO P N all c env (aT e 17 v qs.length (aj qc qs)::bZ (qs.map nr)::L) Q):WO P N all c env (J4 e v l::L) Q:=by
  intro a w ha hw;obtain ⟨qs,hf,hx⟩:=ME hw;exact h qs hf a w ha hx
end
theorem NH {qs:List QP} {x:QP} {T:TypeId} {L M:List HP} (h:ai L (aT T 15 (.slice x.2.1 x.1.aK.length x.2.2) x.1.aK.length (aj mc x.1.aK)::bZ (qs.map nr)::M)):ai L (bZ ((qs++[x]).map nr)::M):=
  ai.trans h (ai.trans zY (o7 (f:=nr) x))
attribute [local irreducible] Exit.then Exit.inBlock Code.wp WC WO WE WQ V aW dL Sat bz bK dU IntKind.wrap WR Code.rounds WT KO
theorem C8 {F:List HP} {p:QP} (k:bN F 15 (.slice p.2.1 p.1.aK.length p.2.2) p.1.aK.length (aj mc p.1.aK)) (hn:p.1.aK.length≤1099511627776) :
    az prog 276 [qv p] [] F (fun r L'=>∃ a c,r=qv (p.1,(a,c))∧L'=[aT 159 15 (.slice a p.1.aK.length c) p.1.aK.length (aj mc p.1.aK)]):=by
  refine ay func276 ntmps276 ?_;repeat first|refine gd ?_|intro _|refine ae @tg ?_
  rename_i a' c';(apply ad rfl rfl ar)
  ·exact ⟨a',c',rfl,rfl⟩
  ·exact af
theorem MF {F:List HP} {b:Nat} {ak:Int} {l:List QE} {n:Int} (h:rG l n=true) (hn:(ss l n).aK.length≤1099511627776):az prog 229 [.pointer (some ⟨b,0,none⟩),.int .i64 n] [mP b ak l] F
    (fun r L'=>∃ a c,r= .tuple [qv (ss l n,(a,c)),.bool true].toArray∧L'=[aT 159 15 (.slice a (ss l n).aK.length c) (ss l n).aK.length (aj mc (ss l n).aK),mP b ak l]):=by
  have hH:=fun F=>xR (F:=F) (b:=b) (ak:=ak) (l:=l) (n:=n);rw [h] at hH;obtain ⟨i,hi,rfl,ea⟩:=p6 h;rw [ea] at hn ⊢;refine ay func229 ntmps229 ?_;repeat first|refine go ?_|intro _|refine ae @hH ?_
  (first|refine aD (mP b ak l) ?_|refine aE (mP b ak l) ?_|refine aF (mP b ak l) ?_);refine kn fun p c ps hf=>?_;obtain ⟨rfl,h1,h2,h3,wG⟩:=hf;have pT:i<ps.length:=by simpa using hi
  rw [List.getElem_map] at hn ⊢;haveI kr:=fun L=>xP (ps:=ps) (p:=ps[i]) (List.getElem_mem pT) (L:=L);have hb:=(h3 _ (List.getElem_mem pT)).2;repeat first|refine gd ?_|intro _|refine ae @C8 ?_
  (apply ad rfl rfl ar)
  ·exact ⟨_,_,rfl,rfl⟩
  ·exact eb @ed
theorem KL {F:List HP} {b:Nat} {ak:Int} {l:List QE} {n:Int} (h:rG l n=false):az prog 229 [.pointer (some ⟨b,0,none⟩),.int .i64 n] [mP b ak l] F
    (fun r L'=>r= .tuple [qv ((⟨.zero,false,[]⟩:QE),(none,0)),.bool false].toArray∧L'=[mP b ak l]):=by
  have hH:=fun F=>xR (F:=F) (b:=b) (ak:=ak) (l:=l) (n:=n);rw [h] at hH;refine ay func229 ntmps229 ?_;repeat first|refine gd ?_|intro _|refine ae @hH ?_
  exact aM
theorem Qg {F:List HP} {b:Nat} {ak:Int} {l:List QE}:az prog 206 [.pointer (some ⟨b,0,none⟩)] [mP b ak l] F (fun r L'=>∃ p c,r= .slice p l.length c∧L'=[J4 203 (.slice p l.length c) l,mP b ak l]):=by
  refine ay func206 ntmps206 ?_;refine jY fun p c ps hf=>?_;obtain ⟨rfl,h1,h2,h3,wG⟩:=hf;repeat first|refine gd ?_|intro _
  apply aO (E0:=[(9,_),(10,_)]) (fun E0 (q:Nat×Option Addr×Nat×List QP)=>(11,.int .i64 q.1)::(3,.slice q.2.1 q.2.2.2.length q.2.2.1)::E0)
    (fun q=>aT 203 17 (.slice q.2.1 q.2.2.2.length q.2.2.1) q.2.2.2.length (aj qc q.2.2.2)::bZ (q.2.2.2.map nr)::ao b 332 [.int .i64 ak,.slice p ps.length c]::aT 203 17 (.slice p ps.length c) ps.length (aj qc ps)::bZ (ps.map nr)::F)
    (fun q=>q.1≤ps.length∧q.2.2.2.map (·.1)=(ps.take q.1).map (·.1)) (fun q=>ps.length-q.1) (0,none,0,[])
  ·exact bH
  ·exact ⟨Nat.zero_le _,by simp⟩
  ·refine ai.trans ?_ (aI all_nil);exact af
  ·rintro ⟨i,p',c',qs⟩ ⟨hi,L5⟩;dsimp only at hi L5 ⊢;have Sk:qs.length=min i ps.length:=by have:=congrArg List.length L5;simpa using this
   by_cases bB:i<ps.length
   ·haveI kr:=fun L=>xP (ps:=ps) (p:=ps[i]) (List.getElem_mem bB) (L:=L);have hb:=(h3 _ (List.getElem_mem bB)).2;repeat first|refine gd ?_|intro _|refine ae @C8 ?_
    rename_i b1 a1 c1 b2 p2 c2;refine aC (i+1,p2,c2,qs++[(ps[i].1,(a1,c1))]) (by dsimp only;omega) ⟨by dsimp only;omega,?_⟩ ?_ ?_
    ·dsimp only;rw [List.map_append,L5,List.map_take,List.map_take,List.take_add_one];simp [bB]
    ·dsimp only;rw [List.length_append,List.length_singleton];exact bH
    ·dsimp only;rw [List.length_append,List.length_singleton,aJ,bi];exact eb @NH
   ·have kM:i=ps.length:=by omega
    subst kM;rw [List.take_length] at L5;have Sk:qs.length=ps.length:=by have:=congrArg List.length L5;simpa using this
    repeat first|refine gd ?_|intro _
    (apply ad rfl rfl ar)
    ·exact ⟨p',c',by rw [List.length_map,Sk];rfl,rfl⟩
    ·rw [List.length_map,←Sk];((repeat (first|(with_reducible exact ai.refl)|exact ai.nil|(apply iX;exact G4)|(apply V4)|(apply ed)|apply ai.drop));all_goals exact bu)
end
end Go.Sx
