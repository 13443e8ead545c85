/- CaR3, NetR: several of my texts as one. My own work. -/
import Derived.Test.YtjihlpjnebdiiabGreatZax
import Derived.Test.YtjihlpjnebdiiabGreatZaw
set_option linter.unusedVariables false
set_option linter.unusedSectionVars false
set_option linter.unusedSimpArgs false
set_option maxRecDepth 100000
set_option maxHeartbeats 4000000
namespace Go.Sx
open Go Go.Proofs Tryz
section
attribute [local irreducible] Exit.then Exit.inBlock Code.wp WC WO WE WQ V aW dL Sat bz bK dU IntKind.wrap WR Code.rounds WT KO
theorem rD {Q P:Prop} (k:Q) (h:Hid Q→P:=by
  intro k
  first
  |(refine an ?_;refine bF (id:=4) .true (pl:= .p 0 <| .p 1 <| .p 2 <| .p 7 <| .p 8 <| .p 9 <| .p 10 <| .p 11 <| .p 14 <| .r 3 <| .p 4 <| .p 5 <| .r 6 <| .r 12 <| .p 13 <| .p 15 <| .p 16 <| .r 17 <| .e true [(18,.e true [(19,.done)])]) k.out)
  |(refine an ?_;refine bF (id:=10) .true (pl:= .p 0 <| .p 1 <| .p 2 <| .p 4 <| .p 6 <| .r 3 <| .r 5 <| .e true [(7,.done)]) k.out)
  |(refine an ?_;refine bF (id:=14) .true (pl:= .p 0 <| .p 1 <| .p 2 <| .p 4 <| .p 6 <| .r 3 <| .r 5 <| .r 7 <| .e true [(8,.done)]) k.out)
  |(refine an ?_;refine bF (id:=15) .true (pl:= .p 0 <| .p 1 <| .p 2 <| .p 4 <| .p 6 <| .r 3 <| .r 5 <| .e true [(7,.done)]) k.out)
  |(refine an ?_;refine bF (id:=16) .true (pl:= .p 0 <| .p 2 <| .p 3 <| .p 4 <| .p 6 <| .p 8 <| .p 9 <| .p 10 <| .p 11 <| .p 14 <| .r 1 <| .r 5 <| .r 7 <| .r 12 <| .p 13 <| .r 15 <| .p 16 <| .e true [(17,.p 18 <| .p 19 <| .done)]) k.out)):P:=h ⟨k⟩
theorem jr {Q P:Prop} (k:Q) (h:Hid Q→P:=by
  intro k
  first
  |(refine an ?_;refine bF (id:=12) .true (pl:= .p 0 <| .p 1 <| .p 2 <| .p 8 <| .p 9 <| .p 10 <| .p 11 <| .r 3 <| .p 4 <| .p 5 <| .r 6 <| .p 7 <| .r 12 <| .p 13 <| .p 14 <| .p 15 <| .p 16 <| .p 17 <| .p 19 <| .r 18 <| .r 20 <| .e true [(21,.p 22 <| .p 23 <| .done)]) k.out)
  |(refine an ?_;refine bF (id:=4) .true (pl:= .p 0 <| .p 1 <| .p 2 <| .p 7 <| .p 8 <| .p 9 <| .p 10 <| .p 11 <| .p 14 <| .r 3 <| .p 4 <| .p 5 <| .r 6 <| .r 12 <| .p 13 <| .p 15 <| .p 16 <| .r 17 <| .e true [(18,.e true [(19,.done)])]) k.out)
  |(refine an ?_;refine bF (id:=10) .true (pl:= .p 0 <| .p 1 <| .p 2 <| .p 4 <| .p 6 <| .r 3 <| .r 5 <| .e true [(7,.done)]) k.out)
  |(refine an ?_;refine bF (id:=14) .true (pl:= .p 0 <| .p 1 <| .p 2 <| .p 4 <| .p 6 <| .r 3 <| .r 5 <| .r 7 <| .e true [(8,.done)]) k.out)
  |(refine an ?_;refine bF (id:=15) .true (pl:= .p 0 <| .p 1 <| .p 2 <| .p 4 <| .p 6 <| .r 3 <| .r 5 <| .e true [(7,.done)]) k.out)
  |(refine an ?_;refine bF (id:=16) .true (pl:= .p 0 <| .p 2 <| .p 3 <| .p 4 <| .p 6 <| .p 8 <| .p 9 <| .p 10 <| .p 11 <| .p 14 <| .r 1 <| .r 5 <| .r 7 <| .r 12 <| .p 13 <| .r 15 <| .p 16 <| .e true [(17,.p 18 <| .p 19 <| .done)]) k.out)):P:=h ⟨k⟩
theorem EK {F:List HP} {b a f e:Nat} {c:au} {ap s w:Int} {k:cT} (hc:aB c=true) (hI:cj c k.al) (uG:∀ x∈k.al,0≤x.st) :
    az prog 183 [.pointer (some ⟨b,0,none⟩),.int .i64 s,.int .i64 w] (kU b a f e c ap k) F
      (fun r L'=>r= .tuple [mv (jT c ap k s w),.bool (iI c k s w),.int .i64 (jH c k s w)].toArray∧L'=kU b a f e c ap (gr c k s w)):=by
  have dC:∀ x:Int,x≠0→jH c k s w=x→iI c k s w=false∧jT c ap k s w= .zero∧gr c k s w=k:=fun x hx h=>by
    have h1:iI c k s w=false:=by unfold iI;rw [h];simp [hx]
    refine ⟨h1,?_,?_⟩
    ·unfold jT;rw [h1];rfl
    ·unfold gr;rw [if_neg (om)]
  cases h1:ng c s w with
  |false=>
   have e1:jH c k s w=5:=if_pos (.inl h1);obtain ⟨e2,e3,e4⟩:=dC _ (om) e1;rw [e1,e2,e3,e4];simp only [ng,decide_eq_false_iff_not] at h1;refine ay func183 ntmps183 ?_;by_cases g1:s<0
   ·repeat first|refine go ?_|intro _|refine rD ?_|refine av ?_
    exact aM
   ·by_cases g2:s≥c.cl
    ·repeat first|refine go ?_|intro _|refine rD ?_|refine av ?_
     exact aM
    ·by_cases g3:w<0
     ·repeat first|refine go ?_|intro _|refine rD ?_|refine av ?_
      exact aM
     ·have g4:w≥c.al:=by omega
      repeat first|refine go ?_|intro _|refine rD ?_|refine av ?_
      exact aM
  |true=>
   have Vk:=h1;simp only [ng,decide_eq_true_eq] at Vk;obtain ⟨q0,q1,q2,q3⟩:=Vk;have n1:¬s<0:=by omega
   have n2:¬s≥c.cl:=by omega
   have n3:¬w<0:=by omega
   have n4:¬w≥c.al:=by omega
   refine ay func183 ntmps183 ?_;repeat first|rintro _ _ ⟨rfl,rfl⟩|refine Ps fun _=>?_|intro _|refine go ?_
   (first|refine aD (jh a c k.al) ?_|refine aE (jh a c k.al) ?_|refine aF (jh a c k.al) ?_);refine nV fun g hf=>?_;obtain ⟨_,hn,_⟩:=hf;obtain ⟨en,h4,h5,h6,h7,h8⟩:=jb hc hn;have hr:=xh (s:=s.toNat) (W:=c.al.toNat) (S:=c.cl.toNat) (om);have hz:s*c.al=((s.toNat*c.al.toNat:Nat):Int):=by rw [Int.natCast_mul,Int.toNat_of_nonneg q0,Int.toNat_of_nonneg (om)]
   have So:(s*c.al+w).toNat=s.toNat*c.al.toNat+w.toNat:=by omega
   have bB:s.toNat*c.al.toNat+w.toNat<k.al.length:=by omega
   have eW:iw c k.al s w=k.al[s.toNat*c.al.toNat+w.toNat]:=by unfold iw;rw [if_pos h1];exact (ia bB).symm
   haveI kr:=qZ (g:=g) (T:=190) (l:=k.al);(first|(refine aX (oT g (0*11) k.al.length k.al.length) inferInstance (om) ?_;intro _)|(refine aY (oT g (0*11) k.al.length k.al.length) inferInstance (om) ?_;intro _));repeat first|refine go ?_|intro _|refine jr ?_|refine av ?_
   simp only [So,←eW];((first|apply cy (L':=(jh a c k.al)::_)|apply cD (L':=(jh a c k.al)::_)|apply cE (L':=(jh a c k.al)::_)|apply cR (L':=(jh a c k.al)::_));(focus (apply fL;(focus (exact af));all_goals exact bu)));have YF:0≤(iw c k.al s w).st:=by rw [eW];exact uG _ (List.getElem_mem bB)
   clear kr;clear eW;by_cases h2:(iw c k.al s w).st=0
   ·have e1:jH c k s w=5:=if_pos (.inr h2);obtain ⟨e2,e3,e4⟩:=dC _ (om) e1;rw [e1,e2,e3,e4];repeat first|refine go ?_|intro _|refine jr ?_|refine av ?_
    exact aM
   ·have cO:=MS hI h2;have qL:jH c k s w=if (iw c k.al s w).lk=true then 6 else if 2≤(iw c k.al s w).st∧jV c.aw k.bD (iw c k.al s w).aa≠0 then 4 else 0:=if_neg (fun h=>h.elim (fun h=>by rw [h1] at h;cases h) h2);have j9:=fun F=>jO (F:=F) (b:=a) (c:=c) (l:=k.al) (aa:=(iw c k.al s w).aa) (st:=0) (w:= .zero);have IE:=fun F=>KU (F:=F) (b:=e) (ak:=c.aw) (l:=k.bD) (aa:=(iw c k.al s w).aa) (w:=(iw c k.al s w).ag);have hh:=yz hc;have ht:=D9 cO;generalize ex:iw c k.al s w=x at *;cases h3:x.lk with
    |true=>
     have e1:jH c k s w=6:=by rw [qL,if_pos h3]
     obtain ⟨e2,e3,e4⟩:=dC _ (om) e1;rw [e1,e2,e3,e4];repeat first|refine go ?_|intro _|refine jr ?_|refine av ?_
     exact aM
    |false=>
     rw [h3,if_neg Bool.false_ne_true] at qL;by_cases h9:x.st=1
     ·have O8:¬2≤x.st:=by omega
      have e1:jH c k s w=0:=by rw [qL,if_neg (fun h=>O8 h.1)]
      have e2:iI c k s w=false:=decide_eq_false (fun h=>O8 (ex▸h.2));have e3:jT c ap k s w= .zero:=by unfold jT;rw [e2];rfl
      have e4:gr c k s w=⟨db c k.al x.aa 0 .zero,k.aP,k.bD⟩:=by unfold gr;rw [if_pos e1,ex,if_neg O8]
      rw [e1,e2,e3,e4];repeat' (first|refine go ?_|intro _|refine jr ?_|refine av ?_|refine ae @j9 ?_|refine bj ?_ ?_|fail)
      all_goals exact aM
     ·have O8:2≤x.st:=by omega
      repeat first|rintro _ _ ⟨rfl,rfl⟩|refine Ps fun _=>?_|intro _|refine go ?_
      (first|refine aD (lj e c.aw k.bD) ?_|refine aE (lj e c.aw k.bD) ?_|refine aF (lj e c.aw k.bD) ?_);refine cC fun p q hl=>?_;have W7:=fun F=>gz (F:=F) (b:=e) (ak:=c.aw) (l:=k.bD) (aa:=x.aa) (p:=p) (c:=q) hl;by_cases Uu:(k.bD.length:Int)≥c.aw
      ·have e0:jV c.aw k.bD x.aa≠0:=by
         unfold jV;split
         ·decide
         ·rw [if_pos (om)];decide
       have e1:jH c k s w=4:=by rw [qL,if_pos ⟨O8,e0⟩]
       obtain ⟨e2,e3,e4⟩:=dC _ (om) e1;rw [e1,e2,e3,e4];repeat' (first|refine go ?_|intro _|refine jr ?_|refine av ?_|refine ae @W7 ?_|refine bj ?_ ?_|fail)
       all_goals ((first|apply cy (L':=(lj e c.aw k.bD)::_)|apply cD (L':=(lj e c.aw k.bD)::_)|apply cE (L':=(lj e c.aw k.bD)::_)|apply cR (L':=(lj e c.aw k.bD)::_));(focus (apply bC;(focus (exact af));all_goals exact bu)))
       all_goals exact aM
      ·cases qG:iP k.bD x.aa with
       |true=>
        have WU:0≤fz k.bD x.aa:=of_decide_eq_true qG;have e0:jV c.aw k.bD x.aa≠0:=by unfold jV;rw [qG,if_pos rfl];decide
        have e1:jH c k s w=4:=by rw [qL,if_pos ⟨O8,e0⟩]
        obtain ⟨e2,e3,e4⟩:=dC _ (om) e1;rw [e1,e2,e3,e4];repeat' (first|refine go ?_|intro _|refine jr ?_|refine av ?_|refine ae @W7 ?_|refine bj ?_ ?_|fail)
        all_goals ((first|apply cy (L':=(lj e c.aw k.bD)::_)|apply cD (L':=(lj e c.aw k.bD)::_)|apply cE (L':=(lj e c.aw k.bD)::_)|apply cR (L':=(lj e c.aw k.bD)::_));(focus (apply bC;(focus (exact af));all_goals exact bu)))
        all_goals exact aM
       |false=>
        have WU:¬0≤fz k.bD x.aa:=of_decide_eq_false qG;have e0:jV c.aw k.bD x.aa=0:=by unfold jV;rw [qG,if_neg Bool.false_ne_true,if_neg (om)]
        have e1:jH c k s w=0:=by rw [qL,if_neg (fun h=>h.2 e0)]
        have e2:iI c k s w=true:=decide_eq_true ⟨e1,ex▸O8⟩;have e3:jT c ap k s w=gj c ap 3 x.aa x.ag:=by unfold jT;rw [if_pos e2,ex]
        have e4:gr c k s w=⟨db c k.al x.aa 0 .zero,k.aP,kT c.aw k.bD x.aa x.ag⟩:=by unfold gr;rw [if_pos e1,ex,if_pos O8]
        rw [e1,e2,e3,e4];repeat' (first|refine go ?_|intro _|refine jr ?_|refine av ?_|refine ae @W7 ?_|refine bj ?_ ?_|fail)
        all_goals ((first|apply cy (L':=(lj e c.aw k.bD)::_)|apply cD (L':=(lj e c.aw k.bD)::_)|apply cE (L':=(lj e c.aw k.bD)::_)|apply cR (L':=(lj e c.aw k.bD)::_));(focus (apply bC;(focus (exact af));all_goals exact bu)))
        all_goals repeat' (first|refine go ?_|intro _|refine jr ?_|refine av ?_|refine ae @IE ?_|refine ae @j9 ?_|refine bj ?_ ?_|fail)
        all_goals rw [ht]
        all_goals exact aM
end
section
abbrev NQ:=(Option Addr×Nat)×(Option Addr×Nat)×(Option Addr×Nat)
abbrev nQ (c:au) (n:fK) (p0:Option Addr) (q0:Nat) (p1:Option Addr) (q1:Nat) (p2:Option Addr) (q2:Nat):List Value:=[.int .i64 c.ax,.int .i64 c.bY,.int .i64 c.cl,.int .i64 c.al,.int .i64 c.ag,.int .i64 c.aZ,.int .i64 c.ef,.int .i64 c.aS,.int .i64 c.aQ,.int .i64 c.aw,.int .i64 c.r0,.int .i64 c.r1,.int .i64 c.r2,.slice p0 n.l0.length q0,.slice p1 n.l1.length q1,.slice p2 n.l2.length q2]
def HC (T TM:TypeId) (b:Nat) (c:au) (n:fK):HP:=
  Ex fun q:NQ=>[ao b T (nQ c n q.1.1 q.1.2 q.2.1.1 q.2.1.2 q.2.2.1 q.2.2.2),aT TM 15 (.slice q.1.1 n.l0.length q.1.2) n.l0.length (aj mc n.l0),aT TM 15 (.slice q.2.1.1 n.l1.length q.2.1.2) n.l1.length (aj mc n.l1),aT TM 15 (.slice q.2.2.1 n.l2.length q.2.2.2) n.l2.length (aj mc n.l2),
   ja (aB c=true∧(n.l0.length:Int)≤c.r0∧(n.l1.length:Int)≤c.r1∧(n.l2.length:Int)≤c.r2)]
theorem X1 {c:au} {n:fK} {p0 p1 p2 p:Option Addr} {q0 q1 q2 k q:Nat}:aV (nQ c n p0 q0 p1 q1 p2 q2) (13+Int.toNat 0*1) (cellsOf (.slice p k q))=[.int .i64 c.ax,.int .i64 c.bY,.int .i64 c.cl,.int .i64 c.al,.int .i64 c.ag,.int .i64 c.aZ,.int .i64 c.ef,.int .i64 c.aS,.int .i64 c.aQ,.int .i64 c.aw,.int .i64 c.r0,.int .i64 c.r1,.int .i64 c.r2,.slice p k q,.slice p1 n.l1.length q1,.slice p2 n.l2.length q2]:=rfl
theorem X2 {c:au} {n:fK} {p0 p1 p2 p:Option Addr} {q0 q1 q2 k q:Nat}:aV (nQ c n p0 q0 p1 q1 p2 q2) (13+Int.toNat 1*1) (cellsOf (.slice p k q))=[.int .i64 c.ax,.int .i64 c.bY,.int .i64 c.cl,.int .i64 c.al,.int .i64 c.ag,.int .i64 c.aZ,.int .i64 c.ef,.int .i64 c.aS,.int .i64 c.aQ,.int .i64 c.aw,.int .i64 c.r0,.int .i64 c.r1,.int .i64 c.r2,.slice p0 n.l0.length q0,.slice p k q,.slice p2 n.l2.length q2]:=rfl
theorem X3 {c:au} {n:fK} {p0 p1 p2 p:Option Addr} {q0 q1 q2 k q:Nat}:aV (nQ c n p0 q0 p1 q1 p2 q2) (13+Int.toNat 2*1) (cellsOf (.slice p k q))=[.int .i64 c.ax,.int .i64 c.bY,.int .i64 c.cl,.int .i64 c.al,.int .i64 c.ag,.int .i64 c.aZ,.int .i64 c.ef,.int .i64 c.aS,.int .i64 c.aQ,.int .i64 c.aw,.int .i64 c.r0,.int .i64 c.r1,.int .i64 c.r2,.slice p0 n.l0.length q0,.slice p1 n.l1.length q1,.slice p k q]:=rfl
theorem dE {T TM:TypeId} {b:Nat} {c:au} {n:fK} {p0 p1 p2:Option Addr} {q0 q1 q2 k0 k1 k2:Nat} {x0 x1 x2:List Value} {L M:List HP}
    (h:ai L (ao b T [.int .i64 c.ax,.int .i64 c.bY,.int .i64 c.cl,.int .i64 c.al,.int .i64 c.ag,.int .i64 c.aZ,.int .i64 c.ef,.int .i64 c.aS,.int .i64 c.aQ,.int .i64 c.aw,.int .i64 c.r0,.int .i64 c.r1,.int .i64 c.r2,.slice p0 k0 q0,.slice p1 k1 q1,.slice p2 k2 q2]::aT TM 15 (.slice p0 k0 q0) k0 x0::aT TM 15 (.slice p1 k1 q1) k1 x1::aT TM 15 (.slice p2 k2 q2) k2 x2::M))
    (h0:k0=n.l0.length) (h1:k1=n.l1.length) (h2:k2=n.l2.length) (e0:x0=aj mc n.l0) (e1:x1=aj mc n.l1) (e2:x2=aj mc n.l2)
    (hc:aB c=true) (yJ:(n.l0.length:Int)≤c.r0) (wS:(n.l1.length:Int)≤c.r1) (qJ:(n.l2.length:Int)≤c.r2):ai L (HC T TM b c n::M):=by
  subst h0 h1 h2 e0 e1 e2
  refine ai.trans h (ai.trans ?_ (fU (p:=fun q:NQ=>[ao b T (nQ c n q.1.1 q.1.2 q.2.1.1 q.2.1.2 q.2.2.1 q.2.2.2),aT TM 15 (.slice q.1.1 n.l0.length q.1.2) n.l0.length (aj mc n.l0),aT TM 15 (.slice q.2.1.1 n.l1.length q.2.1.2) n.l1.length (aj mc n.l1),aT TM 15 (.slice q.2.2.1 n.l2.length q.2.2.2) n.l2.length (aj mc n.l2),
    ja (aB c=true∧(n.l0.length:Int)≤c.r0∧(n.l1.length:Int)≤c.r1∧(n.l2.length:Int)≤c.r2)]) ((p0,q0),(p1,q1),(p2,q2))))
  exact ai.cons (ai.cons (ai.cons (ai.cons (cX ⟨hc,yJ,wS,qJ⟩))))
theorem Ov {T TM:TypeId} {b:Nat} {c:au} {n:fK} {L:List HP} {w:World} (h:Sat (HC T TM b c n::L) w):∃ p0 q0 p1 q1 p2 q2,(aB c=true∧(n.l0.length:Int)≤c.r0∧(n.l1.length:Int)≤c.r1∧(n.l2.length:Int)≤c.r2)∧
    Sat (ao b T (nQ c n p0 q0 p1 q1 p2 q2)::aT TM 15 (.slice p0 n.l0.length q0) n.l0.length (aj mc n.l0)::aT TM 15 (.slice p1 n.l1.length q1) n.l1.length (aj mc n.l1)::aT TM 15 (.slice p2 n.l2.length q2) n.l2.length (aj mc n.l2)::L) w:=by
  obtain ⟨⟨⟨p0,q0⟩,⟨p1,q1⟩,⟨p2,q2⟩⟩,hx⟩:=eN h;simp only [eX] at hx;have hf:=fc (aG (aG (aG (aG hx))));exact ⟨p0,q0,p1,q1,p2,q2,hf,(ai.cons (ai.cons (ai.cons (ai.cons (ai.drop ai.refl))))) _ hx⟩
section
variable {T TM:TypeId} {b:Nat} {c:au} {n:fK} {P:Program} {N:Nat} {env:Env} {L:List HP} {Q:Exit→Act→World→Prop}
theorem mA {co:Code} (h:∀ p0 q0 p1 q1 p2 q2,(aB c=true∧(n.l0.length:Int)≤c.r0∧(n.l1.length:Int)≤c.r1∧(n.l2.length:Int)≤c.r2)→WC P N co env (ao b T (nQ c n p0 q0 p1 q1 p2 q2)::aT TM 15 (.slice p0 n.l0.length q0) n.l0.length (aj mc n.l0)::aT TM 15 (.slice p1 n.l1.length q1) n.l1.length (aj mc n.l1)::aT TM 15 (.slice p2 n.l2.length q2) n.l2.length (aj mc n.l2)::L) Q):WC P N co env (HC T TM b c n::L) Q:=by
  intro a w ha hw;obtain ⟨p0,q0,p1,q1,p2,q2,hf,hx⟩:=Ov hw;exact h p0 q0 p1 q1 p2 q2 hf a w ha hx
end
attribute [local irreducible] Exit.then Exit.inBlock Code.wp WC WO WE WQ V aW dL Sat bz bK dU IntKind.wrap WR Code.rounds WT KO
abbrev dk:=HC 82 159
theorem Ds {F:List HP} {c:au} (hw:c.wf) (hc:aB c=true):az prog 86 [c.val] [] F (fun r L'=>∃ b,r= .tuple [.pointer (some ⟨b,0,none⟩),.int .i64 0].toArray∧L'=[dk b c .no]):=by
  have hC:=fun F=>eC (F:=F) hw;simp only [cF,hc,if_true] at hC;have hr:(1≤c.r0∧c.r0≤4096)∧(1≤c.r1∧c.r1≤4096)∧(1≤c.r2∧c.r2≤4096):=by
    simp only [aB,eJ,Bool.and_eq_true,decide_eq_true_eq] at hc;omega
  refine ay func86 ntmps86 ?_;repeat first|refine gd ?_|intro _|refine ae @hC ?_
  (apply ad rfl rfl ar)
  ·exact ⟨_,rfl,rfl⟩
  ·refine dE (n:= .no) (ai.cons (aI (aI (aI (ai.drop ai.refl))))) rfl rfl rfl rfl rfl rfl hc ?_ ?_ ?_<;>(simp;omega)
theorem qq {F:List HP} {b:Nat} {c:au} {n:fK} {k:Int}:az prog 93 [.pointer (some ⟨b,0,none⟩),.int .i64 k] [dk b c n] F (fun r L'=>r= .int .i64 (c8 c n k)∧L'=[dk b c n]):=by
  refine ay func93 ntmps93 ?_;refine mA fun p0 q0 p1 q1 p2 q2 ⟨hc,yJ,wS,qJ⟩=>?_;obtain ⟨r0,r1,r2⟩:=ki hc;cases h:ma k with
  |true=>
   rcases kG h with rfl|rfl|rfl
   ·repeat first|refine gd ?_|intro _
    (apply ad rfl rfl ar)
    ·exact ⟨rfl,rfl⟩
    ·(apply dE;(focus (exact af));all_goals exact bu)
   ·repeat first|refine gd ?_|intro _
    (apply ad rfl rfl ar)
    ·exact ⟨rfl,rfl⟩
    ·(apply dE;(focus (exact af));all_goals exact bu)
   ·repeat first|refine gd ?_|intro _
    (apply ad rfl rfl ar)
    ·exact ⟨rfl,rfl⟩
    ·(apply dE;(focus (exact af));all_goals exact bu)
  |false=>
   have h':=h;simp only [ma,decide_eq_false_iff_not] at h';by_cases h0:k<0
   ·repeat first|refine gd ?_|intro _
    (apply ad rfl rfl ar)
    ·exact ⟨by simp [c8,AX h,mX h],rfl⟩
    ·(apply dE;(focus (exact af));all_goals exact bu)
   ·repeat first|refine gd ?_|intro _
    (apply ad rfl rfl ar)
    ·exact ⟨by simp [c8,AX h,mX h],rfl⟩
    ·(apply dE;(focus (exact af));all_goals exact bu)
theorem rX {F:List HP} {b:Nat} {c:au} {n:fK} {k i:Int}:az prog 184 [.pointer (some ⟨b,0,none⟩),.int .i64 k,.int .i64 i] [dk b c n] F (fun r L'=>r= .tuple [mv (bE n k i),.bool (gv n k i)].toArray∧L'=[dk b c n]):=by
  refine ay func184 ntmps184 ?_;refine mA fun p0 q0 p1 q1 p2 q2 ⟨hc,yJ,wS,qJ⟩=>?_;obtain ⟨r0,r1,r2⟩:=ki hc;cases h:ma k with
  |true=>
   rcases kG h with rfl|rfl|rfl
   ·cases e:qH n.l0 i with
    |true=>
     obtain ⟨h1,h2⟩:=qR.1 e;obtain ⟨i,rfl⟩:∃ j:Nat,i=j:=⟨i.toNat,om⟩;have hi:i<n.l0.length:=by omega
     have e1:bE n 0 i=n.l0[i]:=by show sQ .zero n.l0 i=_;simp [sQ,e,hi]
     have e2:gv n 0 i=true:=e;repeat first|refine gd ?_|intro _
     (apply ad rfl rfl ar)
     ·rw [e1,e2];exact ⟨rfl,rfl⟩
     ·(apply dE;(focus (exact af));all_goals exact bu)
    |false=>
     have e0:=wK.1 e;have e1:bE n 0 i= .zero:=by show sQ .zero n.l0 i=_;simp [sQ,e]
     have e2:gv n 0 i=false:=e;by_cases h0:i<0
     ·repeat first|refine gd ?_|intro _
      (apply ad rfl rfl ar)
      ·rw [e1,e2];exact ⟨rfl,rfl⟩
      ·(apply dE;(focus (exact af));all_goals exact bu)
     ·repeat first|refine gd ?_|intro _
      (apply ad rfl rfl ar)
      ·rw [e1,e2];exact ⟨rfl,rfl⟩
      ·(apply dE;(focus (exact af));all_goals exact bu)
   ·cases e:qH n.l1 i with
    |true=>
     obtain ⟨h1,h2⟩:=qR.1 e;obtain ⟨i,rfl⟩:∃ j:Nat,i=j:=⟨i.toNat,om⟩;have hi:i<n.l1.length:=by omega
     have e1:bE n 1 i=n.l1[i]:=by show sQ .zero n.l1 i=_;simp [sQ,e,hi]
     have e2:gv n 1 i=true:=e;repeat first|refine gd ?_|intro _
     (apply ad rfl rfl ar)
     ·rw [e1,e2];exact ⟨rfl,rfl⟩
     ·(apply dE;(focus (exact af));all_goals exact bu)
    |false=>
     have e0:=wK.1 e;have e1:bE n 1 i= .zero:=by show sQ .zero n.l1 i=_;simp [sQ,e]
     have e2:gv n 1 i=false:=e;by_cases h0:i<0
     ·repeat first|refine gd ?_|intro _
      (apply ad rfl rfl ar)
      ·rw [e1,e2];exact ⟨rfl,rfl⟩
      ·(apply dE;(focus (exact af));all_goals exact bu)
     ·repeat first|refine gd ?_|intro _
      (apply ad rfl rfl ar)
      ·rw [e1,e2];exact ⟨rfl,rfl⟩
      ·(apply dE;(focus (exact af));all_goals exact bu)
   ·cases e:qH n.l2 i with
    |true=>
     obtain ⟨h1,h2⟩:=qR.1 e;obtain ⟨i,rfl⟩:∃ j:Nat,i=j:=⟨i.toNat,om⟩;have hi:i<n.l2.length:=by omega
     have e1:bE n 2 i=n.l2[i]:=by show sQ .zero n.l2 i=_;simp [sQ,e,hi]
     have e2:gv n 2 i=true:=e;repeat first|refine gd ?_|intro _
     (apply ad rfl rfl ar)
     ·rw [e1,e2];exact ⟨rfl,rfl⟩
     ·(apply dE;(focus (exact af));all_goals exact bu)
    |false=>
     have e0:=wK.1 e;have e1:bE n 2 i= .zero:=by show sQ .zero n.l2 i=_;simp [sQ,e]
     have e2:gv n 2 i=false:=e;by_cases h0:i<0
     ·repeat first|refine gd ?_|intro _
      (apply ad rfl rfl ar)
      ·rw [e1,e2];exact ⟨rfl,rfl⟩
      ·(apply dE;(focus (exact af));all_goals exact bu)
     ·repeat first|refine gd ?_|intro _
      (apply ad rfl rfl ar)
      ·rw [e1,e2];exact ⟨rfl,rfl⟩
      ·(apply dE;(focus (exact af));all_goals exact bu)
  |false=>
   have h':=h;simp only [ma,decide_eq_false_iff_not] at h';have e1:bE n k i= .zero:=by simp [bE,mX h,sQ,qH]
   have e2:gv n k i=false:=by simp [gv,mX h,qH]
   by_cases h0:k<0
   ·repeat first|refine gd ?_|intro _
    (apply ad rfl rfl ar)
    ·rw [e1,e2];exact ⟨rfl,rfl⟩
    ·(apply dE;(focus (exact af));all_goals exact bu)
   ·repeat first|refine gd ?_|intro _
    (apply ad rfl rfl ar)
    ·rw [e1,e2];exact ⟨rfl,rfl⟩
    ·(apply dE;(focus (exact af));all_goals exact bu)
theorem s6 {F:List HP} {b:Nat} {c:au} {n:fK} {k i:Int}:az prog 186 [.pointer (some ⟨b,0,none⟩),.int .i64 k,.int .i64 i] [dk b c n] F (fun r L'=>r= .tuple [mv (bE n k i),.int .i64 (tO n k i)].toArray∧L'=[dk b c (cU n k i)]):=by
  have hA:=fun F=>rX (F:=F) (b:=b) (c:=c) (n:=n) (k:=k) (i:=i);refine ay func186 ntmps186 ?_;cases e0:gv n k i with
  |false=>
   have e1:tO n k i=5:=by have tQ:qH (dK n k) i=false:=e0;simp [tO,zO,tQ]
   have e3:bE n k i= .zero:=by have tQ:qH (dK n k) i=false:=e0;simp [bE,sQ,tQ]
   have e2:cU n k i=n:=by
     have tQ:qH (dK n k) i=false:=e0;unfold cU nG;rw [tQ];simp only [Bool.false_eq_true,if_false];cases h:ma k with
     |false=>exact JE h
     |true=>rcases kG h with rfl|rfl|rfl<;>rfl
   rw [e1,e2,e3];simp only [e0,e3] at hA;repeat first|refine gd ?_|intro _|refine ae @hA ?_
   (apply ad rfl rfl ar)
   ·exact ⟨rfl,rfl⟩
   ·exact af
  |true=>
   have tQ:qH (dK n k) i=true:=e0;have hh:ma k=true:=by
     cases h:ma k with
     |true=>rfl
     |false=>have:=qR.1 tQ;rw [mX h] at this;simp only [List.length_nil] at this;omega
   obtain ⟨g1,g2⟩:=qR.1 tQ;obtain ⟨j,rfl⟩:∃ j:Nat,i=j:=⟨i.toNat,om⟩;have e1:tO n k j=0:=by simp [tO,zO,tQ]
   simp only [e0] at hA;rw [e1];rcases kG hh with rfl|rfl|rfl
   ·have YP:(j:Int)<n.l0.length:=g2;have e3:bE n 0 j=n.l0[j]:=by show sQ .zero n.l0 j=_;have yU:qH n.l0 j=true:=tQ;simp [sQ,yU,show j<n.l0.length by omega]
    have e2:cU n 0 j=⟨n.l0.eraseIdx j,n.l1,n.l2⟩:=by have yU:qH n.l0 j=true:=tQ;simp [cU,jK,dK,nG,yU]
    rw [e2,e3];simp only [e3] at hA;repeat first|refine gd ?_|intro _|refine ae @hA ?_
    (first|refine aD (dk b c n) ?_|refine aE (dk b c n) ?_|refine aF (dk b c n) ?_);refine mA fun p0 q0 p1 q1 p2 q2 ⟨hc,yJ,wS,qJ⟩=>?_;obtain ⟨r0,r1,r2⟩:=ki hc;repeat first|refine gd ?_|intro _
    rename_i b6 b8 bo _
    apply aO (E0:=[(0,_),(1,_),(2,_),(6,_),(8,_)]) (fun E0 (q:Nat×Option Addr×Nat)=>(11,.int .i64 q.1)::(10,.slice q.2.1 ((n.l0.take q.1).eraseIdx j).length q.2.2)::E0)
      (fun q=>aT 159 15 (.slice q.2.1 ((n.l0.take q.1).eraseIdx j).length q.2.2) ((n.l0.take q.1).eraseIdx j).length (aj mc ((n.l0.take q.1).eraseIdx j))::ao b8 159 (mc n.l0[j])::ao b6 159 (mc .zero)::ao b 82 (nQ c n p0 q0 p1 q1 p2 q2)::aT 159 15 (.slice p0 n.l0.length q0) n.l0.length (aj mc n.l0)::aT 159 15 (.slice p1 n.l1.length q1) n.l1.length (aj mc n.l1)::aT 159 15 (.slice p2 n.l2.length q2) n.l2.length (aj mc n.l2)::F) (fun q=>q.1≤n.l0.length) (fun q=>n.l0.length-q.1) (0,some ⟨bo,0,none⟩,0)
    ·exact bH
    ·exact Nat.zero_le _
    ·dsimp only;simp only [List.take_zero,List.eraseIdx_nil,List.length_nil,lU];exact af
    ·rintro ⟨i,p',c'⟩ hi;dsimp only at hi ⊢;have hlen:=iu (n.l0.take i) j;rw [List.length_take] at hlen;by_cases bB:i<n.l0.length
     ·by_cases he:i=j
      ·repeat first|refine gd ?_|intro _
       refine aC (i+1,p',c') (by first|omega|(dsimp only;omega)) (by first|omega|(dsimp only;omega)) ?_ ?_
       ·dsimp only;rw [cd n.l0 j i bB,if_pos he];exact bH
       ·dsimp only;rw [cd n.l0 j i bB,if_pos he];exact ai.refl
      ·repeat first|refine gd ?_|intro _
       rename_i UH UI;refine aC (i+1,UH,UI) (by first|omega|(dsimp only;omega)) (by first|omega|(dsimp only;omega)) ?_ ?_
       ·dsimp only;rw [cd n.l0 j i bB,if_neg he];rw [List.length_append,List.length_singleton];exact bH
       ·dsimp only;rw [cd n.l0 j i bB,if_neg he];rw [List.length_append,List.length_singleton,aJ,bi];exact af
     ·have kM:i=n.l0.length:=by omega
      subst kM;rw [List.take_length];repeat first|refine gd ?_|intro _
      have hlen:=iu n.l0 j;(apply ad rfl rfl ar)
      ·exact ⟨rfl,rfl⟩
      ·change ai (_::_::_::ao b 82 [.int .i64 c.ax,.int .i64 c.bY,.int .i64 c.cl,.int .i64 c.al,.int .i64 c.ag,.int .i64 c.aZ,.int .i64 c.ef,.int .i64 c.aS,.int .i64 c.aQ,.int .i64 c.aw,.int .i64 c.r0,.int .i64 c.r1,.int .i64 c.r2,.slice p' (n.l0.eraseIdx j).length c',.slice p1 n.l1.length q1,.slice p2 n.l2.length q2]::_) _;(apply dE;(focus (exact af));all_goals exact bu)
   ·have YP:(j:Int)<n.l1.length:=g2;have e3:bE n 1 j=n.l1[j]:=by show sQ .zero n.l1 j=_;have yU:qH n.l1 j=true:=tQ;simp [sQ,yU,show j<n.l1.length by omega]
    have e2:cU n 1 j=⟨n.l0,n.l1.eraseIdx j,n.l2⟩:=by have yU:qH n.l1 j=true:=tQ;simp [cU,jK,dK,nG,yU]
    rw [e2,e3];simp only [e3] at hA;repeat first|refine gd ?_|intro _|refine ae @hA ?_
    (first|refine aD (dk b c n) ?_|refine aE (dk b c n) ?_|refine aF (dk b c n) ?_);refine mA fun p0 q0 p1 q1 p2 q2 ⟨hc,yJ,wS,qJ⟩=>?_;obtain ⟨r0,r1,r2⟩:=ki hc;repeat first|refine gd ?_|intro _
    rename_i b6 b8 bo _
    apply aO (E0:=[(0,_),(1,_),(2,_),(6,_),(8,_)]) (fun E0 (q:Nat×Option Addr×Nat)=>(11,.int .i64 q.1)::(10,.slice q.2.1 ((n.l1.take q.1).eraseIdx j).length q.2.2)::E0)
      (fun q=>aT 159 15 (.slice q.2.1 ((n.l1.take q.1).eraseIdx j).length q.2.2) ((n.l1.take q.1).eraseIdx j).length (aj mc ((n.l1.take q.1).eraseIdx j))::ao b8 159 (mc n.l1[j])::ao b6 159 (mc .zero)::ao b 82 (nQ c n p0 q0 p1 q1 p2 q2)::aT 159 15 (.slice p0 n.l0.length q0) n.l0.length (aj mc n.l0)::aT 159 15 (.slice p1 n.l1.length q1) n.l1.length (aj mc n.l1)::aT 159 15 (.slice p2 n.l2.length q2) n.l2.length (aj mc n.l2)::F) (fun q=>q.1≤n.l1.length) (fun q=>n.l1.length-q.1) (0,some ⟨bo,0,none⟩,0)
    ·exact bH
    ·exact Nat.zero_le _
    ·dsimp only;simp only [List.take_zero,List.eraseIdx_nil,List.length_nil,lU];exact af
    ·rintro ⟨i,p',c'⟩ hi;dsimp only at hi ⊢;have hlen:=iu (n.l1.take i) j;rw [List.length_take] at hlen;by_cases bB:i<n.l1.length
     ·by_cases he:i=j
      ·repeat first|refine gd ?_|intro _
       refine aC (i+1,p',c') (by first|omega|(dsimp only;omega)) (by first|omega|(dsimp only;omega)) ?_ ?_
       ·dsimp only;rw [cd n.l1 j i bB,if_pos he];exact bH
       ·dsimp only;rw [cd n.l1 j i bB,if_pos he];exact ai.refl
      ·repeat first|refine gd ?_|intro _
       rename_i UH UI;refine aC (i+1,UH,UI) (by first|omega|(dsimp only;omega)) (by first|omega|(dsimp only;omega)) ?_ ?_
       ·dsimp only;rw [cd n.l1 j i bB,if_neg he];rw [List.length_append,List.length_singleton];exact bH
       ·dsimp only;rw [cd n.l1 j i bB,if_neg he];rw [List.length_append,List.length_singleton,aJ,bi];exact af
     ·have kM:i=n.l1.length:=by omega
      subst kM;rw [List.take_length];repeat first|refine gd ?_|intro _
      have hlen:=iu n.l1 j;(apply ad rfl rfl ar)
      ·exact ⟨rfl,rfl⟩
      ·change ai (_::_::_::ao b 82 [.int .i64 c.ax,.int .i64 c.bY,.int .i64 c.cl,.int .i64 c.al,.int .i64 c.ag,.int .i64 c.aZ,.int .i64 c.ef,.int .i64 c.aS,.int .i64 c.aQ,.int .i64 c.aw,.int .i64 c.r0,.int .i64 c.r1,.int .i64 c.r2,.slice p0 n.l0.length q0,.slice p' (n.l1.eraseIdx j).length c',.slice p2 n.l2.length q2]::_) _;(apply dE;(focus (exact af));all_goals exact bu)
   ·have YP:(j:Int)<n.l2.length:=g2;have e3:bE n 2 j=n.l2[j]:=by show sQ .zero n.l2 j=_;have yU:qH n.l2 j=true:=tQ;simp [sQ,yU,show j<n.l2.length by omega]
    have e2:cU n 2 j=⟨n.l0,n.l1,n.l2.eraseIdx j⟩:=by have yU:qH n.l2 j=true:=tQ;simp [cU,jK,dK,nG,yU]
    rw [e2,e3];simp only [e3] at hA;repeat first|refine gd ?_|intro _|refine ae @hA ?_
    (first|refine aD (dk b c n) ?_|refine aE (dk b c n) ?_|refine aF (dk b c n) ?_);refine mA fun p0 q0 p1 q1 p2 q2 ⟨hc,yJ,wS,qJ⟩=>?_;obtain ⟨r0,r1,r2⟩:=ki hc;repeat first|refine gd ?_|intro _
    rename_i b6 b8 bo _
    apply aO (E0:=[(0,_),(1,_),(2,_),(6,_),(8,_)]) (fun E0 (q:Nat×Option Addr×Nat)=>(11,.int .i64 q.1)::(10,.slice q.2.1 ((n.l2.take q.1).eraseIdx j).length q.2.2)::E0)
      (fun q=>aT 159 15 (.slice q.2.1 ((n.l2.take q.1).eraseIdx j).length q.2.2) ((n.l2.take q.1).eraseIdx j).length (aj mc ((n.l2.take q.1).eraseIdx j))::ao b8 159 (mc n.l2[j])::ao b6 159 (mc .zero)::ao b 82 (nQ c n p0 q0 p1 q1 p2 q2)::aT 159 15 (.slice p0 n.l0.length q0) n.l0.length (aj mc n.l0)::aT 159 15 (.slice p1 n.l1.length q1) n.l1.length (aj mc n.l1)::aT 159 15 (.slice p2 n.l2.length q2) n.l2.length (aj mc n.l2)::F) (fun q=>q.1≤n.l2.length) (fun q=>n.l2.length-q.1) (0,some ⟨bo,0,none⟩,0)
    ·exact bH
    ·exact Nat.zero_le _
    ·dsimp only;simp only [List.take_zero,List.eraseIdx_nil,List.length_nil,lU];exact af
    ·rintro ⟨i,p',c'⟩ hi;dsimp only at hi ⊢;have hlen:=iu (n.l2.take i) j;rw [List.length_take] at hlen;by_cases bB:i<n.l2.length
     ·by_cases he:i=j
      ·repeat first|refine gd ?_|intro _
       refine aC (i+1,p',c') (by first|omega|(dsimp only;omega)) (by first|omega|(dsimp only;omega)) ?_ ?_
       ·dsimp only;rw [cd n.l2 j i bB,if_pos he];exact bH
       ·dsimp only;rw [cd n.l2 j i bB,if_pos he];exact ai.refl
      ·repeat first|refine gd ?_|intro _
       rename_i UH UI;refine aC (i+1,UH,UI) (by first|omega|(dsimp only;omega)) (by first|omega|(dsimp only;omega)) ?_ ?_
       ·dsimp only;rw [cd n.l2 j i bB,if_neg he];rw [List.length_append,List.length_singleton];exact bH
       ·dsimp only;rw [cd n.l2 j i bB,if_neg he];rw [List.length_append,List.length_singleton,aJ,bi];exact af
     ·have kM:i=n.l2.length:=by omega
      subst kM;rw [List.take_length];repeat first|refine gd ?_|intro _
      have hlen:=iu n.l2 j;(apply ad rfl rfl ar)
      ·exact ⟨rfl,rfl⟩
      ·change ai (_::_::_::ao b 82 [.int .i64 c.ax,.int .i64 c.bY,.int .i64 c.cl,.int .i64 c.al,.int .i64 c.ag,.int .i64 c.aZ,.int .i64 c.ef,.int .i64 c.aS,.int .i64 c.aQ,.int .i64 c.aw,.int .i64 c.r0,.int .i64 c.r1,.int .i64 c.r2,.slice p0 n.l0.length q0,.slice p1 n.l1.length q1,.slice p' (n.l2.eraseIdx j).length c']::_) _;(apply dE;(focus (exact af));all_goals exact bu)
theorem mq {Q P:Prop} (k:Q) (h:Hid Q→P:=by
  intro k
  first
  |(refine an ?_;refine bF (id:=1) .true (pl:= .p 0 <| .p 1 <| .p 2 <| .r 3 <| .r 4 <| .e true [(5,.p 6 <| .done)]) k.out)
  |(refine an ?_;refine bF (id:=6) .false (pl:= .p 0 <| .p 1 <| .p 3 <| .p 4 <| .p 5 <| .p 6 <| .p 7 <| .p 13 <| .p 14 <| .r 8 <| .r 10 <| .e true [(2,.e true [(9,.e true [(11,.e true [(12,.p 15 <| .e true [(16,.done)])])]),(11,.e true [(9,.e true [(12,.p 15 <| .e true [(16,.done)])])])]),(11,.e true [(2,.e true [(9,.e true [(12,.p 15 <| .e true [(16,.done)])])])])]) k.out)):P:=h ⟨k⟩
theorem s7 {F:List HP} {b:Nat} {c:au} {n:fK} {m:bA} (hw:c.wf):az prog 94 [.pointer (some ⟨b,0,none⟩),mv m] [dk b c n] F (fun r L'=>r= .int .i64 (lq c n m)∧L'=[dk b c (fG c n m)]):=by
  have hM:=fun F=>jP (F:=F) (c:=c) (m:=m) hw;have hN:=fun F=>Da (F:=F) (k:=m.ah);refine ay func94 ntmps94 ?_;refine mA fun p0 q0 p1 q1 p2 q2 ⟨hc,yJ,wS,qJ⟩=>?_;obtain ⟨r0,r1,r2⟩:=ki hc;by_cases h:bU c m
  ·simp only [decide_eq_true h] at hM;have e1:lq c n m=nz (iJ c (ee m.ah)) (dK n (ee m.ah)):=if_pos h;have e2:fG c n m=jK n (ee m.ah) (kB (iJ c (ee m.ah)) (dK n (ee m.ah)) m):=if_pos h;rw [e1,e2];rcases FF h with e|e|e
   ·rw [e] at hN ⊢;by_cases hf:(n.l0.length:Int)=c.r0
    ·have e3:nz (iJ c 0) (dK n 0)=4:=by show nz c.r0 n.l0=4;simp [nz,hf]
     have e4:jK n 0 (kB (iJ c 0) (dK n 0) m)=n:=by
       show jK n 0 (kB c.r0 n.l0 m)=n;simp [kB,hf,jK]
     rw [e3,e4];repeat first|refine go ?_|intro _|refine mq ?_|refine av ?_|refine ae @hM ?_|refine ae @hN ?_
     (apply ad rfl rfl ar)
     ·exact ⟨rfl,rfl⟩
     ·(apply dE;(focus (exact af));all_goals exact bu)
    ·have e3:nz (iJ c 0) (dK n 0)=0:=by show nz c.r0 n.l0=0;simp [nz,hf]
     have e4:jK n 0 (kB (iJ c 0) (dK n 0) m)=⟨n.l0++[m],n.l1,n.l2⟩:=by
       show jK n 0 (kB c.r0 n.l0 m)=_;simp [kB,hf,jK]
     rw [e3,e4];repeat' (first|refine go ?_|intro _|refine mq ?_|refine av ?_|refine ae @hM ?_|refine ae @hN ?_|refine bj ?_ ?_|fail)
     all_goals (apply ad rfl rfl ar)
     all_goals first|exact ⟨rfl,rfl⟩|(rw [X1];(apply dE;(focus (exact af));all_goals (first|rfl|(with_reducible assumption)|(simp [aJ,bi];done)|(simp [aJ,bi];omega)|omega|(constructor<;>(simp [aJ,bi])<;>omega))))
   ·rw [e] at hN ⊢;by_cases hf:(n.l1.length:Int)=c.r1
    ·have e3:nz (iJ c 1) (dK n 1)=4:=by show nz c.r1 n.l1=4;simp [nz,hf]
     have e4:jK n 1 (kB (iJ c 1) (dK n 1) m)=n:=by
       show jK n 1 (kB c.r1 n.l1 m)=n;simp [kB,hf,jK]
     rw [e3,e4];repeat first|refine go ?_|intro _|refine mq ?_|refine av ?_|refine ae @hM ?_|refine ae @hN ?_
     (apply ad rfl rfl ar)
     ·exact ⟨rfl,rfl⟩
     ·(apply dE;(focus (exact af));all_goals exact bu)
    ·have e3:nz (iJ c 1) (dK n 1)=0:=by show nz c.r1 n.l1=0;simp [nz,hf]
     have e4:jK n 1 (kB (iJ c 1) (dK n 1) m)=⟨n.l0,n.l1++[m],n.l2⟩:=by
       show jK n 1 (kB c.r1 n.l1 m)=_;simp [kB,hf,jK]
     rw [e3,e4];repeat' (first|refine go ?_|intro _|refine mq ?_|refine av ?_|refine ae @hM ?_|refine ae @hN ?_|refine bj ?_ ?_|fail)
     all_goals (apply ad rfl rfl ar)
     all_goals first|exact ⟨rfl,rfl⟩|(rw [X2];(apply dE;(focus (exact af));all_goals (first|rfl|(with_reducible assumption)|(simp [aJ,bi];done)|(simp [aJ,bi];omega)|omega|(constructor<;>(simp [aJ,bi])<;>omega))))
   ·rw [e] at hN ⊢;by_cases hf:(n.l2.length:Int)=c.r2
    ·have e3:nz (iJ c 2) (dK n 2)=4:=by show nz c.r2 n.l2=4;simp [nz,hf]
     have e4:jK n 2 (kB (iJ c 2) (dK n 2) m)=n:=by
       show jK n 2 (kB c.r2 n.l2 m)=n;simp [kB,hf,jK]
     rw [e3,e4];repeat first|refine go ?_|intro _|refine mq ?_|refine av ?_|refine ae @hM ?_|refine ae @hN ?_
     (apply ad rfl rfl ar)
     ·exact ⟨rfl,rfl⟩
     ·(apply dE;(focus (exact af));all_goals exact bu)
    ·have e3:nz (iJ c 2) (dK n 2)=0:=by show nz c.r2 n.l2=0;simp [nz,hf]
     have e4:jK n 2 (kB (iJ c 2) (dK n 2) m)=⟨n.l0,n.l1,n.l2++[m]⟩:=by
       show jK n 2 (kB c.r2 n.l2 m)=_;simp [kB,hf,jK]
     rw [e3,e4];repeat' (first|refine go ?_|intro _|refine mq ?_|refine av ?_|refine ae @hM ?_|refine ae @hN ?_|refine bj ?_ ?_|fail)
     all_goals (apply ad rfl rfl ar)
     all_goals first|exact ⟨rfl,rfl⟩|(rw [X3];(apply dE;(focus (exact af));all_goals (first|rfl|(with_reducible assumption)|(simp [aJ,bi];done)|(simp [aJ,bi];omega)|omega|(constructor<;>(simp [aJ,bi])<;>omega))))
  ·simp only [decide_eq_false h] at hM;have e1:lq c n m=1:=if_neg h;have e2:fG c n m=n:=if_neg h;rw [e1,e2];repeat first|refine go ?_|intro _|refine mq ?_|refine av ?_|refine ae @hM ?_
   (apply ad rfl rfl ar)
   ·exact ⟨rfl,rfl⟩
   ·(apply dE;(focus (exact af));all_goals exact bu)
end
end Go.Sx
