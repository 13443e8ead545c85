/- MdS: several of my texts as one. My own work. -/
import Derived.Test.YtjihlpjnebdiiabGreatZbn
import Derived.Test.YtjihlpjnebdiiabGreatZbm
set_option linter.unusedVariables false
set_option linter.unusedSectionVars false
set_option linter.unusedSimpArgs false
set_option maxRecDepth 100000
set_option maxHeartbeats 4000000
namespace Go.Sx
open Go Go.Proofs Tryz
section
theorem Ua {c:au} {ws:List Way} {j:Nat} (hc:aB c=true) (hl:(ws.length:Int)=c.cl*c.al) (hj:j<ws.length):iw c ws ((j:Int).tdiv c.al) ((j:Int).tmod c.al)=ws[j]:=by
  obtain ⟨en,h4,h5,h6,h7,h8⟩:=jb hc hl;have eW:c.al=(c.al.toNat:Int):=by omega
  have hw:0<c.al.toNat:=by omega
  have h1:(j:Int).tdiv c.al=((j / c.al.toNat:Nat):Int):=by rw [eW,Int.toNat_natCast];exact (Int.ofNat_tdiv j _).symm
  have h2:(j:Int).tmod c.al=((j % c.al.toNat:Nat):Int):=by rw [eW,Int.toNat_natCast];exact (Int.ofNat_tmod j _).symm
  have h3:=Nat.div_add_mod j c.al.toNat;have h9:=Nat.mod_lt j hw;have Uu:j / c.al.toNat<c.cl.toNat:=by
    rw [Nat.div_lt_iff_lt_mul hw];omega
  generalize j / c.al.toNat=q at *;generalize j % c.al.toNat=r at *;rw [h1,h2];unfold iw;rw [if_pos (by simp [ng];omega),Int.toNat_natCast,Int.toNat_natCast];have e:q*c.al.toNat+r=j:=by rw [Nat.mul_comm];exact h3
  rw [e];exact (ia hj).symm
theorem LI {c:au} {k:Nat} (hw:1≤c.al∧c.al≤64) (hk:k≤1000000):IntKind.i64.wrap ((k:Int).tdiv c.al)=(k:Int).tdiv c.al:=by
  have e:(k:Int).tdiv c.al=(k:Int) / c.al:=Int.tdiv_eq_ediv_of_nonneg (om);have h0:0≤(k:Int) / c.al:=Int.ediv_nonneg (om) (om);have h1:(k:Int) / c.al≤k:=Int.ediv_le_self _ (om);rw [e];generalize (k:Int) / c.al=q at *;exact k9 (om) (om)
attribute [local irreducible] Exit.then Exit.inBlock Code.wp WC WO WE WQ V aW dL Sat bz bK dU IntKind.wrap WR Code.rounds WT KO
section
variable {F:List HP} {b:Nat} {c:au} {s:cg} {x:fP}
theorem Ub {i:Nat} {a w:Int} (hi:i<x.ab.length) (hx:gG c s x):az prog 104 [.pointer (some ⟨x.ab.getD i 0,0,none⟩),.int .i64 a,.int .i64 w] [dj b c s x] F (fun r L'=>r= .tuple [J5 (iw c (s.cs.getD i aL).al a w),.bool (ng c a w)].toArray∧L'=[dj b c s x]):=az.inC hi hx fun F=>Tj
theorem dW {Q P:Prop} (k:Q) (h:Hid Q→P:=by
  intro k
  first
  |(refine an ?_;refine bF (id:=10) (.only []) (pl:= .p 0 <| .p 2 <| .p 4 <| .p 5 <| .p 6 <| .p 8 <| .r 7 <| .p 9 <| .p 10 <| .p 11 <| .r 12 <| .e true [(1,.e true [(3,.e true [(13,.p 14 <| .done)])])]) k.out)
  |(refine an ?_;refine bF (id:=16) (.only []) (pl:= .p 0 <| .p 1 <| .p 2 <| .p 3 <| .p 4 <| .p 6 <| .p 7 <| .e true [(5,.e true [(8,.p 9 <| .p 10 <| .p 11 <| .p 12 <| .p 15 <| .p 16 <| .p 17 <| .p 19 <| .r 18 <| .p 20 <| .r 21 <| .p 22 <| .p 23 <| .r 24 <| .p 25 <| .p 26 <| .r 27 <| .p 28 <| .e true [(13,.p 14 <| .p 29 <| .p 30 <| .p 31 <| .p 32 <| .p 35 <| .p 36 <| .p 37 <| .p 39 <| .r 38 <| .p 40 <| .r 41 <| .p 42 <| .p 43 <| .r 44 <| .p 45 <| .p 46 <| .r 47 <| .p 48 <| .e true [(33,.p 34 <| .p 49 <| .p 50 <| .done)])])])]) k.out)
  |(refine an ?_;refine bF (id:=33) (.only [14]) (pl:= .p 0 <| .p 1 <| .p 2 <| .p 5 <| .p 6 <| .r 3 <| .p 4 <| .r 7 <| .p 8 <| .e true [(9,.p 10 <| .p 11 <| .p 12 <| .e true [(13,.e true [(14,.n [] <| .p 15 <| .done)])]),(13,.e true [(9,.p 10 <| .p 11 <| .p 12 <| .e true [(14,.n [] <| .p 15 <| .done)])])]) k.out)
  |(refine an ?_;refine bF (id:=41) (.only []) (pl:= .p 0 <| .p 1 <| .p 2 <| .p 3 <| .p 6 <| .p 7 <| .p 8 <| .p 10 <| .r 9 <| .p 11 <| .r 12 <| .p 13 <| .p 14 <| .r 15 <| .p 16 <| .p 17 <| .r 18 <| .p 19 <| .e true [(4,.p 5 <| .p 20 <| .p 21 <| .done)]) k.out)
  |(refine an ?_;refine bF (id:=46) (.only []) (pl:= .p 1 <| .p 2 <| .p 3 <| .p 5 <| .p 14 <| .r 0 <| .r 4 <| .p 6 <| .r 7 <| .p 8 <| .p 9 <| .r 10 <| .p 11 <| .p 12 <| .r 13 <| .p 15 <| .r 16 <| .e true [(17,.p 18 <| .done)]) k.out)):P:=h ⟨k⟩
theorem IX {n:Nat} {br:Nat} {y:fP} (hc:c.wf) (hl:eG c n s) (hn:n≤1000) (ht:s.tr.length≤1000) (hx:gG c s x) (hy:gG c s y) :
    az prog 27 [c.val,.pointer (some ⟨b,0,none⟩),.pointer (some ⟨br,0,none⟩)] [dj b c s x,fy br c s y] F (fun r L'=>r= .bool true∧L'=[dj b c s x,fy br c s y]):=by
  obtain ⟨⟨f1,f2,f3⟩,⟨f4,f5,f6⟩,f7⟩:=id hx;obtain ⟨⟨g1,g2,g3⟩,⟨g4,g5,g6⟩,g7⟩:=id hy;have YS:=(cp f7).1;have hch:=mB f7;have Sr:∀ k∈s.ks,k.rs.length≤k.l.length∧k.l.length≤64:=fun k hk=>⟨(hl.kp k hk).2,by have:=(hl.kp k hk).1;unfold fl at this;simp only [Bool.and_eq_true,decide_eq_true_eq] at this;omega⟩;have ho:=hl.od;have Y3:∀ y∈s.hs,0≤y.aR∧y.aR≤1000000000000:=fun y hy=>by
    obtain ⟨i,hi,rfl⟩:=List.getElem_of_mem hy;have h:=hl.Sq (i:=(i:Int)) (om) (om);have e:sx s (i:Int)=s.hs[i]:=by unfold sx;rw [Int.toNat_natCast,List.getD_eq_getElem?_getD,List.getElem?_eq_getElem hi];rfl
    rw [e] at h;omega
  have hT:=fun F=>A3 (F:=F) (b:=b) hx (om);have hO:=fun F=>RE (F:=F) (b:=b) hx ⟨ho.1,om⟩ Y3;have hQ:=fun F=>A4 (F:=F) (b:=b) hx Sr;have rO:=fun F=>az.Vb (F:=F) hy fun F=>T8 (F:=F) (b:=br) hy ⟨ho.1,om⟩ Y3;have rQ:=fun F=>az.Vb (F:=F) hy fun F=>OO (F:=F) (b:=br) hy;have Sy:=fun F=>Hw (F:=F) (b:=b) hx;have EX:s.n.l0.length≤4096∧s.n.l1.length≤4096∧s.n.l2.length≤4096:=by
    have h0:=hl.rm 0 rfl;have h1:=hl.rm 1 rfl;have h2:=hl.rm 2 rfl;obtain ⟨r0,r1,r2⟩:=ki f7;have e0:dK s.n 0=s.n.l0:=rfl;have e1:dK s.n 1=s.n.l1:=rfl;have e2:dK s.n 2=s.n.l2:=rfl;have k0:iJ c 0=c.r0:=rfl;have k1:iJ c 1=c.r1:=rfl;have k2:iJ c 2=c.r2:=rfl;rw [e0,k0] at h0;rw [e1,k1] at h1;rw [e2,k2] at h2;omega
  refine ay func27 ntmps27 ?_;repeat first|rintro _ _ ⟨rfl,rfl⟩|refine Ps fun _=>?_|intro _|refine go ?_
  (first|refine aD (fy br c s y) ?_|refine aE (fy br c s y) ?_|refine aF (fy br c s y) ?_);first|refine LB fun hf=>?_|refine ky fun hf=>?_
  repeat first|refine go ?_|intro _|refine ae @hT ?_|refine ae @hO ?_|refine ae @rO ?_|refine ae @hQ ?_|refine ae @rQ ?_
  rename_i b3 q1;apply mT (P:=prog) (fun _:Unit=>[(1,.pointer (some ⟨b,0,none⟩)),(2,.pointer (some ⟨br,0,none⟩)),(3,.pointer (some ⟨b3,0,none⟩)),(9,.int .i64 (0:Nat))]) (fun _=>fy br c s y::dj b c s x::ao b3 25 c.cells::F) (fun _=>True)
  ·intro join;by_cases hz:s.tr.length=0
   ·have WB:¬((s.tr.length:Nat):Int)>0:=by omega
    repeat first|refine go ?_|intro _|refine dW ?_|refine av ?_
    refine join () _ _ trivial ?_ ?_
    ·exact bH
    ·refine fv ?_ hf;exact af
   ·have WB:((s.tr.length:Nat):Int)>0:=by omega
    repeat first|refine go ?_|intro _|refine dW ?_|refine av ?_
    refine join () _ _ trivial ?_ ?_
    ·exact bH
    ·refine fv ?_ hf;exact af
  clear hT hO hQ rO rQ;intro _ _;apply aO (E0:=[(1,_),(2,_),(3,_)]) (fun E0 (i:Nat)=>(9,.int .i64 i)::E0) (fun _=>fy br c s y::dj b c s x::ao b3 25 c.cells::F) (fun i=>i≤3) (fun i=>3-i) 0
  ·exact bH
  ·exact Nat.zero_le _
  ·exact af
  ·rintro i hi;by_cases bB:i<3
   ·have jR:i=0∨i=1∨i=2:=by omega
    (first|refine aD (fy br c s y) ?_|refine aE (fy br c s y) ?_|refine aF (fy br c s y) ?_);refine ky fun hf=>?_;(first|refine aD (dk y.bn c s.n) ?_|refine aE (dk y.bn c s.n) ?_|refine aF (dk y.bn c s.n) ?_);refine mA fun p0 q0 p1 q1 p2 q2 ⟨_,yJ,wS,qJ⟩=>?_;have Sp:=fun F (k:Nat)=>Rv (F:=F) (b:=b) (k:=(k:Int)) hx;have hS:=fun F v u l (k1:bN F 15 v l.length (aj mc l)) (k2:bN F 15 u l.length (aj mc l)) (hn:l.length≤4096)=>(Bq (F:=F) k1 k2 (om)).mono fun r L (h:r= .bool (decide (l=l))∧L=[])=>(⟨h.1.trans (congrArg Value.bool (decide_eq_true rfl)),h.2⟩:r= .bool true∧L=[]);rcases jR with rfl|rfl|rfl
    ·have zF:=fun F=>Sp F 0;have e0:dK s.n ((0:Nat):Int)=s.n.l0:=rfl;rw [e0] at zF;have UU:=fun F v u k1 k2=>hS F v u s.n.l0 k1 k2 EX.1;repeat first|refine go ?_|intro _|refine dW ?_|refine av ?_|refine ae @Sy ?_|refine ae @zF ?_|refine ae @UU ?_
     ((first|apply cy (L':=(dk y.bn c s.n)::_)|apply cD (L':=(dk y.bn c s.n)::_)|apply cE (L':=(dk y.bn c s.n)::_)|apply cR (L':=(dk y.bn c s.n)::_));(focus (apply dE;(focus (exact af));all_goals exact bu)));refine aC 1 (om) (om) ?_ ?_
     ·exact bH
     ·refine fv ?_ hf;exact af
    ·have zF:=fun F=>Sp F 1;have e0:dK s.n ((1:Nat):Int)=s.n.l1:=rfl;rw [e0] at zF;have UU:=fun F v u k1 k2=>hS F v u s.n.l1 k1 k2 EX.2.1;repeat first|refine go ?_|intro _|refine dW ?_|refine av ?_|refine ae @Sy ?_|refine ae @zF ?_|refine ae @UU ?_
     ((first|apply cy (L':=(dk y.bn c s.n)::_)|apply cD (L':=(dk y.bn c s.n)::_)|apply cE (L':=(dk y.bn c s.n)::_)|apply cR (L':=(dk y.bn c s.n)::_));(focus (apply dE;(focus (exact af));all_goals exact bu)));refine aC 2 (om) (om) ?_ ?_
     ·exact bH
     ·refine fv ?_ hf;exact af
    ·have zF:=fun F=>Sp F 2;have e0:dK s.n ((2:Nat):Int)=s.n.l2:=rfl;rw [e0] at zF;have UU:=fun F v u k1 k2=>hS F v u s.n.l2 k1 k2 EX.2.2;repeat first|refine go ?_|intro _|refine dW ?_|refine av ?_|refine ae @Sy ?_|refine ae @zF ?_|refine ae @UU ?_
     ((first|apply cy (L':=(dk y.bn c s.n)::_)|apply cD (L':=(dk y.bn c s.n)::_)|apply cE (L':=(dk y.bn c s.n)::_)|apply cR (L':=(dk y.bn c s.n)::_));(focus (apply dE;(focus (exact af));all_goals exact bu)));refine aC 3 (om) (om) ?_ ?_
     ·exact bH
     ·refine fv ?_ hf;exact af
   ·have I2:i=3:=by omega
    subst I2;clear Sy;repeat first|refine go ?_|intro _|refine dW ?_|refine av ?_
    apply aO (E0:=[(1,_),(2,_),(3,_)]) (fun E0 (i:Nat)=>(10,.int .i64 i)::E0) (fun _=>fy br c s y::dj b c s x::ao b3 25 c.cells::F) (fun i=>i≤x.ab.length) (fun i=>x.ab.length-i) 0
    ·exact bH
    ·exact Nat.zero_le _
    ·exact af
    ·rintro i hi;by_cases bB:i<x.ab.length
     ·have Ap:i<y.kb.length:=by omega
      have hlx:i<x.kb.length:=by omega
      have Hg:i<y.ab.length:=by omega
      have YE:=dB bB;have hg:=dB Hg;have hsk:s.ks=s.ks.set i (s.ks.getD i bQ):=bf.symm;have hsc:s.cs=s.cs.set i (s.cs.getD i aL):=bf.symm;have Y4:=fun F=>FQ (F:=F) (b:=b) (c:=c) (s:=s) (x:=x) bB;have Me:=fun F=>Ee (F:=F) (b:=b) (c:=c) (s:=s) (x:=x) hlx hx;have Y5:=fun F=>FY (F:=F) (b:=br) (c:=c) (aR:=s.aR) (na:=y.ab.length) (nh:=y.hb.length) (nt:=s.tr.length) (pk:=y.pk) (pa:=y.pa) (ph:=y.ph) (pt:=y.pt) (bn:=y.bn) (k:=s.ks.getD i bQ) Ap;have O9:=fun F=>DC (F:=F) (b:=b) (c:=c) (s:=s) (x:=x) bB hx;have He:=fun F=>BJ (F:=F) (b:=b) (c:=c) (s:=s) (x:=x) bB hx;(first|refine aD (fy br c s y) ?_|refine aE (fy br c s y) ?_|refine aF (fy br c s y) ?_);refine gp Ap Hg fun hf=>?_;(first|(refine aX (.slice y.pa.1 y.ab.length y.pa.2) inferInstance (om) ?_;intro _)|(refine aY (.slice y.pa.1 y.ab.length y.pa.2) inferInstance (om) ?_;intro _));(first|refine aD (iE y.ab[i] c (i:Int) (s.cs.getD i aL)) ?_|refine aE (iE y.ab[i] c (i:Int) (s.cs.getD i aL)) ?_|refine aF (iE y.ab[i] c (i:Int) (s.cs.getD i aL)) ?_);refine nO fun aA fA eA Hc=>?_;(first|refine aD (cW fA c.aS (s.cs.getD i aL).aP) ?_|refine aE (cW fA c.aS (s.cs.getD i aL).aP) ?_|refine aF (cW fA c.aS (s.cs.getD i aL).aP) ?_);refine cC fun pM cM Su=>?_;(first|refine aD (lj eA c.aw (s.cs.getD i aL).bD) ?_|refine aE (lj eA c.aw (s.cs.getD i aL).bD) ?_|refine aF (lj eA c.aw (s.cs.getD i aL).bD) ?_);refine cC fun pB cB Y0=>?_;repeat first|refine go ?_|intro _|refine dW ?_|refine av ?_|refine ae @Y4 ?_|refine ae @Me ?_|refine ae @Y5 ?_|refine ae @O9 ?_|refine ae @He ?_
      rename_i qm qw q2;clear Y4 Me Y5;have Uc:∀ k (h:k<(s.cs.getD i aL).aP.length),¬(fg (s.cs.getD i aL).aP[k]≠fg (s.cs.getD i aL).aP[k]):=fun k h g=>g rfl;have Ud:∀ k (h:k<(s.cs.getD i aL).bD.length),¬(bc (s.cs.getD i aL).bD[k]≠bc (s.cs.getD i aL).bD[k]):=fun k h g=>g rfl;((first|apply cy (L':=(cW fA c.aS (s.cs.getD i aL).aP)::_)|apply cD (L':=(cW fA c.aS (s.cs.getD i aL).aP)::_)|apply cE (L':=(cW fA c.aS (s.cs.getD i aL).aP)::_)|apply cR (L':=(cW fA c.aS (s.cs.getD i aL).aP)::_));(focus (apply bC;(focus (exact af));all_goals exact bu)));((first|apply cy (L':=(lj eA c.aw (s.cs.getD i aL).bD)::_)|apply cD (L':=(lj eA c.aw (s.cs.getD i aL).bD)::_)|apply cE (L':=(lj eA c.aw (s.cs.getD i aL).bD)::_)|apply cR (L':=(lj eA c.aw (s.cs.getD i aL).bD)::_));(focus (apply bC;(focus (exact af));all_goals exact bu)));((first|apply cy (L':=(iE y.ab[i] c (i:Int) (s.cs.getD i aL))::_)|apply cD (L':=(iE y.ab[i] c (i:Int) (s.cs.getD i aL))::_)|apply cE (L':=(iE y.ab[i] c (i:Int) (s.cs.getD i aL))::_)|apply cR (L':=(iE y.ab[i] c (i:Int) (s.cs.getD i aL))::_));(focus (apply rl;(focus (exact af));all_goals exact bu)));apply aO (E0:=[(1,_),(2,_),(3,_),(10,_),(11,_),(148,_),(149,_)]) (fun E0 (k:Nat)=>(150,.int .i64 k)::E0) (fun _=>fy br c s y::aT 184 15 (.slice q2.1 (s.cs.getD i aL).aP.length q2.2) (s.cs.getD i aL).aP.length (aj fg (s.cs.getD i aL).aP)::dj b c s x::ao b3 25 c.cells::F) (fun k=>k≤(s.cs.getD i aL).aP.length) (fun k=>(s.cs.getD i aL).aP.length-k) 0
      ·exact bH
      ·exact Nat.zero_le _
      ·(apply eQ;(focus (exact af));all_goals exact bu)
      ·rintro k hk;by_cases Xn:k<(s.cs.getD i aL).aP.length
       ·have kz:=Uc k Xn;(first|refine aD (fy br c s y) ?_|refine aE (fy br c s y) ?_|refine aF (fy br c s y) ?_);refine gp Ap Hg fun hf=>?_;(first|(refine aX (.slice y.pa.1 y.ab.length y.pa.2) inferInstance (om) ?_;intro _)|(refine aY (.slice y.pa.1 y.ab.length y.pa.2) inferInstance (om) ?_;intro _));(first|refine aD (iE y.ab[i] c (i:Int) (s.cs.getD i aL)) ?_|refine aE (iE y.ab[i] c (i:Int) (s.cs.getD i aL)) ?_|refine aF (iE y.ab[i] c (i:Int) (s.cs.getD i aL)) ?_);refine nO fun aA fA eA Hc=>?_;(first|refine aD (cW fA c.aS (s.cs.getD i aL).aP) ?_|refine aE (cW fA c.aS (s.cs.getD i aL).aP) ?_|refine aF (cW fA c.aS (s.cs.getD i aL).aP) ?_);refine cC fun pM cM Su=>?_;(first|(refine aX (.slice pM (s.cs.getD i aL).aP.length cM) inferInstance (om) ?_;intro _)|(refine aY (.slice pM (s.cs.getD i aL).aP.length cM) inferInstance (om) ?_;intro _));repeat first|refine go ?_|intro _|refine dW ?_|refine av ?_
        ((first|apply cy (L':=(cW fA c.aS (s.cs.getD i aL).aP)::_)|apply cD (L':=(cW fA c.aS (s.cs.getD i aL).aP)::_)|apply cE (L':=(cW fA c.aS (s.cs.getD i aL).aP)::_)|apply cR (L':=(cW fA c.aS (s.cs.getD i aL).aP)::_));(focus (apply bC;(focus (exact af));all_goals exact bu)));((first|apply cy (L':=(iE y.ab[i] c (i:Int) (s.cs.getD i aL))::_)|apply cD (L':=(iE y.ab[i] c (i:Int) (s.cs.getD i aL))::_)|apply cE (L':=(iE y.ab[i] c (i:Int) (s.cs.getD i aL))::_)|apply cR (L':=(iE y.ab[i] c (i:Int) (s.cs.getD i aL))::_));(focus (apply rl;(focus (exact af));all_goals exact bu)));refine aC (k+1) (om) (om) ?_ ?_
        ·exact bH
        ·(apply eQ;(focus (exact af));all_goals exact bu)
       ·repeat first|refine go ?_|intro _|refine dW ?_|refine av ?_|refine ae @He ?_
        rename_i qb;clear He O9;apply aO (E0:=[(1,_),(2,_),(3,_),(10,_),(11,_),(175,_),(176,_)]) (fun E0 (k:Nat)=>(177,.int .i64 k)::E0) (fun _=>fy br c s y::aT 131 10 (.slice qb.1 (s.cs.getD i aL).bD.length qb.2) (s.cs.getD i aL).bD.length (aj bc (s.cs.getD i aL).bD)::dj b c s x::ao b3 25 c.cells::F) (fun k=>k≤(s.cs.getD i aL).bD.length) (fun k=>(s.cs.getD i aL).bD.length-k) 0
        ·exact bH
        ·exact Nat.zero_le _
        ·exact af
        ·rintro k hk;by_cases Xn:k<(s.cs.getD i aL).bD.length
         ·have kz:=Ud k Xn;(first|refine aD (fy br c s y) ?_|refine aE (fy br c s y) ?_|refine aF (fy br c s y) ?_);refine gp Ap Hg fun hf=>?_;(first|(refine aX (.slice y.pa.1 y.ab.length y.pa.2) inferInstance (om) ?_;intro _)|(refine aY (.slice y.pa.1 y.ab.length y.pa.2) inferInstance (om) ?_;intro _));(first|refine aD (iE y.ab[i] c (i:Int) (s.cs.getD i aL)) ?_|refine aE (iE y.ab[i] c (i:Int) (s.cs.getD i aL)) ?_|refine aF (iE y.ab[i] c (i:Int) (s.cs.getD i aL)) ?_);refine nO fun aA fA eA Hc=>?_;(first|refine aD (lj eA c.aw (s.cs.getD i aL).bD) ?_|refine aE (lj eA c.aw (s.cs.getD i aL).bD) ?_|refine aF (lj eA c.aw (s.cs.getD i aL).bD) ?_);refine cC fun pB cB Y0=>?_;(first|(refine aX (.slice pB (s.cs.getD i aL).bD.length cB) inferInstance (om) ?_;intro _)|(refine aY (.slice pB (s.cs.getD i aL).bD.length cB) inferInstance (om) ?_;intro _));repeat first|refine go ?_|intro _|refine dW ?_|refine av ?_
          ((first|apply cy (L':=(lj eA c.aw (s.cs.getD i aL).bD)::_)|apply cD (L':=(lj eA c.aw (s.cs.getD i aL).bD)::_)|apply cE (L':=(lj eA c.aw (s.cs.getD i aL).bD)::_)|apply cR (L':=(lj eA c.aw (s.cs.getD i aL).bD)::_));(focus (apply bC;(focus (exact af));all_goals exact bu)));((first|apply cy (L':=(iE y.ab[i] c (i:Int) (s.cs.getD i aL))::_)|apply cD (L':=(iE y.ab[i] c (i:Int) (s.cs.getD i aL))::_)|apply cE (L':=(iE y.ab[i] c (i:Int) (s.cs.getD i aL))::_)|apply cR (L':=(iE y.ab[i] c (i:Int) (s.cs.getD i aL))::_));(focus (apply rl;(focus (exact af));all_goals exact bu)));refine aC (k+1) (om) (om) ?_ ?_
          ·exact bH
          ·(apply eQ;(focus (exact af));all_goals exact bu)
         ·(first|refine aD (fy br c s y) ?_|refine aE (fy br c s y) ?_|refine aF (fy br c s y) ?_);refine gp Ap Hg fun hf=>?_;(first|refine aD (iE y.ab[i] c (i:Int) (s.cs.getD i aL)) ?_|refine aE (iE y.ab[i] c (i:Int) (s.cs.getD i aL)) ?_|refine aF (iE y.ab[i] c (i:Int) (s.cs.getD i aL)) ?_);refine nO fun aA fA eA Hc=>?_;(first|refine aD (jh aA c (s.cs.getD i aL).al) ?_|refine aE (jh aA c (s.cs.getD i aL).al) ?_|refine aF (jh aA c (s.cs.getD i aL).al) ?_);refine nV fun g WD=>?_;haveI:∀ L,bN (ao g 190 (aj lM (s.cs.getD i aL).al)::L) 11 (oT g (0*11) (s.cs.getD i aL).al.length (s.cs.getD i aL).al.length) (s.cs.getD i aL).al.length (aj lM (s.cs.getD i aL).al):=fun L=>qZ L;obtain ⟨hag1,Vc,hag3⟩:=WD;obtain ⟨en,h4,h5,h6,h7,h8⟩:=jb f7 Vc;repeat first|refine go ?_|intro _|refine dW ?_|refine av ?_
          apply aO (E0:=[(1,_),(2,_),(3,_),(10,_),(11,_),(213,_),(214,_)]) (fun E0 (k:Nat)=>(215,.int .i64 k)::E0) (fun _=>dj b c s x::ao aA 189 (c.cells++[oT g (0*11) (s.cs.getD i aL).al.length (s.cs.getD i aL).al.length])::ao g 190 (aj lM (s.cs.getD i aL).al)::ao y.ab[i] 179 (c.cells++[.int .i64 (i:Int),.pointer (some ⟨aA,0,none⟩),.pointer (some ⟨fA,0,none⟩),.pointer (some ⟨eA,0,none⟩)])::cW fA c.aS (s.cs.getD i aL).aP::lj eA c.aw (s.cs.getD i aL).bD ::
            Hf br c s.aR y.kb.length y.ab.length y.hb.length s.tr.length y.pk y.pa y.ph y.pt y.bn::Kc y.pk y.kb::Pb y.pa y.ab::Ss y.ph y.hb::dk y.bn c s.n::Mf y.pt s.tr::sA y.kb[i] (s.ks.getD i bQ)::bZ (((List.range y.kb.length).eraseIdx i).map (BR y s))::bZ (((List.range y.ab.length).eraseIdx i).map (BS c y s))::bZ ((List.range y.hb.length).map (BT c y s))::ao b3 25 c.cells::F) (fun k=>k≤(s.cs.getD i aL).al.length) (fun k=>(s.cs.getD i aL).al.length-k) 0
          ·exact bH
          ·exact Nat.zero_le _
          ·exact af
          ·rintro k hk;by_cases UC:k<(s.cs.getD i aL).al.length
           ·have kz:¬(lM (s.cs.getD i aL).al[k]≠lM (s.cs.getD i aL).al[k]):=fun g=>g rfl;have Xo:=fun F=>Ub (F:=F) (b:=b) (c:=c) (s:=s) (x:=x) (i:=i) (a:=(k:Int).tdiv c.al) (w:=(k:Int).tmod c.al) bB hx;rw [Ua f7 Vc UC] at Xo;have hdv:=LI (c:=c) (k:=k) ⟨h4,om⟩ (om);rw [←hdv] at Xo;repeat' (first|refine go ?_|intro _|refine dW ?_|refine av ?_|refine ae @Xo ?_|apply xN|fail)
            all_goals
              refine aC (k+1) (om) (om) ?_ ?_
              ·exact bH
              ·exact af
           ·repeat first|refine go ?_|intro _|refine dW ?_|refine av ?_
            ((first|apply cy (L':=(jh aA c (s.cs.getD i aL).al)::_)|apply cD (L':=(jh aA c (s.cs.getD i aL).al)::_)|apply cE (L':=(jh aA c (s.cs.getD i aL).al)::_)|apply cR (L':=(jh aA c (s.cs.getD i aL).al)::_));(focus (apply fL;(focus (exact af));all_goals exact bu)));((first|apply cy (L':=(iE y.ab[i] c (i:Int) (s.cs.getD i aL))::_)|apply cD (L':=(iE y.ab[i] c (i:Int) (s.cs.getD i aL))::_)|apply cE (L':=(iE y.ab[i] c (i:Int) (s.cs.getD i aL))::_)|apply cR (L':=(iE y.ab[i] c (i:Int) (s.cs.getD i aL))::_));(focus (apply rl;(focus (exact af));all_goals exact bu)));refine aC (i+1) (om) (om) ?_ ?_
            ·exact bH
            ·(apply eQ;(focus (exact af));all_goals exact bu)
     ·repeat first|refine go ?_|intro _|refine dW ?_|refine av ?_
      apply aO (E0:=[(1,_),(2,_),(3,_)]) (fun E0 (i:Nat)=>(20,.int .i64 i)::E0) (fun _=>fy br c s y::dj b c s x::ao b3 25 c.cells::F) (fun i=>i≤x.hb.length) (fun i=>x.hb.length-i) 0
      ·exact bH
      ·exact Nat.zero_le _
      ·exact af
      ·rintro d hd;by_cases Ka:d<x.hb.length
       ·have Xp:d<y.hb.length:=by omega
        have YE:=dB Ka;have hg:=dB Xp;have Sv:s.hs=s.hs.set d (s.hs.getD d dl):=bf.symm;have hHo:=fun F=>JI (F:=F) (b:=b) (c:=c) (s:=s) (x:=x) Ka;have US:=fun F=>FT (F:=F) (b:=b) (c:=c) (s:=s) (x:=x) Ka hx;(first|refine aD (fy br c s y) ?_|refine aE (fy br c s y) ?_|refine aF (fy br c s y) ?_);refine lH Xp fun hf=>?_;(first|(refine aX (.slice y.ph.1 y.hb.length y.ph.2) inferInstance (om) ?_;intro _)|(refine aY (.slice y.ph.1 y.hb.length y.ph.2) inferInstance (om) ?_;intro _));(first|refine aD (fI y.hb[d] c (d:Int) (s.hs.getD d dl)) ?_|refine aE (fI y.hb[d] c (d:Int) (s.hs.getD d dl)) ?_|refine aF (fI y.hb[d] c (d:Int) (s.hs.getD d dl)) ?_);refine jD fun p k2 be bq xs L8=>?_;(first|refine aD (oJ 196 205 bq c.aQ (s.hs.getD d dl).q) ?_|refine aE (oJ 196 205 bq c.aQ (s.hs.getD d dl).q) ?_|refine aF (oJ 196 205 bq c.aQ (s.hs.getD d dl).q) ?_);refine jY fun pq cq qs L5=>?_;obtain ⟨Sw,VC,Y1,Xm,Y2⟩:=L5;have Pw:((s.hs.getD d dl).q.length:Int)=qs.length:=by rw [←Sw,List.length_map]
        repeat first|refine go ?_|intro _|refine dW ?_|refine av ?_|refine ae @hHo ?_|refine ae @US ?_
        rename_i q1 q2;((first|apply cy (L':=(oJ 196 205 bq c.aQ (s.hs.getD d dl).q)::_)|apply cD (L':=(oJ 196 205 bq c.aQ (s.hs.getD d dl).q)::_)|apply cE (L':=(oJ 196 205 bq c.aQ (s.hs.getD d dl).q)::_)|apply cR (L':=(oJ 196 205 bq c.aQ (s.hs.getD d dl).q)::_));(focus (apply ed;(focus (exact af));all_goals exact bu)));((first|apply cy (L':=(fI y.hb[d] c (d:Int) (s.hs.getD d dl))::_)|apply cD (L':=(fI y.hb[d] c (d:Int) (s.hs.getD d dl))::_)|apply cE (L':=(fI y.hb[d] c (d:Int) (s.hs.getD d dl))::_)|apply cR (L':=(fI y.hb[d] c (d:Int) (s.hs.getD d dl))::_));(focus (apply DN;(focus (exact af));all_goals exact bu)));(first|refine aD (J4 203 (.slice q2.1 (s.hs.getD d dl).q.length q2.2) (s.hs.getD d dl).q) ?_|refine aE (J4 203 (.slice q2.1 (s.hs.getD d dl).q.length q2.2) (s.hs.getD d dl).q) ?_|refine aF (J4 203 (.slice q2.1 (s.hs.getD d dl).q.length q2.2) (s.hs.getD d dl).q) ?_);first|refine NG fun ps LY=>?_|refine Qf fun ps LY=>?_
        have Px:ps.length=(s.hs.getD d dl).q.length:=by rw [←LY,List.length_map]
        apply aO (E0:=[(1,_),(2,_),(3,_),(20,_),(269,_),(270,_)]) (fun E0 (k:Nat)=>(271,.int .i64 k)::E0) (fun _=>fy br c s y::aT 203 17 (.slice q2.1 (s.hs.getD d dl).q.length q2.2) ps.length (aj qc ps)::bZ (ps.map nr)::dj b c s x::ao b3 25 c.cells::F) (fun k=>k≤ps.length) (fun k=>ps.length-k) 0
        ·exact bH
        ·exact Nat.zero_le _
        ·(apply nR;(focus (exact af));all_goals exact bu)
        ·rintro k hk;by_cases Sk:k<ps.length
         ·(first|refine aD (fy br c s y) ?_|refine aE (fy br c s y) ?_|refine aF (fy br c s y) ?_);refine lH Xp fun hf=>?_;(first|(refine aX (.slice y.ph.1 y.hb.length y.ph.2) inferInstance (om) ?_;intro _)|(refine aY (.slice y.ph.1 y.hb.length y.ph.2) inferInstance (om) ?_;intro _));(first|refine aD (fI y.hb[d] c (d:Int) (s.hs.getD d dl)) ?_|refine aE (fI y.hb[d] c (d:Int) (s.hs.getD d dl)) ?_|refine aF (fI y.hb[d] c (d:Int) (s.hs.getD d dl)) ?_);refine jD fun p k2 be bq xs L8=>?_;(first|refine aD (oJ 196 205 bq c.aQ (s.hs.getD d dl).q) ?_|refine aE (oJ 196 205 bq c.aQ (s.hs.getD d dl).q) ?_|refine aF (oJ 196 205 bq c.aQ (s.hs.getD d dl).q) ?_);refine jY fun pq cq qs L5=>?_;obtain ⟨Sw,VC,Y1,Xm,Y2⟩:=L5;have hpq:qs.length=ps.length:=by rw [Px,←Sw,List.length_map]
          have SP:k<qs.length:=by omega
          have Pf:ps[k].1=qs[k].1:=by
            have e:ps.map (·.1)=qs.map (·.1):=by rw [LY,Sw]
            have e1:(ps.map (·.1))[k]? =(qs.map (·.1))[k]? :=by rw [e]
            rw [List.getElem?_map,List.getElem?_map,List.getElem?_eq_getElem Sk,List.getElem?_eq_getElem SP] at e1;simpa using e1
          have Y6:=fun F (r1:zP F ps) (r2:zP F qs)=>K4 (F:=F) (p:=ps[k]) (q:=qs[k]) (r1.pf _ (List.getElem_mem Sk)) (r2.pf _ (List.getElem_mem SP)) (by rw [Pf];have:=(Xm _ (List.getElem_mem SP)).2;omega);rw [decide_eq_true Pf] at Y6;(first|(refine aX (.slice pq qs.length cq) inferInstance (om) ?_;intro _)|(refine aY (.slice pq qs.length cq) inferInstance (om) ?_;intro _));repeat first|refine go ?_|intro _|refine dW ?_|refine av ?_|refine ae @Y6 ?_
          ((first|apply cy (L':=(oJ 196 205 bq c.aQ (s.hs.getD d dl).q)::_)|apply cD (L':=(oJ 196 205 bq c.aQ (s.hs.getD d dl).q)::_)|apply cE (L':=(oJ 196 205 bq c.aQ (s.hs.getD d dl).q)::_)|apply cR (L':=(oJ 196 205 bq c.aQ (s.hs.getD d dl).q)::_));(focus (apply ed;(focus (exact af));all_goals exact bu)));((first|apply cy (L':=(fI y.hb[d] c (d:Int) (s.hs.getD d dl))::_)|apply cD (L':=(fI y.hb[d] c (d:Int) (s.hs.getD d dl))::_)|apply cE (L':=(fI y.hb[d] c (d:Int) (s.hs.getD d dl))::_)|apply cR (L':=(fI y.hb[d] c (d:Int) (s.hs.getD d dl))::_));(focus (apply DN;(focus (exact af));all_goals exact bu)));refine aC (k+1) (om) (om) ?_ ?_
          ·exact bH
          ·(apply nR;(focus (exact af));all_goals exact bu)
         ·repeat first|refine go ?_|intro _|refine dW ?_|refine av ?_
          refine aC (d+1) (om) (om) ?_ ?_
          ·exact bH
          ·exact af
       ·repeat first|refine go ?_|intro _|refine dW ?_|refine av ?_
        exact aM
end
end
end Go.Sx
