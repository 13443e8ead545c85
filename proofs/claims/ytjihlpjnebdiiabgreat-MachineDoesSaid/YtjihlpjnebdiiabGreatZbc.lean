/- MaL, MaI, MaT, MaX, CaR4: several of my texts as one. My own work. -/
import Derived.Test.YtjihlpjnebdiiabGreatZau
import Derived.Test.YtjihlpjnebdiiabGreatZaw
import Derived.Test.YtjihlpjnebdiiabGreatZax
set_option linter.unusedVariables false
set_option linter.unusedSectionVars false
set_option linter.unusedSimpArgs false
set_option maxRecDepth 100000
set_option maxHeartbeats 4000000
namespace Go.Sx
open Go Go.Proofs Tryz
section
structure eG (c:au) (n:Nat) (s:cg):Prop where
  ok:aB c=true
  lk:(s.ks.length:Int)=c.ax
  la:(s.cs.length:Int)=c.ax
  lh:(s.hs.length:Int)=c.bY
  kp:∀ k∈s.ks,fl c k.l=true∧k.rs.length≤k.l.length
  ca:∀ k∈s.cs,oH c n k
  hm:∀ (i:Nat) x,s.hs[i]? =some x→tS c (i:Int) x∧0≤x.aR∧x.aR≤n
  nt:∀ k,∀ m∈dK s.n k,bU c m∧ee m.ah=k
  rm:∀ k,ma k=true→((dK s.n k).length:Int)≤iJ c k
  od:0≤s.aR∧s.aR≤n
theorem A0 {α:Type} {P:α→Prop} {l:List α} {i:Nat} {z:α} (h:∀ x∈l,P x) (hz:P z):P (l.getD i z):=by
  rw [List.getD_eq_getElem?_getD];cases e:l[i]? with
  |none=>exact hz
  |some x=>exact h x (List.mem_of_getElem? e)
theorem X4 {c:au} {n:Nat}:oH c n aL:=MX c n 0
section
variable {c:au} {n:Nat} {s:cg}
theorem eG.mono (h:eG c n s) {n':Nat} (hn:n≤n'):eG c n' s:=
  ⟨h.ok,h.lk,h.la,h.lh,h.kp,fun k hk=>Rb hn (h.ca k hk),fun i x hx=>by obtain ⟨a,b,d⟩:=h.hm i x hx;exact ⟨a,b,om⟩,h.nt,h.rm,by have:=h.od;omega⟩
theorem eG.CN (h:eG c n s) (i:Int):oH c n (gF s i):=A0 (P:=oH c n) h.ca X4
theorem eG.Sq (h:eG c n s) {i:Int} (h0:0≤i) (h1:i<c.bY):tS c i (sx s i)∧0≤(sx s i).aR∧(sx s i).aR≤n:=by
  have hl:i.toNat<s.hs.length:=by have:=h.lh;omega
  have:=h.hm i.toNat _ (List.getElem?_eq_getElem hl);have e:((i.toNat:Nat):Int)=i:=by omega
  rw [e] at this;unfold sx;rw [List.getD_eq_getElem?_getD,List.getElem?_eq_getElem hl];exact this
theorem eG.F9 (h:eG c n s) {i:Int} {k:cT} (hk:oH c n k):eG c n (re s i k):=
  ⟨h.ok,h.lk,by show ((s.cs.set _ _).length:Int)=_;rw [List.length_set];exact h.la,h.lh,h.kp,gE h.ca hk,h.hm,h.nt,h.rm,h.od⟩
theorem eG.SJ (h:eG c n s) {i:Int} {k:di} (h0:0≤i) (hk:tS c i k∧0≤k.aR∧k.aR≤n):eG c n (wy s i k):=
  ⟨h.ok,h.lk,h.la,by show ((s.hs.set _ _).length:Int)=_;rw [List.length_set];exact h.lh,h.kp,h.ca,fun j x hx=>by
    change (s.hs.set i.toNat k)[j]? =some x at hx;rw [List.getElem?_set] at hx;split at hx
    ·rename_i e;split at hx
     ·cases hx;have:(j:Int)=i:=by omega
      rw [this];exact hk
     ·cases hx
    ·exact h.hm j x hx,h.nt,h.rm,h.od⟩
theorem eG.U4 (h:eG c n s) {i:Int} {k:l7} (hk:fl c k.l=true∧k.rs.length≤k.l.length):eG c n (F5 s i k):=
  ⟨h.ok,by show ((s.ks.set _ _).length:Int)=_;rw [List.length_set];exact h.lk,h.la,h.lh,gE h.kp hk,h.ca,h.hm,h.nt,h.rm,h.od⟩
theorem vy {x:fK} {k j:Int} {l:List bA} (hk:ma k=true):dK (jK x k l) j=if j=k then l else dK x j:=by
  rcases kG hk with rfl|rfl|rfl<;>simp only [jK,dK]<;>grind
theorem eG.send (h:eG c n s) (m:bA):eG c n (so c s m):=by
  unfold so fG;by_cases hm:bU c m
  ·rw [if_pos hm];have hk:ma (ee m.ah)=true:=by
     obtain ⟨_,h2,_⟩:=hm;unfold ee ma;split<;>(try split)<;>(try split)<;>first|(simp;done)|omega
   refine ⟨h.ok,h.lk,h.la,h.lh,h.kp,h.ca,h.hm,fun k x hx=>?_,fun k sv=>?_,h.od⟩
   ·change x∈dK (jK s.n _ _) k at hx;rw [vy hk] at hx;split at hx
    ·rename_i e;subst e;unfold kB at hx;split at hx
     ·exact h.nt _ x hx
     ·rcases List.mem_append.1 hx with g|g
      ·exact h.nt _ x g
      ·obtain rfl:=List.mem_singleton.1 g;exact ⟨hm,rfl⟩
    ·exact h.nt k x hx
   ·show ((dK (jK s.n _ _) k).length:Int)≤_;rw [vy hk];split
    ·rename_i e;subst e;exact P3 (h.rm _ hk)
    ·exact h.rm k sv
  ·rw [if_neg hm];exact h
theorem eG.take (h:eG c n s) (k i:Int):eG c n (vH s (cU s.n k i)):=by
  have Pd:∀ {l:List bA} {x:bA},x∈nG l i→x∈l:=fun {l x} hx=>by
    unfold nG at hx;split at hx
    ·exact List.mem_of_mem_eraseIdx hx
    ·exact hx
  have hlen:∀ {l:List bA},(nG l i).length≤l.length:=fun {l}=>by
    unfold nG;split
    ·exact List.length_eraseIdx_le _ _
    ·exact Nat.le_refl _
  by_cases hk:ma k=true
  ·refine ⟨h.ok,h.lk,h.la,h.lh,h.kp,h.ca,h.hm,fun j x hx=>?_,fun j hj=>?_,h.od⟩
   ·change x∈dK (jK s.n k (nG (dK s.n k) i)) j at hx;rw [vy hk] at hx;split at hx
    ·rename_i e;subst e;exact h.nt _ x (Pd hx)
    ·exact h.nt j x hx
   ·show ((dK (jK s.n k (nG (dK s.n k) i)) j).length:Int)≤_;rw [vy hk];split
    ·rename_i e;subst e;have:=h.rm _ hk;have:=hlen (l:=dK s.n j);omega
    ·exact h.rm j hj
  ·have:cU s.n k i=s.n:=by
     unfold cU jK;have sv:¬(0≤k∧k<3):=by simpa [ma] using hk
     rw [if_neg (om),if_neg (om),if_neg (om)]
   rw [this];exact h
theorem eG.aR (h:eG c n s) (b:Bool):eG c (n+1) (Cn s b):=by
  have h':=h.mono (Nat.le_succ n);refine ⟨h'.ok,h'.lk,h'.la,h'.lh,h'.kp,h'.ca,h'.hm,h'.nt,h'.rm,?_⟩;have:=h.od
  show 0≤(if b then s.aR+1 else s.aR)∧(if b then s.aR+1 else s.aR)≤_;split<;>omega
theorem l6 {x:fK} {k i:Int} (h:gv x k i=true):bE x k i∈dK x k:=by
  unfold gv at h;unfold bE sQ;rw [h];unfold qH at h;have h:=of_decide_eq_true h;have hl:i.toNat<(dK x k).length:=by omega
  show (dK x k).getD i.toNat .zero∈_;rw [List.getD_eq_getElem?_getD,List.getElem?_eq_getElem hl];exact List.getElem_mem hl
theorem Lu {m:bA} (hc:aB c=true) (hl:0≤m.aa∧m.aa<c.aZ):0≤fQ c m∧fQ c m<c.bY:=by
  have:=(kL hc).2.1;unfold fQ;rw [Int.tmod_eq_emod_of_nonneg hl.1];exact ⟨Int.emod_nonneg _ (om),Int.emod_lt_of_pos _ (om)⟩
theorem rY {m:bA} (h:bU c m) (hh:cA m.ah):0≤m.dst∧m.dst<c.bY:=by
  obtain ⟨g1,g2,g3,g4,g5⟩:=h;unfold iF at g4;rw [if_pos hh] at g4;rw [g4.2.1];exact Lu g1 g3
theorem tY {m:bA} (h:bU c m) (hh:¬cA m.ah):0≤m.dst∧m.dst<c.ax:=by
  obtain ⟨g1,g2,g3,g4,g5⟩:=h;unfold iF at g4;rw [if_neg hh] at g4;split at g4
  ·exact g4.2.2.2.1
  ·split at g4
   ·exact g4.2.2.2.1
   ·split at g4
    ·exact g4.2.2.1
    ·split at g4
     ·exact g4.2.1
     ·split at g4
      ·exact g4.2.1
      ·exact g4.2.1
theorem eG.Vz (h:eG c n s) {i:Int} {x:c5} {v:Int} (hh:kZ (cI s i)=true):eG c n (Co s i x v):=by
  by_cases hi:i.toNat<s.ks.length
  ·have e:cI s i=s.ks[i.toNat]:=by unfold cI;rw [List.getD_eq_getElem?_getD,List.getElem?_eq_getElem hi];rfl
   have hk:=h.kp _ (List.getElem_mem hi);rw [←e] at hk;have bB:(cI s i).rs.length≠(cI s i).l.length:=by simpa [kZ,kY] using hh
   have h2:=h.U4 (i:=i) (k:=u6 (cI s i) v) ⟨hk.1,by show ((cI s i).rs++[v]).length≤_;rw [List.length_append];simp;show _≤(cI s i).l.length;omega⟩;exact ⟨h2.ok,h2.lk,h2.la,h2.lh,h2.kp,h2.ca,h2.hm,h2.nt,h2.rm,h2.od⟩
  ·have e:cI s i=bQ:=by unfold cI;rw [List.getD_eq_getElem?_getD,List.getElem?_eq_none (om)];rfl
   rw [e] at hh;cases hh
theorem eG.U5 (h:eG c n s) {i:Int} {x:c5} (hh:kZ (cI s i)=true):eG c n (q5 c s i x):=by
  unfold q5;split
  ·exact (h.F9 (Wi (h.CN i))).Vz hh
  ·exact h
theorem eG.ev (h:eG c n s) {i w:Int} {x:c5}:eG c n (AE c s i x w):=by
  unfold AE;split
  ·exact (h.F9 (R0 (h.CN i))).send _
  ·exact h.F9 (R0 (h.CN i))
theorem eG.act (h:eG c n s) {i w:Int}:eG c n (cm c s i w):=by
  unfold cm;split
  ·exact (h.F9 (TK (h.CN i))).send _
  ·split
   ·exact h
   ·rename_i hh;have hh:kZ (cI s i)=true:=by simpa using hh
    split
    ·split
     ·exact h.Vz hh
     ·exact h
    ·split
     ·exact h.U5 hh
     ·split
      ·exact h
      ·split
       ·exact (h.F9 (MW (h.CN i))).send _
       ·split
        ·exact h.ev
        ·exact h
theorem eG.taken (h:eG c n s) (m:bA):eG c (n+1) (q6 c s m):=by
  have h1:=(h.mono (Nat.le_succ n)).F9 (i:=m.dst) (k:=cw c m.dst (gF s m.dst) m) (Rc (h.CN m.dst));have h2:∀ b:Bool,eG c (n+1) (Cn (re s m.dst (cw c m.dst (gF s m.dst) m)) b):=fun b=>by
    refine ⟨h1.ok,h1.lk,h1.la,h1.lh,h1.kp,h1.ca,h1.hm,h1.nt,h1.rm,?_⟩;have:=h.od
    show 0≤(if b then s.aR+1 else s.aR)∧(if b then s.aR+1 else s.aR)≤_;split<;>omega
  unfold q6;split
  ·exact (h2 _).send _
  ·exact h2 _
theorem eG.thn (h:eG c n s) (m:bA):eG c n (jX c s m):=by
  unfold jX;split
  ·rename_i g;exact h.U5 g.1
  ·exact h
theorem IM {i:Int} {k:di} {m:bA}:(iK c i k m).aR=k.aR:=by unfold iK;split<;>rfl
theorem GQ {i:Int} {k:di} {m:bA}:(iB c i k m).aR=k.aR:=by unfold iB;split<;>rfl
theorem eG.del (h:eG c n s) (k i:Int):eG c (n+1) (dA c s k i):=by
  have hm:=h.mono (Nat.le_succ n);unfold dA;split
  ·exact hm
  ·rename_i g;have hb:gv s.n k i=true:=by cases e:gv s.n k i with|true=>rfl|false=>exact absurd (.inl e) g
   have gP:=h.nt k _ (l6 hb);have ht:=h.take k i;split
   ·rename_i Sr;subst Sr;have hh:cA (bE s.n 0 i).ah:=by
      have:=gP.2;unfold ee at this;unfold cA;split at this
      ·exact .inl (by assumption)
      ·split at this
       ·omega
       ·split at this<;>omega
    have hr:=rY gP.1 hh;split
    ·have hI:=h.Sq hr.1 hr.2;have:=h.SJ (i:=(bE s.n 0 i).dst) (k:=iK c (bE s.n 0 i).dst (sx s (bE s.n 0 i).dst) (bE s.n 0 i)) hr.1 ⟨QR hI.1 _,by rw [IM];exact hI.2⟩;exact (this.take 0 i).mono (Nat.le_succ n)
    ·exact hm
   ·split
    ·rename_i BN;subst BN;exact ht.taken _
    ·split
     ·rename_i qG;have hr:=rY gP.1 (.inr qG);have hI:=ht.Sq hr.1 hr.2;have:=ht.SJ (i:=(bE s.n k i).dst) (k:=iB c (bE s.n k i).dst (sx (vH s (cU s.n k i)) (bE s.n k i).dst) (bE s.n k i)) hr.1 ⟨N5 hI.1 _,by rw [GQ];exact hI.2⟩;exact this.aR _
     ·exact (ht.taken _).thn _
theorem eG.X5 (h:eG c n s) {i j:Int} (h0:0≤i) (h1:i<c.bY):eG c (n+1) (jC c s i j):=by
  have hI:=h.Sq h0 h1;have ho:=Tn (c:=c) (s:=sx s i) j (zK c s);have:=(h.mono (Nat.le_succ n)).SJ (i:=i) (k:=cQ c (sx s i) j (zK c s)) h0 ⟨N8 hI.1 _ _,om,om⟩;unfold jC;split
  ·exact this.send _
  ·exact this
theorem eG.look (h:eG c n s) {i d:Int}:eG c n (fq c s i d):=by
  unfold fq;split
  ·exact h
  ·split
   ·have hk:fl c (o4 (cI s i) d).l=true∧(o4 (cI s i) d).rs.length≤(o4 (cI s i) d).l.length∨¬i.toNat<s.ks.length:=by
      by_cases hi:i.toNat<s.ks.length
      ·left;have e:cI s i=s.ks[i.toNat]:=by unfold cI;rw [List.getD_eq_getElem?_getD,List.getElem?_eq_getElem hi];rfl
       have hk:=h.kp _ (List.getElem_mem hi);rw [←e] at hk;exact hk
      ·exact .inr hi
    have h2:eG c n (F5 s i (o4 (cI s i) d)):=by
      rcases hk with hk|hk
      ·exact h.U4 hk
      ·have:F5 s i (o4 (cI s i) d)=s:=by unfold F5;rw [List.set_eq_of_length_le (om)]
       rw [this];exact h
    exact (h2.F9 (MW (h.CN i))).send _
   ·exact h
theorem eG.pick (h:eG c n s) (p:Pk):eG c (n+1) (dN c s p):=by
  have hm:=h.mono (Nat.le_succ n);unfold dN;split
  ·exact hm
  ·rename_i g;split
   ·exact h.del _ _
   ·split
    ·rename_i g2;have:=g2.2;have hl:=h.lh;simp only [qK,decide_eq_true_eq] at this;exact h.X5 (om) (om)
    ·split
     ·exact h.act.mono (Nat.le_succ n)
     ·split
      ·exact h.look.mono (Nat.le_succ n)
      ·exact hm
theorem eG.new {ps:List (List c5)} (h:sM c ps=true):eG c 0 (cx c ps):=by
  simp only [sM,Bool.and_eq_true,decide_eq_true_eq,List.all_eq_true] at h;obtain ⟨⟨hc,hl⟩,hp⟩:=h;have hb:=kL hc;refine ⟨hc,by show ((ps.map _).length:Int)=_;rw [List.length_map];exact hl,by show ((ps.map _).length:Int)=_;rw [List.length_map];exact hl,?_,?_,?_,?_,?_,?_,⟨by show (0:Int)≤0;omega,by show (0:Int)≤0;omega⟩⟩
  ·show (((List.range c.bY.toNat).map _).length:Int)=_;rw [List.length_map,List.length_range];have:=hb.2.1;omega
  ·intro k hk;obtain ⟨l,hl,rfl⟩:=List.mem_map.1 hk;exact ⟨hp l hl,Nat.zero_le _⟩
  ·intro k hk;obtain ⟨l,hl,rfl⟩:=List.mem_map.1 hk;exact MX c 0 _
  ·intro i x hx;change ((List.range c.bY.toNat).map _)[i]? =some x at hx;rw [List.getElem?_map] at hx;cases e:(List.range c.bY.toNat)[i]? with
   |none=>rw [e] at hx;cases hx
   |some j=>
    rw [e] at hx;cases hx;obtain ⟨hi,e⟩:=List.getElem?_eq_some_iff.1 e;rw [List.getElem_range] at e;subst e;rw [List.length_range] at hi;exact ⟨QQ (by unfold tA;rw [hc,decide_eq_true (om)];rfl),by show (0:Int)≤0;omega,by show (0:Int)≤0;omega⟩
  ·intro k m hm;simp only [cx,dK] at hm;split at hm<;>(try split at hm)<;>(try split at hm)<;>cases hm
  ·intro k hk;simp only [aB,eJ,Bool.and_eq_true,decide_eq_true_eq] at hc;rcases kG hk with rfl|rfl|rfl<;>simp only [cx,dK,iJ]<;>simp<;>omega
def dh (c:au) (s:cg) (l:List Pk):cg:=l.foldl (dN c) s
theorem tl {l:List Pk} {i:Nat} (hi:i<l.length):dh c s (l.take (i+1))=dN c (dh c s (l.take i)) l[i]:=by
  unfold dh;rw [List.take_add_one,List.getElem?_eq_getElem hi,Option.toList_some,List.foldl_append];rfl
theorem eG.R1 (h:eG c n s) (l:List Pk):eG c (n+l.length) (dh c s l):=by
  unfold dh;induction l generalizing n s with
  |nil=>exact h
  |cons p l ih=>
   rw [List.foldl_cons,List.length_cons];have:=ih (h.pick p);rw [show n+(l.length+1)=n+1+l.length by omega];exact this
end
end
section
section
variable {c:au} {n:Nat} {s:cg}
theorem A1 {ap ah aa:Int} {w:Words} (hl:bG c aa=true) (hc:0≤ap∧ap<c.ax) (hk:(ah=1∨ah=2∨ah=11)∧w= .zero∨ah=3∧cG c w):bU c (gj c ap ah aa w):=by
  have yH:=hl;unfold bG at hl;simp only [Bool.and_eq_true,decide_eq_true_eq] at hl;have hh:cA ah:=by unfold cA;omega
  refine ⟨hl.1,by show 1≤ah∧ah≤11;omega,hl.2,?_,?_⟩
  ·unfold iF;rw [if_pos (show cA (gj c ap ah aa w).ah from hh)];refine ⟨hc,?_,rfl,rfl,by show (0:Int)≤0;omega,by show (0:Int)<_;simp⟩
   show uY c aa=fQ c (gj c ap ah aa w);unfold uY fQ;rw [if_pos yH,Int.tmod_eq_emod_of_nonneg (show 0≤(gj c ap ah aa w).aa from hl.2.1)];rfl
  ·unfold fM;rcases hk with ⟨hk,hw⟩|⟨hk,hw⟩
   ·rw [if_neg (by show ¬iG ah;unfold iG;omega)];exact hw
   ·rw [if_pos (by show iG ah;unfold iG;omega)];exact hw
theorem TR {k:cT} (h:oH c n k) {sw w:Int} (hs:(iw c k.al sw w).st≠0):bG c (iw c k.al sw w).aa=true:=by
  obtain ⟨i,hi,e⟩:=List.getElem_of_mem (Eb hs);rw [←e] at hs ⊢;exact (h.1.1 i hi (by unfold cr;simp [hs])).1
theorem TT {k:cT} (h:oH c n k) (hb:gT k=true):bG c (dz k)=true:=by
  unfold gT at hb;have hb:=of_decide_eq_true hb;unfold dz;rw [if_pos hb];obtain ⟨i,hi,e,_⟩:=fx hb;have e':gx k.aP=i:=e;rw [e',List.getD_eq_getElem?_getD,Int.toNat_natCast,List.getElem?_eq_getElem hi];exact (h.1.2.2 _ (List.getElem_mem hi)).1
theorem yD {m:bA} (hm:bU c m) (hr:0<c8 c s.n (ee m.ah)):pz c s m=true:=by
  unfold pz lq;rw [if_pos hm];unfold nz;unfold c8 at hr;rw [if_neg (om)];rfl
theorem eG.Xc (h:eG c n s) (i:Int):oH c n (gF s i):=h.CN i
theorem bf {α:Type} {l:List α} {i:Nat} {z:α}:l.set i (l.getD i z)=l:=by
  by_cases hi:i<l.length
  ·rw [List.getD_eq_getElem?_getD,List.getElem?_eq_getElem hi];exact List.set_getElem_self hi
  ·exact List.set_eq_of_length_le (om)
theorem wQ (h:eG c n s) {k:Int} (hk:ma k=true):0≤c8 c s.n k:=by unfold c8;have:=h.rm k hk;omega
theorem Ox {k:cT} {aa ah:Int} (h:dd c k aa ah=0):bG c aa=true∧(ah=1∨ah=2):=by
  refine ⟨MP h,?_⟩;unfold dd at h;split at h
  ·cases h
  ·rename_i g;omega
theorem Lv (h:eG c n s) {i:Int} (hi:0≤i∧i<c.ax) (h2:0<c8 c s.n 2) (hb:gT (gF s i)=true):pz c s (iW c i (gF s i))=true:=by
  have e:iW c i (gF s i)=gj c i 11 (dz (gF s i)) .zero:=by unfold iW;rw [if_pos hb]
  rw [e];exact yD (A1 (TT (h.Xc i) hb) hi (.inl ⟨om,rfl⟩)) h2
theorem Dz (h:eG c n s) {i aa ah:Int} (hi:0≤i∧i<c.ax) (h2:c8 c s.n 0≠0) (he:dd c (gF s i) aa ah=0):pz c s (dm c i (gF s i) aa ah)=true:=by
  have e:dm c i (gF s i) aa ah=gj c i ah aa .zero:=by unfold dm;rw [if_pos he]
  obtain ⟨g1,g2⟩:=Ox he;rw [e];refine yD (A1 g1 hi (.inl ⟨om,rfl⟩)) ?_;have:=wQ h (k:=0) rfl;have e2:ee (gj c i ah aa .zero).ah=0:=by show ee ah=0;unfold ee;rw [if_pos (om)]
  rw [e2];omega
theorem Oy (h:eG c n s) {i sw w:Int} (hi:0≤i∧i<c.ax) (h2:c8 c s.n 0≠0) (hb:iI c (gF s i) sw w=true):pz c s (jT c i (gF s i) sw w)=true:=by
  have e:jT c i (gF s i) sw w=gj c i 3 (iw c (gF s i).al sw w).aa (iw c (gF s i).al sw w).ag:=by unfold jT;rw [if_pos hb]
  rw [e];unfold iI at hb;have hb:=of_decide_eq_true hb;refine yD (A1 (TR (h.Xc i) (om)) hi (.inr ⟨rfl,RZ (h.Xc i).2.2.1 _ _⟩)) ?_;have:=wQ h (k:=0) rfl;have e2:ee (gj c i 3 (iw c (gF s i).al sw w).aa (iw c (gF s i).al sw w).ag).ah=0:=rfl;rw [e2];omega
end
end
section
def B7 (s:cg):List (List c5×List Int)×List Aq:=(s.ks.map fun k=>(k.l,k.rs),s.tr)
def Ga (s s':cg):Prop:=B7 s'=B7 s∨∃ (i:Int) (v:Int),0≤i∧i<s.ks.length∧kZ (cI s i)=true∧B7 s'=B7 (Co s i (gw (cI s i)) v)
section
variable {c:au} {n:Nat} {s:cg}
theorem JL {i:Int} (h0:0≤i) (h1:i<s.ks.length) (hh:kZ (cI s i)=true):Ga s (q5 c s i (gw (cI s i))):=by
  unfold q5;split
  ·exact .inr ⟨i,_,h0,h1,hh,rfl⟩
  ·exact .inl rfl
theorem TV {i w:Int} (h0:0≤i) (h1:i<s.ks.length):Ga s (cm c s i w):=by
  unfold cm;split
  ·exact .inl rfl
  ·split
   ·exact .inl rfl
   ·rename_i hh;have hh:kZ (cI s i)=true:=by simpa using hh
    split
    ·split
     ·exact .inr ⟨i,_,h0,h1,hh,rfl⟩
     ·exact .inl rfl
    ·split
     ·exact JL h0 h1 hh
     ·split
      ·exact .inl rfl
      ·split
       ·exact .inl rfl
       ·split
        ·unfold AE;split<;>exact .inl rfl
        ·exact .inl rfl
theorem Ac (m:bA):B7 (q6 c s m)=B7 s∧(q6 c s m).ks=s.ks:=by unfold q6;split<;>exact ⟨rfl,rfl⟩
theorem Wj {s s1 s2:cg} (h1:B7 s1=B7 s∧s1.ks=s.ks) (h2:Ga s1 s2):Ga s s2:=by
  rcases h2 with h2|⟨i,v,g0,g1,g2,g3⟩
  ·exact .inl (h2.trans h1.1)
  ·have hk:cI s1 i=cI s i:=by unfold cI;rw [h1.2]
   refine .inr ⟨i,v,g0,by rw [←h1.2];exact g1,by rw [←hk];exact g2,?_⟩;rw [g3,hk];have ht:s1.tr=s.tr:=congrArg Prod.snd h1.1;unfold B7 Co;rw [hk,h1.2,ht]
theorem Rj {m:bA} (h0:0≤m.dst) (h1:m.dst<s.ks.length):Ga s (jX c s m):=by
  unfold jX;split
  ·rename_i g;exact JL h0 h1 g.1
  ·exact .inl rfl
theorem TX (h:eG c n s) {k i:Int}:Ga s (dA c s k i):=by
  unfold dA;split
  ·exact .inl rfl
  ·rename_i g;have hb:gv s.n k i=true:=by cases e:gv s.n k i with|true=>rfl|false=>exact absurd (.inl e) g
   have gP:=h.nt k _ (l6 hb);split
   ·split<;>exact .inl rfl
   ·rename_i Sr;split
    ·exact .inl (Ac _).1
    ·rename_i BN;split
     ·exact .inl rfl
     ·rename_i qG;have VA:¬cA (bE s.n k i).ah:=by
        rintro (g|g)
        ·have:=gP.2;unfold ee at this;rw [if_pos g] at this;omega
        ·exact qG g
      have hr:=tY gP.1 VA;have:=h.lk;exact Wj (s1:=q6 c (vH s (cU s.n k i)) (bE s.n k i)) ⟨(Ac _).1.trans rfl,(Ac _).2.trans rfl⟩ (Rj hr.1 (by rw [(Ac _).2];show _<((s.ks.length:Nat):Int);omega))
theorem Rk (h:eG c n s) (p:Pk):Ga s (dN c s p):=by
  unfold dN;split
  ·exact .inl rfl
  ·rename_i g;split
   ·exact TX h
   ·split
    ·unfold jC;split<;>exact .inl rfl
    ·split
     ·rename_i g3;have:=g3.2;simp only [qK,decide_eq_true_eq] at this;exact TV (om) (om)
     ·split
      ·unfold fq;split
       ·exact .inl rfl
       ·split
        ·refine .inl ?_;have:(F5 s p.a (o4 (cI s p.a) (1+p.b.tmod 4))).ks.map (fun k=>(k.l,k.rs))=s.ks.map fun k=>(k.l,k.rs):=by
           show (s.ks.set _ _).map _=_;rw [List.map_set];have:((o4 (cI s p.a) (1+p.b.tmod 4)).l,(o4 (cI s p.a) (1+p.b.tmod 4)).rs)=(s.ks.map fun k=>(k.l,k.rs)).getD p.a.toNat ([],[]):=by
             rw [List.getD_eq_getElem?_getD,List.getElem?_map];unfold o4 cI;rw [List.getD_eq_getElem?_getD];cases s.ks[p.a.toNat]? <;>rfl
           rw [this,bf]
         show ((F5 s p.a (o4 (cI s p.a) (1+p.b.tmod 4))).ks.map _,s.tr)=_;rw [this];rfl
        ·exact .inl rfl
      ·exact .inl rfl
end
end
section
section
variable {c:au} {n:Nat} {s:cg} {i:Int}
theorem R2 (h:eG c n s) (hh:kZ (cI s i)=true):k8 (gw (cI s i))=true∧(gw (cI s i)).addr<eh c:=by
  by_cases hi:i.toNat<s.ks.length
  ·have e:cI s i=s.ks[i.toNat]:=by unfold cI;rw [List.getD_eq_getElem?_getD,List.getElem?_eq_getElem hi];rfl
   have hk:=h.kp _ (List.getElem_mem hi);rw [←e] at hk;have bB:(cI s i).rs.length≠(cI s i).l.length:=by simpa [kZ,kY] using hh
   have hl:(cI s i).rs.length<(cI s i).l.length:=by omega
   have hm:gw (cI s i)∈(cI s i).l:=by
     unfold gw kC;rw [List.getD_eq_getElem?_getD,List.getElem?_eq_getElem hl];exact List.getElem_mem hl
   have:=hk.1;unfold fl at this;simp only [Bool.and_eq_true,List.all_eq_true,decide_eq_true_eq] at this;exact this.1.1 _ hm
  ·have e:cI s i=bQ:=by unfold cI;rw [List.getD_eq_getElem?_getD,List.getElem?_eq_none (om)];rfl
   rw [e] at hh;cases hh
end
end
section
theorem Wk {c:au} {x:c5} (h:zI c x=0):k8 x=true∧fE c x.addr=true∧x.ah≠4:=by
  unfold zI at h;split at h
  ·rename_i h1;simp only [nA,Bool.and_eq_true,Bool.not_eq_true',decide_eq_false_iff_not] at h1;exact ⟨h1.1.2,h1.1.1,h1.2⟩
  ·cases h
theorem xp {c:au} {a:Int} (h:fE c a=true):a.tdiv c.ag=dS c a∧0≤a:=by
  have h':=h;simp only [fE,Bool.and_eq_true,decide_eq_true_eq] at h';have e:dS c a=a / c.ag:=if_pos h;exact ⟨by rw [e,Int.tdiv_eq_ediv_of_nonneg h'.2.1],h'.2.1⟩
theorem Lw {c:au} {a:Int} (h:fE c a=true):bG c (dS c a)=true:=by
  have h':=h;simp only [fE,Bool.and_eq_true,decide_eq_true_eq] at h';obtain ⟨hc,h0,h1⟩:=h';have hw:=dR hc;have e:dS c a=a / c.ag:=if_pos h;have h2:0≤a / c.ag:=Int.ediv_nonneg h0 (om);have h3:a / c.ag<c.aZ:=Int.ediv_lt_of_lt_mul (om) (by rw [Int.mul_comm];exact h1);simp [bG,hc,e,h2,h3]
attribute [local irreducible] Exit.then Exit.inBlock Code.wp WC WO WE WQ V aW dL Sat bz bK dU IntKind.wrap WR Code.rounds WT KO
theorem jk {Q P:Prop} (k:Q) (h:Hid Q→P:=by
  intro k
  first
  |(refine an ?_;refine bF (id:=1) .true (pl:= .p 0 <| .p 1 <| .p 2 <| .p 4 <| .r 3 <| .r 5 <| .e true [(6,.p 7 <| .p 8 <| .p 9 <| .p 10 <| .e false [(11,.e false [(12,.p 13 <| .p 14 <| .done)])]),(11,.e true [(6,.p 7 <| .p 8 <| .p 9 <| .p 10 <| .e false [(12,.p 13 <| .p 14 <| .done)])])]) k.out)
  |(refine an ?_;refine bF (id:=8) .true (pl:= .p 0 <| .p 1 <| .p 2 <| .p 4 <| .r 3 <| .r 5 <| .r 6 <| .e true [(7,.p 8 <| .p 9 <| .p 10 <| .p 11 <| .e false [(12,.e false [(13,.p 14 <| .p 15 <| .done)])]),(12,.e true [(7,.p 8 <| .p 9 <| .p 10 <| .p 11 <| .e false [(13,.p 14 <| .p 15 <| .done)])])]) k.out)
  |(refine an ?_;refine bF (id:=10) .true (pl:= .p 0 <| .p 1 <| .p 2 <| .p 4 <| .r 3 <| .r 5 <| .e true [(6,.done)]) k.out)):P:=h ⟨k⟩
theorem Lx {F:List HP} {b a f e:Nat} {c:au} {ap:Int} {x:c5} {k:cT} (hc:aB c=true) (hx:x.wf) :
    az prog 182 [.pointer (some ⟨b,0,none⟩),ov x] (kU b a f e c ap k) F (fun r L'=>r= .tuple [.int .i64 (nJ c k x),.int .i64 (kf c k x)].toArray∧L'=kU b a f e c ap (ff c k x)):=by
  have I7:=fun F w=>GM (F:=F) (c:=c) (w:=w) (x:=x) (gA hc) hx;by_cases h0:zI c x=0
  ·simp only [h0] at I7;obtain ⟨hm,cO,hk4⟩:=Wk h0;obtain ⟨Wl,Uw⟩:=xp cO;have hdiv:IntKind.i64.wrap (x.addr.tdiv c.ag)=dS c x.addr:=by rw [Wl];exact k9 (jL (c:=c) (a:=x.addr)).1 (jL (c:=c) (a:=x.addr)).2
   have hw:=dR hc;have hkf:=C5 hm;have qL:kf c k x=if ls c k (dS c x.addr) (bJ x) then 0 else 5:=if_pos h0;have sy:=fun F=>iN (F:=F) (b:=a) (c:=c) (l:=k.al) (aa:=dS c x.addr);have j9:=fun F=>jO (F:=F) (b:=a) (c:=c) (l:=k.al) (aa:=dS c x.addr) (st:=4) (w:=vN c (bg c k.al (dS c x.addr)).ag x);have ik:=fun F=>BF (F:=F) (b:=b) (a:=a) (f:=f) (e:=e) (c:=c) (ap:=ap) (k:=k) (ah:=bJ x) (aa:=dS c x.addr) (by unfold bJ;split<;>omega);have IN:=fun F=>I7 F .zero;have U6:=fun F=>I7 F (bg c k.al (dS c x.addr)).ag;cases h1:ls c k (dS c x.addr) (bJ x) with
   |false=>
    simp only [h1] at ik;have e1:kf c k x=5:=by rw [qL,h1];rfl
    have e2:nJ c k x=0:=by unfold nJ;rw [e1];rfl
    have e3:ff c k x=k:=by unfold ff;rw [e1];rfl
    rw [e1,e2,e3];by_cases h2:x.ah=1
    ·have e4:bJ x=1:=if_pos h2;rw [e4] at ik;refine ay func182 ntmps182 ?_;repeat' (first|refine go ?_|intro _|refine jk ?_|refine av ?_|refine ae @IN ?_|refine bj ?_ ?_|fail)
     all_goals rw [hdiv]
     all_goals repeat' (first|refine go ?_|intro _|refine jk ?_|refine av ?_|refine ae @sy ?_|refine ae @ik ?_|refine bj ?_ ?_|fail)
     all_goals exact aM
    ·have e4:bJ x=2:=if_neg h2;rw [e4] at ik;refine ay func182 ntmps182 ?_;repeat' (first|refine go ?_|intro _|refine jk ?_|refine av ?_|refine ae @IN ?_|refine bj ?_ ?_|fail)
     all_goals rw [hdiv]
     all_goals repeat' (first|refine go ?_|intro _|refine jk ?_|refine av ?_|refine ae @sy ?_|refine ae @ik ?_|refine bj ?_ ?_|fail)
     all_goals exact aM
   |true=>
    simp only [h1] at ik;have e1:kf c k x=0:=by rw [qL,h1];rfl
    have e2:nJ c k x=BM c (bg c k.al (dS c x.addr)).ag x:=if_pos e1;by_cases h2:x.ah=1
    ·have e4:bJ x=1:=if_pos h2;have e3:ff c k x=k:=if_neg (fun h=>h.2 h2);rw [e1,e2,e3];rw [e4] at ik;refine ay func182 ntmps182 ?_;repeat' (first|refine go ?_|intro _|refine jk ?_|refine av ?_|refine ae @IN ?_|refine bj ?_ ?_|fail)
     all_goals rw [hdiv]
     all_goals repeat' (first|refine go ?_|intro _|refine jk ?_|refine av ?_|refine ae @sy ?_|refine ae @ik ?_|refine ae @U6 ?_|refine bj ?_ ?_|fail)
     all_goals exact aM
    ·have e4:bJ x=2:=if_neg h2;have e3:ff c k x=⟨db c k.al (dS c x.addr) 4 (vN c (bg c k.al (dS c x.addr)).ag x),k.aP,k.bD⟩:=if_pos ⟨e1,h2⟩;rw [e1,e2,e3];rw [e4] at ik;refine ay func182 ntmps182 ?_;repeat' (first|refine go ?_|intro _|refine jk ?_|refine av ?_|refine ae @IN ?_|refine bj ?_ ?_|fail)
     all_goals rw [hdiv]
     all_goals repeat' (first|refine go ?_|intro _|refine jk ?_|refine av ?_|refine ae @sy ?_|refine ae @ik ?_|refine ae @U6 ?_|refine ae @j9 ?_|refine bj ?_ ?_|fail)
     all_goals exact aM
  ·have e1:kf c k x=zI c x:=if_neg h0;have e2:nJ c k x=0:=by unfold nJ;rw [e1,if_neg h0]
   have e3:ff c k x=k:=by unfold ff;rw [e1,if_neg (fun h=>h0 h.1)]
   rw [e1,e2,e3];have IN:=fun F=>I7 F .zero;refine ay func182 ntmps182 ?_;repeat' (first|refine go ?_|intro _|refine jk ?_|refine av ?_|refine ae @IN ?_|refine bj ?_ ?_|fail)
   all_goals exact aM
theorem mS {Q P:Prop} (k:Q) (h:Hid Q→P:=by
  intro k
  first
  |(refine an ?_;refine bF (id:=1) .true (pl:= .p 0 <| .p 2 <| .p 3 <| .p 4 <| .p 6 <| .p 8 <| .r 1 <| .r 5 <| .r 7 <| .r 9 <| .p 10 <| .e true [(11,.e true [(12,.done)])]) k.out)
  |(refine an ?_;refine bF (id:=6) .true (pl:= .p 0 <| .p 1 <| .p 2 <| .p 4 <| .r 3 <| .r 5 <| .e true [(6,.p 7 <| .p 8 <| .p 9 <| .p 10 <| .e false [(11,.e false [(12,.p 13 <| .p 14 <| .done)])]),(11,.e true [(6,.p 7 <| .p 8 <| .p 9 <| .p 10 <| .e false [(12,.p 13 <| .p 14 <| .done)])])]) k.out)
  |(refine an ?_;refine bF (id:=9) .true (pl:= .p 0 <| .p 1 <| .p 2 <| .p 4 <| .p 6 <| .p 7 <| .r 3 <| .r 5 <| .r 8 <| .e true [(9,.done)]) k.out)
  |(refine an ?_;refine bF (id:=11) .true (pl:= .p 0 <| .p 1 <| .p 2 <| .p 4 <| .r 3 <| .r 5 <| .e true [(6,.p 7 <| .p 8 <| .p 9 <| .e false [(10,.e false [(11,.p 12 <| .done)])]),(10,.e true [(6,.p 7 <| .p 8 <| .p 9 <| .e false [(11,.p 12 <| .done)])])]) k.out)
  |(refine an ?_;refine bF (id:=15) .true (pl:= .p 0 <| .p 1 <| .p 2 <| .p 4 <| .r 3 <| .r 5 <| .e true [(6,.done)]) k.out)):P:=h ⟨k⟩
theorem BH {F:List HP} {b a f e:Nat} {c:au} {ap:Int} {m:bA} {k:cT} (hk:m.ah=4∨m.ah=5) :
    az prog 320 [.pointer (some ⟨b,0,none⟩),mv m] (kU b a f e c ap k) F
      (fun r L'=>r= .tuple [mv (fp c ap k m (if m.ah=5 then 4 else 1)),.bool (decide (fe c k m.aa=0)),.int .i64 (fe c k m.aa)].toArray∧L'=kU b a f e c ap (eo c k m.aa (if m.ah=5 then 0 else 3) (decide (m.ah=5)))):=by
  have sy:=fun F=>iN (F:=F) (b:=a) (c:=c) (l:=k.al) (aa:=m.aa);have L6:=fun F=>uS (F:=F) (b:=e) (ak:=c.aw) (l:=k.bD) (aa:=m.aa);have hGi:=fun F=>Ik (F:=F) (b:=e) (ak:=c.aw) (l:=k.bD) (aa:=m.aa);rcases hk with g|g<;>simp only [g,Int.reduceEq,if_false,if_true,decide_false,decide_true]
  ·have j9:=fun F=>jO (F:=F) (b:=a) (c:=c) (l:=k.al) (aa:=m.aa) (st:=3) (w:=(bg c k.al m.aa).ag);by_cases h2:2≤(bg c k.al m.aa).st
   ·have e1:fe c k m.aa=0:=if_pos h2;have e2:fp c ap k m 1=⟨7,m.aa,ap,m.mu,1,m.aH,1,(bg c k.al m.aa).ag⟩:=by unfold fp sI;rw [if_pos e1,if_pos h2]
    have e3:eo c k m.aa 3 false=⟨db c k.al m.aa 3 (bg c k.al m.aa).ag,k.aP,k.bD⟩:=if_pos h2;rw [e1,e2,e3];refine ay func320 ntmps320 ?_;repeat' (first|refine go ?_|intro _|refine mS ?_|refine av ?_|refine ae @sy ?_|refine ae @j9 ?_|refine bj ?_ ?_|fail)
    all_goals exact aM
   ·by_cases h3:fY k.bD m.aa=0
    ·have e1:fe c k m.aa=0:=by unfold fe;rw [if_neg h2,if_pos h3]
     have e2:fp c ap k m 1=⟨7,m.aa,ap,m.mu,1,m.aH,1,jB k.bD m.aa⟩:=by unfold fp sI;rw [if_pos e1,if_neg h2]
     have e3:eo c k m.aa 3 false=k:=by unfold eo;rw [if_neg h2];rfl
     rw [e1,e2,e3];simp only [h3] at L6;refine ay func320 ntmps320 ?_;repeat' (first|refine go ?_|intro _|refine mS ?_|refine av ?_|refine ae @sy ?_|refine ae @L6 ?_|refine bj ?_ ?_|fail)
     all_goals exact aM
    ·have e1:fe c k m.aa=7:=by unfold fe;rw [if_neg h2,if_neg h3]
     have e2:fp c ap k m 1= .zero:=by unfold fp;rw [e1];rfl
     have e3:eo c k m.aa 3 false=k:=by unfold eo;rw [if_neg h2];rfl
     rw [e1,e2,e3];refine ay func320 ntmps320 ?_;repeat' (first|refine go ?_|intro _|refine mS ?_|refine av ?_|refine ae @sy ?_|refine ae @L6 ?_|refine bj ?_ ?_|fail)
     all_goals exact aM
  ·have j9:=fun F=>jO (F:=F) (b:=a) (c:=c) (l:=k.al) (aa:=m.aa) (st:=0) (w:=(bg c k.al m.aa).ag);by_cases h2:2≤(bg c k.al m.aa).st
   ·have e1:fe c k m.aa=0:=if_pos h2;have e2:fp c ap k m 4=⟨7,m.aa,ap,m.mu,1,m.aH,4,(bg c k.al m.aa).ag⟩:=by unfold fp sI;rw [if_pos e1,if_pos h2]
    have e3:eo c k m.aa 0 true=⟨db c k.al m.aa 0 (bg c k.al m.aa).ag,k.aP,k.bD⟩:=if_pos h2;rw [e1,e2,e3];refine ay func320 ntmps320 ?_;repeat' (first|refine go ?_|intro _|refine mS ?_|refine av ?_|refine ae @sy ?_|refine ae @j9 ?_|refine bj ?_ ?_|fail)
    all_goals exact aM
   ·by_cases h3:fY k.bD m.aa=0
    ·have e1:fe c k m.aa=0:=by unfold fe;rw [if_neg h2,if_pos h3]
     have e2:fp c ap k m 4=⟨7,m.aa,ap,m.mu,1,m.aH,4,jB k.bD m.aa⟩:=by unfold fp sI;rw [if_pos e1,if_neg h2]
     have e3:eo c k m.aa 0 true=⟨k.al,k.aP,iA k.bD m.aa⟩:=by unfold eo;rw [if_neg h2];rfl
     rw [e1,e2,e3];simp only [h3] at L6;refine ay func320 ntmps320 ?_;repeat' (first|refine go ?_|intro _|refine mS ?_|refine av ?_|refine ae @sy ?_|refine ae @L6 ?_|refine ae @hGi ?_|refine bj ?_ ?_|fail)
     all_goals exact aM
    ·have e1:fe c k m.aa=7:=by unfold fe;rw [if_neg h2,if_neg h3]
     have e2:fp c ap k m 4= .zero:=by unfold fp;rw [e1];rfl
     have e4:iA k.bD m.aa=k.bD:=by
       unfold iA;unfold fY at h3;cases g1:iP k.bD m.aa with
       |false=>rfl
       |true=>
        cases g2:(rb k.bD m.aa).live with
        |false=>rfl
        |true=>rw [g1,if_pos rfl,g2,if_pos rfl] at h3;exact absurd rfl h3
     have e3:eo c k m.aa 0 true=k:=by unfold eo;rw [if_neg h2,e4];rfl
     rw [e1,e2,e3];refine ay func320 ntmps320 ?_;repeat' (first|refine go ?_|intro _|refine mS ?_|refine av ?_|refine ae @sy ?_|refine ae @L6 ?_|refine bj ?_ ?_|fail)
     all_goals exact aM
end
end Go.Sx
