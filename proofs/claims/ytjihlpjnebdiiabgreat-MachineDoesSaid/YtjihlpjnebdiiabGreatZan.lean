/- ArrR, ArrR2, ArrR3, MsgRd: several of my texts as one. My own work. -/
import Derived.Test.YtjihlpjnebdiiabGreatZak
import Derived.Test.YtjihlpjnebdiiabGreatZai
set_option linter.unusedVariables false
set_option linter.unusedSectionVars false
set_option linter.unusedSimpArgs false
set_option maxRecDepth 100000
set_option maxHeartbeats 4000000
namespace Go.Sx
open Go Go.Proofs Tryz
section
def HB (T TW:TypeId) (b:Nat) (c:au) (l:List Way):HP:=
  Ex fun g:Nat=>[ao b T (c.cells++[oT g (0*11) l.length l.length]),ao g TW (aj lM l),ja (aB c=true∧(l.length:Int)=c.cl*c.al∧cj c l)]
theorem fL {T TW:TypeId} {b g n:Nat} {c:au} {l:List Way} {xs:List Value} {L M:List HP} (h:ai L (ao b T (c.cells++[oT g (0*11) n n])::ao g TW xs::M)) (hn:n=l.length) (hx:xs=aj lM l)
    (hc:aB c=true) (hl:(l.length:Int)=c.cl*c.al) (hI:cj c l):ai L (HB T TW b c l::M):=by
  subst hn hx;refine ai.trans h (ai.trans ?_ (fU (p:=fun g:Nat=>[ao b T (c.cells++[oT g (0*11) l.length l.length]),ao g TW (aj lM l),ja (aB c=true∧(l.length:Int)=c.cl*c.al∧cj c l)]) g));exact ai.cons (ai.cons (cX ⟨hc,hl,hI⟩))
theorem NZ {T TW:TypeId} {b:Nat} {c:au} {l:List Way} {L:List HP} {w:World} (h:Sat (HB T TW b c l::L) w):∃ g,(aB c=true∧(l.length:Int)=c.cl*c.al∧cj c l)∧Sat (ao b T (c.cells++[oT g (0*11) l.length l.length])::ao g TW (aj lM l)::L) w:=by
  obtain ⟨g,hx⟩:=eN h;simp only [eX] at hx;exact ⟨g,fc (aG (aG hx)),(ai.cons (ai.cons (ai.drop ai.refl))) _ hx⟩
section
variable {T TW:TypeId} {b:Nat} {c:au} {l:List Way} {P:Program} {N:Nat} {env:Env} {L:List HP} {Q:Exit→Act→World→Prop}
theorem nV {co:Code} (h:∀ g,(aB c=true∧(l.length:Int)=c.cl*c.al∧cj c l)→WC P N co env (ao b T (c.cells++[oT g (0*11) l.length l.length])::ao g TW (aj lM l)::L) Q):WC P N co env (HB T TW b c l::L) Q:=by
  intro a w ha hw;obtain ⟨g,hf,hx⟩:=NZ hw;exact h g hf a w ha hx
end
theorem qZ {g T:Nat} {l:List Way} (L:List HP):bN (ao g T (aj lM l)::L) 11 (oT g (0*11) l.length l.length) l.length (aj lM l):=by
  have:=z4 (g:=g) (T:=T) (l:=l) (f:=0) (k:=l.length) (cap:=l.length) (om) L;simpa using this
theorem QI {c:au} {aa:Int} {i:Nat} (hi:i<c.al.toNat):((bL c aa+i:Nat):Int).tmod c.al=i:=by
  have hw:c.al=(c.al.toNat:Int):=by omega
  have e:(bL c aa+i) % c.al.toNat=i:=by
    unfold bL;rw [Nat.mul_comm,Nat.mul_add_mod,Nat.mod_eq_of_lt hi]
  rw [z2 (om),hw];exact_mod_cast e
theorem n7 {c:au} {aa:Int} (hc:aB c=true):bG c aa=true↔0≤aa∧aa<c.aZ:=by simp [bG,hc]
attribute [local irreducible] Exit.then Exit.inBlock Code.wp WC WO WE WQ V aW dL Sat bz bK dU IntKind.wrap WR Code.rounds WT KO
abbrev jh:=HB 189 190
theorem zt {Q P:Prop} (k:Q) (h:Hid Q→P:=by
  intro k
  first
  |(refine an ?_;refine bF (id:=3) .true (pl:= .p 1 <| .p 3 <| .r 0 <| .r 2 <| .r 4 <| .p 5 <| .e true [(6,.p 7 <| .e true [(8,.p 9 <| .p 10 <| .done)])]) k.out)):P:=h ⟨k⟩
theorem K7 {F:List HP} {c:au} (hw:c.wf) (hc:aB c=true):az prog 173 [c.val] [] F (fun r L'=>∃ b,r= .tuple [.pointer (some ⟨b,0,none⟩),.int .i64 0].toArray∧L'=[jh b c (List.replicate (c.cl*c.al).toNat .zero)]):=by
  have hC:=fun F=>eC (F:=F) hw;simp only [cF,hc,if_true] at hC;obtain ⟨_,_,⟨k,hk,e⟩,_,_,h1,h2⟩:=cp hc;have hb:=mE hk;have h3:1≤c.cl∧c.cl≤64:=by rw [e];exact ⟨hb.1,by have:=hb.2;simpa using this⟩
  have hz:c.cl*c.al=((c.cl.toNat*c.al.toNat:Nat):Int):=by rw [Int.natCast_mul,Int.toNat_of_nonneg (om),Int.toNat_of_nonneg (om)]
  have hm:c.cl.toNat*c.al.toNat≤64*8:=Nat.mul_le_mul (om) (om);refine ay func173 ntmps173 ?_;have h0:0≤c.cl*c.al∧c.cl*c.al≤512:=by omega
  repeat first|refine go ?_|intro _|refine zt ?_|refine av ?_|refine ae @hC ?_
  apply kO;rfl;exact tB.none;(apply xC;rfl;omega;omega;omega;rfl;omega;rfl);refine dQ ?_;intro g;(refine ⟨by first|exact cc.free|exact cc.turns rfl|(refine cc.still ?_;exact bM;done),?_⟩);repeat first|refine go ?_|intro _|refine zt ?_|refine av ?_
  (apply ad rfl rfl ar)
  ·exact ⟨_,rfl,rfl⟩
  ·refine ai.trans ?_ (fL (g:=g) (l:=List.replicate (c.cl*c.al).toNat .zero) (n:=(c.cl*c.al).toNat) (xs:=(List.replicate (c.cl*c.al).toNat (lM .zero)).flatten) ai.refl (by simp) (Dd _) hc (by simp;omega) (Bv _ _));have ew:oT g (0*11) (c.cl*c.al).toNat (c.cl*c.al).toNat= .slice (some ⟨g,0,none⟩) (c.cl*c.al).toNat (c.cl*c.al).toNat:=by unfold oT;rfl
   rw [ew];change ai (ao _ _ (c.cells++[.slice (some ⟨g,0,none⟩) (c.cl*c.al).toNat (c.cl*c.al).toNat])::_) _;exact af
theorem pF {F:List HP} {b g:Nat} {c:au} {l:List Way} {aa:Int} (hl:l.length≤512) (hI:cj c l) :
    az prog 211 [.pointer (some ⟨b,0,none⟩),.int .i64 aa] [ao b 189 (c.cells++[oT g (0*11) l.length l.length]),ao g 190 (aj lM l)] F
      (fun r L'=>r= .int .i64 (tx c l aa)∧L'=[ao b 189 (c.cells++[oT g (0*11) l.length l.length]),ao g 190 (aj lM l)]):=by
  haveI kr:=qZ (g:=g) (T:=190) (l:=l);rw [←QG hI aa];refine ay func211 ntmps211 ?_;repeat first|refine gd ?_|intro _
  apply aO (E0:=[(0,_),(1,_)]) (fun E0 (i:Nat)=>(5,.int .i64 i)::E0) (fun _=>ao b 189 (c.cells++[oT g (0*11) l.length l.length])::ao g 190 (aj lM l)::F) (fun i=>i≤l.length∧∀ j (h:j<l.length),j<i→ib aa l[j]=false) (fun i=>l.length-i) 0
  ·exact bH
  ·exact ⟨om,fun j _ hj=>by omega⟩
  ·exact af
  ·rintro i ⟨hi,h1⟩;by_cases bB:i<l.length
   ·have next:ib aa l[i]=false→∀ j (h:j<l.length),j<i+1→ib aa l[j]=false:=fun h0 j hj rp=>by
      by_cases e:j=i
      ·subst e;exact h0
      ·exact h1 j hj (om)
    by_cases g1:l[i].aa=aa
    ·by_cases g2:l[i].st=0
     ·cases g3:l[i].lk with
      |true=>
       have he:ib aa l[i]=true:=by simp [ib,cr,g1,g3]
       repeat first|refine gd ?_|intro _
       (apply ad rfl rfl ar)
       ·exact ⟨by rw [eU bB h1 he];rfl,rfl⟩
       ·exact af
      |false=>
       have he:ib aa l[i]=false:=by simp [ib,cr,g2,g3]
       repeat first|refine gd ?_|intro _
       refine aC (i+1) (om) ⟨om,next he⟩ ?_ ?_
       ·exact bH
       ·exact af
     ·have he:ib aa l[i]=true:=by simp [ib,cr,g1,g2]
      repeat first|refine gd ?_|intro _
      (apply ad rfl rfl ar)
      ·exact ⟨by rw [eU bB h1 he];rfl,rfl⟩
      ·exact af
    ·have he:ib aa l[i]=false:=by simp [ib,g1]
     repeat first|refine gd ?_|intro _
     refine aC (i+1) (om) ⟨om,next he⟩ ?_ ?_
     ·exact bH
     ·exact af
   ·have kM:i=l.length:=by omega
    subst kM;repeat first|refine gd ?_|intro _
    (apply ad rfl rfl ar)
    ·exact ⟨by rw [dr h1];rfl,rfl⟩
    ·exact af
theorem zu {Q P:Prop} (k:Q) (h:Hid Q→P:=by
  intro k
  first
  |(refine an ?_;refine bF (id:=4) .true (pl:= .p 0 <| .p 1 <| .p 2 <| .p 4 <| .p 7 <| .p 8 <| .p 9 <| .p 10 <| .p 11 <| .r 3 <| .p 5 <| .r 6 <| .e true [(12,.p 13 <| .e true [(14,.p 15 <| .p 16 <| .done)]),(14,.e false [(12,.p 13 <| .p 15 <| .p 16 <| .done)])]) k.out)):P:=h ⟨k⟩
theorem iN {F:List HP} {b:Nat} {c:au} {l:List Way} {aa:Int} :
    az prog 110 [.pointer (some ⟨b,0,none⟩),.int .i64 aa] [jh b c l] F (fun r L'=>r= .tuple [J5 (bg c l aa),.int .i64 (oY c l aa),.bool (gI c l aa)].toArray∧L'=[jh b c l]):=by
  refine ay func110 ntmps110 ?_;refine nV fun g hf=>?_;obtain ⟨hc,hn,hI⟩:=hf;obtain ⟨_,h4,h5,_,_,h8⟩:=jb hc hn;have hP:=fun F=>pF (F:=F) (b:=b) (g:=g) (aa:=aa) h8 hI;haveI kr:=qZ (g:=g) (T:=190) (l:=l);by_cases h:bS c l aa<0
  ·have e1:bg c l aa= .zero:=if_pos h;have e2:oY c l aa=0:=if_pos h;have e3:gI c l aa=false:=by simp [gI,h]
   have e4:tx c l aa= -1:=if_pos h;rw [e1,e2,e3];rw [e4] at hP;repeat first|refine go ?_|intro _|refine zu ?_|refine av ?_|refine ae @hP ?_
   (apply ad rfl rfl ar)
   ·exact ⟨rfl,rfl⟩
   ·(apply fL;(focus (exact af));all_goals exact bu)
  ·obtain ⟨i,hi⟩:∃ i:Nat,bS c l aa=i:=⟨(bS c l aa).toNat,om⟩;obtain ⟨h2,cO,h3,PI⟩:=ld hi;have e1:=jd hi h2;have e2:oY c l aa=i:=by unfold oY;rw [if_neg h,hi]
   have e3:gI c l aa=true:=by simp [gI,h]
   have e4:tx c l aa=((bL c aa+i:Nat):Int):=by unfold tx;rw [if_neg h,hi];omega
   have e5:=QI (aa:=aa) PI;rw [e1,e2,e3];rw [e4] at hP;generalize hk:bL c aa+i=k at *;(first|(refine aX (oT g (0*11) l.length l.length) inferInstance (om) ?_;intro _)|(refine aY (oT g (0*11) l.length l.length) inferInstance (om) ?_;intro _));repeat' (first|refine go ?_|intro _|refine zu ?_|refine av ?_|refine ae @hP ?_|refine bj ?_ ?_|fail)
   all_goals (apply ad rfl rfl ar)
   all_goals first|exact ⟨by rw [e5];rfl,rfl⟩|(apply fL;(focus (exact af));all_goals exact bu)
end
section
attribute [local irreducible] Exit.then Exit.inBlock Code.wp WC WO WE WQ V aW dL Sat bz bK dU IntKind.wrap WR Code.rounds WT KO
theorem Dh {c:au} {aa:Int} (h:bG c aa=true):aa.tmod c.cl*c.al=(bL c aa:Int)∨c.al<0:=by
  by_cases hw:c.al<0
  ·exact .inr hw
  ·obtain ⟨s0,s1,s2,s3,s4⟩:=D5 h;left;unfold bL;rw [z2 s3,Int.natCast_mul,Int.toNat_of_nonneg s0,Int.toNat_of_nonneg (om),s2]
theorem jo {Q P:Prop} (k:Q) (h:Hid Q→P:=by
  intro k
  first
  |(refine an ?_;refine bF (id:=6) .true (pl:= .p 0 <| .p 1 <| .p 2 <| .p 4 <| .p 5 <| .p 6 <| .p 7 <| .p 8 <| .p 11 <| .p 12 <| .p 13 <| .p 14 <| .p 17 <| .r 3 <| .r 9 <| .p 10 <| .r 15 <| .p 16 <| .p 18 <| .p 19 <| .r 20 <| .e true [(21,.e true [(22,.done)])]) k.out)):P:=h ⟨k⟩
theorem Is {F:List HP} {b:Nat} {c:au} {l:List Way} {aa:Int} :
    az prog 200 [.pointer (some ⟨b,0,none⟩),.int .i64 aa] [jh b c l] F (fun r L'=>r= .int .i64 (df c l aa)∧L'=[jh b c l]):=by
  refine ay func200 ntmps200 ?_;refine nV fun g hf=>?_;obtain ⟨hc,hn,hI⟩:=hf;obtain ⟨_,h4,h5,h6,h7,h8⟩:=jb hc hn;haveI kr:=qZ (g:=g) (T:=190) (l:=l);cases h:bG c aa with
  |false=>
   have e1:df c l aa= -1:=by unfold df;rw [lG h];rfl
   rw [e1];have LW:aa<0∨aa≥c.aZ:=by
     by_cases hx:0≤aa∧aa<c.aZ
     ·rw [(n7 hc).2 hx] at h;cases h
     ·omega
   by_cases h0:aa<0
   ·repeat first|refine go ?_|intro _|refine jo ?_|refine av ?_
    (apply ad rfl rfl ar)
    ·exact ⟨rfl,rfl⟩
    ·(apply fL;(focus (exact af));all_goals exact bu)
   ·repeat first|refine go ?_|intro _|refine jo ?_|refine av ?_
    (apply ad rfl rfl ar)
    ·exact ⟨rfl,rfl⟩
    ·(apply fL;(focus (exact af));all_goals exact bu)
  |true=>
   obtain ⟨g0,g1⟩:=(n7 hc).1 h;obtain ⟨k1,k2⟩:=pX hc hn h;have et:=(Dh h).resolve_right (om);have hg:=fun i (hi:i<(cL c l aa).length)=>k6 h hi;unfold df;repeat first|refine go ?_|intro _|refine jo ?_|refine av ?_
   apply aO (E0:=[(0,_),(1,_)]) (fun E0 (i:Nat)=>(5,.int .i64 i)::E0) (fun _=>ao b 189 (c.cells++[oT g (0*11) l.length l.length])::ao g 190 (aj lM l)::F) (fun i=>i≤c.al.toNat∧∀ j (h:j<(cL c l aa).length),j<i→(!cr (cL c l aa)[j])=false) (fun i=>c.al.toNat-i) 0
   ·exact bH
   ·exact ⟨om,fun j _ hj=>by omega⟩
   ·exact af
   ·rintro i ⟨hi,h1⟩;by_cases bB:i<c.al.toNat
    ·have UC:i<(cL c l aa).length:=by omega
     obtain ⟨hb,eg⟩:=hg i UC;have next:(!cr l[bL c aa+i])=false→∀ j (h:j<(cL c l aa).length),j<i+1→(!cr (cL c l aa)[j])=false:=fun h0 j hj rp=>by
       by_cases e:j=i
       ·subst e;rw [eg];exact h0
       ·exact h1 j hj (om)
     have ek:(aa.tmod c.cl*c.al+(i:Int)).toNat=bL c aa+i:=by omega
     (first|(refine aX (oT g (0*11) l.length l.length) inferInstance (om) ?_;intro _)|(refine aY (oT g (0*11) l.length l.length) inferInstance (om) ?_;intro _));repeat first|refine go ?_|intro _|refine jo ?_|refine av ?_
     simp only [ek];generalize ew:l[bL c aa+i]=w at *;by_cases g2:w.st=0
     ·cases g3:w.lk with
      |false=>
       have he:(!cr (cL c l aa)[i])=true:=by simp [eg,cr,g2,g3]
       repeat first|refine go ?_|intro _|refine jo ?_|refine av ?_
       (apply ad rfl rfl ar)
       ·exact ⟨by rw [eU UC h1 he];rfl,rfl⟩
       ·(apply fL;(focus (exact af));all_goals exact bu)
      |true=>
       have he:(!cr w)=false:=by simp [cr,g2,g3]
       repeat first|refine go ?_|intro _|refine jo ?_|refine av ?_
       refine aC (i+1) (om) ⟨om,next he⟩ ?_ ?_
       ·exact bH
       ·exact af
     ·have he:(!cr w)=false:=by simp [cr,g2]
      repeat first|refine go ?_|intro _|refine jo ?_|refine av ?_
      refine aC (i+1) (om) ⟨om,next he⟩ ?_ ?_
      ·exact bH
      ·exact af
    ·have kM:i=c.al.toNat:=by omega
     subst kM;repeat first|refine go ?_|intro _|refine jo ?_|refine av ?_
     (apply ad rfl rfl ar)
     ·exact ⟨by rw [dr (fun j hj _=>h1 j hj (om))];rfl,rfl⟩
     ·(apply fL;(focus (exact af));all_goals exact bu)
theorem ww {F:List HP} {b:Nat} {c:au} {l:List Way} {aa:Int} {lk:Bool} :
    az prog 202 [.pointer (some ⟨b,0,none⟩),.int .i64 aa,.bool lk] [jh b c l] F (fun r L'=>r= .int .i64 (rk c l aa)∧L'=[jh b c (eZ c l aa lk)]):=by
  refine ay func202 ntmps202 ?_;refine nV fun g hf=>?_;obtain ⟨hc,hn,hI⟩:=hf;obtain ⟨_,h4,h5,_,_,h8⟩:=jb hc hn;have vA:cj c (eZ c l aa lk):=yq hI;have qJ:((eZ c l aa lk).length:Int)=c.cl*c.al:=by rw [K3];exact hn
  have hP:=fun F=>pF (F:=F) (b:=b) (g:=g) (aa:=aa) h8 hI;haveI kr:=qZ (g:=g) (T:=190) (l:=l);by_cases hp:bS c l aa= -1
  ·have e4:tx c l aa= -1:=if_pos (om);rw [e4] at hP;have e1:rk c l aa=5:=if_pos hp;have e2:eZ c l aa lk=l:=by unfold eZ;rw [e1];rfl
   rw [e1,e2];repeat first|refine gd ?_|intro _|refine ae @hP ?_
   (apply ad rfl rfl ar)
   ·exact ⟨rfl,rfl⟩
   ·(apply fL;(focus (exact af));all_goals exact bu)
  ·have h0:0≤bS c l aa:=by have:=(l5 c l aa).1;omega
   obtain ⟨i,hi⟩:∃ i:Nat,bS c l aa=i:=⟨(bS c l aa).toNat,om⟩;obtain ⟨h2,cO,h3,PI⟩:=ld hi;have ew:=jd hi h2;have e4:tx c l aa=((bL c aa+i:Nat):Int):=by unfold tx;rw [if_neg (om),hi];omega
   have e1:rk c l aa=0:=if_neg hp;have e2:eZ c l aa lk=l.set (bL c aa+i) { l[bL c aa+i] with lk:=lk}:=by unfold eZ;rw [e1,hi,Int.toNat_natCast,ew];rfl
   rw [e4] at hP;rw [e1];rw [e2] at vA qJ ⊢;generalize bL c aa+i=k at *;(first|(refine aX (oT g (0*11) l.length l.length) inferInstance (om) ?_;intro _)|(refine aY (oT g (0*11) l.length l.length) inferInstance (om) ?_;intro _));repeat first|refine gd ?_|intro _|refine ae @hP ?_
   apply mY;rfl;(refine oZ (l:=l) (f:=0) (i:=k) (j:=10) (w:={ l[k] with lk:=lk}) (by rfl) (by rfl) (by exact lX) (by rw [lY];omega) (by exact inferInstance) (by exact inferInstance) (by rfl) (by rfl) (om) (by decide) (by simp only [Nat.zero_add];rfl));refine aU ?_;simp only [Nat.zero_add];repeat first|refine gd ?_|intro _
   (apply ad rfl rfl ar)
   ·exact ⟨rfl,rfl⟩
   ·(apply fL;(focus (exact af));all_goals exact bu)
theorem K8 {F:List HP} {b:Nat} {c:au} {l:List Way} {aa kV:Int} :
    az prog 201 [.pointer (some ⟨b,0,none⟩),.int .i64 aa,.int .i64 kV] [jh b c l] F (fun r L'=>r= .int .i64 (oF c l aa kV)∧L'=[jh b c (fJ c l aa kV)]):=by
  refine ay func201 ntmps201 ?_;refine nV fun g hf=>?_;obtain ⟨hc,hn,hI⟩:=hf;obtain ⟨_,h4,h5,h6,h7,h8⟩:=jb hc hn;have vA:cj c (fJ c l aa kV):=xi hI;have qJ:((fJ c l aa kV).length:Int)=c.cl*c.al:=by rw [Fz];exact hn
  have hP:=fun F=>pF (F:=F) (b:=b) (g:=g) (aa:=aa) h8 hI;haveI kr:=qZ (g:=g) (T:=190) (l:=l);by_cases h0:(0≤aa∧aa<c.aZ)∧0≤kV∧kV<c.al
  ·obtain ⟨⟨g0,g1⟩,g2,g3⟩:=h0;have h:=(n7 hc).2 ⟨g0,g1⟩;obtain ⟨k1,k2⟩:=pX hc hn h;have et:=(Dh h).resolve_right (om);obtain ⟨i,rfl⟩:∃ i:Nat,kV=i:=⟨kV.toNat,om⟩;have hi:i<(cL c l aa).length:=by omega
   have h0:0≤(i:Int)∧(i:Int)<(cL c l aa).length:=by omega
   obtain ⟨sq,eg⟩:=k6 h hi;have hg:(cL c l aa).getD i .zero=(cL c l aa)[i]:=(ia hi).symm;by_cases hp:bS c l aa= -1
   ·have e4:tx c l aa= -1:=if_pos (om);rw [e4] at hP;have ek:(aa.tmod c.cl*c.al+(i:Int)).toNat=bL c aa+i:=by omega
    have ex:oF c l aa i=if cr l[bL c aa+i] then 4 else 0:=by unfold oF;rw [if_pos h0,if_pos hp,Int.toNat_natCast,hg,eg]
    have ey:fJ c l aa i=if cr l[bL c aa+i] then l else l.set (bL c aa+i) ⟨0,aa,.zero,true⟩:=by unfold fJ;rw [ex,Int.toNat_natCast];split<;>rfl
    rw [ey] at vA qJ ⊢;rw [ex];generalize hk:bL c aa+i=k at *;(first|(refine aX (oT g (0*11) l.length l.length) inferInstance (om) ?_;intro _)|(refine aY (oT g (0*11) l.length l.length) inferInstance (om) ?_;intro _));repeat first|refine gd ?_|intro _|refine ae @hP ?_
    simp only [ek];by_cases g4:l[k].st=0
    ·cases g5:l[k].lk with
     |true=>
      have he:cr l[k]=true:=by simp [cr,g4,g5]
      rw [he] at vA qJ ⊢;repeat first|refine gd ?_|intro _
      simp only [ek];repeat first|refine gd ?_|intro _
      (apply ad rfl rfl ar)
      ·exact ⟨rfl,rfl⟩
      ·(apply fL;(focus (exact af));all_goals exact bu)
     |false=>
      have he:cr l[k]=false:=by simp [cr,g4,g5]
      rw [he] at vA qJ ⊢;repeat first|refine gd ?_|intro _
      simp only [ek];repeat first|refine gd ?_|intro _
      simp only [ek];apply mY;rfl;(refine oZ (l:=l) (f:=0) (i:=k) (j:=0) (w:=⟨0,aa,.zero,true⟩) (by rfl) (by rfl) (by exact lX) (by rw [lY];omega) (by exact inferInstance) (by exact inferInstance) (by rfl) (by rfl) (om) (by decide) (by simp only [Nat.zero_add];rfl));refine aU ?_;simp only [Nat.zero_add];repeat first|refine gd ?_|intro _
      (apply ad rfl rfl ar)
      ·exact ⟨rfl,rfl⟩
      ·(apply fL;(focus (exact af));all_goals exact bu)
    ·have he:cr l[k]=true:=by simp [cr,g4]
     rw [he] at vA qJ ⊢;repeat first|refine gd ?_|intro _
     (apply ad rfl rfl ar)
     ·exact ⟨rfl,rfl⟩
     ·(apply fL;(focus (exact af));all_goals exact bu)
   ·have e1:oF c l aa i=6:=by unfold oF;rw [if_pos h0,if_neg hp]
    have e2:fJ c l aa i=l:=by unfold fJ;rw [e1];rfl
    have e4:0≤tx c l aa:=by have:=(l5 c l aa).1;unfold tx;rw [if_neg (om)];omega
    rw [e1,e2];generalize tx c l aa=gg at *;repeat first|refine gd ?_|intro _|refine ae @hP ?_
    (apply ad rfl rfl ar)
    ·exact ⟨rfl,rfl⟩
    ·(apply fL;(focus (exact af));all_goals exact bu)
  ·have hw0:¬(0≤kV∧kV<(cL c l aa).length):=by
     intro hh;cases h:bG c aa with
     |true=>
      obtain ⟨k1,k2⟩:=pX hc hn h;exact h0 ⟨(n7 hc).1 h,om⟩
     |false=>rw [lG h] at hh;simp only [List.length_nil] at hh;omega
   have e1:oF c l aa kV=1:=if_neg hw0;have e2:fJ c l aa kV=l:=by unfold fJ;rw [e1];rfl
   rw [e1,e2];repeat' (first|refine gd ?_|intro _|refine ae @hP ?_|refine bj ?_ ?_|fail)
   all_goals first|(exfalso;omega)|skip
   all_goals (apply ad rfl rfl ar)
   all_goals first|exact ⟨rfl,rfl⟩|(apply fL;(focus (exact af));all_goals exact bu)
end
section
theorem RV (w:Words) (i:Nat) (h:i<8):(wc w)[0+((i:Nat):Int).toNat*1]? =some (.int .i64 (w.list.getD i 0)):=by
  have jR:i=0∨i=1∨i=2∨i=3∨i=4∨i=5∨i=6∨i=7:=by omega
  rcases jR with rfl|rfl|rfl|rfl|rfl|rfl|rfl|rfl<;>rfl
theorem QJ {c:au} {w:Words} {k:Nat} (h1:c.ag.toNat≤k) (h2:k<8) (h3:w.list.getD k 0≠0):rK c w=true:=by
  unfold rK;rw [decide_eq_true_eq];by_cases hn:0≤bO (fun n=> !decide (n=0)) (w.list.drop c.ag.toNat)
  ·exact hn
  ·exfalso;have h4:=(ix hn).2;have hl:=Words.rL w;have h5:k-c.ag.toNat<(w.list.drop c.ag.toNat).length:=by rw [List.length_drop];omega
   have h6:=h4 _ (List.getElem_mem h5);rw [List.getElem_drop] at h6;simp only [show c.ag.toNat+(k-c.ag.toNat)=k by omega] at h6;rw [List.getD_eq_getElem?_getD,List.getElem?_eq_getElem (om),Option.getD_some] at h3;simp at h6;exact h3 h6
theorem Tg {c:au} {w:Words} (h:∀ k,c.ag.toNat≤k→k<8→w.list.getD k 0=0):rK c w=false:=by
  unfold rK;rw [decide_eq_false_iff_not];have hl:=Words.rL w;rw [dr]
  ·omega
  ·intro j hj _;rw [List.length_drop] at hj;have:=h (c.ag.toNat+j) (om) (om);rw [List.getD_eq_getElem?_getD,List.getElem?_eq_getElem (om),Option.getD_some] at this;rw [List.getElem_drop,this];rfl
attribute [local irreducible] Exit.then Exit.inBlock Code.wp WC WO WE WQ V aW dL Sat bz bK dU IntKind.wrap WR Code.rounds WT KO
theorem fh {Q P:Prop} (k:Q) (h:Hid Q→P:=by
  intro k
  first
  |(refine an ?_;refine bF (id:=12) .true (pl:= .p 0 <| .p 1 <| .p 2 <| .p 4 <| .r 3 <| .r 5 <| .p 6 <| .p 7 <| .e true [(8,.done)]) k.out)):P:=h ⟨k⟩
theorem jO {F:List HP} {b:Nat} {c:au} {l:List Way} {aa st:Int} {w:Words} :
    az prog 263 [.pointer (some ⟨b,0,none⟩),.int .i64 aa,.int .i64 st,wv w] [jh b c l] F (fun r L'=>r= .int .i64 (lC c l aa st w)∧L'=[jh b c (db c l aa st w)]):=by
  refine ay func263 ntmps263 ?_;refine nV fun g hf=>?_;obtain ⟨hc,hn,hI⟩:=hf;obtain ⟨_,h4,h5,h6,h7,h8⟩:=jb hc hn;obtain ⟨_,_,_,⟨kw,YG,ewd⟩,_⟩:=cp hc;have OW:=mE YG;have hwd:1≤c.ag∧c.ag≤8:=by rw [ewd];exact ⟨OW.1,by have:=OW.2;simpa using this⟩
  have vA:cj c (db c l aa st w):=rU hI;have qJ:((db c l aa st w).length:Int)=c.cl*c.al:=by rw [NW];exact hn
  have hP:=fun F=>pF (F:=F) (b:=b) (g:=g) (aa:=aa) h8 hI;haveI kr:=qZ (g:=g) (T:=190) (l:=l);by_cases hp:bS c l aa= -1
  ·have e4:tx c l aa= -1:=if_pos (om);rw [e4] at hP;have e1:lC c l aa st w=5:=if_pos hp;have e2:db c l aa st w=l:=by unfold db;rw [e1];rfl
   rw [e1,e2];repeat first|refine go ?_|intro _|refine fh ?_|refine av ?_|refine ae @hP ?_
   (apply ad rfl rfl ar)
   ·exact ⟨rfl,rfl⟩
   ·(apply fL;(focus (exact af));all_goals exact bu)
  ·have h0:0≤bS c l aa:=by have:=(l5 c l aa).1;omega
   obtain ⟨i,hi⟩:∃ i:Nat,bS c l aa=i:=⟨(bS c l aa).toNat,om⟩;obtain ⟨h2,cO,h3,PI⟩:=ld hi;have ew:=jd hi h2;have e4:tx c l aa=((bL c aa+i:Nat):Int):=by unfold tx;rw [if_neg (om),hi];omega
   rw [e4] at hP;by_cases hs:st<0∨st>4
   ·have e1:lC c l aa st w=1:=by unfold lC;rw [if_neg hp,if_pos (om)]
    have e2:db c l aa st w=l:=by unfold db;rw [e1];rfl
    rw [e1,e2];by_cases YF:st<0
    ·repeat first|refine go ?_|intro _|refine fh ?_|refine av ?_|refine ae @hP ?_
     (apply ad rfl rfl ar)
     ·exact ⟨rfl,rfl⟩
     ·(apply fL;(focus (exact af));all_goals exact bu)
    ·repeat first|refine go ?_|intro _|refine fh ?_|refine av ?_|refine ae @hP ?_
     (apply ad rfl rfl ar)
     ·exact ⟨rfl,rfl⟩
     ·(apply fL;(focus (exact af));all_goals exact bu)
   ·have ex:rK c w=false→lC c l aa st w=0:=fun ho=>by unfold lC;rw [if_neg hp,if_neg (by rw [ho];simp;omega)]
    have ey:rK c w=false→db c l aa st w=l.set (bL c aa+i) { l[bL c aa+i] with st:=st,ag:=if st=0 then .zero else w}:=fun ho=>by unfold db;rw [ex ho,hi,Int.toNat_natCast,ew];rfl
    have ez:rK c w=true→lC c l aa st w=1∧db c l aa st w=l:=fun ho=>by
      have e1:lC c l aa st w=1:=by unfold lC;rw [if_neg hp,if_pos (.inr (.inr ho))]
      exact ⟨e1,by unfold db;rw [e1];rfl⟩
    generalize bL c aa+i=k at *;repeat first|refine go ?_|intro _|refine fh ?_|refine av ?_|refine ae @hP ?_
    rename_i bw;apply aO (E0:=[(0,_),(2,_),(7,_),(9,_)]) (fun E0 (i:Nat)=>(10,.int .i64 i)::E0) (fun _=>ao bw 124 (wc w)::ao b 189 (c.cells++[oT g (0*11) l.length l.length])::ao g 190 (aj lM l)::F) (fun i=>(c.ag.toNat≤i∧i≤8)∧∀ j,c.ag.toNat≤j→j<i→w.list.getD j 0=0) (fun i=>8-i) c.ag.toNat
    ·rw [Int.toNat_of_nonneg (by omega:0≤c.ag)];exact bH
    ·exact ⟨om,fun j _ hj=>by omega⟩
    ·exact af
    ·rintro n ⟨⟨hi,yI⟩,h1⟩;by_cases bB:n<8
     ·have hg:=RV w n bB;by_cases g0:w.list.getD n 0=0
      ·repeat first|refine go ?_|intro _|refine fh ?_|refine av ?_
       refine aC (n+1) (om) ⟨om,fun j hj rp=>?_⟩ ?_ ?_
       ·by_cases e:j=n
        ·subst e;exact g0
        ·exact h1 j hj (om)
       ·exact bH
       ·exact af
      ·obtain ⟨e1,e2⟩:=ez (QJ hi bB g0);rw [e1,e2];repeat first|refine go ?_|intro _|refine fh ?_|refine av ?_
       (apply ad rfl rfl ar)
       ·exact ⟨rfl,rfl⟩
       ·(apply fL;(focus (exact af));all_goals exact bu)
     ·have yI:n=8:=by omega
      subst yI;have ho:=Tg h1;rw [ex ho];rw [ey ho] at vA qJ ⊢;(first|(refine aX (oT g (0*11) l.length l.length) inferInstance (om) ?_;intro _)|(refine aY (oT g (0*11) l.length l.length) inferInstance (om) ?_;intro _));repeat first|refine go ?_|intro _|refine fh ?_|refine av ?_
      apply mY;rfl;(refine oZ (l:=l) (f:=0) (i:=k) (j:=0) (w:={ l[k] with st:=st}) (by rfl) (by rfl) (by exact lX) (by rw [lY];omega) (by exact inferInstance) (by exact inferInstance) (by rfl) (by rfl) (om) (by decide) (by simp only [Nat.zero_add];rfl));refine aU ?_;simp only [Nat.zero_add];have YH:=qZ (g:=g) (T:=190) (l:=l.set k { l[k] with st:=st});rw [List.length_set] at YH;haveI:=YH;repeat first|refine go ?_|intro _|refine fh ?_|refine av ?_
      apply kO;rfl;exact tB.none;(refine oZ (l:=l.set k { l[k] with st:=st}) (f:=0) (i:=k) (j:=2) (w:={ l[k] with st:=st,ag:=w}) (by rfl) (by rfl) (by exact lX) (by rw [lY];omega) (by exact inferInstance) (by exact inferInstance) (by rfl) (by rfl) (by rw [List.length_set];omega) (by decide) (by simp only [Nat.zero_add,List.getElem_set_self];rfl));refine aU ?_;(refine ⟨by first|exact cc.free|exact cc.turns rfl|(refine cc.still ?_;exact bM;done),?_⟩);simp only [Nat.zero_add,List.set_set];have YI:=qZ (g:=g) (T:=190) (l:=l.set k { l[k] with st:=st,ag:=w});rw [List.length_set] at YI;haveI:=YI;by_cases hz:st=0
      ·rw [if_pos hz] at vA qJ;rw [if_pos hz];repeat first|refine go ?_|intro _|refine fh ?_|refine av ?_
       apply mY;rfl;(refine oZ (l:=l.set k { l[k] with st:=st,ag:=w}) (f:=0) (i:=k) (j:=2) (w:={ l[k] with st:=st,ag:= .zero}) (by rfl) (by rfl) (by exact lX) (by rw [lY];omega) (by exact inferInstance) (by exact inferInstance) (by rfl) (by rfl) (by rw [List.length_set];omega) (by decide) (by simp only [Nat.zero_add,List.getElem_set_self];rfl));refine aU ?_;simp only [Nat.zero_add,List.set_set];repeat first|refine go ?_|intro _|refine fh ?_|refine av ?_
       (apply ad rfl rfl ar)
       ·exact ⟨rfl,rfl⟩
       ·(apply fL;(focus (exact af));all_goals exact bu)
      ·rw [if_neg hz] at vA qJ;rw [if_neg hz];repeat first|refine go ?_|intro _|refine fh ?_|refine av ?_
       (apply ad rfl rfl ar)
       ·exact ⟨rfl,rfl⟩
       ·(apply fL;(focus (exact af));all_goals exact bu)
end
section
attribute [local irreducible] Exit.then Exit.inBlock Code.wp WC WO WE WQ V aW dL Sat bz bK dU IntKind.wrap WR Code.rounds WT KO
theorem GG {F:List HP} {c:au} {m:bA} (hc:c.wf) (he:aB c=true) (hl:0≤m.aa∧m.aa<c.aZ) (jR:m.ah=8∨m.ah=9∨m.ah=10∨m.ah=11):az prog 198 [c.val,mv m] [] F (fun r L'=>r= .bool (decide (bU c m))∧L'=[]):=by
  have hC:=fun F=>eC (F:=F) hc;have hH:=fun F=>gW (F:=F) (k:=m.ah);have hS:=fun F=>gV (F:=F) (c:=c) (n:=m.src);have hD:=fun F=>gV (F:=F) (c:=c) (n:=m.dst);have hW:=fun F=>gV (F:=F) (c:=c) (n:=m.mu);simp only [An] at hS hD hW;refine ay func198 ntmps198 ?_;simp only [cF,he,if_true] at hC;obtain ⟨b1,b2,b3,b4⟩:=xg he;have h0:c.bY≠0:=by omega
  have hk:1≤m.ah∧m.ah≤11:=by omega
  repeat first|refine gd ?_|intro _|refine ae @hC ?_
  rename_i bs bm
  apply mT (P:=prog) (fun _:Unit=>[(6,.int .i64 0),(2,.pointer (some ⟨bs,0,none⟩)),(3,.pointer (some ⟨bm,0,none⟩))]) (fun _=>ao bm 159 (mc m)::ao bs 25 c.cells::F)
    (fun _=>bU c m↔∀ i,i<8→oS c m.ah m.ag i)
  ·intro join;rcases jR with h|h|h|h
   ·have eF:bU c m↔(fC c m true∧m.ag= .zero):=by simp [bU,iF,fM,cA,iG,he,h,hl]
    rw [lF (c:=c) (k:=m.ah) (om)] at eF;have hh:decide (cA m.ah)=false:=by rw [h];rfl
    simp only [hh] at hH;by_cases hx:fC c m true
    ·have hj:bU c m↔∀ i,i<8→oS c m.ah m.ag i:=by rw [eF];exact ⟨fun h=>h.2,fun h=>⟨hx,h⟩⟩
     simp only [nq,bV,fC,dD,g9,eD,fQ,Bool.false_eq_true,if_false,if_true,true_and] at hx;repeat' (first|refine gd ?_|intro _|refine ae @hH ?_|refine ae @hS ?_|refine ae @hD ?_|refine ae @hW ?_|refine bj ?_ ?_|fail)
     all_goals first|(exfalso;omega)|exact join () _ _ hj (by exact bH) (by exact af)
    ·have dC:¬bU c m:=fun h=>hx (eF.1 h).1;simp only [nq,bV,fC,dD,g9,eD,fQ,Bool.false_eq_true,if_false,if_true,true_and] at hx;repeat' (first|refine gd ?_|intro _|refine ae @hH ?_|refine ae @hS ?_|refine ae @hD ?_|refine ae @hW ?_|refine bj ?_ ?_|fail)
     all_goals first|(exfalso;omega)|(apply ad rfl rfl ar;(first|exact cS|exact ⟨by simp [dC]<;>omega,rfl⟩);exact bM)
   ·have eF:bU c m↔(dD c m∧m.ag= .zero):=by simp [bU,iF,fM,cA,iG,he,h,hl]
    rw [lF (c:=c) (k:=m.ah) (om)] at eF;have hh:decide (cA m.ah)=false:=by rw [h];rfl
    simp only [hh] at hH;by_cases hx:dD c m
    ·have hj:bU c m↔∀ i,i<8→oS c m.ah m.ag i:=by rw [eF];exact ⟨fun h=>h.2,fun h=>⟨hx,h⟩⟩
     simp only [nq,bV,fC,dD,g9,eD,fQ,Bool.false_eq_true,if_false,if_true,true_and] at hx;repeat' (first|refine gd ?_|intro _|refine ae @hH ?_|refine ae @hS ?_|refine ae @hD ?_|refine ae @hW ?_|refine bj ?_ ?_|fail)
     all_goals first|(exfalso;omega)|exact join () _ _ hj (by exact bH) (by exact af)
    ·have dC:¬bU c m:=fun h=>hx (eF.1 h).1;simp only [nq,bV,fC,dD,g9,eD,fQ,Bool.false_eq_true,if_false,if_true,true_and] at hx;repeat' (first|refine gd ?_|intro _|refine ae @hH ?_|refine ae @hS ?_|refine ae @hD ?_|refine ae @hW ?_|refine bj ?_ ?_|fail)
     all_goals first|(exfalso;omega)|(apply ad rfl rfl ar;(first|exact cS|exact ⟨by simp [dC]<;>omega,rfl⟩);exact bM)
   ·have eF:bU c m↔(fC c m false∧m.ag= .zero):=by simp [bU,iF,fM,cA,iG,he,h,hl]
    rw [lF (c:=c) (k:=m.ah) (om)] at eF;have hh:decide (cA m.ah)=false:=by rw [h];rfl
    simp only [hh] at hH;by_cases hx:fC c m false
    ·have hj:bU c m↔∀ i,i<8→oS c m.ah m.ag i:=by rw [eF];exact ⟨fun h=>h.2,fun h=>⟨hx,h⟩⟩
     simp only [nq,bV,fC,dD,g9,eD,fQ,Bool.false_eq_true,if_false,if_true,true_and] at hx;repeat' (first|refine gd ?_|intro _|refine ae @hH ?_|refine ae @hS ?_|refine ae @hD ?_|refine ae @hW ?_|refine bj ?_ ?_|fail)
     all_goals first|(exfalso;omega)|exact join () _ _ hj (by exact bH) (by exact af)
    ·have dC:¬bU c m:=fun h=>hx (eF.1 h).1;simp only [nq,bV,fC,dD,g9,eD,fQ,Bool.false_eq_true,if_false,if_true,true_and] at hx;repeat' (first|refine gd ?_|intro _|refine ae @hH ?_|refine ae @hS ?_|refine ae @hD ?_|refine ae @hW ?_|refine bj ?_ ?_|fail)
     all_goals first|(exfalso;omega)|(apply ad rfl rfl ar;(first|exact cS|exact ⟨by simp [dC]<;>omega,rfl⟩);exact bM)
   ·have eF:bU c m↔(nq c m∧m.ag= .zero):=by simp [bU,iF,fM,cA,iG,he,h,hl]
    rw [lF (c:=c) (k:=m.ah) (om)] at eF;have hh:decide (cA m.ah)=true:=by rw [h];rfl
    simp only [hh] at hH;by_cases hx:nq c m
    ·have hj:bU c m↔∀ i,i<8→oS c m.ah m.ag i:=by rw [eF];exact ⟨fun h=>h.2,fun h=>⟨hx,h⟩⟩
     simp only [nq,bV,fC,dD,g9,eD,fQ,Bool.false_eq_true,if_false,if_true,true_and] at hx;repeat' (first|refine gd ?_|intro _|refine ae @hH ?_|refine ae @hS ?_|refine ae @hD ?_|refine ae @hW ?_|refine bj ?_ ?_|fail)
     all_goals first|(exfalso;omega)|exact join () _ _ hj (by exact bH) (by exact af)
    ·have dC:¬bU c m:=fun h=>hx (eF.1 h).1;simp only [nq,bV,fC,dD,g9,eD,fQ,Bool.false_eq_true,if_false,if_true,true_and] at hx;repeat' (first|refine gd ?_|intro _|refine ae @hH ?_|refine ae @hS ?_|refine ae @hD ?_|refine ae @hW ?_|refine bj ?_ ?_|fail)
     all_goals first|(exfalso;omega)|(apply ad rfl rfl ar;(first|exact cS|exact ⟨by simp [dC]<;>omega,rfl⟩);exact bM)
  ·intro _ dX;apply aO (E0:=[(2,_),(3,_)]) (fun E0 (i:Nat)=>(6,.int .i64 i)::E0) (fun _=>ao bm 159 (mc m)::ao bs 25 c.cells::F) (fun i=>i≤8∧∀ j,j<i→oS c m.ah m.ag j) (fun i=>8-i) 0
   ·exact bH
   ·exact ⟨om,fun j hj=>by omega⟩
   ·exact af
   ·rintro i ⟨hi,cO⟩;by_cases bB:i<8
    ·have hg:=sW m i bB;have hn:¬oS c m.ah m.ag i→¬bU c m:=fun h hv=>h (dX.1 hv i bB);by_cases ho:oS c m.ah m.ag i
     ·have PG:=ho;unfold oS at ho;repeat' (first|refine gd ?_|intro _|refine bj ?_ ?_|fail)
      all_goals first
      |(exfalso;omega)
      |(refine aC (i+1) (om) ⟨om,fun j hj=>?_⟩ ?_ ?_
        ·by_cases rq:j=i
         ·subst rq;exact PG
         ·exact cO j (om)
        ·exact bH
        ·exact af)
     ·have dC:=hn ho;unfold oS at ho;repeat' (first|refine gd ?_|intro _|refine bj ?_ ?_|fail)
      all_goals first|(exfalso;omega)|(apply ad rfl rfl ar;(first|exact cS|exact ⟨by simp [dC]<;>omega,rfl⟩);exact bM)
    ·have yI:i=8:=by omega
     subst yI;have oD:=dX.2 cO;repeat first|refine gd ?_|intro _
     (apply ad rfl rfl ar;(first|exact cS|exact ⟨by simp [oD]<;>omega,rfl⟩);exact bM)
end
end Go.Sx
