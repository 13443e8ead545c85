/- Mem2, Arr, Arr2, ArrPl, Core: several of my texts as one. My own work. -/
import Derived.Test.YtjihlpjnebdiiabGreatZae
import Derived.Test.YtjihlpjnebdiiabGreatZaf
set_option linter.unusedVariables false
set_option linter.unusedSectionVars false
set_option linter.unusedSimpArgs false
set_option maxRecDepth 100000
set_option maxHeartbeats 4000000
namespace Go.Sx
open Go Go.Proofs Tryz
section
attribute [local irreducible] Exit.then Exit.inBlock Code.wp WC WO WE WQ V aW dL Sat bz bK dU IntKind.wrap WR Code.rounds WT KO
theorem wL {c:au} {ms:List Int} {aa:Int} (hn:(ms.length:Int)=c.ag*c.aZ) (h:fa c aa 0=true):eY c aa+c.ag.toNat≤ms.length∧(iH c ms aa).length=c.ag.toNat∧c.ag.toNat≤8∧1≤c.ag.toNat:=by
  obtain ⟨h1,h2,h3,h4,h5,h6,h7,h8⟩:=n5 h hn;have:eY c aa=(aa*c.ag).toNat:=rfl;refine ⟨om,?_,om,om⟩;simp [iH];omega
theorem Qw {g T:Nat} {c:au} {ms:List Int} {aa:Int} {L:List HP} (hn:(ms.length:Int)=c.ag*c.aZ) (h:fa c aa 0=true) {cap:Nat} :
    bN (ao g T (aj ic ms)::L) 1 (.slice (some ⟨g,eY c aa,none⟩) c.ag.toNat cap) c.ag.toNat (aj ic (iH c ms aa)):=by
  have:=wL hn h;have hx:((aj ic ms).drop (eY c aa)).take (c.ag.toNat*1)=aj ic (iH c ms aa):=by
    have h1:=gn (enc:=ic) (n:=1) (fun _=>rfl) ms (eY c aa);have h2:=iY (enc:=ic) (n:=1) (fun _=>rfl) (ms.drop (eY c aa)) c.ag.toNat;rw [Nat.mul_one] at h1 h2 ⊢;rw [h1,h2];rfl
  have k:=tT (L:=ao g T (aj ic ms)::L) (o:=eY c aa) (m:=c.ag.toNat) (c:=cap) (sz:=1) (b:=g) inferInstance (by rw [mO];omega) (by rw [hx];exact Gr _);rwa [hx] at k
theorem NS {F:List HP} {b:Nat} {c:au} {ms:List Int} {aa:Int} (hc:c.wf) (hl:dZ aa):az prog 165 [.pointer (some ⟨b,0,none⟩),.int .i64 aa] [vF b c ms] F (fun r L'=>r= .tuple [wv (fj c ms aa),.int .i64 (og c aa 0)].toArray∧L'=[vF b c ms]):=by
  cases e:fa c aa 0 with
  |false=>
   have hP:=fun F b v=>zn (F:=F) (b:=b) (v:=v) hc hl e;refine ay func165 ntmps165 ?_;refine xc fun g hf=>?_;repeat first|refine gd ?_|intro _|refine ae @hP ?_
   (apply ad rfl rfl ar)
   ·exact ⟨by simp [fj,og,e,Words.zero],rfl⟩
   ·exact eb @xQ
  |true=>
   refine ay func165 ntmps165 ?_;refine xc fun g hf=>?_;have hr:=wL hf.2.1 e;have hP:=fun F=>Fs (F:=F) (b:=b) (g:=g) hc hl e hf.2.1 hf.2.2;haveI kr:=fun L=>Qw (g:=g) (T:=3) (L:=L) (cap:=ms.length-eY c aa) hf.2.1 e;have OV:aV [.int .i64 0,.int .i64 0,.int .i64 0,.int .i64 0,.int .i64 0,.int .i64 0,.int .i64 0,.int .i64 0] 0 ((aj ic (iH c ms aa)).take (min c.ag.toNat 8*1))=wc (Words.of (iH c ms aa)):=by
     rw [List.take_of_length_le (by rw [mO];omega)];exact Er (om)
   repeat first|refine gd ?_|intro _|refine ae @hP ?_
   rw [OV];repeat first|refine gd ?_|intro _
   (apply ad rfl rfl ar)
   ·exact ⟨by simp [fj,og,e],rfl⟩
   ·exact eb @xQ
theorem Qx {F:List HP} {g T i:Nat} {w:Words} {x:c5} (hi:i<8):az prog 160 [.pointer (some ⟨g,i,none⟩),ov x] [ao g T (wc w)] F (fun r L'=>r= .int .i64 (oN w.list i x)∧L'=[ao g T (wc (Words.of (iV w.list i x)))]):=by
  have h:=KG (F:=F) (g:=g) (T:=T) (i:=i) (ms:=w.list) (x:=x) hi;rw [DP (l:=iV w.list i x) (by rw [sS];rfl)] at h;exact h
theorem uT (l:List Int):aj ic l=l.map (Value.int .i64):=by
  induction l with
  |nil=>rfl
  |cons a r ih=>rw [List.map_cons,←ih];rfl
theorem Qy {ms:List Int} {w:Words} {f k:Nat} (h:f+k≤ms.length) (hk:k≤8):aV (aj ic ms) f ((wc w).take (min 8 k*1))=aj ic (ms.take f++w.list.take k++ms.drop (f+k)):=by
  have e:wc w=aj ic w.list:=rfl;have hl:w.list.length=8:=rfl;rw [show min 8 k*1=k by omega,e,uT,uT,uT,aV];simp [List.map_take,List.map_drop,hl,Nat.min_eq_left hk]
instance (priority:=high) Xs {bw T l:Nat} {w:Words} {L:List HP}:bN (ao bw T (wc w)::L) 1 (Sx.cut (.slice (some ⟨bw,0,none⟩) 8 8) l 8 8 1) (8-l) (aj ic (w.list.drop l)):=by
  by_cases hl:l≤8
  ·have k0:bN (ao bw T (wc w)::L) 1 (.slice (some ⟨bw,0,none⟩) 8 8) 8 (wc w):=qV inferInstance rfl rfl;have k:=bN.cut k0 hl (Nat.le_refl _) (Nat.le_refl _);have e:((wc w).drop (l*1)).take ((8-l)*1)=aj ic (w.list.drop l):=by
     rw [show wc w=aj ic w.list from rfl,gn (enc:=ic) (n:=1) (fun _=>rfl),List.take_of_length_le];rw [mO,List.length_drop];have:w.list.length=8:=rfl;omega
   rwa [e] at k
  ·have e:w.list.drop l=[]:=List.drop_eq_nil_of_le (by have:w.list.length=8:=rfl;omega);have e2:8-l=0:=by omega
   rw [e,e2];exact ⟨fun _ _=>by simp,fun _ _=>rfl,fun _ _=> .inl ⟨_,_,by simp [Sx.cut,e2];exact ⟨rfl,rfl⟩,rfl⟩⟩
theorem Hm {ms:List Int} {w:Words} {f k:Nat} (h:f+k≤ms.length) (hk:k≤8):(ms.take f++w.list.take k++ms.drop (f+k)).length=ms.length:=by
  have hl:w.list.length=8:=rfl;simp [hl,Nat.min_eq_left hk];omega
theorem K1 {F:List HP} {b:Nat} {c:au} {ms:List Int} {aa:Int} {w:Words} (hc:c.wf) (hl:dZ aa):az prog 303 [.pointer (some ⟨b,0,none⟩),.int .i64 aa,wv w] [vF b c ms] F (fun r L'=>r= .int .i64 (J3 c aa w)∧L'=[vF b c (En c ms aa w)]):=by
  cases e:fa c aa 0 with
  |false=>
   have hP:=fun F b v=>zn (F:=F) (b:=b) (v:=v) hc hl e;have hw:ra c aa w=false:=by simp [ra,e]
   refine ay func303 ntmps303 ?_;refine xc fun g hf=>?_;repeat first|refine gd ?_|intro _|refine ae @hP ?_
   (apply ad rfl rfl ar)
   ·exact ⟨by simp [J3,hw],rfl⟩
   ·simp only [En,hw,Bool.false_eq_true,if_false];exact eb @xQ
  |true=>
   refine ay func303 ntmps303 ?_;refine xc fun g hf=>?_;have hr:=wL hf.2.1 e;have hj:=n5 e hf.2.1;have hP:=fun F=>Fs (F:=F) (b:=b) (g:=g) hc hl e hf.2.1 hf.2.2;have Sb:=mO ms;have Sj:(w.list.drop c.ag.toNat).length=8-c.ag.toNat:=by rw [List.length_drop];rfl
   repeat first|refine gd ?_|intro _|refine ae @hP ?_
   rename_i bw;apply aO (E0:=[(5,_),(7,_),(20,_),(21,_)]) (fun E0 (i:Nat)=>(22,.int .i64 i)::E0) (fun _=>ao bw 124 (wc w)::ao b 277 (c.cells++[.slice (some ⟨g,0,none⟩) ms.length ms.length])::ao g 3 (aj ic ms)::F) (fun i=>i≤8-c.ag.toNat∧∀ j (h:j<(w.list.drop c.ag.toNat).length),j<i→(w.list.drop c.ag.toNat)[j]=0) (fun i=>8-i) 0
   ·exact bH
   ·exact ⟨Nat.zero_le _,fun j h hj=>by omega⟩
   ·exact af
   ·rintro i ⟨hi,h1⟩;by_cases bB:i<8-c.ag.toNat
    ·have If:i<(w.list.drop c.ag.toNat).length:=by omega
     by_cases h0:(w.list.drop c.ag.toNat)[i]=0
     ·repeat first|refine gd ?_|intro _
      refine aC (i+1) (om) ⟨om,fun j h hj=>?_⟩ ?_ ?_
      ·by_cases e:j=i
       ·subst e;exact h0
       ·exact h1 j h (om)
      ·exact bH
      ·exact af
     ·have hw:ra c aa w=false:=by
        have:uZ c w=false:=by
          unfold uZ;rw [List.all_eq_false];exact ⟨_,List.getElem_mem If,by simpa using h0⟩
        simp [ra,this]
      repeat first|refine gd ?_|intro _
      (apply ad rfl rfl ar)
      ·exact ⟨by simp [J3,hw],rfl⟩
      ·simp only [En,hw,Bool.false_eq_true,if_false];exact eb @xQ
    ·have hw:ra c aa w=true:=by
       have:uZ c w=true:=by
         unfold uZ;rw [List.all_eq_true];intro x hx;obtain ⟨j,hj,rfl⟩:=List.getElem_of_mem hx;simpa using h1 j hj (om)
       simp [ra,this,e]
     repeat first|refine gd ?_|intro _
     (apply ad rfl rfl ar)
     ·exact ⟨by simp [J3,hw],rfl⟩
     ·rw [Qy hr.1 hr.2.2.1];simp only [En,hw,if_true];apply xQ
      ·exact af
      ·rw [Hm hr.1 hr.2.2.1]
      ·rfl
      ·rw [Hm hr.1 hr.2.2.1];exact hf
theorem ry {Q P:Prop} (k:Q) (h:Hid Q→P:=by
  intro k
  first
  |(refine an ?_;refine bF (id:=4) .true (pl:= .p 0 <| .p 1 <| .r 2 <| .e true [(3,.p 4 <| .done)]) k.out)):P:=h ⟨k⟩
theorem K2 {F:List HP} {c:au} {w:Words} {x:c5} (hc:c.wf) (hx:x.wf):az prog 297 [c.val,wv w,ov x] [] F (fun r L'=>r= .tuple [wv (vN c w x),.int .i64 (BM c w x),.int .i64 (zI c x)].toArray∧L'=[]):=by
  have hA:=fun F=>wq (F:=F) (c:=c) (a:=x.addr) hc hx.2.1;have hM:=fun F=>uQ (F:=F) (x:=x);cases e1:fE c x.addr with
  |false=>
   have ha:nA c x=false:=by simp [nA,e1]
   simp only [zQ,e1,Bool.false_eq_true,if_false] at hA;refine ay func297 ntmps297 ?_;repeat first|refine go ?_|intro _|refine ry ?_|refine av ?_|refine ae @hA ?_
   (apply ad rfl rfl ar)
   ·exact ⟨by simp [vN,BM,zI,ha,Words.zero],rfl⟩
   ·exact af
  |true=>
   simp only [zQ,e1,if_true] at hA;cases e2:k8 x with
   |false=>
    have ha:nA c x=false:=by simp [nA,e2]
    simp only [e2] at hM;refine ay func297 ntmps297 ?_;repeat first|refine go ?_|intro _|refine ry ?_|refine av ?_|refine ae @hA ?_|refine ae @hM ?_
    (apply ad rfl rfl ar)
    ·exact ⟨by simp [vN,BM,zI,ha,Words.zero],rfl⟩
    ·exact af
   |true=>
    simp only [e2] at hM;by_cases e3:x.ah=4
    ·have ha:nA c x=false:=by simp [nA,e3]
     refine ay func297 ntmps297 ?_;repeat first|refine go ?_|intro _|refine ry ?_|refine av ?_|refine ae @hA ?_|refine ae @hM ?_
     (apply ad rfl rfl ar)
     ·exact ⟨by simp [vN,BM,zI,ha,Words.zero],rfl⟩
     ·exact af
    ·have ha:nA c x=true:=by simp [nA,e1,e2,e3]
     obtain ⟨_,_,_,q1,q2,_⟩:=Ig (c:=c) (x:=x) (ms:=List.replicate (c.ag*c.aZ).toNat 0) (by
       have:=(AR e1).2;simp;omega) ha
     refine ay func297 ntmps297 ?_;repeat first|refine go ?_|intro _|refine ry ?_|refine av ?_|refine ae @hA ?_|refine ae @hM ?_|refine ae @Qx ?_
     (apply ad rfl rfl ar)
     ·exact ⟨by simp [vN,BM,zI,ha],rfl⟩
     ·exact af
end
section
def cr (w:Way):Bool:=decide (w.st≠0)|| w.lk
def ib (aa:Int) (w:Way):Bool:=cr w&& decide (w.aa=aa)
def bL (c:au) (aa:Int):Nat:=(nI c aa).toNat*c.al.toNat
def cL (c:au) (l:List Way) (aa:Int):List Way:=if bG c aa then (l.drop (bL c aa)).take c.al.toNat else []
def bS (c:au) (l:List Way) (aa:Int):Int:=bO (ib aa) (cL c l aa)
def df (c:au) (l:List Way) (aa:Int):Int:=bO (fun w=> !cr w) (cL c l aa)
def bg (c:au) (l:List Way) (aa:Int):Way:=if bS c l aa<0 then .zero else (cL c l aa).getD (bS c l aa).toNat .zero
def oY (c:au) (l:List Way) (aa:Int):Int:=if bS c l aa<0 then 0 else bS c l aa
def gI (c:au) (l:List Way) (aa:Int):Bool:= !decide (bS c l aa<0)
def rK (c:au) (w:Words):Bool:=decide (0≤bO (fun n=> !decide (n=0)) (w.list.drop c.ag.toNat))
def oF (c:au) (l:List Way) (aa kV:Int):Int:=if 0≤kV∧kV<(cL c l aa).length then (if bS c l aa= -1 then (if cr ((cL c l aa).getD kV.toNat .zero) then 4 else 0) else 6) else 1
def fJ (c:au) (l:List Way) (aa kV:Int):List Way:=if oF c l aa kV=0 then l.set (bL c aa+kV.toNat) ⟨0,aa,.zero,true⟩ else l
def lC (c:au) (l:List Way) (aa st:Int) (w:Words):Int:=if bS c l aa= -1 then 5 else if st<0∨st>4∨rK c w=true then 1 else 0
def db (c:au) (l:List Way) (aa st:Int) (w:Words):List Way:=if lC c l aa st w=0 then l.set (bL c aa+(bS c l aa).toNat) { bg c l aa with st:=st,ag:=if st=0 then .zero else w} else l
def rk (c:au) (l:List Way) (aa:Int):Int:=if bS c l aa= -1 then 5 else 0
def eZ (c:au) (l:List Way) (aa:Int) (lk:Bool):List Way:=if rk c l aa=0 then l.set (bL c aa+(bS c l aa).toNat) { bg c l aa with lk:=lk} else l
def ng (c:au) (s k:Int):Bool:=decide (0≤s∧s<c.cl∧0≤k∧k<c.al)
def iw (c:au) (l:List Way) (s k:Int):Way:=if ng c s k then l.getD (s.toNat*c.al.toNat+k.toNat) .zero else .zero
def oT (g o n c:Nat):Value:= .slice (some ⟨g,o,none⟩) n c
theorem lX {g o n c:Nat}:pb (oT g o n c)=g:=rfl
theorem lY {g o n c:Nat}:po (oT g o n c)=o:=rfl
def Pn (T TW:TypeId) (b:Nat) (c:au) (l:List Way):HP:=
  Ex fun g:Nat=>[ao b T (c.cells++[.slice (some ⟨g,0,none⟩) l.length l.length]),ao g TW (aj lM l),ja (aB c=true∧(l.length:Int)=c.cl*c.al)]
theorem gS {T TW:TypeId} {b g n:Nat} {c:au} {l:List Way} {xs:List Value} {L M:List HP} (h:ai L (ao b T (c.cells++[.slice (some ⟨g,0,none⟩) n n])::ao g TW xs::M)) (hn:n=l.length) (hx:xs=aj lM l)
    (hc:aB c=true) (hl:(l.length:Int)=c.cl*c.al):ai L (Pn T TW b c l::M):=by
  subst hn hx;refine ai.trans h (ai.trans ?_ (fU (p:=fun g:Nat=>[ao b T (c.cells++[.slice (some ⟨g,0,none⟩) l.length l.length]),ao g TW (aj lM l),ja (aB c=true∧(l.length:Int)=c.cl*c.al)]) g));exact ai.cons (ai.cons (cX ⟨hc,hl⟩))
theorem Qz {T TW:TypeId} {b:Nat} {c:au} {l:List Way} {L:List HP} {w:World} (h:Sat (Pn T TW b c l::L) w):∃ g,(aB c=true∧(l.length:Int)=c.cl*c.al)∧Sat (ao b T (c.cells++[.slice (some ⟨g,0,none⟩) l.length l.length])::ao g TW (aj lM l)::L) w:=by
  obtain ⟨g,hx⟩:=eN h;simp only [eX] at hx;exact ⟨g,fc (aG (aG hx)),(ai.cons (ai.cons (ai.drop ai.refl))) _ hx⟩
section
variable {T TW:TypeId} {b:Nat} {c:au} {l:List Way} {P:Program} {N:Nat} {env:Env} {L:List HP} {Q:Exit→Act→World→Prop}
theorem rS {co:Code} (h:∀ g,(aB c=true∧(l.length:Int)=c.cl*c.al)→WC P N co env (ao b T (c.cells++[.slice (some ⟨g,0,none⟩) l.length l.length])::ao g TW (aj lM l)::L) Q):WC P N co env (Pn T TW b c l::L) Q:=by
  intro a w ha hw;obtain ⟨g,hf,hx⟩:=Qz hw;exact h g hf a w ha hx
end
theorem xh {s W S:Nat} (h:s<S):s*W+W≤S*W:=by
  have:=Nat.mul_le_mul_right W (show s+1≤S by omega);rw [Nat.succ_mul] at this;exact this
theorem jb {c:au} {n:Nat} (hc:aB c=true) (hn:(n:Int)=c.cl*c.al):n=c.cl.toNat*c.al.toNat∧1≤c.al∧c.al≤8∧1≤c.cl∧c.cl≤64∧n≤512:=by
  obtain ⟨_,_,⟨k,hk,e⟩,_,_,h1,h2⟩:=cp hc;have:=mE hk;have h3:1≤c.cl∧c.cl≤64:=by rw [e];exact ⟨this.1,by have:=this.2;simpa using this⟩
  have e1:((c.cl.toNat*c.al.toNat:Nat):Int)=c.cl*c.al:=by
    rw [Int.natCast_mul,Int.toNat_of_nonneg (om),Int.toNat_of_nonneg (om)]
  have e2:n=c.cl.toNat*c.al.toNat:=by omega
  have e3:c.cl.toNat*c.al.toNat≤64*8:=Nat.mul_le_mul (om) (om);exact ⟨e2,h1,h2,h3.1,h3.2,om⟩
theorem D5 {c:au} {aa:Int} (h:bG c aa=true):0≤nI c aa∧nI c aa<c.cl∧nI c aa=aa % c.cl∧0≤aa∧aa<c.aZ:=by
  obtain ⟨hc,h0,h1⟩:=wZ h;obtain ⟨_,_,⟨k,hk,e⟩,_⟩:=cp hc;have h2:=(mE hk).1;have e2:nI c aa=aa % c.cl:=if_pos h;rw [e2];rw [e];exact ⟨Int.emod_nonneg _ (om),Int.emod_lt_of_pos _ (om),rfl,h0,h1⟩
theorem pX {c:au} {l:List Way} {aa:Int} (hc:aB c=true) (hn:(l.length:Int)=c.cl*c.al) (h:bG c aa=true):(cL c l aa).length=c.al.toNat∧bL c aa+c.al.toNat≤l.length:=by
  obtain ⟨e,h1,h2,h3,h4,h5⟩:=jb hc hn;obtain ⟨s0,s1,_⟩:=D5 h;have hr:=xh (s:=(nI c aa).toNat) (W:=c.al.toNat) (S:=c.cl.toNat) (om);have:bL c aa+c.al.toNat≤l.length:=by rw [e];exact hr
  refine ⟨?_,this⟩;unfold cL;rw [if_pos h,List.length_take,List.length_drop];omega
theorem z4 {g T:Nat} {l:List Way} {f k cap:Nat} (hf:f+k≤l.length) (L:List HP):bN (ao g T (aj lM l)::L) 11 (oT g (f*11) k cap) ((l.drop f).take k).length (aj lM ((l.drop f).take k)):=by
  have hx:((aj lM l).drop (f*11)).take (k*11)=aj lM ((l.drop f).take k):=by
    rw [gn (enc:=lM) (n:=11) (fun _=>rfl),iY (enc:=lM) (n:=11) (fun _=>rfl)]
  have hl:(aj lM l).length=l.length*11:=jj (enc:=lM) (n:=11) (fun _=>rfl) l
  have kk:=tT (L:=ao g T (aj lM l)::L) (o:=f*11) (m:=k) (c:=cap) (sz:=11) (b:=g) inferInstance (by rw [hl,←Nat.add_mul];exact Nat.mul_le_mul_right _ hf) (by
    rw [hx,List.all_eq_true];intro v hv;obtain ⟨w,_,hw⟩:=List.mem_flatMap.1 hv;simp [lM] at hw;rcases hw with h|h|h|h|h|h|h|h|h|h|h<;>(rw [h];rfl))
  rw [hx] at kk;have e:((l.drop f).take k).length=k:=by rw [List.length_take,List.length_drop];omega
  rw [e];exact kk
attribute [irreducible] oT
attribute [local irreducible] Exit.then Exit.inBlock Code.wp WC WO WE WQ V aW dL Sat bz bK dU IntKind.wrap WR Code.rounds WT KO
abbrev ud:=Pn 326 127
abbrev J6 (b g:Nat) (c:au) (l:List Way):HP:=ao b 326 (c.cells++[.slice (some ⟨g,0,none⟩) l.length l.length])
theorem yo {F:List HP} {w:Way}:az prog 312 [J5 w] [] F (fun r L'=>r= .bool (cr w)∧L'=[]):=by
  refine ay func312 ntmps312 ?_;by_cases h:w.st=0
  ·repeat first|refine gd ?_|intro _
   (apply ad rfl rfl ar;(first|exact cS|exact ⟨by simp [cr,h]<;>omega,rfl⟩);exact bM)
  ·repeat first|refine gd ?_|intro _
   (apply ad rfl rfl ar;(first|exact cS|exact ⟨by simp [cr,h]<;>omega,rfl⟩);exact bM)
theorem Bu {F:List HP} {b:Nat} {aa:Int} {T:TypeId} {C:List Value→List HP} {w:Way} (k:bX b F T [.int .i64 aa] C) :
    az prog 317 [J5 w,.pointer (some ⟨b,0,none⟩)] [] F (fun r L'=>r= .bool (ib aa w)∧L'=[]):=by
  have hT:=fun F=>yo (F:=F) (w:=w);refine ay func317 ntmps317 ?_;cases h:cr w with
  |true=>
   rw [h] at hT;repeat first|refine gd ?_|intro _|refine ae @hT ?_
   (apply ad rfl rfl ar;(first|exact cS|exact ⟨by simp [ib,h]<;>omega,rfl⟩);exact bM)
  |false=>
   rw [h] at hT;repeat first|refine gd ?_|intro _|refine ae @hT ?_
   (apply ad rfl rfl ar;(first|exact cS|exact ⟨by simp [ib,h]<;>omega,rfl⟩);exact bM)
theorem Dc {F:List HP} {w:Way}:az prog 311 [J5 w] [] F (fun r L'=>r= .bool (!cr w)∧L'=[]):=by
  refine ay func311 ntmps311 ?_;repeat first|refine gd ?_|intro _|refine ae @yo ?_
  exact aM
theorem Fx {F:List HP} {b g:Nat} {c:au} {l:List Way} {s:Int} (hc:aB c=true) (hn:(l.length:Int)=c.cl*c.al) (h0:0≤s) (h1:s<c.cl) :
    az prog 275 [.pointer (some ⟨b,0,none⟩),.int .i64 s] [J6 b g c l] F (fun r L'=>r=oT g (s.toNat*c.al.toNat*11) c.al.toNat c.al.toNat∧L'=[J6 b g c l]):=by
  obtain ⟨e,h2,h3,h4,h5,h6⟩:=jb hc hn;have hr:=xh (s:=s.toNat) (W:=c.al.toNat) (S:=c.cl.toNat) (om);have hz:s*c.al=((s.toNat*c.al.toNat:Nat):Int):=by rw [Int.natCast_mul,Int.toNat_of_nonneg h0,Int.toNat_of_nonneg (om)]
  rw [←e] at hr;generalize s.toNat*c.al.toNat=z at *;refine ay func275 ntmps275 ?_;repeat first|refine gd ?_|intro _
  (apply ad rfl rfl ar)
  ·refine ⟨?_,rfl⟩;rw [nD (om)];have e1:(s*c.al).toNat=z:=by omega
   have e2:(s*c.al+c.al).toNat-(s*c.al).toNat=c.al.toNat:=by omega
   rw [e2,e1,Nat.zero_add];unfold oT;rfl
  ·exact af
theorem xS {F:List HP} {b g:Nat} {c:au} {l:List Way} {aa:Int} (hw:c.wf) (iD:dZ aa) (hc:aB c=true) (hn:(l.length:Int)=c.cl*c.al) (h:bG c aa=true) :
    az prog 254 [.pointer (some ⟨b,0,none⟩),.int .i64 aa] [J6 b g c l] F (fun r L'=>r=oT g (bL c aa*11) c.al.toNat c.al.toNat∧L'=[J6 b g c l]):=by
  have hL:=fun F=>nZ (F:=F) (c:=c) (a:=aa) hw iD;obtain ⟨s0,s1,_⟩:=D5 h;have hW:=fun F=>Fx (F:=F) (b:=b) (g:=g) (c:=c) (l:=l) (s:=nI c aa) hc hn s0 s1;have e0:p7 c aa=0:=if_pos h;simp only [e0] at hL;refine ay func254 ntmps254 ?_;repeat first|refine gd ?_|intro _|refine ae @hL ?_|refine ae @hW ?_
  (apply ad rfl rfl ar;(first|exact cS|exact ⟨by simp [bL]<;>omega,rfl⟩);exact bM)
theorem yp {F:List HP} {b g:Nat} {c:au} {l:List Way} {aa:Int} (hw:c.wf) (iD:dZ aa) (h:bG c aa=false) :
    az prog 254 [.pointer (some ⟨b,0,none⟩),.int .i64 aa] [J6 b g c l] F (fun r L'=>r= .slice none 0 0∧L'=[J6 b g c l]):=by
  have hL:=fun F=>nZ (F:=F) (c:=c) (a:=aa) hw iD;have e0:p7 c aa=1:=by unfold p7;rw [h];rfl
  simp only [e0] at hL;refine ay func254 ntmps254 ?_;repeat first|refine gd ?_|intro _|refine ae @hL ?_
  exact aM
theorem lG {c:au} {l:List Way} {aa:Int} (h:bG c aa=false):cL c l aa=[]:=by unfold cL;rw [h];rfl
theorem mz {c:au} {l:List Way} {aa:Int} (h:bG c aa=true):cL c l aa=(l.drop (bL c aa)).take c.al.toNat:=if_pos h
theorem sX {F:List HP} {b g:Nat} {c:au} {l:List Way} {aa:Int} (hw:c.wf) (iD:dZ aa) (hc:aB c=true) (hn:(l.length:Int)=c.cl*c.al) :
    az prog 253 [.pointer (some ⟨b,0,none⟩),.int .i64 aa] [J6 b g c l,ao g 127 (aj lM l)] F (fun r L'=>r= .int .i64 (bS c l aa)∧L'=[J6 b g c l,ao g 127 (aj lM l)]):=by
  cases h:bG c aa with
  |true=>
   obtain ⟨k1,k2⟩:=pX hc hn h;have hO:=fun F=>xS (F:=F) (b:=b) (g:=g) hw iD hc hn h;have kr:=z4 (g:=g) (T:=127) (cap:=c.al.toNat) k2;rw [←mz h,k1] at kr;haveI:=kr;have hb:c.al.toNat≤512:=by have:=(jb hc hn).2.2.2.2.2;omega
   have hI:=fun F (bl:Nat) (C:List Value→List HP) (PB:bX bl F 3 [.int .i64 aa] C) (k:bN F 11 (oT g (bL c aa*11) c.al.toNat c.al.toNat) c.al.toNat (aj lM (cL c l aa)))=>
     lP (F:=F) (v:=oT g (bL c aa*11) c.al.toNat c.al.toNat) (l:=cL c l aa) (fk:=317) (first:=[]) (cap:=[.pointer (some ⟨bl,0,none⟩)]) (p:=ib aa) (by rw [k1];exact k) (om) (fun x _=>Bu PB)
   refine ay func253 ntmps253 ?_;repeat first|refine gd ?_|intro _|refine ae @hO ?_|refine ae @hI ?_
   (apply ad rfl rfl ar;(first|exact cS|exact ⟨by simp [bS]<;>omega,rfl⟩);exact bM)
  |false=>
   have hO:=fun F=>yp (F:=F) (b:=b) (g:=g) (l:=l) hw iD h;have hI:=fun F (bl:Nat) (C:List Value→List HP) (PB:bX bl F 3 [.int .i64 aa] C)=>
     lP (F:=F) (v:= .slice none 0 0) (l:=[]) (fk:=317) (first:=[]) (cap:=[.pointer (some ⟨bl,0,none⟩)]) (p:=ib aa) ou (by simp) (fun x _=>Bu PB)
   refine ay func253 ntmps253 ?_;repeat first|refine gd ?_|intro _|refine ae @hO ?_|refine ae @hI ?_
   (apply ad rfl rfl ar;(first|exact cS|exact ⟨by simp [bS,lG h]<;>omega,rfl⟩);exact bM)
end
section
section
variable {P:Program} {N:Nat} {t ty:TypeId} {x y:Operand} {env:Env} {L:List HP}
theorem oZ {n bs f i j T g bb o:Nat} {z u:Value} {l:List Way} {w:Way} {cs:List Value} {C:List Value→List HP} {pos:String} {c9:Array Edge} [hZ:TZ P t n z bs]
    (hx:ev env x=some (.pointer (some ⟨bb,o,none⟩))) (hy:ev env y=some u) (hb:bb=g) (ho:o=(f+i)*11+j) (k:bX g L T (aj lM l) C) (hc:CO u cs) (hn:cs.length=n) (h1:cs.all one=true)
    (hi:f+i<l.length) (hj:j+n≤11) (e:aV (lM l[f+i]) j cs=lM w) :
    KO P N ⟨none,.store t x y,ty,pos,c9,none⟩ env L (tq env (C (aj lM (l.set (f+i) w)))):=by
  subst hb ho;have hl:(aj lM l).length=l.length*11:=jj (enc:=lM) (n:=11) (fun _=>rfl) l;have hle:(f+i)*11+11≤l.length*11:=by have:=Nat.mul_le_mul_right 11 (show f+i+1≤l.length by omega);omega
  have h:=nN (P:=P) (N:=N) (ty:=ty) (pos:=pos) (c9:=c9) (t:=t) hx hy k hc.pf hn h1 (by rw [hl,Nat.ble_eq];omega);have es:=eR (enc:=lM) (n:=11) (fun _=>rfl) l (f+i) hi (j:=j) (cs:=cs) (x:=w) (om) e;rw [es] at h;exact h
end
theorem Aw {g T:Nat} {c:au} {l:List Way} {aa:Int} (hc:aB c=true) (hn:(l.length:Int)=c.cl*c.al) (h:bG c aa=true) (L:List HP) :
    bN (ao g T (aj lM l)::L) 11 (oT g (bL c aa*11) c.al.toNat c.al.toNat) (cL c l aa).length (aj lM (cL c l aa)):=by
  obtain ⟨k1,k2⟩:=pX hc hn h;have kr:=z4 (g:=g) (T:=T) (cap:=c.al.toNat) k2;rw [←mz h] at kr;exact kr L
theorem k6 {c:au} {l:List Way} {aa:Int} {i:Nat} (h:bG c aa=true) (hi:i<(cL c l aa).length):∃ h2:bL c aa+i<l.length,(cL c l aa)[i]=l[bL c aa+i]:=by
  have pT:=hi;simp only [mz h,List.length_take,List.length_drop] at pT;refine ⟨om,?_⟩;simp only [mz h,List.getElem_take,List.getElem_drop]
theorem wM {c:au} {l:List Way} {aa:Int} (h:0≤bS c l aa):bG c aa=true:=by
  cases e:bG c aa with
  |true=>rfl
  |false=>
   exfalso;unfold bS at h;rw [lG e] at h;simp [bO] at h
theorem rT {c:au} {l:List Way} {aa:Int} (h:0≤bS c l aa):∃ i:Nat,∃ hi:i<(cL c l aa).length,bS c l aa=i∧ib aa (cL c l aa)[i]=true∧∀ j (hj:j<(cL c l aa).length),j<i→ib aa (cL c l aa)[j]=false:=fx h
theorem l5 (c:au) (l:List Way) (aa:Int): -1≤bS c l aa∧bS c l aa<(cL c l aa).length:=HE _ _
theorem Dd (n:Nat):(List.replicate n (lM .zero)).flatten=aj lM (List.replicate n .zero):=by
  induction n with
  |zero=>rfl
  |succ n ih=>simp only [List.replicate_succ,List.flatten_cons,aj,List.flatMap_cons];rw [ih]
theorem EF (l:List Int):(aj ic l).length=l.length:=by
  have:=jj (enc:=ic) (n:=1) (fun _=>rfl) l;omega
attribute [local irreducible] Exit.then Exit.inBlock Code.wp WC WO WE WQ V aW dL Sat bz bK dU IntKind.wrap WR Code.rounds WT KO
theorem zo {Q P:Prop} (k:Q) (h:Hid Q→P:=by
  intro k
  first
  |(refine an ?_;refine bF (id:=4) .true (pl:= .p 1 <| .p 3 <| .r 0 <| .r 2 <| .r 4 <| .p 5 <| .e true [(6,.p 7 <| .e true [(8,.p 9 <| .p 10 <| .done)])]) k.out)):P:=h ⟨k⟩
theorem QA {F:List HP} {c:au} (hw:c.wf) (hc:aB c=true):az prog 136 [c.val] [] F (fun r L'=>∃ b,r= .tuple [.pointer (some ⟨b,0,none⟩),.int .i64 0].toArray∧L'=[ud b c (List.replicate (c.cl*c.al).toNat .zero)]):=by
  have hC:=fun F=>fT (F:=F) hw;simp only [cF,hc,if_true] at hC;obtain ⟨_,_,⟨k,hk,e⟩,_,_,h1,h2⟩:=cp hc;have hb:=mE hk;have h3:1≤c.cl∧c.cl≤64:=by rw [e];exact ⟨hb.1,by have:=hb.2;simpa using this⟩
  have hz:c.cl*c.al=((c.cl.toNat*c.al.toNat:Nat):Int):=by rw [Int.natCast_mul,Int.toNat_of_nonneg (om),Int.toNat_of_nonneg (om)]
  have hm:c.cl.toNat*c.al.toNat≤64*8:=Nat.mul_le_mul (om) (om);refine ay func136 ntmps136 ?_;have h0:0≤c.cl*c.al∧c.cl*c.al≤512:=by omega
  repeat first|refine go ?_|intro _|refine zo ?_|refine av ?_|refine ae @hC ?_
  apply kO;rfl;exact tB.none;(apply xC;rfl;omega;omega;omega;rfl;omega;rfl);refine dQ ?_;intro g;(refine ⟨by first|exact cc.free|exact cc.turns rfl|(refine cc.still ?_;exact bM;done),?_⟩);repeat first|refine go ?_|intro _|refine zo ?_|refine av ?_
  (apply ad rfl rfl ar)
  ·exact ⟨_,rfl,rfl⟩
  ·refine ai.trans ?_ (gS (g:=g) (l:=List.replicate (c.cl*c.al).toNat .zero) (n:=(c.cl*c.al).toNat) (xs:=(List.replicate (c.cl*c.al).toNat (lM .zero)).flatten) ai.refl (by simp) (Dd _) hc (by simp;omega));change ai (ao _ _ (c.cells++[.slice (some ⟨g,0,none⟩) (c.cl*c.al).toNat (c.cl*c.al).toNat])::_) _;exact af
theorem NT {F:List HP} {b:Nat} {c:au} {l:List Way} {aa:Int} (hw:c.wf) (iD:dZ aa) :
    az prog 167 [.pointer (some ⟨b,0,none⟩),.int .i64 aa] [ud b c l] F (fun r L'=>r= .tuple [J5 (bg c l aa),.int .i64 (oY c l aa),.bool (gI c l aa)].toArray∧L'=[ud b c l]):=by
  refine ay func167 ntmps167 ?_;refine rS fun g hf=>?_;obtain ⟨hc,hn⟩:=hf;have hP:=fun F=>sX (F:=F) (b:=b) (g:=g) hw iD hc hn;by_cases h:bS c l aa<0
  ·have e1:bg c l aa= .zero:=if_pos h;have e2:oY c l aa=0:=if_pos h;have e3:gI c l aa=false:=by simp [gI,h]
   rw [e1,e2,e3];repeat first|refine gd ?_|intro _|refine ae @hP ?_
   (apply ad rfl rfl ar)
   ·exact ⟨rfl,rfl⟩
   ·(apply gS;(focus (exact af));all_goals exact bu)
  ·have cO:=wM (by omega:0≤bS c l aa);obtain ⟨i,hi,ei,_,_⟩:=rT (by omega:0≤bS c l aa);have e1:bg c l aa=(cL c l aa)[i]:=by unfold bg;rw [if_neg h,ei,Int.toNat_natCast];exact (ia hi).symm
   have e2:oY c l aa=i:=by unfold oY;rw [if_neg h,ei]
   have e3:gI c l aa=true:=by simp [gI,h]
   rw [e1,e2,e3];rw [ei] at hP;have hO:=fun F=>xS (F:=F) (b:=b) (g:=g) hw iD hc hn cO;haveI kr:=Aw (g:=g) (T:=127) hc hn cO;repeat first|refine gd ?_|intro _|refine ae @hP ?_|refine ae @hO ?_
   (apply ad rfl rfl ar)
   ·exact ⟨rfl,rfl⟩
   ·(apply gS;(focus (exact af));all_goals exact bu)
theorem NU {F:List HP} {b:Nat} {c:au} {l:List Way} {aa:Int} (hw:c.wf) (iD:dZ aa) :
    az prog 243 [.pointer (some ⟨b,0,none⟩),.int .i64 aa] [ud b c l] F (fun r L'=>r= .int .i64 (df c l aa)∧L'=[ud b c l]):=by
  refine ay func243 ntmps243 ?_;refine rS fun g hf=>?_;obtain ⟨hc,hn⟩:=hf;cases h:bG c aa with
  |true=>
   obtain ⟨k1,k2⟩:=pX hc hn h;have hO:=fun F=>xS (F:=F) (b:=b) (g:=g) hw iD hc hn h;haveI kr:=Aw (g:=g) (T:=127) hc hn h;have hb:c.al.toNat≤512:=by have:=(jb hc hn).2.2.2.2.2;omega
   have hI:=fun F (k:bN F 11 (oT g (bL c aa*11) c.al.toNat c.al.toNat) (cL c l aa).length (aj lM (cL c l aa)))=>
     lP (F:=F) (v:=oT g (bL c aa*11) c.al.toNat c.al.toNat) (l:=cL c l aa) (fk:=311) (first:=[]) (cap:=[]) (p:=fun w=> !cr w) k (om) (fun x _=>Dc)
   repeat first|refine gd ?_|intro _|refine ae @hO ?_|refine ae @hI ?_
   (apply ad rfl rfl ar)
   ·exact ⟨rfl,rfl⟩
   ·(apply gS;(focus (exact af));all_goals exact bu)
  |false=>
   have hO:=fun F=>yp (F:=F) (b:=b) (g:=g) (l:=l) hw iD h;have hI:=fun F=>lP (F:=F) (v:= .slice none 0 0) (l:=[]) (fk:=311) (first:=[]) (cap:=[]) (p:=fun w=> !cr w) ou (by simp) (fun x _=>Dc);have e1:df c l aa= -1:=by unfold df;rw [lG h];rfl
   rw [e1];repeat first|refine gd ?_|intro _|refine ae @hO ?_|refine ae @hI ?_
   (apply ad rfl rfl ar)
   ·exact ⟨rfl,rfl⟩
   ·(apply gS;(focus (exact af));all_goals exact bu)
theorem MI {F:List HP} {b:Nat} {c:au} {l:List Way} {s k:Int} :
    az prog 205 [.pointer (some ⟨b,0,none⟩),.int .i64 s,.int .i64 k] [ud b c l] F (fun r L'=>r= .tuple [J5 (iw c l s k),.bool (ng c s k)].toArray∧L'=[ud b c l]):=by
  refine ay func205 ntmps205 ?_;refine rS fun g hf=>?_;obtain ⟨hc,hn⟩:=hf;cases h:ng c s k with
  |true=>
   have h':=h;simp only [ng,decide_eq_true_eq] at h';obtain ⟨h0,h1,h2,h3⟩:=h';obtain ⟨k,rfl⟩:∃ j:Nat,k=j:=⟨k.toNat,om⟩;obtain ⟨en,h4,h5,h6,h7,h8⟩:=jb hc hn;have hr:=xh (s:=s.toNat) (W:=c.al.toNat) (S:=c.cl.toNat) (om);have hW:=fun F=>Fx (F:=F) (b:=b) (g:=g) (c:=c) (l:=l) (s:=s) hc hn h0 h1;have kr:=z4 (g:=g) (T:=127) (l:=l) (f:=s.toNat*c.al.toNat) (k:=c.al.toNat) (cap:=c.al.toNat) (om);have xY:k<((l.drop (s.toNat*c.al.toNat)).take c.al.toNat).length:=by rw [List.length_take,List.length_drop];omega
   have e1:iw c l s k=((l.drop (s.toNat*c.al.toNat)).take c.al.toNat)[k]:=by
     unfold iw;rw [if_pos h,Int.toNat_natCast,List.getElem_take,List.getElem_drop];exact (ia (by rw [List.length_take,List.length_drop] at xY;omega)).symm
   rw [e1];generalize (l.drop (s.toNat*c.al.toNat)).take c.al.toNat=m at *;haveI:=kr;repeat first|refine gd ?_|intro _|refine ae @hW ?_
   (apply ad rfl rfl ar)
   ·exact ⟨rfl,rfl⟩
   ·(apply gS;(focus (exact af));all_goals exact bu)
  |false=>
   have e1:iw c l s k= .zero:=by unfold iw;rw [if_neg (by simp [h])]
   rw [e1];simp only [ng,decide_eq_false_iff_not] at h;repeat' (first|refine gd ?_|intro _|refine bj ?_ ?_|fail)
   all_goals first|(exfalso;omega)|skip
   all_goals (apply ad rfl rfl ar)
   all_goals first|exact ⟨rfl,rfl⟩|(apply gS;(focus (exact af));all_goals exact bu)
theorem QB {F:List HP} {b:Nat} {c:au} {l:List Way} {aa kV:Int} (hw:c.wf) (iD:dZ aa) :
    az prog 245 [.pointer (some ⟨b,0,none⟩),.int .i64 aa,.int .i64 kV] [ud b c l] F (fun r L'=>r= .int .i64 (oF c l aa kV)∧L'=[ud b c (fJ c l aa kV)]):=by
  refine ay func245 ntmps245 ?_;refine rS fun g hf=>?_;obtain ⟨hc,hn⟩:=hf;have hP:=fun F=>sX (F:=F) (b:=b) (g:=g) hw iD hc hn;cases h:bG c aa with
  |false=>
   have hO:=fun F=>yp (F:=F) (b:=b) (g:=g) (l:=l) hw iD h;have e1:oF c l aa kV=1:=by unfold oF;rw [lG h,if_neg (by simp only [List.length_nil];omega)]
   have e2:fJ c l aa kV=l:=by unfold fJ;rw [e1];rfl
   rw [e1,e2];by_cases h0:kV<0
   ·repeat first|refine gd ?_|intro _|refine ae @hO ?_
    (apply ad rfl rfl ar)
    ·exact ⟨rfl,rfl⟩
    ·(apply gS;(focus (exact af));all_goals exact bu)
   ·repeat first|refine gd ?_|intro _|refine ae @hO ?_
    (apply ad rfl rfl ar)
    ·exact ⟨rfl,rfl⟩
    ·(apply gS;(focus (exact af));all_goals exact bu)
  |true=>
   have hO:=fun F=>xS (F:=F) (b:=b) (g:=g) hw iD hc hn h;haveI kr:=Aw (g:=g) (T:=127) hc hn h;obtain ⟨k1,k2⟩:=pX hc hn h;obtain ⟨_,_,_,_,_,h8⟩:=jb hc hn;by_cases h0:0≤kV∧kV<(cL c l aa).length
   ·obtain ⟨i,rfl⟩:∃ j:Nat,kV=j:=⟨kV.toNat,om⟩;have hi:i<(cL c l aa).length:=by omega
    obtain ⟨sq,_⟩:=k6 h hi;have hg:(cL c l aa).getD i .zero=(cL c l aa)[i]:=(ia hi).symm;by_cases hp:bS c l aa= -1
    ·rw [hp] at hP;have hT:=fun F=>yo (F:=F) (w:=(cL c l aa)[i]);cases ht:cr (cL c l aa)[i] with
     |true=>
      rw [ht] at hT;have e1:oF c l aa i=4:=by unfold oF;rw [if_pos h0,if_pos hp,Int.toNat_natCast,hg,ht];rfl
      have e2:fJ c l aa i=l:=by unfold fJ;rw [e1];rfl
      rw [e1,e2];repeat first|refine gd ?_|intro _|refine ae @hO ?_|refine ae @hP ?_|refine ae @hT ?_
      (apply ad rfl rfl ar)
      ·exact ⟨rfl,rfl⟩
      ·(apply gS;(focus (exact af));all_goals exact bu)
     |false=>
      rw [ht] at hT;have e1:oF c l aa i=0:=by unfold oF;rw [if_pos h0,if_pos hp,Int.toNat_natCast,hg,ht];rfl
      have e2:fJ c l aa i=l.set (bL c aa+i) ⟨0,aa,.zero,true⟩:=by unfold fJ;rw [e1,Int.toNat_natCast];rfl
      rw [e1,e2];repeat first|refine gd ?_|intro _|refine ae @hO ?_|refine ae @hP ?_|refine ae @hT ?_
      apply mY;rfl;(refine oZ (f:=bL c aa) (i:=i) (j:=0) (w:=⟨0,aa,.zero,true⟩) (by rfl) (by rfl) (by exact lX) (by rw [lY,Nat.add_mul]<;>rfl) (by exact inferInstance) (by exact inferInstance) (by rfl) (by rfl) sq (by decide) (by rfl));refine aU ?_;repeat first|refine gd ?_|intro _
      (apply ad rfl rfl ar)
      ·exact ⟨rfl,rfl⟩
      ·(apply gS;(focus (exact af));all_goals exact bu)
    ·have e1:oF c l aa i=6:=by unfold oF;rw [if_pos h0,if_neg hp]
     have e2:fJ c l aa i=l:=by unfold fJ;rw [e1];rfl
     rw [e1,e2];repeat first|refine gd ?_|intro _|refine ae @hO ?_|refine ae @hP ?_
     (apply ad rfl rfl ar)
     ·exact ⟨rfl,rfl⟩
     ·(apply gS;(focus (exact af));all_goals exact bu)
   ·have e1:oF c l aa kV=1:=if_neg h0;have e2:fJ c l aa kV=l:=by unfold fJ;rw [e1];rfl
    rw [e1,e2];by_cases Vx:kV<0
    ·repeat first|refine gd ?_|intro _|refine ae @hO ?_
     (apply ad rfl rfl ar)
     ·exact ⟨rfl,rfl⟩
     ·(apply gS;(focus (exact af));all_goals exact bu)
    ·repeat first|refine gd ?_|intro _|refine ae @hO ?_
     (apply ad rfl rfl ar)
     ·exact ⟨rfl,rfl⟩
     ·(apply gS;(focus (exact af));all_goals exact bu)
theorem Fy {F:List HP} {b:Nat} {c:au} {l:List Way} {aa:Int} {lk:Bool} (hw:c.wf) (iD:dZ aa) :
    az prog 238 [.pointer (some ⟨b,0,none⟩),.int .i64 aa,.bool lk] [ud b c l] F (fun r L'=>r= .int .i64 (rk c l aa)∧L'=[ud b c (eZ c l aa lk)]):=by
  refine ay func238 ntmps238 ?_;refine rS fun g hf=>?_;obtain ⟨hc,hn⟩:=hf;have hP:=fun F=>sX (F:=F) (b:=b) (g:=g) hw iD hc hn;by_cases hp:bS c l aa= -1
  ·rw [hp] at hP;have e1:rk c l aa=5:=if_pos hp;have e2:eZ c l aa lk=l:=by unfold eZ;rw [e1];rfl
   rw [e1,e2];repeat first|refine gd ?_|intro _|refine ae @hP ?_
   (apply ad rfl rfl ar)
   ·exact ⟨rfl,rfl⟩
   ·(apply gS;(focus (exact af));all_goals exact bu)
  ·have h0:0≤bS c l aa:=by have:=(l5 c l aa).1;omega
   have cO:=wM h0;obtain ⟨i,hi,ei,_,_⟩:=rT h0;obtain ⟨sq,eg⟩:=k6 cO hi;have e1:rk c l aa=0:=if_neg hp;have ew:bg c l aa=l[bL c aa+i]:=by unfold bg;rw [if_neg (om),ei,Int.toNat_natCast,←eg];exact (ia hi).symm
   have e2:eZ c l aa lk=l.set (bL c aa+i) { l[bL c aa+i] with lk:=lk}:=by unfold eZ;rw [e1,ei,Int.toNat_natCast,ew];rfl
   rw [e1,e2];rw [ei] at hP;have hO:=fun F=>xS (F:=F) (b:=b) (g:=g) hw iD hc hn cO;haveI kr:=Aw (g:=g) (T:=127) hc hn cO;repeat first|refine gd ?_|intro _|refine ae @hP ?_|refine ae @hO ?_
   apply mY;rfl;(refine oZ (f:=bL c aa) (i:=i) (j:=10) (w:={ l[bL c aa+i] with lk:=lk}) (by rfl) (by rfl) (by exact lX) (by rw [lY,Nat.add_mul]<;>rfl) (by exact inferInstance) (by exact inferInstance) (by rfl) (by rfl) sq (by decide) (by rfl));refine aU ?_;repeat first|refine gd ?_|intro _
   (apply ad rfl rfl ar)
   ·exact ⟨rfl,rfl⟩
   ·(apply gS;(focus (exact af));all_goals exact bu)
theorem NV {F:List HP} {n:Int}:az prog 349 [.int .i64 n] [] F (fun r L'=>r= .bool (!decide (n=0))∧L'=[]):=by
  refine ay func349 ntmps349 ?_;by_cases h:n=0
  ·repeat first|refine gd ?_|intro _
   (apply ad rfl rfl ar;(first|exact cS|exact ⟨by simp [h]<;>omega,rfl⟩);exact bM)
  ·repeat first|refine gd ?_|intro _
   (apply ad rfl rfl ar;(first|exact cS|exact ⟨by simp [h]<;>omega,rfl⟩);exact bM)
theorem QD {b T:Nat} {w:Words} {k:Nat} {F:List HP} {C:List Value→List HP} (hk:k≤8) (h:bX b F T (wc w) C):bN F 1 (cut (.slice (some ⟨b,0,none⟩) 8 8) k 8 8 1) (w.list.drop k).length (aj ic (w.list.drop k)):=by
  have k0:bN F 1 (.slice (some ⟨b,0,none⟩) 8 8) 8 (wc w):=tT (o:=0) (m:=8) (c:=8) (sz:=1) (b:=b) h (by simp) (by rfl);have k1:=bN.cut (l:=k) (h:=8) (m:=8) k0 hk (Nat.le_refl _) (Nat.le_refl _);have e1:(w.list.drop k).length=8-k:=by rw [List.length_drop];rfl
  have e2:((wc w).drop (k*1)).take ((8-k)*1)=aj ic (w.list.drop k):=by
    have h0:wc w=aj ic w.list:=rfl;rw [h0,Nat.mul_one,Nat.mul_one];have:=gn (enc:=ic) (n:=1) (fun _=>rfl) w.list k;rw [Nat.mul_one] at this;rw [this,List.take_of_length_le (by rw [EF,e1];exact Nat.le_refl _)]
  rw [e2] at k1;rw [e1];exact k1
theorem QF {F:List HP} {b g:Nat} {c:au} {l:List Way} {w:Words} (hc:aB c=true) :
    az prog 314 [.pointer (some ⟨b,0,none⟩),wv w] [J6 b g c l] F (fun r L'=>r= .bool (rK c w)∧L'=[J6 b g c l]):=by
  obtain ⟨_,_,_,⟨k,hk,e⟩,_⟩:=cp hc;have hb:=mE hk;have hwd:1≤c.ag∧c.ag≤8:=by rw [e];exact ⟨hb.1,by have:=hb.2;simpa using this⟩
  have hI:=fun F bw C (k:bX bw F 124 (wc w) C)=>vS (F:=F) (v:=cut (.slice (some ⟨bw,0,none⟩) 8 8) c.ag.toNat 8 8 1) (l:=w.list.drop c.ag.toNat) (fk:=349) (first:=[]) (cap:=[]) (p:=fun n=> !decide (n=0)) (QD (om) k) (by rw [List.length_drop];have:=Words.rL w;omega) (fun x _=>NV);refine ay func314 ntmps314 ?_;repeat first|refine gd ?_|intro _|refine ae @hI ?_
  (apply ad rfl rfl ar;(first|exact cS|exact ⟨by simp [rK]<;>omega,rfl⟩);exact bM)
theorem e9 {Q P:Prop} (k:Q) (h:Hid Q→P:=by
  intro k
  first
  |(refine an ?_;apply nC (id:=9) .true [] (pl:= .p 0 <| .p 1 <| .p 2 <| .p 4 <| .p 5 <| .e true [(3,.e true [(6,.p 7 <| .p 8 <| .e false [(9,.done)])]),(6,.e false [(3,.p 7 <| .p 8 <| .e false [(9,.done)])])]);exact mixed;kernel_rfl;kernel_rfl;exact ai.nil;exact k.out)):P:=h ⟨k⟩
theorem uy {F:List HP} {b:Nat} {c:au} {l:List Way} {aa st:Int} {w:Words} (hw:c.wf) (iD:dZ aa) :
    az prog 249 [.pointer (some ⟨b,0,none⟩),.int .i64 aa,.int .i64 st,wv w] [ud b c l] F (fun r L'=>r= .int .i64 (lC c l aa st w)∧L'=[ud b c (db c l aa st w)]):=by
  refine ay func249 ntmps249 ?_;refine rS fun g hf=>?_;obtain ⟨hc,hn⟩:=hf;have hP:=fun F=>sX (F:=F) (b:=b) (g:=g) hw iD hc hn;have UB:=fun F=>QF (F:=F) (b:=b) (g:=g) (l:=l) (w:=w) hc;by_cases hp:bS c l aa= -1
  ·rw [hp] at hP;have e1:lC c l aa st w=5:=if_pos hp;have e2:db c l aa st w=l:=by unfold db;rw [e1];rfl
   rw [e1,e2];repeat first|refine go ?_|intro _|refine e9 ?_|refine av ?_|refine ae @hP ?_
   (apply ad rfl rfl ar)
   ·exact ⟨rfl,rfl⟩
   ·(apply gS;(focus (exact af));all_goals exact bu)
  ·have h0:0≤bS c l aa:=by have:=(l5 c l aa).1;omega
   have cO:=wM h0;obtain ⟨i,hi,ei,_,_⟩:=rT h0;obtain ⟨sq,eg⟩:=k6 cO hi;have ew:bg c l aa=l[bL c aa+i]:=by unfold bg;rw [if_neg (om),ei,Int.toNat_natCast,←eg];exact (ia hi).symm
   rw [ei] at hP;have hO:=fun F=>xS (F:=F) (b:=b) (g:=g) hw iD hc hn cO;haveI kr:=Aw (g:=g) (T:=127) hc hn cO;by_cases hs:st<0∨st>4
   ·have e1:lC c l aa st w=1:=by unfold lC;rw [if_neg hp,if_pos (om)]
    have e2:db c l aa st w=l:=by unfold db;rw [e1];rfl
    rw [e1,e2];by_cases YF:st<0
    ·repeat first|refine go ?_|intro _|refine e9 ?_|refine av ?_|refine ae @hP ?_
     (apply ad rfl rfl ar)
     ·exact ⟨rfl,rfl⟩
     ·(apply gS;(focus (exact af));all_goals exact bu)
    ·repeat first|refine go ?_|intro _|refine e9 ?_|refine av ?_|refine ae @hP ?_
     (apply ad rfl rfl ar)
     ·exact ⟨rfl,rfl⟩
     ·(apply gS;(focus (exact af));all_goals exact bu)
   ·cases ho:rK c w with
    |true=>
     rw [ho] at UB;have e1:lC c l aa st w=1:=by unfold lC;rw [if_neg hp,if_pos (.inr (.inr ho))]
     have e2:db c l aa st w=l:=by unfold db;rw [e1];rfl
     rw [e1,e2];repeat first|refine go ?_|intro _|refine e9 ?_|refine av ?_|refine ae @hP ?_|refine ae @UB ?_
     (apply ad rfl rfl ar)
     ·exact ⟨rfl,rfl⟩
     ·(apply gS;(focus (exact af));all_goals exact bu)
    |false=>
     rw [ho] at UB;have e1:lC c l aa st w=0:=by unfold lC;rw [if_neg hp,if_neg (by rw [ho];simp;omega)]
     by_cases hz:st=0
     ·have e2:db c l aa st w=l.set (bL c aa+i) { l[bL c aa+i] with st:=st,ag:= .zero}:=by unfold db;rw [e1,ei,Int.toNat_natCast,ew,if_pos hz];rfl
      rw [e1,e2];repeat' (first|refine go ?_|intro _|refine e9 ?_|refine av ?_|refine ae @hP ?_|refine ae @UB ?_|refine ae @hO ?_|refine bj ?_ ?_|fail)
      ·apply kO;rfl;exact tB.none;(refine oZ (l:=l) (f:=bL c aa) (i:=i) (j:=0) (w:={ l[bL c aa+i] with st:=st}) (by rfl) (by rfl) (by exact lX) (by rw [lY,Nat.add_mul]<;>rfl) (by exact inferInstance) (by exact inferInstance) (by rfl) (by rfl) sq (by decide) (by rfl));refine aU ?_;(refine ⟨by first|exact cc.free|exact cc.turns rfl|(refine cc.still ?_;exact bM;done),?_⟩);repeat first|refine go ?_|intro _|refine e9 ?_|refine av ?_
       apply kO;rfl;exact tB.none;(refine oZ (l:=l.set (bL c aa+i) { l[bL c aa+i] with st:=st}) (f:=bL c aa) (i:=i) (j:=2) (w:={ l[bL c aa+i] with st:=st,ag:= .zero}) (by rfl) (by rfl) (by exact lX) (by rw [lY,Nat.add_mul]<;>rfl) (by exact inferInstance) (by exact inferInstance) (by rfl) (by rfl) (by rw [List.length_set];exact sq) (by decide) (by rw [List.getElem_set_self];rfl));refine aU ?_;(refine ⟨by first|exact cc.free|exact cc.turns rfl|(refine cc.still ?_;exact bM;done),?_⟩);repeat first|refine go ?_|intro _|refine e9 ?_|refine av ?_
       rw [List.set_set];(apply ad rfl rfl ar)
       ·exact ⟨rfl,rfl⟩
       ·(apply gS;(focus (exact af));all_goals exact bu)
      ·apply kO;rfl;exact tB.none;(refine oZ (l:=l) (f:=bL c aa) (i:=i) (j:=0) (w:={ l[bL c aa+i] with st:=st}) (by rfl) (by rfl) (by exact lX) (by rw [lY,Nat.add_mul]<;>rfl) (by exact inferInstance) (by exact inferInstance) (by rfl) (by rfl) sq (by decide) (by rfl));refine aU ?_;(refine ⟨by first|exact cc.free|exact cc.turns rfl|(refine cc.still ?_;exact bM;done),?_⟩);repeat first|refine go ?_|intro _|refine e9 ?_|refine av ?_
       apply kO;rfl;exact tB.none;(refine oZ (l:=l.set (bL c aa+i) { l[bL c aa+i] with st:=st}) (f:=bL c aa) (i:=i) (j:=2) (w:={ l[bL c aa+i] with st:=st,ag:= .zero}) (by rfl) (by rfl) (by exact lX) (by rw [lY,Nat.add_mul]<;>rfl) (by exact inferInstance) (by exact inferInstance) (by rfl) (by rfl) (by rw [List.length_set];exact sq) (by decide) (by rw [List.getElem_set_self];rfl));refine aU ?_;(refine ⟨by first|exact cc.free|exact cc.turns rfl|(refine cc.still ?_;exact bM;done),?_⟩);repeat first|refine go ?_|intro _|refine e9 ?_|refine av ?_
       rw [List.set_set];(apply ad rfl rfl ar)
       ·exact ⟨rfl,rfl⟩
       ·(apply gS;(focus (exact af));all_goals exact bu)
     ·have e2:db c l aa st w=l.set (bL c aa+i) { l[bL c aa+i] with st:=st,ag:=w}:=by unfold db;rw [e1,ei,Int.toNat_natCast,ew,if_neg hz];rfl
      rw [e1,e2];repeat' (first|refine go ?_|intro _|refine e9 ?_|refine av ?_|refine ae @hP ?_|refine ae @UB ?_|refine ae @hO ?_|refine bj ?_ ?_|fail)
      ·apply kO;rfl;exact tB.none;(refine oZ (l:=l) (f:=bL c aa) (i:=i) (j:=0) (w:={ l[bL c aa+i] with st:=st}) (by rfl) (by rfl) (by exact lX) (by rw [lY,Nat.add_mul]<;>rfl) (by exact inferInstance) (by exact inferInstance) (by rfl) (by rfl) sq (by decide) (by rfl));refine aU ?_;(refine ⟨by first|exact cc.free|exact cc.turns rfl|(refine cc.still ?_;exact bM;done),?_⟩);repeat first|refine go ?_|intro _|refine e9 ?_|refine av ?_
       apply kO;rfl;exact tB.none;(refine oZ (l:=l.set (bL c aa+i) { l[bL c aa+i] with st:=st}) (f:=bL c aa) (i:=i) (j:=2) (w:={ l[bL c aa+i] with st:=st,ag:=w}) (by rfl) (by rfl) (by exact lX) (by rw [lY,Nat.add_mul]<;>rfl) (by exact inferInstance) (by exact inferInstance) (by rfl) (by rfl) (by rw [List.length_set];exact sq) (by decide) (by rw [List.getElem_set_self];rfl));refine aU ?_;(refine ⟨by first|exact cc.free|exact cc.turns rfl|(refine cc.still ?_;exact bM;done),?_⟩);repeat first|refine go ?_|intro _|refine e9 ?_|refine av ?_
       rw [List.set_set];(apply ad rfl rfl ar)
       ·exact ⟨rfl,rfl⟩
       ·(apply gS;(focus (exact af));all_goals exact bu)
      ·apply kO;rfl;exact tB.none;(refine oZ (l:=l) (f:=bL c aa) (i:=i) (j:=0) (w:={ l[bL c aa+i] with st:=st}) (by rfl) (by rfl) (by exact lX) (by rw [lY,Nat.add_mul]<;>rfl) (by exact inferInstance) (by exact inferInstance) (by rfl) (by rfl) sq (by decide) (by rfl));refine aU ?_;(refine ⟨by first|exact cc.free|exact cc.turns rfl|(refine cc.still ?_;exact bM;done),?_⟩);repeat first|refine go ?_|intro _|refine e9 ?_|refine av ?_
       apply kO;rfl;exact tB.none;(refine oZ (l:=l.set (bL c aa+i) { l[bL c aa+i] with st:=st}) (f:=bL c aa) (i:=i) (j:=2) (w:={ l[bL c aa+i] with st:=st,ag:=w}) (by rfl) (by rfl) (by exact lX) (by rw [lY,Nat.add_mul]<;>rfl) (by exact inferInstance) (by exact inferInstance) (by rfl) (by rfl) (by rw [List.length_set];exact sq) (by decide) (by rw [List.getElem_set_self];rfl));refine aU ?_;(refine ⟨by first|exact cc.free|exact cc.turns rfl|(refine cc.still ?_;exact bM;done),?_⟩);repeat first|refine go ?_|intro _|refine e9 ?_|refine av ?_
       rw [List.set_set];(apply ad rfl rfl ar)
       ·exact ⟨rfl,rfl⟩
       ·(apply gS;(focus (exact af));all_goals exact bu)
end
section
def cj (c:au) (l:List Way):Prop:=
  ∀ i (h:i<l.length),cr l[i]=true→bG c l[i].aa=true∧bL c l[i].aa≤i∧i<bL c l[i].aa+c.al.toNat∧∀ j (hj:j<l.length),cr l[j]=true→l[j].aa=l[i].aa→j=i
def tx (c:au) (l:List Way) (aa:Int):Int:=if bS c l aa<0 then -1 else bL c aa+bS c l aa
theorem jc {aa:Int} {w:Way}:ib aa w=true↔cr w=true∧w.aa=aa:=by simp [ib]
theorem ld {c:au} {l:List Way} {aa:Int} {i:Nat} (hi:bS c l aa=i):∃ h:bL c aa+i<l.length,bG c aa=true∧ib aa l[bL c aa+i]=true∧i<c.al.toNat:=by
  obtain ⟨k,hk,e,h1,_⟩:=rT (by omega:0≤bS c l aa);have I5:k=i:=by omega
  subst I5;have cO:=wM (by omega:0≤bS c l aa);obtain ⟨h2,e2⟩:=k6 cO hk;refine ⟨h2,cO,e2▸h1,?_⟩;rw [mz cO,List.length_take] at hk;omega
theorem D6 {c:au} {l:List Way} {aa:Int} (h:bS c l aa<0):∀ i,i<c.al.toNat→bG c aa=true→∀ h:bL c aa+i<l.length,ib aa l[bL c aa+i]=false:=by
  intro i hi cO hl;have h2:=(ix (by unfold bS at h;omega:¬0≤bO (ib aa) (cL c l aa))).2;have hk:i<(cL c l aa).length:=by rw [mz cO,List.length_take,List.length_drop];omega
  have:=h2 _ (List.getElem_mem hk);obtain ⟨_,e2⟩:=k6 cO hk;rw [e2] at this;exact this
theorem QG {c:au} {l:List Way} (hI:cj c l) (aa:Int):bO (ib aa) l=tx c l aa:=by
  unfold tx;by_cases h:bS c l aa<0
  ·rw [if_pos h];refine dr fun j hj _=>?_;cases e:ib aa l[j] with
   |false=>rfl
   |true=>
    exfalso;obtain ⟨h1,h2⟩:=jc.1 e;obtain ⟨a1,a2,a3,_⟩:=hI j hj h1;rw [h2] at a1 a2 a3;have:=D6 h (j-bL c aa) (om) a1 (om);simp only [show bL c aa+(j-bL c aa)=j by omega] at this;rw [this] at e;cases e
  ·rw [if_neg h];obtain ⟨i,hi,e,_,_⟩:=rT (by omega:0≤bS c l aa);obtain ⟨h2,cO,h3,h4⟩:=ld e;rw [e];have:=eU (p:=ib aa) (l:=l) (i:=bL c aa+i) h2 (fun j hj bB=>by
     cases ej:ib aa l[j] with
     |false=>rfl
     |true=>
      exfalso;obtain ⟨g1,g2⟩:=jc.1 h3;obtain ⟨b1,b2⟩:=jc.1 ej;have:=(hI _ h2 g1).2.2.2 j hj b1 (by rw [b2,g2]);omega) h3
   rw [this];exact Int.natCast_add _ _
theorem Bv (c:au) (n:Nat):cj c (List.replicate n .zero):=by
  intro i h ht;rw [List.getElem_replicate] at ht;cases ht
theorem zp {c:au} {l:List Way} {k:Nat} {w:Way} (hI:cj c l) (hk:k<l.length) (h:cr w=true→bG c w.aa=true∧bL c w.aa≤k∧k<bL c w.aa+c.al.toNat∧∀ j (hj:j<l.length),cr l[j]=true→l[j].aa=w.aa→j=k):cj c (l.set k w):=by
  intro i hi ht;rw [List.length_set] at hi;by_cases e:k=i
  ·subst e;rw [List.getElem_set_self] at ht ⊢;obtain ⟨h1,h2,h3,h4⟩:=h ht;refine ⟨h1,h2,h3,fun j hj PE PF=>?_⟩;rw [List.length_set] at hj;by_cases e2:k=j
   ·exact e2.symm
   ·rw [List.getElem_set_ne e2] at PE PF;exact h4 j hj PE PF
  ·rw [List.getElem_set_ne e] at ht ⊢;obtain ⟨h1,h2,h3,h4⟩:=hI i hi ht;refine ⟨h1,h2,h3,fun j hj PE PF=>?_⟩;rw [List.length_set] at hj;by_cases e2:k=j
   ·subst e2;rw [List.getElem_set_self] at PE PF;exact ((h PE).2.2.2 i hi ht PF.symm).symm
   ·rw [List.getElem_set_ne e2] at PE PF;exact h4 j hj PE PF
theorem jd {c:au} {l:List Way} {aa:Int} {i:Nat} (hi:bS c l aa=i) (h2:bL c aa+i<l.length):bg c l aa=l[bL c aa+i]:=by
  obtain ⟨k,hk,e,_,_⟩:=rT (by omega:0≤bS c l aa);have I5:k=i:=by omega
  subst I5;have cO:=wM (by omega:0≤bS c l aa);obtain ⟨_,e2⟩:=k6 cO hk;unfold bg;rw [if_neg (om),hi,Int.toNat_natCast,←e2];exact (ia hk).symm
theorem xi {c:au} {l:List Way} {aa kV:Int} (hI:cj c l):cj c (fJ c l aa kV):=by
  unfold fJ;split
  ·rename_i h;unfold oF at h;split at h
   ·rename_i h0;split at h
    ·rename_i hp;have cO:bG c aa=true:=by
       cases e:bG c aa with
       |true=>rfl
       |false=>rw [lG e] at h0;simp at h0;omega
     obtain ⟨k,hk⟩:∃ k:Nat,kV=k:=⟨kV.toNat,om⟩;subst hk;obtain ⟨h2,_⟩:=k6 cO (show k<(cL c l aa).length by omega);have YG:k<c.al.toNat:=by have:=h0.2;rw [mz cO,List.length_take] at this;omega
     rw [Int.toNat_natCast];refine zp hI h2 fun _=>⟨cO,by dsimp only;omega,by dsimp only;omega,fun j hj ht hl=>?_⟩;exfalso;dsimp only at hl;obtain ⟨a1,a2,a3,_⟩:=hI j hj ht;rw [hl] at a1 a2 a3;have:=D6 (by omega:bS c l aa<0) (j-bL c aa) (om) a1 (om);simp only [show bL c aa+(j-bL c aa)=j by omega] at this;rw [jc.2 ⟨ht,hl⟩] at this;cases this
    ·cases h
   ·cases h
  ·exact hI
theorem xj {c:au} {l:List Way} {aa:Int} {w:Way} (hI:cj c l) (hp:¬bS c l aa= -1) (hl:w.aa=(bg c l aa).aa):cj c (l.set (bL c aa+(bS c l aa).toNat) w):=by
  have h0:0≤bS c l aa:=by have:=(l5 c l aa).1;omega
  obtain ⟨i,hi⟩:∃ i:Nat,bS c l aa=i:=⟨(bS c l aa).toNat,om⟩;obtain ⟨h2,cO,h3,h4⟩:=ld hi;have hf:=jd hi h2;rw [hi,Int.toNat_natCast];obtain ⟨g1,g2⟩:=jc.1 h3;have hinv:=hI _ h2 g1;refine zp hI h2 fun _=>?_;have e:w.aa=l[bL c aa+i].aa:=by rw [hl,hf]
  rw [e];exact hinv
theorem rU {c:au} {l:List Way} {aa st:Int} {w:Words} (hI:cj c l):cj c (db c l aa st w):=by
  unfold db;split
  ·rename_i h;refine xj hI (fun hp=>?_) rfl;unfold lC at h;rw [if_pos hp] at h;cases h
  ·exact hI
theorem yq {c:au} {l:List Way} {aa:Int} {lk:Bool} (hI:cj c l):cj c (eZ c l aa lk):=by
  unfold eZ;split
  ·rename_i h;refine xj hI (fun hp=>?_) rfl;unfold rk at h;rw [if_pos hp] at h;cases h
  ·exact hI
theorem Fz {c:au} {l:List Way} {aa kV:Int}:(fJ c l aa kV).length=l.length:=by unfold fJ;split<;>simp
theorem NW {c:au} {l:List Way} {aa st:Int} {w:Words}:(db c l aa st w).length=l.length:=by unfold db;split<;>simp
theorem K3 {c:au} {l:List Way} {aa:Int} {lk:Bool}:(eZ c l aa lk).length=l.length:=by unfold eZ;split<;>simp
end
section
instance:F2 prog 244 OP false:=⟨_,_,_,_,_,underlying244,underlying3,TZ.pf⟩
abbrev c5.zero:c5:=⟨0,0,0⟩
def jF (b:Nat) (l:List c5) (rs:List Int) (tr:List (Int×Bool)):HP:=
  Ex fun q:(Option Addr×Nat)×(Option Addr×Nat)×Nat=>[ao b 246 [.slice q.1.1 l.length q.1.2,.slice q.2.1.1 rs.length q.2.1.2,.map (some q.2.2)],aT 74 3 (.slice q.1.1 l.length q.1.2) l.length (aj oc l),aT 3 1 (.slice q.2.1.1 rs.length q.2.1.2) rs.length (aj ic rs),kA q.2.2 OP tr,ja (rs.length≤l.length∧l.length≤64)]
theorem mW {b n1 n2 bm:Nat} {l:List c5} {rs:List Int} {tr:List (Int×Bool)} {p1 p2:Option Addr} {c1 c2:Nat} {xs ys:List Value} {L M:List HP}
    (h:ai L (ao b 246 [.slice p1 n1 c1,.slice p2 n2 c2,.map (some bm)]::aT 74 3 (.slice p1 n1 c1) n1 xs::aT 3 1 (.slice p2 n2 c2) n2 ys::kA bm OP tr::M)) (wS:n1=l.length) (qJ:n2=rs.length) (hx:xs=aj oc l) (hy:ys=aj ic rs) (hl:rs.length≤l.length∧l.length≤64):ai L (jF b l rs tr::M):=by
  subst wS qJ hx hy;refine ai.trans h (ai.trans ?_ (fU (p:=fun q:(Option Addr×Nat)×(Option Addr×Nat)×Nat=>[ao b 246 [.slice q.1.1 l.length q.1.2,.slice q.2.1.1 rs.length q.2.1.2,.map (some q.2.2)],aT 74 3 (.slice q.1.1 l.length q.1.2) l.length (aj oc l),aT 3 1 (.slice q.2.1.1 rs.length q.2.1.2) rs.length (aj ic rs),kA q.2.2 OP tr,ja (rs.length≤l.length∧l.length≤64)]) ((p1,c1),(p2,c2),bm)));exact ai.cons (ai.cons (ai.cons (ai.cons (cX hl))))
theorem FA {b:Nat} {l:List c5} {rs:List Int} {tr:List (Int×Bool)} {L:List HP} {w:World} (h:Sat (jF b l rs tr::L) w):(rs.length≤l.length∧l.length≤64)∧
    ∃ p1 c1 p2 c2 bm,Sat (ao b 246 [.slice p1 l.length c1,.slice p2 rs.length c2,.map (some bm)]::aT 74 3 (.slice p1 l.length c1) l.length (aj oc l)::aT 3 1 (.slice p2 rs.length c2) rs.length (aj ic rs)::kA bm OP tr::L) w:=by
  obtain ⟨⟨⟨p1,c1⟩,⟨p2,c2⟩,bm⟩,hx⟩:=eN h;simp only [eX] at hx;have hf:=fc (aG (aG (aG (aG hx))));exact ⟨hf,p1,c1,p2,c2,bm,(ai.cons (ai.cons (ai.cons (ai.cons (ai.drop ai.refl))))) _ hx⟩
theorem sb {b:Nat} {l:List c5} {rs:List Int} {tr:List (Int×Bool)} {P:Program} {N:Nat} {c:Code} {env:Env} {L:List HP} {Q:Exit→Act→World→Prop}
    (h:∀ p1 c1 p2 c2 bm,(rs.length≤l.length∧l.length≤64)→WC P N c env (ao b 246 [.slice p1 l.length c1,.slice p2 rs.length c2,.map (some bm)]::aT 74 3 (.slice p1 l.length c1) l.length (aj oc l)::aT 3 1 (.slice p2 rs.length c2) rs.length (aj ic rs)::kA bm OP tr::L) Q):WC P N c env (jF b l rs tr::L) Q:=by
  intro a w ha hw;obtain ⟨hf,p1,c1,p2,c2,bm,hx⟩:=FA hw;exact h p1 c1 p2 c2 bm hf a w ha hx
theorem Bw {b:Nat} {l:List c5} {rs:List Int} {tr:List (Int×Bool)} {P:Program} {N:Nat} {all:Array Oper} {c:List Oper} {env:Env} {L:List HP} {Q:Exit→Act→World→Prop}
    (h:∀ p1 c1 p2 c2 bm,(rs.length≤l.length∧l.length≤64)→WO P N all c env (ao b 246 [.slice p1 l.length c1,.slice p2 rs.length c2,.map (some bm)]::aT 74 3 (.slice p1 l.length c1) l.length (aj oc l)::aT 3 1 (.slice p2 rs.length c2) rs.length (aj ic rs)::kA bm OP tr::L) Q):WO P N all c env (jF b l rs tr::L) Q:=by
  intro a w ha hw;obtain ⟨hf,p1,c1,p2,c2,bm,hx⟩:=FA hw;exact h p1 c1 p2 c2 bm hf a w ha hx
attribute [local irreducible] Exit.then Exit.inBlock Code.wp WC WO WE WQ V aW dL Sat bz bK dU IntKind.wrap WR Code.rounds WT KO
theorem tW {c:au} {l:List c5} (h:fl c l=true):l.length≤64:=by simp [fl] at h;omega
theorem FB {F:List HP} {c:au} (hc:c.wf) {l:List c5} {v:Value} (k:bN F 3 v l.length (aj oc l)) (hn:l.length≤1099511627776) (h:fl c l=true) :
    az prog 53 [c.val,v] [] F (fun r L'=>∃ b,r= .tuple [.pointer (some ⟨b,0,none⟩),.int .i64 0].toArray∧L'=[jF b l [] []]):=by
  have hP:=fun F k=>xB (F:=F) (c:=c) hc (l:=l) (v:=v) k hn;simp only [h] at hP;have hl:=tW h;refine ay func53 ntmps53 ?_;repeat first|refine gd ?_|intro _|refine ae @hP ?_|refine ae @Gm ?_
  (apply ad rfl rfl ar)
  ·exact ⟨_,rfl,rfl⟩
  ·apply mW (rs:=[]) (p2:=none) (c2:=0) (n2:=0) (ys:=[])
   ·refine ai.trans (aI (e:=3) (sz:=1) (p:=none) ai.refl) ?_;(focus (exact af;done))
   ·rfl
   ·rfl
   ·rfl
   ·rfl
   ·exact ⟨Nat.zero_le _,hl⟩
theorem Gz {F:List HP} {c:au} (hc:c.wf) {l:List c5} {v:Value} (k:bN F 3 v l.length (aj oc l)) (hn:l.length≤1099511627776) (h:fl c l=false) :
    az prog 53 [c.val,v] [] F (fun r L'=>r= .tuple [.pointer none,.int .i64 1].toArray∧L'=[]):=by
  have hP:=fun F k=>xB (F:=F) (c:=c) hc (l:=l) (v:=v) k hn;simp only [h] at hP;refine ay func53 ntmps53 ?_;repeat first|refine gd ?_|intro _|refine ae @hP ?_
  exact aM
theorem vv {F:List HP} {b:Nat} {l:List c5} {rs:List Int} {tr:List (Int×Bool)}:az prog 170 [.pointer (some ⟨b,0,none⟩)] [jF b l rs tr] F (fun r L'=>r= .int .i64 ((l.length:Int)-rs.length)∧L'=[jF b l rs tr]):=by
  refine ay func170 ntmps170 ?_;refine sb fun p1 c1 p2 c2 bm hl=>?_;repeat first|refine gd ?_|intro _
  (apply ad rfl rfl ar)
  ·exact ⟨rfl,rfl⟩
  ·(apply mW;(focus (exact af));all_goals exact bu)
def kY (l:List c5) (rs:List Int):Bool:= !decide (rs.length=l.length)
def kC (l:List c5) (rs:List Int):c5:=l.getD rs.length .zero
theorem zq {Q P:Prop} (k:Q) (h:Hid Q→P:=by
  intro k
  first
  |(refine an ?_;refine bF (id:=3) .true (pl:= .p 0 <| .p 1 <| .p 2 <| .p 4 <| .p 5 <| .p 6 <| .r 3 <| .r 7 <| .p 8 <| .p 9 <| .r 10 <| .e true [(11,.p 12 <| .done)]) k.out)):P:=h ⟨k⟩
theorem De {F:List HP} {b:Nat} {l:List c5} {rs:List Int} {tr:List (Int×Bool)}:az prog 148 [.pointer (some ⟨b,0,none⟩)] [jF b l rs tr] F (fun r L'=>r= .tuple [ov (kC l rs),.bool (kY l rs)].toArray∧L'=[jF b l rs tr]):=by
  refine ay func148 ntmps148 ?_;by_cases h:rs.length=l.length
  ·have h0:(l.length:Int)-rs.length=0:=by omega
   repeat first|refine go ?_|intro _|refine zq ?_|refine av ?_|refine ae @vv ?_
   (apply ad rfl rfl ar)
   ·exact ⟨by simp [kC,kY,h],rfl⟩
   ·exact af
  ·have h0:¬(l.length:Int)-rs.length=0:=by omega
   repeat first|refine go ?_|intro _|refine ae @vv ?_
   (first|refine aD (jF b l rs tr) ?_|refine aE (jF b l rs tr) ?_|refine aF (jF b l rs tr) ?_);refine sb fun p1 c1 p2 c2 bm hl=>?_;have bB:rs.length<l.length:=by omega
   (first|(refine aX (.slice p1 l.length c1) inferInstance (om) ?_;intro _)|(refine aY (.slice p1 l.length c1) inferInstance (om) ?_;intro _));repeat first|refine go ?_|intro _|refine zq ?_|refine av ?_
   (apply ad rfl rfl ar)
   ·exact ⟨by simp [kC,kY,h,bB],rfl⟩
   ·exact eb @mW
theorem GA {F:List HP} {b:Nat} {l:List c5} {rs:List Int} {tr:List (Int×Bool)} {n:Int} (h:¬rs.length=l.length):az prog 240 [.pointer (some ⟨b,0,none⟩),.int .i64 n] [jF b l rs tr] F
    (fun r L'=>r= .tuple [.int .i64 rs.length,.int .i64 0].toArray∧L'=[jF b l (rs++[n]) (vD tr rs.length)]):=by
  refine ay func240 ntmps240 ?_;have h0:¬(l.length:Int)-rs.length=0:=by omega
  repeat first|refine go ?_|intro _|refine ae @vv ?_
  (first|refine aD (jF b l rs tr) ?_|refine aE (jF b l rs tr) ?_|refine aF (jF b l rs tr) ?_);first|refine sb fun p1 c1 p2 c2 bm hl=>?_|refine Bw fun p1 c1 p2 c2 bm hl=>?_
  repeat first|refine gd ?_|intro _
  (apply ad rfl rfl ar)
  ·exact ⟨rfl,rfl⟩
  ·exact eb @mW
def gD (l:List c5) (rs:List Int) (d:Int):Bool:=decide (1≤d∧d≤4∧(rs.length:Int)+d<l.length)&& !decide ((l.getD ((rs.length:Int)+d).toNat .zero).ah=4)
def fF (l:List c5) (rs:List Int) (tr:List (Int×Bool)) (d:Int):Bool:=gD l rs d&& !(fH tr ((rs.length:Int)+d)).getD false
def jW (l:List c5) (rs:List Int) (tr:List (Int×Bool)) (d:Int):c5:=if fF l rs tr d then l.getD ((rs.length:Int)+d).toNat .zero else .zero
theorem Bx {F:List HP} {b:Nat} {l:List c5} {rs:List Int} {tr:List (Int×Bool)} {d:Int}:az prog 158 [.pointer (some ⟨b,0,none⟩),.int .i64 d] [jF b l rs tr] F
    (fun r L'=>r= .tuple [ov (jW l rs tr d),.bool (fF l rs tr d)].toArray∧L'=[jF b l rs tr]):=by
  refine ay func158 ntmps158 ?_;refine sb fun p1 c1 p2 c2 bm hl=>?_;by_cases h1:d<1
  ·have e:fF l rs tr d=false:=by simp [fF,gD];omega
   repeat first|refine gd ?_|intro _
   (apply ad rfl rfl ar)
   ·exact ⟨by simp [jW,e],rfl⟩
   ·exact eb @mW
  ·by_cases h2:4<d
   ·have e:fF l rs tr d=false:=by simp [fF,gD];omega
    repeat first|refine gd ?_|intro _
    (apply ad rfl rfl ar)
    ·exact ⟨by simp [jW,e],rfl⟩
    ·exact eb @mW
   ·by_cases h3:(l.length:Int)≤(rs.length:Int)+d
    ·have e:fF l rs tr d=false:=by simp [fF,gD];omega
     repeat first|refine gd ?_|intro _
     (apply ad rfl rfl ar)
     ·exact ⟨by simp [jW,e],rfl⟩
     ·exact eb @mW
    ·have bB:((rs.length:Int)+d).toNat<l.length:=by omega
     have hg:l.getD ((rs.length:Int)+d).toNat .zero=l[((rs.length:Int)+d).toNat]:=by simp [bB]
     by_cases h4:l[((rs.length:Int)+d).toNat].ah=4
     ·have e:fF l rs tr d=false:=by simp only [fF,gD,hg,h4];simp
      repeat first|refine gd ?_|intro _
      (apply ad rfl rfl ar)
      ·exact ⟨by simp [jW,e],rfl⟩
      ·exact eb @mW
     ·have hI:gD l rs d=true:=by simp only [gD,hg,h4];simp;omega
      cases ht:(fH tr ((rs.length:Int)+d)).getD false with
      |true=>
       have e:fF l rs tr d=false:=by simp [fF,ht]
       repeat first|refine gd ?_|intro _
       (apply ad rfl rfl ar)
       ·exact ⟨by simp [jW,e],rfl⟩
       ·exact eb @mW
      |false=>
       have e:fF l rs tr d=true:=by simp [fF,ht,hI]
       repeat first|refine gd ?_|intro _
       (apply ad rfl rfl ar)
       ·exact ⟨by simp only [jW,e,if_true,hg];rfl,rfl⟩
       ·exact eb @mW
theorem GB {Q P:Prop} (k:Q) (h:Hid Q→P:=by
  intro k
  first
  |(refine an ?_;refine bF (id:=4) .true (pl:= .p 0 <| .p 1 <| .p 2 <| .p 4 <| .p 5 <| .p 6 <| .p 9 <| .r 3 <| .r 7 <| .p 8 <| .p 10 <| .e true [(11,.done)]) k.out)):P:=h ⟨k⟩
theorem NX {F:List HP} {b:Nat} {l:List c5} {rs:List Int} {tr:List (Int×Bool)} {d:Int} (h:fF l rs tr d=true):az prog 159 [.pointer (some ⟨b,0,none⟩),.int .i64 d] [jF b l rs tr] F
    (fun r L'=>r= .int .i64 0∧L'=[jF b l rs (iS tr ((rs.length:Int)+d) true)]):=by
  have hA:=fun F=>Bx (F:=F) (b:=b) (l:=l) (rs:=rs) (tr:=tr) (d:=d);simp only [h] at hA;have hI:1≤d∧d≤4∧(rs.length:Int)+d<l.length:=by simp [fF,gD] at h;omega
  refine ay func159 ntmps159 ?_;repeat first|refine go ?_|intro _|refine ae @hA ?_
  (first|refine aD (jF b l rs tr) ?_|refine aE (jF b l rs tr) ?_|refine aF (jF b l rs tr) ?_);first|refine sb fun p1 c1 p2 c2 bm hl=>?_|refine Bw fun p1 c1 p2 c2 bm hl=>?_
  repeat first|refine go ?_|intro _|refine GB ?_|refine av ?_
  (apply ad rfl rfl ar)
  ·exact ⟨rfl,rfl⟩
  ·exact eb @mW
end
end Go.Sx
