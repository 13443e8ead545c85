/- Mem12, Net2: several of my texts as one. My own work. -/
import Derived.Test.YtjihlpjnebdiiabGreatZak
import Derived.Test.YtjihlpjnebdiiabGreatZaq
import Derived.Test.YtjihlpjnebdiiabGreatZac
set_option linter.unusedVariables false
set_option linter.unusedSectionVars false
set_option linter.unusedSimpArgs false
set_option maxRecDepth 100000
set_option maxHeartbeats 4000000
namespace Go.Sx
open Go Go.Proofs Tryz
section
theorem Iz {w:Words} {i:Nat} (hi:i<8) (v:Int):aV (wc w) (0+((i:Nat):Int).toNat*1) [.int .i64 v]=wc (Words.of (w.list.set i v)):=by
  rw [Nat.zero_add,Nat.mul_one,Int.toNat_natCast];rw [show wc w=aj ic w.list from rfl,sa (ms:=w.list) hi,DP (by rw [List.length_set];rfl)]
theorem JG {l:List Int} (h:l.length≤8):(Words.of l).list=l++List.replicate (8-l.length) 0:=by
  match l,h with
  | [],_=>rfl
  | [_],_=>rfl
  | [_,_],_=>rfl
  | [_,_,_],_=>rfl
  | [_,_,_,_],_=>rfl
  | [_,_,_,_,_],_=>rfl
  | [_,_,_,_,_,_],_=>rfl
  | [_,_,_,_,_,_,_],_=>rfl
  | [_,_,_,_,_,_,_,_],_=>rfl
  |_::_::_::_::_::_::_::_::_::l,h=>simp at h
theorem Og {l:List Int} {i:Nat} (h:i<l.length) (h8:l.length≤8):(Words.of (l.take i)).list.set i l[i]=(Words.of (l.take (i+1))).list:=by
  rw [JG (by simp;omega),JG (by simp;omega)];have e1:(l.take i).length=i:=by simp;omega
  have e2:(l.take (i+1)).length=i+1:=by simp;omega
  rw [e1,e2,List.take_add_one,List.getElem?_eq_getElem h];obtain ⟨r,hr⟩:∃ r,8-i=r+1:=⟨7-i,om⟩;rw [hr,show 8-(i+1)=r by omega,List.replicate_succ];generalize hp:l.take i=p at e1;subst e1;simp [List.set_append]
theorem FG (w:Words) (i:Nat) (h:i<8):(wc w)[0+((i:Nat):Int).toNat*1]? =some (.int .i64 (w.list.getD i 0)):=by
  rw [Nat.zero_add,Nat.mul_one,Int.toNat_natCast];match i,h with
  |0,_=>rfl
  |1,_=>rfl
  |2,_=>rfl
  |3,_=>rfl
  |4,_=>rfl
  |5,_=>rfl
  |6,_=>rfl
  |7,_=>rfl
def oh (b:Nat) (c:au) (ms:List Int):HP:=
  Ex fun g:Nat=>[ao b 214 (c.cells++[.slice (some ⟨g,0,none⟩) ms.length ms.length]),ao g 3 (aj ic ms),ja (aB c=true∧(ms.length:Int)=c.ag*c.aZ∧ms.length≤8192)]
theorem qT {b g n:Nat} {c:au} {ms:List Int} {xs:List Value} {L M:List HP}
    (h:ai L (ao b 214 (c.cells++[.slice (some ⟨g,0,none⟩) n n])::ao g 3 xs::M)) (hn:n=ms.length) (hx:xs=aj ic ms) (hl:aB c=true∧(ms.length:Int)=c.ag*c.aZ∧ms.length≤8192):ai L (oh b c ms::M):=by
  subst hn hx;refine ai.trans h (ai.trans ?_ (fU (p:=fun g:Nat=>[ao b 214 (c.cells++[.slice (some ⟨g,0,none⟩) ms.length ms.length]),ao g 3 (aj ic ms),ja (aB c=true∧(ms.length:Int)=c.ag*c.aZ∧ms.length≤8192)]) g));exact ai.cons (ai.cons (cX hl))
theorem Oh {b:Nat} {c:au} {ms:List Int} {L:List HP} {w:World} (h:Sat (oh b c ms::L) w):(aB c=true∧(ms.length:Int)=c.ag*c.aZ∧ms.length≤8192)∧
    ∃ g,Sat (ao b 214 (c.cells++[.slice (some ⟨g,0,none⟩) ms.length ms.length])::ao g 3 (aj ic ms)::L) w:=by
  obtain ⟨g,hx⟩:=eN h;simp only [eX] at hx;have hf:=fc (aG (aG hx));exact ⟨hf,g,(ai.cons (ai.cons (ai.drop ai.refl))) _ hx⟩
theorem Dm {b:Nat} {c0:au} {ms:List Int} {P:Program} {N:Nat} {c:Code} {env:Env} {L:List HP} {Q:Exit→Act→World→Prop}
    (h:∀ g,(aB c0=true∧(ms.length:Int)=c0.ag*c0.aZ∧ms.length≤8192)→WC P N c env (ao b 214 (c0.cells++[.slice (some ⟨g,0,none⟩) ms.length ms.length])::ao g 3 (aj ic ms)::L) Q):WC P N c env (oh b c0 ms::L) Q:=by
  intro a w ha hw;obtain ⟨hf,g,hx⟩:=Oh hw;exact h g hf a w ha hx
attribute [local irreducible] Exit.then Exit.inBlock Code.wp WC WO WE WQ V aW dL Sat bz bK dU IntKind.wrap WR Code.rounds WT KO
theorem EH {Q P:Prop} (k:Q) (h:Hid Q→P:=by
  intro k
  first
  |(refine an ?_;refine bF (id:=3) .true (pl:= .p 1 <| .p 3 <| .r 0 <| .r 2 <| .r 4 <| .p 5 <| .e true [(6,.p 7 <| .e true [(8,.p 9 <| .p 10 <| .done)])]) k.out)):P:=h ⟨k⟩
theorem Lf {F:List HP} {c:au} (hc:c.wf) (h:aB c=true):az prog 176 [c.val] [] F (fun r L'=>∃ b,r= .tuple [.pointer (some ⟨b,0,none⟩),.int .i64 0].toArray∧L'=[oh b c (List.replicate (c.ag*c.aZ).toNat 0)]):=by
  have hE:=fun F=>eC (F:=F) hc;simp only [cF,h,if_true] at hE;have hw:=dR h;have hm:=tL (m:=8) (n:=1024) (a:=c.ag) (b:=c.aZ) (om) (om) (om) (om) (om);simp only [Int.reduceMul] at hm;refine ay func176 ntmps176 ?_;repeat first|refine go ?_|intro _|refine EH ?_|refine av ?_|refine ae @hE ?_
  rename_i bc bs bm;(apply ad rfl rfl ar)
  ·exact ⟨_,rfl,rfl⟩
  ·rw [Mz];refine qT (g:=bs) (n:=(c.ag*c.aZ).toNat) (ms:=List.replicate (c.ag*c.aZ).toNat 0) (ai.cons (ai.cons (ai.drop ai.refl))) (by simp) rfl ?_;exact ⟨h,by simp;omega,by simp;omega⟩
theorem lN {Q P:Prop} (k:Q) (h:Hid Q→P:=by
  intro k
  first
  |(refine an ?_;refine bF (id:=7) .true (pl:= .p 0 <| .p 1 <| .p 2 <| .p 3 <| .p 5 <| .p 6 <| .p 7 <| .p 8 <| .p 9 <| .p 12 <| .r 4 <| .r 10 <| .p 11 <| .p 13 <| .p 14 <| .r 15 <| .p 16 <| .e true [(17,.done)]) k.out)):P:=h ⟨k⟩
theorem BC {F:List HP} {b:Nat} {c:au} {ms:List Int} {aa:Int} (hc:c.wf) (hl:dZ aa):az prog 191 [.pointer (some ⟨b,0,none⟩),.int .i64 aa] [oh b c ms] F (fun r L'=>r= .tuple [wv (fj c ms aa),.int .i64 (og c aa 0)].toArray∧L'=[oh b c ms]):=by
  refine ay func191 ntmps191 ?_;refine Dm fun g hf=>?_;have W3:=hf;obtain ⟨hb,hn,h8⟩:=W3;by_cases zF:aa<0
  ·have e0:fa c aa 0=false:=by simp [fa];omega
   repeat first|refine go ?_|intro _|refine lN ?_|refine av ?_
   (apply ad rfl rfl ar)
   ·exact ⟨by simp [fj,og,e0,Words.zero],rfl⟩
   ·exact eb @qT
  ·by_cases YM:aa≥c.aZ
   ·have e0:fa c aa 0=false:=by simp [fa];omega
    repeat first|refine go ?_|intro _|refine lN ?_|refine av ?_
    (apply ad rfl rfl ar)
    ·exact ⟨by simp [fj,og,e0,Words.zero],rfl⟩
    ·exact eb @qT
   ·have e0:fa c aa 0=true:=by
      have:=dR hb;simp [fa,hb];omega
    obtain ⟨r1,r2,r3,r4⟩:=wL hn e0;have jf:=n5 e0 hn;have hf0:aa*c.ag=((eY c aa:Nat):Int):=by unfold eY;omega
    repeat first|refine go ?_|intro _|refine lN ?_|refine av ?_
    rename_i b4 b6;apply aO (E0:=[(0,_),(1,_),(4,_),(6,_)]) (fun E0 (i:Nat)=>(7,.int .i64 i)::E0) (fun i=>ao b6 124 (wc (Words.of ((iH c ms aa).take i)))::ao b4 124 (wc .zero)::ao b 214 (c.cells++[.slice (some ⟨g,0,none⟩) ms.length ms.length])::ao g 3 (aj ic ms)::F) (fun i=>i≤c.ag.toNat) (fun i=>c.ag.toNat-i) 0
    ·exact bH
    ·exact Nat.zero_le _
    ·rw [List.take_zero,show Words.of []= .zero from rfl];exact af
    ·intro i hi;by_cases bB:i<c.ag.toNat
     ·have yI:i<8:=by omega
      have kM:i<(iH c ms aa).length:=by omega
      have W4:eY c aa+i<ms.length:=by omega
      have ev:ms[eY c aa+i]=(iH c ms aa)[i]:=by simp [iH]
      have YD:(aj ic ms)[0+(aa*c.ag+(i:Int)).toNat*1]? =some (.int .i64 (iH c ms aa)[i]):=by
        rw [show 0+(aa*c.ag+(i:Int)).toNat*1=eY c aa+i by omega,←ev];exact zm W4
      have hle:Nat.ble (0+((i:Nat):Int).toNat*1+1) (wc (Words.of ((iH c ms aa).take i))).length=true:=by
        apply Nat.ble_eq_true_of_le;simp;omega
      repeat first|refine go ?_|intro _|refine lN ?_|refine av ?_
      (apply kO;rfl;exact qy;exact nN (cs:=[.int .i64 (iH c ms aa)[i]]) rfl rfl inferInstance rfl rfl rfl hle;refine aU ?_);rw [Iz yI,Og kM (om),Words.Jc];repeat first|refine go ?_|intro _|refine lN ?_|refine av ?_
      refine aC (i+1) (om) (om) ?_ ?_
      ·exact bH
      ·exact af
     ·have kM:i=c.ag.toNat:=by omega
      subst kM;rw [List.take_of_length_le (om)];repeat first|refine go ?_|intro _|refine lN ?_|refine av ?_
      (apply ad rfl rfl ar)
      ·exact ⟨by simp [fj,og,e0],rfl⟩
      ·exact eb @qT
def B6 (ms:List Int) (f:Nat) (w:Words) (i:Nat):List Int:=ms.take f++w.list.take i++ms.drop (f+i)
theorem FH {ms:List Int} {f i:Nat} {w:Words} (h:f+i≤ms.length) (h8:i≤8):(B6 ms f w i).length=ms.length:=Hm h h8
theorem Lg {ms:List Int} {f i:Nat} {w:Words} (h:f+i<ms.length) (h8:i<8):(B6 ms f w i).set (f+i) (w.list.getD i 0)=B6 ms f w (i+1):=by
  unfold B6;have Sj:i<w.list.length:=h8;have e1:f+i=(ms.take f++w.list.take i).length:=by
    rw [List.length_append,List.length_take,List.length_take,Words.rL];omega
  have e2:ms.take f++w.list.take (i+1)=(ms.take f++w.list.take i)++[w.list.getD i 0]:=by
    rw [List.take_add_one,List.getElem?_eq_getElem Sj,List.getD_eq_getElem?_getD,List.getElem?_eq_getElem Sj,List.append_assoc];rfl
  rw [e2,List.drop_eq_getElem_cons h,←Nat.add_assoc];generalize ms[f+i]=x;generalize List.drop (f+i+1) ms=r;generalize ms.take f++w.list.take i=p at e1;rw [e1];simp [List.set_append]
theorem iq {Q P:Prop} (k:Q) (h:Hid Q→P:=by
  intro k
  first
  |(refine an ?_;refine bF (id:=11) .true (pl:= .p 0 <| .p 1 <| .p 2 <| .p 4 <| .p 5 <| .p 6 <| .p 7 <| .p 8 <| .p 11 <| .p 13 <| .p 14 <| .r 3 <| .r 9 <| .p 10 <| .p 12 <| .r 15 <| .p 16 <| .e true [(17,.done)]) k.out)):P:=h ⟨k⟩
theorem GJ {F:List HP} {b:Nat} {c:au} {ms:List Int} {aa:Int} {w:Words} (hc:c.wf) (hl:dZ aa):az prog 194 [.pointer (some ⟨b,0,none⟩),.int .i64 aa,wv w] [oh b c ms] F (fun r L'=>r= .int .i64 (J3 c aa w)∧L'=[oh b c (En c ms aa w)]):=by
  refine ay func194 ntmps194 ?_;refine Dm fun g hf=>?_;have W3:=hf;obtain ⟨hb,hn,h8⟩:=W3;by_cases zF:aa<0
  ·have e0:ra c aa w=false:=by simp [ra,fa];omega
   repeat first|refine go ?_|intro _|refine iq ?_|refine av ?_
   (apply ad rfl rfl ar)
   ·exact ⟨by simp [J3,e0],rfl⟩
   ·simp only [En,e0,Bool.false_eq_true,if_false];exact eb @qT
  ·by_cases YM:aa≥c.aZ
   ·have e0:ra c aa w=false:=by simp [ra,fa];omega
    repeat first|refine go ?_|intro _|refine iq ?_|refine av ?_
    (apply ad rfl rfl ar)
    ·exact ⟨by simp [J3,e0],rfl⟩
    ·simp only [En,e0,Bool.false_eq_true,if_false];exact eb @qT
   ·have e0:fa c aa 0=true:=by
      have:=dR hb;simp [fa,hb];omega
    obtain ⟨r1,r2,r3,r4⟩:=wL hn e0;have jf:=n5 e0 hn;have hf0:aa*c.ag=((eY c aa:Nat):Int):=by unfold eY;omega
    repeat first|refine go ?_|intro _|refine iq ?_|refine av ?_
    rename_i bw;apply aO (E0:=[(0,_),(1,_),(5,_)]) (fun E0 (q:Int)=>(7,.int .i64 q)::E0) (fun _=>ao bw 124 (wc w)::ao b 214 (c.cells++[.slice (some ⟨g,0,none⟩) ms.length ms.length])::ao g 3 (aj ic ms)::F) (fun q=>(c.ag≤q∧q≤8)∧∀ j:Nat,c.ag≤j→(j:Int)<q→w.list.getD j 0=0) (fun q=>(8-q).toNat) c.ag
    ·exact bH
    ·exact ⟨om,fun j h1 h2=>by omega⟩
    ·exact af
    ·rintro q ⟨hq,h1⟩;obtain ⟨i,rfl⟩:∃ i:Nat,q=i:=⟨q.toNat,om⟩;by_cases bB:(i:Int)<8
     ·have hg:=FG w i (om);by_cases h0:w.list.getD i 0=0
      ·repeat first|refine go ?_|intro _|refine iq ?_|refine av ?_
       refine aC ((i:Int)+1) (om) ⟨om,fun j h2 h3=>?_⟩ ?_ ?_
       ·by_cases e:j=i
        ·subst e;exact h0
        ·exact h1 j h2 (om)
       ·exact bH
       ·exact af
      ·have hw:ra c aa w=false:=by
         have:uZ c w=false:=by
           unfold uZ;rw [List.all_eq_false];have yI:i<w.list.length:=by rw [Words.rL];omega
           have hm:w.list.getD i 0=w.list[i]:=by rw [List.getD_eq_getElem?_getD,List.getElem?_eq_getElem yI];rfl
           refine ⟨w.list[i],List.mem_drop_iff_getElem.2 ⟨i-c.ag.toNat,om,by congr 1;omega⟩,?_⟩;rw [←hm];simpa using h0
         simp [ra,this]
       repeat first|refine go ?_|intro _|refine iq ?_|refine av ?_
       (apply ad rfl rfl ar)
       ·exact ⟨by simp [J3,hw],rfl⟩
       ·simp only [En,hw,Bool.false_eq_true,if_false];exact eb @qT
     ·have hw:ra c aa w=true:=by
        have:uZ c w=true:=by
          unfold uZ;rw [List.all_eq_true];intro x hx;obtain ⟨j,hj,rfl⟩:=List.mem_drop_iff_getElem.1 hx;have rq:=Words.rL w;have:=h1 (j+c.ag.toNat) (om) (om);rw [List.getD_eq_getElem?_getD,List.getElem?_eq_getElem (om),Option.getD_some] at this;rw [decide_eq_true_eq,←this];congr 1;omega
        simp [ra,this,e0]
      have e1:J3 c aa w=0:=by simp [J3,hw]
      have e2:En c ms aa w=B6 ms (eY c aa) w c.ag.toNat:=by simp only [En,hw,if_true];rfl
      rw [e1,e2];repeat first|refine go ?_|intro _|refine iq ?_|refine av ?_
      apply aO (E0:=[(0,_),(1,_),(5,_)]) (fun E0 (i:Nat)=>(8,.int .i64 i)::E0) (fun i=>ao bw 124 (wc w)::ao b 214 (c.cells++[.slice (some ⟨g,0,none⟩) ms.length ms.length])::ao g 3 (aj ic (B6 ms (eY c aa) w i))::F) (fun i=>i≤c.ag.toNat) (fun i=>c.ag.toNat-i) 0
      ·exact bH
      ·exact Nat.zero_le _
      ·rw [show B6 ms (eY c aa) w 0=ms by simp [B6]];exact af
      ·intro k hk;by_cases BN:k<c.ag.toNat
       ·have hg:=FG w k (om);have hlen:=FH (ms:=ms) (f:=eY c aa) (w:=w) (i:=k) (om) (om);have W4:eY c aa+k<ms.length:=by omega
        have uG:=Lg (ms:=ms) (f:=eY c aa) (w:=w) (i:=k) W4 (om);have So:0+(aa*c.ag+(k:Int)).toNat*1=eY c aa+k:=by omega
        have hle:Nat.ble (0+(aa*c.ag+(k:Int)).toNat*1+1) (aj ic (B6 ms (eY c aa) w k)).length=true:=by
          apply Nat.ble_eq_true_of_le;rw [mO,So];omega
        repeat first|refine go ?_|intro _|refine iq ?_|refine av ?_
        (apply kO;rfl;exact qy;exact nN (cs:=[.int .i64 (w.list.getD k 0)]) rfl rfl inferInstance rfl rfl rfl hle;refine aU ?_);rw [So,sa (om),uG];repeat first|refine go ?_|intro _|refine iq ?_|refine av ?_
        refine aC (k+1) (om) (om) ?_ ?_
        ·exact bH
        ·exact af
       ·have kM:k=c.ag.toNat:=by omega
        subst kM;have hlen:=FH (ms:=ms) (f:=eY c aa) (w:=w) (i:=c.ag.toNat) (om) (om);repeat first|refine go ?_|intro _|refine iq ?_|refine av ?_
        (apply ad rfl rfl ar)
        ·exact ⟨rfl,rfl⟩
        ·apply qT
         ·exact af
         ·exact hlen.symm
         ·rfl
         ·rw [hlen];exact hf
end
section
attribute [local irreducible] Exit.then Exit.inBlock Code.wp WC WO WE WQ V aW dL Sat bz bK dU IntKind.wrap WR Code.rounds WT KO
theorem QZ {F:List HP} {b:Nat}:az prog 216 [.pointer (some ⟨b,0,none⟩)] [] F (fun r L'=>∃ bx,r= .func (.func 277) #[] #[.pointer (some ⟨bx,0,none⟩)]∧L'=[ao bx 54 [.pointer (some ⟨b,0,none⟩)]]):=by
  refine ay func216 ntmps216 ?_;repeat first|refine gd ?_|intro _
  (apply ad rfl rfl ar)
  ·exact ⟨_,rfl,rfl⟩
  ·exact af
theorem Q0 {b bx b0 b1 b2:Nat} {c:au} {n:fK} (yJ:n.l0.length≤4096) (wS:n.l1.length≤4096) (qJ:n.l2.length≤4096):Seq prog 277 [.pointer (some ⟨bx,0,none⟩)] [ao b 222 (l3 c b0 b1 b2),cf b0 c.r0 n.l0,cf b1 c.r1 n.l1,cf b2 c.r2 n.l2,ao bx 54 [.pointer (some ⟨b,0,none⟩)]] ((jZ n).map mv):=by
  refine Seq.mk func277 rfl ntmps277 rfl ?_;intro l A C hy;simp only [eX] at hy ⊢;repeat first|refine gd ?_|intro _
  refine vn 4 ?_;repeat first|refine gd ?_|intro _|refine ae @lL ?_
  rename_i p0 q0;apply aO (E0:=[(0,_),(10,_),(11,_),(15,_),(16,_)]) (fun E0 (i:Nat)=>(17,.int .i64 i)::E0) (fun i=>aT 159 15 (.slice p0 n.l0.length q0) n.l0.length (aj mc n.l0)::ao b 222 (l3 c b0 b1 b2)::cf b0 c.r0 n.l0::cf b1 c.r1 n.l1::cf b2 c.r2 n.l2::ao bx 54 [.pointer (some ⟨b,0,none⟩)]::A (i)) (fun i=>i≤n.l0.length) (fun i=>n.l0.length-i) 0
  ·exact bH
  ·exact Nat.zero_le _
  ·exact af
  ·intro i hi;by_cases bB:i<n.l0.length
   ·have hx:i<((jZ n).map mv).length:=by simp [jZ];omega
    have L8:((jZ n).map mv)[i]=mv n.l0[i]:=by simp [jZ,List.getElem_append,bB]
    have J0:=hy i hx;rw [L8] at J0;repeat first|rintro _ _ ⟨rfl,rfl⟩|intro _|refine L2 ?_
    refine kD ?_;repeat first|rintro _ _ ⟨rfl,rfl⟩|intro _|refine L2 ?_
    refine kD ?_;repeat first|rintro _ _ ⟨rfl,rfl⟩|intro _|refine L2 ?_
    refine wm ?_;repeat (refine L1 ?_)
    apply yi (F:=[aT 159 15 (.slice p0 n.l0.length q0) n.l0.length (aj mc n.l0)]) rfl rfl rfl J0
    ·refine ai.drop (ai.trans ?_ nl);exact ai.refl
    ·refine uw (M:=aT 159 15 (.slice p0 n.l0.length q0) n.l0.length (aj mc n.l0)::ao b 222 (l3 c b0 b1 b2)::cf b0 c.r0 n.l0::cf b1 c.r1 n.l1::cf b2 c.r2 n.l2::ao bx 54 [.pointer (some ⟨b,0,none⟩)]::A (i+1)) nl ?_;repeat (refine L1 ?_)
     refine qS (ux ?_);repeat first|refine gd ?_|intro _
     refine aC (i+1) (om) (om) ?_ ai.refl;exact bH
    ·refine uw (M:=aT 159 15 (.slice p0 n.l0.length q0) n.l0.length (aj mc n.l0)::C) nl ?_;repeat (refine L1 ?_)
     refine qS (ux ?_);repeat first|refine gd ?_|intro _
     exact uP rfl rfl (om) (ai.drop ai.refl)
   ·have kM:i=n.l0.length:=by omega
    subst kM;repeat first|refine gd ?_|intro _|refine ae @lL ?_
    rename_i p1 q1;apply aO (E0:=[(0,_),(10,_),(11,_),(15,_),(16,_)]) (fun E0 (i:Nat)=>(17,.int .i64 i)::E0) (fun i=>aT 159 15 (.slice p1 n.l1.length q1) n.l1.length (aj mc n.l1)::ao b 222 (l3 c b0 b1 b2)::cf b0 c.r0 n.l0::cf b1 c.r1 n.l1::cf b2 c.r2 n.l2::ao bx 54 [.pointer (some ⟨b,0,none⟩)]::A (n.l0.length+i)) (fun i=>i≤n.l1.length) (fun i=>n.l1.length-i) 0
    ·exact bH
    ·exact Nat.zero_le _
    ·simp only [Nat.add_zero];exact af
    ·intro i hi;by_cases bB:i<n.l1.length
     ·have hx:(n.l0.length+i)<((jZ n).map mv).length:=by simp [jZ];omega
      have L8:((jZ n).map mv)[n.l0.length+i]=mv n.l1[i]:=by simp [jZ,List.getElem_append,bB,show ¬n.l0.length+i<n.l0.length by omega]
      have J0:=hy (n.l0.length+i) hx;rw [L8] at J0;repeat first|rintro _ _ ⟨rfl,rfl⟩|intro _|refine L2 ?_
      refine kD ?_;repeat first|rintro _ _ ⟨rfl,rfl⟩|intro _|refine L2 ?_
      refine kD ?_;repeat first|rintro _ _ ⟨rfl,rfl⟩|intro _|refine L2 ?_
      refine wm ?_;repeat (refine L1 ?_)
      apply yi (F:=[aT 159 15 (.slice p1 n.l1.length q1) n.l1.length (aj mc n.l1)]) rfl rfl rfl J0
      ·refine ai.drop (ai.trans ?_ nl);exact ai.refl
      ·refine uw (M:=aT 159 15 (.slice p1 n.l1.length q1) n.l1.length (aj mc n.l1)::ao b 222 (l3 c b0 b1 b2)::cf b0 c.r0 n.l0::cf b1 c.r1 n.l1::cf b2 c.r2 n.l2::ao bx 54 [.pointer (some ⟨b,0,none⟩)]::A (n.l0.length+i+1)) nl ?_;repeat (refine L1 ?_)
       refine qS (ux ?_);repeat first|refine gd ?_|intro _
       refine aC (i+1) (om) (om) ?_ ai.refl;exact bH
      ·refine uw (M:=aT 159 15 (.slice p1 n.l1.length q1) n.l1.length (aj mc n.l1)::C) nl ?_;repeat (refine L1 ?_)
       refine qS (ux ?_);repeat first|refine gd ?_|intro _
       exact uP rfl rfl (om) (ai.drop ai.refl)
     ·have kM:i=n.l1.length:=by omega
      subst kM;repeat first|refine gd ?_|intro _|refine ae @lL ?_
      rename_i p2 q2;apply aO (E0:=[(0,_),(10,_),(11,_),(15,_),(16,_)]) (fun E0 (i:Nat)=>(17,.int .i64 i)::E0) (fun i=>aT 159 15 (.slice p2 n.l2.length q2) n.l2.length (aj mc n.l2)::ao b 222 (l3 c b0 b1 b2)::cf b0 c.r0 n.l0::cf b1 c.r1 n.l1::cf b2 c.r2 n.l2::ao bx 54 [.pointer (some ⟨b,0,none⟩)]::A (n.l0.length+n.l1.length+i)) (fun i=>i≤n.l2.length) (fun i=>n.l2.length-i) 0
      ·exact bH
      ·exact Nat.zero_le _
      ·simp only [Nat.add_zero];exact af
      ·intro i hi;by_cases bB:i<n.l2.length
       ·have hx:(n.l0.length+n.l1.length+i)<((jZ n).map mv).length:=by simp [jZ];omega
        have L8:((jZ n).map mv)[n.l0.length+n.l1.length+i]=mv n.l2[i]:=by simp [jZ,List.getElem_append,bB,show ¬n.l0.length+n.l1.length+i<n.l0.length by omega,show ¬n.l0.length+n.l1.length+i-n.l0.length<n.l1.length by omega,show n.l0.length+n.l1.length+i-n.l0.length-n.l1.length=i by omega]
        have J0:=hy (n.l0.length+n.l1.length+i) hx;rw [L8] at J0;repeat first|rintro _ _ ⟨rfl,rfl⟩|intro _|refine L2 ?_
        refine kD ?_;repeat first|rintro _ _ ⟨rfl,rfl⟩|intro _|refine L2 ?_
        refine kD ?_;repeat first|rintro _ _ ⟨rfl,rfl⟩|intro _|refine L2 ?_
        refine wm ?_;repeat (refine L1 ?_)
        apply yi (F:=[aT 159 15 (.slice p2 n.l2.length q2) n.l2.length (aj mc n.l2)]) rfl rfl rfl J0
        ·refine ai.drop (ai.trans ?_ nl);exact ai.refl
        ·refine uw (M:=aT 159 15 (.slice p2 n.l2.length q2) n.l2.length (aj mc n.l2)::ao b 222 (l3 c b0 b1 b2)::cf b0 c.r0 n.l0::cf b1 c.r1 n.l1::cf b2 c.r2 n.l2::ao bx 54 [.pointer (some ⟨b,0,none⟩)]::A (n.l0.length+n.l1.length+i+1)) nl ?_;repeat (refine L1 ?_)
         refine qS (ux ?_);repeat first|refine gd ?_|intro _
         refine aC (i+1) (om) (om) ?_ ai.refl;exact bH
        ·refine uw (M:=aT 159 15 (.slice p2 n.l2.length q2) n.l2.length (aj mc n.l2)::C) nl ?_;repeat (refine L1 ?_)
         refine qS (ux ?_);repeat first|refine gd ?_|intro _
         exact uP rfl rfl (om) (ai.drop ai.refl)
       ·have kM:i=n.l2.length:=by omega
        subst kM;repeat first|refine gd ?_|intro _
        refine Gn rfl rfl ?_;have hlen:((jZ n).map mv).length=n.l0.length+n.l1.length+n.l2.length:=by simp [jZ];omega
        rw [hlen];exact ai.drop ai.refl
theorem ki {c:au} (h:aB c=true):c.r0≤64∧c.r1≤64∧c.r2≤64:=by
  simp only [aB,eJ,Bool.and_eq_true,decide_eq_true_eq] at h;omega
attribute [local irreducible] WM zH E1 Hj AN SG Code.wpIn
theorem Lh {F:List HP} {b:Nat} {c:au} {n:fK}:az prog 169 [.pointer (some ⟨b,0,none⟩)] [j0 b c n] F (fun r L'=>r= .bool (decide (jZ n=[]))∧L'=[j0 b c n]):=by
  refine az.Z0 func169 rfl rfl ntmps169 rfl ?_;refine rW fun b0 b1 b2 ⟨hc,yJ,wS,qJ⟩=>?_;obtain ⟨r0,r1,r2⟩:=ki hc;repeat first|refine gd ?_|intro _|refine ae @QZ ?_
  rename_i bt bx;apply EC (J:=fun i=>match i with|0=>ao bt 4 [.bool false]::F|_+1=>[ja False]) (ao b 222 (l3 c b0 b1 b2)::cf b0 c.r0 n.l0::cf b1 c.r1 n.l1::cf b2 c.r2 n.l2::ao bx 54 [.pointer (some ⟨b,0,none⟩)]::ao bt 4 [.bool false]::F) rfl (fb func277 rfl rfl) (Q0 (b:=b) (c:=c) (n:=n) (b0:=b0) (b1:=b1) (b2:=b2) (om) (om) (om))
  ·dsimp only [eX];exact af
  ·rfl
  ·intro l r D F' i hi hr;cases i with
   |succ i=>
    exact Kw (M:=[]) (by dsimp only [eX];exact af)
   |zero=>
    dsimp only [eX];repeat first|intro _|refine Vl ?_
    refine Kx hr ?_;repeat first|intro _|refine Vl ?_
    exact Nt (by exact af)
  ·intro D;by_cases h:jZ n=[]
   ·have e0:((jZ n).map mv).length=0:=by simp [h]
    rw [e0];dsimp only [eX];repeat first|intro _|refine Vl ?_
    apply Fe rfl rfl ar
    ·exact ⟨by rw [A9,decide_eq_true h],rfl⟩
    ·(apply ii;(focus (exact af));all_goals exact bu)
   ·have hl:∃ k,((jZ n).map mv).length=k+1:=by
      cases e:jZ n with
      |nil=>exact absurd e h
      |cons a r=>exact ⟨r.length,by simp⟩
    obtain ⟨k,hk⟩:=hl;rw [hk];exact H8 (M:=[]) (by dsimp only [eX];exact af)
  ·intro D h0;have h:jZ n≠[]:=by rintro h;rw [h] at h0;simp at h0
   repeat first|intro _|refine Vl ?_
   apply Fe rfl rfl ar
   ·exact ⟨by rw [A9,decide_eq_false h],rfl⟩
   ·(apply ii;(focus (exact af));all_goals exact bu)
end
end Go.Sx
