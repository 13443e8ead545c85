/- Ref3, QuR, QuR2: several of my texts as one. My own work. -/
import Derived.Test.YtjihlpjnebdiiabGreatZae
import Derived.Test.YtjihlpjnebdiiabGreatZaf
set_option linter.unusedVariables false
set_option linter.unusedSectionVars false
set_option linter.unusedSimpArgs false
set_option maxRecDepth 100000
set_option maxHeartbeats 4000000
namespace Go.Sx
open Go Go.Proofs Tryz
section
theorem NY (x:c5):k8 x=decide ((x.ah=4∧x.addr=0∧x.value=0)∨(x.ah=1∧0≤x.addr∧x.addr≤8191∧x.value=0)∨((x.ah=2∨x.ah=3)∧0≤x.addr∧x.addr≤8191∧ -2147483648≤x.value∧x.value≤2147483647)):=by
  rw [Bool.eq_iff_iff,decide_eq_true_iff];unfold k8;split
  ·simp only [Bool.and_eq_true,decide_eq_true_eq];omega
  ·split
   ·simp only [Bool.and_eq_true,decide_eq_true_eq];omega
   ·split
    ·simp only [Bool.and_eq_true,decide_eq_true_eq];omega
    ·simp only [Bool.false_eq_true,false_iff];omega
attribute [local irreducible] Exit.then Exit.inBlock Code.wp WC WO WE WQ V aW dL Sat bz bK dU IntKind.wrap WR Code.rounds WT KO
theorem Df {F:List HP} {x:c5}:az prog 212 [ov x] [] F (fun r L'=>r= .bool (k8 x)∧L'=[]):=by
  rw [NY];refine ay func212 ntmps212 ?_;repeat' (first|refine gd ?_|intro _|refine bj ?_ ?_|fail)
  all_goals (apply ad rfl rfl (by (repeat (first|exact lr.nil|(apply lr.tmp;rfl)))))
  all_goals first
    |(refine ⟨?_,rfl⟩;first|(exact congrArg Value.bool (Eq.symm (decide_eq_false (om))))|(exact congrArg Value.bool (Eq.symm (decide_eq_true (om))))|(exact congrArg Value.bool (decide_eq_decide.2 (om))))
    |exact af
end
section
theorem MJ {a b:bA}:mc a=mc b↔a=b:=by
  rcases a with ⟨a1,a2,a3,a4,a5,a6,a7,⟨w0,w1,w2,w3,w4,w5,w6,w7⟩⟩;rcases b with ⟨b1,b2,b3,b4,b5,b6,b7,⟨v0,v1,v2,v3,v4,v5,v6,v7⟩⟩;simp [mc]
attribute [local irreducible] Exit.then Exit.inBlock Code.wp WC WO WE WQ V aW dL Sat bz bK dU IntKind.wrap WR Code.rounds WT KO
abbrev kc:=oJ 196 205
theorem K4 {F:List HP} {p q:QP} (k1:bN F 15 (LV p) p.1.aK.length (aj mc p.1.aK)) (k2:bN F 15 (LV q) q.1.aK.length (aj mc q.1.aK)) (hn:p.1.aK.length≤1099511627776) :
    az prog 106 [qv p,qv q] [] F (fun r L'=>r= .bool (decide (p.1=q.1))∧L'=[]):=by
  refine ay func106 ntmps106 ?_;by_cases hm:p.1.m=q.1.m
  ·have Pu:=MJ.2 hm;by_cases hs:p.1.st=q.1.st
   ·repeat first|refine gd ?_|intro _|refine ae @Bq ?_
    have:p.1=q.1↔p.1.aK=q.1.aK:=by rw [←QE.iZ];simp [hm,hs]
    (apply ad rfl rfl ar;(first|exact cS|exact ⟨by simp [this]<;>omega,rfl⟩);exact bM)
   ·have kz:¬(p.1=q.1):=fun h=>hs (by rw [h]);repeat first|refine gd ?_|intro _
    (apply ad rfl rfl ar;(first|exact cS|exact ⟨by simp [kz]<;>omega,rfl⟩);exact bM)
  ·have Pu:¬(mc p.1.m=mc q.1.m):=fun h=>hm (MJ.1 h);have kz:¬(p.1=q.1):=fun h=>hm (by rw [h]);repeat first|refine gd ?_|intro _
   (apply ad rfl rfl ar;(first|exact cS|exact ⟨by simp [kz]<;>omega,rfl⟩);exact bM)
theorem K5 {F:List HP} {ak:Int} (h:1≤ak∧ak≤16):az prog 177 [.int .i64 ak] [] F (fun r L'=>∃ b,r= .tuple [.pointer (some ⟨b,0,none⟩),.int .i64 0].toArray∧L'=[kc b ak []]):=by
  refine ay func177 ntmps177 ?_;repeat first|refine gd ?_|intro _
  (apply ad rfl rfl ar)
  ·exact ⟨_,rfl,rfl⟩
  ·exact ed (ps:=[]) (ai.cons (aI all_nil)) rfl rfl rfl (by simp;omega) h.2 (by simp)
theorem nU {F:List HP} {b:Nat} {ak:Int} {l:List QE} {n:Int}:az prog 189 [.pointer (some ⟨b,0,none⟩),.int .i64 n] [kc b ak l] F (fun r L'=>r= .bool (rG l n)∧L'=[kc b ak l]):=by
  refine ay func189 ntmps189 ?_;refine jY fun p c ps hf=>?_;obtain ⟨rfl,h1,h2,h3,wG⟩:=hf;by_cases h:0≤n
  ·repeat first|refine gd ?_|intro _
   (apply ad rfl rfl ar)
   ·exact ⟨by simp [rG,h],rfl⟩
   ·exact eb @ed
  ·repeat first|refine gd ?_|intro _
   (apply ad rfl rfl ar)
   ·exact ⟨by simp [rG,h],rfl⟩
   ·exact eb @ed
theorem rz {F:List HP} {b:Nat} {ak:Int} {l:List QE} {n:Int}:az prog 190 [.pointer (some ⟨b,0,none⟩),.int .i64 n] [kc b ak l] F (fun r L'=>r= .bool (fi l n)∧L'=[kc b ak l]):=by
  have hH:=fun F=>nU (F:=F) (b:=b) (ak:=ak) (l:=l) (n:=n);cases e:rG l n with
  |false=>
   rw [e] at hH;refine ay func190 ntmps190 ?_;repeat first|refine gd ?_|intro _|refine ae @hH ?_
   (apply ad rfl rfl ar)
   ·exact ⟨by simp [fi,e],rfl⟩
   ·exact af
  |true=>
   rw [e] at hH;obtain ⟨i,hi,rfl,ea⟩:=p6 e;refine ay func190 ntmps190 ?_;repeat first|refine go ?_|intro _|refine ae @hH ?_
   (first|refine aD (kc b ak l) ?_|refine aE (kc b ak l) ?_|refine aF (kc b ak l) ?_);refine kn fun p c ps hf=>?_;obtain ⟨rfl,h1,h2,h3,wG⟩:=hf;have pT:i<ps.length:=by simpa using hi
   have uG:(ps.map (·.1))[i]=ps[i].1:=by simp
   rw [uG] at ea;cases es:ps[i].1.st with
   |true=>
    repeat first|refine gd ?_|intro _
    (apply ad rfl rfl ar)
    ·exact ⟨by simp [fi,ea,es],rfl⟩
    ·exact eb @ed
   |false=>
    repeat first|refine gd ?_|intro _
    apply aO (E0:=[(0,_),(1,_)]) (fun E0 (j:Nat)=>(5,.int .i64 j)::E0) (fun _=>ao b 196 [.int .i64 ak,.slice p ps.length c]::aT 205 17 (.slice p ps.length c) ps.length (aj qc ps)::bZ (ps.map nr)::F) (fun j=>j≤i∧∀ k (hk:k<ps.length),k<j→ps[k].1.m.aa≠ps[i].1.m.aa) (fun j=>i-j) 0
    ·exact bH
    ·exact ⟨Nat.zero_le _,fun k hk h=>by omega⟩
    ·exact af
    ·rintro j ⟨hj,kQ⟩;by_cases bB:j<i
     ·have rq:j<ps.length:=by omega
      by_cases hl:ps[j].1.m.aa=ps[i].1.m.aa
      ·have hr:fi (ps.map (·.1)) i=false:=by
         have:tw (ps.map (·.1)) i ps[i].1.m.aa=false:=by
           simp only [tw,←List.map_take,List.all_map,List.all_eq_false];exact ⟨ps[j],List.mem_iff_getElem.2 ⟨j,by simp;omega,by simp⟩,by simpa using hl⟩
         simp [fi,ea,this]
       repeat first|refine gd ?_|intro _
       (apply ad rfl rfl ar)
       ·exact ⟨by rw [hr];rfl,rfl⟩
       ·exact eb @ed
      ·repeat first|refine gd ?_|intro _
       refine aC (j+1) (om) ⟨om,fun k hk h=>?_⟩ ?_ ?_
       ·by_cases e:k=j
        ·subst e;exact hl
        ·exact kQ k hk (om)
       ·exact bH
       ·exact af
     ·have hr:fi (ps.map (·.1)) i=true:=by
        have:tw (ps.map (·.1)) i ps[i].1.m.aa=true:=by
          simp only [tw,←List.map_take,List.all_map,List.all_eq_true];intro x hx;obtain ⟨k,hk,rfl⟩:=List.getElem_of_mem hx;rw [List.length_take] at hk;have:=kQ k (om) (om);simpa using this
        simp [fi,ea,this,e,es]
      repeat first|refine gd ?_|intro _
      (apply ad rfl rfl ar)
      ·exact ⟨by rw [hr];rfl,rfl⟩
      ·exact eb @ed
theorem sY {Q P:Prop} (k:Q) (h:Hid Q→P:=by
  intro k
  first
  |(refine an ?_;refine bF (id:=5) .false (pl:= .p 0 <| .p 2 <| .p 3 <| .p 4 <| .r 5 <| .r 7 <| .p 8 <| .e true [(1,.e true [(6,.e true [(9,.e true [(10,.p 11 <| .p 12 <| .e true [(13,.done)])])]),(9,.e true [(6,.e true [(10,.p 11 <| .p 12 <| .e true [(13,.done)])])])]),(9,.e true [(1,.e true [(6,.e true [(10,.p 11 <| .p 12 <| .e true [(13,.done)])])])])]) k.out)):P:=h ⟨k⟩
theorem K6 {F:List HP} {b:Nat} {ak:Int} {l:List QE} {m:bA}:az prog 265 [.pointer (some ⟨b,0,none⟩),mv m] [kc b ak l] F (fun r L'=>r= .int .i64 (me ak l m)∧L'=[kc b ak (mf ak l m)]):=by
  refine ay func265 ntmps265 ?_;by_cases hk:m.ah<1∨m.ah>3
  ·have e:me ak l m=1:=by simp only [me,if_pos hk]
   have e2:mf ak l m=l:=by simp [mf,e]
   rw [e,e2];by_cases h1:m.ah<1
   ·repeat first|refine go ?_|intro _|refine sY ?_|refine av ?_
    exact aM
   ·repeat first|refine go ?_|intro _|refine sY ?_|refine av ?_
    exact aM
  ·refine jY fun p c ps hf=>?_;obtain ⟨rfl,h1,h2,h3,wG⟩:=hf;by_cases hf:(ps.length:Int)=ak
   ·have e:me ak (ps.map (·.1)) m=4:=by simp only [me,if_neg hk,List.length_map,if_pos hf]
    have e2:mf ak (ps.map (·.1)) m=ps.map (·.1):=by simp [mf,e]
    rw [e,e2];repeat first|refine go ?_|intro _|refine sY ?_|refine av ?_
    (apply ad rfl rfl ar)
    ·exact ⟨rfl,rfl⟩
    ·exact eb @ed
   ·have e:me ak (ps.map (·.1)) m=0:=by simp only [me,if_neg hk,List.length_map,if_neg hf]
    have e2:mf ak (ps.map (·.1)) m=ps.map (·.1)++[⟨m,false,[]⟩]:=by simp [mf,e]
    rw [e,e2];repeat' (first|refine go ?_|intro _|refine sY ?_|refine av ?_|refine bj ?_ ?_|fail)
    all_goals (apply ad rfl rfl ar)
    all_goals first|exact ⟨rfl,rfl⟩|(exact eb @P8)
theorem Dg {F:List HP} {b:Nat} {ak:Int} {l:List QE} {k:Nat} (hk:k<l.length):az prog 271 [.pointer (some ⟨b,0,none⟩),.int .i64 k] [kc b ak l] F (fun r L'=>r= .tuple [].toArray∧L'=[kc b ak (l.eraseIdx k)]):=by
  refine ay func271 ntmps271 ?_;refine jY fun p c ps hf=>?_;obtain ⟨rfl,h1,h2,h3,wG⟩:=hf;have sv:k<ps.length:=by simpa using hk
  repeat first|refine gd ?_|intro _
  apply aO (E0:=[(0,_),(1,_)]) (fun E0 (q:Nat×Option Addr×Nat)=>(5,.int .i64 q.1)::(4,.slice q.2.1 ((ps.take q.1).eraseIdx k).length q.2.2)::E0)
    (fun q=>aT 205 17 (.slice q.2.1 ((ps.take q.1).eraseIdx k).length q.2.2) ((ps.take q.1).eraseIdx k).length (aj qc ((ps.take q.1).eraseIdx k))::ao b 196 [.int .i64 ak,.slice p ps.length c]::aT 205 17 (.slice p ps.length c) ps.length (aj qc ps)::bZ (ps.map nr)::F) (fun q=>q.1≤ps.length) (fun q=>ps.length-q.1) (0,_,_)
  ·exact bH
  ·exact Nat.zero_le _
  ·dsimp only;simp only [List.take_zero,List.eraseIdx_nil,List.length_nil,lU];exact af
  ·rintro ⟨i,p',c'⟩ hi;dsimp only at hi ⊢;have hlen:=iu (ps.take i) k;rw [List.length_take] at hlen;by_cases bB:i<ps.length
   ·by_cases he:i=k
    ·repeat first|refine gd ?_|intro _
     refine aC (i+1,p',c') (by dsimp only;omega) (by dsimp only;omega) ?_ ?_
     ·dsimp only;rw [cd ps k i bB,if_pos he];exact bH
     ·dsimp only;rw [cd ps k i bB,if_pos he];exact ai.refl
    ·repeat first|refine gd ?_|intro _
     rename_i p2 c2;refine aC (i+1,p2,c2) (by dsimp only;omega) (by dsimp only;omega) ?_ ?_
     ·dsimp only;rw [cd ps k i bB,if_neg he];rw [List.length_append,List.length_singleton];exact bH
     ·dsimp only;rw [cd ps k i bB,if_neg he];rw [List.length_append,List.length_singleton,aJ,bi];exact af
   ·repeat first|refine gd ?_|intro _
    have kM:i=ps.length:=by omega
    subst kM;rw [List.take_length];(apply ad rfl rfl ar)
    ·exact ⟨rfl,rfl⟩
    ·apply ed (ps:=ps.eraseIdx k)
     ·exact eb @D2
     ·rw [vu]
     ·rfl
     ·rfl
     ·have:=iu ps k;omega
     ·exact h2
     ·exact fun p hp=>h3 p (List.mem_of_mem_eraseIdx hp)
theorem Iq {F:List HP} {b:Nat} {ak:Int} {l:List QE} {n:Int}:az prog 195 [.pointer (some ⟨b,0,none⟩),.int .i64 n] [kc b ak l] F (fun r L'=>r= .tuple [mv (fO l n),.bool (fN l n)].toArray∧L'=[kc b ak l]):=by
  have hH:=fun F=>nU (F:=F) (b:=b) (ak:=ak) (l:=l) (n:=n);cases e:rG l n with
  |false=>
   have e1:fN l n=false:=by simp [fN,e]
   rw [e] at hH;refine ay func195 ntmps195 ?_;repeat first|refine gd ?_|intro _|refine ae @hH ?_
   (apply ad rfl rfl ar)
   ·exact ⟨by simp [fO,e1,bA.zero,Words.zero],rfl⟩
   ·exact af
  |true=>
   rw [e] at hH;obtain ⟨i,hi,rfl,ea⟩:=p6 e;refine ay func195 ntmps195 ?_;repeat first|refine go ?_|intro _|refine ae @hH ?_
   (first|refine aD (kc b ak l) ?_|refine aE (kc b ak l) ?_|refine aF (kc b ak l) ?_);refine kn fun p c ps hf=>?_;obtain ⟨rfl,h1,h2,h3,wG⟩:=hf;have pT:i<ps.length:=by simpa using hi
   have uG:(ps.map (·.1))[i]=ps[i].1:=by simp
   rw [uG] at ea;by_cases hz:ps[i].1.aK.length=0
   ·have e1:fN (ps.map (·.1)) i=false:=by simp [fN,ea,hz]
    repeat first|refine gd ?_|intro _
    (apply ad rfl rfl ar)
    ·exact ⟨by simp [fO,e1,bA.zero,Words.zero],rfl⟩
    ·exact eb @ed
   ·have e1:fN (ps.map (·.1)) i=true:=by simp [fN,ea,hz,e]
    haveI kr:=fun L=>xP (ps:=ps) (p:=ps[i]) (List.getElem_mem pT) (L:=L);have hq:fO (ps.map (·.1)) i=ps[i].1.aK[Int.toNat 0]:=by simp only [fO,e1,if_true,ea];exact Ft (om)
    repeat first|refine gd ?_|intro _
    (apply ad rfl rfl ar)
    ·exact ⟨by rw [hq,e1];rfl,rfl⟩
    ·exact eb @ed
theorem ql {Q P:Prop} (k:Q) (h:Hid Q→P:=by
  intro k
  first
  |(refine an ?_;refine bF (id:=5) .false (pl:= .p 0 <| .p 1 <| .p 2 <| .p 4 <| .p 5 <| .p 6 <| .p 7 <| .p 9 <| .p 14 <| .r 3 <| .r 8 <| .p 10 <| .p 11 <| .r 12 <| .e true [(13,.e true [(15,.p 16 <| .p 17 <| .e true [(18,.done)])])]) k.out)):P:=h ⟨k⟩
theorem GC {F:List HP} {b:Nat} {ak:Int} {l:List QE} {n:Int} {u:Value} {s:List bA} (k:bN F 15 u s.length (aj mc s)) (hs:s.length≤1000) :
    az prog 193 [.pointer (some ⟨b,0,none⟩),.int .i64 n,u] [kc b ak l] F (fun r L'=>r= .int .i64 (gC l n s)∧L'=[kc b ak (dO l n s)]):=by
  have hH:=fun F=>nU (F:=F) (b:=b) (ak:=ak) (l:=l) (n:=n);have hR:=fun F=>rz (F:=F) (b:=b) (ak:=ak) (l:=l) (n:=n);cases e:rG l n with
  |false=>
   have e1:gC l n s=5:=by simp [gC,e]
   have e2:dO l n s=l:=by simp [dO,e1]
   rw [e1,e2];rw [e] at hH;refine ay func193 ntmps193 ?_;repeat first|refine go ?_|intro _|refine ql ?_|refine av ?_|refine ae @hH ?_
   exact aM
  |true=>
   rw [e] at hH;cases er:fi l n with
   |false=>
    have e1:gC l n s=7:=by simp [gC,e,er]
    have e2:dO l n s=l:=by simp [dO,e1]
    rw [e1,e2];rw [er] at hR;refine ay func193 ntmps193 ?_;repeat first|refine go ?_|intro _|refine ql ?_|refine av ?_|refine ae @hH ?_|refine ae @hR ?_
    exact aM
   |true=>
    rw [er] at hR;by_cases hz:s.length=0
    ·have e1:gC l n s=7:=by simp [gC,e,er,hz]
     have e2:dO l n s=l:=by simp [dO,e1]
     rw [e1,e2];refine ay func193 ntmps193 ?_;repeat first|refine go ?_|intro _|refine ql ?_|refine av ?_|refine ae @hH ?_|refine ae @hR ?_
     exact aM
    ·have e1:gC l n s=0:=by simp [gC,e,er,hz]
     obtain ⟨i,hi,rfl,ea⟩:=p6 e;have e2:dO l i s=l.set i { l[i] with st:=true,aK:=s}:=by simp [dO,e1,ea]
     rw [e1,e2];refine ay func193 ntmps193 ?_;repeat first|refine go ?_|intro _|refine ae @hH ?_|refine ae @hR ?_
     (first|refine aD (kc b ak l) ?_|refine aE (kc b ak l) ?_|refine aF (kc b ak l) ?_);refine jY fun p c ps hf=>?_;obtain ⟨rfl,h1,h2,h3,wG⟩:=hf;have pT:i<ps.length:=by simpa using hi
     (first|(refine aX (.slice p ps.length c) inferInstance (om) ?_;intro _)|(refine aY (.slice p ps.length c) inferInstance (om) ?_;intro _));have G5:List.take 15 (List.drop 0 (qc ps[i]))=mc ps[i].1.m:=rfl;repeat first|refine go ?_|intro _|refine ql ?_|refine av ?_
     simp only [G5,Nat.zero_add,List.nil_append];repeat first|refine go ?_|intro _|refine ql ?_|refine av ?_
     rename_i ba p' c';have wi:=fun L M=>@D1 ps i pT ((⟨ps[i].1.m,true,s⟩:QE),(p',c')) 159 L M;(first|refine aD (aT 159 15 (.slice p' s.length c') s.length (aj mc s)) ?_|refine aE (aT 159 15 (.slice p' s.length c') s.length (aj mc s)) ?_|refine aF (aT 159 15 (.slice p' s.length c') s.length (aj mc s)) ?_);refine C4 fun I3=>?_;(apply ad rfl rfl ar)
     ·exact ⟨rfl,rfl⟩
     ·apply ed (ps:=ps.set i ((⟨ps[i].1.m,true,s⟩:QE),(p',c')))
      ·exact eb @wi
      ·rw [xd];simp
      ·simp
      ·exact mb (enc:=qc) (n:=17) (fun _=>rfl) ps i pT (by simp) rfl
      ·simpa using h1
      ·exact h2
      ·exact xe h3 ⟨I3,hs⟩
end
section
theorem QH {ps:List QP} {p:QP} (hp:p∈ps) (hn:0<p.1.aK.length) (hc:p.1.aK.length≤p.2.2) (L:List HP):bN (bZ (ps.map nr)::L) 15 (cut (LV p) (Int.toNat 1) p.1.aK.length p.2.2 15) (p.1.aK.drop 1).length (aj mc (p.1.aK.drop 1)):=by
  have k0:=xP hp (L:=L);have k:=bN.cut (l:=1) (h:=p.1.aK.length) (m:=p.2.2) k0 (om) (Nat.le_refl _) hc;have e:((aj mc p.1.aK).drop (1*15)).take ((p.1.aK.length-1)*15)=aj mc (p.1.aK.drop 1):=by
    rw [gn (enc:=mc) (n:=15) (fun _=>rfl),iY (enc:=mc) (n:=15) (fun _=>rfl),List.take_of_length_le (by simp)]
  rw [e] at k;rw [List.length_drop];exact k
attribute [local irreducible] Exit.then Exit.inBlock Code.wp WC WO WE WQ V aW dL Sat bz bK dU IntKind.wrap WR Code.rounds WT KO
theorem lp {Q P:Prop} (k:Q) (h:Hid Q→P:=by
  intro k
  first
  |(refine an ?_;refine bF (id:=7) .true (pl:= .p 0 <| .p 1 <| .p 2 <| .p 4 <| .r 3 <| .r 5 <| .p 6 <| .e true [(7,.done)]) k.out)):P:=h ⟨k⟩
theorem Ir {F:List HP} {b:Nat} {ak:Int} {l:List QE} {n:Int}:az prog 197 [.pointer (some ⟨b,0,none⟩),.int .i64 n] [kc b ak l] F (fun r L'=>r= .int .i64 (kR l n)∧L'=[kc b ak (ig l n)]):=by
  have hH:=fun F=>nU (F:=F) (b:=b) (ak:=ak) (l:=l) (n:=n);cases e:rG l n with
  |false=>
   have e1:kR l n=5:=by simp [kR,e]
   have e2:ig l n=l:=by simp [ig,e1]
   rw [e1,e2];rw [e] at hH;refine ay func197 ntmps197 ?_;repeat first|refine go ?_|intro _|refine lp ?_|refine av ?_|refine ae @hH ?_
   exact aM
  |true=>
   rw [e] at hH;obtain ⟨i,hi,rfl,ea⟩:=p6 e;by_cases hz:l[i].aK.length=0
   ·have e1:kR l i=7:=by simp [kR,e,ea,hz]
    have e2:ig l i=l:=by simp [ig,e1]
    rw [e1,e2];refine ay func197 ntmps197 ?_;repeat first|refine go ?_|intro _|refine ae @hH ?_
    (first|refine aD (kc b ak l) ?_|refine aE (kc b ak l) ?_|refine aF (kc b ak l) ?_);refine kn fun p c ps hf=>?_;obtain ⟨rfl,h1,h2,h3,wG⟩:=hf;have pT:i<ps.length:=by simpa using hi
    rw [List.getElem_map] at hz;repeat first|refine go ?_|intro _|refine lp ?_|refine av ?_
    (apply ad rfl rfl ar)
    ·exact ⟨rfl,rfl⟩
    ·exact eb @ed
   ·have e1:kR l i=0:=by simp [kR,e,ea,hz]
    have e2:ig l i=if l[i].aK.length=1∧l[i].m.ah=3 then l.eraseIdx i else l.set i { l[i] with aK:=l[i].aK.drop 1}:=by simp [ig,e1,ea]
    rw [e1,e2];refine ay func197 ntmps197 ?_;repeat first|refine go ?_|intro _|refine ae @hH ?_
    (first|refine aD (kc b ak l) ?_|refine aE (kc b ak l) ?_|refine aF (kc b ak l) ?_);refine kn fun p c ps hf=>?_;obtain ⟨rfl,h1,h2,h3,wG⟩:=hf;have pT:i<ps.length:=by simpa using hi
    rw [List.getElem_map] at hz ⊢;have zJ:=h3 _ (List.getElem_mem pT);haveI kr:=fun L=>QH (List.getElem_mem pT) (om) zJ.1 L;have Ut:(ps[i].1.aK.drop 1).length=ps[i].1.aK.length-1:=List.length_drop;(first|(refine aX (.slice p ps.length c) inferInstance (om) ?_;intro _)|(refine aY (.slice p ps.length c) inferInstance (om) ?_;intro _));repeat first|refine go ?_|intro _|refine lp ?_|refine av ?_
    refine xG (DS rfl (Ak.some rfl (om)) Ak.none Ak.none (fun h=>nomatch h) (om) (om) (om)) rfl ?_;repeat first|refine go ?_|intro _|refine lp ?_|refine av ?_
    simp only [Nat.zero_add,List.nil_append];rename_i be bn p' c';generalize hS:ps[i].1.aK.drop 1=S at Ut kr ⊢;(first|refine aD (aT 159 15 (.slice p' S.length c') S.length (aj mc S)) ?_|refine aE (aT 159 15 (.slice p' S.length c') S.length (aj mc S)) ?_|refine aF (aT 159 15 (.slice p' S.length c') S.length (aj mc S)) ?_);refine KD fun I3=>?_;have wi:=fun L M=>@D1 ps i pT ((⟨ps[i].1.m,ps[i].1.st,S⟩:QE),(p',c')) 159 L M;refine cy (L':=kc b ak ((ps.map (·.1)).set i ⟨ps[i].1.m,ps[i].1.st,S⟩)::ao be 205 (qc ((⟨ps[i].1.m,ps[i].1.st,S⟩:QE),(p',c')))::F) ?_ ?_
    ·apply ed (ps:=ps.set i ((⟨ps[i].1.m,ps[i].1.st,S⟩:QE),(p',c')))
     ·exact eb @wi
     ·rw [xd]
     ·simp
     ·exact mb (enc:=qc) (n:=17) (fun _=>rfl) ps i pT (by simp) rfl
     ·simpa using h1
     ·exact h2
     ·exact xe h3 ⟨I3,by show S.length≤1000;omega⟩
    by_cases hd:ps[i].1.aK.length=1∧ps[i].1.m.ah=3
    ·obtain ⟨PA,Vt⟩:=hd;rw [if_pos (show ps[i].1.aK.length=1∧ps[i].1.m.ah=3 from ⟨PA,Vt⟩)];have hO:=fun F=>Dg (F:=F) (b:=b) (ak:=ak) (l:=(ps.map (·.1)).set i ⟨ps[i].1.m,ps[i].1.st,S⟩) (k:=i) (by simpa using hi);repeat first|refine go ?_|intro _|refine lp ?_|refine av ?_|refine ae @hO ?_
     rw [List.eraseIdx_set_eq];exact aM
    ·rw [if_neg hd];by_cases PA:ps[i].1.aK.length=1
     ·have Vu:ps[i].1.m.ah≠3:=fun h=>hd ⟨PA,h⟩;repeat first|refine go ?_|intro _|refine lp ?_|refine av ?_
      exact aM
     ·repeat first|refine go ?_|intro _|refine lp ?_|refine av ?_
      exact aM
theorem EG {F:List HP} {b:Nat} {ak:Int} {l:List QE} {aa src:Int}:az prog 266 [.pointer (some ⟨b,0,none⟩),.int .i64 aa,.int .i64 src] [kc b ak l] F (fun r L'=>r= .int .i64 (rj l aa src)∧L'=[kc b ak (n9 l aa src)]):=by
  refine ay func266 ntmps266 ?_;repeat first|refine gd ?_|intro _
  apply aO (E0:=[(0,_),(1,_),(2,_)]) (fun E0 (j:Nat)=>(7,.int .i64 j)::E0) (fun _=>kc b ak l::F) (fun j=>j≤l.length∧∀ k (hk:k<l.length),k<j→iQ aa src l[k]=false) (fun j=>l.length-j) 0
  ·exact bH
  ·exact ⟨Nat.zero_le _,fun k hk h=>by omega⟩
  ·exact af
  ·rintro j ⟨hj,kQ⟩;refine jY fun p c ps hf=>?_;obtain ⟨rfl,h1,h2,h3,wG⟩:=hf;by_cases bB:j<(ps.map (·.1)).length
   ·have If:j<ps.length:=by simpa using bB
    have hg:(ps.map (·.1))[j]=ps[j].1:=by simp
    have next:iQ aa src ps[j].1=false→j+1≤(ps.map (·.1)).length∧∀ k (hk:k<(ps.map (·.1)).length),k<j+1→iQ aa src (ps.map (·.1))[k]=false:=fun hf=>⟨bB,fun k hk h=>by
      by_cases e:k=j
      ·subst e;rw [hg];exact hf
      ·exact kQ k hk (om)⟩
    cases g1:ps[j].1.st with
    |false=>
     repeat first|refine gd ?_|intro _
     refine aC (j+1) (om) (next (by simp [iQ,g1])) ?_ ?_
     ·exact bH
     ·exact eb @ed
    |true=>
     by_cases g4:ps[j].1.m.ah=3
     ·repeat first|refine gd ?_|intro _
      refine aC (j+1) (om) (next (by simp [iQ,g4])) ?_ ?_
      ·exact bH
      ·exact eb @ed
     ·by_cases g5:ps[j].1.aK.length=0
      ·by_cases g2:ps[j].1.m.aa=aa
       ·by_cases g3:ps[j].1.m.src=src
        ·have hi:bO (iQ aa src) (ps.map (·.1))=j:=eU bB (fun k hk h=>kQ k hk h) (by rw [hg];simp [iQ,g1,g2,g3,g4,g5]);have hO:=fun F=>Dg (F:=F) (b:=b) (ak:=ak) (l:=ps.map (·.1)) (k:=j) bB;have e1:rj (ps.map (·.1)) aa src=0:=by simp [rj,hi]
         have e2:n9 (ps.map (·.1)) aa src=(ps.map (·.1)).eraseIdx j:=by simp [n9,hi];intro h;omega
         rw [e1,e2];repeat first|refine gd ?_|intro _
         refine cy (L':=kc b ak (ps.map (·.1))::F) ?_ ?_
         ·exact eb @ed
         repeat first|refine gd ?_|intro _|refine ae @hO ?_
         exact aM
        ·repeat first|refine gd ?_|intro _
         refine aC (j+1) (om) (next (by simp [iQ,g3])) ?_ ?_
         ·exact bH
         ·exact eb @ed
       ·repeat first|refine gd ?_|intro _
        refine aC (j+1) (om) (next (by simp [iQ,g2])) ?_ ?_
        ·exact bH
        ·exact eb @ed
      ·repeat first|refine gd ?_|intro _
       refine aC (j+1) (om) (next (by simp [iQ,g5])) ?_ ?_
       ·exact bH
       ·exact eb @ed
   ·have If:¬j<ps.length:=by simpa using bB
    have hi:bO (iQ aa src) (ps.map (·.1))= -1:=dr fun k hk h=>kQ k hk (om);have e1:rj (ps.map (·.1)) aa src=7:=by simp [rj,hi]
    have e2:n9 (ps.map (·.1)) aa src=ps.map (·.1):=by simp [n9,hi]
    rw [e1,e2];repeat first|refine gd ?_|intro _
    (apply ad rfl rfl ar)
    ·exact ⟨rfl,rfl⟩
    ·exact eb @ed
end
end Go.Sx
