/- CoreR: several of my texts as one. My own work. -/
import Derived.Test.YtjihlpjnebdiiabGreatZak
import Derived.Test.YtjihlpjnebdiiabGreatZal
set_option linter.unusedVariables false
set_option linter.unusedSectionVars false
set_option linter.unusedSimpArgs false
set_option maxRecDepth 100000
set_option maxHeartbeats 4000000
namespace Go.Sx
open Go Go.Proofs Tryz
section
def iL (b:Nat) (l:List c5) (rs td:List Int):HP:=
  Ex fun q:(Option Addr×Nat)×(Option Addr×Nat)×(Option Addr×Nat)=>[ao b 287 [.slice q.1.1 l.length q.1.2,.slice q.2.1.1 rs.length q.2.1.2,.slice q.2.2.1 td.length q.2.2.2],aT 74 3 (.slice q.1.1 l.length q.1.2) l.length (aj oc l),aT 3 1 (.slice q.2.1.1 rs.length q.2.1.2) rs.length (aj ic rs),aT 3 1 (.slice q.2.2.1 td.length q.2.2.2) td.length (aj ic td),ja (rs.length≤l.length∧l.length≤64∧td.length≤4096)]
theorem ku {b n1 n2 n3:Nat} {l:List c5} {rs td:List Int} {p1 p2 p3:Option Addr} {c1 c2 c3:Nat} {xs ys zs:List Value} {L M:List HP}
    (h:ai L (ao b 287 [.slice p1 n1 c1,.slice p2 n2 c2,.slice p3 n3 c3]::aT 74 3 (.slice p1 n1 c1) n1 xs::aT 3 1 (.slice p2 n2 c2) n2 ys::aT 3 1 (.slice p3 n3 c3) n3 zs::M)) (wS:n1=l.length) (qJ:n2=rs.length) (hn3:n3=td.length) (hx:xs=aj oc l) (hy:ys=aj ic rs) (hz:zs=aj ic td) (hl:rs.length≤l.length∧l.length≤64∧td.length≤4096):ai L (iL b l rs td::M):=by
  subst wS qJ hn3 hx hy hz;refine ai.trans h (ai.trans ?_ (fU (p:=fun q:(Option Addr×Nat)×(Option Addr×Nat)×(Option Addr×Nat)=>[ao b 287 [.slice q.1.1 l.length q.1.2,.slice q.2.1.1 rs.length q.2.1.2,.slice q.2.2.1 td.length q.2.2.2],aT 74 3 (.slice q.1.1 l.length q.1.2) l.length (aj oc l),aT 3 1 (.slice q.2.1.1 rs.length q.2.1.2) rs.length (aj ic rs),aT 3 1 (.slice q.2.2.1 td.length q.2.2.2) td.length (aj ic td),ja (rs.length≤l.length∧l.length≤64∧td.length≤4096)]) ((p1,c1),(p2,c2),(p3,c3))));exact ai.cons (ai.cons (ai.cons (ai.cons (cX hl))))
theorem yC {b:Nat} {l:List c5} {rs td:List Int} {L:List HP} {w:World} (h:Sat (iL b l rs td::L) w):(rs.length≤l.length∧l.length≤64∧td.length≤4096)∧
    ∃ p1 c1 p2 c2 p3 c3,Sat (ao b 287 [.slice p1 l.length c1,.slice p2 rs.length c2,.slice p3 td.length c3]::aT 74 3 (.slice p1 l.length c1) l.length (aj oc l)::aT 3 1 (.slice p2 rs.length c2) rs.length (aj ic rs)::aT 3 1 (.slice p3 td.length c3) td.length (aj ic td)::L) w:=by
  obtain ⟨⟨⟨p1,c1⟩,⟨p2,c2⟩,⟨p3,c3⟩⟩,hx⟩:=eN h;simp only [eX] at hx;have hf:=fc (aG (aG (aG (aG hx))));exact ⟨hf,p1,c1,p2,c2,p3,c3,(ai.cons (ai.cons (ai.cons (ai.cons (ai.drop ai.refl))))) _ hx⟩
theorem qo {b:Nat} {l:List c5} {rs td:List Int} {P:Program} {N:Nat} {c:Code} {env:Env} {L:List HP} {Q:Exit→Act→World→Prop}
    (h:∀ p1 c1 p2 c2 p3 c3,(rs.length≤l.length∧l.length≤64∧td.length≤4096)→WC P N c env (ao b 287 [.slice p1 l.length c1,.slice p2 rs.length c2,.slice p3 td.length c3]::aT 74 3 (.slice p1 l.length c1) l.length (aj oc l)::aT 3 1 (.slice p2 rs.length c2) rs.length (aj ic rs)::aT 3 1 (.slice p3 td.length c3) td.length (aj ic td)::L) Q):WC P N c env (iL b l rs td::L) Q:=by
  intro a w ha hw;obtain ⟨hf,p1,c1,p2,c2,p3,c3,hx⟩:=yC hw;exact h p1 c1 p2 c2 p3 c3 hf a w ha hx
theorem GK {b:Nat} {l:List c5} {rs td:List Int} {P:Program} {N:Nat} {all:Array Oper} {c:List Oper} {env:Env} {L:List HP} {Q:Exit→Act→World→Prop}
    (h:∀ p1 c1 p2 c2 p3 c3,(rs.length≤l.length∧l.length≤64∧td.length≤4096)→WO P N all c env (ao b 287 [.slice p1 l.length c1,.slice p2 rs.length c2,.slice p3 td.length c3]::aT 74 3 (.slice p1 l.length c1) l.length (aj oc l)::aT 3 1 (.slice p2 rs.length c2) rs.length (aj ic rs)::aT 3 1 (.slice p3 td.length c3) td.length (aj ic td)::L) Q):WO P N all c env (iL b l rs td::L) Q:=by
  intro a w ha hw;obtain ⟨hf,p1,c1,p2,c2,p3,c3,hx⟩:=yC hw;exact h p1 c1 p2 c2 p3 c3 hf a w ha hx
attribute [local irreducible] Exit.then Exit.inBlock Code.wp WC WO WE WQ V aW dL Sat bz bK dU IntKind.wrap WR Code.rounds WT KO
theorem BD {F:List HP} {c:au} (hc:c.wf) {l:List c5} {v:Value} (k:bN F 3 v l.length (aj oc l)) (hn:l.length≤1099511627776):az prog 113 [c.val,v] [] F (fun r L'=>r= .bool (fl c l)∧L'=[]):=by
  refine ay func113 ntmps113 ?_;repeat first|refine gd ?_|intro _|refine ae (eC (c:=c)) ?_
  cases e:aB c with
  |false=>
   have e1:cF c=1:=by simp [cF,e]
   repeat first|refine gd ?_|intro _
   (apply ad rfl rfl ar;(first|exact cS|exact ⟨by simp [fl,e]<;>omega,rfl⟩);exact bM)
  |true=>
   have e1:cF c=0:=by simp [cF,e]
   have hw:=dR e;have hm:=tL (m:=8) (n:=1024) (a:=c.ag) (b:=c.aZ) (om) (om) (om) (om) (om);have hS:eh c=c.ag*c.aZ:=by simp [eh,e]
   by_cases Sl:64<l.length
   ·repeat first|refine gd ?_|intro _
    (apply ad rfl rfl ar;(first|exact cS|exact ⟨by simp [fl,e,Sl]<;>omega,rfl⟩);exact bM)
   ·repeat first|refine gd ?_|intro _
    rename_i bc;apply aO (E0:=[(1,_),(2,_)]) (fun E0 (j:Nat)=>(5,.int .i64 j)::E0) (fun _=>ao bc 25 c.cells::F) (fun j=>j≤l.length∧∀ i (h:i<l.length),i<j→(k8 l[i]&& decide (l[i].addr<eh c))=true) (fun j=>l.length-j) 0
    ·exact bH
    ·exact ⟨Nat.zero_le _,fun i h hi=>by omega⟩
    ·exact af
    ·rintro j ⟨hj,kQ⟩;by_cases bB:j<l.length
     ·have hM:=fun F=>Df (F:=F) (x:=l[j]);cases hm:k8 l[j] with
      |false=>
       have hf:fl c l=false:=by
         have:(l.all fun x=>k8 x&& decide (x.addr<eh c))=false:=by
           rw [List.all_eq_false];exact ⟨_,List.getElem_mem bB,by simp [hm]⟩
         simp [fl,this]
       simp only [hm] at hM;repeat first|refine gd ?_|intro _|refine ae @hM ?_
       (apply ad rfl rfl ar;(first|exact cS|exact ⟨by simp [hf]<;>omega,rfl⟩);exact bM)
      |true=>
       simp only [hm] at hM;by_cases hs:l[j].addr<c.ag*c.aZ
       ·repeat first|refine gd ?_|intro _|refine ae @hM ?_
        refine aC (j+1) (om) ⟨om,fun i h hi=>?_⟩ ?_ ?_
        ·by_cases e:i=j
         ·subst e;simp [hm,hs,hS]
         ·exact kQ i h (om)
        ·exact bH
        ·exact af
       ·have hf:fl c l=false:=by
          have:(l.all fun x=>k8 x&& decide (x.addr<eh c))=false:=by
            rw [List.all_eq_false];exact ⟨_,List.getElem_mem bB,by rw [hS];simp [hs]⟩
          simp [fl,this]
        repeat first|refine gd ?_|intro _|refine ae @hM ?_
        (apply ad rfl rfl ar;(first|exact cS|exact ⟨by simp [hf]<;>omega,rfl⟩);exact bM)
     ·have ha:(l.all fun x=>k8 x&& decide (x.addr<eh c))=true:=by
        rw [List.all_eq_true];intro x hx;obtain ⟨i,hi,rfl⟩:=List.getElem_of_mem hx;exact kQ i hi (om)
      repeat first|refine gd ?_|intro _
      (apply ad rfl rfl ar;(first|exact cS|exact ⟨by simp [fl,e,ha,Sl]<;>omega,rfl⟩);exact bM)
theorem Li {F:List HP} {c:au} (hc:c.wf) {l:List c5} {v:Value} (k:bN F 3 v l.length (aj oc l)) (hn:l.length≤1099511627776) (h:fl c l=true) :
    az prog 87 [c.val,v] [] F (fun r L'=>∃ b,r= .tuple [.pointer (some ⟨b,0,none⟩),.int .i64 0].toArray∧L'=[iL b l [] []]):=by
  have hP:=fun F k=>BD (F:=F) (c:=c) hc (l:=l) (v:=v) k hn;simp only [h] at hP;have hl:=tW h;refine ay func87 ntmps87 ?_;repeat first|refine gd ?_|intro _|refine ae @hP ?_
  (apply ad rfl rfl ar)
  ·exact ⟨_,rfl,rfl⟩
  ·apply ku (rs:=[]) (td:=[]) (p2:=none) (c2:=0) (n2:=0) (ys:=[]) (p3:=none) (c3:=0) (n3:=0) (zs:=[])
   ·refine ai.trans (aI (e:=3) (sz:=1) (p:=none) (aI (e:=3) (sz:=1) (p:=none) ai.refl)) ?_;(focus (exact af;done))
   ·simp
   ·rfl
   ·rfl
   ·simp
   ·rfl
   ·rfl
   ·exact ⟨Nat.zero_le _,hl,Nat.zero_le _⟩
theorem EI {F:List HP} {c:au} (hc:c.wf) {l:List c5} {v:Value} (k:bN F 3 v l.length (aj oc l)) (hn:l.length≤1099511627776) (h:fl c l=false) :
    az prog 87 [c.val,v] [] F (fun r L'=>r= .tuple [.pointer none,.int .i64 1].toArray∧L'=[]):=by
  have hP:=fun F k=>BD (F:=F) (c:=c) hc (l:=l) (v:=v) k hn;simp only [h] at hP;refine ay func87 ntmps87 ?_;repeat first|refine gd ?_|intro _|refine ae @hP ?_
  exact aM
theorem xF {Q P:Prop} (k:Q) (h:Hid Q→P:=by
  intro k
  first
  |(refine an ?_;refine bF (id:=3) .true (pl:= .p 0 <| .p 1 <| .p 2 <| .p 4 <| .p 5 <| .p 6 <| .r 3 <| .r 7 <| .p 8 <| .p 9 <| .r 10 <| .e true [(11,.p 12 <| .done)]) k.out)):P:=h ⟨k⟩
theorem IA {F:List HP} {b:Nat} {l:List c5} {rs td:List Int}:az prog 180 [.pointer (some ⟨b,0,none⟩)] [iL b l rs td] F (fun r L'=>r= .tuple [ov (kC l rs),.bool (kY l rs)].toArray∧L'=[iL b l rs td]):=by
  refine ay func180 ntmps180 ?_;refine qo fun p1 c1 p2 c2 p3 c3 hl=>?_;by_cases h:rs.length=l.length
  ·repeat first|refine go ?_|intro _|refine xF ?_|refine av ?_
   (apply ad rfl rfl ar)
   ·exact ⟨by simp [kC,kY,h],rfl⟩
   ·exact eb @ku
  ·have bB:rs.length<l.length:=by omega
   (first|(refine aX (.slice p1 l.length c1) inferInstance (om) ?_;intro _)|(refine aY (.slice p1 l.length c1) inferInstance (om) ?_;intro _));repeat first|refine go ?_|intro _|refine xF ?_|refine av ?_
   (apply ad rfl rfl ar)
   ·exact ⟨by simp [kC,kY,h,bB],rfl⟩
   ·exact eb @ku
theorem EJ {F:List HP} {b:Nat} {l:List c5} {rs td:List Int} {n:Int} (h:¬rs.length=l.length):az prog 261 [.pointer (some ⟨b,0,none⟩),.int .i64 n] [iL b l rs td] F
    (fun r L'=>r= .tuple [.int .i64 rs.length,.int .i64 0].toArray∧L'=[iL b l (rs++[n]) td]):=by
  refine ay func261 ntmps261 ?_;refine qo fun p1 c1 p2 c2 p3 c3 hl=>?_;repeat first|refine gd ?_|intro _
  (apply ad rfl rfl ar)
  ·exact ⟨by first|(simp;done)|(simp;omega),rfl⟩
  ·exact eb @ku
def ie (l:List c5) (rs td:List Int) (d:Int):Bool:=gD l rs d&& !decide (((rs.length:Int)+d)∈td)
def pc (l:List c5) (rs td:List Int) (d:Int):c5:=if ie l rs td d then l.getD ((rs.length:Int)+d).toNat .zero else .zero
theorem kg {Q P:Prop} (k:Q) (h:Hid Q→P:=by
  intro k
  first
  |(refine an ?_;refine bF (id:=3) .true (pl:= .p 0 <| .p 1 <| .p 2 <| .p 4 <| .p 5 <| .p 6 <| .p 9 <| .r 3 <| .r 7 <| .p 8 <| .p 10 <| .p 11 <| .r 12 <| .e true [(13,.e true [(14,.done)])]) k.out)):P:=h ⟨k⟩
theorem zy {F:List HP} {b:Nat} {l:List c5} {rs td:List Int} {d:Int}:az prog 95 [.pointer (some ⟨b,0,none⟩),.int .i64 d] [iL b l rs td] F
    (fun r L'=>r= .tuple [ov (pc l rs td d),.bool (ie l rs td d)].toArray∧L'=[iL b l rs td]):=by
  refine ay func95 ntmps95 ?_;refine qo fun p1 c1 p2 c2 p3 c3 hl=>?_;by_cases h1:d<1
  ·have e:ie l rs td d=false:=by simp [ie,gD];omega
   repeat first|refine go ?_|intro _|refine kg ?_|refine av ?_
   (apply ad rfl rfl ar)
   ·exact ⟨by simp [pc,e],rfl⟩
   ·exact eb @ku
  ·by_cases h2:4<d
   ·have e:ie l rs td d=false:=by simp [ie,gD];omega
    repeat first|refine go ?_|intro _|refine kg ?_|refine av ?_
    (apply ad rfl rfl ar)
    ·exact ⟨by simp [pc,e],rfl⟩
    ·exact eb @ku
   ·by_cases h3:(l.length:Int)≤(rs.length:Int)+d
    ·have e:ie l rs td d=false:=by simp [ie,gD];omega
     repeat first|refine go ?_|intro _|refine kg ?_|refine av ?_
     (apply ad rfl rfl ar)
     ·exact ⟨by simp [pc,e],rfl⟩
     ·exact eb @ku
    ·have bB:((rs.length:Int)+d).toNat<l.length:=by omega
     have hg:l.getD ((rs.length:Int)+d).toNat .zero=l[((rs.length:Int)+d).toNat]:=by simp [bB]
     (first|(refine aX (.slice p1 l.length c1) inferInstance (om) ?_;intro _)|(refine aY (.slice p1 l.length c1) inferInstance (om) ?_;intro _));repeat first|refine go ?_|intro _|refine kg ?_|refine av ?_
     rename_i b4 bx
     apply aO (E0:=[(0,_),(1,_),(4,_),(6,_)]) (fun E0 (j:Nat)=>(7,.int .i64 j)::E0) (fun _=>ao bx 74 (oc l[((rs.length:Int)+d).toNat])::ao b4 74 (oc c5.zero)::ao b 287 [.slice p1 l.length c1,.slice p2 rs.length c2,.slice p3 td.length c3]::aT 74 3 (.slice p1 l.length c1) l.length (aj oc l)::aT 3 1 (.slice p2 rs.length c2) rs.length (aj ic rs)::aT 3 1 (.slice p3 td.length c3) td.length (aj ic td)::F)
       (fun j=>j≤td.length∧∀ i (h:i<td.length),i<j→td[i]≠(rs.length:Int)+d) (fun j=>td.length-j) 0
     ·exact bH
     ·exact ⟨Nat.zero_le _,fun i h hi=>by omega⟩
     ·exact af
     ·rintro j ⟨hj,kQ⟩;by_cases rq:j<td.length
      ·(first|(refine aX (.slice p3 td.length c3) inferInstance (om) ?_;intro _)|(refine aY (.slice p3 td.length c3) inferInstance (om) ?_;intro _));by_cases he:td[j]=(rs.length:Int)+d
       ·have e:ie l rs td d=false:=by
          have:(rs.length:Int)+d∈td:=by rw [←he];exact List.getElem_mem rq
          simp [ie,this]
        repeat first|refine go ?_|intro _|refine kg ?_|refine av ?_
        (apply ad rfl rfl ar)
        ·exact ⟨by simp [pc,e],rfl⟩
        ·exact eb @ku
       ·repeat first|refine go ?_|intro _|refine kg ?_|refine av ?_
        refine aC (j+1) (om) ⟨om,fun i h hi=>?_⟩ ?_ ?_
        ·by_cases e:i=j
         ·subst e;exact he
         ·exact kQ i h (om)
        ·exact bH
        ·exact af
      ·have hn:¬(rs.length:Int)+d∈td:=by
         intro hm;obtain ⟨i,hi,e⟩:=List.getElem_of_mem hm;exact kQ i hi (om) e
       by_cases h4:l[((rs.length:Int)+d).toNat].ah=4
       ·have e:ie l rs td d=false:=by simp only [ie,gD,hg,h4];simp
        repeat first|refine go ?_|intro _|refine kg ?_|refine av ?_
        (apply ad rfl rfl ar)
        ·exact ⟨by simp [pc,e],rfl⟩
        ·exact eb @ku
       ·have e:ie l rs td d=true:=by simp only [ie,gD,hg,h4,hn];simp;omega
        repeat first|refine go ?_|intro _|refine kg ?_|refine av ?_
        (apply ad rfl rfl ar)
        ·exact ⟨by simp only [pc,e,if_true,hg];rfl,rfl⟩
        ·exact eb @ku
theorem GL {Q P:Prop} (k:Q) (h:Hid Q→P:=by
  intro k
  first
  |(refine an ?_;refine bF (id:=4) .false (pl:= .p 0 <| .p 2 <| .p 3 <| .p 4 <| .p 7 <| .p 8 <| .p 9 <| .p 12 <| .r 5 <| .r 10 <| .p 11 <| .p 13 <| .e true [(1,.e true [(6,.e true [(14,.e true [(15,.p 16 <| .p 17 <| .e true [(18,.done)])])]),(14,.e true [(6,.e true [(15,.p 16 <| .p 17 <| .e true [(18,.done)])])])]),(14,.e true [(1,.e true [(6,.e true [(15,.p 16 <| .p 17 <| .e true [(18,.done)])])])])]) k.out)):P:=h ⟨k⟩
theorem Lj {F:List HP} {b:Nat} {l:List c5} {rs td:List Int} {d:Int} (h:ie l rs td d=true) (ht:td.length≤1000):az prog 98 [.pointer (some ⟨b,0,none⟩),.int .i64 d] [iL b l rs td] F
    (fun r L'=>r= .int .i64 0∧L'=[iL b l rs (td++[(rs.length:Int)+d])]):=by
  have hA:=fun F=>zy (F:=F) (b:=b) (l:=l) (rs:=rs) (td:=td) (d:=d);simp only [h] at hA;have hI:1≤d∧d≤4∧(rs.length:Int)+d<l.length:=by simp [ie,gD] at h;omega
  refine ay func98 ntmps98 ?_;repeat first|refine go ?_|intro _|refine ae @hA ?_
  (first|refine aD (iL b l rs td) ?_|refine aE (iL b l rs td) ?_|refine aF (iL b l rs td) ?_);first|refine qo fun p1 c1 p2 c2 p3 c3 hl=>?_|refine GK fun p1 c1 p2 c2 p3 c3 hl=>?_
  repeat' (first|refine go ?_|intro _|refine GL ?_|refine av ?_|refine bj ?_ ?_|fail)
  all_goals (apply ad rfl rfl (by (repeat (first|exact lr.nil|(apply lr.tmp;rfl)))))
  all_goals first|exact ⟨rfl,rfl⟩|(exact eb @ku)
end
end Go.Sx
