/- Msg2, SlI, Shr, ShrR, ShrLaw, ShrTells: several of my texts as one. My own work. -/
import Derived.Test.YtjihlpjnebdiiabGreatZaa
import Derived.Test.YtjihlpjnebdiiabGreatZab
set_option linter.unusedVariables false
set_option linter.unusedSectionVars false
set_option linter.unusedSimpArgs false
set_option maxRecDepth 100000
set_option maxHeartbeats 4000000
namespace Go.Sx
open Go Go.Proofs Tryz
section
attribute [local irreducible] Exit.then Exit.inBlock Code.wp WC WO WE WQ V aW dL Sat bz bK dU IntKind.wrap WR Code.rounds WT KO
theorem Bl {F:List HP} {c:au} {m:bA}:az prog 393 [c.val,mv m] [] F (fun r L'=>r= .bool (decide (cG c m.ag))∧L'=[]):=by
  refine ay func393 ntmps393 ?_;repeat first|refine gd ?_|intro _
  rename_i bs bm;apply aO (E0:=[(2,_),(8,_)]) (fun E0 (i:Nat)=>(9,.int .i64 i)::E0) (fun _=>ao bm 159 (mc m)::ao bs 25 c.cells::F) (fun i=>i≤8∧∀ j,j<i→oC c m.ag j) (fun i=>8-i) 0
  ·exact bH
  ·exact ⟨om,fun j hj=>by omega⟩
  ·exact af
  ·rintro i ⟨hi,cO⟩;by_cases bB:i<8
   ·have jR:i=0∨i=1∨i=2∨i=3∨i=4∨i=5∨i=6∨i=7:=by omega
    rcases jR with rfl|rfl|rfl|rfl|rfl|rfl|rfl|rfl
    ·have ho:oC c m.ag 0↔(-2147483648≤m.ag.w0∧m.ag.w0≤2147483647∧(c.ag≤0→m.ag.w0=0)):=Iff.rfl;have hn:¬oC c m.ag 0→¬cG c m.ag:=fun h hv=>h (hv 0 (om));repeat' (first|refine gd ?_|intro _|refine bj ?_ ?_|fail)
     all_goals first
     |(have dC:=hn (fun h=>by have:=ho.1 h;omega)
       (apply ad rfl rfl ar;(first|exact cS|exact ⟨by simp [dC]<;>omega,rfl⟩);exact bM))
     |(have oD:=ho.2 (om)
       refine aC 1 (om) ⟨om,fun j hj=>?_⟩ ?_ ?_
       ·by_cases rq:j=0
        ·subst rq;exact oD
        ·exact cO j (om)
       ·exact bH
       ·exact af)
    ·have ho:oC c m.ag 1↔(-2147483648≤m.ag.w1∧m.ag.w1≤2147483647∧(c.ag≤1→m.ag.w1=0)):=Iff.rfl;have hn:¬oC c m.ag 1→¬cG c m.ag:=fun h hv=>h (hv 1 (om));repeat' (first|refine gd ?_|intro _|refine bj ?_ ?_|fail)
     all_goals first
     |(have dC:=hn (fun h=>by have:=ho.1 h;omega)
       (apply ad rfl rfl ar;(first|exact cS|exact ⟨by simp [dC]<;>omega,rfl⟩);exact bM))
     |(have oD:=ho.2 (om)
       refine aC 2 (om) ⟨om,fun j hj=>?_⟩ ?_ ?_
       ·by_cases rq:j=1
        ·subst rq;exact oD
        ·exact cO j (om)
       ·exact bH
       ·exact af)
    ·have ho:oC c m.ag 2↔(-2147483648≤m.ag.w2∧m.ag.w2≤2147483647∧(c.ag≤2→m.ag.w2=0)):=Iff.rfl;have hn:¬oC c m.ag 2→¬cG c m.ag:=fun h hv=>h (hv 2 (om));repeat' (first|refine gd ?_|intro _|refine bj ?_ ?_|fail)
     all_goals first
     |(have dC:=hn (fun h=>by have:=ho.1 h;omega)
       (apply ad rfl rfl ar;(first|exact cS|exact ⟨by simp [dC]<;>omega,rfl⟩);exact bM))
     |(have oD:=ho.2 (om)
       refine aC 3 (om) ⟨om,fun j hj=>?_⟩ ?_ ?_
       ·by_cases rq:j=2
        ·subst rq;exact oD
        ·exact cO j (om)
       ·exact bH
       ·exact af)
    ·have ho:oC c m.ag 3↔(-2147483648≤m.ag.w3∧m.ag.w3≤2147483647∧(c.ag≤3→m.ag.w3=0)):=Iff.rfl;have hn:¬oC c m.ag 3→¬cG c m.ag:=fun h hv=>h (hv 3 (om));repeat' (first|refine gd ?_|intro _|refine bj ?_ ?_|fail)
     all_goals first
     |(have dC:=hn (fun h=>by have:=ho.1 h;omega)
       (apply ad rfl rfl ar;(first|exact cS|exact ⟨by simp [dC]<;>omega,rfl⟩);exact bM))
     |(have oD:=ho.2 (om)
       refine aC 4 (om) ⟨om,fun j hj=>?_⟩ ?_ ?_
       ·by_cases rq:j=3
        ·subst rq;exact oD
        ·exact cO j (om)
       ·exact bH
       ·exact af)
    ·have ho:oC c m.ag 4↔(-2147483648≤m.ag.w4∧m.ag.w4≤2147483647∧(c.ag≤4→m.ag.w4=0)):=Iff.rfl;have hn:¬oC c m.ag 4→¬cG c m.ag:=fun h hv=>h (hv 4 (om));repeat' (first|refine gd ?_|intro _|refine bj ?_ ?_|fail)
     all_goals first
     |(have dC:=hn (fun h=>by have:=ho.1 h;omega)
       (apply ad rfl rfl ar;(first|exact cS|exact ⟨by simp [dC]<;>omega,rfl⟩);exact bM))
     |(have oD:=ho.2 (om)
       refine aC 5 (om) ⟨om,fun j hj=>?_⟩ ?_ ?_
       ·by_cases rq:j=4
        ·subst rq;exact oD
        ·exact cO j (om)
       ·exact bH
       ·exact af)
    ·have ho:oC c m.ag 5↔(-2147483648≤m.ag.w5∧m.ag.w5≤2147483647∧(c.ag≤5→m.ag.w5=0)):=Iff.rfl;have hn:¬oC c m.ag 5→¬cG c m.ag:=fun h hv=>h (hv 5 (om));repeat' (first|refine gd ?_|intro _|refine bj ?_ ?_|fail)
     all_goals first
     |(have dC:=hn (fun h=>by have:=ho.1 h;omega)
       (apply ad rfl rfl ar;(first|exact cS|exact ⟨by simp [dC]<;>omega,rfl⟩);exact bM))
     |(have oD:=ho.2 (om)
       refine aC 6 (om) ⟨om,fun j hj=>?_⟩ ?_ ?_
       ·by_cases rq:j=5
        ·subst rq;exact oD
        ·exact cO j (om)
       ·exact bH
       ·exact af)
    ·have ho:oC c m.ag 6↔(-2147483648≤m.ag.w6∧m.ag.w6≤2147483647∧(c.ag≤6→m.ag.w6=0)):=Iff.rfl;have hn:¬oC c m.ag 6→¬cG c m.ag:=fun h hv=>h (hv 6 (om));repeat' (first|refine gd ?_|intro _|refine bj ?_ ?_|fail)
     all_goals first
     |(have dC:=hn (fun h=>by have:=ho.1 h;omega)
       (apply ad rfl rfl ar;(first|exact cS|exact ⟨by simp [dC]<;>omega,rfl⟩);exact bM))
     |(have oD:=ho.2 (om)
       refine aC 7 (om) ⟨om,fun j hj=>?_⟩ ?_ ?_
       ·by_cases rq:j=6
        ·subst rq;exact oD
        ·exact cO j (om)
       ·exact bH
       ·exact af)
    ·have ho:oC c m.ag 7↔(-2147483648≤m.ag.w7∧m.ag.w7≤2147483647∧(c.ag≤7→m.ag.w7=0)):=Iff.rfl;have hn:¬oC c m.ag 7→¬cG c m.ag:=fun h hv=>h (hv 7 (om));repeat' (first|refine gd ?_|intro _|refine bj ?_ ?_|fail)
     all_goals first
     |(have dC:=hn (fun h=>by have:=ho.1 h;omega)
       (apply ad rfl rfl ar;(first|exact cS|exact ⟨by simp [dC]<;>omega,rfl⟩);exact bM))
     |(have oD:=ho.2 (om)
       refine aC 8 (om) ⟨om,fun j hj=>?_⟩ ?_ ?_
       ·by_cases rq:j=7
        ·subst rq;exact oD
        ·exact cO j (om)
       ·exact bH
       ·exact af)
   ·have yI:i=8:=by omega
    subst yI;have hv:cG c m.ag:=cO;repeat first|refine gd ?_|intro _
    (apply ad rfl rfl ar;(first|exact cS|exact ⟨by simp [hv]<;>omega,rfl⟩);exact bM)
theorem Bm {F:List HP} {c:au} {m:bA}:az prog 392 [.agg #[],c.val,mv m] [] F (fun r L'=>r= .bool (decide (cG c m.ag))∧L'=[]):=by
  refine ay func392 ntmps392 ?_;repeat first|refine gd ?_|intro _|refine ae @Bl ?_
  exact aM
theorem Bn {F:List HP} {c:au} {m:bA}:az prog 397 [.agg #[],c.val,mv m] [] F (fun r L'=>r= .bool (decide (cG c m.ag))∧L'=[]):=by
  refine ay func397 ntmps397 ?_;repeat first|refine gd ?_|intro _|refine ae @Bl ?_
  exact aM
def ri (k:Int):Value:=
  if k=3 then .iface 416 (.agg #[]) else if k=1∨k=2∨k=11 then .iface 414 (.agg #[]) else if k=4∨k=6 then .iface 418 (.agg #[.bool false]) else if k=5 then .iface 418 (.agg #[.bool true])
  else if k=7 then .iface 419 (.agg #[]) else if k=8 then .iface 420 (.agg #[.bool true]) else if k=10 then .iface 420 (.agg #[.bool false]) else .iface 421 (.agg #[])
theorem Ib {F:List HP} {k:Int}:az prog 329 [.int .i64 k] [] F (fun r L'=>r=ri k∧L'=[]):=by
  refine ay func329 ntmps329 ?_;repeat' (first|refine gd ?_|intro _|refine str ?_|refine bj ?_ ?_|fail)
  all_goals ((apply ad rfl rfl ar);(refine ⟨?_,rfl⟩;unfold ri;repeat (first|rfl|(rw [if_pos (om)])|(rw [if_neg (om)])));exact af)
end
section
def sL (l:List Int) (t:Int):Nat:=(l.takeWhile fun x=>decide (x<t)).length
theorem Mx {t:Int}:∀ {l:List Int} {i:Nat},i≤l.length→(∀ k (hk:k<l.length),k<i→l[k]<t)→(∀ k (hk:k<l.length),i≤k→t≤l[k])→sL l t=i
  | [],i,hi,_,_=>by simp at hi;subst hi;rfl
  |a::r,0,_,_,h2=>by
   have:=h2 0 (by simp) (Nat.le_refl _)
   simp at this;have hn:¬a<t:=by omega
   simp [sL,hn]
  |a::r,i+1,hi,h1,h2=>by
   have h0:=h1 0 (by simp) (om);simp at h0;have ih:=Mx (t:=t) (l:=r) (i:=i) (by simpa using hi) (fun k hk I5=>h1 (k+1) (by simpa using hk) (om)) (fun k hk I5=>h2 (k+1) (by simpa using hk) (om));unfold sL at ih ⊢;simp [h0,ih]
theorem My (l:List Int) (t:Int):sL l t≤l.length:=by
  unfold sL;exact (List.takeWhile_sublist (fun x=>decide (x<t)) (l:=l)).length_le
theorem Kz {T:TypeId} {sz n c:Nat} {p:Option Addr} {xs:List Value} {P:Program} {N:Nat} {o:Code} {env:Env} {L:List HP} {Q:Exit→Act→World→Prop} (h:n≤c→WC P N o env (aT T sz (.slice p n c) n xs::L) Q):WC P N o env (aT T sz (.slice p n c) n xs::L) Q:=
  fun a w ha hw=>h (by
    rcases (qO hw).2.2 with ⟨q,h1,h2⟩|⟨g,cap,pd,h1,_,h3,_⟩
    ·omega
    ·cases h1;exact h3) a w ha hw
theorem half {i j:Nat} (h:i+j≤100000):IntKind.i64.wrap ((IntKind.u64.wrap ((i:Int)+j)).fdiv (2^min (Int.toNat 1) IntKind.u64.bits))=(((i+j) / 2:Nat):Int):=by
  have e1:IntKind.u64.wrap ((i:Int)+j)=(i:Int)+j:=by simp [IntKind.wrap,IntKind.bits,IntKind.signed];omega
  have e2:(2:Int)^min (Int.toNat 1) IntKind.u64.bits=2:=rfl;rw [e1,e2,Int.fdiv_eq_ediv_of_nonneg _ (om),k9 (om) (om)];omega
theorem Av (l:List Int):(aj ic l).all one=true:=by
  induction l with
  |nil=>rfl
  |cons a r ih=>simp [aj,one]
theorem S4 {e:TypeId} {sz:Nat} {v:Value} {n:Nat} {xs:List Value} {P:Program} {N:Nat} {all:Array Oper} {c:List Oper} {env:Env} {L:List HP} {Q:Exit→Act→World→Prop} (h0:xs.length=n*sz→xs.all one=true→∀ p,v= .slice p 0 0→n=0→xs=[]→WO P N all c env (aT e sz v n xs::L) Q)
    (h1:xs.length=n*sz→xs.all one=true→∀ g cap spare,v= .slice (some ⟨g,0,none⟩) n cap→n≤cap→cap≤maxLen→spare.length=(cap-n)*sz→WO P N all c env (ao g e (xs++spare)::L) Q):WO P N all c env (aT e sz v n xs::L) Q:=by
  intro a w ha hw;obtain ⟨k1,k2,⟨p,a1,a2,a3⟩|⟨g,cap,spare,b1,b2,b3,b4,b5⟩⟩:=AJ hw
  ·exact h0 k1 k2 p a1 a2 a3 a w ha hw
  ·exact h1 k1 k2 g cap spare b1 b2 b3 b4 a w ha b5
theorem KA {M D A:List Value} {i n:Nat} {x:Value} (h1:M.take i=A) (hi:i+1≤M.length) (hD:D.length=n-i) (kH:i≤n) (hn:n+1≤M.length):(aV (aV M (0+i*1) [x]) (0+(i+1)*1) D).take ((n+1)*1)=A++x::D:=by
  simp only [Nat.zero_add,Nat.mul_one];have hl:(aV M i [x]).length=M.length:=dF (by simp;omega);have e:=rv (l:=aV M i [x]) (ys:=D) (o:=i+1) (om);rw [hD,show i+1+(n-i)=n+1 by omega] at e;have e2:=rv (l:=M) (ys:=[x]) (o:=i) (om);simp only [List.length_singleton] at e2;rw [e,e2,h1];simp
theorem KB {M D A:List Value} {i n:Nat} {x:Value} (h1:M.take i=A) (hi:i+1≤M.length) (hD:D.length=n-i) (kH:i≤n) (hn:n+1≤M.length):(aV (aV M (0+(i+1)*1) D) (0+i*1) [x]).take ((n+1)*1)=A++x::D:=by
  simp only [Nat.zero_add,Nat.mul_one];have hl:(aV M (i+1) D).length=M.length:=dF (om);have e0:(aV M (i+1) D).take i=A:=by rw [u9 (om) (om),h1]
  have e1:(aV M (i+1) D).drop (i+1)=D++M.drop (n+1):=by
    unfold aV;rw [List.append_assoc,List.drop_left' (by simp;omega),hD,show i+1+(n-i)=n+1 by omega]
  unfold aV at e0 e1 ⊢;rw [e0];simp only [List.length_singleton];rw [e1];have Yy:A.length=i:=by rw [←h1];simp;omega
  rw [List.append_assoc,List.take_append,Yy,List.take_of_length_le (om)];congr 1;rw [show n+1-i=(n-i)+1 by omega];simp [hD]
theorem Ic {e g i n cap:Nat} {M D A:List Value} {x:Value} {R:List HP} (h1:M.take i=A) (hM:M.length=cap) (hn:n+1≤cap) (kH:i≤n) (hD:D.length=n-i) (OU:cap≤maxLen) (ho:(A++x::D).all one=true) :
    ai (ao g e (aV (aV M (0+i*1) [x]) (0+(i+1)*1) D)::R) (aT e 1 (.slice (some ⟨g,0,none⟩) (n+1) cap) (n+1) (A++x::D)::R):=by
  have O0:(aV M (0+i*1) [x]).length=cap:=by rw [dF (by simp;omega),hM]
  exact lE (sz:=1) (by rw [dF (om),O0,Nat.mul_one]) hn OU (KA h1 (om) hD kH (om)) ho ai.refl
theorem Ie {e g i n cap:Nat} {M D A:List Value} {x:Value} {R:List HP} (h1:M.take i=A) (hM:M.length=cap) (hn:n+1≤cap) (kH:i≤n) (hD:D.length=n-i) (OU:cap≤maxLen) (ho:(A++x::D).all one=true) :
    ai (ao g e (aV (aV M (0+(i+1)*1) D) (0+i*1) [x])::R) (aT e 1 (.slice (some ⟨g,0,none⟩) (n+1) cap) (n+1) (A++x::D)::R):=by
  have O0:(aV M (0+(i+1)*1) D).length=cap:=by rw [dF (om),hM]
  exact lE (sz:=1) (by rw [dF (by rw [O0];simp;omega),O0,Nat.mul_one]) hn OU (KB h1 (om) hD kH (om)) ho ai.refl
theorem wY {l:List Int} {i:Nat} {x:Int}:aj ic (l.take i++x::l.drop i)=aj ic (l.take i)++ .int .i64 x::aj ic (l.drop i):=by
  rw [aJ];rfl
attribute [local irreducible] Exit.then Exit.inBlock Code.wp WC WO WE WQ V aW dL Sat bz bK dU IntKind.wrap WR Code.rounds WT KO
theorem KC {F:List HP} {n:Int}:az prog 318 [.int .i64 n] [] F (fun r L'=>r= .bool false∧L'=[]):=by
  refine ay func318 ntmps318 ?_;repeat first|refine gd ?_|intro _
  exact aM
theorem Fh {F:List HP} {n:Int}:az prog 256 [.int .i64 n] [] F (fun r L'=>r= .bool false∧L'=[]):=by
  refine ay func256 ntmps256 ?_;repeat first|refine gd ?_|intro _
  exact aM
theorem Fi {F:List HP} {a b:Int}:az prog 255 [.int .i64 a,.int .i64 b] [] F (fun r L'=>r= .bool (decide (a<b))∧L'=[]):=by
  refine ay func255 ntmps255 ?_;repeat first|refine gd ?_|intro _|refine ae @KC ?_
  exact aM
theorem tG {F:List HP} {v:Value} {l:List Int} {x:Int} (k:bN F 1 v l.length (aj ic l)) (hn:l.length≤1099511627776):az prog 252 [v,.int .i64 x] [] F (fun r L'=>r= .bool (decide (x∈l))∧L'=[]):=by
  have hI:=EA (F:=F) (x:=x) k hn;have hx:decide (0≤bO (· =x) l)=decide (x∈l):=by
    rw [decide_eq_decide];constructor
    ·intro h;obtain ⟨i,hi,_,h2,_⟩:=fx h;have:=of_decide_eq_true h2;rw [←this];exact List.getElem_mem hi
    ·intro h;rcases Int.lt_or_le (bO (· =x) l) 0 with h0|h0
     ·have:=(ix (p:=fun y=>decide (y=x)) (l:=l) (om)).2 x h;simp at this
     ·exact h0
  refine ay func252 ntmps252 ?_;repeat first|refine gd ?_|intro _|refine ae @hI ?_
  rw [hx];exact aM
theorem pD {F:List HP} {v:Value} {l:List Int} {t:Int} (k:bN F 1 v l.length (aj ic l)) (hs:l.Pairwise (· < ·)) (hn:l.length≤1000) :
    az prog 168 [v,.int .i64 t] [] F (fun r L'=>r= .tuple [.int .i64 (sL l t:Nat),.bool (decide (t∈l))].toArray∧L'=[]):=by
  have EX:∀ a b (ha:a<l.length) (hb:b<l.length),a≤b→l[a]≤l[b]:=fun a b ha hb h=>by
    rcases Nat.lt_or_ge a b with h1|h1
    ·have:=List.pairwise_iff_getElem.1 hs a b ha hb h1;omega
    ·have:a=b:=by omega
     subst this;exact Int.le_refl _
  refine ay func168 ntmps168 ?_;repeat first|refine gd ?_|intro _
  apply aO (E0:=[(0,_),(1,_),(6,_)]) (fun E0 (q:Nat×Nat)=>(7,.int .i64 q.1)::(8,.int .i64 q.2)::E0) (fun _=>F)
    (fun q=>q.1≤q.2∧q.2≤l.length∧(∀ k (hk:k<l.length),k<q.1→l[k]<t)∧(∀ k (hk:k<l.length),q.2≤k→t≤l[k])) (fun q=>q.2-q.1) (0,l.length)
  ·exact bH
  ·exact ⟨Nat.zero_le _,Nat.le_refl _,fun k hk h=>by omega,fun k hk h=>by omega⟩
  ·exact ai.refl
  ·rintro ⟨i,j⟩ ⟨G7,hj,h1,h2⟩;dsimp only at G7 hj h1 h2 ⊢;by_cases bB:i<j
   ·have hm:(i+j) / 2<l.length:=by omega
    have hh:=half (i:=i) (j:=j) (om);by_cases hc:l[(i+j) / 2]<t
    ·repeat first|refine gd ?_|intro _
     simp only [hh];repeat first|refine gd ?_|intro _|refine ae @Fi ?_
     simp only [Int.toNat_natCast];repeat first|refine gd ?_|intro _
     refine aC ((i+j) / 2+1,j) (by dsimp only;omega) ⟨by dsimp only;omega,hj,fun k hk h=>?_,h2⟩ ?_ ai.refl
     ·dsimp only at h;have:=EX k ((i+j) / 2) hk hm (om);omega
     ·exact bH
    ·repeat first|refine gd ?_|intro _
     simp only [hh];repeat first|refine gd ?_|intro _|refine ae @Fi ?_
     simp only [Int.toNat_natCast];repeat first|refine gd ?_|intro _
     refine aC (i,(i+j) / 2) (by dsimp only;omega) ⟨by dsimp only;omega,by dsimp only;omega,h1,fun k hk h=>?_⟩ ?_ ai.refl
     ·dsimp only at h;have:=EX ((i+j) / 2) k hm hk h;omega
     ·exact bH
   ·have XN:i=j:=by omega
    subst XN;have Ux:=Mx hj h1 h2;by_cases kM:i<l.length
    ·by_cases he:l[i]=t
     ·have gP:t∈l:=by rw [←he];exact List.getElem_mem kM
      repeat first|refine gd ?_|intro _|refine ae @Fh ?_
      (apply ad rfl rfl ar)
      ·exact ⟨by rw [Ux];simp [gP],rfl⟩
      ·exact ai.refl
     ·have gP:¬t∈l:=fun h=>by
        obtain ⟨k,hk,Z9⟩:=List.getElem_of_mem h;rcases Nat.lt_or_ge k i with I5|I5
        ·have:=h1 k hk I5;omega
        ·have h3:=h2 i kM (Nat.le_refl _);have h4:=EX i k kM hk I5;omega
      repeat first|refine gd ?_|intro _|refine ae @Fh ?_
      (apply ad rfl rfl ar)
      ·exact ⟨by rw [Ux];simp [gP],rfl⟩
      ·exact ai.refl
    ·have gP:¬t∈l:=fun h=>by
       obtain ⟨k,hk,Z9⟩:=List.getElem_of_mem h;have:=h1 k hk (om);omega
     repeat first|refine gd ?_|intro _
     (apply ad rfl rfl ar)
     ·exact ⟨by rw [Ux];simp [gP],rfl⟩
     ·exact ai.refl
theorem iM {Q P:Prop} (k:Q) (h:Hid Q→P:=by
  intro k
  first
  |(refine an ?_;apply nC (id:=11) .true [] (pl:= .p 0 <| .p 1 <| .p 2 <| .p 3 <| .p 4 <| .p 5 <| .p 6 <| .p 7 <| .e true [(8,.done)]);exact mixed;kernel_rfl;kernel_rfl;exact ai.nil;exact k.out)
  |(refine an ?_;apply nC (id:=15) .true [] (pl:= .p 0 <| .p 1 <| .p 2 <| .p 3 <| .p 4 <| .p 5 <| .p 6 <| .p 7 <| .e true [(8,.done)]);exact mixed;kernel_rfl;kernel_rfl;exact ai.nil;exact k.out)):P:=h ⟨k⟩
theorem CI {F:List HP} {p:Option Addr} {c vb i:Nat} {l:List Int} {x:Int} (hi:i≤l.length) (hn:l.length≤1000) :
    az prog 366 [.slice p l.length c,.int .i64 i,.slice (some ⟨vb,0,none⟩) 1 1] [aT 3 1 (.slice p l.length c) l.length (aj ic l),ao vb 3 [.int .i64 x]] F
      (fun r L'=>∃ p' c',r= .slice p' (l.length+1) c'∧L'=[aT 3 1 (.slice p' (l.length+1) c') (l.length+1) (aj ic (l.take i++x::l.drop i))]):=by
  refine ay func366 ntmps366 ?_;refine Kz fun hc=>?_;by_cases he:i=l.length
  ·subst he;repeat first|refine go ?_|intro _|refine iM ?_|refine av ?_
   rename_i p' c';(apply ad rfl rfl ar)
   ·exact ⟨p',c',rfl,rfl⟩
   ·rw [List.take_length,List.drop_length,aJ,bi];exact af
  ·have kM:i<l.length:=by omega
   refine Au (fun q1 q2 p0 hv yJ hx=>by omega) fun q1 q2 g cap spare hv hcap OU OV=>?_;obtain ⟨rfl,rfl⟩:p=some ⟨g,0,none⟩∧c=cap:=by injection hv with a b c;exact ⟨a,c⟩
   have Sb:(aj ic l).length=l.length:=by rw [q1,Nat.mul_one]
   have sR:(l.length:Int)+1-i=((l.length+1-i:Nat):Int):=by omega
   have WY:(aj ic l++spare).take i=aj ic (l.take i):=by
     have:=iY (enc:=ic) (n:=1) (fun _=>rfl) l i;rw [Nat.mul_one] at this;rw [List.take_append_of_le_length (om),this]
   have JX:(l.take i).length=i:=by rw [List.length_take];omega
   have Vm:(aj ic (l.drop i)).length=l.length-i:=by
     have:=jj (enc:=ic) (n:=1) (fun _=>rfl) (l.drop i);rw [List.length_drop] at this;omega
   have Vn:List.take ((l.length-i)*1) (List.drop (0+i*1) (aj ic l++spare))=aj ic (l.drop i):=by
     have:=gn (enc:=ic) (n:=1) (fun _=>rfl) l i;rw [Nat.mul_one] at this;rw [Nat.mul_one,Nat.mul_one,Nat.zero_add,List.drop_append_of_le_length (om),this,List.take_left' Vm]
   by_cases Cg:c<l.length+1
   ·repeat first|refine go ?_|intro _|refine iM ?_|refine av ?_
    refine xG (RP rfl) rfl ?_;repeat first|refine go ?_|intro _|refine iM ?_|refine av ?_
    simp only [sD];refine mY rfl (Ku (k:=l.length+1-i) rfl rfl inferInstance sR (om) (om) (om) (om) (by rw [List.length_append];omega) (by rw [WY];exact Av _) rfl rfl) (eu ?_);intro p' c';rw [WY,show i+(l.length+1-i)=l.length+1 by omega];refine S4 (fun q1 q2 p0 hv yJ hx=>by omega) fun r1 r2 g2 XO S5 JY Ze XP XQ=>?_;obtain ⟨rfl,rfl⟩:p'=some ⟨g2,0,none⟩∧c'=XO:=by injection JY with a b c;exact ⟨a,c⟩
    have hA:(aj ic (l.take i)).length=i:=by
      have:=jj (enc:=ic) (n:=1) (fun _=>rfl) (l.take i);omega
    have hM:(aj ic (l.take i)++List.replicate (l.length+1-i) (Value.int .i64 0)++S5).length=c':=by
      rw [List.length_append,r1,XQ];omega
    repeat first|refine go ?_|intro _|refine iM ?_|refine av ?_
    rw [nD (show c'≠i by omega)];refine mY rfl (zX (k:=1) rfl rfl inferInstance inferInstance (om) (by simp only [List.length_append,hA,List.length_replicate];omega) (by simp) rfl rfl rfl) (aU ?_);repeat first|refine go ?_|intro _|refine iM ?_|refine av ?_
    rw [nD (show c'≠i+1 by omega),nD (show c≠i by omega)];refine kO rfl tB.none (zX (k:=l.length-i) rfl rfl inferInstance inferInstance (om) (by rw [dF (by rw [hM];simp;omega),hM];omega) (by rw [List.length_append];omega) (by rw [Vn];exact Av _) rfl rfl) (aU ?_);repeat first|refine go ?_|intro _|refine iM ?_|refine av ?_
    rw [Vn,show List.take (1*1) (List.drop 0 [Value.int IntKind.i64 x])=[.int .i64 x] from rfl];(apply ad rfl rfl ar)
    ·exact ⟨_,_,rfl,rfl⟩
    ·rw [wY];refine ai.trans (Ic (A:=aj ic (l.take i)) (by rw [List.append_assoc,List.take_left' hA]) hM (om) (om) Vm XP (by rw [←wY];exact Av _)) ?_;exact af
   ·repeat first|refine go ?_|intro _|refine iM ?_|refine av ?_
    refine xG (RP rfl) rfl ?_;repeat first|refine go ?_|intro _|refine iM ?_|refine av ?_
    have e0:(if c=0 then some (⟨g,0,none⟩:Addr) else Option.map (fun x:Addr=>x.add (0*1)) (some ⟨g,0,none⟩))=some ⟨g,0,none⟩:=by split<;>simp [Addr.add]
    simp only [e0,Nat.sub_zero,sD];rw [nD (show c≠i+1 by omega)];(first|refine aD (ao vb 3 [.int .i64 x]) ?_|refine aE (ao vb 3 [.int .i64 x]) ?_|refine aF (ao vb 3 [.int .i64 x]) ?_);(first|refine aD (ao g 3 (aj ic l++spare)) ?_|refine aE (ao g 3 (aj ic l++spare)) ?_|refine aF (ao g 3 (aj ic l++spare)) ?_);refine S1 fun kz=>?_;refine mY rfl (H7 (t:=116) (tR:=4) rfl rfl rfl func367 (by kernel_rfl) (by kernel_rfl) (by kernel_rfl) (by kernel_rfl) inferInstance inferInstance (Ne.symm kz) (by rw [List.length_append];omega) rfl) (aU ?_);repeat first|refine go ?_|intro _|refine iM ?_|refine av ?_
    rw [nD (show c≠i+1 by omega),nD (show c≠i by omega)];refine kO rfl tB.none (zX (k:=l.length-i) rfl rfl inferInstance inferInstance (om) (by rw [List.length_append];omega) (by rw [List.length_append];omega) (by rw [Vn];exact Av _) rfl rfl) (aU ?_);repeat first|refine go ?_|intro _|refine iM ?_|refine av ?_
    rw [nD (show c≠i by omega),Vn];have hM:(aj ic l++spare).length=c:=by rw [List.length_append,OV];omega
    refine mY rfl (zX (k:=1) rfl rfl inferInstance inferInstance (om) (by rw [dF (by rw [hM,Vm];omega),hM];omega) (by simp) rfl rfl rfl) (aU ?_);repeat first|refine go ?_|intro _|refine iM ?_|refine av ?_
    rw [show List.take (1*1) (List.drop 0 [Value.int IntKind.i64 x])=[.int .i64 x] from rfl];(apply ad rfl rfl ar)
    ·exact ⟨_,_,rfl,rfl⟩
    ·rw [wY];refine ai.trans (Ie (A:=aj ic (l.take i)) WY hM (om) (om) Vm OU (by rw [←wY];exact Av _)) ?_;exact af
end
section
structure ij where
  ax:Int
  dJ:Int
  ps:List Int
  all:Bool
theorem ij.iZ {a b:ij}:(a.ax=b.ax∧a.dJ=b.dJ∧a.all=b.all∧a.ps=b.ps)↔a=b:=by
  rcases a with ⟨a1,a2,a3,a4⟩;rcases b with ⟨b1,b2,b3,b4⟩;simp only [ij.mk.injEq];constructor<;>(rintro ⟨h1,h2,h3,h4⟩;exact ⟨h1,h2,h4,h3⟩)
instance:DecidableEq ij:=fun a b=>decidable_of_iff _ ij.iZ
abbrev O1 (s:ij) (a:Option Addr) (k:Nat):List Value:=[.int .i64 s.ax,.int .i64 s.dJ,.slice a s.ps.length k,.bool s.all]
abbrev BL (s:ij) (a:Option Addr) (k:Nat):Value:= .agg (O1 s a k).toArray
abbrev ij.no:ij:=⟨0,0,[],false⟩
def eP (n:Int):Int→List Int→Bool
  |_,[]=>true
  |last,c::r=>decide (last<c)&& decide (c<n)&& eP n c r
def cK (s:ij):Bool:=decide (1≤s.ax)&& decide (s.ax≤64)&& decide (0≤s.dJ)&& decide (s.dJ≤8)&& decide ((s.ps.length:Int)≤s.dJ)&& !(s.all&& decide (0<s.ps.length))&& eP s.ax (-1) s.ps
def dM (s:ij) (c:Int):Bool:=if s.all then decide (0≤c)&& decide (c<s.ax) else decide (c∈s.ps)
def yR (c:Int) (l:List Int):List Int:=l.take (sL l c)++c::l.drop (sL l c)
def jU (s:ij) (c:Int):Int:=if cK s then (if c<0∨s.ax≤c then 5 else 0) else 1
def c7 (s:ij) (c:Int):ij:=if jU s c=0 then (if dM s c then s else if (s.ps.length:Int)=s.dJ then ⟨s.ax,s.dJ,[],true⟩ else ⟨s.ax,s.dJ,yR c s.ps,s.all⟩) else .no
def upto (n:Nat):List Int:=(List.range n).map fun (i:Nat)=>(i:Int)
def eE (s:ij) (kI:List Int) (n:Nat):List Int:=(upto n).filter fun c=>dM s c&& !decide (c∈kI)
theorem CZ {n:Int}:∀ {l:List Int} {last:Int},eP n last l=true→l.Pairwise (· < ·)∧∀ c∈l,last<c∧c<n
  | [],_,_=>⟨List.Pairwise.nil,fun c h=>by cases h⟩
  |a::r,last,h=>by
   simp only [eP,Bool.and_eq_true,decide_eq_true_eq] at h
   obtain ⟨⟨h1,h2⟩,h3⟩:=h
   obtain ⟨p,q⟩:=CZ h3;refine ⟨List.pairwise_cons.2 ⟨fun c hc=>(q c hc).1,p⟩,fun c hc=>?_⟩;rcases List.mem_cons.1 hc with rfl|hc
   ·exact ⟨h1,h2⟩
   ·have:=q c hc;exact ⟨om,this.2⟩
theorem C0 {n:Int}:∀ {l:List Int} {last:Int},l.Pairwise (· < ·)→(∀ c∈l,last<c∧c<n)→eP n last l=true
  | [],_,_,_=>rfl
  |a::r,last,p,q=>by
   have h:=q a (by simp)
   rw [List.pairwise_cons] at p;simp only [eP,h.1,h.2,decide_true,Bool.true_and];exact C0 p.2 fun c hc=>⟨p.1 c hc,(q c (List.mem_cons_of_mem _ hc)).2⟩
theorem cP {s:ij} (h:cK s=true):1≤s.ax∧s.ax≤64∧0≤s.dJ∧s.dJ≤8∧(s.ps.length:Int)≤s.dJ∧(s.all=true→s.ps=[])∧s.ps.Pairwise (· < ·)∧∀ c∈s.ps,0≤c∧c<s.ax:=by
  simp only [cK,Bool.and_eq_true,decide_eq_true_eq,Bool.not_eq_true',Bool.and_eq_false_iff,decide_eq_false_iff_not] at h;obtain ⟨⟨⟨⟨⟨⟨h1,h2⟩,h3⟩,h4⟩,h5⟩,h6⟩,h7⟩:=h;obtain ⟨p,q⟩:=CZ h7;refine ⟨h1,h2,h3,h4,h5,fun ha=>?_,p,fun c hc=>by have:=q c hc;exact ⟨om,this.2⟩⟩;rcases h6 with h|h
  ·rw [ha] at h;cases h
  ·exact List.eq_nil_of_length_eq_zero (om)
theorem AO (c:Int) (l:List Int):(yR c l).length=l.length+1:=by
  have:=My l c;unfold yR;rw [List.length_append,List.length_cons,List.length_take,List.length_drop];omega
attribute [local irreducible] Exit.then Exit.inBlock Code.wp WC WO WE WQ V aW dL Sat bz bK dU IntKind.wrap WR Code.rounds WT KO
theorem z1 {F:List HP} {s:ij} {a:Option Addr} {k:Nat} (hk:bN F 1 (.slice a s.ps.length k) s.ps.length (aj ic s.ps)) (hn:s.ps.length≤1000) :
    az prog 282 [BL s a k] [] F (fun r L'=>r= .bool (cK s)∧L'=[]):=by
  refine ay func282 ntmps282 ?_;by_cases a1:1≤s.ax
  ·by_cases a2:s.ax≤64
   ·by_cases a3:0≤s.dJ
    ·by_cases a4:s.dJ≤8
     ·by_cases a5:(s.ps.length:Int)≤s.dJ
      ·by_cases a6:s.all=true∧0<s.ps.length
       ·obtain ⟨b1,b2⟩:=a6;repeat first|refine gd ?_|intro _
        (apply ad rfl rfl ar;(first|exact cS|exact ⟨by simp [cK,b1,b2]<;>omega,rfl⟩);exact bM)
       ·have hb:cK s=eP s.ax (-1) s.ps:=by
          have:(!(s.all&& decide (0<s.ps.length)))=true:=by
            cases hc:s.all with
            |false=>rfl
            |true=>
             have:¬0<s.ps.length:=fun h=>a6 ⟨hc,h⟩;simp [this]
          simp only [cK,a1,a2,a3,a4,a5,decide_true,Bool.true_and,this]
        rw [hb];cases hc:s.all with
        |false=>
         repeat first|refine gd ?_|intro _
         rename_i bs
         apply aO (E0:=[(1,_),(43,_),(44,_)]) (fun E0 (q:Nat×Int)=>(45,.int .i64 q.1)::(3,.int .i64 q.2)::E0) (fun _=>ao bs 136 (O1 s a k)::F)
           (fun q=>q.1≤s.ps.length∧eP s.ax (-1) s.ps=eP s.ax q.2 (s.ps.drop q.1)) (fun q=>s.ps.length-q.1) (0,-1)
         ·exact bH
         ·exact ⟨Nat.zero_le _,rfl⟩
         ·exact af
         ·rintro ⟨j,last⟩ ⟨hj,hr⟩;dsimp only at hj hr ⊢;rw [hr];by_cases bB:j<s.ps.length
          ·rw [List.drop_eq_getElem_cons bB] at hr ⊢;by_cases c1:last<s.ps[j]
           ·by_cases c2:s.ps[j]<s.ax
            ·repeat first|refine gd ?_|intro _
             refine aC (j+1,s.ps[j]) (by dsimp only;omega) ⟨by dsimp only;omega,by dsimp only;simp [eP,c1,c2]⟩ ?_ ?_
             ·exact bH
             ·exact af
            ·repeat first|refine gd ?_|intro _
             (apply ad rfl rfl ar;(first|exact cS|exact ⟨by simp [eP,c1,c2]<;>omega,rfl⟩);exact bM)
           ·repeat first|refine gd ?_|intro _
            (apply ad rfl rfl ar;(first|exact cS|exact ⟨by simp [eP,c1]<;>omega,rfl⟩);exact bM)
          ·have rq:j=s.ps.length:=by omega
           subst rq;rw [List.drop_length];repeat first|refine gd ?_|intro _
           (apply ad rfl rfl ar;(first|exact cS|exact ⟨by simp [eP]<;>omega,rfl⟩);exact bM)
        |true=>
         have b2:¬0<s.ps.length:=fun h=>a6 ⟨hc,h⟩;repeat first|refine gd ?_|intro _
         rename_i bs
         apply aO (E0:=[(1,_),(43,_),(44,_)]) (fun E0 (q:Nat×Int)=>(45,.int .i64 q.1)::(3,.int .i64 q.2)::E0) (fun _=>ao bs 136 (O1 s a k)::F)
           (fun q=>q.1≤s.ps.length∧eP s.ax (-1) s.ps=eP s.ax q.2 (s.ps.drop q.1)) (fun q=>s.ps.length-q.1) (0,-1)
         ·exact bH
         ·exact ⟨Nat.zero_le _,rfl⟩
         ·exact af
         ·rintro ⟨j,last⟩ ⟨hj,hr⟩;dsimp only at hj hr ⊢;rw [hr];by_cases bB:j<s.ps.length
          ·omega
          ·have rq:j=s.ps.length:=by omega
           subst rq;rw [List.drop_length];repeat first|refine gd ?_|intro _
           (apply ad rfl rfl ar;(first|exact cS|exact ⟨by simp [eP]<;>omega,rfl⟩);exact bM)
      ·repeat first|refine gd ?_|intro _
       (apply ad rfl rfl ar;(first|exact cS|exact ⟨by simp [cK,a5]<;>omega,rfl⟩);exact bM)
     ·repeat first|refine gd ?_|intro _
      (apply ad rfl rfl ar;(first|exact cS|exact ⟨by simp [cK,a4]<;>omega,rfl⟩);exact bM)
    ·repeat first|refine gd ?_|intro _
     (apply ad rfl rfl ar;(first|exact cS|exact ⟨by simp [cK,a3]<;>omega,rfl⟩);exact bM)
   ·repeat first|refine gd ?_|intro _
    (apply ad rfl rfl ar;(first|exact cS|exact ⟨by simp [cK,a2]<;>omega,rfl⟩);exact bM)
  ·repeat first|refine gd ?_|intro _
   (apply ad rfl rfl ar;(first|exact cS|exact ⟨by simp [cK,a1]<;>omega,rfl⟩);exact bM)
theorem DY {F:List HP} {s:ij} {a:Option Addr} {k:Nat} {c:Int} (hk:bN F 1 (.slice a s.ps.length k) s.ps.length (aj ic s.ps)) (hm:cK s=true) :
    az prog 81 [BL s a k,.int .i64 c] [] F (fun r L'=>r= .bool (dM s c)∧L'=[]):=by
  obtain ⟨m1,m2,m3,m4,m5,m6,m7,m8⟩:=cP hm;refine ay func81 ntmps81 ?_;cases ha:s.all with
  |true=>
   by_cases h0:0≤c
   ·repeat first|refine gd ?_|intro _
    (apply ad rfl rfl ar;(first|exact cS|exact ⟨by simp [dM,ha,h0]<;>omega,rfl⟩);exact bM)
   ·repeat first|refine gd ?_|intro _
    (apply ad rfl rfl ar;(first|exact cS|exact ⟨by simp [dM,ha,h0]<;>omega,rfl⟩);exact bM)
  |false=>
   repeat first|refine gd ?_|intro _|refine ae @pD ?_
   (apply ad rfl rfl ar;(first|exact cS|exact ⟨by simp [dM,ha]<;>omega,rfl⟩);exact bM)
theorem C3 {F:List HP} {s:ij} {a:Option Addr} {k:Nat}:az prog 362 [BL s a k] [] F (fun r L'=>r=BL ⟨s.ax,s.dJ,[],false⟩ none 0∧L'=[]):=by
  refine ay func362 ntmps362 ?_;repeat first|refine gd ?_|intro _
  exact aM
theorem P5 {F:List HP} {ax dJ:Int}:az prog 220 [.int .i64 ax,.int .i64 dJ] [] F
    (fun r L'=>r= .tuple [BL (if cK ⟨ax,dJ,[],false⟩ then ⟨ax,dJ,[],false⟩ else .no) none 0,.int .i64 (if cK ⟨ax,dJ,[],false⟩ then 0 else 1)].toArray∧L'=[]):=by
  have hM:=fun F=>z1 (F:=F) (s:=⟨ax,dJ,[],false⟩) (a:=none) (k:=0) ou (by simp);cases e:cK ⟨ax,dJ,[],false⟩ with
  |true=>
   simp only [e,List.length_nil] at hM;refine ay func220 ntmps220 ?_;repeat first|refine gd ?_|intro _|refine ae @hM ?_
   exact aM
  |false=>
   simp only [e,List.length_nil] at hM;refine ay func220 ntmps220 ?_;repeat first|refine gd ?_|intro _|refine ae @hM ?_
   exact aM
theorem zh {F:List HP} {s:ij} {a:Option Addr} {k:Nat} {u:Value} {kI:List Int} (hk:bN F 1 (.slice a s.ps.length k) s.ps.length (aj ic s.ps)) (hm:cK s=true) (hb:bN F 1 u kI.length (aj ic kI)) (zG:kI.length≤1000) :
    az prog 166 [BL s a k,u] [] F (fun r L'=>∃ p c,r= .slice p (eE s kI s.ax.toNat).length c∧L'=[aT 3 1 (.slice p (eE s kI s.ax.toNat).length c) (eE s kI s.ax.toNat).length (aj ic (eE s kI s.ax.toNat))]):=by
  obtain ⟨m1,m2,m3,m4,m5,m6,m7,m8⟩:=cP hm;obtain ⟨n,hn⟩:∃ n:Nat,s.ax=n:=⟨s.ax.toNat,om⟩;refine ay func166 ntmps166 ?_;repeat first|refine gd ?_|intro _
  rename_i bs
  apply aO (E0:=[(1,_),(2,_),(8,_)]) (fun E0 (q:Nat×Option Addr×Nat)=>(9,.int .i64 q.1)::(5,.slice q.2.1 (eE s kI q.1).length q.2.2)::E0)
    (fun q=>aT 3 1 (.slice q.2.1 (eE s kI q.1).length q.2.2) (eE s kI q.1).length (aj ic (eE s kI q.1))::ao bs 136 (O1 s a k)::F) (fun q=>q.1≤n) (fun q=>n-q.1) (0,none,0)
  ·exact bH
  ·exact Nat.zero_le _
  ·refine ai.trans ?_ (aI ai.refl);exact af
  ·rintro ⟨j,p,c⟩ hj;dsimp only at hj ⊢;have hlen:(eE s kI j).length≤j:=by
     have:=List.length_filter_le (fun c=>dM s c&& !decide (c∈kI)) (upto j);simp only [upto,List.length_map,List.length_range] at this;exact this
   have qI:eE s kI (j+1)=if dM s j&& !decide ((j:Int)∈kI) then eE s kI j++[(j:Int)] else eE s kI j:=by
     unfold eE upto;rw [List.range_succ,List.map_append,List.filter_append];by_cases h:(dM s j&& !decide ((j:Int)∈kI))=true
     ·simp [h]
     ·simp [h]
   by_cases bB:j<n
   ·cases hh:dM s j with
    |false=>
     have hH:=fun F (hk:bN F 1 (.slice a s.ps.length k) s.ps.length (aj ic s.ps))=>DY (c:=(j:Int)) hk hm;simp only [hh] at hH;rw [hh] at qI;rw [Bool.false_and,if_neg Bool.false_ne_true] at qI;repeat first|refine gd ?_|intro _|refine ae @hH ?_
     refine aC (j+1,p,c) (by dsimp only;omega) (by dsimp only;omega) ?_ ?_
     ·dsimp only;rw [qI];exact bH
     ·dsimp only;rw [qI];exact af
    |true=>
     have hH:=fun F (hk:bN F 1 (.slice a s.ps.length k) s.ps.length (aj ic s.ps))=>DY (c:=(j:Int)) hk hm;simp only [hh] at hH;rw [hh] at qI;by_cases hc:(j:Int)∈kI
     ·have I3:¬¬((j:Int)∈kI):=fun h=>h hc;rw [if_neg (by simp [hc])] at qI;repeat first|refine gd ?_|intro _|refine ae @hH ?_|refine ae @tG ?_
      refine aC (j+1,p,c) (by dsimp only;omega) (by dsimp only;omega) ?_ ?_
      ·dsimp only;rw [qI];exact bH
      ·dsimp only;rw [qI];exact af
     ·rw [if_pos (by simp [hc])] at qI;repeat first|refine gd ?_|intro _|refine ae @hH ?_|refine ae @tG ?_
      rename_i b2 p2 c2;refine aC (j+1,p2,c2) (by dsimp only;omega) (by dsimp only;omega) ?_ ?_
      ·dsimp only;rw [qI,List.length_append,List.length_singleton];exact bH
      ·dsimp only;rw [qI,List.length_append,List.length_singleton,aJ,bi];exact af
   ·have Pz:j=s.ax.toNat:=by omega
    repeat first|refine gd ?_|intro _
    subst Pz;(apply ad rfl rfl ar)
    ·exact ⟨p,c,rfl,rfl⟩
    ·exact af
theorem P6 {F:List HP} {s:ij} {a:Option Addr} {k:Nat} {x:Int} (hk:bN F 1 (.slice a s.ps.length k) s.ps.length (aj ic s.ps)) (hn:s.ps.length≤1000) :
    az prog 364 [BL s a k,.int .i64 x] [] F (fun r L'=>∃ a' k',r= .tuple [BL (c7 s x) a' k',.int .i64 (jU s x)].toArray∧L'=[aT 3 1 (.slice a' (c7 s x).ps.length k') (c7 s x).ps.length (aj ic (c7 s x).ps)]):=by
  cases hm:cK s with
  |false=>
   have e1:jU s x=1:=by simp [jU,hm]
   have e2:c7 s x= .no:=by simp [c7,e1]
   rw [e1,e2];have hM:=fun F (hk:bN F 1 (.slice a s.ps.length k) s.ps.length (aj ic s.ps))=>z1 hk hn;simp only [hm] at hM;refine ay func364 ntmps364 ?_;repeat first|refine gd ?_|intro _|refine ae @hM ?_
   (apply ad rfl rfl ar)
   ·exact ⟨none,0,rfl,rfl⟩
   ·refine ai.trans ?_ (aI ai.refl);exact af
  |true=>
   have hM:=fun F (hk:bN F 1 (.slice a s.ps.length k) s.ps.length (aj ic s.ps))=>z1 hk hn;simp only [hm] at hM;obtain ⟨m1,m2,m3,m4,m5,m6,m7,m8⟩:=cP hm;by_cases hr:x<0∨s.ax≤x
   ·have e1:jU s x=5:=by simp only [jU,hm,if_true,if_pos hr]
    have e2:c7 s x= .no:=by simp [c7,e1]
    rw [e1,e2];refine ay func364 ntmps364 ?_;by_cases h0:x<0
    ·repeat first|refine gd ?_|intro _|refine ae @hM ?_
     (apply ad rfl rfl ar)
     ·exact ⟨none,0,rfl,rfl⟩
     ·refine ai.trans ?_ (aI ai.refl);exact af
    ·repeat first|refine gd ?_|intro _|refine ae @hM ?_
     (apply ad rfl rfl ar)
     ·exact ⟨none,0,rfl,rfl⟩
     ·refine ai.trans ?_ (aI ai.refl);exact af
   ·have e1:jU s x=0:=by simp only [jU,hm,if_true,if_neg hr]
    have Cu:0≤x:=by omega
    have J1:x<s.ax:=by omega
    have hH:=fun F a k (hk:bN F 1 (.slice a s.ps.length k) s.ps.length (aj ic s.ps))=>DY (c:=x) hk hm;cases hh:dM s x with
    |true=>
     have e2:c7 s x=s:=by simp [c7,e1,hh]
     rw [e1,e2];simp only [hh] at hH;refine ay func364 ntmps364 ?_;repeat first|refine gd ?_|intro _|refine ae @hM ?_|refine ae @tf ?_|refine ae @hH ?_
     (apply ad rfl rfl ar)
     ·exact ⟨_,_,rfl,rfl⟩
     ·exact af
    |false=>
     simp only [hh] at hH;by_cases hf:(s.ps.length:Int)=s.dJ
     ·have e2:c7 s x=⟨s.ax,s.dJ,[],true⟩:=by simp [c7,e1,hh,hf]
      rw [e1,e2];refine ay func364 ntmps364 ?_;repeat first|refine gd ?_|intro _|refine ae @hM ?_|refine ae @tf ?_|refine ae @hH ?_
      (apply ad rfl rfl ar)
      ·exact ⟨none,0,rfl,rfl⟩
      ·refine ai.trans ?_ (aI ai.refl);exact af
     ·have e2:c7 s x=⟨s.ax,s.dJ,yR x s.ps,s.all⟩:=by simp [c7,e1,hh,hf]
      rw [e1,e2];have Ux:=My s.ps x;have hI:=fun F p c vb=>CI (F:=F) (p:=p) (c:=c) (vb:=vb) (i:=sL s.ps x) (l:=s.ps) (x:=x) Ux hn;refine ay func364 ntmps364 ?_;repeat first|refine gd ?_|intro _|refine ae @hM ?_|refine ae @tf ?_|refine ae @hH ?_|refine ae @pD ?_|refine ae @hI ?_
      have XR:List.take (sL s.ps x) s.ps++x::List.drop (sL s.ps x) s.ps=yR x s.ps:=rfl;rw [XR,←AO x s.ps];(apply ad rfl rfl ar)
      ·exact ⟨_,_,rfl,rfl⟩
      ·exact af
end
section
def xO (s:ij) (c:Int):Bool:=decide (0≤c)&& decide (c<s.ax)&& (s.all|| decide (c∈s.ps))
theorem AP {s:ij} {c:Int} (h:cK s=true):xO s c=dM s c:=by
  obtain ⟨m1,m2,m3,m4,m5,m6,m7,m8⟩:=cP h;unfold xO dM;cases ha:s.all with
  |true=>simp
  |false=>
   by_cases hc:c∈s.ps
   ·have:=m8 c hc;simp [hc,this]
   ·simp [hc]
theorem zi:∀ {l m:List Int},l.Pairwise (· < ·)→m.Pairwise (· < ·)→(∀ c,c∈l↔c∈m)→l=m
  | [],[],_,_,_=>rfl
  | [],b::m,_,_,h=>absurd ((h b).2 (by simp)) (by simp)
  |a::l,[],_,_,h=>absurd ((h a).1 (by simp)) (by simp)
  |a::l,b::m,hl,hm,h=>by
   rw [List.pairwise_cons] at hl hm
   have Yz:a=b:=by
     have h1:=(h a).1 (by simp);have h2:=(h b).2 (by simp);rcases List.mem_cons.1 h1 with e|e
     ·exact e
     ·rcases List.mem_cons.1 h2 with e2|e2
      ·exact e2.symm
      ·have:=hl.1 b e2;have:=hm.1 a e;omega
   subst Yz;rw [zi hl.2 hm.2 fun c=>⟨fun hc=>?_,fun hc=>?_⟩]
   ·rcases List.mem_cons.1 ((h c).1 (List.mem_cons_of_mem _ hc)) with e|e
    ·have:=hl.1 c hc;omega
    ·exact e
   ·rcases List.mem_cons.1 ((h c).2 (List.mem_cons_of_mem _ hc)) with e|e
    ·have:=hm.1 c hc;omega
    ·exact e
theorem Fj (c x:Int) (l:List Int):x∈yR c l↔x=c∨x∈l:=by
  unfold yR;rw [List.mem_append,List.mem_cons];have h:x∈l↔x∈l.take (sL l c)∨x∈l.drop (sL l c):=by rw [←List.mem_append,List.take_append_drop]
  rw [h];constructor
  ·rintro (h|h|h)
   ·exact .inr (.inl h)
   ·exact .inl h
   ·exact .inr (.inr h)
  ·rintro (h|h|h)
   ·exact .inr (.inl h)
   ·exact .inl h
   ·exact .inr (.inr h)
theorem Nx (l:List Int) (c:Int):l.take (sL l c)=l.takeWhile fun x=>decide (x<c):=by
  unfold sL;induction l with
  |nil=>rfl
  |cons a r ih=>by_cases h:a<c<;>simp [h,ih]
theorem Ny (l:List Int) (c:Int):l.drop (sL l c)=l.dropWhile fun x=>decide (x<c):=by
  unfold sL;induction l with
  |nil=>rfl
  |cons a r ih=>by_cases h:a<c<;>simp [h,ih]
theorem zj {c:Int} {l:List Int} (h:l.Pairwise (· < ·)) (hc:¬c∈l):(yR c l).Pairwise (· < ·):=by
  have hp:∀ x∈l.takeWhile (fun x=>decide (x<c)),x<c:=by
    have:∀ (r:List Int),∀ x∈r.takeWhile (fun x=>decide (x<c)),x<c:=by
      intro r;induction r with
      |nil=>intro x hx;simp at hx
      |cons a r ih=>
       intro x hx;by_cases ha:a<c
       ·simp [ha] at hx;rcases hx with rfl|hx
        ·exact ha
        ·exact ih x hx
       ·simp [ha] at hx
    exact this l
  have hq:∀ x∈l.dropWhile (fun x=>decide (x<c)),c<x:=by
    have:∀ (r:List Int),r.Pairwise (· < ·)→(¬c∈r)→∀ x∈r.dropWhile (fun x=>decide (x<c)),c<x:=by
      intro r;induction r with
      |nil=>intro _ _ x hx;simp at hx
      |cons a r ih=>
       intro hr hn x hx;rw [List.pairwise_cons] at hr;by_cases ha:a<c
       ·simp [ha] at hx;exact ih hr.2 (fun h=>hn (List.mem_cons_of_mem _ h)) x hx
       ·simp [ha] at hx;have:c≠a:=fun e=>hn (by simp [e]);rcases hx with rfl|hx
        ·omega
        ·have:=hr.1 x hx;omega
    exact this l h hc
  unfold yR;rw [Nx,Ny,List.pairwise_append,List.pairwise_cons];refine ⟨h.sublist (List.takeWhile_sublist _),⟨hq,h.sublist (List.dropWhile_sublist _)⟩,fun x hx y hy=>?_⟩;rcases List.mem_cons.1 hy with rfl|hy
  ·exact hp x hx
  ·have:=hp x hx;have:=hq y hy;omega
theorem zk (n:Nat):(upto n).Pairwise (· < ·):=by
  unfold upto;rw [List.pairwise_map];exact List.pairwise_lt_range.imp fun h=>by omega
theorem Fk {n:Nat} {c:Int}:c∈upto n↔0≤c∧c<n:=by
  unfold upto;simp only [List.mem_map,List.mem_range];constructor
  ·rintro ⟨i,hi,rfl⟩;omega
  ·rintro ⟨h1,h2⟩;exact ⟨c.toNat,om,om⟩
def sj (s:ij) (x:Int) (n:Nat):List Int:=(upto n).filter fun c=>decide (c=x)|| dM s c
theorem P7 {s:ij} {x:Int} (h:cK s=true) (h0:0≤x) (h1:x<s.ax) (hn:dM s x=false) (ha:s.all=false):sj s x s.ax.toNat=yR x s.ps:=by
  obtain ⟨m1,m2,m3,m4,m5,m6,m7,m8⟩:=cP h;have hx:¬x∈s.ps:=by simpa [dM,ha] using hn
  refine zi ((zk _).sublist List.filter_sublist) (zj m7 hx) fun c=>?_;rw [Fj,sj,List.mem_filter,Fk];simp only [dM,ha,Bool.false_eq_true,if_false,Bool.or_eq_true,decide_eq_true_eq];constructor
  ·rintro ⟨_,h⟩;exact h
  ·rintro (h|h)
   ·subst h;exact ⟨om,.inl rfl⟩
   ·have:=m8 c h;exact ⟨om,.inr h⟩
theorem zl {s:ij} {x:Int} (h0:0≤x) (h1:x<s.ax) (hn:dM s x=false):s.all=false:=by
  cases ha:s.all with
  |false=>rfl
  |true=>simp [dM,ha] at hn;omega
attribute [local irreducible] Exit.then Exit.inBlock Code.wp WC WO WE WQ V aW dL Sat bz bK dU IntKind.wrap WR Code.rounds WT KO
theorem Fl {F:List HP} {v:Value} {l:List Int} {n:Int} (k:bN F 1 v l.length (aj ic l)) (hn:l.length≤1000):az prog 326 [v,.int .i64 n] [] F (fun r L'=>r= .bool (decide (n∈l))∧L'=[]):=by
  refine ay func326 ntmps326 ?_;repeat first|refine gd ?_|intro _
  apply aO (E0:=[(0,_),(1,_)]) (fun E0 (i:Nat)=>(5,.int .i64 i)::E0) (fun _=>F) (fun i=>i≤l.length∧∀ j (h:j<l.length),j<i→l[j]≠n) (fun i=>l.length-i) 0
  ·exact bH
  ·exact ⟨Nat.zero_le _,fun j hj h=>by omega⟩
  ·exact ai.refl
  ·rintro i ⟨hi,h1⟩;by_cases bB:i<l.length
   ·by_cases he:l[i]=n
    ·have:n∈l:=by rw [←he];exact List.getElem_mem bB
     repeat first|refine gd ?_|intro _
     (apply ad rfl rfl ar;(first|exact cS|exact ⟨by simp [this]<;>omega,rfl⟩);exact bM)
    ·repeat first|refine gd ?_|intro _
     refine aC (i+1) (om) ⟨om,fun j hj h=>?_⟩ ?_ ai.refl
     ·by_cases e:j=i
      ·subst e;exact he
      ·exact h1 j hj (om)
     ·exact bH
   ·have:¬n∈l:=fun h=>by
      obtain ⟨j,hj,Pz⟩:=List.getElem_of_mem h;exact h1 j hj (om) Pz
    repeat first|refine gd ?_|intro _
    (apply ad rfl rfl ar;(first|exact cS|exact ⟨by simp [this]<;>omega,rfl⟩);exact bM)
theorem yj {F:List HP} {s:ij} {a:Option Addr} {k:Nat} {c:Int} (hk:bN F 1 (.slice a s.ps.length k) s.ps.length (aj ic s.ps)) (hn:s.ps.length≤1000) :
    az prog 124 [BL s a k,.int .i64 c] [] F (fun r L'=>r= .bool (xO s c)∧L'=[]):=by
  refine ay func124 ntmps124 ?_;by_cases h0:0≤c
  ·by_cases h1:c<s.ax
   ·repeat first|refine gd ?_|intro _
    rename_i bs;apply aO (E0:=[(1,_),(2,_)]) (fun E0 (q:Nat×Bool)=>(6,.int .i64 q.1)::(5,.bool q.2)::E0) (fun _=>ao bs 226 (O1 s a k)::F) (fun q=>q.1≤s.ps.length∧q.2=(s.all|| (s.ps.take q.1).any fun x=>decide (x=c))) (fun q=>s.ps.length-q.1) (0,s.all)
    ·exact bH
    ·exact ⟨Nat.zero_le _,by simp⟩
    ·exact af
    ·rintro ⟨i,is⟩ ⟨hi,Sf⟩;dsimp only at hi Sf ⊢;by_cases bB:i<s.ps.length
     ·have uG:((s.ps.take (i+1)).any fun x=>decide (x=c))=((s.ps.take i).any (fun x=>decide (x=c))|| decide (s.ps[i]=c)):=by
        rw [List.take_add_one,List.any_append];simp [bB]
      cases is with
      |true=>
       repeat first|refine gd ?_|intro _
       refine aC (i+1,true) (by dsimp only;omega) ⟨by dsimp only;omega,by dsimp only;rw [uG,←Bool.or_assoc,←Sf];rfl⟩ ?_ ?_
       ·exact bH
       ·exact af
      |false=>
       repeat first|refine gd ?_|intro _
       refine aC (i+1,decide (s.ps[i]=c)) (by dsimp only;omega) ⟨by dsimp only;omega,by dsimp only;rw [uG,←Bool.or_assoc,←Sf];rfl⟩ ?_ ?_
       ·exact bH
       ·exact af
     ·have kM:i=s.ps.length:=by omega
      subst kM;rw [List.take_length] at Sf;have hm:(s.ps.any fun x=>decide (x=c))=decide (c∈s.ps):=by
        rw [Bool.eq_iff_iff];simp
      rw [hm] at Sf;repeat first|refine gd ?_|intro _
      (apply ad rfl rfl ar;(first|exact cS|exact ⟨by simp [xO,h0,h1,Sf]<;>omega,rfl⟩);exact bM)
   ·repeat first|refine gd ?_|intro _
    (apply ad rfl rfl ar;(first|exact cS|exact ⟨by simp [xO,h1]<;>omega,rfl⟩);exact bM)
  ·repeat first|refine gd ?_|intro _
   (apply ad rfl rfl ar;(first|exact cS|exact ⟨by simp [xO,h0]<;>omega,rfl⟩);exact bM)
theorem vq {F:List HP} {s:ij} {a:Option Addr} {k:Nat} (hk:bN F 1 (.slice a s.ps.length k) s.ps.length (aj ic s.ps)) (hn:s.ps.length≤1000) :
    az prog 319 [BL s a k] [] F (fun r L'=>r= .bool (cK s)∧L'=[]):=by
  refine ay func319 ntmps319 ?_;by_cases a1:1≤s.ax
  ·by_cases a2:s.ax≤64
   ·by_cases a3:0≤s.dJ
    ·by_cases a4:s.dJ≤8
     ·by_cases a5:(s.ps.length:Int)≤s.dJ
      ·repeat first|refine gd ?_|intro _
       rename_i bs
       apply aO (E0:=[(1,_)]) (fun E0 (q:Nat×Int)=>(3,.int .i64 q.1)::E0) (fun _=>ao bs 226 (O1 s a k)::F)
         (fun q=>q.1≤s.ps.length∧ -1≤q.2∧(q.1=0→q.2= -1)∧(∀ h:q.1-1<s.ps.length,0<q.1→s.ps[q.1-1]=q.2∧0≤q.2)∧(0<q.1→s.all=false)∧eP s.ax (-1) s.ps=eP s.ax q.2 (s.ps.drop q.1)) (fun q=>s.ps.length-q.1) (0,-1)
       ·exact bH
       ·exact ⟨Nat.zero_le _,by simp,fun _=>rfl,fun _ h=>by simp at h,fun h=>by simp at h,rfl⟩
       ·exact af
       ·rintro ⟨j,last⟩ ⟨hj,hl,h0,hp,vM,hr⟩;dsimp only at hj hl h0 hp vM hr ⊢;by_cases bB:j<s.ps.length
        ·cases ha:s.all with
         |true=>
          have hb:cK s=false:=by
            have:0<s.ps.length:=by omega
            simp [cK,ha,this]
          repeat first|refine gd ?_|intro _
          (apply ad rfl rfl ar;(first|exact cS|exact ⟨by simp [hb]<;>omega,rfl⟩);exact bM)
         |false=>
          have hb:cK s=eP s.ax last (s.ps.drop j):=by
            rw [←hr];simp [cK,ha,a1,a2,a3,a4,a5]
          have hd:=List.drop_eq_getElem_cons bB;rw [hd] at hb;by_cases c0:0≤s.ps[j]
          ·by_cases c2:s.ps[j]<s.ax
           ·rcases Nat.eq_zero_or_pos j with e|e
            ·have c1:last<s.ps[j]:=by have:=h0 e;omega
             subst e;repeat first|refine gd ?_|intro _
             refine aC (0+1,s.ps[0]) (by dsimp only;omega) ⟨by dsimp only;omega,by dsimp only;omega,fun h=>by simp at h,fun h _=>⟨rfl,c0⟩,fun _=>(by first|exact ha|rfl),by dsimp only;rw [hr,hd];simp [eP,c1,c2]⟩ ?_ ?_
             ·exact bH
             ·exact af
            ·obtain ⟨p1,p2⟩:=hp (om) e;have hjj:(↑j-1:Int).toNat=j-1:=by omega
             have If:(↑j-1:Int).toNat<s.ps.length:=by omega
             have p3:s.ps[(↑j-1:Int).toNat]=last:=by simp only [hjj];exact p1
             by_cases c1:last<s.ps[j]
             ·have c3:¬s.ps[j]≤s.ps[(↑j-1:Int).toNat]:=by omega
              repeat first|refine gd ?_|intro _
              refine aC (j+1,s.ps[j]) (by dsimp only;omega) ⟨by dsimp only;omega,by dsimp only;omega,fun h=>by simp at h,fun h _=>⟨rfl,c0⟩,fun _=>(by first|exact ha|rfl),by dsimp only;rw [hr,hd];simp [eP,c1,c2]⟩ ?_ ?_
              ·exact bH
              ·exact af
             ·have c3:s.ps[j]≤s.ps[(↑j-1:Int).toNat]:=by omega
              repeat first|refine gd ?_|intro _
              (apply ad rfl rfl ar;(first|exact cS|exact ⟨by simp [hb,eP,c1]<;>omega,rfl⟩);exact bM)
           ·repeat first|refine gd ?_|intro _
            (apply ad rfl rfl ar;(first|exact cS|exact ⟨by simp [hb,eP,c2]<;>omega,rfl⟩);exact bM)
          ·have c1:¬last<s.ps[j]:=by omega
           repeat first|refine gd ?_|intro _
           (apply ad rfl rfl ar;(first|exact cS|exact ⟨by simp [hb,eP,c1]<;>omega,rfl⟩);exact bM)
        ·have rq:j=s.ps.length:=by omega
         subst rq;rw [List.drop_length] at hr;have hb:cK s=true:=by
           have:(!(s.all&& decide (0<s.ps.length)))=true:=by
             rcases Nat.eq_zero_or_pos s.ps.length with e|e
             ·simp [e]
             ·simp [vM e]
           simp only [cK,a1,a2,a3,a4,a5,decide_true,Bool.true_and,this,hr,eP]
         repeat first|refine gd ?_|intro _
         (apply ad rfl rfl ar;(first|exact cS|exact ⟨by simp [hb]<;>omega,rfl⟩);exact bM)
      ·repeat first|refine gd ?_|intro _
       (apply ad rfl rfl ar;(first|exact cS|exact ⟨by simp [cK,a5]<;>omega,rfl⟩);exact bM)
     ·repeat first|refine gd ?_|intro _
      (apply ad rfl rfl ar;(first|exact cS|exact ⟨by simp [cK,a4]<;>omega,rfl⟩);exact bM)
    ·repeat first|refine gd ?_|intro _
     (apply ad rfl rfl ar;(first|exact cS|exact ⟨by simp [cK,a3]<;>omega,rfl⟩);exact bM)
   ·repeat first|refine gd ?_|intro _
    (apply ad rfl rfl ar;(first|exact cS|exact ⟨by simp [cK,a2]<;>omega,rfl⟩);exact bM)
  ·repeat first|refine gd ?_|intro _
   (apply ad rfl rfl ar;(first|exact cS|exact ⟨by simp [cK,a1]<;>omega,rfl⟩);exact bM)
theorem rJ {F:List HP} {s:ij} {a:Option Addr} {k:Nat} {u:Value} {kI:List Int} (hk:bN F 1 (.slice a s.ps.length k) s.ps.length (aj ic s.ps)) (hm:cK s=true) (hb:bN F 1 u kI.length (aj ic kI)) (zG:kI.length≤1000) :
    az prog 270 [BL s a k,u] [] F (fun r L'=>∃ p c,r= .slice p (eE s kI s.ax.toNat).length c∧L'=[aT 3 1 (.slice p (eE s kI s.ax.toNat).length c) (eE s kI s.ax.toNat).length (aj ic (eE s kI s.ax.toNat))]):=by
  obtain ⟨m1,m2,m3,m4,m5,m6,m7,m8⟩:=cP hm;obtain ⟨n,hn⟩:∃ n:Nat,s.ax=n:=⟨s.ax.toNat,om⟩;refine ay func270 ntmps270 ?_;repeat first|refine gd ?_|intro _
  rename_i bs bb
  apply aO (E0:=[(1,_),(2,_)]) (fun E0 (q:Nat×Option Addr×Nat)=>(6,.int .i64 q.1)::(5,.slice q.2.1 (eE s kI q.1).length q.2.2)::E0)
    (fun q=>aT 3 1 (.slice q.2.1 (eE s kI q.1).length q.2.2) (eE s kI q.1).length (aj ic (eE s kI q.1))::ao bs 226 (O1 s a k)::F) (fun q=>q.1≤n) (fun q=>n-q.1) (0,_,_)
  ·exact bH
  ·exact Nat.zero_le _
  ·dsimp only;rw [show eE s kI 0=[] from rfl];simp only [List.length_nil,lU];exact af
  ·rintro ⟨j,p,c⟩ hj;dsimp only at hj ⊢;have hlen:(eE s kI j).length≤j:=by
     have:=List.length_filter_le (fun c=>dM s c&& !decide (c∈kI)) (upto j);simp only [upto,List.length_map,List.length_range] at this;exact this
   have qI:eE s kI (j+1)=if dM s j&& !decide ((j:Int)∈kI) then eE s kI j++[(j:Int)] else eE s kI j:=by
     unfold eE upto;rw [List.range_succ,List.map_append,List.filter_append];by_cases h:(dM s j&& !decide ((j:Int)∈kI))=true
     ·simp [h]
     ·simp [h]
   by_cases bB:j<n
   ·have hH:=fun F (hk:bN F 1 (.slice a s.ps.length k) s.ps.length (aj ic s.ps))=>yj (c:=(j:Int)) hk (om);simp only [AP hm] at hH;cases hh:dM s j with
    |false=>
     simp only [hh] at hH;rw [hh] at qI;rw [Bool.false_and,if_neg Bool.false_ne_true] at qI;repeat first|refine gd ?_|intro _|refine ae @hH ?_
     refine aC (j+1,p,c) (by dsimp only;omega) (by dsimp only;omega) ?_ ?_
     ·dsimp only;rw [qI];exact bH
     ·dsimp only;rw [qI];exact af
    |true=>
     simp only [hh] at hH;rw [hh] at qI;by_cases hc:(j:Int)∈kI
     ·have I3:¬¬((j:Int)∈kI):=fun h=>h hc;rw [if_neg (by simp [hc])] at qI;repeat first|refine gd ?_|intro _|refine ae @hH ?_|refine ae @Fl ?_
      refine aC (j+1,p,c) (by dsimp only;omega) (by dsimp only;omega) ?_ ?_
      ·dsimp only;rw [qI];exact bH
      ·dsimp only;rw [qI];exact af
     ·rw [if_pos (by simp [hc])] at qI;repeat first|refine gd ?_|intro _|refine ae @hH ?_|refine ae @Fl ?_
      rename_i b2 p2 c2;refine aC (j+1,p2,c2) (by dsimp only;omega) (by dsimp only;omega) ?_ ?_
      ·dsimp only;rw [qI,List.length_append,List.length_singleton];exact bH
      ·dsimp only;rw [qI,List.length_append,List.length_singleton,aJ,bi];exact af
   ·have Pz:j=s.ax.toNat:=by omega
    repeat first|refine gd ?_|intro _
    subst Pz;(apply ad rfl rfl ar)
    ·exact ⟨p,c,rfl,rfl⟩
    ·exact af
theorem vr {F:List HP} {s:ij} {a:Option Addr} {k:Nat} {x:Int} (hk:bN F 1 (.slice a s.ps.length k) s.ps.length (aj ic s.ps)) (hn:s.ps.length≤1000) (hx:dM s x=true→cK s=true→0≤x→x<s.ax→False) :
    az prog 268 [BL s a k,.int .i64 x] [] F (fun r L'=>∃ a' k',r= .tuple [BL (c7 s x) a' k',.int .i64 (jU s x)].toArray∧L'=[aT 3 1 (.slice a' (c7 s x).ps.length k') (c7 s x).ps.length (aj ic (c7 s x).ps)]):=by
  cases hm:cK s with
  |false=>
   have e1:jU s x=1:=by simp [jU,hm]
   have e2:c7 s x= .no:=by simp [c7,e1]
   rw [e1,e2];have hM:=fun F (hk:bN F 1 (.slice a s.ps.length k) s.ps.length (aj ic s.ps))=>vq hk hn;simp only [hm] at hM;refine ay func268 ntmps268 ?_;repeat first|refine gd ?_|intro _|refine ae @hM ?_
   (apply ad rfl rfl ar)
   ·exact ⟨none,0,rfl,rfl⟩
   ·refine ai.trans ?_ (aI ai.refl);exact af
  |true=>
   have hM:=fun F (hk:bN F 1 (.slice a s.ps.length k) s.ps.length (aj ic s.ps))=>vq hk hn;simp only [hm] at hM;obtain ⟨m1,m2,m3,m4,m5,m6,m7,m8⟩:=cP hm;by_cases hr:x<0∨s.ax≤x
   ·have e1:jU s x=5:=by simp only [jU,hm,if_true,if_pos hr]
    have e2:c7 s x= .no:=by simp [c7,e1]
    rw [e1,e2];refine ay func268 ntmps268 ?_;by_cases h0:x<0
    ·repeat first|refine gd ?_|intro _|refine ae @hM ?_
     (apply ad rfl rfl ar)
     ·exact ⟨none,0,rfl,rfl⟩
     ·refine ai.trans ?_ (aI ai.refl);exact af
    ·repeat first|refine gd ?_|intro _|refine ae @hM ?_
     (apply ad rfl rfl ar)
     ·exact ⟨none,0,rfl,rfl⟩
     ·refine ai.trans ?_ (aI ai.refl);exact af
   ·have e1:jU s x=0:=by simp only [jU,hm,if_true,if_neg hr]
    have Cu:0≤x:=by omega
    have J1:x<s.ax:=by omega
    have hH:=fun F (c:Int) (hk:bN F 1 (.slice a s.ps.length k) s.ps.length (aj ic s.ps))=>yj (c:=c) hk hn;simp only [AP hm] at hH;have Sg:=fun F (hk:bN F 1 (.slice a s.ps.length k) s.ps.length (aj ic s.ps))=>hH F x hk;cases hh:dM s x with
    |true=>exact absurd (hx hh hm Cu J1) id
    |false=>
     simp only [hh] at Sg;have vM:=zl Cu J1 hh;by_cases hf:(s.ps.length:Int)=s.dJ
     ·have e2:c7 s x=⟨s.ax,s.dJ,[],true⟩:=by simp [c7,e1,hh,hf]
      rw [e1,e2];refine ay func268 ntmps268 ?_;repeat first|refine gd ?_|intro _|refine ae @hM ?_|refine ae @Sg ?_
      (apply ad rfl rfl ar)
      ·exact ⟨none,0,rfl,rfl⟩
      ·refine ai.trans ?_ (aI ai.refl);exact af
     ·have e2:c7 s x=⟨s.ax,s.dJ,yR x s.ps,s.all⟩:=by simp [c7,e1,hh,hf]
      rw [e1,e2,←P7 hm Cu J1 hh vM];obtain ⟨n,hn⟩:∃ n:Nat,s.ax=n:=⟨s.ax.toNat,om⟩;refine ay func268 ntmps268 ?_;repeat first|refine gd ?_|intro _|refine ae @hM ?_|refine ae @Sg ?_
      rename_i bs br bo
      apply aO (E0:=[(1,_),(2,_),(4,_),(6,_)]) (fun E0 (q:Nat×Option Addr×Nat)=>(7,.int .i64 q.1)::E0)
        (fun q=>aT 3 1 (.slice q.2.1 (sj s x q.1).length q.2.2) (sj s x q.1).length (aj ic (sj s x q.1))::ao bo 226 [.int .i64 s.ax,.int .i64 s.dJ,.slice q.2.1 (sj s x q.1).length q.2.2,.bool false]::ao bs 226 (O1 s a k)::ao br 226 [.int .i64 0,.int .i64 0,.slice none 0 0,.bool false]::F) (fun q=>q.1≤n) (fun q=>n-q.1) (0,none,0)
      ·exact bH
      ·exact Nat.zero_le _
      ·dsimp only;rw [show sj s x 0=[] from rfl];simp only [List.length_nil,lU];refine ai.trans ?_ (aI ai.refl);exact af
      ·rintro ⟨j,p,c⟩ hj;dsimp only at hj ⊢;have hlen:(sj s x j).length≤j:=by
         have:=List.length_filter_le (fun c=>decide (c=x)|| dM s c) (upto j);simp only [upto,List.length_map,List.length_range] at this;exact this
       have qI:sj s x (j+1)=if decide ((j:Int)=x)|| dM s j then sj s x j++[(j:Int)] else sj s x j:=by
         unfold sj upto;rw [List.range_succ,List.map_append,List.filter_append];by_cases h:(decide ((j:Int)=x)|| dM s j)=true
         ·simp [h]
         ·simp [h]
       by_cases bB:j<n
       ·have Uy:=fun F (hk:bN F 1 (.slice a s.ps.length k) s.ps.length (aj ic s.ps))=>hH F j hk;by_cases Em:(j:Int)=x
        ·rw [if_pos (by simp [Em])] at qI;repeat first|refine gd ?_|intro _|refine ae @Uy ?_
         rename_i b2 p2 c2;refine aC (j+1,p2,c2) (by dsimp only;omega) (by dsimp only;omega) ?_ ?_
         ·dsimp only;exact bH
         ·dsimp only;rw [qI,List.length_append,List.length_singleton,aJ,bi];exact af
        ·cases Vo:dM s j with
         |true=>
          simp only [Vo] at Uy;rw [if_pos (by simp [Vo])] at qI;repeat first|refine gd ?_|intro _|refine ae @Uy ?_
          rename_i b2 p2 c2;refine aC (j+1,p2,c2) (by dsimp only;omega) (by dsimp only;omega) ?_ ?_
          ·dsimp only;exact bH
          ·dsimp only;rw [qI,List.length_append,List.length_singleton,aJ,bi];exact af
         |false=>
          simp only [Vo] at Uy;rw [if_neg (by simp [Vo,Em])] at qI;repeat first|refine gd ?_|intro _|refine ae @Uy ?_
          refine aC (j+1,p,c) (by dsimp only;omega) (by dsimp only;omega) ?_ ?_
          ·dsimp only;exact bH
          ·dsimp only;rw [qI];exact af
       ·have Pz:j=s.ax.toNat:=by omega
        repeat first|refine gd ?_|intro _
        subst Pz;rw [vM];(apply ad rfl rfl ar)
        ·exact ⟨p,c,rfl,rfl⟩
        ·exact af
theorem oO {F:List HP} {s:ij} {a:Option Addr} {k:Nat} {x:Int} (hk:bN F 1 (.slice a s.ps.length k) s.ps.length (aj ic s.ps)) (hm:cK s=true) (Cu:0≤x) (J1:x<s.ax) (hh:dM s x=true) :
    az prog 268 [BL s a k,.int .i64 x] [] F (fun r L'=>r= .tuple [BL s a k,.int .i64 0].toArray∧L'=[]):=by
  obtain ⟨m1,m2,m3,m4,m5,m6,m7,m8⟩:=cP hm;have hM:=fun F (hk:bN F 1 (.slice a s.ps.length k) s.ps.length (aj ic s.ps))=>vq hk (om);simp only [hm] at hM;have Sg:=fun F (hk:bN F 1 (.slice a s.ps.length k) s.ps.length (aj ic s.ps))=>yj (c:=x) hk (om);simp only [AP hm,hh] at Sg;refine ay func268 ntmps268 ?_;repeat first|refine gd ?_|intro _|refine ae @hM ?_|refine ae @Sg ?_
  exact aM
end
section
instance:F2 prog 244 OP false:=⟨_,_,_,_,_,underlying244,underlying3,TZ.pf⟩
attribute [local irreducible] Exit.then Exit.inBlock Code.wp WC WO WE WQ V aW dL Sat bz bK dU IntKind.wrap WR Code.rounds WT KO
end
section
theorem Nz (s:ij) (x:Int):(c7 s x).ps.length≤s.ps.length+1:=by
  unfold c7;split
  ·split
   ·omega
   ·split
    ·simp
    ·simp only [AO];omega
  ·simp
theorem DZ (s:ij) (kI:List Int) (n:Nat):(eE s kI n).length≤n:=by
  have:=List.length_filter_le (fun c=>dM s c&& !decide (c∈kI)) (upto n);simp only [upto,List.length_map,List.length_range] at this;exact this
attribute [local irreducible] Exit.then Exit.inBlock Code.wp WC WO WE WQ V aW dL Sat bz bK dU IntKind.wrap WR Code.rounds WT KO
end
end Go.Sx
