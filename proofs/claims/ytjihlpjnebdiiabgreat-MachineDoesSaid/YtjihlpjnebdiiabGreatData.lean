/- The program's data: words, messages, operations, as structures, with their cells. My own work. -/
import Derived.Test.YtjihlpjnebdiiabGreatGo
import Derived.Test.YtjihlpjnebdiiabGreatEqT
set_option linter.unusedVariables false
set_option linter.unusedSectionVars false
set_option linter.unusedSimpArgs false
namespace Go.Sx
open Go Go.Proofs
structure Words where
  w0:Int
  w1:Int
  w2:Int
  w3:Int
  w4:Int
  w5:Int
  w6:Int
  w7:Int
abbrev wc (w:Words):List Value:=[.int .i64 w.w0,.int .i64 w.w1,.int .i64 w.w2,.int .i64 w.w3,.int .i64 w.w4,.int .i64 w.w5,.int .i64 w.w6,.int .i64 w.w7]
def Words.list (w:Words):List Int:=[w.w0,w.w1,w.w2,w.w3,w.w4,w.w5,w.w6,w.w7]
theorem Words.ext' {a b:Words} (h:a.list=b.list):a=b:=by
  cases a;cases b;simp [Words.list] at h;simp [h]
instance:DecidableEq Words:=fun a b=>decidable_of_iff (a.list=b.list) ⟨Words.ext',fun h=>by rw [h]⟩
abbrev Words.zero:Words:=⟨0,0,0,0,0,0,0,0⟩
structure bA where
  ah:Int
  aa:Int
  src:Int
  dst:Int
  mu:Int
  aH:Int
  bI:Int
  ag:Words
abbrev mc (m:bA):List Value:=[.int .i64 m.ah,.int .i64 m.aa,.int .i64 m.src,.int .i64 m.dst,.int .i64 m.mu,.int .i64 m.aH,.int .i64 m.bI,.int .i64 m.ag.w0,.int .i64 m.ag.w1,.int .i64 m.ag.w2,.int .i64 m.ag.w3,.int .i64 m.ag.w4,.int .i64 m.ag.w5,.int .i64 m.ag.w6,.int .i64 m.ag.w7]
theorem bA.iZ {a b:bA}:(a.ah=b.ah∧a.aa=b.aa∧a.src=b.src∧a.dst=b.dst∧a.mu=b.mu∧a.aH=b.aH∧a.bI=b.bI∧a.ag=b.ag)↔a=b:=by
  cases a;cases b;simp
instance:DecidableEq bA:=fun a b=>decidable_of_iff _ bA.iZ
abbrev bA.zero:bA:=⟨0,0,0,0,0,0,0,.zero⟩
structure c5 where
  ah:Int
  addr:Int
  value:Int
abbrev oc (o:c5):List Value:=[.int .i64 o.ah,.int .i64 o.addr,.int .i64 o.value]
abbrev c5.Uk (m:c5):Int×Int×Int:=(m.ah,m.addr,m.value)
theorem c5.ext' {a b:c5} (h:a.Uk=b.Uk):a=b:=by
  cases a;cases b;simp [c5.Uk] at h;simp [h]
instance:DecidableEq c5:=fun a b=>decidable_of_iff (a.Uk=b.Uk) ⟨c5.ext',fun h=>by rw [h]⟩
abbrev ic (n:Int):List Value:=[.int .i64 n]
abbrev iv (n:Int):Value:= .int .i64 n
abbrev OP (b:Bool):Value:= .bool b
abbrev wv (w:Words):Value:= .agg (wc w).toArray
abbrev mv (m:bA):Value:= .agg (mc m).toArray
abbrev ov (m:c5):Value:= .agg (oc m).toArray
structure li where
  aa:Int
  ag:Words
  live:Bool
abbrev bc (e:li):List Value:=[.int .i64 e.aa,.int .i64 e.ag.w0,.int .i64 e.ag.w1,.int .i64 e.ag.w2,.int .i64 e.ag.w3,.int .i64 e.ag.w4,.int .i64 e.ag.w5,.int .i64 e.ag.w6,.int .i64 e.ag.w7,.bool e.live]
abbrev bv (m:li):Value:= .agg (bc m).toArray
theorem li.iZ {a b:li}:(a.aa=b.aa∧a.ag=b.ag∧a.live=b.live)↔a=b:=by
  cases a;cases b;simp
instance:DecidableEq li:=fun a b=>decidable_of_iff _ li.iZ
structure QE where
  m:bA
  st:Bool
  aK:List bA
theorem QE.iZ {a b:QE}:(a.m=b.m∧a.st=b.st∧a.aK=b.aK)↔a=b:=by
  cases a;cases b;simp
instance:DecidableEq QE:=fun a b=>decidable_of_iff _ QE.iZ
abbrev QP:=QE×(Option Addr×Nat)
abbrev LV (p:QP):Value:= .slice p.2.1 p.1.aK.length p.2.2
abbrev qc (p:QP):List Value:=[.int .i64 p.1.m.ah,.int .i64 p.1.m.aa,.int .i64 p.1.m.src,.int .i64 p.1.m.dst,.int .i64 p.1.m.mu,.int .i64 p.1.m.aH,.int .i64 p.1.m.bI,.int .i64 p.1.m.ag.w0,.int .i64 p.1.m.ag.w1,.int .i64 p.1.m.ag.w2,.int .i64 p.1.m.ag.w3,.int .i64 p.1.m.ag.w4,.int .i64 p.1.m.ag.w5,.int .i64 p.1.m.ag.w6,.int .i64 p.1.m.ag.w7,.bool p.1.st,.slice p.2.1 p.1.aK.length p.2.2]
abbrev qv (p:QP):Value:= .agg (qc p).toArray
def Words.of (l:List Int):Words:=⟨l.getD 0 0,l.getD 1 0,l.getD 2 0,l.getD 3 0,l.getD 4 0,l.getD 5 0,l.getD 6 0,l.getD 7 0⟩
theorem Words.Jc (w:Words):Words.of w.list=w:=by cases w;rfl
theorem Words.rL (w:Words):w.list.length=8:=rfl
theorem Words.Jd {l:List Int} (h:l.length=8):(Words.of l).list=l:=by
  match l,h with
  | [a,b,c,d,e,f,g,i],_=>rfl
theorem DP {l:List Int} (h:l.length=8):aj ic l=wc (Words.of l):=by
  match l,h with
  | [a,b,c,d,e,f,g,i],_=>rfl
theorem Er {l:List Int} (h:l.length≤8):aV (wc .zero) 0 (aj ic l)=wc (Words.of l):=by
  match l,h with
  | [],_=>rfl
  | [a],_=>rfl
  | [a,b],_=>rfl
  | [a,b,c],_=>rfl
  | [a,b,c,d],_=>rfl
  | [a,b,c,d,e],_=>rfl
  | [a,b,c,d,e,f],_=>rfl
  | [a,b,c,d,e,f,g],_=>rfl
  | [a,b,c,d,e,f,g,i],_=>rfl
  |a::b::c::d::e::f::g::i::j::r,h=>exact absurd h (by simp)
def c5.wf (o:c5):Prop:=dZ o.ah∧dZ o.addr∧dZ o.value
def bO {α:Type} (p:α→Bool) (l:List α):Int:=match l.findIdx? p with|some i=>(i:Int)|none=> -1
theorem eU {α:Type} {p:α→Bool} {l:List α} {i:Nat} (hi:i<l.length) (h1:∀ j (h:j<l.length),j<i→p l[j]=false) (he:p l[i]=true):bO p l=i:=by
  unfold bO;have:l.findIdx? p=some i:=by
    rw [List.findIdx?_eq_some_iff_getElem];exact ⟨hi,he,fun j hj=>by simpa using h1 j (om) hj⟩
  rw [this]
theorem dr {α:Type} {p:α→Bool} {l:List α} (h1:∀ j (h:j<l.length),j<l.length→p l[j]=false):bO p l= -1:=by
  unfold bO;have:l.findIdx? p=none:=by
    rw [List.findIdx?_eq_none_iff];intro y hy;obtain ⟨i,hi,rfl⟩:=List.getElem_of_mem hy;simpa using h1 i hi hi
  rw [this]
theorem HE {α:Type} (p:α→Bool) (l:List α): -1≤bO p l∧bO p l<l.length:=by
  unfold bO;cases e:l.findIdx? p with
  |none=>simp;omega
  |some i=>have:=(List.findIdx?_eq_some_iff_getElem.1 e).1;simp;omega
theorem fx {α:Type} {p:α→Bool} {l:List α} (h:0≤bO p l):∃ i:Nat,∃ hi:i<l.length,bO p l=i∧p l[i]=true∧∀ j (hj:j<l.length),j<i→p l[j]=false:=by
  unfold bO at h ⊢;cases e:l.findIdx? p with
  |none=>simp [e] at h
  |some i=>
   obtain ⟨h1,h2,h3⟩:=List.findIdx?_eq_some_iff_getElem.1 e;exact ⟨i,h1,rfl,h2,fun j hj rp=>by simpa using h3 j rp⟩
theorem ix {α:Type} {p:α→Bool} {l:List α} (h:¬0≤bO p l):bO p l= -1∧∀ x∈l,p x=false:=by
  unfold bO at h ⊢;cases e:l.findIdx? p with
  |none=>exact ⟨rfl,fun x hx=>by simpa using List.findIdx?_eq_none_iff.1 e x hx⟩
  |some i=>simp [e] at h
theorem ia {α:Type} {l:List α} {i:Nat} {d:α} (h:i<l.length):l[i]=l.getD i d:=by simp [List.getD_eq_getElem?_getD,h]
theorem aJ {α:Type} {enc:α→List Value} {xs ys:List α}:aj enc (xs++ys)=aj enc xs++aj enc ys:=List.flatMap_append ..
theorem bi {α:Type} {enc:α→List Value} {x:α}:aj enc [x]=enc x:=by simp
theorem lU {α:Type} {enc:α→List Value}:aj enc ([]:List α)=[]:=rfl
theorem eR {α:Type} {enc:α→List Value} {n:Nat} (h:∀ x,(enc x).length=n):∀ (l:List α) (i:Nat) (hi:i<l.length) {j:Nat} {cs:List Value} {x:α},j+cs.length≤n→aV (enc l[i]) j cs=enc x→
    aV (aj enc l) (i*n+j) cs=aj enc (l.set i x)
  | [],_,hi,_,_,_,_,_=>by simp at hi
  |a::r,0,hi,j,cs,x,hj,e=>by
   have ha:=h a
   simp only [List.getElem_cons_zero] at e;simp only [Nat.zero_mul,Nat.zero_add,List.set_cons_zero,aj,List.flatMap_cons];rw [←e];unfold aV;rw [List.take_append_of_le_length (om),List.drop_append_of_le_length (om)];simp [List.append_assoc]
  |a::r,i+1,hi,j,cs,x,hj,e=>by
   have ha:=h a;have ih:=eR h r i (by simpa using hi) hj (by simpa using e);simp only [List.set_cons_succ,aj,List.flatMap_cons] at ih ⊢;rw [←ih];unfold aV;have e1:(i+1)*n+j=(enc a).length+(i*n+j):=by rw [ha,Nat.succ_mul];omega
   rw [e1,List.take_append,List.take_of_length_le (om),Nat.add_sub_cancel_left,Nat.add_assoc,List.drop_append,List.drop_of_length_le (om),Nat.add_sub_cancel_left];simp [List.append_assoc]
theorem mb {α:Type} {enc:α→List Value} {n:Nat} (h:∀ x,(enc x).length=n) (l:List α) (i:Nat) (hi:i<l.length) {cs:List Value} {x:α} (hj:cs.length≤n) (e:aV (enc l[i]) 0 cs=enc x) :
    aV (aj enc l) (i*n) cs=aj enc (l.set i x):=by
  have:=eR h l i hi (j:=0) (cs:=cs) (x:=x) (om) e;simpa using this
def RL {α:Type} (T e:TypeId) (sz:Nat) (enc:α→List Value) (b:Nat) (ak:Int) (l:List α):HP:=
  Ex fun q:Option Addr×Nat=>[ao b T [.int .i64 ak,.slice q.1 l.length q.2],aT e sz (.slice q.1 l.length q.2) l.length (aj enc l),ja ((l.length:Int)≤ak∧ak≤4096)]
theorem bC {α:Type} {T e:TypeId} {sz:Nat} {enc:α→List Value} {b n:Nat} {ak:Int} {l:List α} {p:Option Addr} {c:Nat} {xs:List Value} {L M:List HP}
    (h:ai L (ao b T [.int .i64 ak,.slice p n c]::aT e sz (.slice p n c) n xs::M)) (hn:n=l.length) (hx:xs=aj enc l) (hl:(l.length:Int)≤ak∧ak≤4096):ai L (RL T e sz enc b ak l::M):=by
  subst hn hx;refine ai.trans h (ai.trans ?_ (fU (p:=fun q:Option Addr×Nat=>[ao b T [.int .i64 ak,.slice q.1 l.length q.2],aT e sz (.slice q.1 l.length q.2) l.length (aj enc l),ja ((l.length:Int)≤ak∧ak≤4096)]) (p,c)));exact ai.cons (ai.cons (cX hl))
theorem cC {α:Type} {T e:TypeId} {sz:Nat} {enc:α→List Value} {b:Nat} {ak:Int} {l:List α} {P:Program} {N:Nat} {c:Code} {env:Env} {L:List HP} {Q:Exit→Act→World→Prop}
    (h:∀ p c0,(l.length:Int)≤ak∧ak≤4096→WC P N c env (ao b T [.int .i64 ak,.slice p l.length c0]::aT e sz (.slice p l.length c0) l.length (aj enc l)::L) Q):WC P N c env (RL T e sz enc b ak l::L) Q:=by
  intro a w ha hw;obtain ⟨⟨p,c0⟩,hx⟩:=eN hw;simp only [eX] at hx;have hf:=fc (aG (aG hx));exact h p c0 hf a w ha ((ai.cons (ai.cons (ai.drop ai.refl))) _ hx)
theorem lV {α:Type} {T e:TypeId} {sz:Nat} {enc:α→List Value} {b:Nat} {ak:Int} {l:List α} {P:Program} {N:Nat} {all:Array Oper} {c:List Oper} {env:Env} {L:List HP} {Q:Exit→Act→World→Prop}
    (h:∀ p c0,(l.length:Int)≤ak∧ak≤4096→WO P N all c env (ao b T [.int .i64 ak,.slice p l.length c0]::aT e sz (.slice p l.length c0) l.length (aj enc l)::L) Q):WO P N all c env (RL T e sz enc b ak l::L) Q:=by
  intro a w ha hw;obtain ⟨⟨p,c0⟩,hx⟩:=eN hw;simp only [eX] at hx;have hf:=fc (aG (aG hx));exact h p c0 hf a w ha ((ai.cons (ai.cons (ai.drop ai.refl))) _ hx)
theorem VI {α:Type} {T e:TypeId} {sz:Nat} {enc:α→List Value} {b:Nat} {ak:Int} {l:List α} {P:Program} {f:FuncId} {vs:List Value} {F:List HP} {u:Value}
    (h:∀ p c,(l.length:Int)≤ak∧ak≤4096→az P f vs [ao b T [.int .i64 ak,.slice p l.length c],aT e sz (.slice p l.length c) l.length (aj enc l)] F
     (fun r L'=>r=u∧L'=[ao b T [.int .i64 ak,.slice p l.length c],aT e sz (.slice p l.length c) l.length (aj enc l)]))
    (en:sk P f):az P f vs [RL T e sz enc b ak l] F (fun r L'=>r=u∧L'=[RL T e sz enc b ak l]):=by
  refine ⟨en,fun w hw=>?_⟩;obtain ⟨⟨p,c0⟩,hx⟩:=eN hw;simp only [eX] at hx;have hf:=fc (aG (aG hx));refine ((h p c0 hf).runs w ((ai.cons (ai.cons (ai.drop ai.refl))) _ hx)).mono ?_;rintro e w' ⟨v,L',he,⟨hv,hL⟩,hs⟩;subst hL;exact ⟨v,_,he,⟨hv,rfl⟩,(bC ai.refl rfl rfl hf).gX hs⟩
end Go.Sx
