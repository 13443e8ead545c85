/- The program's data: words, messages, operations, as structures, with their cells. My own work. -/
import Derived.Test.YtjihlpjnebdiiaaGreatGo
import Derived.Test.YtjihlpjnebdiiaaGreatEqT
set_option linter.unusedVariables false
set_option linter.unusedSectionVars false
set_option linter.unusedSimpArgs false
namespace Go.Sx
open Go Go.Proofs
structure Words where
  w0:Int
  w1:Int
  w2:Int
  w3:Int
  w4:Int
  w5:Int
  w6:Int
  w7:Int
abbrev wc (w:Words):List Value:=[.int .i64 w.w0,.int .i64 w.w1,.int .i64 w.w2,.int .i64 w.w3,.int .i64 w.w4,.int .i64 w.w5,.int .i64 w.w6,.int .i64 w.w7]
def Words.list (w:Words):List Int:=[w.w0,w.w1,w.w2,w.w3,w.w4,w.w5,w.w6,w.w7]
theorem Words.ext' {a b:Words} (h:a.list=b.list):a=b:=by
  cases a;cases b;simp [Words.list] at h;simp [h]
instance:DecidableEq Words:=fun a b=>decidable_of_iff (a.list=b.list) ⟨Words.ext',fun h=>by rw [h]⟩
abbrev Words.zero:Words:=⟨0,0,0,0,0,0,0,0⟩
structure Msg where
  kind:Int
  line:Int
  src:Int
  dst:Int
  who:Int
  acks:Int
  own:Int
  words:Words
abbrev mc (m:Msg):List Value:=[.int .i64 m.kind,.int .i64 m.line,.int .i64 m.src,.int .i64 m.dst,.int .i64 m.who,.int .i64 m.acks,.int .i64 m.own,.int .i64 m.words.w0,.int .i64 m.words.w1,.int .i64 m.words.w2,.int .i64 m.words.w3,.int .i64 m.words.w4,.int .i64 m.words.w5,.int .i64 m.words.w6,.int .i64 m.words.w7]
theorem Msg.ext_iff' {a b:Msg}:(a.kind=b.kind∧a.line=b.line∧a.src=b.src∧a.dst=b.dst∧a.who=b.who∧a.acks=b.acks∧a.own=b.own∧a.words=b.words)↔a=b:=by
  cases a;cases b;simp
instance:DecidableEq Msg:=fun a b=>decidable_of_iff _ Msg.ext_iff'
abbrev Msg.zero:Msg:=⟨0,0,0,0,0,0,0,.zero⟩
structure Op3 where
  kind:Int
  addr:Int
  value:Int
abbrev oc (o:Op3):List Value:=[.int .i64 o.kind,.int .i64 o.addr,.int .i64 o.value]
abbrev Op3.tup (m:Op3):Int×Int×Int:=(m.kind,m.addr,m.value)
theorem Op3.ext' {a b:Op3} (h:a.tup=b.tup):a=b:=by
  cases a;cases b;simp [Op3.tup] at h;simp [h]
instance:DecidableEq Op3:=fun a b=>decidable_of_iff (a.tup=b.tup) ⟨Op3.ext',fun h=>by rw [h]⟩
abbrev ic (n:Int):List Value:=[.int .i64 n]
abbrev iv (n:Int):Value:= .int .i64 n
abbrev f4b (b:Bool):Value:= .bool b
abbrev wv (w:Words):Value:= .agg (wc w).toArray
abbrev mv (m:Msg):Value:= .agg (mc m).toArray
abbrev ov (m:Op3):Value:= .agg (oc m).toArray
structure WbE where
  line:Int
  words:Words
  live:Bool
abbrev bc (e:WbE):List Value:=[.int .i64 e.line,.int .i64 e.words.w0,.int .i64 e.words.w1,.int .i64 e.words.w2,.int .i64 e.words.w3,.int .i64 e.words.w4,.int .i64 e.words.w5,.int .i64 e.words.w6,.int .i64 e.words.w7,.bool e.live]
abbrev bv (m:WbE):Value:= .agg (bc m).toArray
theorem WbE.ext_iff' {a b:WbE}:(a.line=b.line∧a.words=b.words∧a.live=b.live)↔a=b:=by
  cases a;cases b;simp
instance:DecidableEq WbE:=fun a b=>decidable_of_iff _ WbE.ext_iff'
structure QE where
  m:Msg
  st:Bool
  sends:List Msg
theorem QE.ext_iff' {a b:QE}:(a.m=b.m∧a.st=b.st∧a.sends=b.sends)↔a=b:=by
  cases a;cases b;simp
instance:DecidableEq QE:=fun a b=>decidable_of_iff _ QE.ext_iff'
abbrev QP:=QE×(Option Addr×Nat)
abbrev f5d (p:QP):Value:= .slice p.2.1 p.1.sends.length p.2.2
abbrev qc (p:QP):List Value:=[.int .i64 p.1.m.kind,.int .i64 p.1.m.line,.int .i64 p.1.m.src,.int .i64 p.1.m.dst,.int .i64 p.1.m.who,.int .i64 p.1.m.acks,.int .i64 p.1.m.own,.int .i64 p.1.m.words.w0,.int .i64 p.1.m.words.w1,.int .i64 p.1.m.words.w2,.int .i64 p.1.m.words.w3,.int .i64 p.1.m.words.w4,.int .i64 p.1.m.words.w5,.int .i64 p.1.m.words.w6,.int .i64 p.1.m.words.w7,.bool p.1.st,.slice p.2.1 p.1.sends.length p.2.2]
abbrev qv (p:QP):Value:= .agg (qc p).toArray
structure QOp where
  d:Int
  n:Int
  m:Msg
  sends:List Msg
  a:Option Addr
  c:Nat
def Words.of (l:List Int):Words:=⟨l.getD 0 0,l.getD 1 0,l.getD 2 0,l.getD 3 0,l.getD 4 0,l.getD 5 0,l.getD 6 0,l.getD 7 0⟩
theorem Words.of_list (w:Words):Words.of w.list=w:=by cases w;rfl
theorem Words.list_len (w:Words):w.list.length=8:=rfl
theorem Words.list_of {l:List Int} (h:l.length=8):(Words.of l).list=l:=by
  match l,h with
  | [a,b,c,d,e,f,g,i],_=>rfl
theorem e5x {l:List Int} (h:l.length=8):aC ic l=wc (Words.of l):=by
  match l,h with
  | [a,b,c,d,e,f,g,i],_=>rfl
theorem b4y {l:List Int} (h:l.length≤8):aQ (wc .zero) 0 (aC ic l)=wc (Words.of l):=by
  match l,h with
  | [],_=>rfl
  | [a],_=>rfl
  | [a,b],_=>rfl
  | [a,b,c],_=>rfl
  | [a,b,c,d],_=>rfl
  | [a,b,c,d,e],_=>rfl
  | [a,b,c,d,e,f],_=>rfl
  | [a,b,c,d,e,f,g],_=>rfl
  | [a,b,c,d,e,f,g,i],_=>rfl
  |a::b::c::d::e::f::g::i::j::r,h=>exact absurd h (by simp)
def Op3.wf (o:Op3):Prop:=nA o.kind∧nA o.addr∧nA o.value
def bA {α:Type} (p:α→Bool) (l:List α):Int:=match l.findIdx? p with|some i=>(i:Int)|none=> -1
theorem kG {α:Type} {p:α→Bool} {l:List α} {i:Nat} (hi:i<l.length) (h1:∀ j (h:j<l.length),j<i→p l[j]=false) (he:p l[i]=true):bA p l=i:=by
  unfold bA
  have:l.findIdx? p=some i:=by
    rw [List.findIdx?_eq_some_iff_getElem]
    exact ⟨hi,he,fun j hj=>by simpa using h1 j (om) hj⟩
  rw [this]
theorem gT {α:Type} {p:α→Bool} {l:List α} (h1:∀ j (h:j<l.length),j<l.length→p l[j]=false):bA p l= -1:=by
  unfold bA
  have:l.findIdx? p=none:=by
    rw [List.findIdx?_eq_none_iff]
    intro y hy
    obtain ⟨i,hi,rfl⟩:=List.getElem_of_mem hy
    simpa using h1 i hi hi
  rw [this]
theorem c4m {α:Type} (p:α→Bool) (l:List α): -1≤bA p l∧bA p l<l.length:=by
  unfold bA
  cases e:l.findIdx? p with
  |none=>simp;omega
  |some i=>have:=(List.findIdx?_eq_some_iff_getElem.1 e).1;simp;omega
theorem cR {α:Type} {p:α→Bool} {l:List α} (h:0≤bA p l):∃ i:Nat,∃ hi:i<l.length,bA p l=i∧p l[i]=true∧∀ j (hj:j<l.length),j<i→p l[j]=false:=by
  unfold bA at h ⊢
  cases e:l.findIdx? p with
  |none=>simp [e] at h
  |some i=>
   obtain ⟨h1,h2,h3⟩:=List.findIdx?_eq_some_iff_getElem.1 e
   exact ⟨i,h1,rfl,h2,fun j hj hji=>by simpa using h3 j hji⟩
theorem dL {α:Type} {p:α→Bool} {l:List α} (h:¬0≤bA p l):bA p l= -1∧∀ x∈l,p x=false:=by
  unfold bA at h ⊢
  cases e:l.findIdx? p with
  |none=>exact ⟨rfl,fun x hx=>by simpa using List.findIdx?_eq_none_iff.1 e x hx⟩
  |some i=>simp [e] at h
theorem lI {α:Type} {l:List α} {i:Nat} {d:α} (h:i<l.length):l[i]=l.getD i d:=by simp [List.getD_eq_getElem?_getD,h]
theorem bJ {α:Type} {enc:α→List Value} {xs ys:List α}:aC enc (xs++ys)=aC enc xs++aC enc ys:=List.flatMap_append ..
theorem dW {α:Type} {enc:α→List Value} {x:α}:aC enc [x]=enc x:=by simp
theorem d7c {α:Type} {enc:α→List Value}:aC enc ([]:List α)=[]:=rfl
theorem dT {α:Type} {enc:α→List Value} {n:Nat} (h:∀ x,(enc x).length=n):∀ (l:List α) (i:Nat) (hi:i<l.length) {j:Nat} {cs:List Value} {x:α},j+cs.length≤n→aQ (enc l[i]) j cs=enc x→
    aQ (aC enc l) (i*n+j) cs=aC enc (l.set i x)
  | [],_,hi,_,_,_,_,_=>by simp at hi
  |a::r,0,hi,j,cs,x,hj,e=>by
   have ha:=h a
   simp only [List.getElem_cons_zero] at e
   simp only [Nat.zero_mul,Nat.zero_add,List.set_cons_zero,aC,List.flatMap_cons]
   rw [←e]
   unfold aQ
   rw [List.take_append_of_le_length (om),List.drop_append_of_le_length (om)]
   simp [List.append_assoc]
  |a::r,i+1,hi,j,cs,x,hj,e=>by
   have ha:=h a
   have ih:=dT h r i (by simpa using hi) hj (by simpa using e)
   simp only [List.set_cons_succ,aC,List.flatMap_cons] at ih ⊢
   rw [←ih]
   unfold aQ
   have e1:(i+1)*n+j=(enc a).length+(i*n+j):=by rw [ha,Nat.succ_mul];omega
   rw [e1,List.take_append,List.take_of_length_le (om),Nat.add_sub_cancel_left,Nat.add_assoc,List.drop_append,List.drop_of_length_le (om),Nat.add_sub_cancel_left]
   simp [List.append_assoc]
theorem b2c {α:Type} {enc:α→List Value} {n:Nat} (h:∀ x,(enc x).length=n) (l:List α) (i:Nat) (hi:i<l.length) {cs:List Value} {x:α} (hj:cs.length≤n) (e:aQ (enc l[i]) 0 cs=enc x) :
    aQ (aC enc l) (i*n) cs=aC enc (l.set i x):=by
  have:=dT h l i hi (j:=0) (cs:=cs) (x:=x) (om) e
  simpa using this
def RL {α:Type} (T e:TypeId) (sz:Nat) (enc:α→List Value) (b:Nat) (room:Int) (l:List α):HP:=
  Ex fun q:Option Addr×Nat=>[Cells b T [.int .i64 room,.slice q.1 l.length q.2],Own e sz (.slice q.1 l.length q.2) l.length (aC enc l),Fact ((l.length:Int)≤room∧room≤4096)]
theorem eX {α:Type} {T e:TypeId} {sz:Nat} {enc:α→List Value} {b n:Nat} {room:Int} {l:List α} {p:Option Addr} {c:Nat} {xs:List Value} {L M:List HP}
    (h:Ent L (Cells b T [.int .i64 room,.slice p n c]::Own e sz (.slice p n c) n xs::M)) (hn:n=l.length) (hx:xs=aC enc l) (hl:(l.length:Int)≤room∧room≤4096):Ent L (RL T e sz enc b room l::M):=by
  subst hn hx
  refine Ent.trans h (Ent.trans ?_ (kW (p:=fun q:Option Addr×Nat=>[Cells b T [.int .i64 room,.slice q.1 l.length q.2],Own e sz (.slice q.1 l.length q.2) l.length (aC enc l),Fact ((l.length:Int)≤room∧room≤4096)]) (p,c)))
  exact Ent.cons (Ent.cons (dS hl))
theorem i8 {α:Type} {T e:TypeId} {sz:Nat} {enc:α→List Value} {b:Nat} {room:Int} {l:List α} {P:Program} {N:Nat} {c:Code} {env:Env} {L:List HP} {Q:Exit→Act→World→Prop}
    (h:∀ p c0,(l.length:Int)≤room∧room≤4096→WC P N c env (Cells b T [.int .i64 room,.slice p l.length c0]::Own e sz (.slice p l.length c0) l.length (aC enc l)::L) Q):WC P N c env (RL T e sz enc b room l::L) Q:=by
  intro a w ha hw
  obtain ⟨⟨p,c0⟩,hx⟩:=kD hw
  simp only [pO] at hx
  have hf:=jK (aU (aU hx))
  exact h p c0 hf a w ha ((Ent.cons (Ent.cons (Ent.drop Ent.refl))) _ hx)
theorem qV {α:Type} {T e:TypeId} {sz:Nat} {enc:α→List Value} {b:Nat} {room:Int} {l:List α} {P:Program} {N:Nat} {all:Array Oper} {c:List Oper} {env:Env} {L:List HP} {Q:Exit→Act→World→Prop}
    (h:∀ p c0,(l.length:Int)≤room∧room≤4096→WO P N all c env (Cells b T [.int .i64 room,.slice p l.length c0]::Own e sz (.slice p l.length c0) l.length (aC enc l)::L) Q):WO P N all c env (RL T e sz enc b room l::L) Q:=by
  intro a w ha hw
  obtain ⟨⟨p,c0⟩,hx⟩:=kD hw
  simp only [pO] at hx
  have hf:=jK (aU (aU hx))
  exact h p c0 hf a w ha ((Ent.cons (Ent.cons (Ent.drop Ent.refl))) _ hx)
end Go.Sx
