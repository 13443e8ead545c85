/- The engine: assertions on parts of memory, frames as lists of slots, and one rule for each operation. My own work; names no program. -/
import Derived.Test.YtjihlpjnebdiiabGreatZr
import Derived.Below
import Derived.Calls
import Derived.Deep.Quiet
import Derived.KernelRfl
import Derived.Laws.Sem
import Derived.LoopN
import Derived.OrdersHeld
set_option linter.unusedVariables false
set_option linter.unusedSectionVars false
set_option linter.unusedSimpArgs false
universe u
namespace Go.Sx
open Go
structure PH where
  c:Nat→Option Obj
  os:Os
  out:Array (Nat×ByteArray)
  tape:Nat→Question→Nat
abbrev HP:=PH→Prop
def ph (w:World):PH:=⟨fun b=>w.heap[b]?,w.os,w.output,w.tape⟩
open Classical in
noncomputable def pR (h:PH) (S:Nat→Prop):PH:=⟨fun b=>if S b then h.c b else none,h.os,h.out,h.tape⟩
def bz:List HP→PH→Prop
  | [],_=>True
  |p::L,h=>∃ S T:Nat→Prop,(∀ b,S b→T b→False)∧p (pR h S)∧bz L (pR h T)
def Sat (L:List HP) (w:World):Prop:=bz L (ph w)
theorem mU (h:PH) (S T:Nat→Prop):pR (pR h S) T=pR h (fun b=>S b∧T b):=by
  unfold pR;simp only [PH.mk.injEq,and_self,and_true];funext b;by_cases h1:S b<;>by_cases h2:T b<;>simp [h1,h2]
theorem wU:∀ {L:List HP} {h:PH} {S:Nat→Prop},bz L (pR h S)→bz L h
  | [],_,_,_=>trivial
  |p::L,h,S,⟨A,B,d,hp,hL⟩=>by
   rw [mU] at hp hL
   exact ⟨_,_,fun b x y=>d b x.2 y.2,hp,hL⟩
theorem jM {p:HP} {L L':List HP} (H:∀ h,bz L h→bz L' h) {h:PH}:bz (p::L) h→bz (p::L') h:=
  fun ⟨S,T,d,hp,hL⟩=>⟨S,T,d,hp,H _ hL⟩
theorem kE {p q:HP} {L:List HP} {h:PH} (H:bz (p::q::L) h):bz (q::p::L) h:=by
  obtain ⟨S,T,d,hp,A,B,d2,hq,hL⟩:=H;rw [mU] at hq hL;refine ⟨fun b=>T b∧A b,fun b=>S b∨(T b∧B b),?_,hq,S,fun b=>T b∧B b,?_,?_,?_⟩
  ·rintro b ⟨t,a⟩ (s|⟨_,b'⟩)
   ·exact d b s t
   ·exact d2 b a b'
  ·exact fun b s t=>d b s t.1
  ·rw [mU];have:(fun b=>(S b∨(T b∧B b))∧S b)=S:=funext fun b=>propext ⟨fun x=>x.2,fun x=>⟨.inl x,x⟩⟩;rw [this];exact hp
  ·rw [mU];have:(fun b=>(S b∨(T b∧B b))∧T b∧B b)=(fun b=>T b∧B b):=funext fun b=>propext ⟨fun x=>x.2,fun x=>⟨.inr x,x⟩⟩;rw [this];exact hL
theorem aG {p:HP} {L:List HP} {h:PH}:bz (p::L) h→bz L h:=fun ⟨_,_,_,_,hL⟩=>wU hL
theorem Ko {p:HP} {L:List HP} {h:PH}:bz (p::L) h→∃ S,p (pR h S):=fun ⟨S,_,_,hp,_⟩=>⟨S,hp⟩
def ai (L M:List HP):Prop:=∀ h,bz L h→bz M h
theorem ai.refl {L:List HP}:ai L L:=fun _ h=>h
theorem ai.trans {L M N:List HP} (a:ai L M) (b:ai M N):ai L N:=fun h x=>b h (a h x)
theorem ai.cons {p:HP} {L M:List HP} (a:ai L M):ai (p::L) (p::M):=fun _ h=>jM a h
theorem ai.drop {p:HP} {L M:List HP} (a:ai L M):ai (p::L) M:=fun _ h=>a _ (aG h)
theorem ai.nil {L:List HP}:ai L []:=fun _ _=>trivial
theorem ai.gX {L M:List HP} (a:ai L M) {w:World} (h:Sat L w):Sat M w:=a _ h
class sJ (p:HP) (L:List HP) (L':outParam (List HP)):Prop where
  pf:ai L (p::L')
  back:ai (p::L') L
instance (priority:=high) sJ.here {p:HP} {L:List HP}:sJ p (p::L) L:=⟨ai.refl,ai.refl⟩
instance sJ.there {p q:HP} {L L':List HP} [k:sJ p L L']:sJ p (q::L) (q::L'):=
  ⟨fun _ h=>kE (jM k.pf h),fun _ h=>jM k.back (kE h)⟩
@[reducible] def eX:List HP→List HP→List HP
  | [],M=>M
  |p::L,M=>p::eX L M
theorem vJ:∀ L M:List HP,eX L M=L++M
  | [],_=>rfl
  |p::L,M=>by rw [eX,vJ L M];rfl
class rh (pre L:List HP) (F:outParam (List HP)):Prop where
  pf:ai L (eX pre F)
  back:ai (eX pre F) L
instance rh.nil {L:List HP}:rh [] L L:=⟨ai.refl,ai.refl⟩
instance rh.cons {p:HP} {pre L L' F:List HP} [k:sJ p L L'] [m:rh pre L' F]:rh (p::pre) L F:=
  ⟨k.pf.trans (ai.cons m.pf),(ai.cons m.back).trans k.back⟩
theorem ai.pick {p:HP} {L L' M:List HP} [k:sJ p L L'] (a:ai L' M):ai L (p::M):=fun _ h=>jM a (k.pf _ h)
structure ao (b:Nat) (T:TypeId) (l:List Value) (h:PH):Prop where
  pf:h.c b=some (.cells l.toArray T (0,0))
structure il (b:Nat) (o:Obj) (h:PH):Prop where
  pf:h.c b=some o
structure Cs (w0:World) (h:PH):Prop where
  pf:∀ b,b<w0.heap.size→h.c b=w0.heap[b]?
  os:h.os=w0.os
  out:h.out=w0.output
  tape:h.tape=w0.tape
structure ja (φ:Prop) (h:PH):Prop where
  pf:φ
structure Ex {α:Sort u} (p:α→List HP) (h:PH):Prop where
  pf:∃ x,bz (p x) h
theorem fc {φ:Prop} {L:List HP} {h:PH} (H:bz (ja φ::L) h):φ:=let ⟨_,k⟩:=Ko H;k.pf
theorem cX {φ:Prop} {L:List HP} (x:φ):ai L (ja φ::L):=fun h H=>
  ⟨fun _=>False,fun _=>True,fun _ a _=>a,⟨x⟩,by
    have:pR h (fun _=>True)=h:=by unfold pR;simp
    rw [this];exact H⟩
theorem lu {M:List HP}:∀ {L:List HP} {h:PH} {S T:Nat→Prop},(∀ b,S b→T b→False)→bz L (pR h S)→bz M (pR h T)→bz (L++M) h
  | [],_,_,_,_,_,hM=>wU hM
  |p::L,h,S,T,d,⟨A,B,e,hp,hL⟩,hM=>by
   rw [mU] at hp hL
   refine ⟨fun b=>S b∧A b,fun b=>(S b∧B b)∨T b,?_,hp,?_⟩
   ·rintro b ⟨s,a⟩ (⟨_,b'⟩|t)
    ·exact e b a b'
    ·exact d b s t
   ·refine lu (L:=L) (S:=fun b=>S b∧B b) (T:=T) (fun b x y=>d b x.1 y) ?_ ?_
    ·rw [mU]
     have:(fun b=>(S b∧B b∨T b)∧S b∧B b)=(fun b=>S b∧B b):=funext fun b=>propext ⟨fun x=>x.2,fun x=>⟨.inl x,x⟩⟩
     rw [this];exact hL
    ·rw [mU];have:(fun b=>(S b∧B b∨T b)∧T b)=T:=funext fun b=>propext ⟨fun x=>x.2,fun x=>⟨.inr x,x⟩⟩;rw [this];exact hM
theorem eN {α:Sort u} {p:α→List HP} {L:List HP} {h:PH} (H:bz (Ex p::L) h):∃ x,bz (eX (p x) L) h:=by
  obtain ⟨S,T,d,⟨x,hx⟩,hL⟩:=H;exact ⟨x,by rw [vJ];exact lu d hx hL⟩
theorem mm:∀ {L M:List HP} {h:PH},bz (L++M) h→∃ S T:Nat→Prop,(∀ b,S b→T b→False)∧bz L (pR h S)∧bz M (pR h T)
  | [],M,h,H=>⟨fun _=>False,fun _=>True,fun _ a _=>a,trivial,by
      have:pR h (fun _=>True)=h:=by unfold pR;simp
      rw [this];exact H⟩
  |p::L,M,h,⟨A,B,e,hp,hL⟩=>by
   obtain ⟨S,T,d,h1,h2⟩:=mm hL
   rw [mU] at h1 h2;refine ⟨fun b=>A b∨(B b∧S b),fun b=>B b∧T b,?_,⟨A,fun b=>B b∧S b,fun b x y=>e b x y.1,?_,?_⟩,h2⟩
   ·rintro b (a|⟨_,s⟩) ⟨b',t⟩
    ·exact e b a b'
    ·exact d b s t
   ·rw [mU];have:(fun b=>(A b∨(B b∧S b))∧A b)=A:=funext fun b=>propext ⟨fun x=>x.2,fun x=>⟨.inl x,x⟩⟩;rw [this];exact hp
   ·rw [mU];have:(fun b=>(A b∨(B b∧S b))∧B b∧S b)=(fun b=>B b∧S b):=funext fun b=>propext ⟨fun x=>x.2,fun x=>⟨.inr x,x⟩⟩;rw [this];exact h1
theorem fU {α:Sort u} {p:α→List HP} {L:List HP} (x:α):ai (eX (p x) L) (Ex p::L):=fun h H=>by
  rw [vJ] at H;obtain ⟨S,T,d,h1,h2⟩:=mm H;exact ⟨S,T,d,⟨x,h1⟩,h2⟩
theorem tp {h:PH} {S:Nat→Prop} {b:Nat} {o:Obj} (e:(pR h S).c b=some o):S b∧h.c b=some o:=by
  unfold pR at e;by_cases s:S b<;>simp [s] at e
  exact ⟨s,e⟩
theorem nT {b:Nat} {T:TypeId} {l:List Value} {L:List HP} {w:World} (H:Sat (ao b T l::L) w):w.heap[b]? =some (.cells l.toArray T (0,0)):=by
  obtain ⟨S,_,_,hp,_⟩:=H;exact (tp hp.pf).2
theorem qP {b:Nat} {o:Obj} {L:List HP} {w:World} (H:Sat (il b o::L) w):w.heap[b]? =some o:=by
  obtain ⟨S,_,_,hp,_⟩:=H;exact (tp hp.pf).2
theorem Jh {w0:World} {L:List HP} {w:World} (H:Sat (Cs w0::L) w):(∀ b,b<w0.heap.size→w.heap[b]? =w0.heap[b]?)∧w.os=w0.os∧w.output=w0.output∧w.tape=w0.tape:=by
  obtain ⟨S,_,_,hp,_⟩:=H;refine ⟨fun b hb=>?_,hp.os,hp.out,hp.tape⟩;have:=hp.pf b hb;have h0:w0.heap[b]? =some w0.heap[b]:=by simp [hb]
  rw [h0] at this ⊢;exact (tp this).2
theorem PW {w:World} {w':World} {S T:Nat→Prop} (d:∀ b,S b→T b→False) {b:Nat} (hS:S b) (e:∀ k,k≠b→w'.heap[k]? =w.heap[k]?) (o1:w'.os=w.os) (o2:w'.output=w.output) (o3:w'.tape=w.tape) :
    pR (ph w') T=pR (ph w) T:=by
  unfold pR ph;simp only [o1,o2,o3,PH.mk.injEq,and_true];funext k;by_cases hk:k=b
  ·subst hk;have:¬T k:=fun t=>d k hS t;simp [this]
  ·simp [e k hk]
theorem qN {p:HP} {L:List HP} {w w':World} {b:Nat} {o:Obj} (q:HP) (hp:∀ h:PH,p h→∃ o,h.c b=some o) (hq:∀ h:PH,h.c b=some o→q h) (hb:w'.heap[b]? =some o)
    (e:∀ k,k≠b→w'.heap[k]? =w.heap[k]?) (o1:w'.os=w.os) (o2:w'.output=w.output) (o3:w'.tape=w.tape) (H:Sat (p::L) w):Sat (q::L) w':=by
  obtain ⟨S,T,d,h1,h2⟩:=H;obtain ⟨o0,h0⟩:=hp _ h1;have hS:=(tp h0).1;refine ⟨S,T,d,hq _ ?_,?_⟩
  ·unfold pR ph;simp [hS,hb]
  ·rw [PW d hS e o1 o2 o3];exact h2
theorem DU {L:List HP} {w:World} {o:Obj} (q:HP) (hq:∀ h:PH,h.c w.heap.size=some o→q h) (H:Sat L w):Sat (q::L) { w with heap:=w.heap.push o}:=by
  refine ⟨fun b=>b=w.heap.size,fun b=>b≠w.heap.size,fun _ a b=>b a,hq _ ?_,?_⟩
  ·unfold pR ph;simp
  ·have:pR (ph { w with heap:=w.heap.push o}) (fun b=>b≠w.heap.size)=ph w:=by
     unfold pR ph;simp only [PH.mk.injEq,and_true];funext b;by_cases hb:b=w.heap.size
     ·subst hb;simp
     ·simp [hb,Array.getElem?_push]
   rw [this];exact H
theorem vm {L:List HP} {w:World} {n:Nat} (H:Sat L w):Sat L { w with drawn:=n}:=H
end Go.Sx
namespace Go.Sx
open Go
abbrev Env:=List (Nat×Value)
def Env.get? :Env→Nat→Option Value
  | [],_=>none
  |(k,v)::r,t=>match Nat.beq k t with
   |true=>some v
   |false=>Env.get? r t
def ev (env:Env):Operand→Option Value
  | .tmp t=>env.get? t
  | .const v=>some v
  | .global g=>some (.pointer (some ⟨g,0,none⟩))
  | .func f=>some (.func (.func f) #[] #[])
structure du (N:Nat) (env:Env) (a:Act):Prop where
  size:a.tmps.size=N
  defers:a.defers=[]
  get:∀ t v,env.get? t=some v→a.tmps.getD t undef=v
theorem Env.k5 (k:Nat) (v:Value) (r:Env) (t:Nat):Env.get? ((k,v)::r) t=if k=t then some v else Env.get? r t:=by
  show (match Nat.beq k t with|true=>some v|false=>Env.get? r t)=_;by_cases h:k=t
  ·subst h;simp
  ·have:Nat.beq k t=false:=by rw [←Bool.not_eq_true,Nat.beq_eq];exact h
   simp [this,h]
theorem du.ev {N:Nat} {env:Env} {a:Act} (h:du N env a) {x:Operand} {v:Value} (e:Sx.ev env x=some v):a.eval x=v:=by
  cases x with
  |tmp t=>exact h.get t v e
  |const c=>simpa [Sx.ev,Act.eval] using e
  |global g=>simpa [Sx.ev,Act.eval] using e
  |func f=>simpa [Sx.ev,Act.eval] using e
theorem du.put {N:Nat} {env:Env} {a:Act} (h:du N env a) {d:Nat} (hd:Nat.blt d N=true) (v:Value):du N ((d,v)::env) (a.put (some d) v):=by
  have Zt:d<a.tmps.size:=by rw [h.size];simpa using hd
  refine ⟨by simp [Act.put,h.size],by simp [Act.put,h.defers],fun t u e=>?_⟩;rw [Env.k5] at e;by_cases k:d=t
  ·subst k;simp at e;subst e;simp [Act.put,Zt]
  ·simp [k] at e;have:=h.get t u e;rw [←this];simp [Act.put,Array.getD_eq_getD_getElem?,k]
def pj (env:Env) (d:Option Tmp) (v:Value):Env:=match d with|some d=>(d,v)::env|none=>env
def sh (N:Nat):Option Tmp→Bool
  |some d=>Nat.blt d N
  |none=>true
theorem du.B1 {N:Nat} {env:Env} {a:Act} (h:du N env a) {d:Option Tmp} (hd:sh N d=true) (v:Value):du N (pj env d v) (a.put d v):=by
  cases d with
  |none=>exact h
  |some d=>exact h.put hd v
inductive Sub:Env→Env→Prop
  |nil {env:Env}:Sub [] env
  |cons {t:Nat} {v:Value} {r env:Env}:env.get? t=some v→Sub r env→Sub ((t,v)::r) env
theorem Sub.get {e' env:Env} (h:Sub e' env):∀ t v,e'.get? t=some v→env.get? t=some v:=by
  induction h with
  |nil=>intro t v e;simp [Env.get?] at e
  |cons h1 _ ih=>
   intro t v e;rw [Env.k5] at e;split at e
   ·rename_i h;subst h;simp at e;subst e;exact h1
   ·exact ih _ _ e
theorem du.sub {N:Nat} {env e':Env} {a:Act} (h:du N env a) (s:Sub e' env):du N e' a:=
  ⟨h.size,h.defers,fun t v e=>h.get t v (s.get t v e)⟩
section
variable (P:Program) (N:Nat)
def WC (c:Code) (env:Env) (L:List HP) (Q:Exit→Act→World→Prop):Prop:=
  ∀ a w,du N env a→Sat L w→c.wp P Q a w
def WE (e:Exit) (env:Env) (L:List HP) (Q:Exit→Act→World→Prop):Prop:=
  ∀ a w,du N env a→Sat L w→Q e a w
def EY (P:Program) (all:Array Oper) (Q:Exit→Act→World→Prop):List Oper→Act→World→Prop
  | [],a,w=>Q .normal a w
  |o::rest,a,w=>
   if Region.wanted o (yielded all a.tmps) then o.wp P a w (EY P all Q rest) Q∨(o.asks P a w∧LetsOut Q)
   else EY P all Q rest (a.put o.dst undef) w
def WO (all:Array Oper) (todo:List Oper) (env:Env) (L:List HP) (Q:Exit→Act→World→Prop):Prop:=
  ∀ a w,du N env a→Sat L w→EY P all Q todo a w
end
section
variable {P:Program} {N:Nat}
theorem ta {all:Array Oper} {Q:Exit→Act→World→Prop}:∀ (todo:List Oper) (k:Nat) (a:Act) (w:World),(∀ j,todo[j]? =all[k+j]?)→
    EY P all Q todo a w→wpOps P all Q ((List.range todo.length).map (k+ ·)) a w
  | [],_,_,_,_,h=>h
  |o::rest,k,a,w,hl,h=>by
   have h0:all[k]? =some o:=by simpa using (hl 0).symm
   have hr:∀ j,rest[j]? =all[(k+1)+j]? :=fun j=>by have:=hl (j+1);simpa [Nat.add_assoc,Nat.add_comm 1 j] using this
   have e:(List.range (o::rest).length).map (k+ ·)=k::(List.range rest.length).map (k+1+ ·):=by
     rw [List.length_cons,List.range_succ_eq_map];simp [Function.comp_def,Nat.add_assoc,Nat.add_comm 1]
   rw [e];simp only [wpOps,h0];simp only [EY] at h;split
   ·rename_i hw;simp only [hw,if_true] at h;rcases h with h|h
    ·left;have key:∀ a w,EY P all Q rest a w→wpOps P all Q ((List.range rest.length).map (k+1+ ·)) a w:=fun a w h=>ta rest (k+1) a w hr h;unfold Oper.wp at h ⊢;generalize (execOp a.eval o).run P w=r at h ⊢;cases r with
     |ok n w'=>
      cases n<;>simp only [Oper.upon] at h ⊢;case value=>exact key _ _ h
      case skip=>exact key _ _ h
      case defer=>exact key _ _ h
      case enter=>
        refine h.mono fun e Zu hh=>?_;cases e with
        |returned v=>exact key _ _ hh
        |panicked c=>exact hh
        |outgrown=>exact hh
      case row=>exact h.mono fun v Zu hh=>key _ _ hh
     |halt x w'=>cases x<;>simp only [Oper.upon] at h ⊢ <;>exact h
    ·right;exact h
   ·rename_i hw;simp only [hw] at h;exact ta rest (k+1) _ w hr h
theorem kD {id:Nat} {ops:List Oper} {env:Env} {L:List HP} {Q:Exit→Act→World→Prop}
    (h:WO P N ops.toArray ops env L Q):WC P N (.region id ops.toArray false) env L Q:=by
  intro a w ha hw;refine wp_region ?_;have:=ta (P:=P) (all:=ops.toArray) (Q:=Q) ops 0 a w (by simp) (h a w ha hw);simpa using this
theorem xI {x y:Code} {env:Env} {L:List HP} {Q:Exit→Act→World→Prop} (h:WC P N x env L (Exit.then (y.wp P Q) Q)):WC P N (.seq x y) env L Q:=
  fun a w ha hw=>wp_seq (h a w ha hw)
theorem uj {env:Env} {L:List HP} {Q:Exit→Act→World→Prop} (h:WE N .normal env L Q):WC P N .skip env L Q:=fun a w ha hw=>wp_skip (h a w ha hw)
theorem xK {env:Env} {L:List HP} {Q:Exit→Act→World→Prop} (h:WE N .ret env L Q):WC P N .ret env L Q:=fun a w ha hw=>wp_ret (h a w ha hw)
theorem ui {id:Nat} {env:Env} {L:List HP} {Q:Exit→Act→World→Prop} (h:WE N (.exit id) env L Q):WC P N (.exit id) env L Q:=fun a w ha hw=>wp_exit (h a w ha hw)
theorem rM {id:Nat} {c:Code} {env:Env} {L:List HP} {Q:Exit→Act→World→Prop} (h:WC P N c env L (Exit.inBlock id Q)):WC P N (.block id c) env L Q:=
  fun a w ha hw=>wp_block (h a w ha hw)
theorem sC {c:Operand} {x y:Code} {env:Env} {L:List HP} {Q:Exit→Act→World→Prop} {t:Bool} (hc:ev env c=some (.bool t))
    (ht:t=true→WC P N x env L Q) (hf:t=false→WC P N y env L Q):WC P N (.cond c x y) env L Q:=
  fun a w ha hw=>wp_cond_split (ha.ev hc) (fun e=>ht e a w ha hw) (fun e=>hf e a w ha hw)
theorem pJ {c:Operand} {x y:Code} {env:Env} {L:List HP} {Q:Exit→Act→World→Prop} {v:Value} (hc:ev env c=some v) (hv:v= .bool true)
    (ht:WC P N x env L Q):WC P N (.cond c x y) env L Q:=by subst hv;exact sC hc (fun _=>ht) (fun e=>nomatch e)
theorem pK {c:Operand} {x y:Code} {env:Env} {L:List HP} {Q:Exit→Act→World→Prop} {v:Value} (hc:ev env c=some v) (hv:v= .bool false)
    (ht:WC P N y env L Q):WC P N (.cond c x y) env L Q:=by subst hv;exact sC hc (fun e=>nomatch e) (fun _=>ht)
theorem uJ {c:Operand} {x y:Code} {env:Env} {L:List HP} {Q:Exit→Act→World→Prop} {p:Prop} {inst:Decidable p} (hc:ev env c=some (.bool (@decide p inst)))
    (ht:p→WC P N x env L Q) (hf:¬p→WC P N y env L Q):WC P N (.cond c x y) env L Q:=
  sC hc (fun e=>ht (of_decide_eq_true e)) (fun e=>hf (of_decide_eq_false e))
theorem ug {y:Code} {env:Env} {L:List HP} {Q Q':Exit→Act→World→Prop} (h:WC P N y env L Q):WE N .normal env L (Exit.then (y.wp P Q) Q'):=h
theorem lI {id:Nat} {env:Env} {L:List HP} {K:Act→World→Prop} {Q:Exit→Act→World→Prop} (h:WE N (.exit id) env L Q):WE N (.exit id) env L (Exit.then K Q):=h
theorem mH {env:Env} {L:List HP} {K:Act→World→Prop} {Q:Exit→Act→World→Prop} (h:WE N .ret env L Q):WE N .ret env L (Exit.then K Q):=h
theorem rN {id:Nat} {env:Env} {L:List HP} {Q:Exit→Act→World→Prop} (h:WE N .normal env L Q):WE N .normal env L (Exit.inBlock id Q):=h
theorem lJ {id:Nat} {env:Env} {L:List HP} {Q:Exit→Act→World→Prop} (h:WE N .ret env L Q):WE N .ret env L (Exit.inBlock id Q):=h
theorem mI {id:Nat} {env:Env} {L:List HP} {Q:Exit→Act→World→Prop} (h:WE N .normal env L Q):WE N (.exit id) env L (Exit.inBlock id Q):=
  fun a w ha hw=>by simp only [Exit.inBlock,if_true];exact h a w ha hw
theorem mJ {id i:Nat} {env:Env} {L:List HP} {Q:Exit→Act→World→Prop} (hi:Nat.beq i id=false) (h:WE N (.exit i) env L Q):WE N (.exit i) env L (Exit.inBlock id Q):=
  fun a w ha hw=>by
    have:i≠id:=fun e=>by subst e;simp at hi
    simp only [Exit.inBlock,this,if_false];exact h a w ha hw
theorem xJ {all:Array Oper} {env:Env} {L:List HP} {Q:Exit→Act→World→Prop} (h:WE N .normal env L Q):WO P N all [] env L Q:=h
theorem cy {all:Array Oper} {c:List Oper} {env:Env} {L L':List HP} {Q:Exit→Act→World→Prop} (e:ai L L') (h:WO P N all c env L' Q):WO P N all c env L Q:=
  fun a w ha hw=>h a w ha (e.gX hw)
def aW {ι:Type} (N:Nat) (E:ι→Env) (H:ι→List HP) (I:ι→Prop) (μ:ι→Nat) (i:ι) (Q:Exit→Act→World→Prop):Exit→Act→World→Prop:=
  Exit.then (fun a w=>∃ j,μ j<μ i∧I j∧du N (E j) a∧Sat (H j) w) Q
theorem zT {ι:Type} (E:ι→Env) (H:ι→List HP) (I:ι→Prop) (μ:ι→Nat) (i:ι) {c:Code} {env:Env} {L:List HP} {Q:Exit→Act→World→Prop}
    (hI:I i) (hs:Sub (E i) env) (he:ai L (H i)) (round:∀ j,I j→WC P N c (E j) (H j) (aW N E H I μ j Q)):WC P N (.loop c) env L Q:=by
  intro a w ha hw;have key:∀ n j a w,μ j=n→I j→du N (E j) a→Sat (H j) w→(Code.loop c).wp P Q a w:=by
    intro n j a w hn hj hE hS;refine wp_loop (fun a w=>∃ j,I j∧du N (E j) a∧Sat (H j) w) (fun a w=>Classical.epsilon fun m=>∃ j,μ j=m∧I j∧du N (E j) a∧Sat (H j) w∧∀ k,I k→du N (E k) a→Sat (H k) w→m≤μ k) ⟨j,hj,hE,hS⟩ ?_;intro a w hx;have least:∀ (a:Act) (w:World),(∃ j,I j∧du N (E j) a∧Sat (H j) w)→∃ m,∃ j,μ j=m∧I j∧du N (E j) a∧Sat (H j) w∧∀ k,I k→du N (E k) a→Sat (H k) w→m≤μ k:=by
      rintro a w ⟨j,h1,h2,h3⟩;generalize hm:μ j=m;induction m using Nat.strongRecOn generalizing j with
      |_ m ih=>
       by_cases hk:∃ k,I k∧du N (E k) a∧Sat (H k) w∧μ k<m
       ·obtain ⟨k,k1,k2,k3,k4⟩:=hk;exact ih (μ k) k4 k k1 k2 k3 rfl
       ·exact ⟨m,j,hm,h1,h2,h3,fun k k1 k2 k3=>Nat.le_of_not_lt fun k4=>hk ⟨k,k1,k2,k3,k4⟩⟩
    have hm:=Classical.epsilon_spec (least a w hx);obtain ⟨j,j1,j2,j3,j4,_⟩:=hm;refine wp_mono (round j j2 a w j3 j4) ?_;intro e a' w' hq;cases e with
    |normal=>
     obtain ⟨k,k1,k2,k3,k4⟩:=hq;refine ⟨⟨k,k2,k3,k4⟩,?_⟩;have Pu:=Classical.epsilon_spec (least a' w' ⟨k,k2,k3,k4⟩);obtain ⟨_,_,_,_,_,LL⟩:=Pu;exact Nat.lt_of_le_of_lt (LL k k2 k3 k4) (by rw [←j1];exact k1)
    |exit id=>exact hq
    |goto l=>exact hq
    |ret=>exact hq
    |panic ch=>exact hq
    |outgrown=>exact hq
  exact key _ i a w rfl hI (ha.sub hs) (he.gX hw)
theorem aC {ι:Type} {E:ι→Env} {H:ι→List HP} {I:ι→Prop} {μ:ι→Nat} {i:ι} {env:Env} {L:List HP} {Q:Exit→Act→World→Prop}
    (j:ι) (hm:μ j<μ i) (hI:I j) (hs:Sub (E j) env) (he:ai L (H j)):WE N .normal env L (aW N E H I μ i Q):=
  fun _ _ ha hw=>⟨j,hm,hI,ha.sub hs,he.gX hw⟩
theorem lK {ι:Type} {E:ι→Env} {H:ι→List HP} {I:ι→Prop} {μ:ι→Nat} {i:ι} {id:Nat} {env:Env} {L:List HP} {Q:Exit→Act→World→Prop}
    (h:WE N (.exit id) env L Q):WE N (.exit id) env L (aW N E H I μ i Q):=h
theorem mK {ι:Type} {E:ι→Env} {H:ι→List HP} {I:ι→Prop} {μ:ι→Nat} {i:ι} {env:Env} {L:List HP} {Q:Exit→Act→World→Prop}
    (h:WE N .ret env L Q):WE N .ret env L (aW N E H I μ i Q):=h
def sk (P:Program) (f:FuncId):Prop:=∀ args w,(callFunc f args).run P w= .ok (.enter f args) w
structure Yf (P:Program) (f:FuncId) (vs:List Value) (pre:List HP) (post:Value→List HP→Prop):Prop where
  enters:sk P f
  runs:∀ F w,Sat (eX pre F) w→Calls P f vs.toArray w (fun e w'=>∃ v L',e= .returned v∧post v L'∧Sat (eX L' F) w')
theorem fb {f:FuncId} {fn:Func} {c:Code} (hf:P.funcs[f]? =some fn) (hb:fn.body=some c) (hn:(fn.name == "runtime.NumGoroutine")=false):sk P f:=by
  intro args w;have LW:¬fn.name= "runtime.NumGoroutine" :=by simpa using hn
  simp [callFunc,program,bind,Sem.bind,Sem.run,hf,hb,LW,pure]
def dL (P:Program) (fn:Func) (post:Value→List HP→Prop) (F:List HP):Exit→Act→World→Prop:=
  bodyPost P fn (fun e w'=>∃ v L',e= .returned v∧post v L'∧Sat (eX L' F) w')
def ya:Nat→List Value→Env
  |_,[]=>[]
  |k,v::r=>(k,v)::ya (k+1) r
theorem vj:∀ (vs:List Value) (k t:Nat) (v:Value),(ya k vs).get? t=some v→k≤t∧vs[t-k]? =some v
  | [],k,t,v,e=>by simp [ya,Env.get?] at e
  |u::r,k,t,v,e=>by
   simp only [ya] at e
   rw [Env.k5] at e
   split at e
   ·rename_i h;subst h;simpa using e
   ·rename_i h
    obtain ⟨h1,h2⟩:=vj r (k+1) t v e
    refine ⟨om,?_⟩;have:t-k=(t-(k+1))+1:=by omega
    rw [this,List.getElem?_cons_succ];exact h2
inductive lr (P:Program) (env:Env) (L:List HP):List ResultVar→List Value→Prop
  |nil:lr P env L [] []
  |tmp {t:Nat} {v:Value} {rs:List ResultVar} {vs:List Value}:env.get? t=some v→lr P env L rs vs→lr P env L (.tmp t::rs) (v::vs)
  |cell {a:Nat} {t:TypeId} {b:Addr} {v:Value} {rs:List ResultVar} {vs:List Value}:env.get? a=some (.pointer (some b))→
     (∀ w,Sat L w→(loadVar t b).run P w= .ok v w)→lr P env L rs vs→lr P env L (.cell a t::rs) (v::vs)
def sE (tmps:Array Value):ResultVar→Sem Value
  | .tmp t=>pure (tmps.getD t undef)
  | .cell x t=>do loadVar t (←asAddr (tmps.getD x undef))
theorem wg (fn:Func) (tmps:Array Value):results fn tmps=(do
    let vs ←fn.results.mapM (sE tmps)
    pure (if h:vs.size=1 then vs[0] else .tuple vs)):=by
  have:(sE tmps)=(fun| .tmp t=>pure (tmps.getD t undef)| .cell x t=>do loadVar t (←asAddr (tmps.getD x undef))):=by
    funext x;cases x<;>rfl
  rw [this];rfl
theorem CR {env:Env} {L:List HP} {a:Act} {w:World} (ha:du N env a) (hw:Sat L w) {rs:List ResultVar} {vs:List Value} (h:lr P env L rs vs) :
    (rs.mapM (sE a.tmps)).run P w= .ok vs w:=by
  induction h with
  |nil=>rfl
  |tmp h1 _ ih=>
   rw [List.mapM_cons];have:=ha.get _ _ h1;simp only [sE,this,Sem.run_bind,Sem.run_pure,Result.andThen_ok,ih]
  | @cell x t b v rs' Yk h1 h2 _ ih=>
    rw [List.mapM_cons];have:=ha.get _ _ h1;have e:(sE a.tmps (.cell x t)).run P w= .ok v w:=by
      simp only [sE,this,asAddr,Sem.run_bind,Sem.run_pure,Result.andThen_ok,h2 _ hw]
    simp only [Sem.run_bind,e,Sem.run_pure,Result.andThen_ok,ih]
def qW (vs:List Value):Value:=match vs with| [v]=>v|_=> .tuple vs.toArray
@[simp] theorem A9 (v:Value):qW [v]=v:=rfl
@[simp] theorem Ue (v u:Value) (r:List Value):qW (v::u::r)= .tuple (v::u::r).toArray:=rfl
@[simp] theorem Uf:qW []= .tuple #[]:=rfl
theorem ad {fn:Func} {post:Value→List HP→Prop} {F:List HP} {e:Exit} (he:(match e with| .normal=>true| .ret=>true|_=>false)=true) {env:Env} {L:List HP} {rs:List ResultVar} {vs:List Value}
    (pS:fn.results.toList=rs) (hr:lr P env L rs vs) (L':List HP) (hp:post (qW vs) L') (hL:ai L (eX L' F)):WE N e env L (dL P fn post F):=by
  intro a w ha hw;have key:(results fn a.tmps).run P w= .ok (qW vs) w:=by
    have h1:=CR ha hw hr;subst pS;rw [wg,Array.mapM_eq_mapM_toList];simp only [Sem.run_bind,Sem.run_map];rw [h1];simp only [Result.andThen_ok,Sem.run_pure];congr 1;unfold qW;match vs with
    | []=>rfl
    | [v]=>rfl
    |a::b::r=>simp
  have fin:a.defers=[]∧∃ v,(results fn a.tmps).run P w= .ok v w∧(∃ u L',Ending.returned v= .returned u∧post u L'∧Sat (eX L' F) w):=
    ⟨ha.defers,_,key,_,L',rfl,hp,hL.gX hw⟩
  cases e with
  |normal=>exact fin
  |ret=>exact fin
  |_=>simp at he
end
end Go.Sx
namespace Go.Sx
open Go
class TU (P:Program) (t:TypeId) (d:outParam TypeDesc):Prop where
  pf:P.underlying t=some d
class TZ (P:Program) (t:TypeId) (n:outParam Nat) (z:outParam Value) (bytes:outParam Nat):Prop where
  pf:(P.info? t).map (fun i=>(i.size,i.zero,i.bytes))=some (n,some z,bytes)
class TF (P:Program) (s:TypeId) (f:Nat) (off:outParam Nat) (ft:outParam TypeId):Prop where
  pf:∃ fs fd,P.underlying s=some (.struct fs)∧fs[f]? =some fd∧fd.offset=off∧fd.type=ft
theorem cz {P:Program} {s:TypeId} {fs:Array Field} {f off:Nat} {fd:Field} {ft:TypeId} (h:P.underlying s=some (.struct fs)) (a:fs[f]? =some fd:=by rfl) (b:fd.offset=off:=by rfl) (c:fd.type=ft:=by rfl):TF P s f off ft:=⟨fs,fd,h,a,b,c⟩
def dq (P:Program) (t:TypeId):Array Field:=match P.underlying t with|some (.struct fs)=>fs|_=> #[]
theorem bW {P:Program} {t:TypeId} {fs:Array Field} (h:P.underlying t=some (.struct fs)):P.underlying t=some (.struct (dq P t)):=by
  simp [dq,h]
section
variable {P:Program} {N:Nat}
@[simp] theorem run_underlying {t:TypeId} {d:TypeDesc} (h:P.underlying t=some d) (w:World):(underlying t).run P w= .ok d w:=by
  simp [underlying,h]
theorem Ji {t n b:Nat} {z:Value} (h:TZ P t n z b):∃ i,P.info? t=some i∧i.size=n∧i.zero=some z∧i.bytes=b:=by
  have:=h.pf;cases e:P.info? t with
  |none=>simp [e] at this
  |some i=>simp [e] at this;exact ⟨i,rfl,this.1,this.2.1,this.2.2⟩
theorem run_sizeOf {t n b:Nat} {z:Value} (h:TZ P t n z b) (w:World):(sizeOf t).run P w= .ok n w:=by
  obtain ⟨i,hi,h1,_,_⟩:=Ji h;simp [sizeOf,typeInfo,hi,h1]
theorem jI {t n b:Nat} {z:Value} (h:TZ P t n z b) (w:World):(zeroValue t).run P w= .ok z w:=by
  obtain ⟨i,hi,_,h1,_⟩:=Ji h;simp [zeroValue,typeInfo,hi,h1]
def mD:TypeDesc→Bool
  | .struct _=>true
  | .array _ _=>true
  |_=>false
theorem vi {t:TypeId} {d:TypeDesc} (h:TU P t d) (w:World):(isAgg t).run P w= .ok (mD d) w:=by
  unfold isAgg;simp only [Sem.run_bind,run_underlying h.pf,Result.andThen_ok];cases d<;>rfl
def V (P:Program) (N:Nat) (op:Op) (ty:TypeId) (env:Env) (L:List HP) (v:Value):Prop:=
  ∀ a w,du N env a→Sat L w→(execOp a.eval ⟨none,op,ty, "", #[],none⟩).run P w= .ok (.value v) w
theorem cY (ρ:Operand→Value) (d:Option Tmp) (op:Op) (ty:TypeId) (pos:String) (c9:Array Edge) (g:Option (Nat×Bool)) :
    execOp ρ ⟨d,op,ty,pos,c9,g⟩=execOp ρ ⟨none,op,ty, "", #[],none⟩:=rfl
theorem xG {op:Op} {ty:TypeId} {pos:String} {c9:Array Edge} {d:Nat} {all:Array Oper} {rest:List Oper} {env:Env} {L:List HP} {Q:Exit→Act→World→Prop} {v:Value}
    (h:V P N op ty env L v) (hd:Nat.blt d N=true) (k:WO P N all rest ((d,v)::env) L Q):WO P N all (⟨some d,op,ty,pos,c9,none⟩::rest) env L Q:=by
  intro a w ha hw;simp only [EY,Region.wanted,if_true];left;unfold Oper.wp;rw [cY,h a w ha hw];exact k _ w (ha.put hd v) hw
theorem XC {op:Op} {ty:TypeId} {pos:String} {c9:Array Edge} {d:Nat} {all:Array Oper} {rest:List Oper} {env:Env} {L:List HP} {v:Value} {Q:Act→Prop}
    (h:V P N op ty env L v) (hd:Nat.blt d N=true) (k:∀ a,du N ((d,v)::env) a→wpQuiet P all (Sat L) Q rest a) :
    ∀ a,du N env a→wpQuiet P all (Sat L) Q (⟨some d,op,ty,pos,c9,none⟩::rest) a:=by
  intro a ha;simp only [wpQuiet,Region.wanted,if_true];refine ⟨v,fun w hw=>?_,k _ (ha.put hd v)⟩;unfold Oper.quietAt;rw [cY,h a w ha hw];exact ⟨rfl,rfl⟩
def WQ (P:Program) (N:Nat) (all:Array Oper) (todo:List Oper) (env:Env) (L:List HP) (Q:Exit→Act→World→Prop):Prop:=
  ∀ a,du N env a→wpQuiet P all (Sat L) (fun a'=>∀ w',Sat L w'→Q .normal a' w') todo a
theorem DQ {id:Nat} {ops:List Oper} {env:Env} {L:List HP} {Q:Exit→Act→World→Prop} (hm:P.follows .mixedOrders=true) (hB:Region.lexB .any ops.toArray=true)
    (h:WQ P N ops.toArray ops env L Q):WC P N (.region id ops.toArray true) env L Q:=by
  intro a w ha hw;refine wp_region_quiet (C:=Sat L) hm hB (vm hw) ?_;simpa using h a ha
theorem zM {op:Op} {ty:TypeId} {pos:String} {c9:Array Edge} {d:Nat} {all:Array Oper} {rest:List Oper} {env:Env} {L:List HP} {v:Value} {Q:Exit→Act→World→Prop}
    (h:V P N op ty env L v) (hd:Nat.blt d N=true) (k:WQ P N all rest ((d,v)::env) L Q):WQ P N all (⟨some d,op,ty,pos,c9,none⟩::rest) env L Q:=XC h hd k
theorem xL {all:Array Oper} {env:Env} {L:List HP} {Q:Exit→Act→World→Prop} (h:WE N .normal env L Q):WQ P N all [] env L Q:=fun a ha w hw=>h a w ha hw
def c6 (all:Array Oper) (j:Nat):Option Tmp:=(all[j]?).bind (·.dst)
theorem sP {all:Array Oper} {env:Env} {a:Act} (ha:du N env a) {op:Op} {ty:TypeId} {pos:String} {c9:Array Edge} {d:Option Tmp} {j s:Nat} {want b:Bool}
    (hj:c6 all j=some s) (hb:env.get? s=some (.bool b)):Region.wanted ⟨d,op,ty,pos,c9,some (j,want)⟩ (yielded all a.tmps)=(b == want):=by
  have e:yielded all a.tmps j=some b:=by
    have h1:=ha.get _ _ hb;unfold c6 at hj;unfold yielded;cases ho:all[j]? with
    |none=>simp [ho] at hj
    |some o=>
     simp [ho] at hj;have h2:(a.tmps[s]?).getD undef= .bool b:=by rw [←Array.getD_eq_getD_getElem?];exact h1
     have hs:a.tmps[s]? =some (.bool b):=by
       cases hh:a.tmps[s]? with
       |none=>simp [hh,undef] at h2
       |some x=>simp [hh] at h2;rw [h2]
     simp [hj,hs]
  simp [Region.wanted,e]
theorem tb {all:Array Oper} {env:Env} {a:Act} (ha:du N env a) {op:Op} {ty:TypeId} {pos:String} {c9:Array Edge} {d:Option Tmp} {j s:Nat} {want:Bool}
    (hj:c6 all j=some s) (hb:env.get? s=some undef):Region.wanted ⟨d,op,ty,pos,c9,some (j,want)⟩ (yielded all a.tmps)=false:=by
  have e:yielded all a.tmps j=none:=by
    have h1:=ha.get _ _ hb;unfold c6 at hj;unfold yielded;cases ho:all[j]? with
    |none=>simp [ho] at hj
    |some o=>
     simp [ho] at hj;have h2:(a.tmps[s]?).getD undef=undef:=by rw [←Array.getD_eq_getD_getElem?];exact h1
     cases hh:a.tmps[s]? with
     |none=>simp [hj,hh]
     |some x=>simp [hh] at h2;subst h2;simp [hj,hh,undef]
  simp [Region.wanted,e]
theorem mL {op:Op} {ty:TypeId} {pos:String} {c9:Array Edge} {d:Nat} {all:Array Oper} {rest:List Oper} {env:Env} {L:List HP} {Q:Exit→Act→World→Prop} {j s:Nat} {want:Bool} {v:Value}
    (hj:c6 all j=some s) (hb:env.get? s=some v) (hv:v=undef) (hd:Nat.blt d N=true)
    (h:WO P N all rest ((d,undef)::env) L Q):WO P N all (⟨some d,op,ty,pos,c9,some (j,want)⟩::rest) env L Q:=by
  intro a w ha hw;subst hv;simp only [EY];rw [tb ha hj hb];simp only [Bool.false_eq_true,if_false];exact h _ w (ha.put hd undef) hw
theorem mM {op:Op} {ty:TypeId} {pos:String} {c9:Array Edge} {d:Nat} {all:Array Oper} {rest:List Oper} {env:Env} {L:List HP} {Q:Exit→Act→World→Prop} {j s:Nat} {want:Bool} {v:Value}
    (hj:c6 all j=some s) (hb:env.get? s=some v) (hv:v=undef) (hd:Nat.blt d N=true)
    (h:WQ P N all rest ((d,undef)::env) L Q):WQ P N all (⟨some d,op,ty,pos,c9,some (j,want)⟩::rest) env L Q:=by
  intro a ha;subst hv;simp only [wpQuiet];rw [tb ha hj hb];simp only [Bool.false_eq_true,if_false];exact h _ (ha.put hd undef)
theorem oz {op:Op} {ty:TypeId} {pos:String} {c9:Array Edge} {d:Option Tmp} {all:Array Oper} {rest:List Oper} {env:Env} {L:List HP} {Q:Exit→Act→World→Prop} {j s:Nat} {want b:Bool}
    (hj:c6 all j=some s) (hb:env.get? s=some (.bool b)) (Zv:Nat.blt s N=true) (hd:sh N d=true)
    (h1:b=want→WO P N all (⟨d,op,ty,pos,c9,none⟩::rest) ((s,.bool want)::env) L Q)
    (h2:b= !want→WO P N all rest (pj ((s,.bool !want)::env) d undef) L Q):WO P N all (⟨d,op,ty,pos,c9,some (j,want)⟩::rest) env L Q:=by
  intro a w ha hw;have wi:∀ c,b=c→du N ((s,.bool c)::env) a:=by
    intro c e;refine ⟨ha.size,ha.defers,fun t v h=>?_⟩;rw [Env.k5] at h;split at h
    ·rename_i k;subst k;simp at h;subst h;subst e;exact ha.get _ _ hb
    ·exact ha.get _ _ h
  simp only [EY];rw [sP ha hj hb];by_cases OW:b=want
  ·subst OW;have:=h1 rfl a w (wi _ rfl) hw;simp only [EY,Region.wanted,if_true] at this;simp only [beq_self_eq_true,if_true];rw [show ∀ g,(⟨d,op,ty,pos,c9,g⟩:Oper).wp P a w (EY P all Q rest) Q=(⟨d,op,ty,pos,c9,none⟩:Oper).wp P a w (EY P all Q rest) Q from fun g=>rfl];rcases this with h|h
   ·exact .inl h
   ·exact .inr h
  ·have zG:b= !want:=by cases b<;>cases want<;>simp_all
   have:(b == want)=false:=by simp [OW]
   simp only [this,Bool.false_eq_true,if_false];exact h2 zG _ w ((wi _ zG).B1 hd undef) hw
theorem pV {op:Op} {ty:TypeId} {pos:String} {c9:Array Edge} {d:Option Tmp} {all:Array Oper} {rest:List Oper} {env:Env} {L:List HP} {Q:Exit→Act→World→Prop} {j s:Nat} {want b:Bool}
    (hj:c6 all j=some s) (hb:env.get? s=some (.bool b)) (Zv:Nat.blt s N=true) (hd:sh N d=true)
    (h1:b=want→WQ P N all (⟨d,op,ty,pos,c9,none⟩::rest) ((s,.bool want)::env) L Q)
    (h2:b= !want→WQ P N all rest (pj ((s,.bool !want)::env) d undef) L Q):WQ P N all (⟨d,op,ty,pos,c9,some (j,want)⟩::rest) env L Q:=by
  intro a ha;have wi:∀ c,b=c→du N ((s,.bool c)::env) a:=by
    intro c e;refine ⟨ha.size,ha.defers,fun t v h=>?_⟩;rw [Env.k5] at h;split at h
    ·rename_i k;subst k;simp at h;subst h;subst e;exact ha.get _ _ hb
    ·exact ha.get _ _ h
  simp only [wpQuiet];rw [sP ha hj hb];by_cases OW:b=want
  ·subst OW;have:=h1 rfl a (wi _ rfl);simp only [wpQuiet,Region.wanted,if_true] at this;simp only [beq_self_eq_true,if_true];exact this
  ·have zG:b= !want:=by cases b<;>cases want<;>simp_all
   have:(b == want)=false:=by simp [OW]
   simp only [this,Bool.false_eq_true,if_false];exact h2 zG _ ((wi _ zG).B1 hd undef)
theorem SR {x:Operand} {ty:TypeId} {env:Env} {L:List HP} {v:Value} (hx:ev env x=some v):V P N (.move x) ty env L v:=by
  intro a w ha _;simp [execOp,ha.ev hx]
theorem Nj {x:Operand} {ty:TypeId} {env:Env} {L:List HP} {v:Value} (hx:ev env x=some v):V P N (.assign x) ty env L v:=by
  intro a w ha _;simp [execOp,ha.ev hx]
theorem E6 {c x y:Operand} {ty:TypeId} {env:Env} {L:List HP} {u v:Value} (hc:ev env c=some u) (hu:u= .bool true) (hx:ev env x=some v):V P N (.pick c x y) ty env L v:=by
  intro a w ha _;subst hu;simp [execOp,ha.ev hx,ha.ev hc,asBool]
theorem E7 {c x y:Operand} {ty:TypeId} {env:Env} {L:List HP} {u v:Value} (hc:ev env c=some u) (hu:u= .bool false) (hx:ev env y=some v):V P N (.pick c x y) ty env L v:=by
  intro a w ha _;subst hu;simp [execOp,ha.ev hx,ha.ev hc,asBool]
def oX (op:BinOp) (k:IntKind) (m n:Int):Sem Value:=match op with
  | .add| .sub| .mul=>Op.intArith op k m n
  | .quo| .rem=>Op.intDiv op k m n
  | .and| .or| .xor| .andNot=>Op.intBits op k m n
  |_=>Op.intCmp op m n
theorem l4 {ρ:Operand→Value} {op:BinOp} {xt yt ty:TypeId} {x y:Operand} {k:IntKind} {m n:Int} (hx:ρ x= .int k m) (hy:ρ y= .int k n) (w:World)
    (h1:op≠ .shl) (h2:op≠ .shr) {v:Value} (hv:(oX op k m n).run P w= .ok v w) :
    (execOp ρ ⟨none,.binOp op xt x y yt,ty, "", #[],none⟩).run P w= .ok (.value v) w:=by
  have e:(eqGuard op xt x y (.int k m) (.int k n)).run P w= .ok () w:=by
    unfold eqGuard;split<;>simp
  have b:binOp op xt (.int k m) (.int k n)=oX op k m n:=by
    cases op<;>first|rfl|(simp [binOp,oX];done)|simp_all
  simp only [execOp,hx,hy];simp only [Sem.run_bind,e,b,hv,Result.andThen_ok,Sem.run_pure]
variable {xt yt ty:TypeId} {x y:Operand} {env:Env} {L:List HP} {k:IntKind} {m n:Int}
theorem RK (hx:ev env x=some (.int k m)) (hy:ev env y=some (.int k n)):V P N (.binOp .add xt x y yt) ty env L (.int k (k.wrap (m+n))):=
  fun _ w ha _=>l4 (ha.ev hx) (ha.ev hy) w (by simp) (by simp) (by simp [oX,Op.intArith])
theorem RM (hx:ev env x=some (.int k m)) (hy:ev env y=some (.int k n)):V P N (.binOp .sub xt x y yt) ty env L (.int k (k.wrap (m-n))):=
  fun _ w ha _=>l4 (ha.ev hx) (ha.ev hy) w (by simp) (by simp) (by simp [oX,Op.intArith])
theorem RN (hx:ev env x=some (.int k m)) (hy:ev env y=some (.int k n)):V P N (.binOp .mul xt x y yt) ty env L (.int k (k.wrap (m*n))):=
  fun _ w ha _=>l4 (ha.ev hx) (ha.ev hy) w (by simp) (by simp) (by simp [oX,Op.intArith])
theorem k9 {n:Int} (h0: -9223372036854775808≤n) (h1:n≤9223372036854775807):IntKind.i64.wrap n=n:=by
  unfold IntKind.wrap;simp [IntKind.bits,IntKind.signed];omega
theorem SS (hx:ev env x=some (.int .i64 m)) (hy:ev env y=some (.int .i64 n)) (h0: -9223372036854775808≤m+n) (h1:m+n≤9223372036854775807) :
    V P N (.binOp .add xt x y yt) ty env L (.int .i64 (m+n)):=by
  have:=RK (P:=P) (N:=N) (xt:=xt) (yt:=yt) (ty:=ty) (L:=L) hx hy;rwa [k9 h0 h1] at this
theorem SU (hx:ev env x=some (.int .i64 m)) (hy:ev env y=some (.int .i64 n)) (h0: -9223372036854775808≤m-n) (h1:m-n≤9223372036854775807) :
    V P N (.binOp .sub xt x y yt) ty env L (.int .i64 (m-n)):=by
  have:=RM (P:=P) (N:=N) (xt:=xt) (yt:=yt) (ty:=ty) (L:=L) hx hy;rwa [k9 h0 h1] at this
theorem SV (hx:ev env x=some (.int .i64 m)) (hy:ev env y=some (.int .i64 n)) (h0: -9223372036854775808≤m*n) (h1:m*n≤9223372036854775807) :
    V P N (.binOp .mul xt x y yt) ty env L (.int .i64 (m*n)):=by
  have:=RN (P:=P) (N:=N) (xt:=xt) (yt:=yt) (ty:=ty) (L:=L) hx hy;rwa [k9 h0 h1] at this
theorem VJ (hx:ev env x=some (.int k m)) (hy:ev env y=some (.int k n)):V P N (.binOp .lss xt x y yt) ty env L (.bool (decide (m<n))):=
  fun _ w ha _=>l4 (ha.ev hx) (ha.ev hy) w (by simp) (by simp) (by simp [oX,Op.intCmp])
theorem VK (hx:ev env x=some (.int k m)) (hy:ev env y=some (.int k n)):V P N (.binOp .leq xt x y yt) ty env L (.bool (decide (m≤n))):=
  fun _ w ha _=>l4 (ha.ev hx) (ha.ev hy) w (by simp) (by simp) (by simp [oX,Op.intCmp])
theorem VL (hx:ev env x=some (.int k m)) (hy:ev env y=some (.int k n)):V P N (.binOp .gtr xt x y yt) ty env L (.bool (decide (n<m))):=
  fun _ w ha _=>l4 (ha.ev hx) (ha.ev hy) w (by simp) (by simp) (by simp [oX,Op.intCmp])
theorem VM (hx:ev env x=some (.int k m)) (hy:ev env y=some (.int k n)):V P N (.binOp .geq xt x y yt) ty env L (.bool (decide (n≤m))):=
  fun _ w ha _=>l4 (ha.ev hx) (ha.ev hy) w (by simp) (by simp) (by simp [oX,Op.intCmp])
theorem VN (hx:ev env x=some (.int k m)) (hy:ev env y=some (.int k n)):V P N (.binOp .eql xt x y yt) ty env L (.bool (decide (m=n))):=
  fun _ w ha _=>l4 (ha.ev hx) (ha.ev hy) w (by simp) (by simp) (by
    have:(m == n)=decide (m=n):=by by_cases h:m=n<;>simp [h]
    simp only [oX,Op.intCmp,this,Sem.run_pure])
theorem VO (hx:ev env x=some (.int k m)) (hy:ev env y=some (.int k n)):V P N (.binOp .neq xt x y yt) ty env L (.bool (decide (m≠n))):=
  fun _ w ha _=>l4 (ha.ev hx) (ha.ev hy) w (by simp) (by simp) (by
    by_cases h:m=n<;>simp [oX,Op.intCmp,h])
theorem VP (hx:ev env x=some (.int k m)) (hy:ev env y=some (.int k n)) (h:n≠0):V P N (.binOp .rem xt x y yt) ty env L (.int k (m.tmod n)):=
  fun _ w ha _=>l4 (ha.ev hx) (ha.ev hy) w (by simp) (by simp) (by simp [oX,Op.intDiv,h])
theorem VQ (hx:ev env x=some (.int k m)) (hy:ev env y=some (.int k n)) (h:n≠0):V P N (.binOp .quo xt x y yt) ty env L (.int k (k.wrap (m.tdiv n))):=
  fun _ w ha _=>l4 (ha.ev hx) (ha.ev hy) w (by simp) (by simp) (by simp [oX,Op.intDiv,h])
def bK (k:IntKind) (a b:Int):Int:=k.wrap (BitVec.ofInt k.bits a&&& BitVec.ofInt k.bits b).toNat
def dU (k:IntKind) (a b:Int):Int:=k.wrap (BitVec.ofInt k.bits a||| BitVec.ofInt k.bits b).toNat
theorem VR (hx:ev env x=some (.int k m)) (hy:ev env y=some (.int k n)):V P N (.binOp .and xt x y yt) ty env L (.int k (bK k m n)):=
  fun _ w ha _=>l4 (ha.ev hx) (ha.ev hy) w (by simp) (by simp) (by simp [oX,Op.intBits,bK])
theorem y9 (d:Nat) {t:TypeId} (hT:TU P t .bool) (a b:Bool) (w:World):(Op.equalIn (d+1) t (.bool a) (.bool b)).run P w= .ok (a == b) w:=by
  simp only [Op.equalIn,Sem.run_bind,run_underlying hT.pf,Result.andThen_ok,Sem.run_pure]
theorem VS {a b:Bool} [hT:TU P xt .bool] (hx:ev env x=some (.bool a)) (hy:ev env y=some (.bool b)):V P N (.binOp .eql xt x y yt) ty env L (.bool (decide (a=b))):=by
  intro f w ha _;have e:(eqGuard .eql xt x y (.bool a) (.bool b)).run P w= .ok () w:=by unfold eqGuard;simp
  have h:(Op.equal xt (.bool a) (.bool b)).run P w= .ok (a == b) w:=by
    exact y9 9999 hT a b w
  have hb:(a == b)=decide (a=b):=by cases a<;>cases b<;>rfl
  simp [execOp,ha.ev hx,ha.ev hy,e,binOp,h,hb]
theorem VT {a b:Bool} [hT:TU P xt .bool] (hx:ev env x=some (.bool a)) (hy:ev env y=some (.bool b)):V P N (.binOp .neq xt x y yt) ty env L (.bool (decide (a≠b))):=by
  intro f w ha _;have e:(eqGuard .neq xt x y (.bool a) (.bool b)).run P w= .ok () w:=by unfold eqGuard;simp
  have h:(Op.equal xt (.bool a) (.bool b)).run P w= .ok (a == b) w:=by
    exact y9 9999 hT a b w
  have hb:(!(a == b))=decide (a≠b):=by cases a<;>cases b<;>rfl
  simp [execOp,ha.ev hx,ha.ev hy,e,binOp,h,hb]
theorem VU {yk:IntKind} (hx:ev env x=some (.int k m)) (hy:ev env y=some (.int yk n)) (h:0≤n):V P N (.binOp .shr xt x y yt) ty env L (.int k (m.fdiv (2^min n.toNat k.bits))):=by
  intro a w ha _;have hn:¬n<0:=by omega
  simp [execOp,ha.ev hx,ha.ev hy,eqGuard,binOp,Op.shift,hn]
theorem Ci {b:Bool} (hx:ev env x=some (.bool b)):V P N (.unOp .not xt x) ty env L (.bool !b):=by
  intro a w ha _;simp [execOp,ha.ev hx,Op.unary]
theorem PX {u:Value} (hx:ev env x=some u) (hu:u= .bool true):V P N (.unOp .not xt x) ty env L (.bool false):=by subst hu;exact Ci hx
theorem PY {u:Value} (hx:ev env x=some u) (hu:u= .bool false):V P N (.unOp .not xt x) ty env L (.bool true):=by subst hu;exact Ci hx
theorem Nk {b:Bool} (hx:ev env x=some (.bool b)) (hb:b=true):V P N (.unOp .not xt x) ty env L (.bool false):=by subst hb;exact Ci hx
theorem Nl {b:Bool} (hx:ev env x=some (.bool b)) (hb:b=false):V P N (.unOp .not xt x) ty env L (.bool true):=by subst hb;exact Ci hx
theorem Kp {p:Prop} {inst:Decidable p} (hx:ev env x=some (.bool (@decide p inst))):V P N (.unOp .not xt x) ty env L (.bool (decide (¬p))):=by
  have:=Ci (P:=P) (N:=N) (xt:=xt) (ty:=ty) (L:=L) hx;rwa [←decide_not] at this
theorem Kq {vs:List Value} {i:Nat} {v:Value} (hx:ev env x=some (.tuple vs.toArray)) (hv:vs[i]? =some v):V P N (.extract x i) ty env L v:=by
  intro a w ha _;simp [execOp,ha.ev hx,Instr.extract,hv]
theorem HV {p:Addr} (hx:ev env x=some (.pointer (some p))):V P N (.nilCheck x) ty env L (.pointer (some p)):=by
  intro a w ha _;simp [execOp,ha.ev hx]
theorem CD {src dst:TypeId} {ds:TypeDesc} {k':IntKind} [hs:TU P src ds] [hd:TU P dst (.int k')] (hx:ev env x=some (.int k m)):V P N (.convert src dst x) ty env L (.int k' (k'.wrap m)):=by
  intro a w ha _;simp [execOp,ha.ev hx,convert,run_underlying hs.pf,run_underlying hd.pf,Conv.intToInt]
theorem CE {b off:Nat} {f:Field} {nc bs:Nat} {z:Value} (h:TZ P f.type nc z bs) (hn:nc≠0) (w:World):(fieldPlace ⟨b,off,none⟩ f).run P w= .ok ⟨b,off+f.offset,none⟩ w:=by
  unfold fieldPlace;simp [run_sizeOf h,hn,Addr.add]
end
end Go.Sx
namespace Go.Sx
open Go
def cellsOf:Value→List Value
  | .agg cs=>cs.toList
  |v=>[v]
class CO (v:Value) (cs:outParam (List Value)):Prop where
  pf:cellsOf v=cs
instance {k:IntKind} {n:Int}:CO (.int k n) [.int k n]:=⟨rfl⟩
instance {b:Bool}:CO (.bool b) [.bool b]:=⟨rfl⟩
instance {b:ByteArray}:CO (.string b) [.string b]:=⟨rfl⟩
instance {b:Option Addr}:CO (.pointer b) [.pointer b]:=⟨rfl⟩
instance {b:Option Addr} {n c:Nat}:CO (.slice b n c) [.slice b n c]:=⟨rfl⟩
instance {b:Option Nat}:CO (.map b) [.map b]:=⟨rfl⟩
instance {f:_root_.Go.Fn} {a b:Array Value}:CO (.func f a b) [.func f a b]:=⟨rfl⟩
instance:CO .nilFunc [.nilFunc]:=⟨rfl⟩
instance {t:TypeId} {v:Value}:CO (.iface t v) [.iface t v]:=⟨rfl⟩
instance:CO .nilIface [.nilIface]:=⟨rfl⟩
instance {l:List Value}:CO (.agg l.toArray) l:=⟨rfl⟩
class HW (l:List Value) (off:Nat) (cs:List Value) (l':outParam (List Value)):Prop where
instance {l:List Value}:HW l 0 [] l:=⟨⟩
instance {a c:Value} {l cs l':List Value} [HW l 0 cs l']:HW (a::l) 0 (c::cs) (c::l'):=⟨⟩
instance {a:Value} {i:Nat} {l cs l':List Value} [HW l i cs l']:HW (a::l) (i+1) cs (a::l'):=⟨⟩
class F3 (l:List Value) (off n:Nat) (cs:outParam (List Value)):Prop where
instance {l:List Value}:F3 l 0 0 []:=⟨⟩
instance {a:Value} {n:Nat} {l cs:List Value} [F3 l 0 n cs]:F3 (a::l) 0 (n+1) (a::cs):=⟨⟩
instance {a:Value} {i n:Nat} {l cs:List Value} [F3 l i n cs]:F3 (a::l) (i+1) n cs:=⟨⟩
class Hz (l:List Value) (n:Nat) (a b:outParam (List Value)):Prop where
instance {l:List Value}:Hz l 0 [] l:=⟨⟩
instance {x:Value} {n:Nat} {l a b:List Value} [Hz l n a b]:Hz (x::l) (n+1) (x::a) b:=⟨⟩
class Cj (l:List Value) (ps:List (Nat×Nat)) (ch:outParam (List (List Value))):Prop where
instance {l:List Value}:Cj l [] []:=⟨⟩
instance {l a b:List Value} {o n:Nat} {ps:List (Nat×Nat)} {ch:List (List Value)} [Hz l n a b] [Cj b ps ch]:Cj l ((o,n)::ps) (a::ch):=⟨⟩
class Pg (ch:List (List Value)) (i:Nat) (c:List Value) (Zw:outParam (List (List Value))):Prop where
instance {a c:List Value} {r:List (List Value)}:Pg (a::r) 0 c (c::r):=⟨⟩
instance {a c:List Value} {i:Nat} {r r':List (List Value)} [Pg r i c r']:Pg (a::r) (i+1) c (a::r'):=⟨⟩
class Ck (ch:List (List Value)) (vs:List (Nat×Value)) (Zw:outParam (List (List Value))):Prop where
instance {ch:List (List Value)}:Ck ch [] ch:=⟨⟩
instance {ch Yl Ym:List (List Value)} {i:Nat} {v:Value} {c:List Value} {r:List (Nat×Value)} [CO v c] [Pg ch i c Yl] [Ck Yl r Ym]:Ck ch ((i,v)::r) Ym:=⟨⟩
class vY (ch:List (List Value)) (l:outParam (List Value)):Prop where
instance:vY [] []:=⟨⟩
instance {r:List (List Value)} {l:List Value} [vY r l]:vY ([]::r) l:=⟨⟩
instance {a:Value} {c l:List Value} {r:List (List Value)} [vY (c::r) l]:vY ((a::c)::r) (a::l):=⟨⟩
class Ph (z:List Value) (n:Nat) (l:outParam (List Value)):Prop where
instance {z:List Value}:Ph z 0 []:=⟨⟩
instance {z l l':List Value} {n:Nat} [Ph z n l] [vY [z,l] l']:Ph z (n+1) l':=⟨⟩
class Uq (sz k n:Nat) (ps:outParam (List (Nat×Nat))):Prop where
instance {sz k:Nat}:Uq sz k 0 []:=⟨⟩
instance {sz k n:Nat} {ps:List (Nat×Nat)} [Uq sz (k+1) n ps]:Uq sz k (n+1) ((k*sz,sz)::ps):=⟨⟩
class Pj (a b:Nat) (c:outParam Nat):Prop where
  pf:a+b=c
instance (priority:=high) {b:Nat}:Pj 0 b b:=⟨Nat.zero_add b⟩
instance (priority:=high) {a:Nat}:Pj a 0 a:=⟨rfl⟩
instance (priority:=low) {a b:Nat}:Pj a b (a+b):=⟨rfl⟩
theorem dT (v:Value):v.cells=(cellsOf v).toArray:=by cases v<;>simp [Value.cells,cellsOf]
def aV (l:List Value) (off:Nat) (cs:List Value):List Value:=l.take off++cs++l.drop (off+cs.length)
class bX (b:Nat) (L:List HP) (T:outParam TypeId) (l:outParam (List Value)) (C:outParam (List Value→List HP)):Prop where
  pf:∃ R,ai L (ao b T l::R)∧∀ l',ai (ao b T l'::R) (C l')
instance (priority:=high) bX.here {b:Nat} {T:TypeId} {l:List Value} {L:List HP}:bX b (ao b T l::L) T l (fun l'=>ao b T l'::L):=⟨L,ai.refl,fun _=>ai.refl⟩
instance bX.there {b:Nat} {T:TypeId} {l:List Value} {q:HP} {L:List HP} {C:List Value→List HP} [k:bX b L T l C]:bX b (q::L) T l (fun l'=>q::C l'):=
  let ⟨R,h1,h2⟩:=k.pf
  ⟨q::R,fun _ h=>kE (jM h1 h),fun l' _ h=>jM (h2 l') (kE h)⟩
theorem jn {b:Nat} {L:List HP} {T:TypeId} {l:List Value} {C:List Value→List HP} (k:bX b L T l C) {w:World} (h:Sat L w):w.heap[b]? =some (.cells l.toArray T (0,0)):=
  let ⟨_,h1,_⟩:=k.pf
  nT (h1.gX h)
theorem io {w:World} {b off:Nat} {l:List Value} {T:TypeId} (h:w.heap[b]? =some (.cells l.toArray T (0,0))):w.cell? ⟨b,off,none⟩=l[off]? :=by
  simp [World.cell?,h]
theorem BX {w:World} {b off:Nat} {l:List Value} {T:TypeId} (h:w.heap[b]? =some (.cells l.toArray T (0,0))):w.frozen? ⟨b,off,none⟩=false:=by
  simp [World.frozen?,h]
theorem Gg {P:Program} {w:World} {a:Addr} {v:Value} (h:w.cell? a=some v):(load a).run P w= .ok v w:=by simp [h]
theorem qC {P:Program} {w:World} (b off:Nat) (l:List Value):∀ (n i:Nat) (acc:Array Value),(∀ j v,i≤j→j<i+n→l[j]? =some v→w.cell? ⟨b,off+j,none⟩=some v)→i+n≤l.length→
    (loadCellsFrom ⟨b,off,none⟩ i n acc).run P w= .ok (acc++((l.drop i).take n).toArray) w
  |0,i,acc,_,_=>by simp [loadCellsFrom]
  |n+1,i,acc,h,hl=>by
   have hi:i<l.length:=by omega
   have e:(Addr.add ⟨b,off,none⟩ i)=⟨b,off+i,none⟩:=by
     unfold Addr.add;split<;>simp_all
   have hc:=h i l[i] (Nat.le_refl _) (om) (by simp [hi]);simp only [loadCellsFrom,e,Sem.run_bind,Gg hc,Result.andThen_ok];rw [qC b off l n (i+1) _ (fun j v h1 h2 h3=>h j v (om) (om) h3) (om)];congr 1;rw [List.drop_eq_getElem_cons hi,List.take_succ_cons];simp
def sub (l:List Value) (off n:Nat):Option (List Value):=match Nat.ble (off+n) l.length with|true=>some ((l.drop off).take n)|false=>none
theorem wV {l:List Value} {off n:Nat} {cs:List Value} (h:sub l off n=some cs):off+n≤l.length∧cs=(l.drop off).take n:=by
  unfold sub at h;cases e:Nat.ble (off+n) l.length with
  |true=>rw [e] at h;simp at h;exact ⟨by simpa using e,h.symm⟩
  |false=>rw [e] at h;simp at h
theorem gK {P:Program} {w:World} {b off n:Nat} {cs:List Value} (hn:cs.length=n) (h:∀ j v,cs[j]? =some v→w.cell? ⟨b,off+j,none⟩=some v) :
    (loadCells ⟨b,off,none⟩ n).run P w= .ok cs.toArray w:=by
  unfold loadCells;rw [qC b off cs n 0 #[] (fun j v _ _ h3=>h j v h3) (om)];subst hn;simp
def kJ (agg:Bool) (cs:List Value):Option Value:=match agg,cs with
  |true,cs=>some (.agg cs.toArray)
  |false,[v]=>some v
  |false,_=>none
theorem uI {P:Program} {w:World} {t:TypeId} {d:TypeDesc} {n bs:Nat} {z:Value} {b off:Nat} {cs:List Value} {v:Value} (hT:TU P t d) (hZ:TZ P t n z bs)
    (hn:cs.length=n) (hv:kJ (mD d) cs=some v) (h:∀ j v,cs[j]? =some v→w.cell? ⟨b,off+j,none⟩=some v):(loadVar t ⟨b,off,none⟩).run P w= .ok v w:=by
  unfold loadVar;simp only [Sem.run_bind,vi hT,Result.andThen_ok];cases e:mD d with
  |true=>
   rw [e] at hv;simp [kJ] at hv;subst hv;simp [run_sizeOf hZ,gK hn h]
  |false=>
   rw [e] at hv;match cs,hv,h with
   | [u],hv,h=>
     simp [kJ] at hv;subst hv;have:w.cell? ⟨b,off,none⟩=some u:=h 0 u rfl;simp [this]
   | [],hv,_=>simp [kJ] at hv
   |_::_::_,hv,_=>simp [kJ] at hv
section
variable {P:Program} {N:Nat}
variable {t ty:TypeId} {x y:Operand} {env:Env} {L:List HP}
theorem Hi {d:TypeDesc} {n bs:Nat} {z:Value} {b off:Nat} {T:TypeId} {l cs:List Value} {C:List Value→List HP} {v:Value} [hT:TU P t d] [hZ:TZ P t n z bs]
    (hx:ev env x=some (.pointer (some ⟨b,off,none⟩))) (k:bX b L T l C) (hs:sub l off n=some cs) (hv:kJ (mD d) cs=some v):V P N (.load t x) ty env L v:=by
  intro a w ha hw;have hh:=jn k hw;obtain ⟨h1,h2⟩:=wV hs;have:=uI (P:=P) (w:=w) (b:=b) (off:=off) hT hZ (cs:=cs) (by subst h2;simp;omega) hv (fun j v hj=>by
    rw [io hh];subst h2;rw [List.getElem?_take] at hj;split at hj
    ·rwa [List.getElem?_drop] at hj
    ·simp at hj)
  simp [execOp,ha.ev hx,Instr.loadAt,Instr.sureAddr,this]
theorem PZ {d:TypeDesc} {n bs:Nat} {z:Value} {b off:Nat} {T:TypeId} {l cs:List Value} {C:List Value→List HP} [hT:TU P t d] [hZ:TZ P t n z bs] (hd:mD d=true)
    (hx:ev env x=some (.pointer (some ⟨b,off,none⟩))) (k:bX b L T l C) (_:F3 l off n cs) (hs:sub l off n=some cs):V P N (.load t x) ty env L (.agg cs.toArray):=
  Hi hx k hs (by rw [hd];rfl)
theorem HX {d:TypeDesc} {n bs:Nat} {z:Value} {b:Nat} {T:TypeId} {l:List Value} {C:List Value→List HP} [hT:TU P t d] [hZ:TZ P t n z bs] (hd:mD d=true)
    (hx:ev env x=some (.pointer (some ⟨b,0,none⟩))) (k:bX b L T l C) (hn:Nat.beq n l.length=true):V P N (.load t x) ty env L (.agg l.toArray):=by
  have LW:n=l.length:=by simpa using hn
  refine Hi hx k (cs:=l) ?_ (by rw [hd];rfl);subst LW;have hb:Nat.ble (0+l.length) l.length=true:=by simp
  unfold sub;rw [hb];simp
theorem Jj {d:TypeDesc} {b off:Nat} {T:TypeId} {l:List Value} {C:List Value→List HP} {v:Value} [hT:TU P t d] (hd:mD d=false)
    (hx:ev env x=some (.pointer (some ⟨b,off,none⟩))) (k:bX b L T l C) (hs:l[off]? =some v):V P N (.load t x) ty env L v:=by
  intro a w ha hw;have hh:=jn k hw;have:(loadVar t ⟨b,off,none⟩).run P w= .ok v w:=by
    unfold loadVar;simp [vi hT,hd,io hh,hs]
  simp [execOp,ha.ev hx,Instr.loadAt,Instr.sureAddr,this]
theorem Gh {s:TypeId} {f off ft b o nc bs:Nat} {z:Value} [hF:TF P s f off ft] [hZ:TZ P ft nc z bs] (hx:ev env x=some (.pointer (some ⟨b,o,none⟩))) (hn:Nat.beq nc 0=false) {o':Nat} (ho:Pj o off o') :
    V P N (.fieldAddr s x f) ty env L (.pointer (some ⟨b,o',none⟩)):=by
  intro a w ha _;have R4:=ho.pf;subst R4;obtain ⟨fs,fd,h1,h2,h3,h4⟩:=hF.pf;subst h3 h4;have LW:nc≠0:=fun e=>by subst e;simp at hn
  simp [execOp,ha.ev hx,Instr.fieldAt,run_underlying h1,h2,Instr.sureAddr,CE hZ LW]
theorem xT {e:TypeId} {i:Int} {k:IntKind} {b o n c sz bs:Nat} {z:Value} [hT:TU P t (.slice e)] [hZ:TZ P e sz z bs] (hx:ev env x=some (.slice (some ⟨b,o,none⟩) n c)) (hy:ev env y=some (.int k i))
    (h0:0≤i) (h1:i<(n:Int)):V P N (.indexAddr t x y) ty env L (.pointer (some ⟨b,o+i.toNat*sz,none⟩)):=by
  intro a w ha _;have sK:(Addr.add ⟨b,o,none⟩ (i.toNat*sz))=⟨b,o+i.toNat*sz,none⟩:=by unfold Addr.add;split<;>simp_all
  simp [execOp,ha.ev hx,ha.ev hy,Instr.indexAt,asIntOf,run_underlying hT.pf,h0,h1,run_sizeOf hZ,sK]
theorem xU {e len:Nat} {i:Int} {k:IntKind} {b o sz bs:Nat} {z:Value} [hT:TU P t (.array len e)] [hZ:TZ P e sz z bs] (hx:ev env x=some (.pointer (some ⟨b,o,none⟩))) (hy:ev env y=some (.int k i))
    (h0:0≤i) (h1:i<(len:Int)):V P N (.indexAddr t x y) ty env L (.pointer (some ⟨b,o+i.toNat*sz,none⟩)):=by
  intro a w ha _;have sK:(Addr.add ⟨b,o,none⟩ (i.toNat*sz))=⟨b,o+i.toNat*sz,none⟩:=by unfold Addr.add;split<;>simp_all
  simp [execOp,ha.ev hx,ha.ev hy,Instr.indexAt,asIntOf,run_underlying hT.pf,h0,h1,run_sizeOf hZ,sK,Instr.sureAddr]
theorem vV {e len:Nat} {i:Int} {k:IntKind} {sz bs:Nat} {z:Value} {d:TypeDesc} {l cs:List Value} {v:Value} [hT:TU P t (.array len e)] [hD:TU P e d] [hZ:TZ P e sz z bs] (hx:ev env x=some (.agg l.toArray)) (hy:ev env y=some (.int k i))
    (h0:0≤i) (h1:i<(len:Int)) (hs:sub l (i.toNat*sz) sz=some cs) (hv:kJ (mD d) cs=some v):V P N (.index t x y) ty env L v:=by
  intro a w ha _;obtain ⟨k1,k2⟩:=wV hs;have:(part e l.toArray (i.toNat*sz)).run P w= .ok v w:=by
    unfold part;simp only [Sem.run_bind,vi hD,Result.andThen_ok];cases e:mD d with
    |true=>
     rw [e] at hv;simp [kJ] at hv;subst hv;simp [run_sizeOf hZ,k2]
    |false=>
     rw [e] at hv;match cs,hv,k2 with
     | [u],hv,k2=>
       simp [kJ] at hv;subst hv;have:l[i.toNat*sz]? =some u:=by
         have h0:((l.drop (i.toNat*sz)).take sz)[0]? =some u:=by rw [←k2];rfl
         rw [List.getElem?_take] at h0;split at h0
         ·simpa using h0
         ·simp at h0
       simp [this]
     | [],hv,_=>simp [kJ] at hv
     |_::_::_,hv,_=>simp [kJ] at hv
  simp [execOp,ha.ev hx,ha.ev hy,Instr.index,asIntOf,run_underlying hT.pf,h0,h1,run_sizeOf hZ,this]
def KO (P:Program) (N:Nat) (o:Oper) (env:Env) (L:List HP) (post:Env→List HP→Prop):Prop:=
  ∀ a w,du N env a→Sat L w→∀ (K:Act→World→Prop) (Q:Exit→Act→World→Prop),(∀ e' L' a' w',post e' L'→du N e' a'→Sat L' w'→K a' w')→o.wp P a w K Q
theorem mY {o:Oper} {all:Array Oper} {rest:List Oper} {env:Env} {L:List HP} {Q:Exit→Act→World→Prop} {post:Env→List HP→Prop} (hg:o.guard=none) (h:KO P N o env L post)
    (next:∀ e' L',post e' L'→WO P N all rest e' L' Q):WO P N all (o::rest) env L Q:=by
  intro a w ha hw;simp only [EY,Region.wanted,hg,if_true];exact .inl (h a w ha hw _ _ fun e' L' a' w' hp Ej Ct=>next e' L' hp a' w' Ej Ct)
abbrev tq (env:Env) (L':List HP):Env→List HP→Prop:=fun e' M=>e'=env∧M=L'
abbrev uX (env:Env) (d:Nat) (v:Nat→Value) (L':Nat→List HP):Env→List HP→Prop:=fun e' M=>∃ b,e'=(d,v b)::env∧M=L' b
def one (v:Value):Bool:=match v with| .agg _=>false| .tuple _=>false|_=>true
theorem gL {P:Program} (b:Nat) (T:TypeId):∀ (cs:List Value) (l:List Value) (off i:Nat) (w:World),w.heap[b]? =some (.cells l.toArray T (0,0))→off+i+cs.length≤l.length→cs.all one=true→
    ∃ w',(storeCells ⟨b,off,none⟩ cs i).run P w= .ok () w'∧w'.heap[b]? =some (.cells (aV l (off+i) cs).toArray T (0,0))∧(∀ k,k≠b→w'.heap[k]? =w.heap[k]?)∧w'.os=w.os∧w'.output=w.output∧w'.tape=w.tape
  | [],l,off,i,w,hw,_,_=>⟨w,rfl,by simpa [aV] using hw,fun _ _=>rfl,rfl,rfl,rfl⟩
  |v::r,l,off,i,w,hw,hl,h1=>by
   simp only [List.all_cons,Bool.and_eq_true] at h1
   simp only [List.length_cons] at hl
   have e:(Addr.add ⟨b,off,none⟩ i)=⟨b,off+i,none⟩:=by unfold Addr.add;split<;>simp_all
   have hv:v.oneCell'=true:=by cases v<;>simp_all [one,Value.oneCell']
   have bB:off+i<l.length:=by omega
   have Ct:(w.setCell ⟨b,off+i,none⟩ v).heap[b]? =some (.cells (l.set (off+i) v).toArray T (0,0)):=by
     simp [World.setCell,Array.getElem?_modify,hw]
   obtain ⟨w2,r1,r2,r3,r4,r5,r6⟩:=gL (P:=P) b T r (l.set (off+i) v) off (i+1) (w.setCell ⟨b,off+i,none⟩ v) Ct (by simp;omega) h1.2;refine ⟨w2,?_,?_,?_,by rw [r4];rfl,by rw [r5];rfl,by rw [r6];rfl⟩
   ·simp only [storeCells,e,Sem.run_bind];rw [run_store P w _ v _ hv];simp [io hw,bB,BX hw,r1]
   ·rw [r2];congr 3;unfold aV;have:off+i+(v::r).length=off+(i+1)+r.length:=by simp;omega
    rw [this,List.drop_set_of_lt (om)];have h2:(l.set (off+i) v).take (off+(i+1))=l.take (off+i)++[v]:=by
      rw [←Nat.add_assoc,List.take_add_one,List.take_set_of_le (om)];simp [bB]
    rw [h2];simp
   ·intro k hk;rw [r3 k hk];simp [World.setCell,Array.getElem?_modify,Ne.symm hk]
theorem nN {n bs:Nat} {z v:Value} {b off:Nat} {T:TypeId} {l cs:List Value} {C:List Value→List HP} {pos:String} {c9:Array Edge} [hZ:TZ P t n z bs]
    (hx:ev env x=some (.pointer (some ⟨b,off,none⟩))) (hy:ev env y=some v) (k:bX b L T l C) (hc:cellsOf v=cs) (hn:cs.length=n) (h1:cs.all one=true) (hl:Nat.ble (off+n) l.length=true) :
    KO P N ⟨none,.store t x y,ty,pos,c9,none⟩ env L (tq env (C (aV l off cs))):=by
  intro a w ha hw K Q next
  obtain ⟨R,k1,k2⟩:=k.pf;have hs:=k1.gX hw;have hh:=nT hs;have yH:off+n≤l.length:=by simpa using hl
  obtain ⟨w',r1,r2,r3,r4,r5,r6⟩:=gL (P:=P) b T cs l off 0 w hh (om) h1;have run:(execOp a.eval ⟨none,.store t x y,ty, "", #[],none⟩).run P w= .ok .skip w':=by
    have e:v.cells.toList=cs:=by rw [dT];simpa using hc
    have e2:v.cells.size=n:=by rw [dT];simp [hc,hn]
    simp [execOp,ha.ev hx,ha.ev hy,Instr.storeAt,Instr.sureAddr,storeVar,run_sizeOf hZ,e2,e,r1]
  unfold Oper.wp;rw [cY,run];refine next _ _ a w' ⟨rfl,rfl⟩ ha ((k2 _).gX ?_)
  refine qN (b:=b) (ao b T (aV l off cs)) (fun h hp=>⟨_,hp.pf⟩) (fun h e=>⟨e⟩) (by simpa using r2) r3 r4 r5 r6 hs
theorem Nm {n bs:Nat} {z v:Value} {b off:Nat} {T:TypeId} {l l' cs:List Value} {C:List Value→List HP} {pos:String} {c9:Array Edge} [hZ:TZ P t n z bs]
    (hx:ev env x=some (.pointer (some ⟨b,off,none⟩))) (hy:ev env y=some v) (k:bX b L T l C) (hc:CO v cs) (_:HW l off cs l') (yH:aV l off cs=l') (hn:cs.length=n) (h1:cs.all one=true) (hl:Nat.ble (off+n) l.length=true) :
    KO P N ⟨none,.store t x y,ty,pos,c9,none⟩ env L (tq env (C l')):=by
  subst yH;exact nN hx hy k hc.pf hn h1 hl
theorem Gi {n bs:Nat} {z v:Value} {b:Nat} {T:TypeId} {l cs:List Value} {C:List Value→List HP} {pos:String} {c9:Array Edge} [hZ:TZ P t n z bs]
    (hx:ev env x=some (.pointer (some ⟨b,0,none⟩))) (hy:ev env y=some v) (k:bX b L T l C) (hc:CO v cs) (hn:cs.length=n) (h1:cs.all one=true) (hl:Nat.beq n l.length=true) :
    KO P N ⟨none,.store t x y,ty,pos,c9,none⟩ env L (tq env (C cs)):=by
  have yH:n=l.length:=by simpa using hl
  have:=nN (P:=P) (N:=N) (t:=t) (n:=n) (bs:=bs) (z:=z) (ty:=ty) (pos:=pos) (c9:=c9) hx hy k hc.pf hn h1 (by simp [yH]);have e:aV l 0 cs=cs:=by unfold aV;simp;omega
  rw [e] at this;exact this
theorem zN {op:Op} {pos:String} {c9:Array Edge} {d:Nat} {o:Obj} {q:Nat→HP} {v:Nat→Value} (hq:∀ b (h:PH),h.c b=some o→q b h)
    (h:∀ a w,du N env a→Sat L w→(execOp a.eval ⟨none,op,ty, "", #[],none⟩).run P w= .ok (.value (v w.heap.size)) { w with heap:=w.heap.push o})
    (hd:Nat.blt d N=true):KO P N ⟨some d,op,ty,pos,c9,none⟩ env L (uX env d v (fun b=>q b::L)):=by
  intro a w ha hw K Q next
  unfold Oper.wp;rw [cY,h a w ha hw];exact next _ _ _ _ ⟨w.heap.size,rfl,rfl⟩ (ha.put hd _) (DU (q w.heap.size) (hq _) hw)
theorem VV {v:Value} {cs:List Value} {pos:String} {c9:Array Edge} {d:Nat} (hx:ev env x=some v) (yG:CO v cs) (hd:Nat.blt d N=true) :
    KO P N ⟨some d,.box t x,ty,pos,c9,none⟩ env L (uX env d (fun b=> .pointer (some ⟨b,0,none⟩)) (fun b=>ao b t cs::L)):=by
  have hc:=yG.pf;refine zN (o:= .cells cs.toArray t (0,0)) (q:=fun b=>ao b t cs) (v:=fun b=> .pointer (some ⟨b,0,none⟩)) (fun b h e=>⟨e⟩) ?_ hd;intro a w ha _;have e:v.cells=cs.toArray:=by rw [dT,hc]
  simp [execOp,ha.ev hx,Instr.box,newVar,newRow,e]
theorem P0 {n bs:Nat} {z:Value} {cs:List Value} {pos:String} {c9:Array Edge} {d:Nat} [hZ:TZ P t n z bs] [yG:CO z cs] (hd:Nat.blt d N=true) :
    KO P N ⟨some d,.alloc t,ty,pos,c9,none⟩ env L (uX env d (fun b=> .pointer (some ⟨b,0,none⟩)) (fun b=>ao b t cs::L)):=by
  have hc:=yG.pf;refine zN (o:= .cells cs.toArray t (0,0)) (q:=fun b=>ao b t cs) (v:=fun b=> .pointer (some ⟨b,0,none⟩)) (fun b h e=>⟨e⟩) ?_ hd;intro a w ha _;have e:z.cells=cs.toArray:=by rw [dT,hc]
  simp [execOp,Instr.alloc,jI hZ,newVar,newRow,e]
end
end Go.Sx
namespace Go.Sx
open Go
def Cq (env:Env):List Operand→Option (List Value)
  | []=>some []
  |x::r=>match ev env x,Cq env r with
   |some v,some vs=>some (v::vs)
   |_,_=>none
theorem du.Cq {N:Nat} {env:Env} {a:Act} (h:du N env a):∀ {xs:List Operand} {vs:List Value},Sx.Cq env xs=some vs→xs.map a.eval=vs
  | [],vs,e=>by simp [Sx.Cq] at e;simp [e]
  |x::r,vs,e=>by
   simp only [Sx.Cq] at e
   split at e
   ·rename_i v Yk h1 h2
    simp at e;subst e
    rw [List.map_cons,h.ev h1,h.Cq h2]
   ·simp at e
def G6 (env:Env):List (Nat×Operand)→Option (List (Nat×Value))
  | []=>some []
  |(i,x)::r=>match ev env x,G6 env r with
   |some v,some vs=>some ((i,v)::vs)
   |_,_=>none
theorem du.G6 {N:Nat} {env:Env} {a:Act} (h:du N env a):∀ {xs:List (Nat×Operand)} {vs:List (Nat×Value)},Sx.G6 env xs=some vs→xs.map (fun p=>(p.1,a.eval p.2))=vs
  | [],vs,e=>by simp [Sx.G6] at e;simp [e]
  |(i,x)::r,vs,e=>by
   simp only [Sx.G6] at e
   split at e
   ·rename_i v Yk h1 h2
    simp at e;subst e
    rw [List.map_cons,h.G6 h2]
    simp [h.ev h1]
   ·simp at e
class TS (P:Program) (s:TypeId) (kP:outParam (List (Nat×Nat))):Prop where
  pf:∃ fs,P.underlying s=some (.struct fs)∧fs.toList.map (fun f=>(f.offset,(P.info? f.type).map (·.size)))=kP.map (fun p=>(p.1,some p.2))
def tu (place:Nat→Option (Nat×Nat)) (cells:List Value):List (Nat×Value)→Option (List Value)
  | []=>some cells
  |(i,v)::rest=>match place i with
   |none=>none
   |some (off,size)=>match Nat.beq (cellsOf v).length size,Nat.ble (off+(cellsOf v).length) cells.length with
    |true,true=>tu place (aV cells off (cellsOf v)) rest
    |_,_=>none
theorem za:∀ (cs:List Value) (l:List Value) (off j:Nat),off+j+cs.length≤l.length→
    (cs.zipIdx j).foldl (fun (acc:Array Value) (p:Value×Nat)=>acc.setIfInBounds (off+p.2) p.1) l.toArray=(aV l (off+j) cs).toArray
  | [],l,off,j,_=>by simp [aV]
  |v::r,l,off,j,h=>by
   simp only [List.length_cons] at h
   have bB:off+j<l.length:=by omega
   rw [List.zipIdx_cons,List.foldl_cons];simp only [List.setIfInBounds_toArray];rw [za r (l.set (off+j) v) off (j+1) (by simp;omega)];congr 1;unfold aV;have:off+j+(v::r).length=off+(j+1)+r.length:=by simp;omega
   rw [this,List.drop_set_of_lt (om)];have h2:(l.set (off+j) v).take (off+(j+1))=l.take (off+j)++[v]:=by
     rw [←Nat.add_assoc,List.take_add_one,List.take_set_of_le (om)];simp [bB]
   rw [h2];simp
theorem fill_eq (place:Nat→Option (Nat×Nat)):∀ (parts:List (Nat×Value)) (cells out:List Value),tu place cells parts=some out→Instr.fill place cells.toArray parts=some out.toArray
  | [],cells,out,h=>by simp [tu] at h;simp [Instr.fill,h]
  |(i,v)::rest,cells,out,h=>by
   simp only [tu] at h
   cases hp:place i with
   |none=>rw [hp] at h;simp at h
   |some p=>
    obtain ⟨off,size⟩:=p
    rw [hp] at h;simp only at h;split at h
    ·rename_i h1 h2;have e1:(cellsOf v).length=size:=by simpa using h1
     have e2:off+(cellsOf v).length≤cells.length:=by simpa using h2
     have ih:=fill_eq place rest _ _ h;simp only [Instr.fill,hp];have c1:v.cells.size=size:=by rw [dT];simpa using e1
     have c2:¬(off+v.cells.size>cells.toArray.size):=by rw [dT];simpa using e2
     simp only [c1,ne_eq,not_true_eq_false,decide_false,Bool.false_or];rw [←c1];simp only [decide_eq_true_eq,c2,if_false];rw [←ih];congr 1;rw [dT];have:=za (cellsOf v) cells off 0 (om);simpa [←Array.foldl_toList] using this
    ·simp at h
def q9 (ch:List (List Value)) (i:Nat):Nat:=((ch.take i).map List.length).sum
theorem xq:∀ (ch:List (List Value)) (i:Nat) (c v:List Value),ch[i]? =some c→v.length=c.length→aV ch.flatten (q9 ch i) v=(ch.set i v).flatten
  | [],_,_,_,h,_=>by simp at h
  |a::r,0,c,v,h,e=>by
   simp at h;subst h
   simp [aV,q9,e]
  |a::r,i+1,c,v,h,e=>by
   have ih:=xq r i c v (by simpa using h) e
   have h1:q9 (a::r) (i+1)=a.length+q9 r i:=by simp [q9]
   unfold aV at ih ⊢;rw [h1,List.flatten_cons,List.set_cons_succ,List.flatten_cons,←ih];rw [List.take_append,List.take_of_length_le (om),List.drop_append,List.drop_eq_nil_of_le (om)];have h2:a.length+q9 r i-a.length=q9 r i:=by omega
   have h3:a.length+q9 r i+v.length-a.length=q9 r i+v.length:=by omega
   rw [h2,h3];simp
def ye (ch:List (List Value)):List (Nat×Value)→Option (List (List Value))
  | []=>some ch
  |(i,v)::rest=>match ch[i]? with
   |none=>none
   |some c=>match Nat.beq (cellsOf v).length c.length with
    |true=>ye (ch.set i (cellsOf v)) rest
    |false=>none
theorem Nn (ch:List (List Value)) (i j:Nat) (c v:List Value) (h:ch[i]? =some c) (e:v.length=c.length):q9 (ch.set i v) j=q9 ch j:=by
  unfold q9;rw [List.map_take,List.map_take,List.map_set];congr 2;apply List.ext_getElem?;intro k;by_cases hk:i=k
  ·subst hk;have hi:i<ch.length:=(List.getElem?_eq_some_iff.1 h).1;rw [List.getElem?_set_self (by simpa using hi)];simp [h,e]
  ·rw [List.getElem?_set_ne hk]
theorem AK (place:Nat→Option (Nat×Nat)):∀ (parts:List (Nat×Value)) (ch out:List (List Value)),(∀ i c,ch[i]? =some c→place i=some (q9 ch i,c.length))→ye ch parts=some out→
    tu place ch.flatten parts=some out.flatten
  | [],ch,out,_,h=>by simp [ye] at h;simp [tu,h]
  |(i,v)::rest,ch,out,hp,h=>by
   simp only [ye] at h
   cases hc:ch[i]? with
   |none=>simp [hc] at h
   |some c=>
    simp only [hc] at h
    split at h
    ·rename_i hb
     have e:(cellsOf v).length=c.length:=by simpa using hb
     have hle:q9 ch i+(cellsOf v).length≤ch.flatten.length:=by
       have hi:i<ch.length:=(List.getElem?_eq_some_iff.1 hc).1;have hg:ch[i]=c:=(List.getElem?_eq_some_iff.1 hc).2;have:ch.flatten.length=(ch.map List.length).sum:=List.length_flatten;rw [this,e];have h2:ch.map List.length=(ch.take i).map List.length++(c.length::(ch.drop (i+1)).map List.length):=by
         rw [←hg,←List.map_cons,←List.map_append,List.getElem_cons_drop,List.take_append_drop]
       rw [h2];simp [q9]
     simp only [tu,hp i c hc];have b1:Nat.beq (cellsOf v).length c.length=true:=hb;have b2:Nat.ble (q9 ch i+(cellsOf v).length) ch.flatten.length=true:=by simpa using hle
     rw [b1,b2];simp only;rw [xq ch i c _ hc e];refine AK place rest _ out (fun j d hd=>?_) h;rw [Nn ch i j c _ hc e];by_cases hj:i=j
     ·subst hj;have hi:i<ch.length:=(List.getElem?_eq_some_iff.1 hc).1;rw [List.getElem?_set_self hi] at hd;simp at hd;subst hd;rw [hp i c hc,e]
     ·rw [List.getElem?_set_ne hj] at hd;exact hp j d hd
    ·simp at h
def ub (l:List Value):List (Nat×Nat)→List (List Value)
  | []=>[]
  |(_,n)::r=>l.take n::ub (l.drop n) r
def pr:Nat→List (Nat×Nat)→Nat→Bool
  |k,[],n=>Nat.beq k n
  |k,(o,s)::r,n=>match Nat.beq o k with
   |true=>pr (k+s) r n
   |false=>false
theorem tc:∀ (ps:List (Nat×Nat)) (l:List Value) (k n:Nat),pr k ps n=true→l.length+k=n→(ub l ps).flatten=l∧(∀ i c,(ub l ps)[i]? =some c→ps[i]? =some (k+q9 (ub l ps) i,c.length))
  | [],l,k,n,h,e=>by
    simp [pr] at h
    have:l=[]:=List.eq_nil_of_length_eq_zero (om)
    subst this;exact ⟨rfl,fun i c hc=>by simp [ub] at hc⟩
  |(o,s)::r,l,k,n,h,e=>by
   simp only [pr] at h;split at h
   ·rename_i ho;have R4:o=k:=by simpa using ho
    subst R4;have hs:o+s≤n:=by
      clear e;have:∀ (r:List (Nat×Nat)) (k n:Nat),pr k r n=true→k≤n:=by
        intro r;induction r with
        |nil=>intro k n h;simp [pr] at h;omega
        |cons p r ih=>
         intro k n h;obtain ⟨o,s⟩:=p;simp only [pr] at h;split at h
         ·have:=ih _ _ h;omega
         ·simp at h
      exact this r _ _ h
    have hl:(l.take s).length=s:=by simp;omega
    obtain ⟨h1,h2⟩:=tc r (l.drop s) (o+s) n h (by simp;omega);refine ⟨by simp [ub,h1],fun i c hc=>?_⟩;cases i with
    |zero=>simp [ub] at hc;subst hc;simp [q9];omega
    |succ i=>
     have:=h2 i c (by simpa [ub] using hc);simp only [List.getElem?_cons_succ,this,Option.some.injEq,Prod.mk.injEq,and_true];simp [q9,ub];omega
   ·simp at h
def ir (sz:Nat):Nat→Nat→List (Nat×Nat)
  |_,0=>[]
  |k,n+1=>(k*sz,sz)::ir sz (k+1) n
theorem Ba (sz:Nat):∀ (n k:Nat),pr (k*sz) (ir sz k n) ((k+n)*sz)=true
  |0,k=>by simp [ir,pr]
  |n+1,k=>by
   have:=Ba sz n (k+1)
   simp only [ir,pr];rw [show Nat.beq (k*sz) (k*sz)=true by simp];simp only;rw [show k*sz+sz=(k+1)*sz by rw [Nat.succ_mul],show k+(n+1)=k+1+n by omega];exact this
theorem vW (sz:Nat):∀ (n k i:Nat) (p:Nat×Nat),(ir sz k n)[i]? =some p→p=((k+i)*sz,sz)
  |0,_,_,_,h=>by simp [ir] at h
  |n+1,k,0,p,h=>by simp [ir] at h;simp [←h]
  |n+1,k,i+1,p,h=>by
   have:=vW sz n (k+1) i p (by simpa [ir] using h)
   rw [this];congr 2;omega
theorem Jk {zs out:List Value} {len sz:Nat} {vs:List (Nat×Value)} {ch:List (List Value)} (hc:zs.length=len*sz) (ho:ye (ub zs (ir sz 0 len)) vs=some ch) (B2:ch.flatten=out) :
    tu (fun i=>some (i*sz,sz)) zs vs=some out:=by
  have h0:=Ba sz len 0;simp only [Nat.zero_mul,Nat.zero_add] at h0;obtain ⟨c1,c2⟩:=tc (ir sz 0 len) zs 0 (len*sz) h0 (om);have:=AK (fun i=>some (i*sz,sz)) vs (ub zs (ir sz 0 len)) ch (fun i c h=>by
    have k:=c2 i c h;have k2:=vW sz len 0 i _ k;simp only [Nat.zero_add] at k2;rw [←k2]) ho
  rw [c1,B2] at this;exact this
section
variable {P:Program} {N:Nat}
variable {t ty:TypeId} {x y:Operand} {env:Env} {L:List HP}
theorem run_places {s:TypeId}:∀ (fs:List Field) (kP:List (Nat×Nat)) (w:World),fs.map (fun f=>(f.offset,(P.info? f.type).map (·.size)))=kP.map (fun p=>(p.1,some p.2))→
    (fs.mapM (m:=Sem) fun f=>do pure (f.offset,←sizeOf f.type)).run P w= .ok kP w
  | [],[],w,_=>rfl
  | [],_::_,_,h=>by simp at h
  |_::_,[],_,h=>by simp at h
  |f::fs,p::ps,w,h=>by
   simp only [List.map_cons,List.cons.injEq] at h
   obtain ⟨h1,h2⟩:=h
   have e:(sizeOf f.type).run P w= .ok p.2 w:=by
     cases hi:P.info? f.type with
     |none=>simp [hi] at h1
     |some i=>simp [hi] at h1;simp [sizeOf,typeInfo,hi,h1.2]
   have e1:f.offset=p.1:=by simpa using congrArg Prod.fst h1
   rw [List.mapM_cons];simp only [Sem.run_bind,e,Result.andThen_ok,Sem.run_pure,run_places (s:=s) fs ps w h2,e1]
theorem BY {parts:List (Nat×Operand)} {vs:List (Nat×Value)} {kP:List (Nat×Nat)} {n bs:Nat} {z:Value} {zs out:List Value} [hS:TS P t kP] [hZ:TZ P t n z bs] [yG:CO z zs] (hp:G6 env parts=some vs)
    {OX ch:List (List Value)} (hc:pr 0 kP zs.length=true) (_:Cj zs kP OX) (_:Ck OX vs ch) (_:vY ch out) (ho:ye (ub zs kP) vs=some ch) (B2:ch.flatten=out):V P N (.build t parts.toArray) ty env L (.agg out.toArray):=by
  intro a w ha _;have hz:=yG.pf;obtain ⟨c1,c2⟩:=tc kP zs 0 zs.length hc rfl;have ho:tu (fun i=>(kP:List (Nat×Nat))[i]?) zs vs=some out:=by
    have:=AK (fun i=>kP[i]?) vs (ub zs kP) ch (fun i c h=>by simpa using c2 i c h) ho;rw [c1,B2] at this;exact this
  obtain ⟨fs,h1,h2⟩:=hS.pf;have e:z.cells=zs.toArray:=by rw [dT,hz]
  have hm:(fs.mapM (m:=Sem) fun f=>do pure (f.offset,←sizeOf f.type)).run P w= .ok kP.toArray w:=by
    rw [Array.mapM_eq_mapM_toList];simp only [Sem.run_map,run_places (s:=t) fs.toList kP w h2,Result.andThen_ok]
  have hf:=fill_eq _ _ _ _ ho;have Pw:(fun x:Nat=>kP.toArray[x]?)=(fun i:Nat=>kP[i]?):=by funext i;simp
  have Px:=ha.G6 hp;simp only [execOp,Instr.build,Sem.run_bind,jI hZ,run_underlying h1,Result.andThen_ok,hm,e,Pw];have:(Array.map (fun x=>(x.1,a.eval x.2)) parts.toArray).toList=vs:=by simp [Px]
  rw [this,hf];simp
theorem CF {parts:List (Nat×Operand)} {vs:List (Nat×Value)} {len:Nat} {e:TypeId} {n bs sz Zx:Nat} {z z':Value} {zs out:List Value} [hT:TU P t (.array len e)] [hE:TZ P e sz z' Zx] [hZ:TZ P t n z bs] [yG:CO z zs] (hp:G6 env parts=some vs)
    {ps:List (Nat×Nat)} {OX ch:List (List Value)} (hc:Nat.beq zs.length (len*sz)=true) (_:Uq sz 0 len ps) (_:Cj zs ps OX) (_:Ck OX vs ch) (_:vY ch out) (ho:ye (ub zs (ir sz 0 len)) vs=some ch) (B2:ch.flatten=out):V P N (.build t parts.toArray) ty env L (.agg out.toArray):=by
  intro a w ha _;have hz:=yG.pf;have I3:zs.length=len*sz:=by simpa using hc
  have ho:tu (fun i=>some (i*sz,sz)) zs vs=some out:=Jk I3 ho B2;have e:z.cells=zs.toArray:=by rw [dT,hz]
  have hf:=fill_eq _ _ _ _ ho;have Px:=ha.G6 hp;simp only [execOp,Instr.build,Sem.run_bind,jI hZ,run_underlying hT.pf,Result.andThen_ok,run_sizeOf hE,e];have:(Array.map (fun x=>(x.1,a.eval x.2)) parts.toArray).toList=vs:=by simp [Px]
  rw [this,hf];simp
def oM (z:List Value):Nat→List Value
  |0=>[]
  |n+1=>z++oM z n
theorem qe (z:List Value):∀ n,(oM z n).length=n*z.length
  |0=>by simp [oM]
  |n+1=>by simp [oM,qe z n,Nat.succ_mul,Nat.add_comm]
theorem Bb (z:List Value) (hz:0<z.length):∀ (n i:Nat),i<n*z.length→(oM z n)[i]? =z[i % z.length]?
  |0,i,h=>by simp at h
  |n+1,i,h=>by
   simp only [oM]
   by_cases hi:i<z.length
   ·rw [List.getElem?_append_left hi,Nat.mod_eq_of_lt hi]
   ·rw [List.getElem?_append_right (om),Bb z hz n (i-z.length) (by rw [Nat.succ_mul] at h;omega)]
    congr 1
    rw [←Nat.mod_eq_sub_mod (om)]
theorem No (z:List Value) (n sz:Nat) (h:z.length=sz):(Array.range (n*sz)).map (fun i=>z.toArray[i % z.toArray.size]!)=(oM z n).toArray:=by
  subst h;by_cases hz:0<z.length
  ·apply Array.ext';simp;apply List.ext_getElem?;intro i;by_cases hi:i<n*z.length
   ·rw [Bb z hz n i hi];have:i % z.length<z.length:=Nat.mod_lt _ hz;simp [hi,this]
   ·rw [List.getElem?_eq_none (by simp;omega),List.getElem?_eq_none (by rw [qe];omega)]
  ·have h0:z=[]:=by cases z with|nil=>rfl|cons a b=>simp at hz
   subst h0;have:oM [] n=[]:=by
     have:=qe [] n;simpa using this
   simp [this]
theorem Ew {parts:List (Nat×Operand)} {vs:List (Nat×Value)} {len:Nat} {e:TypeId} {sz bs:Nat} {z:Value} {zs out:List Value} {pos:String} {c9:Array Edge} {d:Nat}
    [hT:TU P t (.slice e)] [hE:TZ P e sz z bs] [yG:CO z zs] (hp:G6 env parts=some vs) (LX:zs.length=sz) (hlen:Nat.ble (len*sz) (2^24)=true)
    {l0:List Value} {ps:List (Nat×Nat)} {OX ch:List (List Value)} (_:Ph zs len l0) (_:Uq sz 0 len ps) (_:Cj l0 ps OX) (_:Ck OX vs ch) (_:vY ch out)
    (ho:ye (ub (oM zs len) (ir sz 0 len)) vs=some ch) (B2:ch.flatten=out) (hd:Nat.blt d N=true) :
    KO P N ⟨some d,.buildSlice t len parts.toArray,ty,pos,c9,none⟩ env L (uX env d (fun b=> .slice (some ⟨b,0,none⟩) len len) (fun b=>ao b e out::L)):=by
  have hz:=yG.pf;have ho:tu (fun i=>some (i*sz,sz)) (oM zs len) vs=some out:=Jk (by rw [qe,LX]) ho B2;refine zN (o:= .cells out.toArray e (0,0)) (q:=fun b=>ao b e out) (v:=fun b=> .slice (some ⟨b,0,none⟩) len len) (fun b h e=>⟨e⟩) ?_ hd;intro a w ha _;have e:z.cells=zs.toArray:=by rw [dT,hz]
  have hf:=fill_eq _ _ _ _ ho;have Px:=ha.G6 hp;have zF:len*sz≤2^24:=by simpa using hlen
  have hl:¬(len*sz>2^24):=by omega
  have LY:(Array.map (fun x=>(x.1,a.eval x.2)) parts.toArray).toList=vs:=by simp [Px]
  have key:∀ zz:Array Value,(zz=if len*sz=0 then #[] else zs.toArray)→(Array.range (len*sz)).map (fun i=>zz[i % zz.size]!)=(oM zs len).toArray:=by
    intro zz Zy;by_cases h0:len*sz=0
    ·have:(oM zs len)=[]:=by
       apply List.eq_nil_of_length_eq_zero;rw [qe,LX];exact h0
     rw [this,h0];simp
    ·rw [Zy,if_neg h0];exact No zs len sz LX
  by_cases h0:len*sz=0
  ·have yH:¬((0:Nat)>2^24):=by omega
   simp only [execOp,Instr.buildSlice,Sem.run_bind,run_underlying hT.pf,Result.andThen_ok,run_sizeOf hE,yH,if_false,h0,if_true,Sem.run_pure];have k:=key #[] (by simp [h0]);rw [h0] at k;simp only [k,LY,hf,newRow,Sem.run_bind,run_newObj,Result.andThen_ok,Sem.run_pure]
  ·simp only [execOp,Instr.buildSlice,Sem.run_bind,run_underlying hT.pf,Result.andThen_ok,run_sizeOf hE,hl,if_false,h0,jI hE,e,Sem.run_pure];have k:=key zs.toArray (by simp [h0]);simp only [k,LY,hf,newRow,Sem.run_bind,run_newObj,Result.andThen_ok,Sem.run_pure]
theorem HY {fn:Fn} {f c:List Operand} {vf vc:List Value} (hf:Cq env f=some vf) (hc:Cq env c=some vc):V P N (.makeFunc fn f.toArray c.toArray) ty env L (.func fn vf.toArray vc.toArray):=by
  intro a w ha _;simp [execOp,Instr.makeFunc,ha.Cq hf,ha.Cq hc]
theorem ji {ρ:Operand→Value} {b:Builtin} {args:List Operand} {ats:Array TypeId} {ty:TypeId} {vs:List Value} (ha:args.map ρ=vs) {w:World} {r:Result Next}
    (h:∀ cs,(builtin b ats ty cs vs.toArray).run P w=r):(execOp ρ ⟨none,.call ⟨.builtin b,args.toArray,ats⟩,ty, "", #[],none⟩).run P w=r:=by
  simp only [execOp,resolve,Sem.run_bind,Sem.run_pure,Result.andThen_ok,invoke];have:args.toArray.map ρ=vs.toArray:=by simp [ha]
  rw [this];exact h _
theorem Gj {e:TypeId} {ats:List TypeId} {p:Option Addr} {n c:Nat} [hT:TU P t (.slice e)] (hx:ev env x=some (.slice p n c)):V P N (.call ⟨.builtin .len,[x].toArray,(t::ats).toArray⟩) ty env L (.int .i64 (n:Int)):=by
  intro a w ha _;refine ji (vs:=[.slice p n c]) (by simp [ha.ev hx]) fun cs=>?_;simp [builtin,Builtin.len_,run_underlying hT.pf,goInt]
theorem E3 {ρ:Operand→Value} {f:Operand} {args:List Operand} {ats:Array TypeId} {ty:TypeId} {k:FuncId} {first cap:Array Value} {vs:List Value} (hf:ρ f= .func (.func k) first cap) (ha:first.toList++args.map ρ++cap.toList=vs)
    (he:sk P k) (w:World):(execOp ρ ⟨none,.call ⟨.value f,args.toArray,ats⟩,ty, "", #[],none⟩).run P w= .ok (.enter k vs.toArray) w:=by
  simp only [execOp,resolve,Sem.run_bind,Deferred.ofValue,hf,Sem.run_pure,Result.andThen_ok,invoke];rw [he];congr 2;apply Array.ext';simp [←ha]
abbrev Hh (env:Env) (d:Option Nat) (F:List HP) (post:Value→List HP→Prop):Env→List HP→Prop:=fun e' M=>∃ v L',post v L'∧e'=pj env d v∧M=eX L' F
theorem ru {env:Env} {d:Nat} {F:List HP} {post:Value→List HP→Prop} {R:Env→List HP→Prop} (h:∀ v L',post v L'→R ((d,v)::env) (eX L' F)):∀ e' M,Hh env (some d) F post e' M→R e' M:=by
  rintro _ _ ⟨v,L',hp,rfl,rfl⟩;exact h v L' hp
theorem dQ {env:Env} {d:Nat} {v:Nat→Value} {L':Nat→List HP} {R:Env→List HP→Prop} (h:∀ b,R ((d,v b)::env) (L' b)):∀ e' M,uX env d v L' e' M→R e' M:=by
  rintro _ _ ⟨b,rfl,rfl⟩;exact h b
theorem aU {env:Env} {L':List HP} {R:Env→List HP→Prop} (h:R env L'):∀ e' M,tq env L' e' M→R e' M:=by
  rintro _ _ ⟨rfl,rfl⟩;exact h
end
section
variable {P:Program} {N:Nat}
theorem xM {c:Operand} {x y:Code} {env:Env} {L:List HP} {Q:Exit→Act→World→Prop} {p:Prop} {inst:Decidable p} (hc:ev env c=some (.bool (@decide p inst)))
    (hp:p) (h:WC P N x env L Q):WC P N (.cond c x y) env L Q:=uJ hc (fun _=>h) (fun k=>absurd hp k)
theorem Cc {c:Operand} {x y:Code} {env:Env} {L:List HP} {Q:Exit→Act→World→Prop} {p:Prop} {inst:Decidable p} (hc:ev env c=some (.bool (@decide p inst)))
    (hp:¬p) (h:WC P N y env L Q):WC P N (.cond c x y) env L Q:=uJ hc (fun k=>absurd k hp) (fun _=>h)
theorem Cd {c:Operand} {x y:Code} {env:Env} {L:List HP} {Q:Exit→Act→World→Prop} {t:Bool} (hc:ev env c=some (.bool t))
    (hp:t=true) (h:WC P N x env L Q):WC P N (.cond c x y) env L Q:=by subst hp;exact sC hc (fun _=>h) (fun k=>nomatch k)
theorem Ce {c:Operand} {x y:Code} {env:Env} {L:List HP} {Q:Exit→Act→World→Prop} {t:Bool} (hc:ev env c=some (.bool t))
    (hp:t=false) (h:WC P N y env L Q):WC P N (.cond c x y) env L Q:=by subst hp;exact sC hc (fun k=>nomatch k) (fun _=>h)
theorem yb {p G:Prop} {inst:Decidable p} (k:p→G):@decide p inst=true→G:=fun h=>k (of_decide_eq_true h)
theorem yc {p G:Prop} {inst:Decidable p} (k:¬p→G):@decide p inst=false→G:=fun h=>k (of_decide_eq_false h)
variable {op:Op} {ty:TypeId} {pos:String} {c9:Array Edge} {d:Option Tmp} {all:Array Oper} {rest:List Oper} {env:Env} {L:List HP} {Q:Exit→Act→World→Prop} {j s:Nat} {want b:Bool}
end
section
variable {P:Program} {N:Nat} {op:Op} {ty:TypeId} {pos:String} {c9:Array Edge} {d:Option Tmp} {all:Array Oper} {rest:List Oper} {env:Env} {L:List HP} {Q:Exit→Act→World→Prop} {j s:Nat} {want b:Bool}
theorem rP {v:Value} (hj:c6 all j=some s) (hb:env.get? s=some v) (hv:v= .bool want) (hs:Nat.blt s N=true) (hd:sh N d=true)
    (h1:WO P N all (⟨d,op,ty,pos,c9,none⟩::rest) env L Q):WO P N all (⟨d,op,ty,pos,c9,some (j,want)⟩::rest) env L Q:=by
  subst hv;refine oz hj hb hs hd (fun _=>?_) (fun h=>by cases want<;>simp at h);intro a w ha hw;refine h1 a w ⟨ha.size,ha.defers,fun t v e=>?_⟩ hw;refine ha.get t v ?_;rw [Env.k5];split
  ·rename_i k;subst k;rw [hb] at e;exact e
  ·exact e
theorem pL {v:Value} {d:Nat} {nw:Bool} (hj:c6 all j=some s) (hb:env.get? s=some v) (hv:v= .bool nw) (hn:nw= !want) (hs:Nat.blt s N=true) (hd:Nat.blt d N=true)
    (h1:WO P N all rest ((d,undef)::env) L Q):WO P N all (⟨some d,op,ty,pos,c9,some (j,want)⟩::rest) env L Q:=by
  subst hv hn;refine oz hj hb hs (by exact hd) (fun h=>by cases want<;>simp at h) (fun _=>?_);intro a w ha hw;refine h1 a w ⟨ha.size,ha.defers,fun t v e=>?_⟩ hw;refine ha.get t v ?_;simp only [pj];rw [Env.k5] at e ⊢;split
  ·rename_i k;subst k;simpa using e
  ·rename_i k;rw [if_neg k] at e;rw [Env.k5];split
   ·rename_i k';subst k';rw [hb] at e;exact e
   ·exact e
theorem Je {d:Nat} (hj:c6 all j=some s) (hb:env.get? s=some (.bool b)) (hs:Nat.blt s N=true) (hd:Nat.blt d N=true)
    (h1:b=true→WO P N all (⟨some d,op,ty,pos,c9,none⟩::rest) ((s,.bool true)::env) L Q)
    (h2:b=false→WO P N all rest ((d,undef)::(s,.bool false)::env) L Q):WO P N all (⟨some d,op,ty,pos,c9,some (j,true)⟩::rest) env L Q:=
  oz hj hb hs hd h1 h2
theorem uk {d:Nat} (hj:c6 all j=some s) (hb:env.get? s=some (.bool b)) (hs:Nat.blt s N=true) (hd:Nat.blt d N=true) (hk:b=true)
    (h1:WO P N all (⟨some d,op,ty,pos,c9,none⟩::rest) ((s,.bool true)::env) L Q):WO P N all (⟨some d,op,ty,pos,c9,some (j,true)⟩::rest) env L Q:=
  oz hj hb hs hd (fun _=>h1) (fun h=>by subst hk;cases h)
theorem um {d:Nat} (hj:c6 all j=some s) (hb:env.get? s=some (.bool b)) (hs:Nat.blt s N=true) (hd:Nat.blt d N=true) (hk:b=false)
    (h1:WO P N all rest ((d,undef)::(s,.bool false)::env) L Q):WO P N all (⟨some d,op,ty,pos,c9,some (j,true)⟩::rest) env L Q:=
  oz hj hb hs hd (fun h=>by subst hk;cases h) (fun _=>h1)
theorem Jf {d:Nat} (hj:c6 all j=some s) (hb:env.get? s=some (.bool b)) (hs:Nat.blt s N=true) (hd:Nat.blt d N=true)
    (h1:b=false→WO P N all (⟨some d,op,ty,pos,c9,none⟩::rest) ((s,.bool false)::env) L Q)
    (h2:b=true→WO P N all rest ((d,undef)::(s,.bool true)::env) L Q):WO P N all (⟨some d,op,ty,pos,c9,some (j,false)⟩::rest) env L Q:=
  oz hj hb hs hd h1 h2
theorem ul {d:Nat} (hj:c6 all j=some s) (hb:env.get? s=some (.bool b)) (hs:Nat.blt s N=true) (hd:Nat.blt d N=true) (hk:b=false)
    (h1:WO P N all (⟨some d,op,ty,pos,c9,none⟩::rest) ((s,.bool false)::env) L Q):WO P N all (⟨some d,op,ty,pos,c9,some (j,false)⟩::rest) env L Q:=
  oz hj hb hs hd (fun _=>h1) (fun h=>by subst hk;cases h)
theorem uo {d:Nat} (hj:c6 all j=some s) (hb:env.get? s=some (.bool b)) (hs:Nat.blt s N=true) (hd:Nat.blt d N=true) (hk:b=true)
    (h1:WO P N all rest ((d,undef)::(s,.bool true)::env) L Q):WO P N all (⟨some d,op,ty,pos,c9,some (j,false)⟩::rest) env L Q:=
  oz hj hb hs hd (fun h=>by subst hk;cases h) (fun _=>h1)
theorem rR {v:Value} (hj:c6 all j=some s) (hb:env.get? s=some v) (hv:v= .bool want) (hs:Nat.blt s N=true) (hd:sh N d=true)
    (h1:WQ P N all (⟨d,op,ty,pos,c9,none⟩::rest) env L Q):WQ P N all (⟨d,op,ty,pos,c9,some (j,want)⟩::rest) env L Q:=by
  subst hv;refine pV hj hb hs hd (fun _=>?_) (fun h=>by cases want<;>simp at h);intro a ha;refine h1 a ⟨ha.size,ha.defers,fun t v e=>?_⟩;refine ha.get t v ?_;rw [Env.k5];split
  ·rename_i k;subst k;rw [hb] at e;exact e
  ·exact e
theorem pN {v:Value} {d:Nat} {nw:Bool} (hj:c6 all j=some s) (hb:env.get? s=some v) (hv:v= .bool nw) (hn:nw= !want) (hs:Nat.blt s N=true) (hd:Nat.blt d N=true)
    (h1:WQ P N all rest ((d,undef)::env) L Q):WQ P N all (⟨some d,op,ty,pos,c9,some (j,want)⟩::rest) env L Q:=by
  subst hv hn;refine pV hj hb hs (by exact hd) (fun h=>by cases want<;>simp at h) (fun _=>?_);intro a ha;refine h1 a ⟨ha.size,ha.defers,fun t v e=>?_⟩;refine ha.get t v ?_;simp only [pj];rw [Env.k5] at e ⊢;split
  ·rename_i k;subst k;simpa using e
  ·rename_i k;rw [if_neg k] at e;rw [Env.k5];split
   ·rename_i k';subst k';rw [hb] at e;exact e
   ·exact e
theorem Jg {d:Nat} (hj:c6 all j=some s) (hb:env.get? s=some (.bool b)) (hs:Nat.blt s N=true) (hd:Nat.blt d N=true)
    (h1:b=true→WQ P N all (⟨some d,op,ty,pos,c9,none⟩::rest) ((s,.bool true)::env) L Q)
    (h2:b=false→WQ P N all rest ((d,undef)::(s,.bool false)::env) L Q):WQ P N all (⟨some d,op,ty,pos,c9,some (j,true)⟩::rest) env L Q:=
  pV hj hb hs hd h1 h2
theorem uq {d:Nat} (hj:c6 all j=some s) (hb:env.get? s=some (.bool b)) (hs:Nat.blt s N=true) (hd:Nat.blt d N=true) (hk:b=true)
    (h1:WQ P N all (⟨some d,op,ty,pos,c9,none⟩::rest) ((s,.bool true)::env) L Q):WQ P N all (⟨some d,op,ty,pos,c9,some (j,true)⟩::rest) env L Q:=
  pV hj hb hs hd (fun _=>h1) (fun h=>by subst hk;cases h)
theorem us {d:Nat} (hj:c6 all j=some s) (hb:env.get? s=some (.bool b)) (hs:Nat.blt s N=true) (hd:Nat.blt d N=true) (hk:b=false)
    (h1:WQ P N all rest ((d,undef)::(s,.bool false)::env) L Q):WQ P N all (⟨some d,op,ty,pos,c9,some (j,true)⟩::rest) env L Q:=
  pV hj hb hs hd (fun h=>by subst hk;cases h) (fun _=>h1)
theorem ur {d:Nat} (hj:c6 all j=some s) (hb:env.get? s=some (.bool b)) (hs:Nat.blt s N=true) (hd:Nat.blt d N=true) (hk:b=false)
    (h1:WQ P N all (⟨some d,op,ty,pos,c9,none⟩::rest) ((s,.bool false)::env) L Q):WQ P N all (⟨some d,op,ty,pos,c9,some (j,false)⟩::rest) env L Q:=
  pV hj hb hs hd (fun _=>h1) (fun h=>by subst hk;cases h)
theorem uu {d:Nat} (hj:c6 all j=some s) (hb:env.get? s=some (.bool b)) (hs:Nat.blt s N=true) (hd:Nat.blt d N=true) (hk:b=true)
    (h1:WQ P N all rest ((d,undef)::(s,.bool true)::env) L Q):WQ P N all (⟨some d,op,ty,pos,c9,some (j,false)⟩::rest) env L Q:=
  pV hj hb hs hd (fun h=>by subst hk;cases h) (fun _=>h1)
end
end Go.Sx
namespace Go.Sx
open Go
section
variable {P:Program} {N:Nat} {ty:TypeId} {env:Env} {L:List HP} {v:Value}
variable {all:Array Oper} {rest:List Oper} {Q:Exit→Act→World→Prop} {pos:String} {c9:Array Edge}
theorem an {id:Nat} {ops:Array Oper} (h:WC P N (.region id ops true) env L Q):WC P N (.region id ops true) env L Q:=h
end
end Go.Sx
namespace Go.Sx
open Go
section
variable {P:Program} {N:Nat}
def WR (P:Program) (N n:Nat) (c:Code) (env:Env) (L:List HP) (Q:Exit→Act→World→Prop):Prop:=
  ∀ a w,du N env a→Sat L w→Code.rounds P c Q n a w
theorem vn (n:Nat) {c:Code} {env:Env} {L:List HP} {Q:Exit→Act→World→Prop} (h:WR P N n c env L Q):WC P N (.loop c) env L Q:=
  fun a w ha hw=>wp_loop_rounds n (h a w ha hw)
theorem uh {n:Nat} {c:Code} {env:Env} {L:List HP} {Q:Exit→Act→World→Prop} (h:WC P N c env L (Exit.then (Code.rounds P c Q n) Q)):WR P N (n+1) c env L Q:=
  fun a w ha hw=>h a w ha hw
theorem pI {n:Nat} {c:Code} {env:Env} {L:List HP} {Q Q':Exit→Act→World→Prop} (h:WR P N n c env L Q):WE N .normal env L (Exit.then (Code.rounds P c Q n) Q'):=h
end
end Go.Sx
namespace Go.Sx
open Go
abbrev aj {α:Type} (enc:α→List Value) (xs:List α):List Value:=xs.flatMap enc
section
variable {α:Type} {enc:α→List Value} {n:Nat}
theorem jj (h:∀ x,(enc x).length=n):∀ xs:List α,(aj enc xs).length=xs.length*n
  | []=>by simp
  |x::r=>by
   have:=jj h r
   simp [h x,Nat.succ_mul,Nat.add_comm] at this ⊢;omega
theorem gn (h:∀ x,(enc x).length=n):∀ (xs:List α) (i:Nat),(aj enc xs).drop (i*n)=aj enc (xs.drop i)
  |xs,0=>by simp
  | [],i+1=>by simp
  |x::r,i+1=>by
   have:=gn h r i
   rw [List.drop_succ_cons,←this]
   show (enc x++aj enc r).drop _=_;rw [List.drop_append,List.drop_eq_nil_of_le (by rw [h x,Nat.succ_mul];omega),List.nil_append,h x];congr 1;rw [Nat.succ_mul];omega
theorem iY (h:∀ x,(enc x).length=n):∀ (xs:List α) (i:Nat),(aj enc xs).take (i*n)=aj enc (xs.take i)
  |xs,0=>by simp
  | [],i+1=>by simp
  |x::r,i+1=>by
   have:=iY h r i
   rw [List.take_succ_cons]
   show (enc x++aj enc r).take _=enc x++aj enc (r.take i);rw [←this,List.take_append,List.take_of_length_le (by rw [h x,Nat.succ_mul];omega),h x];congr 2;rw [Nat.succ_mul];omega
theorem E8 (h:∀ x,(enc x).length=n) (xs:List α) (i:Nat) (hi:i<xs.length):sub (aj enc xs) (i*n) n=some (enc xs[i]):=by
  unfold sub;have hb:Nat.ble (i*n+n) (aj enc xs).length=true:=by
    rw [jj h];have:(i+1)*n≤xs.length*n:=Nat.mul_le_mul_right _ (om);rw [Nat.succ_mul] at this;simpa using this
  rw [hb];simp only [Option.some.injEq];rw [gn h,List.drop_eq_getElem_cons hi]
  show (enc xs[i]++aj enc _).take n=_;rw [List.take_append,List.take_of_length_le (by rw [h];exact Nat.le_refl _),h];simp
end
end Go.Sx
namespace Go.Sx
open Go Go.RowKit
theorem Ey (W:World):Sat [Cs W] W:=by
  refine ⟨fun _=>True,fun _=>False,fun _ _ h=>h,⟨fun b _=>?_,rfl,rfl,rfl⟩,trivial⟩;simp [pR,ph]
theorem Kr {P:Program} {f:FuncId} {vs:List Value} {W:World} (C:Yf P f vs [Cs W] (fun v L'=>v= .bool true∧L'=[Cs W])) :
    Calls P f vs.toArray W (fun e W'=>e= .returned (.bool true)∧Below W.heap.size W W'):=by
  refine (C.runs [] W (Ey W)).mono ?_;rintro e W' ⟨v,L',he,⟨hv,hL⟩,hs⟩;subst hv hL;obtain ⟨h1,h2,h3,h4⟩:=Jh hs;refine ⟨he,⟨h2,h4,h3,?_,h1⟩⟩;by_cases h0:W.heap.size=0
  ·omega
  ·have:=h1 (W.heap.size-1) (om);have h5:W.heap[W.heap.size-1]? =some W.heap[W.heap.size-1]:=by simp
   rw [h5] at this;have:=(Array.getElem?_eq_some_iff.1 this).1;omega
end Go.Sx
namespace Go.Sx
open Go
section
variable {P:Program} {ops:Array Oper} {Q:Exit→Act→World→Prop} {md:Region.Mode} {S:World→Prop} {T:Nat→Bool}
def B3 (S:World→Prop) (T:Nat→Bool) (aN:Array Bool) (w:World):Prop:=S w∨∃ t,T t=true∧aN.getD t false=true
def tJ (P:Program) (md:Region.Mode) (ops:Array Oper) (Q:Exit→Act→World→Prop) (S:World→Prop) (T:Nat→Bool):Nat→Array Bool→Act→World→Prop
  |0,aN,a,w=>Region.ready md ops aN=[]∧Q .normal a w
  |cV+1,aN,a,w=>
   (Region.ready md ops aN=[]→Q .normal a w)∧
   ∀ i∈Region.ready md ops aN,wpOp P ops Q i (fun a' w'=>B3 S T (aN.setIfInBounds i true) w'∧tJ P md ops Q S T cV (aN.setIfInBounds i true) a' w') a w
theorem Bc:∀ (cV:Nat) (aN:Array Bool) (a:Act) (w:World),tJ P md ops Q S T cV aN a w→wpAny P md ops Q cV aN a w
  |0,_,_,_,h=>h
  |cV+1,_,_,_,h=>⟨h.1,fun i hi=>wpOp_mono (fun a' w' h'=>Bc cV _ a' w' h'.2) (h.2 i hi)⟩
theorem wW {aN:Array Bool} {w:World} {i:Nat} (h:B3 S T aN w):B3 S T (aN.setIfInBounds i true) w:=
  h.imp id fun ⟨t,ht,hl⟩=>⟨t,ht,getD_set_true hl⟩
def Down (md:Region.Mode) (ops:Array Oper) (aN:Array Bool):Prop:=
  ∀ (j:Nat) (oj:Oper),ops[j]? =some oj→aN.getD j false=true→∀ e∈oj.after,Region.binds md e=true→aN.getD e.on false=true
theorem tU {aN:Array Bool} {i:Nat} (h:Down md ops aN) (hi:i∈Region.ready md ops aN):Down md ops (aN.setIfInBounds i true):=by
  obtain ⟨h1,oi,EZ,kQ⟩:=mem_ready.1 hi;intro j oj I4 hl e he hb;by_cases rp:i=j
  ·subst rp;rw [EZ] at I4;cases I4;exact getD_set_true (kQ e he hb)
  ·rw [getD_set_ne false rp] at hl;exact getD_set_true (h j oj I4 hl e he hb)
theorem Np {aN:Array Bool} {i:Nat} (hr:i∈Region.ready md ops aN):aN.getD i false=false:=by
  have h1:=(mem_ready.1 hr).1;rcases Nat.lt_or_ge i aN.size with h'|h'
  ·simp [h'] at h1 ⊢;exact h1
  ·simp [Array.getElem?_eq_none h'] at h1
def Mi (md:Region.Mode) (ops:Array Oper) (T:Nat→Bool) (i:Nat):Prop:=
  ∀ aN,Down md ops aN→aN.getD i false=false→(∀ t,T t=true→aN.getD t false=false)∧∀ j∈Region.ready md ops aN,T j=false
theorem xr {i:Nat} {oi:Oper} {v:Value} {Y:World→Prop} (hi:ops[i]? =some oi) (UX:∀ (j:Nat) (o:Oper) cs b,ops[j]? =some o→o.op≠ .select cs b)
    (hQ:∀ c a w,Q (.panic c) (a.put oi.dst v) w→Q (.panic c) a w) (Ur:T i=false) :
    ∀ (cV:Nat) (aN:Array Bool) (a:Act) (w:World),
      (∀ j oj,ops[j]? =some oj→j≠i→aN.getD j true=false→(∀ e∈oj.after,Region.binds md e=true→e.on≠i)→oi.apart ops oj=true)→
      Down md ops aN→i∈Region.ready md ops aN→YieldsIf P ops Y oi v a→B3 S T aN w→
      ((∀ w,Y w)∨((∀ w,S w→Y w)∧Mi md ops T i))→
      tJ P md ops Q S T cV (aN.setIfInBounds i true) (a.put oi.dst v) w→tJ P md ops Q S T (cV+1) aN a w:=by
  have Yn:∀ {aN:Array Bool} {w:World},Down md ops aN→i∈Region.ready md ops aN→B3 S T aN w→((∀ w,Y w)∨((∀ w,S w→Y w)∧Mi md ops T i))→Y w:=by
    intro aN w hd hr hG hy;rcases hy with h|⟨h,h2⟩
    ·exact h w
    ·rcases hG with hS|⟨t,ht,hl⟩
     ·exact h w hS
     ·have:=(h2 aN hd (Np hr)).1 t ht;rw [this] at hl;cases hl
  intro cV;induction cV with
  |zero=>
   intro aN a w _ hd hr hy hG hinv H;refine ⟨fun h=>(by rw [h] at hr;cases hr),fun j hj=>?_⟩;by_cases rp:j=i
   ·subst rp;exact hy.wpOp hi (Yn hd hr hG hinv) ⟨wW hG,H⟩
   ·have:=ready_mono hj rp;rw [H.1] at this;cases this
  |succ cV ih=>
   intro aN a w Cl hd hr hy hG hinv H;refine ⟨fun h=>(by rw [h] at hr;cases hr),fun j hj=>?_⟩;by_cases rp:j=i
   ·subst rp;exact hy.wpOp hi (Yn hd hr hG hinv) ⟨wW hG,H⟩
   ·have h1:=H.2 j (ready_mono hj rp);obtain ⟨UY,oj,I4,kQ⟩:=mem_ready.1 hj;have XD:∀ e∈oj.after,Region.binds md e=true→e.on≠i:=fun e he hb Zz=>by
      have h1:=kQ e he hb;have h0:=(mem_ready.1 hr).1;rw [Zz] at h1;rcases Nat.lt_or_ge i aN.size with h'|h'
      ·simp [h'] at h0 h1;rw [h0] at h1;cases h1
      ·simp [Array.getElem?_eq_none h'] at h1
    have h2:=wpOp_putIf I4 (Cl j oj I4 rp UY XD) (fun cs b=>UX i oi cs b hi) (fun cs b=>UX j oj cs b I4) hQ hy h1
    have SW:∀ k ok,ops[k]? =some ok→k≠i→(aN.setIfInBounds j true).getD k true=false→
     (∀ e∈ok.after,Region.binds md e=true→e.on≠i)→oi.apart ops ok=true:=fun k ok hk I5 Us dC=>by
      refine Cl k ok hk I5 ?_ dC;by_cases Yo:j=k
      ·subst Yo;exact UY
      ·rw [getD_set_ne true Yo] at Us;exact Us
    have Yp:∀ w',B3 S T ((aN.setIfInBounds i true).setIfInBounds j true) w'→B3 S T (aN.setIfInBounds j true) w':=by
      intro w' h;refine h.imp id fun ⟨t,ht,hl⟩=>⟨t,ht,?_⟩;have JX:i≠t:=fun h=>by subst h;rw [Ur] at ht;cases ht
      rw [Array.setIfInBounds_comm _ _ (Ne.symm rp),getD_set_ne false JX] at hl;exact hl
    refine wpOp_mono (fun a' w' h3=>⟨Yp _ h3.2.1,ih (aN.setIfInBounds j true) a' w' SW (tU hd hj) (ready_mono hr (Ne.symm rp)) h3.1 (Yp _ h3.2.1) hinv ?_⟩) h2;rw [Array.setIfInBounds_comm _ _ rp];exact h3.2.2
inductive oB where
  |done
  |bad
  |p (i:Nat) (next:oB)
  |r (i:Nat) (next:oB)
  |n (T:List Nat) (next:oB)
  |e (held:Bool) (LM:List (Nat×oB))
def ZA (o:Oper):Bool:=match o.op with
    | .move _| .assign _| .pick .. | .nilCheck _| .binOp .. | .unOp .. | .convert .. | .fieldAddr .. | .field .. | .indexAddr .. | .index .. | .extract .. | .slice .. | .build .. | .makeFunc .. | .makeInterface .. =>true
    | .call { callee:= .builtin .len,..}=>true
    |_=>false
def ZB (o:Oper):Bool:=match o.op with
    | .load .. | .lookup .. =>true
    |_=>false
inductive St where
  |true
  |false
  |only (l:List Nat)
def St.calls:St→Bool
  | .true=>Bool.true
  |_=>Bool.false
def St.Mr:St→Bool
  | .only _=>Bool.true
  |_=>Bool.false
def XE (strict:Bool) (o:Oper):Bool:=match o.op with
  | .store .. =>true
  | .mapUpdate .. =>true
  | .call { callee:= .builtin .len,..}=>false
  | .call _=>strict
  |_=>false
def Vf (st:St) (i:Nat) (o:Oper):Bool:=match st with
  | .only l=>l.contains i
  |st=>XE st.calls o
def waits (md:Region.Mode) (ops:Array Oper):Nat→Nat→Nat→Bool
  |0,_,_=>false
  |f+1,j,i=>match ops[j]? with
   |some o=>o.after.any fun e=>Region.binds md e&& (Nat.beq e.on i|| waits md ops f e.on i)
   |none=>false
theorem te {md:Region.Mode} {ops:Array Oper} {i:Nat} {aN:Array Bool} (hd:Down md ops aN):∀ (f j:Nat),waits md ops f j i=true→(∀ oj,ops[j]? =some oj→∀ e∈oj.after,Region.binds md e=true→aN.getD e.on false=true)→aN.getD i false=true
  |0,_,h,_=>by simp [waits] at h
  |f+1,j,h,hl=>by
   simp only [waits] at h
   split at h
   ·rename_i o ho
    rw [Array.any_eq_true'] at h
    obtain ⟨e,he,h2⟩:=h
    simp only [Bool.and_eq_true,Bool.or_eq_true] at h2;have h3:=hl o ho e he h2.1;rcases h2.2 with h4|h4
    ·have:e.on=i:=by simpa using h4
     rw [←this];exact h3
    ·exact te hd f e.on h4 fun oe ZC e' Al OR=>hd e.on oe ZC h3 e' Al OR
   ·cases h
def P1 (st:St) (md:Region.Mode) (ops:Array Oper) (i:Nat):Bool:=
  (List.range ops.size).all fun j=>match ops[j]? with|some o=> !Vf st j o|| waits md ops ops.size j i|none=>true
def Yq (st:St) (md:Region.Mode) (ops:Array Oper) (aN:Array Bool) (i:Nat):Bool:=
  (Region.ready md ops aN).contains i&& Region.free md ops aN i&& match ops[i]? with|some o=>ZA o&& !Vf st i o|none=>false
def Yr (st:St) (md:Region.Mode) (ops:Array Oper) (aN:Array Bool) (i:Nat):Bool:=
  (Region.ready md ops aN).contains i&& Region.free md ops aN i&& (match ops[i]? with|some o=>ZB o&& !Vf st i o|none=>false)&& P1 st md ops i
def tC (st:St) (ops:Array Oper) (i:Nat):Bool:=match ops[i]? with|some o=>Vf st i o|none=>false
def R8 (st:St) (ops:Array Oper) (aN:Array Bool):Bool:=(List.range ops.size).all fun t=> !(tC st ops t)|| !(aN.getD t false)
def Vg (st:St) (ops:Array Oper) (aN:Array Bool):List Nat:=(List.range ops.size).filter fun j=>tC st ops j&& !aN.getD j false
def yP (md:Region.Mode) (ops:Array Oper):Nat→St→Array Bool→oB
  |0,_,aN=>match Region.ready md ops aN with
   | []=> .done
   |_=> .bad
  |cV+1,st,aN=>
   match (Region.ready md ops aN).find? (Yq st md ops aN) with
   |some i=> .p i (yP md ops cV st (aN.setIfInBounds i true))
   |none=>match (Region.ready md ops aN).find? (Yr st md ops aN) with
   |some i=> .r i (yP md ops cV st (aN.setIfInBounds i true))
   |none=>match Region.ready md ops aN with
    | []=> .done
    |rs=> .e (R8 st ops aN) (rs.map fun i=>(i,if (st.Mr&& tC st ops i)=true then .n (Vg st ops (aN.setIfInBounds i true)) (yP md ops cV (.only (Vg st ops (aN.setIfInBounds i true))) (aN.setIfInBounds i true)) else yP md ops cV st (aN.setIfInBounds i true)))
mutual
def gR (P:Program) (ops:Array Oper) (Q:Exit→Act→World→Prop):oB→St→(World→Prop)→Act→World→Prop
  | .done,_,_,a,w=>Q .normal a w
  | .bad,_,_,_,_=>False
  | .p i next,st,S,a,w=>match ops[i]? with
    |none=>False
    |some o=>∃ v,YieldsIf P ops (fun _=>True) o v a∧gR P ops Q next st S (a.put o.dst v) w
  | .r i next,st,S,a,w=>match ops[i]? with
    |none=>False
    |some o=>∃ v,YieldsIf P ops S o v a∧gR P ops Q next st S (a.put o.dst v) w
  | .n T next,_,_,a,w=>∃ S':World→Prop,S' w∧gR P ops Q next (.only T) S' a w
  | .e held LM,st,S,a,w=>tK P ops Q held LM st S a w
def tK (P:Program) (ops:Array Oper) (Q:Exit→Act→World→Prop) (held:Bool):List (Nat×oB)→St→(World→Prop)→Act→World→Prop
  | [],_,_,_,_=>True
  |(i,next)::r,st,S,a,w=>wpOp P ops Q i (fun a' w'=>(held=true→tC st ops i=false→S w')∧gR P ops Q next st S a' w') a w∧tK P ops Q held r st S a w
end
theorem zb {S':World→Prop} {T':Nat→Bool}:∀ (cV:Nat) (aN:Array Bool) (a:Act) (w:World),(∃ t,T t=true∧aN.getD t false=true)→tJ P md ops Q S' T' cV aN a w→tJ P md ops Q S T cV aN a w
  |0,_,_,_,_,h=>h
  |cV+1,aN,a,w,⟨t,h1,h2⟩,h=>⟨h.1,fun i hi=>wpOp_mono (fun a' w' h'=>⟨.inr ⟨t,h1,getD_set_true h2⟩,zb cV _ a' w' ⟨t,h1,getD_set_true h2⟩ h'.2⟩) (h.2 i hi)⟩
theorem Bd {st:St} {held:Bool} {Q:Exit→Act→World→Prop}:∀ {LM:List (Nat×oB)} {a:Act} {w:World},tK P ops Q held LM st S a w→∀ x∈LM,wpOp P ops Q x.1 (fun a' w'=>(held=true→tC st ops x.1=false→S w')∧gR P ops Q x.2 st S a' w') a w
  | [],_,_,_,x,hx=>by cases hx
  |(i,next)::r,a,w,h,x,hx=>by
   simp only [tK] at h
   rcases List.mem_cons.1 hx with rfl|hx
   ·exact h.1
   ·exact Bd h.2 x hx
theorem HZ (R5:Region.noSelect ops=true) (hQ:∀ c a w,¬Q (.panic c) a w):∀ (cV:Nat) (st:St) (S:World→Prop) (aN:Array Bool) (a:Act) (w:World),Down md ops aN→
    B3 S (tC st ops) aN w→gR P ops Q (yP md ops cV st aN) st S a w→tJ P md ops Q S (tC st ops) cV aN a w:=by
  intro cV;induction cV with
  |zero=>
   intro st S aN a w _ _ h;simp only [yP] at h;split at h
   ·rename_i hr;exact ⟨hr,by simpa [gR] using h⟩
   ·simp [gR] at h
  |succ cV ih=>
   intro st S aN a w hd hs h;simp only [yP] at h;split at h
   ·rename_i i hf;have hv:=List.find?_some hf;simp only [Yq,Bool.and_eq_true] at hv;obtain ⟨⟨hr,Cl⟩,hk⟩:=hv;have LZ:i∈Region.ready md ops aN:=by simpa using hr
    obtain ⟨h1,oi,EZ,_⟩:=mem_ready.1 LZ;simp only [EZ,Bool.and_eq_true,Bool.not_eq_true'] at hk;have Ur:tC st ops i=false:=by simp [tC,EZ,hk.2]
    simp only [gR,EZ] at h;obtain ⟨v,WS,JY⟩:=h;refine xr (Y:=fun _=>True) EZ (Region.noSelect_spec R5) (fun c a w hq=>absurd hq (hQ _ _ _)) Ur cV aN a w (Region.free_spec EZ Cl) hd LZ WS hs (.inl fun _=>trivial) ?_;exact ih _ _ _ _ _ (tU hd LZ) (wW hs) JY
   ·split at h
    ·rename_i i hf;have hv:=List.find?_some hf;simp only [Yr,Bool.and_eq_true] at hv;obtain ⟨⟨⟨hr,Cl⟩,hk⟩,kQ⟩:=hv;have LZ:i∈Region.ready md ops aN:=by simpa using hr
     obtain ⟨h1,oi,EZ,_⟩:=mem_ready.1 LZ;simp only [EZ,Bool.and_eq_true,Bool.not_eq_true'] at hk;have Ur:tC st ops i=false:=by simp [tC,EZ,hk.2]
     have hT:∀ t,tC st ops t=true→waits md ops ops.size t i=true:=by
       intro t ht;cases R9:ops[t]? with
       |none=>simp [tC,R9] at ht
       |some ot=>
        have hj:t<ops.size:=(Array.getElem?_eq_some_iff.1 R9).1;have:=List.all_eq_true.1 kQ t (by simpa using hj);simp only [R9] at this;simp only [tC,R9] at ht;simpa [ht] using this
     have VW:Mi md ops (tC st ops) i:=by
       intro l Ut Us;refine ⟨fun t ht=>?_,fun j hj=>?_⟩
       ·cases hl:l.getD t false with
        |false=>rfl
        |true=>
         exfalso;have:=te Ut _ _ (hT t ht) (fun oj I4 e he hb=>Ut t oj I4 hl e he hb);rw [Us] at this;cases this
       ·cases ht:tC st ops j with
        |false=>rfl
        |true=>
         exfalso;obtain ⟨_,oj,I4,kQ⟩:=mem_ready.1 hj;have:=te Ut _ _ (hT j ht) (fun oj' UZ e he hb=>by rw [I4] at UZ;cases UZ;exact kQ e he hb);rw [Us] at this;cases this
     simp only [gR,EZ] at h;obtain ⟨v,WS,JY⟩:=h;refine xr (Y:=S) EZ (Region.noSelect_spec R5) (fun c a w hq=>absurd hq (hQ _ _ _)) Ur cV aN a w (Region.free_spec EZ Cl) hd LZ WS hs (.inr ⟨fun _ h=>h,VW⟩) ?_;exact ih _ _ _ _ _ (tU hd LZ) (wW hs) JY
    ·have key:∀ rs,Region.ready md ops aN=rs→rs≠[]→tK P ops Q (R8 st ops aN) (rs.map fun i=>(i,if (st.Mr&& tC st ops i)=true then .n (Vg st ops (aN.setIfInBounds i true)) (yP md ops cV (.only (Vg st ops (aN.setIfInBounds i true))) (aN.setIfInBounds i true)) else yP md ops cV st (aN.setIfInBounds i true))) st S a w→tJ P md ops Q S (tC st ops) (cV+1) aN a w:=by
       intro rs pS kz h;refine ⟨fun h0=>absurd (pS▸h0) kz,fun i hi=>?_⟩;rw [pS] at hi;have h1:=Bd h _ (List.mem_map.2 ⟨i,hi,rfl⟩);have bB:i<aN.size:=by
         have:=(mem_ready.1 (pS▸hi:i∈Region.ready md ops aN)).1;rcases Nat.lt_or_ge i aN.size with h'|h'
         ·exact h'
         ·simp [Array.getElem?_eq_none h'] at this
       have hH:∀ w',(R8 st ops aN=true→tC st ops i=false→S w')→B3 S (tC st ops) (aN.setIfInBounds i true) w':=by
         intro w' hh;cases ht:tC st ops i with
         |true=>exact .inr ⟨i,ht,by simp [bB]⟩
         |false=>
          cases hn:R8 st ops aN with
          |true=>exact .inl (hh hn ht)
          |false=>
           right;have h2:∃ t,t<ops.size∧tC st ops t=true∧aN.getD t false=true:=by
             have h3:¬R8 st ops aN=true:=by simp [hn]
             unfold R8 at h3;rw [List.all_eq_true] at h3;apply Classical.byContradiction;intro hc;apply h3;intro t ZD;cases q1:tC st ops t with
             |false=>rfl
             |true=>
              cases q2:aN.getD t false with
              |false=>rfl
              |true=>exact absurd ⟨t,by simpa using ZD,q1,q2⟩ hc
           obtain ⟨t,_,h4,h5⟩:=h2;exact ⟨t,h4,getD_set_true h5⟩
       refine wpOp_mono (fun a' w' hh=>⟨hH _ hh.1,?_⟩) h1;have h2:=hh.2;dsimp only at h2;split at h2
       ·rename_i Ys;simp only [Bool.and_eq_true] at Ys;simp only [gR] at h2;obtain ⟨S',ZE,h3⟩:=h2;exact zb _ _ _ _ ⟨i,Ys.2,by simp [bB]⟩ (ih _ _ _ _ _ (tU hd (pS▸hi)) (.inl ZE) h3)
       ·exact ih _ _ _ _ _ (tU hd (pS▸hi)) (hH _ hh.1) h2
     split at h
     ·rename_i hr;refine ⟨fun _=>by simpa [gR] using h,fun i hi=>by rw [hr] at hi;cases hi⟩
     ·rename_i kz;exact key _ rfl (fun e=>kz e) (by simpa only [gR] using h)
end
section
variable {P:Program} {N:Nat} {env:Env} {L:List HP} {Q:Exit→Act→World→Prop}
def WT (st:St) (P:Program) (N:Nat) (ops:Array Oper) (LS:List HP) (p:oB) (env:Env) (L:List HP) (Q:Exit→Act→World→Prop):Prop:=
  ∀ a w,du N env a→Sat L w→gR P ops Q p st (Sat LS) a w
def Un (Q:Exit→Act→World→Prop):Exit→Act→World→Prop
  | .panic _,_,_=>False
  |e,a,w=>Q e a w
theorem SX {id:Nat} {ops:Array Oper} {b:Bool} {a:Act} {w:World} (h:(Code.region id ops b).wp P (Un Q) a w):(Code.region id ops b).wp P Q a w:=
  wp_mono h fun e _ _ hq=>by cases e<;>first|exact hq|exact hq.elim
theorem nC (st:St) {id:Nat} {ops:List Oper} (LS:List HP) {pl:oB} (hm:P.follows .mixedOrders=true) (hp:yP .any ops.toArray ops.length st (Array.replicate ops.length false)=pl)
    (R5:Region.noSelect ops.toArray=true) (he:ai L LS) (h:WT st P N ops.toArray LS pl env L (Un Q)):WC P N (.region id ops.toArray true) env L Q:=by
  intro a w ha hw;refine SX (wp_region_any hm (Bc (S:=Sat LS) (T:=tC st ops.toArray) _ _ _ _ ?_));subst hp
  have:=HZ (P:=P) (Q:=Un Q) (md:= .any) R5 (fun c a w h=>h) ops.length st (Sat LS) (Array.replicate ops.length false) a { w with drawn:=w.drawn+1}
    (fun j oj _ hl=>by
      exfalso;rcases Nat.lt_or_ge j ops.length with h'|h'
      ·simp [h'] at hl
      ·have:(Array.replicate ops.length false)[j]? =none:=Array.getElem?_eq_none (by simpa using h');simp [Array.getD_eq_getD_getElem?,this] at hl) (.inl (he.gX (vm hw))) (h a _ ha (vm hw))
  simpa using this
theorem uf {st:St} {ops:Array Oper} {LS:List HP} (h:WE N .normal env L Q):WT st P N ops LS .done env L (Un Q):=fun a w ha hw=>by
  simp only [gR];exact h a w ha hw
theorem HG {st:St} {ops:Array Oper} {LS:List HP} {T:List Nat} {next:oB} (h:WT (.only T) P N ops L next env L Q):WT st P N ops LS (.n T next) env L Q:=fun a w ha hw=>by
  simp only [gR];exact ⟨Sat L,hw,h a w ha hw⟩
inductive tB (ops:Array Oper) (env:Env):Option (Nat×Bool)→Prop
  |none:tB ops env none
  |some {j s:Nat} {want:Bool} {v:Value} (hj:c6 ops j=some s) (hb:env.get? s=some v) (hv:v= .bool want):tB ops env (some (j,want))
inductive B4 (ops:Array Oper) (env:Env):Option (Nat×Bool)→Prop
  |some {j s:Nat} {want nw:Bool} {v:Value} (hj:c6 ops j=some s) (hb:env.get? s=some v) (hv:v= .bool nw) (hn:nw= !want):B4 ops env (some (j,want))
  |undef {j s:Nat} {want:Bool} {v:Value} (hj:c6 ops j=some s) (hb:env.get? s=some v) (hv:v=undef):B4 ops env (some (j,want))
theorem tB.wanted {ops:Array Oper} {env:Env} {g:Option (Nat×Bool)} (h:tB ops env g) {a:Act} (ha:du N env a) {d:Option Tmp} {op:Op} {ty:TypeId} {pos:String} {c9:Array Edge} :
    Region.wanted ⟨d,op,ty,pos,c9,g⟩ (yielded ops a.tmps)=true:=by
  cases h with
  |none=>simp [Region.wanted]
  |some hj hb hv=>subst hv;rw [sP ha hj hb];simp
theorem B4.wanted {ops:Array Oper} {env:Env} {g:Option (Nat×Bool)} (h:B4 ops env g) {a:Act} (ha:du N env a) {d:Option Tmp} {op:Op} {ty:TypeId} {pos:String} {c9:Array Edge} :
    Region.wanted ⟨d,op,ty,pos,c9,g⟩ (yielded ops a.tmps)=false:=by
  cases h with
  |some hj hb hv hn=>subst hv;rw [sP ha hj hb];subst hn;rename_i w;cases w<;>rfl
  |undef hj hb hv=>subst hv;exact tb ha hj hb
theorem SY {ops:Array Oper} {env:Env} {j s:Nat} {v:Value} (hj:c6 ops j=some s) (hb:env.get? s=some v) (hv:v= .bool true):B4 ops env (some (j,false)):= .some hj hb hv rfl
theorem SZ {ops:Array Oper} {env:Env} {j s:Nat} {v:Value} (hj:c6 ops j=some s) (hb:env.get? s=some v) (hv:v= .bool false):B4 ops env (some (j,true)):= .some hj hb hv rfl
theorem VX {ops:Array Oper} {env:Env} {j s:Nat} {v:Value} (hj:c6 ops j=some s) (hb:env.get? s=some v) (hv:v= .bool true):tB ops env (some (j,true)):= .some hj hb hv
theorem VY {ops:Array Oper} {env:Env} {j s:Nat} {v:Value} (hj:c6 ops j=some s) (hb:env.get? s=some v) (hv:v= .bool false):tB ops env (some (j,false)):= .some hj hb hv
theorem F0 {st:St} {ops:Array Oper} {LS:List HP} {i:Nat} {next:oB} {op:Op} {ty:TypeId} {pos:String} {c9:Array Edge} {g:Option (Nat×Bool)} {d:Nat} {v:Value} (ho:ops[i]? =some ⟨some d,op,ty,pos,c9,g⟩)
    (hg:tB ops env g) (h:V P N op ty env [] v) (hd:Nat.blt d N=true) (k:WT st P N ops LS next ((d,v)::env) L Q):WT st P N ops LS (.p i next) env L Q:=fun a w ha hw=>by
  simp only [gR,ho];exact ⟨v,.inl ⟨hg.wanted ha,fun w _=>h a w ha trivial⟩,k _ w (ha.put hd v) hw⟩
theorem F1 {st:St} {ops:Array Oper} {LS:List HP} {i:Nat} {next:oB} {op:Op} {ty:TypeId} {pos:String} {c9:Array Edge} {g:Option (Nat×Bool)} {d:Nat} {v:Value} (ho:ops[i]? =some ⟨some d,op,ty,pos,c9,g⟩)
    (hg:tB ops env g) (h:V P N op ty env LS v) (hd:Nat.blt d N=true) (k:WT st P N ops LS next ((d,v)::env) L Q):WT st P N ops LS (.r i next) env L Q:=fun a w ha hw=>by
  simp only [gR,ho];exact ⟨v,.inl ⟨hg.wanted ha,fun w hw=>h a w ha hw⟩,k _ w (ha.put hd v) hw⟩
theorem B9 {st:St} {ops:Array Oper} {LS:List HP} {i:Nat} {next:oB} {op:Op} {ty:TypeId} {pos:String} {c9:Array Edge} {g:Option (Nat×Bool)} {d:Nat} (ho:ops[i]? =some ⟨some d,op,ty,pos,c9,g⟩)
    (hg:B4 ops env g) (hd:Nat.blt d N=true) (k:WT st P N ops LS next ((d,undef)::env) L Q):WT st P N ops LS (.p i next) env L Q:=fun a w ha hw=>by
  simp only [gR,ho];exact ⟨undef,.inr ⟨hg.wanted ha,rfl⟩,k _ w (ha.put hd undef) hw⟩
theorem Ca {st:St} {ops:Array Oper} {LS:List HP} {i:Nat} {next:oB} {op:Op} {ty:TypeId} {pos:String} {c9:Array Edge} {g:Option (Nat×Bool)} {d:Nat} (ho:ops[i]? =some ⟨some d,op,ty,pos,c9,g⟩)
    (hg:B4 ops env g) (hd:Nat.blt d N=true) (k:WT st P N ops LS next ((d,undef)::env) L Q):WT st P N ops LS (.r i next) env L Q:=fun a w ha hw=>by
  simp only [gR,ho];exact ⟨undef,.inr ⟨hg.wanted ha,rfl⟩,k _ w (ha.put hd undef) hw⟩
def cc (st:St) (ops:Array Oper) (LS:List HP) (held:Bool) (i:Nat) (L':List HP):Prop:=(held=true→tC st ops i=false→ai L' LS)
theorem cc.free {st:St} {ops:Array Oper} {LS L':List HP} {i:Nat}:cc st ops LS false i L':=fun h=>nomatch h
theorem cc.turns {st:St} {ops:Array Oper} {LS L':List HP} {i:Nat} {held:Bool} (h:tC st ops i=true):cc st ops LS held i L':=fun _ k=>by rw [h] at k;cases k
theorem cc.still {st:St} {ops:Array Oper} {LS L':List HP} {i:Nat} {held:Bool} (h:ai L' LS):cc st ops LS held i L':=fun _ _=>h
theorem kO {st:St} {ops:Array Oper} {LS:List HP} {i:Nat} {next:oB} {held:Bool} {op:Op} {ty:TypeId} {pos:String} {c9:Array Edge} {g:Option (Nat×Bool)} {d:Option Tmp} {post:Env→List HP→Prop} (ho:ops[i]? =some ⟨d,op,ty,pos,c9,g⟩) (hg:tB ops env g)
    (h:KO P N ⟨d,op,ty,pos,c9,none⟩ env L post) (k:∀ e' L',post e' L'→cc st ops LS held i L'∧WT st P N ops LS next e' L' Q):WT st P N ops LS (.e held [(i,next)]) env L Q:=fun a w ha hw=>by
  simp only [gR,tK,and_true];unfold wpOp;simp only [ho,hg.wanted ha,if_true];have h1:=h a w ha hw (fun a' w'=>(held=true→tC st ops i=false→Sat LS w')∧gR P ops Q next st (Sat LS) a' w') Q fun e' L' a' w' hp Ej Ct=>by
    obtain ⟨h1,h2⟩:=k e' L' hp;exact ⟨fun c d=>(h1 c d).gX Ct,h2 a' w' Ej Ct⟩
  exact .inl h1
theorem Cb {st:St} {ops:Array Oper} {LS:List HP} {i:Nat} {next:oB} {held:Bool} {op:Op} {ty:TypeId} {pos:String} {c9:Array Edge} {g:Option (Nat×Bool)} {d:Option Tmp} (ho:ops[i]? =some ⟨d,op,ty,pos,c9,g⟩) (hg:B4 ops env g)
    (hd:sh N d=true) (k:cc st ops LS held i L∧WT st P N ops LS next (pj env d undef) L Q):WT st P N ops LS (.e held [(i,next)]) env L Q:=fun a w ha hw=>by
  simp only [gR,tK,and_true];unfold wpOp;simp only [ho,hg.wanted ha];exact ⟨fun c d=>(k.1 c d).gX hw,k.2 _ w (ha.B1 hd undef) hw⟩
theorem xN {st:St} {ops:Array Oper} {LS:List HP} {held:Bool} {x:Nat×oB} {y:Nat×oB} {r:List (Nat×oB)} (h1:WT st P N ops LS (.e held [x]) env L Q) (h2:WT st P N ops LS (.e held (y::r)) env L Q):WT st P N ops LS (.e held (x::y::r)) env L Q:=fun a w ha hw=>by
  have a1:=h1 a w ha hw;have a2:=h2 a w ha hw;simp only [gR,tK] at a1 a2 ⊢;exact ⟨a1.1,a2⟩
end
end Go.Sx
