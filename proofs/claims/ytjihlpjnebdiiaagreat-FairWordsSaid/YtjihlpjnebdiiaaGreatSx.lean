/- The engine: assertions on parts of memory, frames as lists of slots, and one rule for each operation. My own work; names no program. -/
import Derived.Test.YtjihlpjnebdiiaaGreatZr
import Derived.Below
import Derived.Calls
import Derived.Deep.Quiet
import Derived.KernelRfl
import Derived.Laws.Sem
import Derived.LoopN
import Derived.OrdersHeld
set_option linter.unusedVariables false
set_option linter.unusedSectionVars false
set_option linter.unusedSimpArgs false
universe u
namespace Go.Sx
open Go
structure PH where
  c:Nat→Option Obj
  os:Os
  out:Array (Nat×ByteArray)
  tape:Nat→Question→Nat
abbrev HP:=PH→Prop
def ph (w:World):PH:=⟨fun b=>w.heap[b]?,w.os,w.output,w.tape⟩
open Classical in
noncomputable def res (h:PH) (S:Nat→Prop):PH:=⟨fun b=>if S b then h.c b else none,h.os,h.out,h.tape⟩
def cY:List HP→PH→Prop
  | [],_=>True
  |p::L,h=>∃ S T:Nat→Prop,(∀ b,S b→T b→False)∧p (res h S)∧cY L (res h T)
def fP (L:List HP) (w:World):Prop:=cY L (ph w)
theorem nT (h:PH) (S T:Nat→Prop):res (res h S) T=res h (fun b=>S b∧T b):=by
  unfold res
  simp only [PH.mk.injEq,and_self,and_true]
  funext b
  by_cases h1:S b<;>by_cases h2:T b<;>simp [h1,h2]
theorem b0t:∀ {L:List HP} {h:PH} {S:Nat→Prop},cY L (res h S)→cY L h
  | [],_,_,_=>trivial
  |p::L,h,S,⟨A,B,d,hp,hL⟩=>by
   rw [nT] at hp hL
   exact ⟨_,_,fun b x y=>d b x.2 y.2,hp,hL⟩
theorem iT {p:HP} {L L':List HP} (H:∀ h,cY L h→cY L' h) {h:PH}:cY (p::L) h→cY (p::L') h:=
  fun ⟨S,T,d,hp,hL⟩=>⟨S,T,d,hp,H _ hL⟩
theorem jN {p q:HP} {L:List HP} {h:PH} (H:cY (p::q::L) h):cY (q::p::L) h:=by
  obtain ⟨S,T,d,hp,A,B,d2,hq,hL⟩:=H
  rw [nT] at hq hL
  refine ⟨fun b=>T b∧A b,fun b=>S b∨(T b∧B b),?_,hq,S,fun b=>T b∧B b,?_,?_,?_⟩
  · rintro b ⟨t,a⟩ (s|⟨_,b'⟩)
    · exact d b s t
    · exact d2 b a b'
  · exact fun b s t=>d b s t.1
  · rw [nT]
    have:(fun b=>(S b∨(T b∧B b))∧S b)=S:=funext fun b=>propext ⟨fun x=>x.2,fun x=>⟨.inl x,x⟩⟩
    rw [this];exact hp
  · rw [nT]
    have:(fun b=>(S b∨(T b∧B b))∧T b∧B b)=(fun b=>T b∧B b):=funext fun b=>propext ⟨fun x=>x.2,fun x=>⟨.inr x,x⟩⟩
    rw [this];exact hL
theorem aU {p:HP} {L:List HP} {h:PH}:cY (p::L) h→cY L h:=fun ⟨_,_,_,_,hL⟩=>b0t hL
theorem d0w {p:HP} {L:List HP} {h:PH}:cY (p::L) h→∃ S,p (res h S):=fun ⟨S,_,_,hp,_⟩=>⟨S,hp⟩
def Ent (L M:List HP):Prop:=∀ h,cY L h→cY M h
theorem Ent.refl {L:List HP}:Ent L L:=fun _ h=>h
theorem Ent.trans {L M N:List HP} (a:Ent L M) (b:Ent M N):Ent L N:=fun h x=>b h (a h x)
theorem Ent.cons {p:HP} {L M:List HP} (a:Ent L M):Ent (p::L) (p::M):=fun _ h=>iT a h
theorem Ent.drop {p:HP} {L M:List HP} (a:Ent L M):Ent (p::L) M:=fun _ h=>a _ (aU h)
theorem Ent.nil {L:List HP}:Ent L []:=fun _ _=>trivial
theorem Ent.sat {L M:List HP} (a:Ent L M) {w:World} (h:fP L w):fP M w:=a _ h
class Pick (p:HP) (L:List HP) (L':outParam (List HP)):Prop where
  pf:Ent L (p::L')
  back:Ent (p::L') L
instance (priority:=high) Pick.here {p:HP} {L:List HP}:Pick p (p::L) L:=⟨Ent.refl,Ent.refl⟩
instance Pick.there {p q:HP} {L L':List HP} [k:Pick p L L']:Pick p (q::L) (q::L'):=
  ⟨fun _ h=>jN (iT k.pf h),fun _ h=>iT k.back (jN h)⟩
@[reducible] def pO:List HP→List HP→List HP
  | [],M=>M
  |p::L,M=>p::pO L M
theorem a5r:∀ L M:List HP,pO L M=L++M
  | [],_=>rfl
  |p::L,M=>by rw [pO,a5r L M];rfl
class PickL (pre L:List HP) (F:outParam (List HP)):Prop where
  pf:Ent L (pO pre F)
  back:Ent (pO pre F) L
instance PickL.nil {L:List HP}:PickL [] L L:=⟨Ent.refl,Ent.refl⟩
instance PickL.cons {p:HP} {pre L L' F:List HP} [k:Pick p L L'] [m:PickL pre L' F]:PickL (p::pre) L F:=
  ⟨k.pf.trans (Ent.cons m.pf),(Ent.cons m.back).trans k.back⟩
theorem Ent.pick {p:HP} {L L' M:List HP} [k:Pick p L L'] (a:Ent L' M):Ent L (p::M):=fun _ h=>iT a (k.pf _ h)
structure Cells (b:Nat) (T:TypeId) (l:List Value) (h:PH):Prop where
  pf:h.c b=some (.cells l.toArray T (0,0))
structure ObjAt (b:Nat) (o:Obj) (h:PH):Prop where
  pf:h.c b=some o
structure Old (w0:World) (h:PH):Prop where
  pf:∀ b,b<w0.heap.size→h.c b=w0.heap[b]?
  os:h.os=w0.os
  out:h.out=w0.output
  tape:h.tape=w0.tape
structure Fact (φ:Prop) (h:PH):Prop where
  pf:φ
structure Ex {α:Sort u} (p:α→List HP) (h:PH):Prop where
  pf:∃ x,cY (p x) h
theorem jK {φ:Prop} {L:List HP} {h:PH} (H:cY (Fact φ::L) h):φ:=let ⟨_,k⟩:=d0w H;k.pf
theorem dS {φ:Prop} {L:List HP} (x:φ):Ent L (Fact φ::L):=fun h H=>
  ⟨fun _=>False,fun _=>True,fun _ a _=>a,⟨x⟩,by
    have:res h (fun _=>True)=h:=by unfold res;simp
    rw [this];exact H⟩
theorem jX {M:List HP}:∀ {L:List HP} {h:PH} {S T:Nat→Prop},(∀ b,S b→T b→False)→cY L (res h S)→cY M (res h T)→cY (L++M) h
  | [],_,_,_,_,_,hM=>b0t hM
  |p::L,h,S,T,d,⟨A,B,e,hp,hL⟩,hM=>by
   rw [nT] at hp hL
   refine ⟨fun b=>S b∧A b,fun b=>(S b∧B b)∨T b,?_,hp,?_⟩
   · rintro b ⟨s,a⟩ (⟨_,b'⟩|t)
     · exact e b a b'
     · exact d b s t
   · refine jX (L:=L) (S:=fun b=>S b∧B b) (T:=T) (fun b x y=>d b x.1 y) ?_ ?_
     · rw [nT]
       have:(fun b=>(S b∧B b∨T b)∧S b∧B b)=(fun b=>S b∧B b):=funext fun b=>propext ⟨fun x=>x.2,fun x=>⟨.inl x,x⟩⟩
       rw [this];exact hL
     · rw [nT]
       have:(fun b=>(S b∧B b∨T b)∧T b)=T:=funext fun b=>propext ⟨fun x=>x.2,fun x=>⟨.inr x,x⟩⟩
       rw [this];exact hM
theorem kD {α:Sort u} {p:α→List HP} {L:List HP} {h:PH} (H:cY (Ex p::L) h):∃ x,cY (pO (p x) L) h:=by
  obtain ⟨S,T,d,⟨x,hx⟩,hL⟩:=H
  exact ⟨x,by rw [a5r];exact jX d hx hL⟩
theorem n5:∀ {L M:List HP} {h:PH},cY (L++M) h→∃ S T:Nat→Prop,(∀ b,S b→T b→False)∧cY L (res h S)∧cY M (res h T)
  | [],M,h,H=>⟨fun _=>False,fun _=>True,fun _ a _=>a,trivial,by
      have:res h (fun _=>True)=h:=by unfold res;simp
      rw [this];exact H⟩
  |p::L,M,h,⟨A,B,e,hp,hL⟩=>by
   obtain ⟨S,T,d,h1,h2⟩:=n5 hL
   rw [nT] at h1 h2
   refine ⟨fun b=>A b∨(B b∧S b),fun b=>B b∧T b,?_,⟨A,fun b=>B b∧S b,fun b x y=>e b x y.1,?_,?_⟩,h2⟩
   · rintro b (a|⟨_,s⟩) ⟨b',t⟩
     · exact e b a b'
     · exact d b s t
   · rw [nT]
     have:(fun b=>(A b∨(B b∧S b))∧A b)=A:=funext fun b=>propext ⟨fun x=>x.2,fun x=>⟨.inl x,x⟩⟩
     rw [this];exact hp
   · rw [nT]
     have:(fun b=>(A b∨(B b∧S b))∧B b∧S b)=(fun b=>B b∧S b):=funext fun b=>propext ⟨fun x=>x.2,fun x=>⟨.inr x,x⟩⟩
     rw [this];exact h1
theorem kW {α:Sort u} {p:α→List HP} {L:List HP} (x:α):Ent (pO (p x) L) (Ex p::L):=fun h H=>by
  rw [a5r] at H
  obtain ⟨S,T,d,h1,h2⟩:=n5 H
  exact ⟨S,T,d,⟨x,h1⟩,h2⟩
theorem a0a {h:PH} {S:Nat→Prop} {b:Nat} {o:Obj} (e:(res h S).c b=some o):S b∧h.c b=some o:=by
  unfold res at e
  by_cases s:S b<;>simp [s] at e
  exact ⟨s,e⟩
theorem oF {b:Nat} {T:TypeId} {l:List Value} {L:List HP} {w:World} (H:fP (Cells b T l::L) w):w.heap[b]? =some (.cells l.toArray T (0,0)):=by
  obtain ⟨S,_,_,hp,_⟩:=H
  exact (a0a hp.pf).2
theorem rX {b:Nat} {o:Obj} {L:List HP} {w:World} (H:fP (ObjAt b o::L) w):w.heap[b]? =some o:=by
  obtain ⟨S,_,_,hp,_⟩:=H
  exact (a0a hp.pf).2
theorem c7s {w0:World} {L:List HP} {w:World} (H:fP (Old w0::L) w):(∀ b,b<w0.heap.size→w.heap[b]? =w0.heap[b]?)∧w.os=w0.os∧w.output=w0.output∧w.tape=w0.tape:=by
  obtain ⟨S,_,_,hp,_⟩:=H
  refine ⟨fun b hb=>?_,hp.os,hp.out,hp.tape⟩
  have:=hp.pf b hb
  have h0:w0.heap[b]? =some w0.heap[b]:=by simp [hb]
  rw [h0] at this ⊢
  exact (a0a this).2
theorem e5a {w:World} {w':World} {S T:Nat→Prop} (d:∀ b,S b→T b→False) {b:Nat} (hS:S b) (e:∀ k,k≠b→w'.heap[k]? =w.heap[k]?) (o1:w'.os=w.os) (o2:w'.output=w.output) (o3:w'.tape=w.tape) :
    res (ph w') T=res (ph w) T:=by
  unfold res ph
  simp only [o1,o2,o3,PH.mk.injEq,and_true]
  funext k
  by_cases hk:k=b
  · subst hk
    have:¬T k:=fun t=>d k hS t
    simp [this]
  · simp [e k hk]
theorem rY {p:HP} {L:List HP} {w w':World} {b:Nat} {o:Obj} (q:HP) (hp:∀ h:PH,p h→∃ o,h.c b=some o) (hq:∀ h:PH,h.c b=some o→q h) (hb:w'.heap[b]? =some o)
    (e:∀ k,k≠b→w'.heap[k]? =w.heap[k]?) (o1:w'.os=w.os) (o2:w'.output=w.output) (o3:w'.tape=w.tape) (H:fP (p::L) w):fP (q::L) w':=by
  obtain ⟨S,T,d,h1,h2⟩:=H
  obtain ⟨o0,h0⟩:=hp _ h1
  have hS:=(a0a h0).1
  refine ⟨S,T,d,hq _ ?_,?_⟩
  · unfold res ph;simp [hS,hb]
  · rw [e5a d hS e o1 o2 o3];exact h2
theorem b6b {L:List HP} {w:World} {o:Obj} (q:HP) (hq:∀ h:PH,h.c w.heap.size=some o→q h) (H:fP L w):fP (q::L) { w with heap:=w.heap.push o}:=by
  refine ⟨fun b=>b=w.heap.size,fun b=>b≠w.heap.size,fun _ a b=>b a,hq _ ?_,?_⟩
  · unfold res ph;simp
  · have:res (ph { w with heap:=w.heap.push o}) (fun b=>b≠w.heap.size)=ph w:=by
      unfold res ph
      simp only [PH.mk.injEq,and_true]
      funext b
      by_cases hb:b=w.heap.size
      · subst hb;simp
      · simp [hb,Array.getElem?_push]
    rw [this];exact H
theorem xW {L:List HP} {w:World} {n:Nat} (H:fP L w):fP L { w with drawn:=n}:=H
end Go.Sx
namespace Go.Sx
open Go
abbrev Env:=List (Nat×Value)
def Env.get? :Env→Nat→Option Value
  | [],_=>none
  |(k,v)::r,t=>match Nat.beq k t with
   |true=>some v
   |false=>Env.get? r t
def ev (env:Env):Operand→Option Value
  | .tmp t=>env.get? t
  | .const v=>some v
  | .global g=>some (.pointer (some ⟨g,0,none⟩))
  | .func f=>some (.func (.func f) #[] #[])
structure EnvOk (N:Nat) (env:Env) (a:Act):Prop where
  size:a.tmps.size=N
  defers:a.defers=[]
  get:∀ t v,env.get? t=some v→a.tmps.getD t undef=v
theorem Env.get_cons (k:Nat) (v:Value) (r:Env) (t:Nat):Env.get? ((k,v)::r) t=if k=t then some v else Env.get? r t:=by
  show (match Nat.beq k t with|true=>some v|false=>Env.get? r t)=_
  by_cases h:k=t
  · subst h;simp
  · have:Nat.beq k t=false:=by rw [←Bool.not_eq_true,Nat.beq_eq];exact h
    simp [this,h]
theorem EnvOk.ev {N:Nat} {env:Env} {a:Act} (h:EnvOk N env a) {x:Operand} {v:Value} (e:Sx.ev env x=some v):a.eval x=v:=by
  cases x with
  |tmp t=>exact h.get t v e
  |const c=>simpa [Sx.ev,Act.eval] using e
  |global g=>simpa [Sx.ev,Act.eval] using e
  |func f=>simpa [Sx.ev,Act.eval] using e
theorem EnvOk.put {N:Nat} {env:Env} {a:Act} (h:EnvOk N env a) {d:Nat} (hd:Nat.blt d N=true) (v:Value):EnvOk N ((d,v)::env) (a.put (some d) v):=by
  have hd':d<a.tmps.size:=by rw [h.size];simpa using hd
  refine ⟨by simp [Act.put,h.size],by simp [Act.put,h.defers],fun t u e=>?_⟩
  rw [Env.get_cons] at e
  by_cases k:d=t
  · subst k
    simp at e;subst e
    simp [Act.put,hd']
  · simp [k] at e
    have:=h.get t u e
    rw [←this]
    simp [Act.put,Array.getD_eq_getD_getElem?,k]
def rM (env:Env) (d:Option Tmp) (v:Value):Env:=match d with|some d=>(d,v)::env|none=>env
def xX (N:Nat):Option Tmp→Bool
  |some d=>Nat.blt d N
  |none=>true
theorem EnvOk.puts {N:Nat} {env:Env} {a:Act} (h:EnvOk N env a) {d:Option Tmp} (hd:xX N d=true) (v:Value):EnvOk N (rM env d v) (a.put d v):=by
  cases d with
  |none=>exact h
  |some d=>exact h.put hd v
inductive Sub:Env→Env→Prop
  |nil {env:Env}:Sub [] env
  |cons {t:Nat} {v:Value} {r env:Env}:env.get? t=some v→Sub r env→Sub ((t,v)::r) env
theorem Sub.get {e' env:Env} (h:Sub e' env):∀ t v,e'.get? t=some v→env.get? t=some v:=by
  induction h with
  |nil=>intro t v e;simp [Env.get?] at e
  |cons h1 _ ih=>
   intro t v e
   rw [Env.get_cons] at e
   split at e
   · rename_i h;subst h;simp at e;subst e;exact h1
   · exact ih _ _ e
theorem EnvOk.sub {N:Nat} {env e':Env} {a:Act} (h:EnvOk N env a) (s:Sub e' env):EnvOk N e' a:=
  ⟨h.size,h.defers,fun t v e=>h.get t v (s.get t v e)⟩
section
variable (P:Program) (N:Nat)
def WC (c:Code) (env:Env) (L:List HP) (Q:Exit→Act→World→Prop):Prop:=
  ∀ a w,EnvOk N env a→fP L w→c.wp P Q a w
def WE (e:Exit) (env:Env) (L:List HP) (Q:Exit→Act→World→Prop):Prop:=
  ∀ a w,EnvOk N env a→fP L w→Q e a w
def f0b (P:Program) (all:Array Oper) (Q:Exit→Act→World→Prop):List Oper→Act→World→Prop
  | [],a,w=>Q .normal a w
  |o::rest,a,w=>
   if Region.wanted o (yielded all a.tmps) then o.wp P a w (f0b P all Q rest) Q∨(o.asks P a w∧LetsOut Q)
   else f0b P all Q rest (a.put o.dst undef) w
def WO (all:Array Oper) (todo:List Oper) (env:Env) (L:List HP) (Q:Exit→Act→World→Prop):Prop:=
  ∀ a w,EnvOk N env a→fP L w→f0b P all Q todo a w
end
section
variable {P:Program} {N:Nat}
theorem tP {all:Array Oper} {Q:Exit→Act→World→Prop}:∀ (todo:List Oper) (k:Nat) (a:Act) (w:World),(∀ j,todo[j]? =all[k+j]?)→
    f0b P all Q todo a w→wpOps P all Q ((List.range todo.length).map (k+ ·)) a w
  | [],_,_,_,_,h=>h
  |o::rest,k,a,w,hl,h=>by
   have h0:all[k]? =some o:=by simpa using (hl 0).symm
   have hr:∀ j,rest[j]? =all[(k+1)+j]? :=fun j=>by have:=hl (j+1);simpa [Nat.add_assoc,Nat.add_comm 1 j] using this
   have e:(List.range (o::rest).length).map (k+ ·)=k::(List.range rest.length).map (k+1+ ·):=by
     rw [List.length_cons,List.range_succ_eq_map]
     simp [Function.comp_def,Nat.add_assoc,Nat.add_comm 1]
   rw [e]
   simp only [wpOps,h0]
   simp only [f0b] at h
   split
   · rename_i hw
     simp only [hw,if_true] at h
     rcases h with h|h
     · left
       have key:∀ a w,f0b P all Q rest a w→wpOps P all Q ((List.range rest.length).map (k+1+ ·)) a w:=fun a w h=>tP rest (k+1) a w hr h
       unfold Oper.wp at h ⊢
       generalize (execOp a.eval o).run P w=r at h ⊢
       cases r with
       |ok n w'=>
        cases n<;>simp only [Oper.upon] at h ⊢
        case value=>exact key _ _ h
        case skip=>exact key _ _ h
        case defer=>exact key _ _ h
        case enter=>
          refine h.mono fun e w'' hh=>?_
          cases e with
          |returned v=>exact key _ _ hh
          |panicked c=>exact hh
          |outgrown=>exact hh
        case row=>exact h.mono fun v w'' hh=>key _ _ hh
       |halt x w'=>cases x<;>simp only [Oper.upon] at h ⊢ <;>exact h
     · right;exact h
   · rename_i hw
     simp only [hw] at h
     exact tP rest (k+1) _ w hr h
theorem jO {id:Nat} {ops:List Oper} {env:Env} {L:List HP} {Q:Exit→Act→World→Prop}
    (h:WO P N ops.toArray ops env L Q):WC P N (.region id ops.toArray false) env L Q:=by
  intro a w ha hw
  refine wp_region ?_
  have:=tP (P:=P) (all:=ops.toArray) (Q:=Q) ops 0 a w (by simp) (h a w ha hw)
  simpa using this
theorem a5s {x y:Code} {env:Env} {L:List HP} {Q:Exit→Act→World→Prop} (h:WC P N x env L (Exit.then (y.wp P Q) Q)):WC P N (.seq x y) env L Q:=
  fun a w ha hw=>wp_seq (h a w ha hw)
theorem yZ {env:Env} {L:List HP} {Q:Exit→Act→World→Prop} (h:WE N .normal env L Q):WC P N .skip env L Q:=fun a w ha hw=>wp_skip (h a w ha hw)
theorem a5t {env:Env} {L:List HP} {Q:Exit→Act→World→Prop} (h:WE N .ret env L Q):WC P N .ret env L Q:=fun a w ha hw=>wp_ret (h a w ha hw)
theorem y0 {id:Nat} {env:Env} {L:List HP} {Q:Exit→Act→World→Prop} (h:WE N (.exit id) env L Q):WC P N (.exit id) env L Q:=fun a w ha hw=>wp_exit (h a w ha hw)
theorem tB {id:Nat} {c:Code} {env:Env} {L:List HP} {Q:Exit→Act→World→Prop} (h:WC P N c env L (Exit.inBlock id Q)):WC P N (.block id c) env L Q:=
  fun a w ha hw=>wp_block (h a w ha hw)
theorem vC {c:Operand} {x y:Code} {env:Env} {L:List HP} {Q:Exit→Act→World→Prop} {t:Bool} (hc:ev env c=some (.bool t))
    (ht:t=true→WC P N x env L Q) (hf:t=false→WC P N y env L Q):WC P N (.cond c x y) env L Q:=
  fun a w ha hw=>wp_cond_split (ha.ev hc) (fun e=>ht e a w ha hw) (fun e=>hf e a w ha hw)
theorem pP {c:Operand} {x y:Code} {env:Env} {L:List HP} {Q:Exit→Act→World→Prop} {v:Value} (hc:ev env c=some v) (hv:v= .bool true)
    (ht:WC P N x env L Q):WC P N (.cond c x y) env L Q:=by subst hv;exact vC hc (fun _=>ht) (fun e=>nomatch e)
theorem pQ {c:Operand} {x y:Code} {env:Env} {L:List HP} {Q:Exit→Act→World→Prop} {v:Value} (hc:ev env c=some v) (hv:v= .bool false)
    (ht:WC P N y env L Q):WC P N (.cond c x y) env L Q:=by subst hv;exact vC hc (fun e=>nomatch e) (fun _=>ht)
theorem v7 {c:Operand} {x y:Code} {env:Env} {L:List HP} {Q:Exit→Act→World→Prop} {p:Prop} {inst:Decidable p} (hc:ev env c=some (.bool (@decide p inst)))
    (ht:p→WC P N x env L Q) (hf:¬p→WC P N y env L Q):WC P N (.cond c x y) env L Q:=
  vC hc (fun e=>ht (of_decide_eq_true e)) (fun e=>hf (of_decide_eq_false e))
theorem y5 {y:Code} {env:Env} {L:List HP} {Q Q':Exit→Act→World→Prop} (h:WC P N y env L Q):WE N .normal env L (Exit.then (y.wp P Q) Q'):=h
theorem kM {id:Nat} {env:Env} {L:List HP} {K:Act→World→Prop} {Q:Exit→Act→World→Prop} (h:WE N (.exit id) env L Q):WE N (.exit id) env L (Exit.then K Q):=h
theorem l6 {env:Env} {L:List HP} {K:Act→World→Prop} {Q:Exit→Act→World→Prop} (h:WE N .ret env L Q):WE N .ret env L (Exit.then K Q):=h
theorem tC {id:Nat} {env:Env} {L:List HP} {Q:Exit→Act→World→Prop} (h:WE N .normal env L Q):WE N .normal env L (Exit.inBlock id Q):=h
theorem kN {id:Nat} {env:Env} {L:List HP} {Q:Exit→Act→World→Prop} (h:WE N .ret env L Q):WE N .ret env L (Exit.inBlock id Q):=h
theorem l7 {id:Nat} {env:Env} {L:List HP} {Q:Exit→Act→World→Prop} (h:WE N .normal env L Q):WE N (.exit id) env L (Exit.inBlock id Q):=
  fun a w ha hw=>by simp only [Exit.inBlock,if_true];exact h a w ha hw
theorem l8 {id i:Nat} {env:Env} {L:List HP} {Q:Exit→Act→World→Prop} (hi:Nat.beq i id=false) (h:WE N (.exit i) env L Q):WE N (.exit i) env L (Exit.inBlock id Q):=
  fun a w ha hw=>by
    have:i≠id:=fun e=>by subst e;simp at hi
    simp only [Exit.inBlock,this,if_false];exact h a w ha hw
theorem a5u {all:Array Oper} {env:Env} {L:List HP} {Q:Exit→Act→World→Prop} (h:WE N .normal env L Q):WO P N all [] env L Q:=h
theorem n6 {all:Array Oper} {c:List Oper} {env:Env} {L L':List HP} {Q:Exit→Act→World→Prop} (e:Ent L L') (h:WO P N all c env L' Q):WO P N all c env L Q:=
  fun a w ha hw=>h a w ha (e.sat hw)
def bT {ι:Type} (N:Nat) (E:ι→Env) (H:ι→List HP) (I:ι→Prop) (μ:ι→Nat) (i:ι) (Q:Exit→Act→World→Prop):Exit→Act→World→Prop:=
  Exit.then (fun a w=>∃ j,μ j<μ i∧I j∧EnvOk N (E j) a∧fP (H j) w) Q
theorem b6c {ι:Type} (E:ι→Env) (H:ι→List HP) (I:ι→Prop) (μ:ι→Nat) (i:ι) {c:Code} {env:Env} {L:List HP} {Q:Exit→Act→World→Prop}
    (hI:I i) (hs:Sub (E i) env) (he:Ent L (H i)) (round:∀ j,I j→WC P N c (E j) (H j) (bT N E H I μ j Q)):WC P N (.loop c) env L Q:=by
  intro a w ha hw
  have key:∀ n j a w,μ j=n→I j→EnvOk N (E j) a→fP (H j) w→(Code.loop c).wp P Q a w:=by
    intro n j a w hn hj hE hS
    refine wp_loop (fun a w=>∃ j,I j∧EnvOk N (E j) a∧fP (H j) w) (fun a w=>Classical.epsilon fun m=>∃ j,μ j=m∧I j∧EnvOk N (E j) a∧fP (H j) w∧∀ k,I k→EnvOk N (E k) a→fP (H k) w→m≤μ k) ⟨j,hj,hE,hS⟩ ?_
    intro a w hx
    have least:∀ (a:Act) (w:World),(∃ j,I j∧EnvOk N (E j) a∧fP (H j) w)→∃ m,∃ j,μ j=m∧I j∧EnvOk N (E j) a∧fP (H j) w∧∀ k,I k→EnvOk N (E k) a→fP (H k) w→m≤μ k:=by
      rintro a w ⟨j,h1,h2,h3⟩
      generalize hm:μ j=m
      induction m using Nat.strongRecOn generalizing j with
      |_ m ih=>
       by_cases hk:∃ k,I k∧EnvOk N (E k) a∧fP (H k) w∧μ k<m
       · obtain ⟨k,k1,k2,k3,k4⟩:=hk
         exact ih (μ k) k4 k k1 k2 k3 rfl
       · exact ⟨m,j,hm,h1,h2,h3,fun k k1 k2 k3=>Nat.le_of_not_lt fun k4=>hk ⟨k,k1,k2,k3,k4⟩⟩
    have hm:=Classical.epsilon_spec (least a w hx)
    obtain ⟨j,j1,j2,j3,j4,_⟩:=hm
    refine wp_mono (round j j2 a w j3 j4) ?_
    intro e a' w' hq
    cases e with
    |normal=>
     obtain ⟨k,k1,k2,k3,k4⟩:=hq
     refine ⟨⟨k,k2,k3,k4⟩,?_⟩
     have hm':=Classical.epsilon_spec (least a' w' ⟨k,k2,k3,k4⟩)
     obtain ⟨_,_,_,_,_,hmin⟩:=hm'
     exact Nat.lt_of_le_of_lt (hmin k k2 k3 k4) (by rw [←j1];exact k1)
    |exit id=>exact hq
    |goto l=>exact hq
    |ret=>exact hq
    |panic ch=>exact hq
    |outgrown=>exact hq
  exact key _ i a w rfl hI (ha.sub hs) (he.sat hw)
theorem aT {ι:Type} {E:ι→Env} {H:ι→List HP} {I:ι→Prop} {μ:ι→Nat} {i:ι} {env:Env} {L:List HP} {Q:Exit→Act→World→Prop}
    (j:ι) (hm:μ j<μ i) (hI:I j) (hs:Sub (E j) env) (he:Ent L (H j)):WE N .normal env L (bT N E H I μ i Q):=
  fun _ _ ha hw=>⟨j,hm,hI,ha.sub hs,he.sat hw⟩
theorem kO {ι:Type} {E:ι→Env} {H:ι→List HP} {I:ι→Prop} {μ:ι→Nat} {i:ι} {id:Nat} {env:Env} {L:List HP} {Q:Exit→Act→World→Prop}
    (h:WE N (.exit id) env L Q):WE N (.exit id) env L (bT N E H I μ i Q):=h
theorem l9 {ι:Type} {E:ι→Env} {H:ι→List HP} {I:ι→Prop} {μ:ι→Nat} {i:ι} {env:Env} {L:List HP} {Q:Exit→Act→World→Prop}
    (h:WE N .ret env L Q):WE N .ret env L (bT N E H I μ i Q):=h
def a1d (P:Program) (f:FuncId):Prop:=∀ args w,(callFunc f args).run P w= .ok (.enter f args) w
structure FnS (P:Program) (f:FuncId) (vs:List Value) (pre:List HP) (post:Value→List HP→Prop):Prop where
  enters:a1d P f
  runs:∀ F w,fP (pO pre F) w→Calls P f vs.toArray w (fun e w'=>∃ v L',e= .returned v∧post v L'∧fP (pO L' F) w')
theorem k6 {f:FuncId} {fn:Func} {c:Code} (hf:P.funcs[f]? =some fn) (hb:fn.body=some c) (hn:(fn.name == "runtime.NumGoroutine")=false):a1d P f:=by
  intro args w
  have hn':¬fn.name= "runtime.NumGoroutine" :=by simpa using hn
  simp [callFunc,program,bind,Sem.bind,Sem.run,hf,hb,hn',pure]
def vL (P:Program) (fn:Func) (post:Value→List HP→Prop) (F:List HP):Exit→Act→World→Prop:=
  bodyPost P fn (fun e w'=>∃ v L',e= .returned v∧post v L'∧fP (pO L' F) w')
def b2i:Nat→List Value→Env
  |_,[]=>[]
  |k,v::r=>(k,v)::b2i (k+1) r
theorem xY:∀ (vs:List Value) (k t:Nat) (v:Value),(b2i k vs).get? t=some v→k≤t∧vs[t-k]? =some v
  | [],k,t,v,e=>by simp [b2i,Env.get?] at e
  |u::r,k,t,v,e=>by
   simp only [b2i] at e
   rw [Env.get_cons] at e
   split at e
   · rename_i h;subst h;simpa using e
   · rename_i h
     obtain ⟨h1,h2⟩:=xY r (k+1) t v e
     refine ⟨om,?_⟩
     have:t-k=(t-(k+1))+1:=by omega
     rw [this,List.getElem?_cons_succ];exact h2
inductive ResOk (P:Program) (env:Env) (L:List HP):List ResultVar→List Value→Prop
  |nil:ResOk P env L [] []
  |tmp {t:Nat} {v:Value} {rs:List ResultVar} {vs:List Value}:env.get? t=some v→ResOk P env L rs vs→ResOk P env L (.tmp t::rs) (v::vs)
  |cell {a:Nat} {t:TypeId} {b:Addr} {v:Value} {rs:List ResultVar} {vs:List Value}:env.get? a=some (.pointer (some b))→
     (∀ w,fP L w→(loadVar t b).run P w= .ok v w)→ResOk P env L rs vs→ResOk P env L (.cell a t::rs) (v::vs)
def vD (tmps:Array Value):ResultVar→Sem Value
  | .tmp t=>pure (tmps.getD t undef)
  | .cell x t=>do loadVar t (←asAddr (tmps.getD x undef))
theorem a0b (fn:Func) (tmps:Array Value):results fn tmps=(do
    let vs ←fn.results.mapM (vD tmps)
    pure (if h:vs.size=1 then vs[0] else .tuple vs)):=by
  have:(vD tmps)=(fun| .tmp t=>pure (tmps.getD t undef)| .cell x t=>do loadVar t (←asAddr (tmps.getD x undef))):=by
    funext x;cases x<;>rfl
  rw [this]
  rfl
theorem b3u {env:Env} {L:List HP} {a:Act} {w:World} (ha:EnvOk N env a) (hw:fP L w) {rs:List ResultVar} {vs:List Value} (h:ResOk P env L rs vs) :
    (rs.mapM (vD a.tmps)).run P w= .ok vs w:=by
  induction h with
  |nil=>rfl
  |tmp h1 _ ih=>
   rw [List.mapM_cons]
   have:=ha.get _ _ h1
   simp only [vD,this,Sem.run_bind,Sem.run_pure,Result.andThen_ok,ih]
  | @cell x t b v rs' vs' h1 h2 _ ih=>
    rw [List.mapM_cons]
    have:=ha.get _ _ h1
    have e:(vD a.tmps (.cell x t)).run P w= .ok v w:=by
      simp only [vD,this,asAddr,Sem.run_bind,Sem.run_pure,Result.andThen_ok,h2 _ hw]
    simp only [Sem.run_bind,e,Sem.run_pure,Result.andThen_ok,ih]
def vM (vs:List Value):Value:=match vs with| [v]=>v|_=> .tuple vs.toArray
@[simp] theorem a8o (v:Value):vM [v]=v:=rfl
@[simp] theorem retVal_two (v u:Value) (r:List Value):vM (v::u::r)= .tuple (v::u::r).toArray:=rfl
@[simp] theorem retVal_nil:vM []= .tuple #[]:=rfl
theorem aA {fn:Func} {post:Value→List HP→Prop} {F:List HP} {e:Exit} (he:(match e with| .normal=>true| .ret=>true|_=>false)=true) {env:Env} {L:List HP} {rs:List ResultVar} {vs:List Value}
    (b9v:fn.results.toList=rs) (hr:ResOk P env L rs vs) (L':List HP) (hp:post (vM vs) L') (hL:Ent L (pO L' F)):WE N e env L (vL P fn post F):=by
  intro a w ha hw
  have key:(results fn a.tmps).run P w= .ok (vM vs) w:=by
    have h1:=b3u ha hw hr
    subst b9v
    rw [a0b,Array.mapM_eq_mapM_toList]
    simp only [Sem.run_bind,Sem.run_map]
    rw [h1]
    simp only [Result.andThen_ok,Sem.run_pure]
    congr 1
    unfold vM
    match vs with
    | []=>rfl
    | [v]=>rfl
    |a::b::r=>simp
  have fin:a.defers=[]∧∃ v,(results fn a.tmps).run P w= .ok v w∧(∃ u L',Ending.returned v= .returned u∧post u L'∧fP (pO L' F) w):=
    ⟨ha.defers,_,key,_,L',rfl,hp,hL.sat hw⟩
  cases e with
  |normal=>exact fin
  |ret=>exact fin
  |_=>simp at he
end
end Go.Sx
namespace Go.Sx
open Go
class TU (P:Program) (t:TypeId) (d:outParam TypeDesc):Prop where
  pf:P.underlying t=some d
class TZ (P:Program) (t:TypeId) (n:outParam Nat) (z:outParam Value) (bytes:outParam Nat):Prop where
  pf:(P.info? t).map (fun i=>(i.size,i.zero,i.bytes))=some (n,some z,bytes)
class TF (P:Program) (s:TypeId) (f:Nat) (off:outParam Nat) (ft:outParam TypeId):Prop where
  pf:∃ fs fd,P.underlying s=some (.struct fs)∧fs[f]? =some fd∧fd.offset=off∧fd.type=ft
def eG (P:Program) (t:TypeId):Array Field:=match P.underlying t with|some (.struct fs)=>fs|_=> #[]
theorem bZ {P:Program} {t:TypeId} {fs:Array Field} (h:P.underlying t=some (.struct fs)):P.underlying t=some (.struct (eG P t)):=by
  simp [eG,h]
section
variable {P:Program} {N:Nat}
@[simp] theorem aE {t:TypeId} {d:TypeDesc} (h:P.underlying t=some d) (w:World):(underlying t).run P w= .ok d w:=by
  simp [underlying,h]
theorem c7t {t n b:Nat} {z:Value} (h:TZ P t n z b):∃ i,P.info? t=some i∧i.size=n∧i.zero=some z∧i.bytes=b:=by
  have:=h.pf
  cases e:P.info? t with
  |none=>simp [e] at this
  |some i=>simp [e] at this;exact ⟨i,rfl,this.1,this.2.1,this.2.2⟩
theorem bE {t n b:Nat} {z:Value} (h:TZ P t n z b) (w:World):(sizeOf t).run P w= .ok n w:=by
  obtain ⟨i,hi,h1,_,_⟩:=c7t h
  simp [sizeOf,typeInfo,hi,h1]
theorem f8 {t n b:Nat} {z:Value} (h:TZ P t n z b) (w:World):(zeroValue t).run P w= .ok z w:=by
  obtain ⟨i,hi,_,h1,_⟩:=c7t h
  simp [zeroValue,typeInfo,hi,h1]
def n7:TypeDesc→Bool
  | .struct _=>true
  | .array _ _=>true
  |_=>false
theorem xZ {t:TypeId} {d:TypeDesc} (h:TU P t d) (w:World):(isAgg t).run P w= .ok (n7 d) w:=by
  unfold isAgg
  simp only [Sem.run_bind,aE h.pf,Result.andThen_ok]
  cases d<;>rfl
def V (P:Program) (N:Nat) (op:Op) (ty:TypeId) (env:Env) (L:List HP) (v:Value):Prop:=
  ∀ a w,EnvOk N env a→fP L w→(execOp a.eval ⟨none,op,ty, "", #[],none⟩).run P w= .ok (.value v) w
theorem bQ (ρ:Operand→Value) (d:Option Tmp) (op:Op) (ty:TypeId) (pos:String) (aft:Array Edge) (g:Option (Nat×Bool)) :
    execOp ρ ⟨d,op,ty,pos,aft,g⟩=execOp ρ ⟨none,op,ty, "", #[],none⟩:=rfl
theorem b6d {op:Op} {ty:TypeId} {pos:String} {aft:Array Edge} {d:Nat} {all:Array Oper} {rest:List Oper} {env:Env} {L:List HP} {Q:Exit→Act→World→Prop} {v:Value}
    (h:V P N op ty env L v) (hd:Nat.blt d N=true) (k:WO P N all rest ((d,v)::env) L Q):WO P N all (⟨some d,op,ty,pos,aft,none⟩::rest) env L Q:=by
  intro a w ha hw
  simp only [f0b,Region.wanted,if_true]
  left
  unfold Oper.wp
  rw [bQ,h a w ha hw]
  exact k _ w (ha.put hd v) hw
theorem f4v {op:Op} {ty:TypeId} {pos:String} {aft:Array Edge} {d:Nat} {all:Array Oper} {rest:List Oper} {env:Env} {L:List HP} {v:Value} {Q:Act→Prop}
    (h:V P N op ty env L v) (hd:Nat.blt d N=true) (k:∀ a,EnvOk N ((d,v)::env) a→wpQuiet P all (fP L) Q rest a) :
    ∀ a,EnvOk N env a→wpQuiet P all (fP L) Q (⟨some d,op,ty,pos,aft,none⟩::rest) a:=by
  intro a ha
  simp only [wpQuiet,Region.wanted,if_true]
  refine ⟨v,fun w hw=>?_,k _ (ha.put hd v)⟩
  unfold Oper.quietAt
  rw [bQ,h a w ha hw]
  exact ⟨rfl,rfl⟩
def WQ (P:Program) (N:Nat) (all:Array Oper) (todo:List Oper) (env:Env) (L:List HP) (Q:Exit→Act→World→Prop):Prop:=
  ∀ a,EnvOk N env a→wpQuiet P all (fP L) (fun a'=>∀ w',fP L w'→Q .normal a' w') todo a
theorem b6e {id:Nat} {ops:List Oper} {env:Env} {L:List HP} {Q:Exit→Act→World→Prop} (hm:P.follows .mixedOrders=true) (hB:Region.lexB .any ops.toArray=true)
    (h:WQ P N ops.toArray ops env L Q):WC P N (.region id ops.toArray true) env L Q:=by
  intro a w ha hw
  refine wp_region_quiet (C:=fP L) hm hB (xW hw) ?_
  simpa using h a ha
theorem b2j {op:Op} {ty:TypeId} {pos:String} {aft:Array Edge} {d:Nat} {all:Array Oper} {rest:List Oper} {env:Env} {L:List HP} {v:Value} {Q:Exit→Act→World→Prop}
    (h:V P N op ty env L v) (hd:Nat.blt d N=true) (k:WQ P N all rest ((d,v)::env) L Q):WQ P N all (⟨some d,op,ty,pos,aft,none⟩::rest) env L Q:=f4v h hd k
theorem a5v {all:Array Oper} {env:Env} {L:List HP} {Q:Exit→Act→World→Prop} (h:WE N .normal env L Q):WQ P N all [] env L Q:=fun a ha w hw=>h a w ha hw
def cI (all:Array Oper) (j:Nat):Option Tmp:=(all[j]?).bind (·.dst)
theorem uJ {all:Array Oper} {env:Env} {a:Act} (ha:EnvOk N env a) {op:Op} {ty:TypeId} {pos:String} {aft:Array Edge} {d:Option Tmp} {j s:Nat} {want b:Bool}
    (hj:cI all j=some s) (hb:env.get? s=some (.bool b)):Region.wanted ⟨d,op,ty,pos,aft,some (j,want)⟩ (yielded all a.tmps)=(b == want):=by
  have e:yielded all a.tmps j=some b:=by
    have h1:=ha.get _ _ hb
    unfold cI at hj
    unfold yielded
    cases ho:all[j]? with
    |none=>simp [ho] at hj
    |some o=>
     simp [ho] at hj
     have h2:(a.tmps[s]?).getD undef= .bool b:=by rw [←Array.getD_eq_getD_getElem?];exact h1
     have hs:a.tmps[s]? =some (.bool b):=by
       cases hh:a.tmps[s]? with
       |none=>simp [hh,undef] at h2
       |some x=>simp [hh] at h2;rw [h2]
     simp [hj,hs]
  simp [Region.wanted,e]
theorem tQ {all:Array Oper} {env:Env} {a:Act} (ha:EnvOk N env a) {op:Op} {ty:TypeId} {pos:String} {aft:Array Edge} {d:Option Tmp} {j s:Nat} {want:Bool}
    (hj:cI all j=some s) (hb:env.get? s=some undef):Region.wanted ⟨d,op,ty,pos,aft,some (j,want)⟩ (yielded all a.tmps)=false:=by
  have e:yielded all a.tmps j=none:=by
    have h1:=ha.get _ _ hb
    unfold cI at hj
    unfold yielded
    cases ho:all[j]? with
    |none=>simp [ho] at hj
    |some o=>
     simp [ho] at hj
     have h2:(a.tmps[s]?).getD undef=undef:=by rw [←Array.getD_eq_getD_getElem?];exact h1
     cases hh:a.tmps[s]? with
     |none=>simp [hj,hh]
     |some x=>simp [hh] at h2;subst h2;simp [hj,hh,undef]
  simp [Region.wanted,e]
theorem mA {op:Op} {ty:TypeId} {pos:String} {aft:Array Edge} {d:Nat} {all:Array Oper} {rest:List Oper} {env:Env} {L:List HP} {Q:Exit→Act→World→Prop} {j s:Nat} {want:Bool} {v:Value}
    (hj:cI all j=some s) (hb:env.get? s=some v) (hv:v=undef) (hd:Nat.blt d N=true)
    (h:WO P N all rest ((d,undef)::env) L Q):WO P N all (⟨some d,op,ty,pos,aft,some (j,want)⟩::rest) env L Q:=by
  intro a w ha hw
  subst hv
  simp only [f0b]
  rw [tQ ha hj hb]
  simp only [Bool.false_eq_true,if_false]
  exact h _ w (ha.put hd undef) hw
theorem mB {op:Op} {ty:TypeId} {pos:String} {aft:Array Edge} {d:Nat} {all:Array Oper} {rest:List Oper} {env:Env} {L:List HP} {Q:Exit→Act→World→Prop} {j s:Nat} {want:Bool} {v:Value}
    (hj:cI all j=some s) (hb:env.get? s=some v) (hv:v=undef) (hd:Nat.blt d N=true)
    (h:WQ P N all rest ((d,undef)::env) L Q):WQ P N all (⟨some d,op,ty,pos,aft,some (j,want)⟩::rest) env L Q:=by
  intro a ha
  subst hv
  simp only [wpQuiet]
  rw [tQ ha hj hb]
  simp only [Bool.false_eq_true,if_false]
  exact h _ (ha.put hd undef)
theorem o6 {op:Op} {ty:TypeId} {pos:String} {aft:Array Edge} {d:Option Tmp} {all:Array Oper} {rest:List Oper} {env:Env} {L:List HP} {Q:Exit→Act→World→Prop} {j s:Nat} {want b:Bool}
    (hj:cI all j=some s) (hb:env.get? s=some (.bool b)) (_hs:Nat.blt s N=true) (hd:xX N d=true)
    (h1:b=want→WO P N all (⟨d,op,ty,pos,aft,none⟩::rest) ((s,.bool want)::env) L Q)
    (h2:b= !want→WO P N all rest (rM ((s,.bool !want)::env) d undef) L Q):WO P N all (⟨d,op,ty,pos,aft,some (j,want)⟩::rest) env L Q:=by
  intro a w ha hw
  have hset:∀ c,b=c→EnvOk N ((s,.bool c)::env) a:=by
    intro c e
    refine ⟨ha.size,ha.defers,fun t v h=>?_⟩
    rw [Env.get_cons] at h
    split at h
    · rename_i k;subst k;simp at h;subst h;subst e;exact ha.get _ _ hb
    · exact ha.get _ _ h
  simp only [f0b]
  rw [uJ ha hj hb]
  by_cases hbw:b=want
  · subst hbw
    have:=h1 rfl a w (hset _ rfl) hw
    simp only [f0b,Region.wanted,if_true] at this
    simp only [beq_self_eq_true,if_true]
    rw [show ∀ g,(⟨d,op,ty,pos,aft,g⟩:Oper).wp P a w (f0b P all Q rest) Q=(⟨d,op,ty,pos,aft,none⟩:Oper).wp P a w (f0b P all Q rest) Q from fun g=>rfl]
    rcases this with h|h
    · exact .inl h
    · exact .inr h
  · have hbn:b= !want:=by cases b<;>cases want<;>simp_all
    have:(b == want)=false:=by simp [hbw]
    simp only [this,Bool.false_eq_true,if_false]
    exact h2 hbn _ w ((hset _ hbn).puts hd undef) hw
theorem qT {op:Op} {ty:TypeId} {pos:String} {aft:Array Edge} {d:Option Tmp} {all:Array Oper} {rest:List Oper} {env:Env} {L:List HP} {Q:Exit→Act→World→Prop} {j s:Nat} {want b:Bool}
    (hj:cI all j=some s) (hb:env.get? s=some (.bool b)) (_hs:Nat.blt s N=true) (hd:xX N d=true)
    (h1:b=want→WQ P N all (⟨d,op,ty,pos,aft,none⟩::rest) ((s,.bool want)::env) L Q)
    (h2:b= !want→WQ P N all rest (rM ((s,.bool !want)::env) d undef) L Q):WQ P N all (⟨d,op,ty,pos,aft,some (j,want)⟩::rest) env L Q:=by
  intro a ha
  have hset:∀ c,b=c→EnvOk N ((s,.bool c)::env) a:=by
    intro c e
    refine ⟨ha.size,ha.defers,fun t v h=>?_⟩
    rw [Env.get_cons] at h
    split at h
    · rename_i k;subst k;simp at h;subst h;subst e;exact ha.get _ _ hb
    · exact ha.get _ _ h
  simp only [wpQuiet]
  rw [uJ ha hj hb]
  by_cases hbw:b=want
  · subst hbw
    have:=h1 rfl a (hset _ rfl)
    simp only [wpQuiet,Region.wanted,if_true] at this
    simp only [beq_self_eq_true,if_true]
    exact this
  · have hbn:b= !want:=by cases b<;>cases want<;>simp_all
    have:(b == want)=false:=by simp [hbw]
    simp only [this,Bool.false_eq_true,if_false]
    exact h2 hbn _ ((hset _ hbn).puts hd undef)
theorem f0c {x:Operand} {ty:TypeId} {env:Env} {L:List HP} {v:Value} (hx:ev env x=some v):V P N (.move x) ty env L v:=by
  intro a w ha _
  simp [execOp,ha.ev hx]
theorem d6d {x:Operand} {ty:TypeId} {env:Env} {L:List HP} {v:Value} (hx:ev env x=some v):V P N (.assign x) ty env L v:=by
  intro a w ha _
  simp [execOp,ha.ev hx]
theorem c0w {c x y:Operand} {ty:TypeId} {env:Env} {L:List HP} {u v:Value} (hc:ev env c=some u) (hu:u= .bool true) (hx:ev env x=some v):V P N (.pick c x y) ty env L v:=by
  intro a w ha _
  subst hu
  simp [execOp,ha.ev hx,ha.ev hc,asBool]
theorem c0x {c x y:Operand} {ty:TypeId} {env:Env} {L:List HP} {u v:Value} (hc:ev env c=some u) (hu:u= .bool false) (hx:ev env y=some v):V P N (.pick c x y) ty env L v:=by
  intro a w ha _
  subst hu
  simp [execOp,ha.ev hx,ha.ev hc,asBool]
def uK (op:BinOp) (k:IntKind) (m n:Int):Sem Value:=match op with
  | .add| .sub| .mul=>Op.intArith op k m n
  | .quo| .rem=>Op.intDiv op k m n
  | .and| .or| .xor| .andNot=>Op.intBits op k m n
  |_=>Op.intCmp op m n
theorem nU {ρ:Operand→Value} {op:BinOp} {xt yt ty:TypeId} {x y:Operand} {k:IntKind} {m n:Int} (hx:ρ x= .int k m) (hy:ρ y= .int k n) (w:World)
    (h1:op≠ .shl) (h2:op≠ .shr) {v:Value} (hv:(uK op k m n).run P w= .ok v w) :
    (execOp ρ ⟨none,.binOp op xt x y yt,ty, "", #[],none⟩).run P w= .ok (.value v) w:=by
  have e:(eqGuard op xt x y (.int k m) (.int k n)).run P w= .ok () w:=by
    unfold eqGuard
    split<;>simp
  have b:binOp op xt (.int k m) (.int k n)=uK op k m n:=by
    cases op<;>first|rfl|(simp [binOp,uK];done)|simp_all
  simp only [execOp,hx,hy]
  simp only [Sem.run_bind,e,b,hv,Result.andThen_ok,Sem.run_pure]
variable {xt yt ty:TypeId} {x y:Operand} {env:Env} {L:List HP} {k:IntKind} {m n:Int}
theorem e7e (hx:ev env x=some (.int k m)) (hy:ev env y=some (.int k n)):V P N (.binOp .add xt x y yt) ty env L (.int k (k.wrap (m+n))):=
  fun _ w ha _=>nU (ha.ev hx) (ha.ev hy) w (by simp) (by simp) (by simp [uK,Op.intArith])
theorem e7f (hx:ev env x=some (.int k m)) (hy:ev env y=some (.int k n)):V P N (.binOp .sub xt x y yt) ty env L (.int k (k.wrap (m-n))):=
  fun _ w ha _=>nU (ha.ev hx) (ha.ev hy) w (by simp) (by simp) (by simp [uK,Op.intArith])
theorem e7g (hx:ev env x=some (.int k m)) (hy:ev env y=some (.int k n)):V P N (.binOp .mul xt x y yt) ty env L (.int k (k.wrap (m*n))):=
  fun _ w ha _=>nU (ha.ev hx) (ha.ev hy) w (by simp) (by simp) (by simp [uK,Op.intArith])
theorem y6 {n:Int} (h0: -9223372036854775808≤n) (h1:n≤9223372036854775807):IntKind.i64.wrap n=n:=by
  unfold IntKind.wrap
  simp [IntKind.bits,IntKind.signed]
  omega
theorem f0d (hx:ev env x=some (.int .i64 m)) (hy:ev env y=some (.int .i64 n)) (h0: -9223372036854775808≤m+n) (h1:m+n≤9223372036854775807) :
    V P N (.binOp .add xt x y yt) ty env L (.int .i64 (m+n)):=by
  have:=e7e (P:=P) (N:=N) (xt:=xt) (yt:=yt) (ty:=ty) (L:=L) hx hy
  rwa [y6 h0 h1] at this
theorem f0e (hx:ev env x=some (.int .i64 m)) (hy:ev env y=some (.int .i64 n)) (h0: -9223372036854775808≤m-n) (h1:m-n≤9223372036854775807) :
    V P N (.binOp .sub xt x y yt) ty env L (.int .i64 (m-n)):=by
  have:=e7f (P:=P) (N:=N) (xt:=xt) (yt:=yt) (ty:=ty) (L:=L) hx hy
  rwa [y6 h0 h1] at this
theorem f0f (hx:ev env x=some (.int .i64 m)) (hy:ev env y=some (.int .i64 n)) (h0: -9223372036854775808≤m*n) (h1:m*n≤9223372036854775807) :
    V P N (.binOp .mul xt x y yt) ty env L (.int .i64 (m*n)):=by
  have:=e7g (P:=P) (N:=N) (xt:=xt) (yt:=yt) (ty:=ty) (L:=L) hx hy
  rwa [y6 h0 h1] at this
theorem f3c (hx:ev env x=some (.int k m)) (hy:ev env y=some (.int k n)):V P N (.binOp .lss xt x y yt) ty env L (.bool (decide (m<n))):=
  fun _ w ha _=>nU (ha.ev hx) (ha.ev hy) w (by simp) (by simp) (by simp [uK,Op.intCmp])
theorem f3d (hx:ev env x=some (.int k m)) (hy:ev env y=some (.int k n)):V P N (.binOp .leq xt x y yt) ty env L (.bool (decide (m≤n))):=
  fun _ w ha _=>nU (ha.ev hx) (ha.ev hy) w (by simp) (by simp) (by simp [uK,Op.intCmp])
theorem f3e (hx:ev env x=some (.int k m)) (hy:ev env y=some (.int k n)):V P N (.binOp .gtr xt x y yt) ty env L (.bool (decide (n<m))):=
  fun _ w ha _=>nU (ha.ev hx) (ha.ev hy) w (by simp) (by simp) (by simp [uK,Op.intCmp])
theorem f3f (hx:ev env x=some (.int k m)) (hy:ev env y=some (.int k n)):V P N (.binOp .geq xt x y yt) ty env L (.bool (decide (n≤m))):=
  fun _ w ha _=>nU (ha.ev hx) (ha.ev hy) w (by simp) (by simp) (by simp [uK,Op.intCmp])
theorem f3g (hx:ev env x=some (.int k m)) (hy:ev env y=some (.int k n)):V P N (.binOp .eql xt x y yt) ty env L (.bool (decide (m=n))):=
  fun _ w ha _=>nU (ha.ev hx) (ha.ev hy) w (by simp) (by simp) (by
    have:(m == n)=decide (m=n):=by by_cases h:m=n<;>simp [h]
    simp only [uK,Op.intCmp,this,Sem.run_pure])
theorem f3h (hx:ev env x=some (.int k m)) (hy:ev env y=some (.int k n)):V P N (.binOp .neq xt x y yt) ty env L (.bool (decide (m≠n))):=
  fun _ w ha _=>nU (ha.ev hx) (ha.ev hy) w (by simp) (by simp) (by
    by_cases h:m=n<;>simp [uK,Op.intCmp,h])
theorem f3i (hx:ev env x=some (.int k m)) (hy:ev env y=some (.int k n)) (h:n≠0):V P N (.binOp .rem xt x y yt) ty env L (.int k (m.tmod n)):=
  fun _ w ha _=>nU (ha.ev hx) (ha.ev hy) w (by simp) (by simp) (by simp [uK,Op.intDiv,h])
def eI (k:IntKind) (a b:Int):Int:=k.wrap (BitVec.ofInt k.bits a&&& BitVec.ofInt k.bits b).toNat
def v8 (k:IntKind) (a b:Int):Int:=k.wrap (BitVec.ofInt k.bits a||| BitVec.ofInt k.bits b).toNat
theorem f3j (hx:ev env x=some (.int k m)) (hy:ev env y=some (.int k n)):V P N (.binOp .and xt x y yt) ty env L (.int k (eI k m n)):=
  fun _ w ha _=>nU (ha.ev hx) (ha.ev hy) w (by simp) (by simp) (by simp [uK,Op.intBits,eI])
theorem b8v (d:Nat) {t:TypeId} (hT:TU P t .bool) (a b:Bool) (w:World):(Op.equalIn (d+1) t (.bool a) (.bool b)).run P w= .ok (a == b) w:=by
  simp only [Op.equalIn,Sem.run_bind,aE hT.pf,Result.andThen_ok,Sem.run_pure]
theorem f3k {a b:Bool} [hT:TU P xt .bool] (hx:ev env x=some (.bool a)) (hy:ev env y=some (.bool b)):V P N (.binOp .neq xt x y yt) ty env L (.bool (decide (a≠b))):=by
  intro f w ha _
  have e:(eqGuard .neq xt x y (.bool a) (.bool b)).run P w= .ok () w:=by unfold eqGuard;simp
  have h:(Op.equal xt (.bool a) (.bool b)).run P w= .ok (a == b) w:=by
    exact b8v 9999 hT a b w
  have hb:(!(a == b))=decide (a≠b):=by cases a<;>cases b<;>rfl
  simp [execOp,ha.ev hx,ha.ev hy,e,binOp,h,hb]
theorem f3l {yk:IntKind} (hx:ev env x=some (.int k m)) (hy:ev env y=some (.int yk n)) (h:0≤n):V P N (.binOp .shr xt x y yt) ty env L (.int k (m.fdiv (2^min n.toNat k.bits))):=by
  intro a w ha _
  have hn:¬n<0:=by omega
  simp [execOp,ha.ev hx,ha.ev hy,eqGuard,binOp,Op.shift,hn]
theorem b7g {b:Bool} (hx:ev env x=some (.bool b)):V P N (.unOp .not xt x) ty env L (.bool !b):=by
  intro a w ha _
  simp [execOp,ha.ev hx,Op.unary]
theorem e5b {u:Value} (hx:ev env x=some u) (hu:u= .bool true):V P N (.unOp .not xt x) ty env L (.bool false):=by subst hu;exact b7g hx
theorem e5c {u:Value} (hx:ev env x=some u) (hu:u= .bool false):V P N (.unOp .not xt x) ty env L (.bool true):=by subst hu;exact b7g hx
theorem d6e {b:Bool} (hx:ev env x=some (.bool b)) (hb:b=true):V P N (.unOp .not xt x) ty env L (.bool false):=by subst hb;exact b7g hx
theorem d6f {b:Bool} (hx:ev env x=some (.bool b)) (hb:b=false):V P N (.unOp .not xt x) ty env L (.bool true):=by subst hb;exact b7g hx
theorem d0x {p:Prop} {inst:Decidable p} (hx:ev env x=some (.bool (@decide p inst))):V P N (.unOp .not xt x) ty env L (.bool (decide (¬p))):=by
  have:=b7g (P:=P) (N:=N) (xt:=xt) (ty:=ty) (L:=L) hx
  rwa [←decide_not] at this
theorem d0y {vs:List Value} {i:Nat} {v:Value} (hx:ev env x=some (.tuple vs.toArray)) (hv:vs[i]? =some v):V P N (.extract x i) ty env L v:=by
  intro a w ha _
  simp [execOp,ha.ev hx,Instr.extract,hv]
theorem c3v {p:Addr} (hx:ev env x=some (.pointer (some p))):V P N (.nilCheck x) ty env L (.pointer (some p)):=by
  intro a w ha _
  simp [execOp,ha.ev hx]
theorem b1w {src dst:TypeId} {ds:TypeDesc} {k':IntKind} [hs:TU P src ds] [hd:TU P dst (.int k')] (hx:ev env x=some (.int k m)):V P N (.convert src dst x) ty env L (.int k' (k'.wrap m)):=by
  intro a w ha _
  simp [execOp,ha.ev hx,convert,aE hs.pf,aE hd.pf,Conv.intToInt]
theorem b1x {b off:Nat} {f:Field} {nc bs:Nat} {z:Value} (h:TZ P f.type nc z bs) (hn:nc≠0) (w:World):(fieldPlace ⟨b,off,none⟩ f).run P w= .ok ⟨b,off+f.offset,none⟩ w:=by
  unfold fieldPlace
  simp [bE h,hn,Addr.add]
end
end Go.Sx
namespace Go.Sx
open Go
def cellsOf:Value→List Value
  | .agg cs=>cs.toList
  |v=>[v]
class CO (v:Value) (cs:outParam (List Value)):Prop where
  pf:cellsOf v=cs
instance {k:IntKind} {n:Int}:CO (.int k n) [.int k n]:=⟨rfl⟩
instance {b:Bool}:CO (.bool b) [.bool b]:=⟨rfl⟩
instance {b:ByteArray}:CO (.string b) [.string b]:=⟨rfl⟩
instance {b:Option Addr}:CO (.pointer b) [.pointer b]:=⟨rfl⟩
instance {b:Option Addr} {n c:Nat}:CO (.slice b n c) [.slice b n c]:=⟨rfl⟩
instance {b:Option Nat}:CO (.map b) [.map b]:=⟨rfl⟩
instance {f:_root_.Go.Fn} {a b:Array Value}:CO (.func f a b) [.func f a b]:=⟨rfl⟩
instance:CO .nilFunc [.nilFunc]:=⟨rfl⟩
instance {t:TypeId} {v:Value}:CO (.iface t v) [.iface t v]:=⟨rfl⟩
instance:CO .nilIface [.nilIface]:=⟨rfl⟩
instance {l:List Value}:CO (.agg l.toArray) l:=⟨rfl⟩
class SplN (l:List Value) (off:Nat) (cs:List Value) (l':outParam (List Value)):Prop where
instance {l:List Value}:SplN l 0 [] l:=⟨⟩
instance {a c:Value} {l cs l':List Value} [SplN l 0 cs l']:SplN (a::l) 0 (c::cs) (c::l'):=⟨⟩
instance {a:Value} {i:Nat} {l cs l':List Value} [SplN l i cs l']:SplN (a::l) (i+1) cs (a::l'):=⟨⟩
class SubN (l:List Value) (off n:Nat) (cs:outParam (List Value)):Prop where
instance {l:List Value}:SubN l 0 0 []:=⟨⟩
instance {a:Value} {n:Nat} {l cs:List Value} [SubN l 0 n cs]:SubN (a::l) 0 (n+1) (a::cs):=⟨⟩
instance {a:Value} {i n:Nat} {l cs:List Value} [SubN l i n cs]:SubN (a::l) (i+1) n cs:=⟨⟩
class TakeN (l:List Value) (n:Nat) (a b:outParam (List Value)):Prop where
instance {l:List Value}:TakeN l 0 [] l:=⟨⟩
instance {x:Value} {n:Nat} {l a b:List Value} [TakeN l n a b]:TakeN (x::l) (n+1) (x::a) b:=⟨⟩
class ChopN (l:List Value) (ps:List (Nat×Nat)) (ch:outParam (List (List Value))):Prop where
instance {l:List Value}:ChopN l [] []:=⟨⟩
instance {l a b:List Value} {o n:Nat} {ps:List (Nat×Nat)} {ch:List (List Value)} [TakeN l n a b] [ChopN b ps ch]:ChopN l ((o,n)::ps) (a::ch):=⟨⟩
class SetN (ch:List (List Value)) (i:Nat) (c:List Value) (ch':outParam (List (List Value))):Prop where
instance {a c:List Value} {r:List (List Value)}:SetN (a::r) 0 c (c::r):=⟨⟩
instance {a c:List Value} {i:Nat} {r r':List (List Value)} [SetN r i c r']:SetN (a::r) (i+1) c (a::r'):=⟨⟩
class FillN (ch:List (List Value)) (vs:List (Nat×Value)) (ch':outParam (List (List Value))):Prop where
instance {ch:List (List Value)}:FillN ch [] ch:=⟨⟩
instance {ch ch1 ch2:List (List Value)} {i:Nat} {v:Value} {c:List Value} {r:List (Nat×Value)} [CO v c] [SetN ch i c ch1] [FillN ch1 r ch2]:FillN ch ((i,v)::r) ch2:=⟨⟩
class FlatN (ch:List (List Value)) (l:outParam (List Value)):Prop where
instance:FlatN [] []:=⟨⟩
instance {r:List (List Value)} {l:List Value} [FlatN r l]:FlatN ([]::r) l:=⟨⟩
instance {a:Value} {c l:List Value} {r:List (List Value)} [FlatN (c::r) l]:FlatN ((a::c)::r) (a::l):=⟨⟩
class RowN (z:List Value) (n:Nat) (l:outParam (List Value)):Prop where
instance {z:List Value}:RowN z 0 []:=⟨⟩
instance {z l l':List Value} {n:Nat} [RowN z n l] [FlatN [z,l] l']:RowN z (n+1) l':=⟨⟩
class PlN (sz k n:Nat) (ps:outParam (List (Nat×Nat))):Prop where
instance {sz k:Nat}:PlN sz k 0 []:=⟨⟩
instance {sz k n:Nat} {ps:List (Nat×Nat)} [PlN sz (k+1) n ps]:PlN sz k (n+1) ((k*sz,sz)::ps):=⟨⟩
class AddN (a b:Nat) (c:outParam Nat):Prop where
  pf:a+b=c
instance (priority:=high) {b:Nat}:AddN 0 b b:=⟨Nat.zero_add b⟩
instance (priority:=high) {a:Nat}:AddN a 0 a:=⟨rfl⟩
instance (priority:=low) {a b:Nat}:AddN a b (a+b):=⟨rfl⟩
theorem dA (v:Value):v.cells=(cellsOf v).toArray:=by cases v<;>simp [Value.cells,cellsOf]
def aQ (l:List Value) (off:Nat) (cs:List Value):List Value:=l.take off++cs++l.drop (off+cs.length)
class CellsAt (b:Nat) (L:List HP) (T:outParam TypeId) (l:outParam (List Value)) (C:outParam (List Value→List HP)):Prop where
  pf:∃ R,Ent L (Cells b T l::R)∧∀ l',Ent (Cells b T l'::R) (C l')
instance (priority:=high) CellsAt.here {b:Nat} {T:TypeId} {l:List Value} {L:List HP}:CellsAt b (Cells b T l::L) T l (fun l'=>Cells b T l'::L):=⟨L,Ent.refl,fun _=>Ent.refl⟩
instance CellsAt.there {b:Nat} {T:TypeId} {l:List Value} {q:HP} {L:List HP} {C:List Value→List HP} [k:CellsAt b L T l C]:CellsAt b (q::L) T l (fun l'=>q::C l'):=
  let ⟨R,h1,h2⟩:=k.pf
  ⟨q::R,fun _ h=>jN (iT h1 h),fun l' _ h=>iT (h2 l') (jN h)⟩
theorem gR {b:Nat} {L:List HP} {T:TypeId} {l:List Value} {C:List Value→List HP} (k:CellsAt b L T l C) {w:World} (h:fP L w):w.heap[b]? =some (.cells l.toArray T (0,0)):=
  let ⟨_,h1,_⟩:=k.pf
  oF (h1.sat h)
theorem fX {w:World} {b off:Nat} {l:List Value} {T:TypeId} (h:w.heap[b]? =some (.cells l.toArray T (0,0))):w.cell? ⟨b,off,none⟩=l[off]? :=by
  simp [World.cell?,h]
theorem a6h {w:World} {b off:Nat} {l:List Value} {T:TypeId} (h:w.heap[b]? =some (.cells l.toArray T (0,0))):w.frozen? ⟨b,off,none⟩=false:=by
  simp [World.frozen?,h]
theorem b8w {P:Program} {w:World} {a:Addr} {v:Value} (h:w.cell? a=some v):(load a).run P w= .ok v w:=by simp [h]
theorem pJ {P:Program} {w:World} (b off:Nat) (l:List Value):∀ (n i:Nat) (acc:Array Value),(∀ j v,i≤j→j<i+n→l[j]? =some v→w.cell? ⟨b,off+j,none⟩=some v)→i+n≤l.length→
    (loadCellsFrom ⟨b,off,none⟩ i n acc).run P w= .ok (acc++((l.drop i).take n).toArray) w
  |0,i,acc,_,_=>by simp [loadCellsFrom]
  |n+1,i,acc,h,hl=>by
   have hi:i<l.length:=by omega
   have e:(Addr.add ⟨b,off,none⟩ i)=⟨b,off+i,none⟩:=by
     unfold Addr.add;split<;>simp_all
   have hc:=h i l[i] (Nat.le_refl _) (om) (by simp [hi])
   simp only [loadCellsFrom,e,Sem.run_bind,b8w hc,Result.andThen_ok]
   rw [pJ b off l n (i+1) _ (fun j v h1 h2 h3=>h j v (om) (om) h3) (om)]
   congr 1
   rw [List.drop_eq_getElem_cons hi,List.take_succ_cons]
   simp
def sub (l:List Value) (off n:Nat):Option (List Value):=match Nat.ble (off+n) l.length with|true=>some ((l.drop off).take n)|false=>none
theorem a1v {l:List Value} {off n:Nat} {cs:List Value} (h:sub l off n=some cs):off+n≤l.length∧cs=(l.drop off).take n:=by
  unfold sub at h
  cases e:Nat.ble (off+n) l.length with
  |true=>rw [e] at h;simp at h;exact ⟨by simpa using e,h.symm⟩
  |false=>rw [e] at h;simp at h
theorem fB {P:Program} {w:World} {b off n:Nat} {cs:List Value} (hn:cs.length=n) (h:∀ j v,cs[j]? =some v→w.cell? ⟨b,off+j,none⟩=some v) :
    (loadCells ⟨b,off,none⟩ n).run P w= .ok cs.toArray w:=by
  unfold loadCells
  rw [pJ b off cs n 0 #[] (fun j v _ _ h3=>h j v h3) (om)]
  subst hn;simp
def kE (agg:Bool) (cs:List Value):Option Value:=match agg,cs with
  |true,cs=>some (.agg cs.toArray)
  |false,[v]=>some v
  |false,_=>none
theorem v9 {P:Program} {w:World} {t:TypeId} {d:TypeDesc} {n bs:Nat} {z:Value} {b off:Nat} {cs:List Value} {v:Value} (hT:TU P t d) (hZ:TZ P t n z bs)
    (hn:cs.length=n) (hv:kE (n7 d) cs=some v) (h:∀ j v,cs[j]? =some v→w.cell? ⟨b,off+j,none⟩=some v):(loadVar t ⟨b,off,none⟩).run P w= .ok v w:=by
  unfold loadVar
  simp only [Sem.run_bind,xZ hT,Result.andThen_ok]
  cases e:n7 d with
  |true=>
   rw [e] at hv
   simp [kE] at hv
   subst hv
   simp [bE hZ,fB hn h]
  |false=>
   rw [e] at hv
   match cs,hv,h with
   | [u],hv,h=>
     simp [kE] at hv
     subst hv
     have:w.cell? ⟨b,off,none⟩=some u:=h 0 u rfl
     simp [this]
   | [],hv,_=>simp [kE] at hv
   |_::_::_,hv,_=>simp [kE] at hv
section
variable {P:Program} {N:Nat}
variable {t ty:TypeId} {x y:Operand} {env:Env} {L:List HP}
theorem c5m {d:TypeDesc} {n bs:Nat} {z:Value} {b off:Nat} {T:TypeId} {l cs:List Value} {C:List Value→List HP} {v:Value} [hT:TU P t d] [hZ:TZ P t n z bs]
    (hx:ev env x=some (.pointer (some ⟨b,off,none⟩))) (k:CellsAt b L T l C) (hs:sub l off n=some cs) (hv:kE (n7 d) cs=some v):V P N (.load t x) ty env L v:=by
  intro a w ha hw
  have hh:=gR k hw
  obtain ⟨h1,h2⟩:=a1v hs
  have:=v9 (P:=P) (w:=w) (b:=b) (off:=off) hT hZ (cs:=cs) (by subst h2;simp;omega) hv (fun j v hj=>by
    rw [fX hh]
    subst h2
    rw [List.getElem?_take] at hj
    split at hj
    · rwa [List.getElem?_drop] at hj
    · simp at hj)
  simp [execOp,ha.ev hx,Instr.loadAt,Instr.sureAddr,this]
theorem e5d {d:TypeDesc} {n bs:Nat} {z:Value} {b off:Nat} {T:TypeId} {l cs:List Value} {C:List Value→List HP} [hT:TU P t d] [hZ:TZ P t n z bs] (hd:n7 d=true)
    (hx:ev env x=some (.pointer (some ⟨b,off,none⟩))) (k:CellsAt b L T l C) (_:SubN l off n cs) (hs:sub l off n=some cs):V P N (.load t x) ty env L (.agg cs.toArray):=
  c5m hx k hs (by rw [hd];rfl)
theorem c3w {d:TypeDesc} {n bs:Nat} {z:Value} {b:Nat} {T:TypeId} {l:List Value} {C:List Value→List HP} [hT:TU P t d] [hZ:TZ P t n z bs] (hd:n7 d=true)
    (hx:ev env x=some (.pointer (some ⟨b,0,none⟩))) (k:CellsAt b L T l C) (hn:Nat.beq n l.length=true):V P N (.load t x) ty env L (.agg l.toArray):=by
  have hn':n=l.length:=by simpa using hn
  refine c5m hx k (cs:=l) ?_ (by rw [hd];rfl)
  subst hn'
  have hb:Nat.ble (0+l.length) l.length=true:=by simp
  unfold sub
  rw [hb]
  simp
theorem c7u {d:TypeDesc} {b off:Nat} {T:TypeId} {l:List Value} {C:List Value→List HP} {v:Value} [hT:TU P t d] (hd:n7 d=false)
    (hx:ev env x=some (.pointer (some ⟨b,off,none⟩))) (k:CellsAt b L T l C) (hs:l[off]? =some v):V P N (.load t x) ty env L v:=by
  intro a w ha hw
  have hh:=gR k hw
  have:(loadVar t ⟨b,off,none⟩).run P w= .ok v w:=by
    unfold loadVar
    simp [xZ hT,hd,fX hh,hs]
  simp [execOp,ha.ev hx,Instr.loadAt,Instr.sureAddr,this]
theorem b8x {s:TypeId} {f off ft b o nc bs:Nat} {z:Value} [hF:TF P s f off ft] [hZ:TZ P ft nc z bs] (hx:ev env x=some (.pointer (some ⟨b,o,none⟩))) (hn:Nat.beq nc 0=false) {o':Nat} (ho:AddN o off o') :
    V P N (.fieldAddr s x f) ty env L (.pointer (some ⟨b,o',none⟩)):=by
  intro a w ha _
  have ho':=ho.pf
  subst ho'
  obtain ⟨fs,fd,h1,h2,h3,h4⟩:=hF.pf
  subst h3 h4
  have hn':nc≠0:=fun e=>by subst e;simp at hn
  simp [execOp,ha.ev hx,Instr.fieldAt,aE h1,h2,Instr.sureAddr,b1x hZ hn']
theorem a0j {e:TypeId} {i:Int} {k:IntKind} {b o n c sz bs:Nat} {z:Value} [hT:TU P t (.slice e)] [hZ:TZ P e sz z bs] (hx:ev env x=some (.slice (some ⟨b,o,none⟩) n c)) (hy:ev env y=some (.int k i))
    (h0:0≤i) (h1:i<(n:Int)):V P N (.indexAddr t x y) ty env L (.pointer (some ⟨b,o+i.toNat*sz,none⟩)):=by
  intro a w ha _
  have hadd:(Addr.add ⟨b,o,none⟩ (i.toNat*sz))=⟨b,o+i.toNat*sz,none⟩:=by unfold Addr.add;split<;>simp_all
  simp [execOp,ha.ev hx,ha.ev hy,Instr.indexAt,asIntOf,aE hT.pf,h0,h1,bE hZ,hadd]
theorem a0k {e len:Nat} {i:Int} {k:IntKind} {b o sz bs:Nat} {z:Value} [hT:TU P t (.array len e)] [hZ:TZ P e sz z bs] (hx:ev env x=some (.pointer (some ⟨b,o,none⟩))) (hy:ev env y=some (.int k i))
    (h0:0≤i) (h1:i<(len:Int)):V P N (.indexAddr t x y) ty env L (.pointer (some ⟨b,o+i.toNat*sz,none⟩)):=by
  intro a w ha _
  have hadd:(Addr.add ⟨b,o,none⟩ (i.toNat*sz))=⟨b,o+i.toNat*sz,none⟩:=by unfold Addr.add;split<;>simp_all
  simp [execOp,ha.ev hx,ha.ev hy,Instr.indexAt,asIntOf,aE hT.pf,h0,h1,bE hZ,hadd,Instr.sureAddr]
theorem y7 {e len:Nat} {i:Int} {k:IntKind} {sz bs:Nat} {z:Value} {d:TypeDesc} {l cs:List Value} {v:Value} [hT:TU P t (.array len e)] [hD:TU P e d] [hZ:TZ P e sz z bs] (hx:ev env x=some (.agg l.toArray)) (hy:ev env y=some (.int k i))
    (h0:0≤i) (h1:i<(len:Int)) (hs:sub l (i.toNat*sz) sz=some cs) (hv:kE (n7 d) cs=some v):V P N (.index t x y) ty env L v:=by
  intro a w ha _
  obtain ⟨k1,k2⟩:=a1v hs
  have:(part e l.toArray (i.toNat*sz)).run P w= .ok v w:=by
    unfold part
    simp only [Sem.run_bind,xZ hD,Result.andThen_ok]
    cases e:n7 d with
    |true=>
     rw [e] at hv;simp [kE] at hv;subst hv
     simp [bE hZ,k2]
    |false=>
     rw [e] at hv
     match cs,hv,k2 with
     | [u],hv,k2=>
       simp [kE] at hv;subst hv
       have:l[i.toNat*sz]? =some u:=by
         have h0:((l.drop (i.toNat*sz)).take sz)[0]? =some u:=by rw [←k2];rfl
         rw [List.getElem?_take] at h0
         split at h0
         · simpa using h0
         · simp at h0
       simp [this]
     | [],hv,_=>simp [kE] at hv
     |_::_::_,hv,_=>simp [kE] at hv
  simp [execOp,ha.ev hx,ha.ev hy,Instr.index,asIntOf,aE hT.pf,h0,h1,bE hZ,this]
def KO (P:Program) (N:Nat) (o:Oper) (env:Env) (L:List HP) (post:Env→List HP→Prop):Prop:=
  ∀ a w,EnvOk N env a→fP L w→∀ (K:Act→World→Prop) (Q:Exit→Act→World→Prop),(∀ e' L' a' w',post e' L'→EnvOk N e' a'→fP L' w'→K a' w')→o.wp P a w K Q
theorem xG {o:Oper} {all:Array Oper} {rest:List Oper} {env:Env} {L:List HP} {Q:Exit→Act→World→Prop} {post:Env→List HP→Prop} (hg:o.guard=none) (h:KO P N o env L post)
    (next:∀ e' L',post e' L'→WO P N all rest e' L' Q):WO P N all (o::rest) env L Q:=by
  intro a w ha hw
  simp only [f0b,Region.wanted,hg,if_true]
  exact .inl (h a w ha hw _ _ fun e' L' a' w' hp ha' hw'=>next e' L' hp a' w' ha' hw')
abbrev a4u (env:Env) (L':List HP):Env→List HP→Prop:=fun e' M=>e'=env∧M=L'
abbrev a1w (env:Env) (d:Nat) (v:Nat→Value) (L':Nat→List HP):Env→List HP→Prop:=fun e' M=>∃ b,e'=(d,v b)::env∧M=L' b
def one (v:Value):Bool:=match v with| .agg _=>false| .tuple _=>false|_=>true
theorem fC {P:Program} (b:Nat) (T:TypeId):∀ (cs:List Value) (l:List Value) (off i:Nat) (w:World),w.heap[b]? =some (.cells l.toArray T (0,0))→off+i+cs.length≤l.length→cs.all one=true→
    ∃ w',(storeCells ⟨b,off,none⟩ cs i).run P w= .ok () w'∧w'.heap[b]? =some (.cells (aQ l (off+i) cs).toArray T (0,0))∧(∀ k,k≠b→w'.heap[k]? =w.heap[k]?)∧w'.os=w.os∧w'.output=w.output∧w'.tape=w.tape
  | [],l,off,i,w,hw,_,_=>⟨w,rfl,by simpa [aQ] using hw,fun _ _=>rfl,rfl,rfl,rfl⟩
  |v::r,l,off,i,w,hw,hl,h1=>by
   simp only [List.all_cons,Bool.and_eq_true] at h1
   simp only [List.length_cons] at hl
   have e:(Addr.add ⟨b,off,none⟩ i)=⟨b,off+i,none⟩:=by unfold Addr.add;split<;>simp_all
   have hv:v.oneCell'=true:=by cases v<;>simp_all [one,Value.oneCell']
   have hlt:off+i<l.length:=by omega
   have hw':(w.setCell ⟨b,off+i,none⟩ v).heap[b]? =some (.cells (l.set (off+i) v).toArray T (0,0)):=by
     simp [World.setCell,Array.getElem?_modify,hw]
   obtain ⟨w2,r1,r2,r3,r4,r5,r6⟩:=fC (P:=P) b T r (l.set (off+i) v) off (i+1) (w.setCell ⟨b,off+i,none⟩ v) hw' (by simp;omega) h1.2
   refine ⟨w2,?_,?_,?_,by rw [r4];rfl,by rw [r5];rfl,by rw [r6];rfl⟩
   · simp only [storeCells,e,Sem.run_bind]
     rw [run_store P w _ v _ hv]
     simp [fX hw,hlt,a6h hw,r1]
   · rw [r2]
     congr 3
     unfold aQ
     have:off+i+(v::r).length=off+(i+1)+r.length:=by simp;omega
     rw [this,List.drop_set_of_lt (om)]
     have h2:(l.set (off+i) v).take (off+(i+1))=l.take (off+i)++[v]:=by
       rw [←Nat.add_assoc,List.take_add_one,List.take_set_of_le (om)]
       simp [hlt]
     rw [h2];simp
   · intro k hk
     rw [r3 k hk]
     simp [World.setCell,Array.getElem?_modify,Ne.symm hk]
theorem vE {n bs:Nat} {z v:Value} {b off:Nat} {T:TypeId} {l cs:List Value} {C:List Value→List HP} {pos:String} {aft:Array Edge} [hZ:TZ P t n z bs]
    (hx:ev env x=some (.pointer (some ⟨b,off,none⟩))) (hy:ev env y=some v) (k:CellsAt b L T l C) (hc:cellsOf v=cs) (hn:cs.length=n) (h1:cs.all one=true) (hl:Nat.ble (off+n) l.length=true) :
    KO P N ⟨none,.store t x y,ty,pos,aft,none⟩ env L (a4u env (C (aQ l off cs))):=by
  intro a w ha hw K Q next
  obtain ⟨R,k1,k2⟩:=k.pf
  have hs:=k1.sat hw
  have hh:=oF hs
  have hl':off+n≤l.length:=by simpa using hl
  obtain ⟨w',r1,r2,r3,r4,r5,r6⟩:=fC (P:=P) b T cs l off 0 w hh (om) h1
  have run:(execOp a.eval ⟨none,.store t x y,ty, "", #[],none⟩).run P w= .ok .skip w':=by
    have e:v.cells.toList=cs:=by rw [dA];simpa using hc
    have e2:v.cells.size=n:=by rw [dA];simp [hc,hn]
    simp [execOp,ha.ev hx,ha.ev hy,Instr.storeAt,Instr.sureAddr,storeVar,bE hZ,e2,e,r1]
  unfold Oper.wp
  rw [bQ,run]
  refine next _ _ a w' ⟨rfl,rfl⟩ ha ((k2 _).sat ?_)
  refine rY (b:=b) (Cells b T (aQ l off cs)) (fun h hp=>⟨_,hp.pf⟩) (fun h e=>⟨e⟩) (by simpa using r2) r3 r4 r5 r6 hs
theorem d6g {n bs:Nat} {z v:Value} {b off:Nat} {T:TypeId} {l l' cs:List Value} {C:List Value→List HP} {pos:String} {aft:Array Edge} [hZ:TZ P t n z bs]
    (hx:ev env x=some (.pointer (some ⟨b,off,none⟩))) (hy:ev env y=some v) (k:CellsAt b L T l C) (hc:CO v cs) (_:SplN l off cs l') (hl':aQ l off cs=l') (hn:cs.length=n) (h1:cs.all one=true) (hl:Nat.ble (off+n) l.length=true) :
    KO P N ⟨none,.store t x y,ty,pos,aft,none⟩ env L (a4u env (C l')):=by
  subst hl'
  exact vE hx hy k hc.pf hn h1 hl
theorem b8y {n bs:Nat} {z v:Value} {b:Nat} {T:TypeId} {l cs:List Value} {C:List Value→List HP} {pos:String} {aft:Array Edge} [hZ:TZ P t n z bs]
    (hx:ev env x=some (.pointer (some ⟨b,0,none⟩))) (hy:ev env y=some v) (k:CellsAt b L T l C) (hc:CO v cs) (hn:cs.length=n) (h1:cs.all one=true) (hl:Nat.beq n l.length=true) :
    KO P N ⟨none,.store t x y,ty,pos,aft,none⟩ env L (a4u env (C cs)):=by
  have hl':n=l.length:=by simpa using hl
  have:=vE (P:=P) (N:=N) (t:=t) (n:=n) (bs:=bs) (z:=z) (ty:=ty) (pos:=pos) (aft:=aft) hx hy k hc.pf hn h1 (by simp [hl'])
  have e:aQ l 0 cs=cs:=by unfold aQ;simp;omega
  rw [e] at this;exact this
theorem b2k {op:Op} {pos:String} {aft:Array Edge} {d:Nat} {o:Obj} {q:Nat→HP} {v:Nat→Value} (hq:∀ b (h:PH),h.c b=some o→q b h)
    (h:∀ a w,EnvOk N env a→fP L w→(execOp a.eval ⟨none,op,ty, "", #[],none⟩).run P w= .ok (.value (v w.heap.size)) { w with heap:=w.heap.push o})
    (hd:Nat.blt d N=true):KO P N ⟨some d,op,ty,pos,aft,none⟩ env L (a1w env d v (fun b=>q b::L)):=by
  intro a w ha hw K Q next
  unfold Oper.wp
  rw [bQ,h a w ha hw]
  exact next _ _ _ _ ⟨w.heap.size,rfl,rfl⟩ (ha.put hd _) (b6b (q w.heap.size) (hq _) hw)
theorem f3m {v:Value} {cs:List Value} {pos:String} {aft:Array Edge} {d:Nat} (hx:ev env x=some v) (hco:CO v cs) (hd:Nat.blt d N=true) :
    KO P N ⟨some d,.box t x,ty,pos,aft,none⟩ env L (a1w env d (fun b=> .pointer (some ⟨b,0,none⟩)) (fun b=>Cells b t cs::L)):=by
  have hc:=hco.pf
  refine b2k (o:= .cells cs.toArray t (0,0)) (q:=fun b=>Cells b t cs) (v:=fun b=> .pointer (some ⟨b,0,none⟩)) (fun b h e=>⟨e⟩) ?_ hd
  intro a w ha _
  have e:v.cells=cs.toArray:=by rw [dA,hc]
  simp [execOp,ha.ev hx,Instr.box,newVar,newRow,e]
theorem e5e {n bs:Nat} {z:Value} {cs:List Value} {pos:String} {aft:Array Edge} {d:Nat} [hZ:TZ P t n z bs] [hco:CO z cs] (hd:Nat.blt d N=true) :
    KO P N ⟨some d,.alloc t,ty,pos,aft,none⟩ env L (a1w env d (fun b=> .pointer (some ⟨b,0,none⟩)) (fun b=>Cells b t cs::L)):=by
  have hc:=hco.pf
  refine b2k (o:= .cells cs.toArray t (0,0)) (q:=fun b=>Cells b t cs) (v:=fun b=> .pointer (some ⟨b,0,none⟩)) (fun b h e=>⟨e⟩) ?_ hd
  intro a w ha _
  have e:z.cells=cs.toArray:=by rw [dA,hc]
  simp [execOp,Instr.alloc,f8 hZ,newVar,newRow,e]
end
end Go.Sx
namespace Go.Sx
open Go
def evs (env:Env):List Operand→Option (List Value)
  | []=>some []
  |x::r=>match ev env x,evs env r with
   |some v,some vs=>some (v::vs)
   |_,_=>none
theorem EnvOk.evs {N:Nat} {env:Env} {a:Act} (h:EnvOk N env a):∀ {xs:List Operand} {vs:List Value},Sx.evs env xs=some vs→xs.map a.eval=vs
  | [],vs,e=>by simp [Sx.evs] at e;simp [e]
  |x::r,vs,e=>by
   simp only [Sx.evs] at e
   split at e
   · rename_i v vs' h1 h2
     simp at e;subst e
     rw [List.map_cons,h.ev h1,h.evs h2]
   · simp at e
def evp (env:Env):List (Nat×Operand)→Option (List (Nat×Value))
  | []=>some []
  |(i,x)::r=>match ev env x,evp env r with
   |some v,some vs=>some ((i,v)::vs)
   |_,_=>none
theorem EnvOk.evp {N:Nat} {env:Env} {a:Act} (h:EnvOk N env a):∀ {xs:List (Nat×Operand)} {vs:List (Nat×Value)},Sx.evp env xs=some vs→xs.map (fun p=>(p.1,a.eval p.2))=vs
  | [],vs,e=>by simp [Sx.evp] at e;simp [e]
  |(i,x)::r,vs,e=>by
   simp only [Sx.evp] at e
   split at e
   · rename_i v vs' h1 h2
     simp at e;subst e
     rw [List.map_cons,h.evp h2]
     simp [h.ev h1]
   · simp at e
class TS (P:Program) (s:TypeId) (places:outParam (List (Nat×Nat))):Prop where
  pf:∃ fs,P.underlying s=some (.struct fs)∧fs.toList.map (fun f=>(f.offset,(P.info? f.type).map (·.size)))=places.map (fun p=>(p.1,some p.2))
def a0c (place:Nat→Option (Nat×Nat)) (cells:List Value):List (Nat×Value)→Option (List Value)
  | []=>some cells
  |(i,v)::rest=>match place i with
   |none=>none
   |some (off,size)=>match Nat.beq (cellsOf v).length size,Nat.ble (off+(cellsOf v).length) cells.length with
    |true,true=>a0c place (aQ cells off (cellsOf v)) rest
    |_,_=>none
theorem a4v:∀ (cs:List Value) (l:List Value) (off j:Nat),off+j+cs.length≤l.length→
    (cs.zipIdx j).foldl (fun (acc:Array Value) (p:Value×Nat)=>acc.setIfInBounds (off+p.2) p.1) l.toArray=(aQ l (off+j) cs).toArray
  | [],l,off,j,_=>by simp [aQ]
  |v::r,l,off,j,h=>by
   simp only [List.length_cons] at h
   have hlt:off+j<l.length:=by omega
   rw [List.zipIdx_cons,List.foldl_cons]
   simp only [List.setIfInBounds_toArray]
   rw [a4v r (l.set (off+j) v) off (j+1) (by simp;omega)]
   congr 1
   unfold aQ
   have:off+j+(v::r).length=off+(j+1)+r.length:=by simp;omega
   rw [this,List.drop_set_of_lt (om)]
   have h2:(l.set (off+j) v).take (off+(j+1))=l.take (off+j)++[v]:=by
     rw [←Nat.add_assoc,List.take_add_one,List.take_set_of_le (om)]
     simp [hlt]
   rw [h2];simp
theorem a8p (place:Nat→Option (Nat×Nat)):∀ (parts:List (Nat×Value)) (cells out:List Value),a0c place cells parts=some out→Instr.fill place cells.toArray parts=some out.toArray
  | [],cells,out,h=>by simp [a0c] at h;simp [Instr.fill,h]
  |(i,v)::rest,cells,out,h=>by
   simp only [a0c] at h
   cases hp:place i with
   |none=>rw [hp] at h;simp at h
   |some p=>
    obtain ⟨off,size⟩:=p
    rw [hp] at h
    simp only at h
    split at h
    · rename_i h1 h2
      have e1:(cellsOf v).length=size:=by simpa using h1
      have e2:off+(cellsOf v).length≤cells.length:=by simpa using h2
      have ih:=a8p place rest _ _ h
      simp only [Instr.fill,hp]
      have c1:v.cells.size=size:=by rw [dA];simpa using e1
      have c2:¬(off+v.cells.size>cells.toArray.size):=by rw [dA];simpa using e2
      simp only [c1,ne_eq,not_true_eq_false,decide_false,Bool.false_or]
      rw [←c1]
      simp only [decide_eq_true_eq,c2,if_false]
      rw [←ih]
      congr 1
      rw [dA]
      have:=a4v (cellsOf v) cells off 0 (om)
      simpa [←Array.foldl_toList] using this
    · simp at h
def a0d (ch:List (List Value)) (i:Nat):Nat:=((ch.take i).map List.length).sum
theorem a0u:∀ (ch:List (List Value)) (i:Nat) (c v:List Value),ch[i]? =some c→v.length=c.length→aQ ch.flatten (a0d ch i) v=(ch.set i v).flatten
  | [],_,_,_,h,_=>by simp at h
  |a::r,0,c,v,h,e=>by
   simp at h;subst h
   simp [aQ,a0d,e]
  |a::r,i+1,c,v,h,e=>by
   have ih:=a0u r i c v (by simpa using h) e
   have h1:a0d (a::r) (i+1)=a.length+a0d r i:=by simp [a0d]
   unfold aQ at ih ⊢
   rw [h1,List.flatten_cons,List.set_cons_succ,List.flatten_cons,←ih]
   rw [List.take_append,List.take_of_length_le (om),List.drop_append,List.drop_eq_nil_of_le (om)]
   have h2:a.length+a0d r i-a.length=a0d r i:=by omega
   have h3:a.length+a0d r i+v.length-a.length=a0d r i+v.length:=by omega
   rw [h2,h3]
   simp
def a8q (ch:List (List Value)):List (Nat×Value)→Option (List (List Value))
  | []=>some ch
  |(i,v)::rest=>match ch[i]? with
   |none=>none
   |some c=>match Nat.beq (cellsOf v).length c.length with
    |true=>a8q (ch.set i (cellsOf v)) rest
    |false=>none
theorem d6h (ch:List (List Value)) (i j:Nat) (c v:List Value) (h:ch[i]? =some c) (e:v.length=c.length):a0d (ch.set i v) j=a0d ch j:=by
  unfold a0d
  rw [List.map_take,List.map_take,List.map_set]
  congr 2
  apply List.ext_getElem?
  intro k
  by_cases hk:i=k
  · subst hk
    have hi:i<ch.length:=(List.getElem?_eq_some_iff.1 h).1
    rw [List.getElem?_set_self (by simpa using hi)]
    simp [h,e]
  · rw [List.getElem?_set_ne hk]
theorem b0u (place:Nat→Option (Nat×Nat)):∀ (parts:List (Nat×Value)) (ch out:List (List Value)),(∀ i c,ch[i]? =some c→place i=some (a0d ch i,c.length))→a8q ch parts=some out→
    a0c place ch.flatten parts=some out.flatten
  | [],ch,out,_,h=>by simp [a8q] at h;simp [a0c,h]
  |(i,v)::rest,ch,out,hp,h=>by
   simp only [a8q] at h
   cases hc:ch[i]? with
   |none=>simp [hc] at h
   |some c=>
    simp only [hc] at h
    split at h
    · rename_i hb
      have e:(cellsOf v).length=c.length:=by simpa using hb
      have hle:a0d ch i+(cellsOf v).length≤ch.flatten.length:=by
        have hi:i<ch.length:=(List.getElem?_eq_some_iff.1 hc).1
        have hg:ch[i]=c:=(List.getElem?_eq_some_iff.1 hc).2
        have:ch.flatten.length=(ch.map List.length).sum:=List.length_flatten
        rw [this,e]
        have h2:ch.map List.length=(ch.take i).map List.length++(c.length::(ch.drop (i+1)).map List.length):=by
          rw [←hg,←List.map_cons,←List.map_append,List.getElem_cons_drop,List.take_append_drop]
        rw [h2]
        simp [a0d]
      simp only [a0c,hp i c hc]
      have b1:Nat.beq (cellsOf v).length c.length=true:=hb
      have b2:Nat.ble (a0d ch i+(cellsOf v).length) ch.flatten.length=true:=by simpa using hle
      rw [b1,b2]
      simp only
      rw [a0u ch i c _ hc e]
      refine b0u place rest _ out (fun j d hd=>?_) h
      rw [d6h ch i j c _ hc e]
      by_cases hj:i=j
      · subst hj
        have hi:i<ch.length:=(List.getElem?_eq_some_iff.1 hc).1
        rw [List.getElem?_set_self hi] at hd
        simp at hd;subst hd
        rw [hp i c hc,e]
      · rw [List.getElem?_set_ne hj] at hd
        exact hp j d hd
    · simp at h
def a6c (l:List Value):List (Nat×Nat)→List (List Value)
  | []=>[]
  |(_,n)::r=>l.take n::a6c (l.drop n) r
def rN:Nat→List (Nat×Nat)→Nat→Bool
  |k,[],n=>Nat.beq k n
  |k,(o,s)::r,n=>match Nat.beq o k with
   |true=>rN (k+s) r n
   |false=>false
theorem tS:∀ (ps:List (Nat×Nat)) (l:List Value) (k n:Nat),rN k ps n=true→l.length+k=n→(a6c l ps).flatten=l∧(∀ i c,(a6c l ps)[i]? =some c→ps[i]? =some (k+a0d (a6c l ps) i,c.length))
  | [],l,k,n,h,e=>by
    simp [rN] at h
    have:l=[]:=List.eq_nil_of_length_eq_zero (om)
    subst this
    exact ⟨rfl,fun i c hc=>by simp [a6c] at hc⟩
  |(o,s)::r,l,k,n,h,e=>by
   simp only [rN] at h
   split at h
   · rename_i ho
     have ho':o=k:=by simpa using ho
     subst ho'
     have hs:o+s≤n:=by
       clear e
       have:∀ (r:List (Nat×Nat)) (k n:Nat),rN k r n=true→k≤n:=by
         intro r
         induction r with
         |nil=>intro k n h;simp [rN] at h;omega
         |cons p r ih=>
          intro k n h
          obtain ⟨o,s⟩:=p
          simp only [rN] at h
          split at h
          · have:=ih _ _ h;omega
          · simp at h
       exact this r _ _ h
     have hl:(l.take s).length=s:=by simp;omega
     obtain ⟨h1,h2⟩:=tS r (l.drop s) (o+s) n h (by simp;omega)
     refine ⟨by simp [a6c,h1],fun i c hc=>?_⟩
     cases i with
     |zero=>simp [a6c] at hc;subst hc;simp [a0d];omega
     |succ i=>
      have:=h2 i c (by simpa [a6c] using hc)
      simp only [List.getElem?_cons_succ,this,Option.some.injEq,Prod.mk.injEq,and_true]
      simp [a0d,a6c];omega
   · simp at h
def gE (sz:Nat):Nat→Nat→List (Nat×Nat)
  |_,0=>[]
  |k,n+1=>(k*sz,sz)::gE sz (k+1) n
theorem a8r (sz:Nat):∀ (n k:Nat),rN (k*sz) (gE sz k n) ((k+n)*sz)=true
  |0,k=>by simp [gE,rN]
  |n+1,k=>by
   have:=a8r sz n (k+1)
   simp only [gE,rN]
   rw [show Nat.beq (k*sz) (k*sz)=true by simp]
   simp only
   rw [show k*sz+sz=(k+1)*sz by rw [Nat.succ_mul],show k+(n+1)=k+1+n by omega]
   exact this
theorem y8 (sz:Nat):∀ (n k i:Nat) (p:Nat×Nat),(gE sz k n)[i]? =some p→p=((k+i)*sz,sz)
  |0,_,_,_,h=>by simp [gE] at h
  |n+1,k,0,p,h=>by simp [gE] at h;simp [←h]
  |n+1,k,i+1,p,h=>by
   have:=y8 sz n (k+1) i p (by simpa [gE] using h)
   rw [this];congr 2;omega
theorem c7v {zs out:List Value} {len sz:Nat} {vs:List (Nat×Value)} {ch:List (List Value)} (hc:zs.length=len*sz) (ho:a8q (a6c zs (gE sz 0 len)) vs=some ch) (hout:ch.flatten=out) :
    a0c (fun i=>some (i*sz,sz)) zs vs=some out:=by
  have h0:=a8r sz len 0
  simp only [Nat.zero_mul,Nat.zero_add] at h0
  obtain ⟨c1,c2⟩:=tS (gE sz 0 len) zs 0 (len*sz) h0 (om)
  have:=b0u (fun i=>some (i*sz,sz)) vs (a6c zs (gE sz 0 len)) ch (fun i c h=>by
    have k:=c2 i c h
    have k2:=y8 sz len 0 i _ k
    simp only [Nat.zero_add] at k2
    rw [←k2]) ho
  rw [c1,hout] at this
  exact this
section
variable {P:Program} {N:Nat}
variable {t ty:TypeId} {x y:Operand} {env:Env} {L:List HP}
theorem a8s {s:TypeId}:∀ (fs:List Field) (places:List (Nat×Nat)) (w:World),fs.map (fun f=>(f.offset,(P.info? f.type).map (·.size)))=places.map (fun p=>(p.1,some p.2))→
    (fs.mapM (m:=Sem) fun f=>do pure (f.offset,←sizeOf f.type)).run P w= .ok places w
  | [],[],w,_=>rfl
  | [],_::_,_,h=>by simp at h
  |_::_,[],_,h=>by simp at h
  |f::fs,p::ps,w,h=>by
   simp only [List.map_cons,List.cons.injEq] at h
   obtain ⟨h1,h2⟩:=h
   have e:(sizeOf f.type).run P w= .ok p.2 w:=by
     cases hi:P.info? f.type with
     |none=>simp [hi] at h1
     |some i=>simp [hi] at h1;simp [sizeOf,typeInfo,hi,h1.2]
   have e1:f.offset=p.1:=by simpa using congrArg Prod.fst h1
   rw [List.mapM_cons]
   simp only [Sem.run_bind,e,Result.andThen_ok,Sem.run_pure,a8s (s:=s) fs ps w h2,e1]
theorem a6i {parts:List (Nat×Operand)} {vs:List (Nat×Value)} {places:List (Nat×Nat)} {n bs:Nat} {z:Value} {zs out:List Value} [hS:TS P t places] [hZ:TZ P t n z bs] [hco:CO z zs] (hp:evp env parts=some vs)
    {ch0 ch:List (List Value)} (hc:rN 0 places zs.length=true) (_:ChopN zs places ch0) (_:FillN ch0 vs ch) (_:FlatN ch out) (ho:a8q (a6c zs places) vs=some ch) (hout:ch.flatten=out):V P N (.build t parts.toArray) ty env L (.agg out.toArray):=by
  intro a w ha _
  have hz:=hco.pf
  obtain ⟨c1,c2⟩:=tS places zs 0 zs.length hc rfl
  have ho:a0c (fun i=>(places:List (Nat×Nat))[i]?) zs vs=some out:=by
    have:=b0u (fun i=>places[i]?) vs (a6c zs places) ch (fun i c h=>by simpa using c2 i c h) ho
    rw [c1,hout] at this
    exact this
  obtain ⟨fs,h1,h2⟩:=hS.pf
  have e:z.cells=zs.toArray:=by rw [dA,hz]
  have hm:(fs.mapM (m:=Sem) fun f=>do pure (f.offset,←sizeOf f.type)).run P w= .ok places.toArray w:=by
    rw [Array.mapM_eq_mapM_toList]
    simp only [Sem.run_map,a8s (s:=t) fs.toList places w h2,Result.andThen_ok]
  have hf:=a8p _ _ _ _ ho
  have hpl:(fun x:Nat=>places.toArray[x]?)=(fun i:Nat=>places[i]?):=by funext i;simp
  have hpp:=ha.evp hp
  simp only [execOp,Instr.build,Sem.run_bind,f8 hZ,aE h1,Result.andThen_ok,hm,e,hpl]
  have:(Array.map (fun x=>(x.1,a.eval x.2)) parts.toArray).toList=vs:=by simp [hpp]
  rw [this,hf]
  simp
theorem b1y {parts:List (Nat×Operand)} {vs:List (Nat×Value)} {len:Nat} {e:TypeId} {n bs sz bs':Nat} {z z':Value} {zs out:List Value} [hT:TU P t (.array len e)] [hE:TZ P e sz z' bs'] [hZ:TZ P t n z bs] [hco:CO z zs] (hp:evp env parts=some vs)
    {ps:List (Nat×Nat)} {ch0 ch:List (List Value)} (hc:Nat.beq zs.length (len*sz)=true) (_:PlN sz 0 len ps) (_:ChopN zs ps ch0) (_:FillN ch0 vs ch) (_:FlatN ch out) (ho:a8q (a6c zs (gE sz 0 len)) vs=some ch) (hout:ch.flatten=out):V P N (.build t parts.toArray) ty env L (.agg out.toArray):=by
  intro a w ha _
  have hz:=hco.pf
  have hc':zs.length=len*sz:=by simpa using hc
  have ho:a0c (fun i=>some (i*sz,sz)) zs vs=some out:=c7v hc' ho hout
  have e:z.cells=zs.toArray:=by rw [dA,hz]
  have hf:=a8p _ _ _ _ ho
  have hpp:=ha.evp hp
  simp only [execOp,Instr.build,Sem.run_bind,f8 hZ,aE hT.pf,Result.andThen_ok,bE hE,e]
  have:(Array.map (fun x=>(x.1,a.eval x.2)) parts.toArray).toList=vs:=by simp [hpp]
  rw [this,hf]
  simp
def pR (z:List Value):Nat→List Value
  |0=>[]
  |n+1=>z++pR z n
theorem qP (z:List Value):∀ n,(pR z n).length=n*z.length
  |0=>by simp [pR]
  |n+1=>by simp [pR,qP z n,Nat.succ_mul,Nat.add_comm]
theorem a8t (z:List Value) (hz:0<z.length):∀ (n i:Nat),i<n*z.length→(pR z n)[i]? =z[i % z.length]?
  |0,i,h=>by simp at h
  |n+1,i,h=>by
   simp only [pR]
   by_cases hi:i<z.length
   · rw [List.getElem?_append_left hi,Nat.mod_eq_of_lt hi]
   · rw [List.getElem?_append_right (om),a8t z hz n (i-z.length) (by rw [Nat.succ_mul] at h;omega)]
     congr 1
     rw [←Nat.mod_eq_sub_mod (om)]
theorem d6i (z:List Value) (n sz:Nat) (h:z.length=sz):(Array.range (n*sz)).map (fun i=>z.toArray[i % z.toArray.size]!)=(pR z n).toArray:=by
  subst h
  by_cases hz:0<z.length
  · apply Array.ext'
    simp
    apply List.ext_getElem?
    intro i
    by_cases hi:i<n*z.length
    · rw [a8t z hz n i hi]
      have:i % z.length<z.length:=Nat.mod_lt _ hz
      simp [hi,this]
    · rw [List.getElem?_eq_none (by simp;omega),List.getElem?_eq_none (by rw [qP];omega)]
  · have h0:z=[]:=by cases z with|nil=>rfl|cons a b=>simp at hz
    subst h0
    have:pR [] n=[]:=by
      have:=qP [] n
      simpa using this
    simp [this]
theorem b4u {parts:List (Nat×Operand)} {vs:List (Nat×Value)} {len:Nat} {e:TypeId} {sz bs:Nat} {z:Value} {zs out:List Value} {pos:String} {aft:Array Edge} {d:Nat}
    [hT:TU P t (.slice e)] [hE:TZ P e sz z bs] [hco:CO z zs] (hp:evp env parts=some vs) (hzl:zs.length=sz) (hlen:Nat.ble (len*sz) (2^24)=true)
    {l0:List Value} {ps:List (Nat×Nat)} {ch0 ch:List (List Value)} (_:RowN zs len l0) (_:PlN sz 0 len ps) (_:ChopN l0 ps ch0) (_:FillN ch0 vs ch) (_:FlatN ch out)
    (ho:a8q (a6c (pR zs len) (gE sz 0 len)) vs=some ch) (hout:ch.flatten=out) (hd:Nat.blt d N=true) :
    KO P N ⟨some d,.buildSlice t len parts.toArray,ty,pos,aft,none⟩ env L (a1w env d (fun b=> .slice (some ⟨b,0,none⟩) len len) (fun b=>Cells b e out::L)):=by
  have hz:=hco.pf
  have ho:a0c (fun i=>some (i*sz,sz)) (pR zs len) vs=some out:=c7v (by rw [qP,hzl]) ho hout
  refine b2k (o:= .cells out.toArray e (0,0)) (q:=fun b=>Cells b e out) (v:=fun b=> .slice (some ⟨b,0,none⟩) len len) (fun b h e=>⟨e⟩) ?_ hd
  intro a w ha _
  have e:z.cells=zs.toArray:=by rw [dA,hz]
  have hf:=a8p _ _ _ _ ho
  have hpp:=ha.evp hp
  have hl0:len*sz≤2^24:=by simpa using hlen
  have hl:¬(len*sz>2^24):=by omega
  have hps:(Array.map (fun x=>(x.1,a.eval x.2)) parts.toArray).toList=vs:=by simp [hpp]
  have key:∀ zz:Array Value,(zz=if len*sz=0 then #[] else zs.toArray)→(Array.range (len*sz)).map (fun i=>zz[i % zz.size]!)=(pR zs len).toArray:=by
    intro zz hzz
    by_cases h0:len*sz=0
    · have:(pR zs len)=[]:=by
        apply List.eq_nil_of_length_eq_zero
        rw [qP,hzl];exact h0
      rw [this,h0];simp
    · rw [hzz,if_neg h0];exact d6i zs len sz hzl
  by_cases h0:len*sz=0
  · have hl':¬((0:Nat)>2^24):=by omega
    simp only [execOp,Instr.buildSlice,Sem.run_bind,aE hT.pf,Result.andThen_ok,bE hE,hl',if_false,h0,if_true,Sem.run_pure]
    have k:=key #[] (by simp [h0])
    rw [h0] at k
    simp only [k,hps,hf,newRow,Sem.run_bind,run_newObj,Result.andThen_ok,Sem.run_pure]
  · simp only [execOp,Instr.buildSlice,Sem.run_bind,aE hT.pf,Result.andThen_ok,bE hE,hl,if_false,h0,f8 hE,e,Sem.run_pure]
    have k:=key zs.toArray (by simp [h0])
    simp only [k,hps,hf,newRow,Sem.run_bind,run_newObj,Result.andThen_ok,Sem.run_pure]
theorem c3x {fn:Fn} {f c:List Operand} {vf vc:List Value} (hf:evs env f=some vf) (hc:evs env c=some vc):V P N (.makeFunc fn f.toArray c.toArray) ty env L (.func fn vf.toArray vc.toArray):=by
  intro a w ha _
  simp [execOp,Instr.makeFunc,ha.evs hf,ha.evs hc]
theorem gU {ρ:Operand→Value} {b:Builtin} {args:List Operand} {ats:Array TypeId} {ty:TypeId} {vs:List Value} (ha:args.map ρ=vs) {w:World} {r:Result Next}
    (h:∀ cs,(builtin b ats ty cs vs.toArray).run P w=r):(execOp ρ ⟨none,.call ⟨.builtin b,args.toArray,ats⟩,ty, "", #[],none⟩).run P w=r:=by
  simp only [execOp,resolve,Sem.run_bind,Sem.run_pure,Result.andThen_ok,invoke]
  have:args.toArray.map ρ=vs.toArray:=by simp [ha]
  rw [this]
  exact h _
theorem b8z {e:TypeId} {ats:List TypeId} {p:Option Addr} {n c:Nat} [hT:TU P t (.slice e)] (hx:ev env x=some (.slice p n c)):V P N (.call ⟨.builtin .len,[x].toArray,(t::ats).toArray⟩) ty env L (.int .i64 (n:Int)):=by
  intro a w ha _
  refine gU (vs:=[.slice p n c]) (by simp [ha.ev hx]) fun cs=>?_
  simp [builtin,Builtin.len_,aE hT.pf,goInt]
theorem c0y {ρ:Operand→Value} {f:Operand} {args:List Operand} {ats:Array TypeId} {ty:TypeId} {k:FuncId} {first cap:Array Value} {vs:List Value} (hf:ρ f= .func (.func k) first cap) (ha:first.toList++args.map ρ++cap.toList=vs)
    (he:a1d P k) (w:World):(execOp ρ ⟨none,.call ⟨.value f,args.toArray,ats⟩,ty, "", #[],none⟩).run P w= .ok (.enter k vs.toArray) w:=by
  simp only [execOp,resolve,Sem.run_bind,Deferred.ofValue,hf,Sem.run_pure,Result.andThen_ok,invoke]
  rw [he]
  congr 2
  apply Array.ext'
  simp [←ha]
abbrev c5n (env:Env) (d:Option Nat) (F:List HP) (post:Value→List HP→Prop):Env→List HP→Prop:=fun e' M=>∃ v L',post v L'∧e'=rM env d v∧M=pO L' F
theorem rA {env:Env} {d:Nat} {F:List HP} {post:Value→List HP→Prop} {R:Env→List HP→Prop} (h:∀ v L',post v L'→R ((d,v)::env) (pO L' F)):∀ e' M,c5n env (some d) F post e' M→R e' M:=by
  rintro _ _ ⟨v,L',hp,rfl,rfl⟩;exact h v L' hp
theorem dG {env:Env} {d:Nat} {v:Nat→Value} {L':Nat→List HP} {R:Env→List HP→Prop} (h:∀ b,R ((d,v b)::env) (L' b)):∀ e' M,a1w env d v L' e' M→R e' M:=by
  rintro _ _ ⟨b,rfl,rfl⟩;exact h b
theorem aM {env:Env} {L':List HP} {R:Env→List HP→Prop} (h:R env L'):∀ e' M,a4u env L' e' M→R e' M:=by
  rintro _ _ ⟨rfl,rfl⟩;exact h
end
section
variable {P:Program} {N:Nat}
theorem a5w {c:Operand} {x y:Code} {env:Env} {L:List HP} {Q:Exit→Act→World→Prop} {p:Prop} {inst:Decidable p} (hc:ev env c=some (.bool (@decide p inst)))
    (hp:p) (h:WC P N x env L Q):WC P N (.cond c x y) env L Q:=v7 hc (fun _=>h) (fun k=>absurd hp k)
theorem b7h {c:Operand} {x y:Code} {env:Env} {L:List HP} {Q:Exit→Act→World→Prop} {p:Prop} {inst:Decidable p} (hc:ev env c=some (.bool (@decide p inst)))
    (hp:¬p) (h:WC P N y env L Q):WC P N (.cond c x y) env L Q:=v7 hc (fun k=>absurd k hp) (fun _=>h)
theorem b7i {c:Operand} {x y:Code} {env:Env} {L:List HP} {Q:Exit→Act→World→Prop} {t:Bool} (hc:ev env c=some (.bool t))
    (hp:t=true) (h:WC P N x env L Q):WC P N (.cond c x y) env L Q:=by subst hp;exact vC hc (fun _=>h) (fun k=>nomatch k)
theorem b7j {c:Operand} {x y:Code} {env:Env} {L:List HP} {Q:Exit→Act→World→Prop} {t:Bool} (hc:ev env c=some (.bool t))
    (hp:t=false) (h:WC P N y env L Q):WC P N (.cond c x y) env L Q:=by subst hp;exact vC hc (fun k=>nomatch k) (fun _=>h)
theorem a8u {p G:Prop} {inst:Decidable p} (k:p→G):@decide p inst=true→G:=fun h=>k (of_decide_eq_true h)
theorem a8v {p G:Prop} {inst:Decidable p} (k:¬p→G):@decide p inst=false→G:=fun h=>k (of_decide_eq_false h)
variable {op:Op} {ty:TypeId} {pos:String} {aft:Array Edge} {d:Option Tmp} {all:Array Oper} {rest:List Oper} {env:Env} {L:List HP} {Q:Exit→Act→World→Prop} {j s:Nat} {want b:Bool}
end
section
variable {P:Program} {N:Nat} {op:Op} {ty:TypeId} {pos:String} {aft:Array Edge} {d:Option Tmp} {all:Array Oper} {rest:List Oper} {env:Env} {L:List HP} {Q:Exit→Act→World→Prop} {j s:Nat} {want b:Bool}
theorem tD {v:Value} (hj:cI all j=some s) (hb:env.get? s=some v) (hv:v= .bool want) (hs:Nat.blt s N=true) (hd:xX N d=true)
    (h1:WO P N all (⟨d,op,ty,pos,aft,none⟩::rest) env L Q):WO P N all (⟨d,op,ty,pos,aft,some (j,want)⟩::rest) env L Q:=by
  subst hv
  refine o6 hj hb hs hd (fun _=>?_) (fun h=>by cases want<;>simp at h)
  intro a w ha hw
  refine h1 a w ⟨ha.size,ha.defers,fun t v e=>?_⟩ hw
  refine ha.get t v ?_
  rw [Env.get_cons]
  split
  · rename_i k;subst k;rw [hb] at e;exact e
  · exact e
theorem pS {v:Value} {d:Nat} {nw:Bool} (hj:cI all j=some s) (hb:env.get? s=some v) (hv:v= .bool nw) (hn:nw= !want) (hs:Nat.blt s N=true) (hd:Nat.blt d N=true)
    (h1:WO P N all rest ((d,undef)::env) L Q):WO P N all (⟨some d,op,ty,pos,aft,some (j,want)⟩::rest) env L Q:=by
  subst hv hn
  refine o6 hj hb hs (by exact hd) (fun h=>by cases want<;>simp at h) (fun _=>?_)
  intro a w ha hw
  refine h1 a w ⟨ha.size,ha.defers,fun t v e=>?_⟩ hw
  refine ha.get t v ?_
  simp only [rM]
  rw [Env.get_cons] at e ⊢
  split
  · rename_i k;subst k;simpa using e
  · rename_i k;rw [if_neg k] at e;rw [Env.get_cons]
    split
    · rename_i k';subst k';rw [hb] at e;exact e
    · exact e
theorem c7w {d:Nat} (hj:cI all j=some s) (hb:env.get? s=some (.bool b)) (hs:Nat.blt s N=true) (hd:Nat.blt d N=true)
    (h1:b=true→WO P N all (⟨some d,op,ty,pos,aft,none⟩::rest) ((s,.bool true)::env) L Q)
    (h2:b=false→WO P N all rest ((d,undef)::(s,.bool false)::env) L Q):WO P N all (⟨some d,op,ty,pos,aft,some (j,true)⟩::rest) env L Q:=
  o6 hj hb hs hd h1 h2
theorem y9 {d:Nat} (hj:cI all j=some s) (hb:env.get? s=some (.bool b)) (hs:Nat.blt s N=true) (hd:Nat.blt d N=true) (hk:b=true)
    (h1:WO P N all (⟨some d,op,ty,pos,aft,none⟩::rest) ((s,.bool true)::env) L Q):WO P N all (⟨some d,op,ty,pos,aft,some (j,true)⟩::rest) env L Q:=
  o6 hj hb hs hd (fun _=>h1) (fun h=>by subst hk;cases h)
theorem zA {d:Nat} (hj:cI all j=some s) (hb:env.get? s=some (.bool b)) (hs:Nat.blt s N=true) (hd:Nat.blt d N=true) (hk:b=false)
    (h1:WO P N all rest ((d,undef)::(s,.bool false)::env) L Q):WO P N all (⟨some d,op,ty,pos,aft,some (j,true)⟩::rest) env L Q:=
  o6 hj hb hs hd (fun h=>by subst hk;cases h) (fun _=>h1)
theorem c7x {d:Nat} (hj:cI all j=some s) (hb:env.get? s=some (.bool b)) (hs:Nat.blt s N=true) (hd:Nat.blt d N=true)
    (h1:b=false→WO P N all (⟨some d,op,ty,pos,aft,none⟩::rest) ((s,.bool false)::env) L Q)
    (h2:b=true→WO P N all rest ((d,undef)::(s,.bool true)::env) L Q):WO P N all (⟨some d,op,ty,pos,aft,some (j,false)⟩::rest) env L Q:=
  o6 hj hb hs hd h1 h2
theorem zB {d:Nat} (hj:cI all j=some s) (hb:env.get? s=some (.bool b)) (hs:Nat.blt s N=true) (hd:Nat.blt d N=true) (hk:b=false)
    (h1:WO P N all (⟨some d,op,ty,pos,aft,none⟩::rest) ((s,.bool false)::env) L Q):WO P N all (⟨some d,op,ty,pos,aft,some (j,false)⟩::rest) env L Q:=
  o6 hj hb hs hd (fun _=>h1) (fun h=>by subst hk;cases h)
theorem zC {d:Nat} (hj:cI all j=some s) (hb:env.get? s=some (.bool b)) (hs:Nat.blt s N=true) (hd:Nat.blt d N=true) (hk:b=true)
    (h1:WO P N all rest ((d,undef)::(s,.bool true)::env) L Q):WO P N all (⟨some d,op,ty,pos,aft,some (j,false)⟩::rest) env L Q:=
  o6 hj hb hs hd (fun h=>by subst hk;cases h) (fun _=>h1)
theorem tE {v:Value} (hj:cI all j=some s) (hb:env.get? s=some v) (hv:v= .bool want) (hs:Nat.blt s N=true) (hd:xX N d=true)
    (h1:WQ P N all (⟨d,op,ty,pos,aft,none⟩::rest) env L Q):WQ P N all (⟨d,op,ty,pos,aft,some (j,want)⟩::rest) env L Q:=by
  subst hv
  refine qT hj hb hs hd (fun _=>?_) (fun h=>by cases want<;>simp at h)
  intro a ha
  refine h1 a ⟨ha.size,ha.defers,fun t v e=>?_⟩
  refine ha.get t v ?_
  rw [Env.get_cons]
  split
  · rename_i k;subst k;rw [hb] at e;exact e
  · exact e
theorem pT {v:Value} {d:Nat} {nw:Bool} (hj:cI all j=some s) (hb:env.get? s=some v) (hv:v= .bool nw) (hn:nw= !want) (hs:Nat.blt s N=true) (hd:Nat.blt d N=true)
    (h1:WQ P N all rest ((d,undef)::env) L Q):WQ P N all (⟨some d,op,ty,pos,aft,some (j,want)⟩::rest) env L Q:=by
  subst hv hn
  refine qT hj hb hs (by exact hd) (fun h=>by cases want<;>simp at h) (fun _=>?_)
  intro a ha
  refine h1 a ⟨ha.size,ha.defers,fun t v e=>?_⟩
  refine ha.get t v ?_
  simp only [rM]
  rw [Env.get_cons] at e ⊢
  split
  · rename_i k;subst k;simpa using e
  · rename_i k;rw [if_neg k] at e;rw [Env.get_cons]
    split
    · rename_i k';subst k';rw [hb] at e;exact e
    · exact e
theorem c7y {d:Nat} (hj:cI all j=some s) (hb:env.get? s=some (.bool b)) (hs:Nat.blt s N=true) (hd:Nat.blt d N=true)
    (h1:b=true→WQ P N all (⟨some d,op,ty,pos,aft,none⟩::rest) ((s,.bool true)::env) L Q)
    (h2:b=false→WQ P N all rest ((d,undef)::(s,.bool false)::env) L Q):WQ P N all (⟨some d,op,ty,pos,aft,some (j,true)⟩::rest) env L Q:=
  qT hj hb hs hd h1 h2
theorem zD {d:Nat} (hj:cI all j=some s) (hb:env.get? s=some (.bool b)) (hs:Nat.blt s N=true) (hd:Nat.blt d N=true) (hk:b=true)
    (h1:WQ P N all (⟨some d,op,ty,pos,aft,none⟩::rest) ((s,.bool true)::env) L Q):WQ P N all (⟨some d,op,ty,pos,aft,some (j,true)⟩::rest) env L Q:=
  qT hj hb hs hd (fun _=>h1) (fun h=>by subst hk;cases h)
theorem zE {d:Nat} (hj:cI all j=some s) (hb:env.get? s=some (.bool b)) (hs:Nat.blt s N=true) (hd:Nat.blt d N=true) (hk:b=false)
    (h1:WQ P N all rest ((d,undef)::(s,.bool false)::env) L Q):WQ P N all (⟨some d,op,ty,pos,aft,some (j,true)⟩::rest) env L Q:=
  qT hj hb hs hd (fun h=>by subst hk;cases h) (fun _=>h1)
theorem zF {d:Nat} (hj:cI all j=some s) (hb:env.get? s=some (.bool b)) (hs:Nat.blt s N=true) (hd:Nat.blt d N=true) (hk:b=false)
    (h1:WQ P N all (⟨some d,op,ty,pos,aft,none⟩::rest) ((s,.bool false)::env) L Q):WQ P N all (⟨some d,op,ty,pos,aft,some (j,false)⟩::rest) env L Q:=
  qT hj hb hs hd (fun _=>h1) (fun h=>by subst hk;cases h)
theorem zG {d:Nat} (hj:cI all j=some s) (hb:env.get? s=some (.bool b)) (hs:Nat.blt s N=true) (hd:Nat.blt d N=true) (hk:b=true)
    (h1:WQ P N all rest ((d,undef)::(s,.bool true)::env) L Q):WQ P N all (⟨some d,op,ty,pos,aft,some (j,false)⟩::rest) env L Q:=
  qT hj hb hs hd (fun h=>by subst hk;cases h) (fun _=>h1)
end
end Go.Sx
namespace Go.Sx
open Go
section
variable {P:Program} {N:Nat} {ty:TypeId} {env:Env} {L:List HP} {v:Value}
variable {all:Array Oper} {rest:List Oper} {Q:Exit→Act→World→Prop} {pos:String} {aft:Array Edge}
theorem aI {id:Nat} {ops:Array Oper} (h:WC P N (.region id ops true) env L Q):WC P N (.region id ops true) env L Q:=h
end
end Go.Sx
namespace Go.Sx
open Go
section
variable {P:Program} {N:Nat}
def WR (P:Program) (N n:Nat) (c:Code) (env:Env) (L:List HP) (Q:Exit→Act→World→Prop):Prop:=
  ∀ a w,EnvOk N env a→fP L w→Code.rounds P c Q n a w
theorem b3v (n:Nat) {c:Code} {env:Env} {L:List HP} {Q:Exit→Act→World→Prop} (h:WR P N n c env L Q):WC P N (.loop c) env L Q:=
  fun a w ha hw=>wp_loop_rounds n (h a w ha hw)
theorem zH {n:Nat} {c:Code} {env:Env} {L:List HP} {Q:Exit→Act→World→Prop} (h:WC P N c env L (Exit.then (Code.rounds P c Q n) Q)):WR P N (n+1) c env L Q:=
  fun a w ha hw=>h a w ha hw
theorem pU {n:Nat} {c:Code} {env:Env} {L:List HP} {Q Q':Exit→Act→World→Prop} (h:WR P N n c env L Q):WE N .normal env L (Exit.then (Code.rounds P c Q n) Q'):=h
end
end Go.Sx
namespace Go.Sx
open Go
abbrev aC {α:Type} (enc:α→List Value) (xs:List α):List Value:=xs.flatMap enc
section
variable {α:Type} {enc:α→List Value} {n:Nat}
theorem gV (h:∀ x,(enc x).length=n):∀ xs:List α,(aC enc xs).length=xs.length*n
  | []=>by simp
  |x::r=>by
   have:=gV h r
   simp [h x,Nat.succ_mul,Nat.add_comm] at this ⊢
   omega
theorem fV (h:∀ x,(enc x).length=n):∀ (xs:List α) (i:Nat),(aC enc xs).drop (i*n)=aC enc (xs.drop i)
  |xs,0=>by simp
  | [],i+1=>by simp
  |x::r,i+1=>by
   have:=fV h r i
   rw [List.drop_succ_cons,←this]
   show (enc x++aC enc r).drop _=_
   rw [List.drop_append,List.drop_eq_nil_of_le (by rw [h x,Nat.succ_mul];omega),List.nil_append,h x]
   congr 1
   rw [Nat.succ_mul];omega
theorem iU (h:∀ x,(enc x).length=n):∀ (xs:List α) (i:Nat),(aC enc xs).take (i*n)=aC enc (xs.take i)
  |xs,0=>by simp
  | [],i+1=>by simp
  |x::r,i+1=>by
   have:=iU h r i
   rw [List.take_succ_cons]
   show (enc x++aC enc r).take _=enc x++aC enc (r.take i)
   rw [←this,List.take_append,List.take_of_length_le (by rw [h x,Nat.succ_mul];omega),h x]
   congr 2
   rw [Nat.succ_mul];omega
theorem c0z (h:∀ x,(enc x).length=n) (xs:List α) (i:Nat) (hi:i<xs.length):sub (aC enc xs) (i*n) n=some (enc xs[i]):=by
  unfold sub
  have hb:Nat.ble (i*n+n) (aC enc xs).length=true:=by
    rw [gV h]
    have:(i+1)*n≤xs.length*n:=Nat.mul_le_mul_right _ (om)
    rw [Nat.succ_mul] at this
    simpa using this
  rw [hb]
  simp only [Option.some.injEq]
  rw [fV h,List.drop_eq_getElem_cons hi]
  show (enc xs[i]++aC enc _).take n=_
  rw [List.take_append,List.take_of_length_le (by rw [h];exact Nat.le_refl _),h]
  simp
end
end Go.Sx
namespace Go.Sx
open Go Go.RowKit
theorem b4v (W:World):fP [Old W] W:=by
  refine ⟨fun _=>True,fun _=>False,fun _ _ h=>h,⟨fun b _=>?_,rfl,rfl,rfl⟩,trivial⟩
  simp [res,ph]
theorem a3o {P:Program} {f:FuncId} {vs:List Value} {W:World} (C:FnS P f vs [Old W] (fun v L'=>v= .bool true∧L'=[Old W])) :
    Calls P f vs.toArray W (fun e W'=>e= .returned (.bool true)∧Below W.heap.size W W'):=by
  refine (C.runs [] W (b4v W)).mono ?_
  rintro e W' ⟨v,L',he,⟨hv,hL⟩,hs⟩
  subst hv hL
  obtain ⟨h1,h2,h3,h4⟩:=c7s hs
  refine ⟨he,⟨h2,h4,h3,?_,h1⟩⟩
  by_cases h0:W.heap.size=0
  · omega
  · have:=h1 (W.heap.size-1) (om)
    have h5:W.heap[W.heap.size-1]? =some W.heap[W.heap.size-1]:=by simp
    rw [h5] at this
    have:=(Array.getElem?_eq_some_iff.1 this).1
    omega
end Go.Sx
namespace Go.Sx
open Go
section
variable {P:Program} {ops:Array Oper} {Q:Exit→Act→World→Prop} {md:Region.Mode} {S:World→Prop} {T:Nat→Bool}
def c3y (S:World→Prop) (T:Nat→Bool) (listed:Array Bool) (w:World):Prop:=S w∨∃ t,T t=true∧listed.getD t false=true
def zI (P:Program) (md:Region.Mode) (ops:Array Oper) (Q:Exit→Act→World→Prop) (S:World→Prop) (T:Nat→Bool):Nat→Array Bool→Act→World→Prop
  |0,listed,a,w=>Region.ready md ops listed=[]∧Q .normal a w
  |fuel+1,listed,a,w=>
   (Region.ready md ops listed=[]→Q .normal a w)∧
   ∀ i∈Region.ready md ops listed,wpOp P ops Q i (fun a' w'=>c3y S T (listed.setIfInBounds i true) w'∧zI P md ops Q S T fuel (listed.setIfInBounds i true) a' w') a w
theorem a8w:∀ (fuel:Nat) (listed:Array Bool) (a:Act) (w:World),zI P md ops Q S T fuel listed a w→wpAny P md ops Q fuel listed a w
  |0,_,_,_,h=>h
  |fuel+1,_,_,_,h=>⟨h.1,fun i hi=>wpOp_mono (fun a' w' h'=>a8w fuel _ a' w' h'.2) (h.2 i hi)⟩
theorem a1x {listed:Array Bool} {w:World} {i:Nat} (h:c3y S T listed w):c3y S T (listed.setIfInBounds i true) w:=
  h.imp id fun ⟨t,ht,hl⟩=>⟨t,ht,getD_set_true hl⟩
def d2a (md:Region.Mode) (ops:Array Oper) (listed:Array Bool):Prop:=
  ∀ (j:Nat) (oj:Oper),ops[j]? =some oj→listed.getD j false=true→∀ e∈oj.after,Region.binds md e=true→listed.getD e.on false=true
theorem xH {listed:Array Bool} {i:Nat} (h:d2a md ops listed) (hi:i∈Region.ready md ops listed):d2a md ops (listed.setIfInBounds i true):=by
  obtain ⟨h1,oi,hoi,hall⟩:=mem_ready.1 hi
  intro j oj hoj hl e he hb
  by_cases hji:i=j
  · subst hji
    rw [hoi] at hoj
    cases hoj
    exact getD_set_true (hall e he hb)
  · rw [getD_set_ne false hji] at hl
    exact getD_set_true (h j oj hoj hl e he hb)
theorem d6j {listed:Array Bool} {i:Nat} (hr:i∈Region.ready md ops listed):listed.getD i false=false:=by
  have h1:=(mem_ready.1 hr).1
  rcases Nat.lt_or_ge i listed.size with h'|h'
  · simp [h'] at h1 ⊢;exact h1
  · simp [Array.getElem?_eq_none h'] at h1
def e0i (md:Region.Mode) (ops:Array Oper) (T:Nat→Bool) (i:Nat):Prop:=
  ∀ listed,d2a md ops listed→listed.getD i false=false→(∀ t,T t=true→listed.getD t false=false)∧∀ j∈Region.ready md ops listed,T j=false
theorem a0v {i:Nat} {oi:Oper} {v:Value} {Y:World→Prop} (hi:ops[i]? =some oi) (hsel:∀ (j:Nat) (o:Oper) cs b,ops[j]? =some o→o.op≠ .select cs b)
    (hQ:∀ c a w,Q (.panic c) (a.put oi.dst v) w→Q (.panic c) a w) (hTi:T i=false) :
    ∀ (fuel:Nat) (listed:Array Bool) (a:Act) (w:World),
      (∀ j oj,ops[j]? =some oj→j≠i→listed.getD j true=false→(∀ e∈oj.after,Region.binds md e=true→e.on≠i)→oi.apart ops oj=true)→
      d2a md ops listed→i∈Region.ready md ops listed→YieldsIf P ops Y oi v a→c3y S T listed w→
      ((∀ w,Y w)∨((∀ w,S w→Y w)∧e0i md ops T i))→
      zI P md ops Q S T fuel (listed.setIfInBounds i true) (a.put oi.dst v) w→zI P md ops Q S T (fuel+1) listed a w:=by
  have hYw:∀ {listed:Array Bool} {w:World},d2a md ops listed→i∈Region.ready md ops listed→c3y S T listed w→((∀ w,Y w)∨((∀ w,S w→Y w)∧e0i md ops T i))→Y w:=by
    intro listed w hd hr hG hy
    rcases hy with h|⟨h,h2⟩
    · exact h w
    · rcases hG with hS|⟨t,ht,hl⟩
      · exact h w hS
      · have:=(h2 listed hd (d6j hr)).1 t ht
        rw [this] at hl;cases hl
  intro fuel
  induction fuel with
  |zero=>
   intro listed a w _ hd hr hy hG hinv H
   refine ⟨fun h=>(by rw [h] at hr;cases hr),fun j hj=>?_⟩
   by_cases hji:j=i
   · subst hji;exact hy.wpOp hi (hYw hd hr hG hinv) ⟨a1x hG,H⟩
   · have:=ready_mono hj hji
     rw [H.1] at this
     cases this
  |succ fuel ih=>
   intro listed a w hfree hd hr hy hG hinv H
   refine ⟨fun h=>(by rw [h] at hr;cases hr),fun j hj=>?_⟩
   by_cases hji:j=i
   · subst hji;exact hy.wpOp hi (hYw hd hr hG hinv) ⟨a1x hG,H⟩
   · have h1:=H.2 j (ready_mono hj hji)
     obtain ⟨hjun,oj,hoj,hall⟩:=mem_ready.1 hj
     have hnot:∀ e∈oj.after,Region.binds md e=true→e.on≠i:=fun e he hb heq=>by
       have h1:=hall e he hb
       have h0:=(mem_ready.1 hr).1
       rw [heq] at h1
       rcases Nat.lt_or_ge i listed.size with h'|h'
       · simp [h'] at h0 h1;rw [h0] at h1;cases h1
       · simp [Array.getElem?_eq_none h'] at h1
     have h2:=wpOp_putIf hoj (hfree j oj hoj hji hjun hnot) (fun cs b=>hsel i oi cs b hi) (fun cs b=>hsel j oj cs b hoj) hQ hy h1
     have hfree':∀ k ok,ops[k]? =some ok→k≠i→(listed.setIfInBounds j true).getD k true=false→
      (∀ e∈ok.after,Region.binds md e=true→e.on≠i)→oi.apart ops ok=true:=fun k ok hk hki hun hno=>by
       refine hfree k ok hk hki ?_ hno
       by_cases hjk:j=k
       · subst hjk;exact hjun
       · rw [getD_set_ne true hjk] at hun;exact hun
     have hG':∀ w',c3y S T ((listed.setIfInBounds i true).setIfInBounds j true) w'→c3y S T (listed.setIfInBounds j true) w':=by
       intro w' h
       refine h.imp id fun ⟨t,ht,hl⟩=>⟨t,ht,?_⟩
       have hti:i≠t:=fun h=>by subst h;rw [hTi] at ht;cases ht
       rw [Array.setIfInBounds_comm _ _ (Ne.symm hji),getD_set_ne false hti] at hl
       exact hl
     refine wpOp_mono (fun a' w' h3=>⟨hG' _ h3.2.1,ih (listed.setIfInBounds j true) a' w' hfree' (xH hd hj) (ready_mono hr (Ne.symm hji)) h3.1 (hG' _ h3.2.1) hinv ?_⟩) h2
     rw [Array.setIfInBounds_comm _ _ hji]
     exact h3.2.2
inductive Plan where
  |done
  |bad
  |p (i:Nat) (next:Plan)
  |r (i:Nat) (next:Plan)
  |n (T:List Nat) (next:Plan)
  |e (held:Bool) (alts:List (Nat×Plan))
def f6b (o:Oper):Bool:=match o.op with
    | .move _| .assign _| .pick .. | .nilCheck _| .binOp .. | .unOp .. | .convert .. | .fieldAddr .. | .field .. | .indexAddr .. | .index .. | .extract .. | .slice .. | .build .. | .makeFunc .. | .makeInterface .. =>true
    | .call { callee:= .builtin .len,..}=>true
    |_=>false
def f6c (o:Oper):Bool:=match o.op with
    | .load .. | .lookup .. =>true
    |_=>false
inductive St where
  |true
  |false
  |only (l:List Nat)
def St.calls:St→Bool
  | .true=>Bool.true
  |_=>Bool.false
def St.renews:St→Bool
  | .only _=>Bool.true
  |_=>Bool.false
def f4w (strict:Bool) (o:Oper):Bool:=match o.op with
  | .store .. =>true
  | .mapUpdate .. =>true
  | .call { callee:= .builtin .len,..}=>false
  | .call _=>strict
  |_=>false
def f5k (st:St) (i:Nat) (o:Oper):Bool:=match st with
  | .only l=>l.contains i
  |st=>f4w st.calls o
def b7k (md:Region.Mode) (ops:Array Oper):Nat→Nat→Nat→Bool
  |0,_,_=>false
  |f+1,j,i=>match ops[j]? with
   |some o=>o.after.any fun e=>Region.binds md e&& (Nat.beq e.on i|| b7k md ops f e.on i)
   |none=>false
theorem tT {md:Region.Mode} {ops:Array Oper} {i:Nat} {listed:Array Bool} (hd:d2a md ops listed):∀ (f j:Nat),b7k md ops f j i=true→(∀ oj,ops[j]? =some oj→∀ e∈oj.after,Region.binds md e=true→listed.getD e.on false=true)→listed.getD i false=true
  |0,_,h,_=>by simp [b7k] at h
  |f+1,j,h,hl=>by
   simp only [b7k] at h
   split at h
   · rename_i o ho
     rw [Array.any_eq_true'] at h
     obtain ⟨e,he,h2⟩:=h
     simp only [Bool.and_eq_true,Bool.or_eq_true] at h2
     have h3:=hl o ho e he h2.1
     rcases h2.2 with h4|h4
     · have:e.on=i:=by simpa using h4
       rw [←this];exact h3
     · exact tT hd f e.on h4 fun oe hoe e' he' hb'=>hd e.on oe hoe h3 e' he' hb'
   · cases h
def e5f (st:St) (md:Region.Mode) (ops:Array Oper) (i:Nat):Bool:=
  (List.range ops.size).all fun j=>match ops[j]? with|some o=> !f5k st j o|| b7k md ops ops.size j i|none=>true
def f5x (st:St) (md:Region.Mode) (ops:Array Oper) (listed:Array Bool) (i:Nat):Bool:=
  (Region.ready md ops listed).contains i&& Region.free md ops listed i&& match ops[i]? with|some o=>f6b o&& !f5k st i o|none=>false
def f5y (st:St) (md:Region.Mode) (ops:Array Oper) (listed:Array Bool) (i:Nat):Bool:=
  (Region.ready md ops listed).contains i&& Region.free md ops listed i&& (match ops[i]? with|some o=>f6c o&& !f5k st i o|none=>false)&& e5f st md ops i
def c4v (st:St) (ops:Array Oper) (i:Nat):Bool:=match ops[i]? with|some o=>f5k st i o|none=>false
def f4l (st:St) (ops:Array Oper) (listed:Array Bool):Bool:=(List.range ops.size).all fun t=> !(c4v st ops t)|| !(listed.getD t false)
def f5l (st:St) (ops:Array Oper) (listed:Array Bool):List Nat:=(List.range ops.size).filter fun j=>c4v st ops j&& !listed.getD j false
def b6f (md:Region.Mode) (ops:Array Oper):Nat→St→Array Bool→Plan
  |0,_,listed=>match Region.ready md ops listed with
   | []=> .done
   |_=> .bad
  |fuel+1,st,listed=>
   match (Region.ready md ops listed).find? (f5x st md ops listed) with
   |some i=> .p i (b6f md ops fuel st (listed.setIfInBounds i true))
   |none=>match (Region.ready md ops listed).find? (f5y st md ops listed) with
   |some i=> .r i (b6f md ops fuel st (listed.setIfInBounds i true))
   |none=>match Region.ready md ops listed with
    | []=> .done
    |rs=> .e (f4l st ops listed) (rs.map fun i=>(i,if (st.renews&& c4v st ops i)=true then .n (f5l st ops (listed.setIfInBounds i true)) (b6f md ops fuel (.only (f5l st ops (listed.setIfInBounds i true))) (listed.setIfInBounds i true)) else b6f md ops fuel st (listed.setIfInBounds i true)))
mutual
def gM (P:Program) (ops:Array Oper) (Q:Exit→Act→World→Prop):Plan→St→(World→Prop)→Act→World→Prop
  | .done,_,_,a,w=>Q .normal a w
  | .bad,_,_,_,_=>False
  | .p i next,st,S,a,w=>match ops[i]? with
    |none=>False
    |some o=>∃ v,YieldsIf P ops (fun _=>True) o v a∧gM P ops Q next st S (a.put o.dst v) w
  | .r i next,st,S,a,w=>match ops[i]? with
    |none=>False
    |some o=>∃ v,YieldsIf P ops S o v a∧gM P ops Q next st S (a.put o.dst v) w
  | .n T next,_,_,a,w=>∃ S':World→Prop,S' w∧gM P ops Q next (.only T) S' a w
  | .e held alts,st,S,a,w=>zJ P ops Q held alts st S a w
def zJ (P:Program) (ops:Array Oper) (Q:Exit→Act→World→Prop) (held:Bool):List (Nat×Plan)→St→(World→Prop)→Act→World→Prop
  | [],_,_,_,_=>True
  |(i,next)::r,st,S,a,w=>wpOp P ops Q i (fun a' w'=>(held=true→c4v st ops i=false→S w')∧gM P ops Q next st S a' w') a w∧zJ P ops Q held r st S a w
end
theorem a4w {S':World→Prop} {T':Nat→Bool}:∀ (fuel:Nat) (listed:Array Bool) (a:Act) (w:World),(∃ t,T t=true∧listed.getD t false=true)→zI P md ops Q S' T' fuel listed a w→zI P md ops Q S T fuel listed a w
  |0,_,_,_,_,h=>h
  |fuel+1,listed,a,w,⟨t,h1,h2⟩,h=>⟨h.1,fun i hi=>wpOp_mono (fun a' w' h'=>⟨.inr ⟨t,h1,getD_set_true h2⟩,a4w fuel _ a' w' ⟨t,h1,getD_set_true h2⟩ h'.2⟩) (h.2 i hi)⟩
theorem a8x {st:St} {held:Bool} {Q:Exit→Act→World→Prop}:∀ {alts:List (Nat×Plan)} {a:Act} {w:World},zJ P ops Q held alts st S a w→∀ x∈alts,wpOp P ops Q x.1 (fun a' w'=>(held=true→c4v st ops x.1=false→S w')∧gM P ops Q x.2 st S a' w') a w
  | [],_,_,_,x,hx=>by cases hx
  |(i,next)::r,a,w,h,x,hx=>by
   simp only [zJ] at h
   rcases List.mem_cons.1 hx with rfl|hx
   · exact h.1
   · exact a8x h.2 x hx
theorem c3z (hns:Region.noSelect ops=true) (hQ:∀ c a w,¬Q (.panic c) a w):∀ (fuel:Nat) (st:St) (S:World→Prop) (listed:Array Bool) (a:Act) (w:World),d2a md ops listed→
    c3y S (c4v st ops) listed w→gM P ops Q (b6f md ops fuel st listed) st S a w→zI P md ops Q S (c4v st ops) fuel listed a w:=by
  intro fuel
  induction fuel with
  |zero=>
   intro st S listed a w _ _ h
   simp only [b6f] at h
   split at h
   · rename_i hr;exact ⟨hr,by simpa [gM] using h⟩
   · simp [gM] at h
  |succ fuel ih=>
   intro st S listed a w hd hs h
   simp only [b6f] at h
   split at h
   · rename_i i hf
     have hv:=List.find?_some hf
     simp only [f5x,Bool.and_eq_true] at hv
     obtain ⟨⟨hr,hfree⟩,hk⟩:=hv
     have hr':i∈Region.ready md ops listed:=by simpa using hr
     obtain ⟨h1,oi,hoi,_⟩:=mem_ready.1 hr'
     simp only [hoi,Bool.and_eq_true,Bool.not_eq_true'] at hk
     have hTi:c4v st ops i=false:=by simp [c4v,hoi,hk.2]
     simp only [gM,hoi] at h
     obtain ⟨v,hv1,hv2⟩:=h
     refine a0v (Y:=fun _=>True) hoi (Region.noSelect_spec hns) (fun c a w hq=>absurd hq (hQ _ _ _)) hTi fuel listed a w (Region.free_spec hoi hfree) hd hr' hv1 hs (.inl fun _=>trivial) ?_
     exact ih _ _ _ _ _ (xH hd hr') (a1x hs) hv2
   · split at h
     · rename_i i hf
       have hv:=List.find?_some hf
       simp only [f5y,Bool.and_eq_true] at hv
       obtain ⟨⟨⟨hr,hfree⟩,hk⟩,hall⟩:=hv
       have hr':i∈Region.ready md ops listed:=by simpa using hr
       obtain ⟨h1,oi,hoi,_⟩:=mem_ready.1 hr'
       simp only [hoi,Bool.and_eq_true,Bool.not_eq_true'] at hk
       have hTi:c4v st ops i=false:=by simp [c4v,hoi,hk.2]
       have hT:∀ t,c4v st ops t=true→b7k md ops ops.size t i=true:=by
         intro t ht
         cases hot:ops[t]? with
         |none=>simp [c4v,hot] at ht
         |some ot=>
          have hj:t<ops.size:=(Array.getElem?_eq_some_iff.1 hot).1
          have:=List.all_eq_true.1 hall t (by simpa using hj)
          simp only [hot] at this
          simp only [c4v,hot] at ht
          simpa [ht] using this
       have hlast:e0i md ops (c4v st ops) i:=by
         intro l hdl hun
         refine ⟨fun t ht=>?_,fun j hj=>?_⟩
         · cases hl:l.getD t false with
           |false=>rfl
           |true=>
            exfalso
            have:=tT hdl _ _ (hT t ht) (fun oj hoj e he hb=>hdl t oj hoj hl e he hb)
            rw [hun] at this;cases this
         · cases ht:c4v st ops j with
           |false=>rfl
           |true=>
            exfalso
            obtain ⟨_,oj,hoj,hall⟩:=mem_ready.1 hj
            have:=tT hdl _ _ (hT j ht) (fun oj' hoj' e he hb=>by rw [hoj] at hoj';cases hoj';exact hall e he hb)
            rw [hun] at this;cases this
       simp only [gM,hoi] at h
       obtain ⟨v,hv1,hv2⟩:=h
       refine a0v (Y:=S) hoi (Region.noSelect_spec hns) (fun c a w hq=>absurd hq (hQ _ _ _)) hTi fuel listed a w (Region.free_spec hoi hfree) hd hr' hv1 hs (.inr ⟨fun _ h=>h,hlast⟩) ?_
       exact ih _ _ _ _ _ (xH hd hr') (a1x hs) hv2
     · have key:∀ rs,Region.ready md ops listed=rs→rs≠[]→zJ P ops Q (f4l st ops listed) (rs.map fun i=>(i,if (st.renews&& c4v st ops i)=true then .n (f5l st ops (listed.setIfInBounds i true)) (b6f md ops fuel (.only (f5l st ops (listed.setIfInBounds i true))) (listed.setIfInBounds i true)) else b6f md ops fuel st (listed.setIfInBounds i true))) st S a w→zI P md ops Q S (c4v st ops) (fuel+1) listed a w:=by
         intro rs b9v hne h
         refine ⟨fun h0=>absurd (b9v▸h0) hne,fun i hi=>?_⟩
         rw [b9v] at hi
         have h1:=a8x h _ (List.mem_map.2 ⟨i,hi,rfl⟩)
         have hlt:i<listed.size:=by
           have:=(mem_ready.1 (b9v▸hi:i∈Region.ready md ops listed)).1
           rcases Nat.lt_or_ge i listed.size with h'|h'
           · exact h'
           · simp [Array.getElem?_eq_none h'] at this
         have hH:∀ w',(f4l st ops listed=true→c4v st ops i=false→S w')→c3y S (c4v st ops) (listed.setIfInBounds i true) w':=by
           intro w' hh
           cases ht:c4v st ops i with
           |true=>exact .inr ⟨i,ht,by simp [hlt]⟩
           |false=>
            cases hn:f4l st ops listed with
            |true=>exact .inl (hh hn ht)
            |false=>
             right
             have h2:∃ t,t<ops.size∧c4v st ops t=true∧listed.getD t false=true:=by
               have h3:¬f4l st ops listed=true:=by simp [hn]
               unfold f4l at h3
               rw [List.all_eq_true] at h3
               apply Classical.byContradiction
               intro hc
               apply h3
               intro t htr
               cases q1:c4v st ops t with
               |false=>rfl
               |true=>
                cases q2:listed.getD t false with
                |false=>rfl
                |true=>exact absurd ⟨t,by simpa using htr,q1,q2⟩ hc
             obtain ⟨t,_,h4,h5⟩:=h2
             exact ⟨t,h4,getD_set_true h5⟩
         refine wpOp_mono (fun a' w' hh=>⟨hH _ hh.1,?_⟩) h1
         have h2:=hh.2
         dsimp only at h2
         split at h2
         · rename_i hrn
           simp only [Bool.and_eq_true] at hrn
           simp only [gM] at h2
           obtain ⟨S',hS',h3⟩:=h2
           exact a4w _ _ _ _ ⟨i,hrn.2,by simp [hlt]⟩ (ih _ _ _ _ _ (xH hd (b9v▸hi)) (.inl hS') h3)
         · exact ih _ _ _ _ _ (xH hd (b9v▸hi)) (hH _ hh.1) h2
       split at h
       · rename_i hr
         refine ⟨fun _=>by simpa [gM] using h,fun i hi=>by rw [hr] at hi;cases hi⟩
       · rename_i hne
         exact key _ rfl (fun e=>hne e) (by simpa only [gM] using h)
end
section
variable {P:Program} {N:Nat} {env:Env} {L:List HP} {Q:Exit→Act→World→Prop}
def WT (st:St) (P:Program) (N:Nat) (ops:Array Oper) (LS:List HP) (p:Plan) (env:Env) (L:List HP) (Q:Exit→Act→World→Prop):Prop:=
  ∀ a w,EnvOk N env a→fP L w→gM P ops Q p st (fP LS) a w
def f4x (Q:Exit→Act→World→Prop):Exit→Act→World→Prop
  | .panic _,_,_=>False
  |e,a,w=>Q e a w
theorem f0g {id:Nat} {ops:Array Oper} {b:Bool} {a:Act} {w:World} (h:(Code.region id ops b).wp P (f4x Q) a w):(Code.region id ops b).wp P Q a w:=
  wp_mono h fun e _ _ hq=>by cases e<;>first|exact hq|exact hq.elim
theorem pV (st:St) {id:Nat} {ops:List Oper} (LS:List HP) {pl:Plan} (hm:P.follows .mixedOrders=true) (hp:b6f .any ops.toArray ops.length st (Array.replicate ops.length false)=pl)
    (hns:Region.noSelect ops.toArray=true) (he:Ent L LS) (h:WT st P N ops.toArray LS pl env L (f4x Q)):WC P N (.region id ops.toArray true) env L Q:=by
  intro a w ha hw
  refine f0g (wp_region_any hm (a8w (S:=fP LS) (T:=c4v st ops.toArray) _ _ _ _ ?_))
  subst hp
  have:=c3z (P:=P) (Q:=f4x Q) (md:= .any) hns (fun c a w h=>h) ops.length st (fP LS) (Array.replicate ops.length false) a { w with drawn:=w.drawn+1}
    (fun j oj _ hl=>by
      exfalso
      rcases Nat.lt_or_ge j ops.length with h'|h'
      · simp [h'] at hl
      · have:(Array.replicate ops.length false)[j]? =none:=Array.getElem?_eq_none (by simpa using h')
        simp [Array.getD_eq_getD_getElem?,this] at hl) (.inl (he.sat (xW hw))) (h a _ ha (xW hw))
  simpa using this
theorem zK {st:St} {ops:Array Oper} {LS:List HP} (h:WE N .normal env L Q):WT st P N ops LS .done env L (f4x Q):=fun a w ha hw=>by
  simp only [gM];exact h a w ha hw
theorem d9j {st:St} {ops:Array Oper} {LS:List HP} {T:List Nat} {next:Plan} (h:WT (.only T) P N ops L next env L Q):WT st P N ops LS (.n T next) env L Q:=fun a w ha hw=>by
  simp only [gM];exact ⟨fP L,hw,h a w ha hw⟩
inductive GIn (ops:Array Oper) (env:Env):Option (Nat×Bool)→Prop
  |none:GIn ops env none
  |some {j s:Nat} {want:Bool} {v:Value} (hj:cI ops j=some s) (hb:env.get? s=some v) (hv:v= .bool want):GIn ops env (some (j,want))
inductive GOut (ops:Array Oper) (env:Env):Option (Nat×Bool)→Prop
  |some {j s:Nat} {want nw:Bool} {v:Value} (hj:cI ops j=some s) (hb:env.get? s=some v) (hv:v= .bool nw) (hn:nw= !want):GOut ops env (some (j,want))
  |undef {j s:Nat} {want:Bool} {v:Value} (hj:cI ops j=some s) (hb:env.get? s=some v) (hv:v=undef):GOut ops env (some (j,want))
theorem GIn.wanted {ops:Array Oper} {env:Env} {g:Option (Nat×Bool)} (h:GIn ops env g) {a:Act} (ha:EnvOk N env a) {d:Option Tmp} {op:Op} {ty:TypeId} {pos:String} {aft:Array Edge} :
    Region.wanted ⟨d,op,ty,pos,aft,g⟩ (yielded ops a.tmps)=true:=by
  cases h with
  |none=>simp [Region.wanted]
  |some hj hb hv=>subst hv;rw [uJ ha hj hb];simp
theorem GOut.wanted {ops:Array Oper} {env:Env} {g:Option (Nat×Bool)} (h:GOut ops env g) {a:Act} (ha:EnvOk N env a) {d:Option Tmp} {op:Op} {ty:TypeId} {pos:String} {aft:Array Edge} :
    Region.wanted ⟨d,op,ty,pos,aft,g⟩ (yielded ops a.tmps)=false:=by
  cases h with
  |some hj hb hv hn=>subst hv;rw [uJ ha hj hb];subst hn;rename_i w;cases w<;>rfl
  |undef hj hb hv=>subst hv;exact tQ ha hj hb
theorem f0h {ops:Array Oper} {env:Env} {j s:Nat} {v:Value} (hj:cI ops j=some s) (hb:env.get? s=some v) (hv:v= .bool false):GOut ops env (some (j,true)):= .some hj hb hv rfl
theorem f3n {ops:Array Oper} {env:Env} {j s:Nat} {v:Value} (hj:cI ops j=some s) (hb:env.get? s=some v) (hv:v= .bool true):GIn ops env (some (j,true)):= .some hj hb hv
theorem d2b {st:St} {ops:Array Oper} {LS:List HP} {i:Nat} {next:Plan} {op:Op} {ty:TypeId} {pos:String} {aft:Array Edge} {g:Option (Nat×Bool)} {d:Nat} {v:Value} (ho:ops[i]? =some ⟨some d,op,ty,pos,aft,g⟩)
    (hg:GIn ops env g) (h:V P N op ty env [] v) (hd:Nat.blt d N=true) (k:WT st P N ops LS next ((d,v)::env) L Q):WT st P N ops LS (.p i next) env L Q:=fun a w ha hw=>by
  simp only [gM,ho]
  exact ⟨v,.inl ⟨hg.wanted ha,fun w _=>h a w ha trivial⟩,k _ w (ha.put hd v) hw⟩
theorem d2c {st:St} {ops:Array Oper} {LS:List HP} {i:Nat} {next:Plan} {op:Op} {ty:TypeId} {pos:String} {aft:Array Edge} {g:Option (Nat×Bool)} {d:Nat} {v:Value} (ho:ops[i]? =some ⟨some d,op,ty,pos,aft,g⟩)
    (hg:GIn ops env g) (h:V P N op ty env LS v) (hd:Nat.blt d N=true) (k:WT st P N ops LS next ((d,v)::env) L Q):WT st P N ops LS (.r i next) env L Q:=fun a w ha hw=>by
  simp only [gM,ho]
  exact ⟨v,.inl ⟨hg.wanted ha,fun w hw=>h a w ha hw⟩,k _ w (ha.put hd v) hw⟩
theorem b7l {st:St} {ops:Array Oper} {LS:List HP} {i:Nat} {next:Plan} {op:Op} {ty:TypeId} {pos:String} {aft:Array Edge} {g:Option (Nat×Bool)} {d:Nat} (ho:ops[i]? =some ⟨some d,op,ty,pos,aft,g⟩)
    (hg:GOut ops env g) (hd:Nat.blt d N=true) (k:WT st P N ops LS next ((d,undef)::env) L Q):WT st P N ops LS (.p i next) env L Q:=fun a w ha hw=>by
  simp only [gM,ho]
  exact ⟨undef,.inr ⟨hg.wanted ha,rfl⟩,k _ w (ha.put hd undef) hw⟩
theorem b7m {st:St} {ops:Array Oper} {LS:List HP} {i:Nat} {next:Plan} {op:Op} {ty:TypeId} {pos:String} {aft:Array Edge} {g:Option (Nat×Bool)} {d:Nat} (ho:ops[i]? =some ⟨some d,op,ty,pos,aft,g⟩)
    (hg:GOut ops env g) (hd:Nat.blt d N=true) (k:WT st P N ops LS next ((d,undef)::env) L Q):WT st P N ops LS (.r i next) env L Q:=fun a w ha hw=>by
  simp only [gM,ho]
  exact ⟨undef,.inr ⟨hg.wanted ha,rfl⟩,k _ w (ha.put hd undef) hw⟩
def After (st:St) (ops:Array Oper) (LS:List HP) (held:Bool) (i:Nat) (L':List HP):Prop:=(held=true→c4v st ops i=false→Ent L' LS)
theorem After.free {st:St} {ops:Array Oper} {LS L':List HP} {i:Nat}:After st ops LS false i L':=fun h=>nomatch h
theorem After.turns {st:St} {ops:Array Oper} {LS L':List HP} {i:Nat} {held:Bool} (h:c4v st ops i=true):After st ops LS held i L':=fun _ k=>by rw [h] at k;cases k
theorem After.still {st:St} {ops:Array Oper} {LS L':List HP} {i:Nat} {held:Bool} (h:Ent L' LS):After st ops LS held i L':=fun _ _=>h
theorem qW {st:St} {ops:Array Oper} {LS:List HP} {i:Nat} {next:Plan} {held:Bool} {op:Op} {ty:TypeId} {pos:String} {aft:Array Edge} {g:Option (Nat×Bool)} {d:Option Tmp} {post:Env→List HP→Prop} (ho:ops[i]? =some ⟨d,op,ty,pos,aft,g⟩) (hg:GIn ops env g)
    (h:KO P N ⟨d,op,ty,pos,aft,none⟩ env L post) (k:∀ e' L',post e' L'→After st ops LS held i L'∧WT st P N ops LS next e' L' Q):WT st P N ops LS (.e held [(i,next)]) env L Q:=fun a w ha hw=>by
  simp only [gM,zJ,and_true]
  unfold wpOp
  simp only [ho,hg.wanted ha,if_true]
  have h1:=h a w ha hw (fun a' w'=>(held=true→c4v st ops i=false→fP LS w')∧gM P ops Q next st (fP LS) a' w') Q fun e' L' a' w' hp ha' hw'=>by
    obtain ⟨h1,h2⟩:=k e' L' hp
    exact ⟨fun c d=>(h1 c d).sat hw',h2 a' w' ha' hw'⟩
  exact .inl h1
theorem b7n {st:St} {ops:Array Oper} {LS:List HP} {i:Nat} {next:Plan} {held:Bool} {op:Op} {ty:TypeId} {pos:String} {aft:Array Edge} {g:Option (Nat×Bool)} {d:Option Tmp} (ho:ops[i]? =some ⟨d,op,ty,pos,aft,g⟩) (hg:GOut ops env g)
    (hd:xX N d=true) (k:After st ops LS held i L∧WT st P N ops LS next (rM env d undef) L Q):WT st P N ops LS (.e held [(i,next)]) env L Q:=fun a w ha hw=>by
  simp only [gM,zJ,and_true]
  unfold wpOp
  simp only [ho,hg.wanted ha]
  exact ⟨fun c d=>(k.1 c d).sat hw,k.2 _ w (ha.puts hd undef) hw⟩
theorem zL {st:St} {ops:Array Oper} {LS:List HP} {held:Bool} {x:Nat×Plan} {y:Nat×Plan} {r:List (Nat×Plan)} (h1:WT st P N ops LS (.e held [x]) env L Q) (h2:WT st P N ops LS (.e held (y::r)) env L Q):WT st P N ops LS (.e held (x::y::r)) env L Q:=fun a w ha hw=>by
  have a1:=h1 a w ha hw
  have a2:=h2 a w ha hw
  simp only [gM,zJ] at a1 a2 ⊢
  exact ⟨a1.1,a2⟩
end
end Go.Sx
