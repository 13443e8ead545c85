/- Maps from whole numbers. My own work; names no program. -/
import Derived.Test.YtjihlpjnebdiiabGreatSl
set_option linter.unusedVariables false
set_option linter.unusedSectionVars false
set_option linter.unusedSimpArgs false
namespace Go.Sx
open Go
section
variable {α:Type}
def fH (l:List (Int×α)) (k:Int):Option α:=(l.find? fun p=>decide (p.1=k)).map (·.2)
def iS:List (Int×α)→Int→α→List (Int×α)
  | [],k,x=>[(k,x)]
  |p::r,k,x=>if p.1=k then (k,x)::r else p::iS r k x
def vD (l:List (Int×α)) (k:Int):List (Int×α):=l.eraseP fun p=>decide (p.1=k)
def m0 (l:List (Int×α)):List Int:=l.map (·.1)
theorem AG (k:Int):fH ([]:List (Int×α)) k=none:=rfl
theorem my (p:Int×α) (l:List (Int×α)) (k:Int):fH (p::l) k=if p.1=k then some p.2 else fH l k:=by
  unfold fH;rw [List.find?_cons];by_cases h:p.1=k<;>simp [h]
theorem r8 (l:List (Int×α)) (k:Int) (x:α) (j:Int):fH (iS l k x) j=if j=k then some x else fH l j:=by
  induction l with
  |nil=>simp only [iS,my,AG];by_cases h:k=j<;>by_cases h':j=k<;>simp_all
  |cons p r ih=>
   simp only [iS];by_cases h:p.1=k
   ·rw [if_pos h,my,my];by_cases h1:j=k
    ·subst h1;simp
    ·have:¬k=j:=fun e=>h1 e.symm;simp [h1,this,h]
   ·rw [if_neg h,my,my,ih];by_cases h1:p.1=j
    ·subst h1;simp [h]
    ·simp [h1]
theorem HH (l:List (Int×α)) (k:Int) (x:α):m0 (iS l k x)=if (fH l k).isSome then m0 l else m0 l++[k]:=by
  induction l with
  |nil=>simp [iS,m0,AG]
  |cons p r ih=>
   simp only [iS,my];by_cases h:p.1=k
   ·simp [h,m0]
   ·simp only [h,if_false];unfold m0 at ih ⊢;rw [List.map_cons,ih];split<;>simp
theorem Kh (l:List (Int×α)) (k:Int):fH l k=none↔k∉m0 l:=by
  unfold fH m0;rw [Option.map_eq_none_iff,List.find?_eq_none];simp only [decide_eq_true_eq,List.mem_map,not_exists,not_and]
theorem HI {l:List (Int×α)} {k:Int} {x:α} (h:(m0 l).Nodup):(m0 (iS l k x)).Nodup:=by
  rw [HH];cases e:fH l k with
  |some _=>simpa using h
  |none=>
   have:=(Kh l k).1 e;simp only [Option.isSome_none,Bool.false_eq_true,if_false];rw [List.nodup_append];exact ⟨h,by simp,by intro a ha b hb;simp at hb;subst hb;exact fun e=>this (e▸ha)⟩
theorem HJ {l:List (Int×α)} {k:Int} (h:(m0 l).Nodup):(m0 (vD l k)).Nodup:=by
  unfold m0 vD at *;exact h.sublist (List.eraseP_sublist.map _)
theorem M8 {l:List (Int×α)} {k:Int} {x:α} (h:fH l k=some x):(k,x)∈l:=by
  unfold fH at h;simp only [Option.map_eq_some_iff] at h;obtain ⟨p,hp,rfl⟩:=h;have h1:=List.find?_some hp;have h2:=List.mem_of_find?_eq_some hp;simp at h1;subst h1;exact h2
end
structure Cf {α:Type} (enc:α→Value) (l:List (Int×α)) (es:Array MapEntry) (clock:Nat):Prop where
  kv:es.toList.map (fun e=>(e.key,e.val))=l.map (fun p=>(Value.int .i64 p.1,enc p.2))
  born:∀ e∈es.toList,e.born<clock
  Sz:(es.toList.map (·.born)).Nodup
structure kA {α:Type} (b:Nat) (enc:α→Value) (l:List (Int×α)) (h:PH):Prop where
  pf:∃ es clock,h.c b=some (.map es clock)∧Cf enc l es clock
  nd:(m0 l).Nodup
class si {α:outParam Type} (b:Nat) (L:List HP) (enc:outParam (α→Value)) (l:outParam (List (Int×α))) (C:outParam (List (Int×α)→List HP)):Prop where
  pf:∃ R,ai L (kA b enc l::R)∧∀ l',ai (kA b enc l'::R) (C l')
instance (priority:=high) si.here {α:Type} {b:Nat} {enc:α→Value} {l:List (Int×α)} {L:List HP}:si b (kA b enc l::L) enc l (fun l'=>kA b enc l'::L):=⟨L,ai.refl,fun _=>ai.refl⟩
instance si.there {α:Type} {b:Nat} {enc:α→Value} {l:List (Int×α)} {q:HP} {L:List HP} {C:List (Int×α)→List HP} [k:si b L enc l C]:si b (q::L) enc l (fun l'=>q::C l'):=
  let ⟨R,h1,h2⟩:=k.pf
  ⟨q::R,fun _ h=>kE (jM h1 h),fun l' _ h=>jM (h2 l') (kE h)⟩
theorem zU {α:Type} {b:Nat} {enc:α→Value} {l:List (Int×α)} {L:List HP} {w:World} (H:Sat (kA b enc l::L) w):(∃ es clock,w.heap[b]? =some (.map es clock)∧Cf enc l es clock)∧(m0 l).Nodup:=by
  obtain ⟨S,_,_,hp,_⟩:=H;obtain ⟨es,clock,h1,h2⟩:=hp.pf;exact ⟨⟨es,clock,(tp h1).2,h2⟩,hp.nd⟩
theorem Ki {α:Type} {b:Nat} {enc:α→Value} {l:List (Int×α)} {C:List (Int×α)→List HP} {L:List HP} {w:World} (k:si b L enc l C) (h:Sat L w):(∃ es clock,w.heap[b]? =some (.map es clock)∧Cf enc l es clock)∧(m0 l).Nodup:=
  let ⟨_,h1,_⟩:=k.pf
  zU (h1.gX h)
theorem yX {α:Type} {enc:α→Value} {ah:IntKind} {k:Int}:∀ (es:List MapEntry) (l:List (Int×α)) (i:Nat),es.map (fun e=>(e.key,e.val))=l.map (fun p=>(Value.int .i64 p.1,enc p.2))→
    Instr.findNow (.int ah) (.int .i64 k) es i=some ((l.findIdx? fun p=>decide (p.1=k)).bind fun j=>(l[j]?).map fun p=>(i+j,enc p.2))
  | [],[],i,_=>by simp [Instr.findNow]
  |e::es,p::l,i,h=>by
   simp only [List.map_cons,List.cons.injEq,Prod.mk.injEq] at h
   obtain ⟨⟨h1,h2⟩,h3⟩:=h
   simp only [Instr.findNow,h1,Instr.sameNow,if_true];by_cases hk:p.1=k
   ·have:(k == p.1)=true:=by simp [hk]
    simp [this,hk,h2,List.findIdx?_cons]
   ·have:(k == p.1)=false:=by simpa using fun e=>hk e.symm
    simp only [this];rw [yX es l (i+1) h3];simp only [List.findIdx?_cons,hk,decide_false,Bool.false_eq_true,if_false];cases List.findIdx? (fun p=>decide (p.1=k)) l with
    |none=>simp
    |some j=>simp [Nat.add_assoc,Nat.add_comm 1 j]
  | [],_::_,_,h=>by simp at h
  |_::_,[],_,h=>by simp at h
theorem uK {P:Program} {α:Type} {enc:α→Value} {kt:TypeId} {ah:IntKind} [hT:TU P kt (.int ah)] {k:Int} {es:List MapEntry} {l:List (Int×α)} (h:es.map (fun e=>(e.key,e.val))=l.map (fun p=>(Value.int .i64 p.1,enc p.2))) (w:World) :
    (Instr.findKey kt (.int .i64 k) es).run P w= .ok ((l.findIdx? fun p=>decide (p.1=k)).bind fun j=>(l[j]?).map fun p=>(j,enc p.2)) w:=by
  unfold Instr.findKey;simp only [Sem.run_bind,run_underlying hT.pf,Result.andThen_ok,yX es l 0 h,Nat.zero_add,Sem.run_pure]
theorem nu {P:Program} {kt:TypeId} {ah:IntKind} [hT:TU P kt (.int ah)] {k:Int} {em:Bool} (w:World):(Instr.checkKey em 10000 kt (.int .i64 k)).run P w= .ok () w:=by
  have:∀ n,(Instr.checkKey em (n+1) kt (.int .i64 k)).run P w= .ok () w:=fun n=>by
    simp only [Instr.checkKey,Sem.run_bind,run_underlying hT.pf,Result.andThen_ok,Sem.run_pure]
  exact this 9999
theorem HK {α:Type} {l:List (Int×α)} {k:Int} {enc:α→Value}:((l.findIdx? fun p=>decide (p.1=k)).bind fun j=>(l[j]?).map fun p=>(j,enc p.2)).map (·.2)=(fH l k).map enc:=by
  unfold fH;induction l with
  |nil=>rfl
  |cons p r ih=>
   rw [List.findIdx?_cons,List.find?_cons];by_cases h:p.1=k
   ·simp [h]
   ·simp only [h,decide_false,Bool.false_eq_true,if_false];rw [←ih];cases List.findIdx? (fun p=>decide (p.1=k)) r with
    |none=>simp
    |some j=>simp only [Option.map_some,Option.bind_some,List.getElem?_cons_succ,Option.map_map];rfl
theorem qa {P:Program} {w:World} {b:Nat} {es:Array MapEntry} {clock:Nat} (h:w.heap[b]? =some (.map es clock)):(getObj b).run P w= .ok (.map es clock) w:=by
  simp only [getObj,Sem.run,h]
theorem sO {P:Program} {w:World} {b:Nat} {es xV:Array MapEntry} {clock c':Nat} (h:w.heap[b]? =some (.map es clock)):(setObj b (.map xV c')).run P w= .ok () { w with heap:=w.heap.setIfInBounds b (.map xV c')}:=by
  simp only [setObj,Sem.run,h]
theorem yY {α:Type} {b:Nat} {enc:α→Value} {l l':List (Int×α)} {L:List HP} {w:World} {xV:Array MapEntry} {c':Nat} (H:Sat (kA b enc l::L) w) (h:Cf enc l' xV c') (hn:(m0 l').Nodup) :
    Sat (kA b enc l'::L) { w with heap:=w.heap.setIfInBounds b (.map xV c')}:=by
  obtain ⟨⟨es,clock,h1,_⟩,_⟩:=zU H;have hb:=(Array.getElem?_eq_some_iff.1 h1).1;refine qN (w:=w) (b:=b) (o:= .map xV c') (kA b enc l') (fun h hp=>?_) (fun ph e=>⟨⟨xV,c',e,h⟩,hn⟩) (by simp [hb]) (fun k hk=>?_) rfl rfl rfl H
  ·obtain ⟨es,clock,q,_⟩:=hp.pf;exact ⟨_,q⟩
  ·simp [Array.getElem?_setIfInBounds,Ne.symm hk]
section
variable {P:Program} {N:Nat} {α:Type} {enc:α→Value} {l:List (Int×α)} {b:Nat} {t ty kt et:TypeId} {ah:IntKind} {x y:Operand} {env:Env} {L:List HP} {C:List (Int×α)→List HP}
theorem M9 {sz bs:Nat} {z:Value} {k:Int} {d:α} [hM:TU P t (.map kt et)] [hT:TU P kt (.int ah)] [hZ:TZ P et sz z bs] (hx:ev env x=some (.map (some b))) (hy:ev env y=some (.int .i64 k)) (hm:si b L enc l C) (hd:enc d=z) :
    V P N (.lookup t x y false) ty env L (enc ((fH l k).getD d)):=by
  intro a w ha hw;obtain ⟨⟨es,clock,h1,h2⟩,_⟩:=Ki hm hw;have hf:=uK (P:=P) (k:=k) (kt:=kt) (ah:=ah) (enc:=enc) h2.kv w;have hg:=HK (l:=l) (k:=k) (enc:=enc);simp only [execOp,ha.ev hx,ha.ev hy,Instr.lookup,Sem.run_bind,run_underlying hM.pf,Result.andThen_ok,qa h1,nu (P:=P) (kt:=kt) (ah:=ah),hf,Sem.run_pure];generalize ((l.findIdx? fun p=>decide (p.1=k)).bind fun j=>(l[j]?).map fun p=>(j,enc p.2))=r at hg ⊢;cases r with
  |none=>cases hq:fH l k<;>simp [hq] at hg;simp [jI hZ,hd]
  |some p=>cases hq:fH l k<;>simp [hq] at hg;simp [hg]
theorem Kj {pos:String} {c9:Array Edge} {d:Nat} (enc:α→Value) (hd:Nat.blt d N=true):KO P N ⟨some d,.makeMap t none,ty,pos,c9,none⟩ env L (uX env d (fun b=> .map (some b)) (fun b=>kA b enc []::L)):=by
  refine zN (o:= .map #[] 0) (q:=fun b=>kA b enc []) (v:=fun b=> .map (some b)) (fun b h e=>⟨⟨#[],0,e,⟨rfl,by simp,by simp⟩⟩,by simp [m0]⟩) ?_ hd;intro a w ha _;simp [execOp,Instr.makeMap]
theorem Kk {es:List MapEntry} {l:List (Int×α)} {k:Int} {u:α} (h:es.map (fun e=>(e.key,e.val))=l.map (fun p=>(Value.int .i64 p.1,enc p.2))) {i:Nat} (hi:l.findIdx? (fun p=>decide (p.1=k))=some i) :
    (es.modify i (fun e=>{ e with key:= .int .i64 k,val:=enc u})).map (fun e=>(e.key,e.val))=(iS l k u).map (fun p=>(Value.int .i64 p.1,enc p.2)):=by
  induction l generalizing es i with
  |nil=>simp at hi
  |cons p r ih=>
   cases es with
   |nil=>simp at h
   |cons e es=>
    simp only [List.map_cons,List.cons.injEq] at h;rw [List.findIdx?_cons] at hi;by_cases hp:p.1=k
    ·simp only [hp,decide_true,if_true,Option.some.injEq] at hi;subst hi;simp [iS,hp,h.2]
    ·simp only [hp,decide_false,Bool.false_eq_true,if_false,Option.map_eq_some_iff] at hi;obtain ⟨j,hj,rfl⟩:=hi;simp only [iS,hp,if_false,List.modify_succ_cons,List.map_cons];rw [ih h.2 hj,h.1]
theorem Na {l:List (Int×α)} {k:Int} {u:α} (h:l.findIdx? (fun p=>decide (p.1=k))=none):iS l k u=l++[(k,u)]:=by
  induction l with
  |nil=>rfl
  |cons p r ih=>
   rw [List.findIdx?_cons] at h;by_cases hp:p.1=k
   ·simp [hp] at h
   ·simp only [hp,decide_false,Bool.false_eq_true,if_false,Option.map_eq_none_iff] at h;simp [iS,hp,ih h]
theorem Gc {u:Value} {k:Int} {xv:α} {pos:String} {c9:Array Edge} {m kx vx:Operand} [hM:TU P t (.map kt et)] [hT:TU P kt (.int ah)]
    (JV:ev env m=some (.map (some b))) (hk:ev env kx=some (.int .i64 k)) (hv:ev env vx=some u) (hm:si b L enc l C) (he:enc xv=u) :
    KO P N ⟨none,.mapUpdate t m kx vx,ty,pos,c9,none⟩ env L (tq env (C (iS l k xv))):=by
  intro a w ha hw K Q next
  subst he;obtain ⟨R,k1,k2⟩:=hm.pf;have hs:=k1.gX hw;obtain ⟨⟨es,clock,h1,h2⟩,hn⟩:=zU hs;have hf:=uK (P:=P) (k:=k) (kt:=kt) (ah:=ah) (enc:=enc) h2.kv w
  have fin:∀ xV c',Cf enc (iS l k xv) xV c'→(execOp a.eval ⟨none,.mapUpdate t m kx vx,ty, "", #[],none⟩).run P w= .ok .skip { w with heap:=w.heap.setIfInBounds b (.map xV c')}→
   Oper.wp P ⟨none,.mapUpdate t m kx vx,ty,pos,c9,none⟩ a w K Q:=by
    intro xV c' q run;unfold Oper.wp;rw [cY,run];exact next _ _ a _ ⟨rfl,rfl⟩ ha ((k2 _).gX (yY hs q (HI hn)))
  cases hi:l.findIdx? (fun p=>decide (p.1=k)) with
  |none=>
   refine fin (es.push { key:= .int .i64 k,val:=enc xv,born:=clock}) (clock+1) ⟨?_,?_,?_⟩ ?_
   ·rw [Na hi,Array.toList_push,List.map_append,h2.kv];simp
   ·intro e he;rw [Array.toList_push,List.mem_append] at he;rcases he with he|he
    ·exact Nat.lt_succ_of_lt (h2.born e he)
    ·simp at he;subst he;exact Nat.lt_succ_self _
   ·rw [Array.toList_push,List.map_append,List.nodup_append];refine ⟨h2.Sz,by simp,?_⟩;intro x hx y hy;simp at hy;subst hy;obtain ⟨e,he,rfl⟩:=List.mem_map.1 hx;exact Nat.ne_of_lt (h2.born e he)
   ·simp only [execOp,ha.ev JV,ha.ev hk,ha.ev hv,Instr.mapUpdate,Sem.run_bind,run_underlying hM.pf,Result.andThen_ok,qa h1,nu (P:=P) (kt:=kt) (ah:=ah),hf,hi,Option.bind_none,sO h1,Sem.run_pure]
  |some i=>
   have bB:=(List.findIdx?_eq_some_iff_getElem.1 hi).1;have UW:=(List.findIdx?_eq_some_iff_getElem.1 hi).2.1;simp only [decide_eq_true_eq] at UW;have Xy:es.toList.length=l.length:=by have:=congrArg List.length h2.kv;simpa using this
   have Zm:(es[i]?).map (·.key)=some (.int .i64 k):=by
     have:=congrArg (fun z=>(z[i]?).map (·.1)) h2.kv;simp only [List.getElem?_map,Array.getElem?_toList,Option.map_map] at this;have h3:l[i]? =some l[i]:=by simp [bB]
     rw [h3] at this;simp only [Option.map_some,Function.comp_def] at this;rw [this,UW]
   refine fin (es.modify i fun e=>{ e with key:= .int .i64 k,val:=enc xv}) clock ⟨?_,?_,?_⟩ ?_
   ·rw [Array.toList_modify];exact Kk h2.kv hi
   ·intro e he;rw [Array.toList_modify] at he;have:∀ x∈(es.toList.modify i fun e=>{ e with key:=Value.int .i64 k,val:=enc xv}).map (·.born),x<clock:=by
      have e1:(es.toList.modify i fun e=>{ e with key:=Value.int .i64 k,val:=enc xv}).map (·.born)=es.toList.map (·.born):=by
        apply List.ext_getElem?;intro j;simp only [List.getElem?_map,List.getElem?_modify];by_cases hj:i=j<;>simp [hj]<;>cases es[j]? <;>rfl
      rw [e1];intro x hx;obtain ⟨e,he,rfl⟩:=List.mem_map.1 hx;exact h2.born e he
    exact this _ (List.mem_map.2 ⟨e,he,rfl⟩)
   ·have e1:(es.modify i fun e=>{ e with key:=Value.int .i64 k,val:=enc xv}).toList.map (·.born)=es.toList.map (·.born):=by
      rw [Array.toList_modify];apply List.ext_getElem?;intro j;simp only [List.getElem?_map,List.getElem?_modify];by_cases hj:i=j<;>simp [hj]<;>cases es[j]? <;>rfl
    rw [e1];exact h2.Sz
   ·have h3:l[i]? =some l[i]:=by simp [bB]
    simp only [execOp,ha.ev JV,ha.ev hk,ha.ev hv,Instr.mapUpdate,Sem.run_bind,run_underlying hM.pf,Result.andThen_ok,qa h1,nu (P:=P) (kt:=kt) (ah:=ah),hf,hi,Option.bind_some,h3,Option.map_some,Zm,Option.getD_some,Instr.keyThatStays];simp [Instr.sameBits,sO h1]
theorem Nb {k:Int} {pos:String} {c9:Array Edge} {d:Option Nat} {m kx:Operand} {ats:List TypeId} [hM:TU P t (.map kt et)] [hT:TU P kt (.int ah)]
    (JV:ev env m=some (.map (some b))) (hk:ev env kx=some (.int .i64 k)) (hm:si b L enc l C) (hd:sh N d=true) :
    KO P N ⟨d,.call ⟨.builtin .delete,[m,kx].toArray,(t::ats).toArray⟩,ty,pos,c9,none⟩ env L (tq (pj env d (.tuple #[])) (C (vD l k))):=by
  intro a w ha hw K Q next
  obtain ⟨R,k1,k2⟩:=hm.pf;have hs:=k1.gX hw;obtain ⟨⟨es,clock,h1,h2⟩,hn⟩:=zU hs;have hf:=uK (P:=P) (k:=k) (kt:=kt) (ah:=ah) (enc:=enc) h2.kv w
  have fin:∀ xV c',Cf enc (vD l k) xV c'→(Builtin.delete_ (t::ats).toArray ty #[.map (some b),.int .i64 k]).run P w= .ok (.tuple #[]) { w with heap:=w.heap.setIfInBounds b (.map xV c')}→
   Oper.wp P ⟨d,.call ⟨.builtin .delete,[m,kx].toArray,(t::ats).toArray⟩,ty,pos,c9,none⟩ a w K Q:=by
    intro xV c' q run;unfold Oper.wp;have ex:=ji (P:=P) (ρ:=a.eval) (b:= .delete) (args:=[m,kx]) (ats:=(t::ats).toArray) (ty:=ty) (vs:=[.map (some b),.int .i64 k]) (by simp [ha.ev JV,ha.ev hk]) (w:=w) (r:= .ok (.value (.tuple #[])) { w with heap:=w.heap.setIfInBounds b (.map xV c')}) (fun cs=>by
      simp [builtin,run])
    rw [cY,ex];exact next _ _ _ _ ⟨rfl,rfl⟩ (ha.B1 hd _) ((k2 _).gX (yY hs q (HJ hn)))
  have sub:∀ (xV:List MapEntry),xV.Sublist es.toList→(∀ e∈xV,e.born<clock)∧(xV.map (·.born)).Nodup:=fun xV Pd=>
    ⟨fun e he=>h2.born e (Pd.subset he),h2.Sz.sublist (Pd.map _)⟩
  cases hi:l.findIdx? (fun p=>decide (p.1=k)) with
  |none=>
   have SA:vD l k=l:=by
     unfold vD;rw [List.eraseP_of_forall_not];intro p hp;simpa using List.findIdx?_eq_none_iff.1 hi p hp
   refine fin es clock (by rw [SA];exact h2) ?_;simp [Builtin.delete_,run_underlying hM.pf,qa h1,nu (P:=P) (kt:=kt) (ah:=ah),hf,hi,sO h1]
  |some i=>
   have bB:=(List.findIdx?_eq_some_iff_getElem.1 hi).1;have Xy:es.toList.length=l.length:=by have:=congrArg List.length h2.kv;simpa using this
   have h3:l[i]? =some l[i]:=by simp [bB]
   have SA:vD l k=l.eraseIdx i:=by
     unfold vD;rw [List.eraseP_eq_eraseIdx,hi]
   obtain ⟨s1,s2⟩:=sub (es.toList.eraseIdx i) (List.eraseIdx_sublist _ _);have WG:(es.eraseIdxIfInBounds i).toList=es.toList.eraseIdx i:=by simp
   refine fin (es.eraseIdxIfInBounds i) clock ⟨?_,by rw [WG];exact s1,by rw [WG];exact s2⟩ ?_
   ·rw [WG,SA];have:∀ {A B:Type} (f:A→B) (x:List A) (i:Nat),(x.eraseIdx i).map f=(x.map f).eraseIdx i:=fun f x i=>by
      induction x generalizing i with
      |nil=>simp
      |cons a r ih=>cases i<;>simp [ih]
    rw [this,this,h2.kv]
   ·simp [Builtin.delete_,run_underlying hM.pf,qa h1,nu (P:=P) (kt:=kt) (ah:=ah),hf,hi,h3,sO h1]
end
section
variable {P:Program} {N:Nat} {α:Type} {enc:α→Value} {l:List (Int×α)} {b:Nat} {t ty kt et:TypeId} {x y:Operand} {env:Env} {L:List HP} {C:List (Int×α)→List HP}
end
class F2 (P:Program) (t:TypeId) {α:outParam Type} (enc:outParam (α→Value)) (d:outParam α):Prop where
  pf:∃ kt et ah n bs,P.underlying t=some (.map kt et)∧P.underlying kt=some (.int ah)∧(P.info? et).map (fun i=>(i.size,i.zero,i.bytes))=some (n,some (enc d),bs)
section
variable {P:Program} {N:Nat} {α:Type} {enc:α→Value} {dv:α} {l:List (Int×α)} {b:Nat} {t ty:TypeId} {x y:Operand} {env:Env} {L:List HP} {C:List (Int×α)→List HP}
theorem Kl {k:Int} [h:F2 P t enc dv] (hx:ev env x=some (.map (some b))) (hy:ev env y=some (.int .i64 k)) (hm:si b L enc l C):V P N (.lookup t x y false) ty env L (enc ((fH l k).getD dv)):=by
  obtain ⟨kt,et,ah,n,bs,h1,h2,h3⟩:=h.pf;exact M9 (hM:=⟨h1⟩) (hT:=⟨h2⟩) (hZ:=⟨h3⟩) hx hy hm rfl
theorem HL {pos:String} {c9:Array Edge} {d:Nat} [h:F2 P t enc dv] (hd:Nat.blt d N=true):KO P N ⟨some d,.makeMap t none,ty,pos,c9,none⟩ env L (uX env d (fun b=> .map (some b)) (fun b=>kA b enc []::L)):=Kj enc hd
theorem pE {u:Value} {k:Int} {xv:α} {pos:String} {c9:Array Edge} {m kx vx:Operand} [h:F2 P t enc dv]
    (JV:ev env m=some (.map (some b))) (hk:ev env kx=some (.int .i64 k)) (hv:ev env vx=some u) (hm:si b L enc l C) (he:enc xv=u) :
    KO P N ⟨none,.mapUpdate t m kx vx,ty,pos,c9,none⟩ env L (tq env (C (iS l k xv))):=by
  obtain ⟨kt,et,ah,n,bs,h1,h2,h3⟩:=h.pf;exact Gc (hM:=⟨h1⟩) (hT:=⟨h2⟩) JV hk hv hm he
theorem Km {k:Int} {pos:String} {c9:Array Edge} {m kx:Operand} {ats:List TypeId} [h:F2 P t enc dv] (JV:ev env m=some (.map (some b))) (hk:ev env kx=some (.int .i64 k)) (hm:si b L enc l C) :
    KO P N ⟨none,.call ⟨.builtin .delete,[m,kx].toArray,(t::ats).toArray⟩,ty,pos,c9,none⟩ env L (tq env (C (vD l k))):=by
  obtain ⟨kt,et,ah,n,bs,h1,h2,h3⟩:=h.pf;exact Nb (d:=none) (hM:=⟨h1⟩) (hT:=⟨h2⟩) JV hk hm rfl
end
section
variable {P:Program} {N:Nat} {α:Type} {enc:α→Value} {l:List (Int×α)} {b:Nat} {env:Env} {L:List HP} {Q:Exit→Act→World→Prop}
end
end Go.Sx
