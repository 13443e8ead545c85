/- Maps from whole numbers. My own work; names no program. -/
import Derived.Test.YtjihlpjnebdiiaaGreatSl
set_option linter.unusedVariables false
set_option linter.unusedSectionVars false
set_option linter.unusedSimpArgs false
namespace Go.Sx
open Go
section
variable {α:Type}
def iE (l:List (Int×α)) (k:Int):Option α:=(l.find? fun p=>decide (p.1=k)).map (·.2)
def lS:List (Int×α)→Int→α→List (Int×α)
  | [],k,x=>[(k,x)]
  |p::r,k,x=>if p.1=k then (k,x)::r else p::lS r k x
def b1i (l:List (Int×α)) (k:Int):List (Int×α):=l.eraseP fun p=>decide (p.1=k)
def pG (l:List (Int×α)):List Int:=l.map (·.1)
theorem b9z (k:Int):iE ([]:List (Int×α)) k=none:=rfl
theorem iR (p:Int×α) (l:List (Int×α)) (k:Int):iE (p::l) k=if p.1=k then some p.2 else iE l k:=by
  unfold iE;rw [List.find?_cons]
  by_cases h:p.1=k<;>simp [h]
theorem pL (l:List (Int×α)) (k:Int) (x:α) (j:Int):iE (lS l k x) j=if j=k then some x else iE l j:=by
  induction l with
  |nil=>simp only [lS,iR,b9z];by_cases h:k=j<;>by_cases h':j=k<;>simp_all
  |cons p r ih=>
   simp only [lS]
   by_cases h:p.1=k
   · rw [if_pos h,iR,iR]
     by_cases h1:j=k
     · subst h1;simp
     · have:¬k=j:=fun e=>h1 e.symm
       simp [h1,this,h]
   · rw [if_neg h,iR,iR,ih]
     by_cases h1:p.1=j
     · subst h1;simp [h]
     · simp [h1]
theorem c2n (l:List (Int×α)) (k:Int) (x:α):pG (lS l k x)=if (iE l k).isSome then pG l else pG l++[k]:=by
  induction l with
  |nil=>simp [lS,pG,b9z]
  |cons p r ih=>
   simp only [lS,iR]
   by_cases h:p.1=k
   · simp [h,pG]
   · simp only [h,if_false]
     unfold pG at ih ⊢
     rw [List.map_cons,ih]
     split<;>simp
theorem c9q (l:List (Int×α)) (k:Int):iE l k=none↔k∉pG l:=by
  unfold iE pG
  rw [Option.map_eq_none_iff,List.find?_eq_none]
  simp only [decide_eq_true_eq,List.mem_map,not_exists,not_and]
theorem c2o {l:List (Int×α)} {k:Int} {x:α} (h:(pG l).Nodup):(pG (lS l k x)).Nodup:=by
  rw [c2n]
  cases e:iE l k with
  |some _=>simpa using h
  |none=>
   have:=(c9q l k).1 e
   simp only [Option.isSome_none,Bool.false_eq_true,if_false]
   rw [List.nodup_append]
   exact ⟨h,by simp,by intro a ha b hb;simp at hb;subst hb;exact fun e=>this (e▸ha)⟩
theorem c2p {l:List (Int×α)} {k:Int} (h:(pG l).Nodup):(pG (b1i l k)).Nodup:=by
  unfold pG b1i at *
  exact h.sublist (List.eraseP_sublist.map _)
theorem d3p {l:List (Int×α)} {k:Int} {x:α} (h:iE l k=some x):(k,x)∈l:=by
  unfold iE at h
  simp only [Option.map_eq_some_iff] at h
  obtain ⟨p,hp,rfl⟩:=h
  have h1:=List.find?_some hp
  have h2:=List.mem_of_find?_eq_some hp
  simp at h1;subst h1;exact h2
end
structure MapEs {α:Type} (enc:α→Value) (l:List (Int×α)) (es:Array MapEntry) (clock:Nat):Prop where
  kv:es.toList.map (fun e=>(e.key,e.val))=l.map (fun p=>(Value.int .i64 p.1,enc p.2))
  born:∀ e∈es.toList,e.born<clock
  uniq:(es.toList.map (·.born)).Nodup
structure MapAt {α:Type} (b:Nat) (enc:α→Value) (l:List (Int×α)) (h:PH):Prop where
  pf:∃ es clock,h.c b=some (.map es clock)∧MapEs enc l es clock
  nd:(pG l).Nodup
class MapIn {α:outParam Type} (b:Nat) (L:List HP) (enc:outParam (α→Value)) (l:outParam (List (Int×α))) (C:outParam (List (Int×α)→List HP)):Prop where
  pf:∃ R,Ent L (MapAt b enc l::R)∧∀ l',Ent (MapAt b enc l'::R) (C l')
instance (priority:=high) MapIn.here {α:Type} {b:Nat} {enc:α→Value} {l:List (Int×α)} {L:List HP}:MapIn b (MapAt b enc l::L) enc l (fun l'=>MapAt b enc l'::L):=⟨L,Ent.refl,fun _=>Ent.refl⟩
instance MapIn.there {α:Type} {b:Nat} {enc:α→Value} {l:List (Int×α)} {q:HP} {L:List HP} {C:List (Int×α)→List HP} [k:MapIn b L enc l C]:MapIn b (q::L) enc l (fun l'=>q::C l'):=
  let ⟨R,h1,h2⟩:=k.pf
  ⟨q::R,fun _ h=>jN (iT h1 h),fun l' _ h=>iT (h2 l') (jN h)⟩
theorem a7a {α:Type} {b:Nat} {enc:α→Value} {l:List (Int×α)} {L:List HP} {w:World} (H:fP (MapAt b enc l::L) w):(∃ es clock,w.heap[b]? =some (.map es clock)∧MapEs enc l es clock)∧(pG l).Nodup:=by
  obtain ⟨S,_,_,hp,_⟩:=H
  obtain ⟨es,clock,h1,h2⟩:=hp.pf
  exact ⟨⟨es,clock,(a0a h1).2,h2⟩,hp.nd⟩
theorem b3e {α:Type} {b:Nat} {enc:α→Value} {l:List (Int×α)} {C:List (Int×α)→List HP} {L:List HP} {w:World} (k:MapIn b L enc l C) (h:fP L w):(∃ es clock,w.heap[b]? =some (.map es clock)∧MapEs enc l es clock)∧(pG l).Nodup:=
  let ⟨_,h1,_⟩:=k.pf
  a7a (h1.sat h)
theorem a4f {α:Type} {enc:α→Value} {kind:IntKind} {k:Int}:∀ (es:List MapEntry) (l:List (Int×α)) (i:Nat),es.map (fun e=>(e.key,e.val))=l.map (fun p=>(Value.int .i64 p.1,enc p.2))→
    Instr.findNow (.int kind) (.int .i64 k) es i=some ((l.findIdx? fun p=>decide (p.1=k)).bind fun j=>(l[j]?).map fun p=>(i+j,enc p.2))
  | [],[],i,_=>by simp [Instr.findNow]
  |e::es,p::l,i,h=>by
   simp only [List.map_cons,List.cons.injEq,Prod.mk.injEq] at h
   obtain ⟨⟨h1,h2⟩,h3⟩:=h
   simp only [Instr.findNow,h1,Instr.sameNow,if_true]
   by_cases hk:p.1=k
   · have:(k == p.1)=true:=by simp [hk]
     simp [this,hk,h2,List.findIdx?_cons]
   · have:(k == p.1)=false:=by simpa using fun e=>hk e.symm
     simp only [this]
     rw [a4f es l (i+1) h3]
     simp only [List.findIdx?_cons,hk,decide_false,Bool.false_eq_true,if_false]
     cases List.findIdx? (fun p=>decide (p.1=k)) l with
     |none=>simp
     |some j=>simp [Nat.add_assoc,Nat.add_comm 1 j]
  | [],_::_,_,h=>by simp at h
  |_::_,[],_,h=>by simp at h
theorem qY {P:Program} {α:Type} {enc:α→Value} {kt:TypeId} {kind:IntKind} [hT:TU P kt (.int kind)] {k:Int} {es:List MapEntry} {l:List (Int×α)} (h:es.map (fun e=>(e.key,e.val))=l.map (fun p=>(Value.int .i64 p.1,enc p.2))) (w:World) :
    (Instr.findKey kt (.int .i64 k) es).run P w= .ok ((l.findIdx? fun p=>decide (p.1=k)).bind fun j=>(l[j]?).map fun p=>(j,enc p.2)) w:=by
  unfold Instr.findKey
  simp only [Sem.run_bind,aE hT.pf,Result.andThen_ok,a4f es l 0 h,Nat.zero_add,Sem.run_pure]
theorem kK {P:Program} {kt:TypeId} {kind:IntKind} [hT:TU P kt (.int kind)] {k:Int} {em:Bool} (w:World):(Instr.checkKey em 10000 kt (.int .i64 k)).run P w= .ok () w:=by
  have:∀ n,(Instr.checkKey em (n+1) kt (.int .i64 k)).run P w= .ok () w:=fun n=>by
    simp only [Instr.checkKey,Sem.run_bind,aE hT.pf,Result.andThen_ok,Sem.run_pure]
  exact this 9999
theorem a7b {α:Type} {l:List (Int×α)} {k:Int} {enc:α→Value}:((l.findIdx? fun p=>decide (p.1=k)).bind fun j=>(l[j]?).map fun p=>(j,enc p.2)).map (·.2)=(iE l k).map enc:=by
  unfold iE
  induction l with
  |nil=>rfl
  |cons p r ih=>
   rw [List.findIdx?_cons,List.find?_cons]
   by_cases h:p.1=k
   · simp [h]
   · simp only [h,decide_false,Bool.false_eq_true,if_false]
     rw [←ih]
     cases List.findIdx? (fun p=>decide (p.1=k)) r with
     |none=>simp
     |some j=>simp only [Option.map_some,Option.bind_some,List.getElem?_cons_succ,Option.map_map];rfl
theorem nX {P:Program} {w:World} {b:Nat} {es:Array MapEntry} {clock:Nat} (h:w.heap[b]? =some (.map es clock)):(getObj b).run P w= .ok (.map es clock) w:=by
  simp only [getObj,Sem.run,h]
theorem tZ {P:Program} {w:World} {b:Nat} {es es':Array MapEntry} {clock c':Nat} (h:w.heap[b]? =some (.map es clock)):(setObj b (.map es' c')).run P w= .ok () { w with heap:=w.heap.setIfInBounds b (.map es' c')}:=by
  simp only [setObj,Sem.run,h]
theorem a4g {α:Type} {b:Nat} {enc:α→Value} {l l':List (Int×α)} {L:List HP} {w:World} {es':Array MapEntry} {c':Nat} (H:fP (MapAt b enc l::L) w) (h:MapEs enc l' es' c') (hn:(pG l').Nodup) :
    fP (MapAt b enc l'::L) { w with heap:=w.heap.setIfInBounds b (.map es' c')}:=by
  obtain ⟨⟨es,clock,h1,_⟩,_⟩:=a7a H
  have hb:=(Array.getElem?_eq_some_iff.1 h1).1
  refine rY (w:=w) (b:=b) (o:= .map es' c') (MapAt b enc l') (fun h hp=>?_) (fun ph e=>⟨⟨es',c',e,h⟩,hn⟩) (by simp [hb]) (fun k hk=>?_) rfl rfl rfl H
  · obtain ⟨es,clock,q,_⟩:=hp.pf;exact ⟨_,q⟩
  · simp [Array.getElem?_setIfInBounds,Ne.symm hk]
section
variable {P:Program} {N:Nat} {α:Type} {enc:α→Value} {l:List (Int×α)} {b:Nat} {t ty kt et:TypeId} {kind:IntKind} {x y:Operand} {env:Env} {L:List HP} {C:List (Int×α)→List HP}
theorem d3q {sz bs:Nat} {z:Value} {k:Int} {d:α} [hM:TU P t (.map kt et)] [hT:TU P kt (.int kind)] [hZ:TZ P et sz z bs] (hx:ev env x=some (.map (some b))) (hy:ev env y=some (.int .i64 k)) (hm:MapIn b L enc l C) (hd:enc d=z) :
    V P N (.lookup t x y false) ty env L (enc ((iE l k).getD d)):=by
  intro a w ha hw
  obtain ⟨⟨es,clock,h1,h2⟩,_⟩:=b3e hm hw
  have hf:=qY (P:=P) (k:=k) (kt:=kt) (kind:=kind) (enc:=enc) h2.kv w
  have hg:=a7b (l:=l) (k:=k) (enc:=enc)
  simp only [execOp,ha.ev hx,ha.ev hy,Instr.lookup,Sem.run_bind,aE hM.pf,Result.andThen_ok,nX h1,kK (P:=P) (kt:=kt) (kind:=kind),hf,Sem.run_pure]
  generalize ((l.findIdx? fun p=>decide (p.1=k)).bind fun j=>(l[j]?).map fun p=>(j,enc p.2))=r at hg ⊢
  cases r with
  |none=>cases hq:iE l k<;>simp [hq] at hg;simp [f8 hZ,hd]
  |some p=>cases hq:iE l k<;>simp [hq] at hg;simp [hg]
theorem c9r {sz bs:Nat} {z:Value} {k:Int} {d:α} [hM:TU P t (.map kt et)] [hT:TU P kt (.int kind)] [hZ:TZ P et sz z bs] (hx:ev env x=some (.map (some b))) (hy:ev env y=some (.int .i64 k)) (hm:MapIn b L enc l C) (hd:enc d=z) :
    V P N (.lookup t x y true) ty env L (.tuple [enc ((iE l k).getD d),.bool (iE l k).isSome].toArray):=by
  intro a w ha hw
  obtain ⟨⟨es,clock,h1,h2⟩,_⟩:=b3e hm hw
  have hf:=qY (P:=P) (k:=k) (kt:=kt) (kind:=kind) (enc:=enc) h2.kv w
  have hg:=a7b (l:=l) (k:=k) (enc:=enc)
  simp only [execOp,ha.ev hx,ha.ev hy,Instr.lookup,Sem.run_bind,aE hM.pf,Result.andThen_ok,nX h1,kK (P:=P) (kt:=kt) (kind:=kind),hf,Sem.run_pure]
  generalize ((l.findIdx? fun p=>decide (p.1=k)).bind fun j=>(l[j]?).map fun p=>(j,enc p.2))=r at hg ⊢
  cases r with
  |none=>cases hq:iE l k<;>simp [hq] at hg;simp [f8 hZ,hd]
  |some p=>cases hq:iE l k<;>simp [hq] at hg;simp [hg]
theorem c9s {pos:String} {aft:Array Edge} {d:Nat} (enc:α→Value) (hd:Nat.blt d N=true):KO P N ⟨some d,.makeMap t none,ty,pos,aft,none⟩ env L (a1w env d (fun b=> .map (some b)) (fun b=>MapAt b enc []::L)):=by
  refine b2k (o:= .map #[] 0) (q:=fun b=>MapAt b enc []) (v:=fun b=> .map (some b)) (fun b h e=>⟨⟨#[],0,e,⟨rfl,by simp,by simp⟩⟩,by simp [pG]⟩) ?_ hd
  intro a w ha _
  simp [execOp,Instr.makeMap]
theorem c9t {es:List MapEntry} {l:List (Int×α)} {k:Int} {u:α} (h:es.map (fun e=>(e.key,e.val))=l.map (fun p=>(Value.int .i64 p.1,enc p.2))) {i:Nat} (hi:l.findIdx? (fun p=>decide (p.1=k))=some i) :
    (es.modify i (fun e=>{ e with key:= .int .i64 k,val:=enc u})).map (fun e=>(e.key,e.val))=(lS l k u).map (fun p=>(Value.int .i64 p.1,enc p.2)):=by
  induction l generalizing es i with
  |nil=>simp at hi
  |cons p r ih=>
   cases es with
   |nil=>simp at h
   |cons e es=>
    simp only [List.map_cons,List.cons.injEq] at h
    rw [List.findIdx?_cons] at hi
    by_cases hp:p.1=k
    · simp only [hp,decide_true,if_true,Option.some.injEq] at hi
      subst hi
      simp [lS,hp,h.2]
    · simp only [hp,decide_false,Bool.false_eq_true,if_false,Option.map_eq_some_iff] at hi
      obtain ⟨j,hj,rfl⟩:=hi
      simp only [lS,hp,if_false,List.modify_succ_cons,List.map_cons]
      rw [ih h.2 hj,h.1]
theorem d3r {l:List (Int×α)} {k:Int} {u:α} (h:l.findIdx? (fun p=>decide (p.1=k))=none):lS l k u=l++[(k,u)]:=by
  induction l with
  |nil=>rfl
  |cons p r ih=>
   rw [List.findIdx?_cons] at h
   by_cases hp:p.1=k
   · simp [hp] at h
   · simp only [hp,decide_false,Bool.false_eq_true,if_false,Option.map_eq_none_iff] at h
     simp [lS,hp,ih h]
theorem b8b {u:Value} {k:Int} {xv:α} {pos:String} {aft:Array Edge} {m kx vx:Operand} [hM:TU P t (.map kt et)] [hT:TU P kt (.int kind)]
    (hm0:ev env m=some (.map (some b))) (hk:ev env kx=some (.int .i64 k)) (hv:ev env vx=some u) (hm:MapIn b L enc l C) (he:enc xv=u) :
    KO P N ⟨none,.mapUpdate t m kx vx,ty,pos,aft,none⟩ env L (a4u env (C (lS l k xv))):=by
  intro a w ha hw K Q next
  subst he
  obtain ⟨R,k1,k2⟩:=hm.pf
  have hs:=k1.sat hw
  obtain ⟨⟨es,clock,h1,h2⟩,hn⟩:=a7a hs
  have hf:=qY (P:=P) (k:=k) (kt:=kt) (kind:=kind) (enc:=enc) h2.kv w
  have fin:∀ es' c',MapEs enc (lS l k xv) es' c'→(execOp a.eval ⟨none,.mapUpdate t m kx vx,ty, "", #[],none⟩).run P w= .ok .skip { w with heap:=w.heap.setIfInBounds b (.map es' c')}→
   Oper.wp P ⟨none,.mapUpdate t m kx vx,ty,pos,aft,none⟩ a w K Q:=by
    intro es' c' q run
    unfold Oper.wp
    rw [bQ,run]
    exact next _ _ a _ ⟨rfl,rfl⟩ ha ((k2 _).sat (a4g hs q (c2o hn)))
  cases hi:l.findIdx? (fun p=>decide (p.1=k)) with
  |none=>
   refine fin (es.push { key:= .int .i64 k,val:=enc xv,born:=clock}) (clock+1) ⟨?_,?_,?_⟩ ?_
   · rw [d3r hi,Array.toList_push,List.map_append,h2.kv];simp
   · intro e he
     rw [Array.toList_push,List.mem_append] at he
     rcases he with he|he
     · exact Nat.lt_succ_of_lt (h2.born e he)
     · simp at he;subst he;exact Nat.lt_succ_self _
   · rw [Array.toList_push,List.map_append,List.nodup_append]
     refine ⟨h2.uniq,by simp,?_⟩
     intro x hx y hy
     simp at hy;subst hy
     obtain ⟨e,he,rfl⟩:=List.mem_map.1 hx
     exact Nat.ne_of_lt (h2.born e he)
   · simp only [execOp,ha.ev hm0,ha.ev hk,ha.ev hv,Instr.mapUpdate,Sem.run_bind,aE hM.pf,Result.andThen_ok,nX h1,kK (P:=P) (kt:=kt) (kind:=kind),hf,hi,Option.bind_none,tZ h1,Sem.run_pure]
  |some i=>
   have hlt:=(List.findIdx?_eq_some_iff_getElem.1 hi).1
   have hkey:=(List.findIdx?_eq_some_iff_getElem.1 hi).2.1
   simp only [decide_eq_true_eq] at hkey
   have hles:es.toList.length=l.length:=by have:=congrArg List.length h2.kv;simpa using this
   have hek:(es[i]?).map (·.key)=some (.int .i64 k):=by
     have:=congrArg (fun z=>(z[i]?).map (·.1)) h2.kv
     simp only [List.getElem?_map,Array.getElem?_toList,Option.map_map] at this
     have h3:l[i]? =some l[i]:=by simp [hlt]
     rw [h3] at this
     simp only [Option.map_some,Function.comp_def] at this
     rw [this,hkey]
   refine fin (es.modify i fun e=>{ e with key:= .int .i64 k,val:=enc xv}) clock ⟨?_,?_,?_⟩ ?_
   · rw [Array.toList_modify];exact c9t h2.kv hi
   · intro e he
     rw [Array.toList_modify] at he
     have:∀ x∈(es.toList.modify i fun e=>{ e with key:=Value.int .i64 k,val:=enc xv}).map (·.born),x<clock:=by
       have e1:(es.toList.modify i fun e=>{ e with key:=Value.int .i64 k,val:=enc xv}).map (·.born)=es.toList.map (·.born):=by
         apply List.ext_getElem?
         intro j
         simp only [List.getElem?_map,List.getElem?_modify]
         by_cases hj:i=j<;>simp [hj]<;>cases es[j]? <;>rfl
       rw [e1]
       intro x hx
       obtain ⟨e,he,rfl⟩:=List.mem_map.1 hx
       exact h2.born e he
     exact this _ (List.mem_map.2 ⟨e,he,rfl⟩)
   · have e1:(es.modify i fun e=>{ e with key:=Value.int .i64 k,val:=enc xv}).toList.map (·.born)=es.toList.map (·.born):=by
       rw [Array.toList_modify]
       apply List.ext_getElem?
       intro j
       simp only [List.getElem?_map,List.getElem?_modify]
       by_cases hj:i=j<;>simp [hj]<;>cases es[j]? <;>rfl
     rw [e1];exact h2.uniq
   · have h3:l[i]? =some l[i]:=by simp [hlt]
     simp only [execOp,ha.ev hm0,ha.ev hk,ha.ev hv,Instr.mapUpdate,Sem.run_bind,aE hM.pf,Result.andThen_ok,nX h1,kK (P:=P) (kt:=kt) (kind:=kind),hf,hi,Option.bind_some,h3,Option.map_some,hek,Option.getD_some,Instr.keyThatStays]
     simp [Instr.sameBits,tZ h1]
theorem d3s {k:Int} {pos:String} {aft:Array Edge} {d:Option Nat} {m kx:Operand} {ats:List TypeId} [hM:TU P t (.map kt et)] [hT:TU P kt (.int kind)]
    (hm0:ev env m=some (.map (some b))) (hk:ev env kx=some (.int .i64 k)) (hm:MapIn b L enc l C) (hd:xX N d=true) :
    KO P N ⟨d,.call ⟨.builtin .delete,[m,kx].toArray,(t::ats).toArray⟩,ty,pos,aft,none⟩ env L (a4u (rM env d (.tuple #[])) (C (b1i l k))):=by
  intro a w ha hw K Q next
  obtain ⟨R,k1,k2⟩:=hm.pf
  have hs:=k1.sat hw
  obtain ⟨⟨es,clock,h1,h2⟩,hn⟩:=a7a hs
  have hf:=qY (P:=P) (k:=k) (kt:=kt) (kind:=kind) (enc:=enc) h2.kv w
  have fin:∀ es' c',MapEs enc (b1i l k) es' c'→(Builtin.delete_ (t::ats).toArray ty #[.map (some b),.int .i64 k]).run P w= .ok (.tuple #[]) { w with heap:=w.heap.setIfInBounds b (.map es' c')}→
   Oper.wp P ⟨d,.call ⟨.builtin .delete,[m,kx].toArray,(t::ats).toArray⟩,ty,pos,aft,none⟩ a w K Q:=by
    intro es' c' q run
    unfold Oper.wp
    have ex:=gU (P:=P) (ρ:=a.eval) (b:= .delete) (args:=[m,kx]) (ats:=(t::ats).toArray) (ty:=ty) (vs:=[.map (some b),.int .i64 k]) (by simp [ha.ev hm0,ha.ev hk]) (w:=w) (r:= .ok (.value (.tuple #[])) { w with heap:=w.heap.setIfInBounds b (.map es' c')}) (fun cs=>by
      simp [builtin,run])
    rw [bQ,ex]
    exact next _ _ _ _ ⟨rfl,rfl⟩ (ha.puts hd _) ((k2 _).sat (a4g hs q (c2p hn)))
  have sub:∀ (es':List MapEntry),es'.Sublist es.toList→(∀ e∈es',e.born<clock)∧(es'.map (·.born)).Nodup:=fun es' hsub=>
    ⟨fun e he=>h2.born e (hsub.subset he),h2.uniq.sublist (hsub.map _)⟩
  cases hi:l.findIdx? (fun p=>decide (p.1=k)) with
  |none=>
   have hdel:b1i l k=l:=by
     unfold b1i
     rw [List.eraseP_of_forall_not]
     intro p hp
     simpa using List.findIdx?_eq_none_iff.1 hi p hp
   refine fin es clock (by rw [hdel];exact h2) ?_
   simp [Builtin.delete_,aE hM.pf,nX h1,kK (P:=P) (kt:=kt) (kind:=kind),hf,hi,tZ h1]
  |some i=>
   have hlt:=(List.findIdx?_eq_some_iff_getElem.1 hi).1
   have hles:es.toList.length=l.length:=by have:=congrArg List.length h2.kv;simpa using this
   have h3:l[i]? =some l[i]:=by simp [hlt]
   have hdel:b1i l k=l.eraseIdx i:=by
     unfold b1i
     rw [List.eraseP_eq_eraseIdx,hi]
   obtain ⟨s1,s2⟩:=sub (es.toList.eraseIdx i) (List.eraseIdx_sublist _ _)
   have hte:(es.eraseIdxIfInBounds i).toList=es.toList.eraseIdx i:=by simp
   refine fin (es.eraseIdxIfInBounds i) clock ⟨?_,by rw [hte];exact s1,by rw [hte];exact s2⟩ ?_
   · rw [hte,hdel]
     have:∀ {A B:Type} (f:A→B) (x:List A) (i:Nat),(x.eraseIdx i).map f=(x.map f).eraseIdx i:=fun f x i=>by
       induction x generalizing i with
       |nil=>simp
       |cons a r ih=>cases i<;>simp [ih]
     rw [this,this,h2.kv]
   · simp [Builtin.delete_,aE hM.pf,nX h1,kK (P:=P) (kt:=kt) (kind:=kind),hf,hi,h3,tZ h1]
end
section
variable {P:Program} {N:Nat} {α:Type} {enc:α→Value} {l:List (Int×α)} {b:Nat} {t ty kt et:TypeId} {x y:Operand} {env:Env} {L:List HP} {C:List (Int×α)→List HP}
end
class MapT (P:Program) (t:TypeId) {α:outParam Type} (enc:outParam (α→Value)) (d:outParam α):Prop where
  pf:∃ kt et kind n bs,P.underlying t=some (.map kt et)∧P.underlying kt=some (.int kind)∧(P.info? et).map (fun i=>(i.size,i.zero,i.bytes))=some (n,some (enc d),bs)
section
variable {P:Program} {N:Nat} {α:Type} {enc:α→Value} {dv:α} {l:List (Int×α)} {b:Nat} {t ty:TypeId} {x y:Operand} {env:Env} {L:List HP} {C:List (Int×α)→List HP}
theorem c9u {k:Int} [h:MapT P t enc dv] (hx:ev env x=some (.map (some b))) (hy:ev env y=some (.int .i64 k)) (hm:MapIn b L enc l C):V P N (.lookup t x y false) ty env L (enc ((iE l k).getD dv)):=by
  obtain ⟨kt,et,kind,n,bs,h1,h2,h3⟩:=h.pf
  exact d3q (hM:=⟨h1⟩) (hT:=⟨h2⟩) (hZ:=⟨h3⟩) hx hy hm rfl
theorem c2q {k:Int} [h:MapT P t enc dv] (hx:ev env x=some (.map (some b))) (hy:ev env y=some (.int .i64 k)) (hm:MapIn b L enc l C):V P N (.lookup t x y true) ty env L (.tuple [enc ((iE l k).getD dv),.bool (iE l k).isSome].toArray):=by
  obtain ⟨kt,et,kind,n,bs,h1,h2,h3⟩:=h.pf
  exact c9r (hM:=⟨h1⟩) (hT:=⟨h2⟩) (hZ:=⟨h3⟩) hx hy hm rfl
theorem c2r {pos:String} {aft:Array Edge} {d:Nat} [h:MapT P t enc dv] (hd:Nat.blt d N=true):KO P N ⟨some d,.makeMap t none,ty,pos,aft,none⟩ env L (a1w env d (fun b=> .map (some b)) (fun b=>MapAt b enc []::L)):=c9s enc hd
theorem pH {u:Value} {k:Int} {xv:α} {pos:String} {aft:Array Edge} {m kx vx:Operand} [h:MapT P t enc dv]
    (hm0:ev env m=some (.map (some b))) (hk:ev env kx=some (.int .i64 k)) (hv:ev env vx=some u) (hm:MapIn b L enc l C) (he:enc xv=u) :
    KO P N ⟨none,.mapUpdate t m kx vx,ty,pos,aft,none⟩ env L (a4u env (C (lS l k xv))):=by
  obtain ⟨kt,et,kind,n,bs,h1,h2,h3⟩:=h.pf
  exact b8b (hM:=⟨h1⟩) (hT:=⟨h2⟩) hm0 hk hv hm he
theorem c9v {k:Int} {pos:String} {aft:Array Edge} {m kx:Operand} {ats:List TypeId} [h:MapT P t enc dv] (hm0:ev env m=some (.map (some b))) (hk:ev env kx=some (.int .i64 k)) (hm:MapIn b L enc l C) :
    KO P N ⟨none,.call ⟨.builtin .delete,[m,kx].toArray,(t::ats).toArray⟩,ty,pos,aft,none⟩ env L (a4u env (C (b1i l k))):=by
  obtain ⟨kt,et,kind,n,bs,h1,h2,h3⟩:=h.pf
  exact d3s (d:=none) (hM:=⟨h1⟩) (hT:=⟨h2⟩) hm0 hk hm rfl
end
section
variable {P:Program} {N:Nat} {α:Type} {enc:α→Value} {l:List (Int×α)} {b:Nat} {env:Env} {L:List HP} {Q:Exit→Act→World→Prop}
end
end Go.Sx
