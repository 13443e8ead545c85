/- Maps from whole numbers. My own work; names no program. -/
import Derived.Test.YtjihlpjnebdiiaaGreatSl
set_option linter.unusedVariables false
set_option linter.unusedSectionVars false
set_option linter.unusedSimpArgs false
namespace Go.Sx
open Go
section
variable {α:Type}
def fQ (l:List (Int×α)) (k:Int):Option α:=(l.find? fun p=>decide (p.1=k)).map (·.2)
def kC:List (Int×α)→Int→α→List (Int×α)
  | [],k,x=>[(k,x)]
  |p::r,k,x=>if p.1=k then (k,x)::r else p::kC r k x
def b2o (l:List (Int×α)) (k:Int):List (Int×α):=l.eraseP fun p=>decide (p.1=k)
def nM (l:List (Int×α)):List Int:=l.map (·.1)
theorem b7g (k:Int):fQ ([]:List (Int×α)) k=none:=rfl
theorem lI (p:Int×α) (l:List (Int×α)) (k:Int):fQ (p::l) k=if p.1=k then some p.2 else fQ l k:=by
  unfold fQ;rw [List.find?_cons]
  by_cases h:p.1=k<;>simp [h]
theorem v6 (l:List (Int×α)) (k:Int) (x:α) (j:Int):fQ (kC l k x) j=if j=k then some x else fQ l j:=by
  induction l with
  |nil=>simp only [kC,lI,b7g];by_cases h:k=j<;>by_cases h':j=k<;>simp_all
  |cons p r ih=>
   simp only [kC]
   by_cases h:p.1=k
   · rw [if_pos h,lI,lI]
     by_cases h1:j=k
     · subst h1;simp
     · have:¬k=j:=fun e=>h1 e.symm
       simp [h1,this,h]
   · rw [if_neg h,lI,lI,ih]
     by_cases h1:p.1=j
     · subst h1;simp [h]
     · simp [h1]
theorem b9o (l:List (Int×α)) (k:Int) (x:α):nM (kC l k x)=if (fQ l k).isSome then nM l else nM l++[k]:=by
  induction l with
  |nil=>simp [kC,nM,b7g]
  |cons p r ih=>
   simp only [kC,lI]
   by_cases h:p.1=k
   · simp [h,nM]
   · simp only [h,if_false]
     unfold nM at ih ⊢
     rw [List.map_cons,ih]
     split<;>simp
theorem c6c (l:List (Int×α)) (k:Int):fQ l k=none↔k∉nM l:=by
  unfold fQ nM
  rw [Option.map_eq_none_iff,List.find?_eq_none]
  simp only [decide_eq_true_eq,List.mem_map,not_exists,not_and]
theorem b9p {l:List (Int×α)} {k:Int} {x:α} (h:(nM l).Nodup):(nM (kC l k x)).Nodup:=by
  rw [b9o]
  cases e:fQ l k with
  |some _=>simpa using h
  |none=>
   have:=(c6c l k).1 e
   simp only [Option.isSome_none,Bool.false_eq_true,if_false]
   rw [List.nodup_append]
   exact ⟨h,by simp,by intro a ha b hb;simp at hb;subst hb;exact fun e=>this (e▸ha)⟩
theorem b9q {l:List (Int×α)} {k:Int} (h:(nM l).Nodup):(nM (b2o l k)).Nodup:=by
  unfold nM b2o at *
  exact h.sublist (List.eraseP_sublist.map _)
theorem d0r {l:List (Int×α)} {k:Int} {x:α} (h:fQ l k=some x):(k,x)∈l:=by
  unfold fQ at h
  simp only [Option.map_eq_some_iff] at h
  obtain ⟨p,hp,rfl⟩:=h
  have h1:=List.find?_some hp
  have h2:=List.mem_of_find?_eq_some hp
  simp at h1;subst h1;exact h2
end
structure MapEs {α:Type} (enc:α→Value) (l:List (Int×α)) (es:Array MapEntry) (clock:Nat):Prop where
  kv:es.toList.map (fun e=>(e.key,e.val))=l.map (fun p=>(Value.int .i64 p.1,enc p.2))
  born:∀ e∈es.toList,e.born<clock
  uniq:(es.toList.map (·.born)).Nodup
structure MapAt {α:Type} (b:Nat) (enc:α→Value) (l:List (Int×α)) (h:PH):Prop where
  pf:∃ es clock,h.c b=some (.map es clock)∧MapEs enc l es clock
  nd:(nM l).Nodup
class MapIn {α:outParam Type} (b:Nat) (L:List HP) (enc:outParam (α→Value)) (l:outParam (List (Int×α))) (C:outParam (List (Int×α)→List HP)):Prop where
  pf:∃ R,Ent L (MapAt b enc l::R)∧∀ l',Ent (MapAt b enc l'::R) (C l')
instance (priority:=high) MapIn.here {α:Type} {b:Nat} {enc:α→Value} {l:List (Int×α)} {L:List HP}:MapIn b (MapAt b enc l::L) enc l (fun l'=>MapAt b enc l'::L):=⟨L,Ent.refl,fun _=>Ent.refl⟩
instance MapIn.there {α:Type} {b:Nat} {enc:α→Value} {l:List (Int×α)} {q:HP} {L:List HP} {C:List (Int×α)→List HP} [k:MapIn b L enc l C]:MapIn b (q::L) enc l (fun l'=>q::C l'):=
  let ⟨R,h1,h2⟩:=k.pf
  ⟨q::R,fun _ h=>gE (fA h1 h),fun l' _ h=>fA (h2 l') (gE h)⟩
theorem a0d {α:Type} {b:Nat} {enc:α→Value} {l:List (Int×α)} {L:List HP} {w:World} (H:d3 (MapAt b enc l::L) w):(∃ es clock,w.heap[b]? =some (.map es clock)∧MapEs enc l es clock)∧(nM l).Nodup:=by
  obtain ⟨S,_,_,hp,_⟩:=H
  obtain ⟨es,clock,h1,h2⟩:=hp.pf
  exact ⟨⟨es,clock,(nN h1).2,h2⟩,hp.nd⟩
theorem b0b {α:Type} {b:Nat} {enc:α→Value} {l:List (Int×α)} {C:List (Int×α)→List HP} {L:List HP} {w:World} (k:MapIn b L enc l C) (h:d3 L w):(∃ es clock,w.heap[b]? =some (.map es clock)∧MapEs enc l es clock)∧(nM l).Nodup:=
  let ⟨_,h1,_⟩:=k.pf
  a0d (h1.sat h)
theorem a1v {α:Type} {enc:α→Value} {kind:IntKind} {k:Int}:∀ (es:List MapEntry) (l:List (Int×α)) (i:Nat),es.map (fun e=>(e.key,e.val))=l.map (fun p=>(Value.int .i64 p.1,enc p.2))→
    Instr.findNow (.int kind) (.int .i64 k) es i=some ((l.findIdx? fun p=>decide (p.1=k)).bind fun j=>(l[j]?).map fun p=>(i+j,enc p.2))
  | [],[],i,_=>by simp [Instr.findNow]
  |e::es,p::l,i,h=>by
   simp only [List.map_cons,List.cons.injEq,Prod.mk.injEq] at h
   obtain ⟨⟨h1,h2⟩,h3⟩:=h
   simp only [Instr.findNow,h1,Instr.sameNow,if_true]
   by_cases hk:p.1=k
   · have:(k == p.1)=true:=by simp [hk]
     simp [this,hk,h2,List.findIdx?_cons]
   · have:(k == p.1)=false:=by simpa using fun e=>hk e.symm
     simp only [this]
     rw [a1v es l (i+1) h3]
     simp only [List.findIdx?_cons,hk,decide_false,Bool.false_eq_true,if_false]
     cases List.findIdx? (fun p=>decide (p.1=k)) l with
     |none=>simp
     |some j=>simp [Nat.add_assoc,Nat.add_comm 1 j]
  | [],_::_,_,h=>by simp at h
  |_::_,[],_,h=>by simp at h
theorem p5 {P:Program} {α:Type} {enc:α→Value} {kt:TypeId} {kind:IntKind} [hT:TU P kt (.int kind)] {k:Int} {es:List MapEntry} {l:List (Int×α)} (h:es.map (fun e=>(e.key,e.val))=l.map (fun p=>(Value.int .i64 p.1,enc p.2))) (w:World) :
    (Instr.findKey kt (.int .i64 k) es).run P w= .ok ((l.findIdx? fun p=>decide (p.1=k)).bind fun j=>(l[j]?).map fun p=>(j,enc p.2)) w:=by
  unfold Instr.findKey
  simp only [Sem.run_bind,aE hT.pf,Result.andThen_ok,a1v es l 0 h,Nat.zero_add,Sem.run_pure]
theorem jO {P:Program} {kt:TypeId} {kind:IntKind} [hT:TU P kt (.int kind)] {k:Int} {em:Bool} (w:World):(Instr.checkKey em 10000 kt (.int .i64 k)).run P w= .ok () w:=by
  have:∀ n,(Instr.checkKey em (n+1) kt (.int .i64 k)).run P w= .ok () w:=fun n=>by
    simp only [Instr.checkKey,Sem.run_bind,aE hT.pf,Result.andThen_ok,Sem.run_pure]
  exact this 9999
theorem a4w {α:Type} {l:List (Int×α)} {k:Int} {enc:α→Value}:((l.findIdx? fun p=>decide (p.1=k)).bind fun j=>(l[j]?).map fun p=>(j,enc p.2)).map (·.2)=(fQ l k).map enc:=by
  unfold fQ
  induction l with
  |nil=>rfl
  |cons p r ih=>
   rw [List.findIdx?_cons,List.find?_cons]
   by_cases h:p.1=k
   · simp [h]
   · simp only [h,decide_false,Bool.false_eq_true,if_false]
     rw [←ih]
     cases List.findIdx? (fun p=>decide (p.1=k)) r with
     |none=>simp
     |some j=>simp only [Option.map_some,Option.bind_some,List.getElem?_cons_succ,Option.map_map];rfl
theorem iI {P:Program} {w:World} {b:Nat} {es:Array MapEntry} {clock:Nat} (h:w.heap[b]? =some (.map es clock)):(getObj b).run P w= .ok (.map es clock) w:=by
  simp only [getObj,Sem.run,h]
theorem s7 {P:Program} {w:World} {b:Nat} {es es':Array MapEntry} {clock c':Nat} (h:w.heap[b]? =some (.map es clock)):(setObj b (.map es' c')).run P w= .ok () { w with heap:=w.heap.setIfInBounds b (.map es' c')}:=by
  simp only [setObj,Sem.run,h]
theorem a1w {α:Type} {b:Nat} {enc:α→Value} {l l':List (Int×α)} {L:List HP} {w:World} {es':Array MapEntry} {c':Nat} (H:d3 (MapAt b enc l::L) w) (h:MapEs enc l' es' c') (hn:(nM l').Nodup) :
    d3 (MapAt b enc l'::L) { w with heap:=w.heap.setIfInBounds b (.map es' c')}:=by
  obtain ⟨⟨es,clock,h1,_⟩,_⟩:=a0d H
  have hb:=(Array.getElem?_eq_some_iff.1 h1).1
  refine qW (w:=w) (b:=b) (o:= .map es' c') (MapAt b enc l') (fun h hp=>?_) (fun ph e=>⟨⟨es',c',e,h⟩,hn⟩) (by simp [hb]) (fun k hk=>?_) rfl rfl rfl H
  · obtain ⟨es,clock,q,_⟩:=hp.pf;exact ⟨_,q⟩
  · simp [Array.getElem?_setIfInBounds,Ne.symm hk]
section
variable {P:Program} {N:Nat} {α:Type} {enc:α→Value} {l:List (Int×α)} {b:Nat} {t ty kt et:TypeId} {kind:IntKind} {x y:Operand} {env:Env} {L:List HP} {C:List (Int×α)→List HP}
theorem d0s {sz bs:Nat} {z:Value} {k:Int} {d:α} [hM:TU P t (.map kt et)] [hT:TU P kt (.int kind)] [hZ:TZ P et sz z bs] (hx:ev env x=some (.map (some b))) (hy:ev env y=some (.int .i64 k)) (hm:MapIn b L enc l C) (hd:enc d=z) :
    V P N (.lookup t x y false) ty env L (enc ((fQ l k).getD d)):=by
  intro a w ha hw
  obtain ⟨⟨es,clock,h1,h2⟩,_⟩:=b0b hm hw
  have hf:=p5 (P:=P) (k:=k) (kt:=kt) (kind:=kind) (enc:=enc) h2.kv w
  have hg:=a4w (l:=l) (k:=k) (enc:=enc)
  simp only [execOp,ha.ev hx,ha.ev hy,Instr.lookup,Sem.run_bind,aE hM.pf,Result.andThen_ok,iI h1,jO (P:=P) (kt:=kt) (kind:=kind),hf,Sem.run_pure]
  generalize ((l.findIdx? fun p=>decide (p.1=k)).bind fun j=>(l[j]?).map fun p=>(j,enc p.2))=r at hg ⊢
  cases r with
  |none=>cases hq:fQ l k<;>simp [hq] at hg;simp [eR hZ,hd]
  |some p=>cases hq:fQ l k<;>simp [hq] at hg;simp [hg]
theorem c6d {sz bs:Nat} {z:Value} {k:Int} {d:α} [hM:TU P t (.map kt et)] [hT:TU P kt (.int kind)] [hZ:TZ P et sz z bs] (hx:ev env x=some (.map (some b))) (hy:ev env y=some (.int .i64 k)) (hm:MapIn b L enc l C) (hd:enc d=z) :
    V P N (.lookup t x y true) ty env L (.tuple [enc ((fQ l k).getD d),.bool (fQ l k).isSome].toArray):=by
  intro a w ha hw
  obtain ⟨⟨es,clock,h1,h2⟩,_⟩:=b0b hm hw
  have hf:=p5 (P:=P) (k:=k) (kt:=kt) (kind:=kind) (enc:=enc) h2.kv w
  have hg:=a4w (l:=l) (k:=k) (enc:=enc)
  simp only [execOp,ha.ev hx,ha.ev hy,Instr.lookup,Sem.run_bind,aE hM.pf,Result.andThen_ok,iI h1,jO (P:=P) (kt:=kt) (kind:=kind),hf,Sem.run_pure]
  generalize ((l.findIdx? fun p=>decide (p.1=k)).bind fun j=>(l[j]?).map fun p=>(j,enc p.2))=r at hg ⊢
  cases r with
  |none=>cases hq:fQ l k<;>simp [hq] at hg;simp [eR hZ,hd]
  |some p=>cases hq:fQ l k<;>simp [hq] at hg;simp [hg]
theorem c6e {pos:String} {aft:Array Edge} {d:Nat} (enc:α→Value) (hd:Nat.blt d N=true):KO P N ⟨some d,.makeMap t none,ty,pos,aft,none⟩ env L (yL env d (fun b=> .map (some b)) (fun b=>MapAt b enc []::L)):=by
  refine a9h (o:= .map #[] 0) (q:=fun b=>MapAt b enc []) (v:=fun b=> .map (some b)) (fun b h e=>⟨⟨#[],0,e,⟨rfl,by simp,by simp⟩⟩,by simp [nM]⟩) ?_ hd
  intro a w ha _
  simp [execOp,Instr.makeMap]
theorem c6f {es:List MapEntry} {l:List (Int×α)} {k:Int} {u:α} (h:es.map (fun e=>(e.key,e.val))=l.map (fun p=>(Value.int .i64 p.1,enc p.2))) {i:Nat} (hi:l.findIdx? (fun p=>decide (p.1=k))=some i) :
    (es.modify i (fun e=>{ e with key:= .int .i64 k,val:=enc u})).map (fun e=>(e.key,e.val))=(kC l k u).map (fun p=>(Value.int .i64 p.1,enc p.2)):=by
  induction l generalizing es i with
  |nil=>simp at hi
  |cons p r ih=>
   cases es with
   |nil=>simp at h
   |cons e es=>
    simp only [List.map_cons,List.cons.injEq] at h
    rw [List.findIdx?_cons] at hi
    by_cases hp:p.1=k
    · simp only [hp,decide_true,if_true,Option.some.injEq] at hi
      subst hi
      simp [kC,hp,h.2]
    · simp only [hp,decide_false,Bool.false_eq_true,if_false,Option.map_eq_some_iff] at hi
      obtain ⟨j,hj,rfl⟩:=hi
      simp only [kC,hp,if_false,List.modify_succ_cons,List.map_cons]
      rw [ih h.2 hj,h.1]
theorem d0t {l:List (Int×α)} {k:Int} {u:α} (h:l.findIdx? (fun p=>decide (p.1=k))=none):kC l k u=l++[(k,u)]:=by
  induction l with
  |nil=>rfl
  |cons p r ih=>
   rw [List.findIdx?_cons] at h
   by_cases hp:p.1=k
   · simp [hp] at h
   · simp only [hp,decide_false,Bool.false_eq_true,if_false,Option.map_eq_none_iff] at h
     simp [kC,hp,ih h]
theorem b5g {u:Value} {k:Int} {xv:α} {pos:String} {aft:Array Edge} {m kx vx:Operand} [hM:TU P t (.map kt et)] [hT:TU P kt (.int kind)]
    (hm0:ev env m=some (.map (some b))) (hk:ev env kx=some (.int .i64 k)) (hv:ev env vx=some u) (hm:MapIn b L enc l C) (he:enc xv=u) :
    KO P N ⟨none,.mapUpdate t m kx vx,ty,pos,aft,none⟩ env L (a2m env (C (kC l k xv))):=by
  intro a w ha hw K Q next
  subst he
  obtain ⟨R,k1,k2⟩:=hm.pf
  have hs:=k1.sat hw
  obtain ⟨⟨es,clock,h1,h2⟩,hn⟩:=a0d hs
  have hf:=p5 (P:=P) (k:=k) (kt:=kt) (kind:=kind) (enc:=enc) h2.kv w
  have fin:∀ es' c',MapEs enc (kC l k xv) es' c'→(execOp a.eval ⟨none,.mapUpdate t m kx vx,ty, "", #[],none⟩).run P w= .ok .skip { w with heap:=w.heap.setIfInBounds b (.map es' c')}→
   Oper.wp P ⟨none,.mapUpdate t m kx vx,ty,pos,aft,none⟩ a w K Q:=by
    intro es' c' q run
    unfold Oper.wp
    rw [bE,run]
    exact next _ _ a _ ⟨rfl,rfl⟩ ha ((k2 _).sat (a1w hs q (b9p hn)))
  cases hi:l.findIdx? (fun p=>decide (p.1=k)) with
  |none=>
   refine fin (es.push { key:= .int .i64 k,val:=enc xv,born:=clock}) (clock+1) ⟨?_,?_,?_⟩ ?_
   · rw [d0t hi,Array.toList_push,List.map_append,h2.kv];simp
   · intro e he
     rw [Array.toList_push,List.mem_append] at he
     rcases he with he|he
     · exact Nat.lt_succ_of_lt (h2.born e he)
     · simp at he;subst he;exact Nat.lt_succ_self _
   · rw [Array.toList_push,List.map_append,List.nodup_append]
     refine ⟨h2.uniq,by simp,?_⟩
     intro x hx y hy
     simp at hy;subst hy
     obtain ⟨e,he,rfl⟩:=List.mem_map.1 hx
     exact Nat.ne_of_lt (h2.born e he)
   · simp only [execOp,ha.ev hm0,ha.ev hk,ha.ev hv,Instr.mapUpdate,Sem.run_bind,aE hM.pf,Result.andThen_ok,iI h1,jO (P:=P) (kt:=kt) (kind:=kind),hf,hi,Option.bind_none,s7 h1,Sem.run_pure]
  |some i=>
   have hlt:=(List.findIdx?_eq_some_iff_getElem.1 hi).1
   have hkey:=(List.findIdx?_eq_some_iff_getElem.1 hi).2.1
   simp only [decide_eq_true_eq] at hkey
   have hles:es.toList.length=l.length:=by have:=congrArg List.length h2.kv;simpa using this
   have hek:(es[i]?).map (·.key)=some (.int .i64 k):=by
     have:=congrArg (fun z=>(z[i]?).map (·.1)) h2.kv
     simp only [List.getElem?_map,Array.getElem?_toList,Option.map_map] at this
     have h3:l[i]? =some l[i]:=by simp [hlt]
     rw [h3] at this
     simp only [Option.map_some,Function.comp_def] at this
     rw [this,hkey]
   refine fin (es.modify i fun e=>{ e with key:= .int .i64 k,val:=enc xv}) clock ⟨?_,?_,?_⟩ ?_
   · rw [Array.toList_modify];exact c6f h2.kv hi
   · intro e he
     rw [Array.toList_modify] at he
     have:∀ x∈(es.toList.modify i fun e=>{ e with key:=Value.int .i64 k,val:=enc xv}).map (·.born),x<clock:=by
       have e1:(es.toList.modify i fun e=>{ e with key:=Value.int .i64 k,val:=enc xv}).map (·.born)=es.toList.map (·.born):=by
         apply List.ext_getElem?
         intro j
         simp only [List.getElem?_map,List.getElem?_modify]
         by_cases hj:i=j<;>simp [hj]<;>cases es[j]? <;>rfl
       rw [e1]
       intro x hx
       obtain ⟨e,he,rfl⟩:=List.mem_map.1 hx
       exact h2.born e he
     exact this _ (List.mem_map.2 ⟨e,he,rfl⟩)
   · have e1:(es.modify i fun e=>{ e with key:=Value.int .i64 k,val:=enc xv}).toList.map (·.born)=es.toList.map (·.born):=by
       rw [Array.toList_modify]
       apply List.ext_getElem?
       intro j
       simp only [List.getElem?_map,List.getElem?_modify]
       by_cases hj:i=j<;>simp [hj]<;>cases es[j]? <;>rfl
     rw [e1];exact h2.uniq
   · have h3:l[i]? =some l[i]:=by simp [hlt]
     simp only [execOp,ha.ev hm0,ha.ev hk,ha.ev hv,Instr.mapUpdate,Sem.run_bind,aE hM.pf,Result.andThen_ok,iI h1,jO (P:=P) (kt:=kt) (kind:=kind),hf,hi,Option.bind_some,h3,Option.map_some,hek,Option.getD_some,Instr.keyThatStays]
     simp [Instr.sameBits,s7 h1]
theorem d0u {k:Int} {pos:String} {aft:Array Edge} {d:Option Nat} {m kx:Operand} {ats:List TypeId} [hM:TU P t (.map kt et)] [hT:TU P kt (.int kind)]
    (hm0:ev env m=some (.map (some b))) (hk:ev env kx=some (.int .i64 k)) (hm:MapIn b L enc l C) (hd:wB N d=true) :
    KO P N ⟨d,.call ⟨.builtin .delete,[m,kx].toArray,(t::ats).toArray⟩,ty,pos,aft,none⟩ env L (a2m (qL env d (.tuple #[])) (C (b2o l k))):=by
  intro a w ha hw K Q next
  obtain ⟨R,k1,k2⟩:=hm.pf
  have hs:=k1.sat hw
  obtain ⟨⟨es,clock,h1,h2⟩,hn⟩:=a0d hs
  have hf:=p5 (P:=P) (k:=k) (kt:=kt) (kind:=kind) (enc:=enc) h2.kv w
  have fin:∀ es' c',MapEs enc (b2o l k) es' c'→(Builtin.delete_ (t::ats).toArray ty #[.map (some b),.int .i64 k]).run P w= .ok (.tuple #[]) { w with heap:=w.heap.setIfInBounds b (.map es' c')}→
   Oper.wp P ⟨d,.call ⟨.builtin .delete,[m,kx].toArray,(t::ats).toArray⟩,ty,pos,aft,none⟩ a w K Q:=by
    intro es' c' q run
    unfold Oper.wp
    have ex:=gC (P:=P) (ρ:=a.eval) (b:= .delete) (args:=[m,kx]) (ats:=(t::ats).toArray) (ty:=ty) (vs:=[.map (some b),.int .i64 k]) (by simp [ha.ev hm0,ha.ev hk]) (w:=w) (r:= .ok (.value (.tuple #[])) { w with heap:=w.heap.setIfInBounds b (.map es' c')}) (fun cs=>by
      simp [builtin,run])
    rw [bE,ex]
    exact next _ _ _ _ ⟨rfl,rfl⟩ (ha.puts hd _) ((k2 _).sat (a1w hs q (b9q hn)))
  have sub:∀ (es':List MapEntry),es'.Sublist es.toList→(∀ e∈es',e.born<clock)∧(es'.map (·.born)).Nodup:=fun es' hsub=>
    ⟨fun e he=>h2.born e (hsub.subset he),h2.uniq.sublist (hsub.map _)⟩
  cases hi:l.findIdx? (fun p=>decide (p.1=k)) with
  |none=>
   have hdel:b2o l k=l:=by
     unfold b2o
     rw [List.eraseP_of_forall_not]
     intro p hp
     simpa using List.findIdx?_eq_none_iff.1 hi p hp
   refine fin es clock (by rw [hdel];exact h2) ?_
   simp [Builtin.delete_,aE hM.pf,iI h1,jO (P:=P) (kt:=kt) (kind:=kind),hf,hi,s7 h1]
  |some i=>
   have hlt:=(List.findIdx?_eq_some_iff_getElem.1 hi).1
   have hles:es.toList.length=l.length:=by have:=congrArg List.length h2.kv;simpa using this
   have h3:l[i]? =some l[i]:=by simp [hlt]
   have hdel:b2o l k=l.eraseIdx i:=by
     unfold b2o
     rw [List.eraseP_eq_eraseIdx,hi]
   obtain ⟨s1,s2⟩:=sub (es.toList.eraseIdx i) (List.eraseIdx_sublist _ _)
   have hte:(es.eraseIdxIfInBounds i).toList=es.toList.eraseIdx i:=by simp
   refine fin (es.eraseIdxIfInBounds i) clock ⟨?_,by rw [hte];exact s1,by rw [hte];exact s2⟩ ?_
   · rw [hte,hdel]
     have:∀ {A B:Type} (f:A→B) (x:List A) (i:Nat),(x.eraseIdx i).map f=(x.map f).eraseIdx i:=fun f x i=>by
       induction x generalizing i with
       |nil=>simp
       |cons a r ih=>cases i<;>simp [ih]
     rw [this,this,h2.kv]
   · simp [Builtin.delete_,aE hM.pf,iI h1,jO (P:=P) (kt:=kt) (kind:=kind),hf,hi,h3,s7 h1]
end
structure MapIt {α:Type} (b it:Nat) (enc:α→Value) (l:List (Int×α)) (cur:Option (Int×α)) (n:Nat) (h:PH):Prop where
  pf:∃ es clock since seen,h.c b=some (.map es clock)∧h.c it=some (.mapIter (some b) since seen clock)∧MapEs enc l es clock∧((es.toList.filter fun e=> !seen.contains e.born).length=n)∧
   (∀ p,cur=some p→∃ e∈es.toList,seen.back? =some e.born∧e.key= .int .i64 p.1∧e.val=enc p.2)
  ne:b≠it
  nd:(nM l).Nodup
class ItIn {α:outParam Type} (it:Nat) (L:List HP) (b:outParam Nat) (enc:outParam (α→Value)) (l:outParam (List (Int×α))) (cur:outParam (Option (Int×α))) (n:outParam Nat) (C:outParam (Option (Int×α)→Nat→List HP)):Prop where
  pf:∃ R,Ent L (MapIt b it enc l cur n::R)∧∀ cur' n',Ent (MapIt b it enc l cur' n'::R) (C cur' n')
instance (priority:=high) ItIn.here {α:Type} {b it:Nat} {enc:α→Value} {l:List (Int×α)} {cur:Option (Int×α)} {n:Nat} {L:List HP}:ItIn it (MapIt b it enc l cur n::L) b enc l cur n (fun cur' n'=>MapIt b it enc l cur' n'::L):=⟨L,Ent.refl,fun _ _=>Ent.refl⟩
instance ItIn.there {α:Type} {b it:Nat} {enc:α→Value} {l:List (Int×α)} {cur:Option (Int×α)} {n:Nat} {q:HP} {L:List HP} {C:Option (Int×α)→Nat→List HP} [k:ItIn it L b enc l cur n C]:ItIn it (q::L) b enc l cur n (fun cur' n'=>q::C cur' n'):=
  let ⟨R,h1,h2⟩:=k.pf
  ⟨q::R,fun _ h=>gE (fA h1 h),fun c n _ h=>fA (h2 c n) (gE h)⟩
theorem d0v {α:Type} {b it:Nat} {enc:α→Value} {l:List (Int×α)} {cur:Option (Int×α)} {n:Nat} {M:List HP}:Ent (MapIt b it enc l cur n::M) (MapAt b enc l::M):=fun h H=>by
  obtain ⟨S,T,d,h1,h2⟩:=H
  obtain ⟨es,clock,since,seen,q1,q2,q3,_,_⟩:=h1.pf
  exact ⟨S,T,d,⟨⟨es,clock,q1,q3⟩,h1.nd⟩,h2⟩
theorem c6g {β:Type} {p p':β→Bool} (h:∀ x,p' x=true→p x=true) {l:List β} {e:β} (he:e∈l) (h1:p e=true) (h2:p' e=false):(l.filter p').length<(l.filter p).length:=by
  have hle:∀ l:List β,(l.filter p').length≤(l.filter p).length:=fun l=>by
    induction l with
    |nil=>simp
    |cons a r ih=>
     rw [List.filter_cons,List.filter_cons]
     by_cases ha:p' a=true
     · simp [ha,h a ha,ih]
     · by_cases hb:p a=true<;>simp [ha,hb]<;>omega
  induction l with
  |nil=>simp at he
  |cons a r ih=>
   rw [List.filter_cons,List.filter_cons]
   rcases List.mem_cons.1 he with rfl|he
   · simp [h1,h2];have:=hle r;omega
   · have:=ih he
     by_cases ha:p' a=true
     · simp [ha,h a ha,this]
     · by_cases hb:p a=true<;>simp [ha,hb]<;>omega
section
variable {P:Program} {N:Nat} {α:Type} {enc:α→Value} {l:List (Int×α)} {b:Nat} {t ty kt et:TypeId} {x y:Operand} {env:Env} {L:List HP} {C:List (Int×α)→List HP}
theorem d8f {pos:String} {aft:Array Edge} {d:Nat} {R:List HP} [hM:TU P t (.map kt et)] (hx:ev env x=some (.map (some b))) (hd:Nat.blt d N=true) :
    KO P N ⟨some d,.range t x,ty,pos,aft,none⟩ env (MapAt b enc l::R) (yL env d (fun it=> .pointer (some ⟨it,0,none⟩)) (fun it=>MapIt b it enc l none l.length::R)):=by
  intro a w ha hw K Q next
  obtain ⟨⟨es,clock,h1,h2⟩,hn⟩:=a0d hw
  have hb:=(Array.getElem?_eq_some_iff.1 h1).1
  have hl:es.size=l.length:=by have:=congrArg List.length h2.kv;simpa using this
  have run:(execOp a.eval ⟨none,.range t x,ty, "", #[],none⟩).run P w= .ok (.value (.pointer (some ⟨w.heap.size,0,none⟩))) { w with heap:=w.heap.push (.mapIter (some b) clock #[] clock)}:=by
    simp [execOp,ha.ev hx,Instr.range,aE hM.pf,iI h1]
  unfold Oper.wp
  rw [bE,run]
  refine next _ _ _ _ ⟨w.heap.size,rfl,rfl⟩ (ha.put hd _) ?_
  obtain ⟨S,T,dj,p1,p2⟩:=hw
  have hSb:S b:=by obtain ⟨_,_,q,_⟩:=p1.pf;exact (nN q).1
  refine ⟨fun k=>S k∨k=w.heap.size,fun k=>T k∧k<w.heap.size,?_,?_,?_⟩
  · rintro k (s|rfl) ⟨tk,lt⟩
    · exact dj k s tk
    · omega
  · refine ⟨⟨es,clock,clock, #[],?_,?_,h2,?_,fun p hp=>nomatch hp⟩,Nat.ne_of_lt hb,hn⟩
    · unfold res ph;simp [hSb,Array.getElem?_push,Nat.ne_of_lt hb,h1]
    · unfold res ph;simp
    · rw [List.filter_eq_self.2 (by simp)];simpa using hl
  · have e:res (ph { w with heap:=w.heap.push (.mapIter (some b) clock #[] clock)}) (fun k=>T k∧k<w.heap.size)=res (ph w) T:=by
      unfold res ph
      simp only [PH.mk.injEq,and_true]
      funext k
      by_cases tk:T k
      · by_cases lt:k<w.heap.size
        · simp [tk,lt,Array.getElem?_push,Nat.ne_of_lt lt]
        · simp [tk,lt]
      · simp [tk]
    rw [e];exact p2
theorem e4g {it n:Nat} {cur:Option (Int×α)} {C:Option (Int×α)→Nat→List HP} {pos:String} {aft:Array Edge} {d:Nat} (hx:ev env x=some (.pointer (some ⟨it,0,none⟩))) (hm:ItIn it L b enc l cur n C) (hd:Nat.blt d N=true) :
    KO P N ⟨some d,.next x false,ty,pos,aft,none⟩ env L (fun e' M=>(∃ k u n',(k,u)∈l∧n'<n∧e'=(d,.tuple [.bool true,.int .i64 k,enc u].toArray)::env∧M=C (some (k,u)) n')∨(e'=(d,.tuple [.bool false].toArray)::env∧M=L)):=by
  intro a w ha hw K Q next
  obtain ⟨R,k1,k2⟩:=hm.pf
  have hs:=k1.sat hw
  obtain ⟨S,T,dj,p1,p2⟩:=id hs
  obtain ⟨es,clock,since,seen,q1,q2,q3,q4,q5⟩:=p1.pf
  have h1:=(nN q1).2
  have h2:=(nN q2).2
  simp only [ph] at h1 h2
  have hg2:(getObj it).run P w= .ok (.mapIter (some b) since seen clock) w:=by simp only [getObj,Sem.run,h2]
  have hset:∀ s':Array Nat,∀ w1:World,w1.heap=w.heap→(setObj it (.mapIter (some b) since s' clock)).run P w1= .ok () { w1 with heap:=w1.heap.setIfInBounds it (.mapIter (some b) since s' clock)}:=by
    intro s' w1 hw1;simp only [setObj,Sem.run,hw1,h2]
  have htest:(!seen.isEmpty&& !es.isEmpty&& es.all (fun x=>decide (x.born≥clock)))=false:=by
    cases he:es.isEmpty with
    |true=>simp
    |false=>
     have:(es.all fun x=>decide (x.born≥clock))=false:=by
       rw [←Array.all_toList,List.all_eq_false]
       have hpos:0<es.size:=by
         rcases Nat.eq_zero_or_pos es.size with h|h
         · rw [Array.isEmpty_iff_size_eq_zero.2 h] at he;cases he
         · exact h
       refine ⟨es[0],by simp,?_⟩
       have:=q3.born es[0] (by simp)
       simp;omega
     simp [this]
  let left:=es.filter fun e=> !seen.contains e.born
  let old:=left.filter fun e=>decide (e.born<since)
  let new:=left.filter fun e=>decide (e.born≥since)
  let cand:=(if old.isEmpty then #[none] else #[])++(old++new).map some
  have hmem:∀ e,some e∈cand.toList→e∈es.toList∧seen.contains e.born=false:=by
    intro e he
    have he2:e∈left:=by
      simp only [cand,Array.toList_append,List.mem_append,Array.toList_map,List.mem_map,Option.some.injEq,exists_eq_right] at he
      rcases he with he|he|he
      · split at he<;>simp at he
      · have:e∈old:=by simpa using he
        exact (Array.mem_filter.1 this).1
      · have:e∈new:=by simpa using he
        exact (Array.mem_filter.1 this).1
    have:=Array.mem_filter.1 he2
    exact ⟨by simpa using this.1,by simpa using this.2⟩
  have hne:0<cand.size:=by
    simp only [cand]
    cases ho:old.isEmpty with
    |true=>simp only [if_true,Array.size_append,List.size_toArray,List.length_cons,List.length_nil];omega
    |false=>
     have:0<old.size:=by
       rcases Nat.eq_zero_or_pos old.size with h|h
       · rw [Array.isEmpty_iff_size_eq_zero.2 h] at ho;cases ho
       · exact h
     simp;omega
  have hch:∃ r w1,r<cand.size∧w1.heap=w.heap∧w1.os=w.os∧w1.output=w.output∧w1.tape=w.tape∧(choose (.mapNext cand.size)).run P w= .ok r w1:=by
    rw [run_choose]
    split
    · exact ⟨0,w,hne,rfl,rfl,rfl,rfl,rfl⟩
    · exact ⟨w.tape w.drawn (.mapNext cand.size) % cand.size,{ w with drawn:=w.drawn+1},Nat.mod_lt _ hne,rfl,rfl,rfl,rfl,rfl⟩
  obtain ⟨r,w1,hr,e1,e2,e3,e4,hrun⟩:=hch
  have step:(Instr.next (.pointer (some ⟨it,0,none⟩)) false ty).run P w=(match cand[r]? with
   |some (some e)=>((setObj it (.mapIter (some b) since (seen.push e.born) clock)).run P w1).andThen fun _ w2=> .ok (.tuple #[.bool true,e.key,e.val]) w2
   |some none=> .ok (.tuple #[.bool false]) w1
   |none=> .halt (.stuck "Next: no such candidate") w1):=by
    simp only [Instr.next,Sem.run_bind,hg2,Result.andThen_ok,iI h1,htest,Bool.false_eq_true,if_false]
    show ((choose (.mapNext cand.size)).run P w).andThen _=_
    rw [hrun]
    simp only [Result.andThen_ok]
    show Sem.run P (match cand[r]? with|some (some e)=>_|some none=>_|none=>_) w1=_
    rcases cand[r]? with _|_|e
    · rfl
    · rfl
    · simp only [Sem.run_bind,Sem.run_pure]
  have hcr:cand[r]? =some cand[r]:=by simp [hr]
  have hlt:it<w1.heap.size:=by rw [e1];exact (Array.getElem?_eq_some_iff.1 h2).1
  unfold Oper.wp
  rw [bE]
  cases hc:cand[r] with
  |none=>
   rw [hcr,hc] at step
   simp only [execOp,ha.ev hx,Sem.run_bind,step,Result.andThen_ok,Sem.run_pure]
   have hw1:d3 L w1:=by
     have:ph w1=ph w:=by unfold ph;simp [e1,e2,e3,e4]
     unfold d3;rw [this];exact hw
   exact next _ _ _ _ (.inr ⟨rfl,rfl⟩) (ha.put hd _) hw1
  |some e=>
   rw [hcr,hc] at step
   simp only [hset _ w1 e1,Result.andThen_ok] at step
   obtain ⟨m1,m2⟩:=hmem e (by rw [←hc];simp)
   have hkv:(e.key,e.val)∈l.map (fun p=>(Value.int .i64 p.1,enc p.2)):=by rw [←q3.kv];exact List.mem_map.2 ⟨e,m1,rfl⟩
   obtain ⟨⟨k,u⟩,hku,hke⟩:=List.mem_map.1 hkv
   simp only [Prod.mk.injEq] at hke
   obtain ⟨hk,hu⟩:=hke
   simp only [execOp,ha.ev hx,Sem.run_bind,step,Result.andThen_ok,Sem.run_pure]
   refine next _ _ _ _ (.inl ⟨k,u,((es.toList.filter fun e'=> !(seen.push e.born).contains e'.born).length),hku,?_,by rw [hk,hu],rfl⟩) (ha.put hd _) ((k2 _ _).sat ?_)
   · rw [←q4]
     exact c6g (fun x hx=>by
       simp only [Array.contains_push,Bool.not_or,Bool.and_eq_true] at hx
       exact hx.1) m1 (by rw [m2];rfl) (by simp)
   · have hth:∀ k,k≠it→(w1.heap.setIfInBounds it (.mapIter (some b) since (seen.push e.born) clock))[k]? =w.heap[k]? :=fun k hk=>by rw [e1];simp [Array.getElem?_setIfInBounds,Ne.symm hk]
     refine ⟨S,T,dj,⟨⟨es,clock,since,seen.push e.born,?_,?_,q3,rfl,?_⟩,p1.ne,p1.nd⟩,?_⟩
     · have hS:=(nN q1).1
       unfold res ph;simp only [hS,if_true];rw [hth b p1.ne];exact h1
     · have hS:=(nN q2).1
       unfold res ph;simp [hS,hlt]
     · intro p hp
       simp only [Option.some.injEq] at hp
       subst hp
       exact ⟨e,m1,by simp,hk.symm,hu.symm⟩
     · have hSit:=(nN q2).1
       have:=c4m (w:=w) (w':={ w1 with heap:=w1.heap.setIfInBounds it (.mapIter (some b) since (seen.push e.born) clock)}) dj hSit hth e2 e3 e4
       rw [this];exact p2
theorem c6h {es:List MapEntry} (hn:(es.map (·.born)).Nodup) {e:MapEntry} (he:e∈es):es.find? (fun x=>x.born == e.born)=some e:=by
  induction es with
  |nil=>simp at he
  |cons a r ih=>
   rw [List.map_cons,List.nodup_cons] at hn
   rw [List.find?_cons]
   rcases List.mem_cons.1 he with rfl|he
   · simp
   · have:(a.born == e.born)=false:=by
       simp only [beq_eq_false_iff_ne,ne_eq]
       intro h;exact hn.1 (h▸List.mem_map.2 ⟨e,he,rfl⟩)
     rw [this];exact ih hn.2 he
theorem d8g {it n:Nat} {k:Int} {u:α} {C:Option (Int×α)→Nat→List HP} (hx:ev env x=some (.pointer (some ⟨it,0,none⟩))) (hm:ItIn it L b enc l (some (k,u)) n C) :
    V P N (.entry x) ty env L (.tuple [.int .i64 k,enc u].toArray):=by
  intro a w ha hw
  obtain ⟨R,k1,k2⟩:=hm.pf
  obtain ⟨S,T,dj,p1,p2⟩:=k1.sat hw
  obtain ⟨es,clock,since,seen,q1,q2,q3,q4,q5⟩:=p1.pf
  have h1:=(nN q1).2
  have h2:=(nN q2).2
  simp only [ph] at h1 h2
  have hg2:(getObj it).run P w= .ok (.mapIter (some b) since seen clock) w:=by simp only [getObj,Sem.run,h2]
  obtain ⟨e,m1,m2,m3,m4⟩:=q5 _ rfl
  have hf:es.find? (fun x=>x.born == e.born)=some e:=by rw [←Array.find?_toList];exact c6h q3.uniq m1
  simp only [execOp,ha.ev hx,Instr.entry,Sem.run_bind,hg2,Result.andThen_ok,m2,iI h1,bne_self_eq_false,Bool.false_eq_true,if_false,hf,Sem.run_pure,m3,m4]
end
class MapT (P:Program) (t:TypeId) {α:outParam Type} (enc:outParam (α→Value)) (d:outParam α):Prop where
  pf:∃ kt et kind n bs,P.underlying t=some (.map kt et)∧P.underlying kt=some (.int kind)∧(P.info? et).map (fun i=>(i.size,i.zero,i.bytes))=some (n,some (enc d),bs)
section
variable {P:Program} {N:Nat} {α:Type} {enc:α→Value} {dv:α} {l:List (Int×α)} {b:Nat} {t ty:TypeId} {x y:Operand} {env:Env} {L:List HP} {C:List (Int×α)→List HP}
theorem c6i {k:Int} [h:MapT P t enc dv] (hx:ev env x=some (.map (some b))) (hy:ev env y=some (.int .i64 k)) (hm:MapIn b L enc l C):V P N (.lookup t x y false) ty env L (enc ((fQ l k).getD dv)):=by
  obtain ⟨kt,et,kind,n,bs,h1,h2,h3⟩:=h.pf
  exact d0s (hM:=⟨h1⟩) (hT:=⟨h2⟩) (hZ:=⟨h3⟩) hx hy hm rfl
theorem b9r {k:Int} [h:MapT P t enc dv] (hx:ev env x=some (.map (some b))) (hy:ev env y=some (.int .i64 k)) (hm:MapIn b L enc l C):V P N (.lookup t x y true) ty env L (.tuple [enc ((fQ l k).getD dv),.bool (fQ l k).isSome].toArray):=by
  obtain ⟨kt,et,kind,n,bs,h1,h2,h3⟩:=h.pf
  exact c6d (hM:=⟨h1⟩) (hT:=⟨h2⟩) (hZ:=⟨h3⟩) hx hy hm rfl
theorem b9s {pos:String} {aft:Array Edge} {d:Nat} [h:MapT P t enc dv] (hd:Nat.blt d N=true):KO P N ⟨some d,.makeMap t none,ty,pos,aft,none⟩ env L (yL env d (fun b=> .map (some b)) (fun b=>MapAt b enc []::L)):=c6e enc hd
theorem oD {u:Value} {k:Int} {xv:α} {pos:String} {aft:Array Edge} {m kx vx:Operand} [h:MapT P t enc dv]
    (hm0:ev env m=some (.map (some b))) (hk:ev env kx=some (.int .i64 k)) (hv:ev env vx=some u) (hm:MapIn b L enc l C) (he:enc xv=u) :
    KO P N ⟨none,.mapUpdate t m kx vx,ty,pos,aft,none⟩ env L (a2m env (C (kC l k xv))):=by
  obtain ⟨kt,et,kind,n,bs,h1,h2,h3⟩:=h.pf
  exact b5g (hM:=⟨h1⟩) (hT:=⟨h2⟩) hm0 hk hv hm he
theorem c6j {k:Int} {pos:String} {aft:Array Edge} {m kx:Operand} {ats:List TypeId} [h:MapT P t enc dv] (hm0:ev env m=some (.map (some b))) (hk:ev env kx=some (.int .i64 k)) (hm:MapIn b L enc l C) :
    KO P N ⟨none,.call ⟨.builtin .delete,[m,kx].toArray,(t::ats).toArray⟩,ty,pos,aft,none⟩ env L (a2m env (C (b2o l k))):=by
  obtain ⟨kt,et,kind,n,bs,h1,h2,h3⟩:=h.pf
  exact d0u (d:=none) (hM:=⟨h1⟩) (hT:=⟨h2⟩) hm0 hk hm rfl
end
section
variable {P:Program} {N:Nat} {α:Type} {enc:α→Value} {l:List (Int×α)} {b:Nat} {env:Env} {L:List HP} {Q:Exit→Act→World→Prop}
theorem d8h {it n:Nat} {cur:Option (Int×α)} {C:Option (Int×α)→Nat→List HP} {x:Operand} {ty:TypeId} {pos:String} {aft:Array Edge} {d:Nat} {all:Array Oper} {rest:List Oper} (hx:ev env x=some (.pointer (some ⟨it,0,none⟩))) (hm:ItIn it L b enc l cur n C) (hd:Nat.blt d N=true)
    (h1:∀ k u n',(k,u)∈l→n'<n→WO P N all rest ((d,.tuple [.bool true,.int .i64 k,enc u].toArray)::env) (C (some (k,u)) n') Q)
    (h2:WO P N all rest ((d,.tuple [.bool false].toArray)::env) L Q):WO P N all (⟨some d,.next x false,ty,pos,aft,none⟩::rest) env L Q:=
  uC rfl (e4g hx hm hd) (by
    rintro e' M (⟨k,u,n',q1,q2,rfl,rfl⟩|⟨rfl,rfl⟩)
    · exact h1 k u n' q1 q2
    · exact h2)
end
end Go.Sx
