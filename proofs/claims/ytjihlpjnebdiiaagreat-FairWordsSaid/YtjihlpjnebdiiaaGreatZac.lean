/- Msh7, Ins, Msh8, Shp, Split, Goto: several of my texts as one. My own work. -/
import Derived.Test.YtjihlpjnebdiiaaGreatZab
import Derived.Laws.Externs
import Derived.Lib.AppendZerosOnto
import Derived.Lib.Overlaps
import Derived.ScopeJumps
set_option linter.unusedVariables false
set_option linter.unusedSectionVars false
set_option linter.unusedSimpArgs false
set_option maxRecDepth 100000
set_option maxHeartbeats 4000000
namespace Go.Sx
open Go Go.Proofs
section
theorem b4n {α:Type} {q:α→Bool} {l:List α} {i:Nat} (hi:i<l.length) {x:α} (h:q x=q l[i]):bA q (l.set i x)=bA q l:=by
  have key:∀ j (hj:j<l.length),∀ hj':j<(l.set i x).length,q (l.set i x)[j]=q l[j]:=fun j hj hj'=>by
    by_cases e:i=j
    · subst e;rw [List.getElem_set_self,h]
    · rw [List.getElem_set_ne e]
  by_cases hn:0≤bA q l
  · obtain ⟨j,hj,e,h1,h2⟩:=cR hn
    have hj':j<(l.set i x).length:=by rw [List.length_set];exact hj
    rw [e]
    refine kG hj' (fun k hk hlt=>?_) ?_
    · rw [List.length_set] at hk
      rw [key k hk];exact h2 k hk hlt
    · rw [key j hj];exact h1
  · obtain ⟨e,h1⟩:=dL hn
    rw [e]
    refine gT fun j hj _=>?_
    rw [List.length_set] at hj
    rw [key j hj];exact h1 _ (List.getElem_mem hj)
def gL (l:List Miss) (line acks:Int):List Miss:=if iV l line acks 4=0 then l.set (rJ l line).toNat { cV l line with needs:=acks,own:=4,words:= .zero,granted:=true} else l
attribute [local irreducible] Exit.then Exit.inBlock Code.wp WC WO WE WQ V bT vL fP cY eI v8 IntKind.wrap WR Code.rounds WT KO
theorem c9y {F:List HP} {b:Nat} {room:Int} {l:List Miss} {line acks:Int} :
    FnF Tryz.prog 223 [.pointer (some ⟨b,0,none⟩),.int .i64 line,.int .i64 acks] [d0m b room l] F (fun r L'=>r= .int .i64 (iV l line acks 4)∧L'=[d0m b room (gL l line acks)]):=by
  have hD:=fun F=>c0o (F:=F) (b:=b) (room:=room) (l:=l) (line:=line) (acks:=acks) (own:=4) (w:= .zero)
  refine FnF.mk' Tryz.func223 rfl rfl Tryz.ntmps223 rfl ?_
  by_cases h:iV l line acks 4=0
  · have hin:dB l line=true:=by
      cases e:dB l line with
      |true=>rfl
      |false=>unfold iV at h;rw [e] at h;cases h
    obtain ⟨i,hi,e0,ea,el⟩:=oY hin
    have e1:iW l line acks 4 .zero=l.set i { l[i] with needs:=acks,own:=4,words:= .zero}:=by unfold iW;rw [if_pos h,e0,Int.toNat_natCast,ea]
    have e2:gL l line acks=l.set i { l[i] with needs:=acks,own:=4,words:= .zero,granted:=true}:=by unfold gL;rw [if_pos h,e0,Int.toNat_natCast,ea]
    have e3:rJ (l.set i { l[i] with needs:=acks,own:=4,words:= .zero}) line=i:=by
      have h9:=b4n (q:=fun m:Miss=>decide (m.line=line)) (l:=l) (i:=i) (x:={ l[i] with needs:=acks,own:=4,words:= .zero}) hi rfl
      exact h9.trans e0
    have e4:dB (l.set i { l[i] with needs:=acks,own:=4,words:= .zero}) line=true:=by unfold dB;rw [e3];simp
    rw [h,e1] at hD
    rw [h,e2]
    have hi2:i<(l.set i { l[i] with needs:=acks,own:=4,words:= .zero}).length:=by rw [List.length_set];exact hi
    repeat first|refine gd ?_|intro _|refine aD @hD ?_
    (first|refine aX (d0m b room (l.set i { l[i] with needs:=acks,own:=4,words:= .zero})) ?_|refine aY (d0m b room (l.set i { l[i] with needs:=acks,own:=4,words:= .zero})) ?_|refine aZ (d0m b room (l.set i { l[i] with needs:=acks,own:=4,words:= .zero})) ?_)
    refine qV fun p c hl=>?_
    have hO:=fun F=>u7 (F:=F) (b:=b) (room:=room) (l:=l.set i { l[i] with needs:=acks,own:=4,words:= .zero}) (line:=line) (p:=p) (c:=c) (om)
    rw [if_pos e4,e3,Int.toNat_natCast] at hO
    repeat first|refine gd ?_|intro _|refine aD @hO ?_
    rw [e9f hi2]
    simp only [List.set_set,List.getElem_set_self]
    (apply aA rfl rfl bH)
    · exact ⟨rfl,rfl⟩
    · rw [show (l.set i { l[i] with needs:=acks,own:=4,words:= .zero}).length=(l.set i { l[i] with needs:=acks,own:=4,words:= .zero,granted:=true}).length by simp] at hl ⊢
      (apply eX;(focus (exact aB));all_goals exact mZ)
  · have e2:gL l line acks=l:=if_neg h
    have e1:iW l line acks 4 .zero=l:=if_neg h
    rw [e1] at hD
    rw [e2]
    repeat first|refine gd ?_|intro _|refine aD @hD ?_
    exact bF
end
section
open Go
section
variable {P:Program} {N:Nat} {t ty:TypeId} {x y:Operand} {env:Env} {L:List HP}
theorem e6x {e:TypeId} {ats:List TypeId} {p:Option Addr} {n c:Nat} [hT:TU P t (.slice e)] (hx:ev env x=some (.slice p n c)):V P N (.call ⟨.builtin .cap,[x].toArray,(t::ats).toArray⟩) ty env L (.int .i64 (c:Int)):=by
  intro a w ha hw
  simp [execOp,resolve,invoke,builtin,ha.ev hx,Builtin.cap_,aE hT.pf,goInt]
theorem c9z {e tn:TypeId} {g T i cap k bs:Nat} {kk:Int} {z z0:Value} {l:List Value} {C:List Value→List HP} {pos:String} {aft:Array Edge} {d:Nat} [hT:TU P t (.slice e)] [hN:TU P tn (.int .i64)] [hZ:TZ P e 1 z bs] [hco:CO z [z0]]
    (hx:ev env x=some (.slice (some ⟨g,0,none⟩) i cap)) (hy:ev env y=some (.int .i64 kk)) (hk:CellsAt g L T l C) (he:kk=(k:Int)) (h0:0<k) (hg:cap<i+k) (hb:(i+k)*bs≤140737488355328) (hl0:i+k≤9223372036854775807) (hi:i≤l.length) (ho:(l.take i).all one=true) (h1:one z0=true) (hd:Nat.blt d N=true) :
    KO P N ⟨some d,.call ⟨.builtin .append,[x,y].toArray,[t,tn].toArray⟩,ty,pos,aft,none⟩ env L (e0d env d (i+k) (fun v'=>Own e 1 v' (i+k) (l.take i++List.replicate k z0)::L)):=by
  subst he
  intro a w ha hw K Q next
  have hl:i+k≤maxLen:=by simp only [maxLen];omega
  obtain ⟨ti,hti,hpf⟩:=Option.map_eq_some_iff.1 hZ.pf
  simp only [Prod.mk.injEq] at hpf
  obtain ⟨hisz,hiz,hib⟩:=hpf
  have hzc:z.cells= #[z0]:=by rw [dA,hco.pf]
  have hh:=gR hk hw
  have hold:(Builtin.firstCells ti.size i (.slice (some ⟨g,0,none⟩) i cap)).run P w.drew= .ok (l.take i).toArray w.drew:=by
    rw [hisz]
    simp only [Builtin.firstCells]
    refine fB (by rw [List.length_take];omega) (fun j v hj=>?_)
    have:w.drew.cell? ⟨g,0+j,none⟩=w.cell? ⟨g,0+j,none⟩:=rfl
    rw [this,fX hh]
    rw [List.getElem?_take] at hj
    split at hj
    · simpa using hj
    · cases hj
  have hr:=Lib.run_append_grow_zeros (P:=P) w t tn ty e ti z .i64 .i64 hT.pf hN.pf hti hiz (some ⟨g,0,none⟩) i cap (l.take i) hold k h0 (om) hg (om) (by rw [hib];have:k*bs≤(i+k)*bs:=Nat.mul_le_mul_right _ (om);omega) (growslice_fits (om) (by rw [hib];exact hb))
  have hge:=grownCap_ge w (i+k) cap e
  have hmap:∀ (n:Nat),(Builtin.zeroCells #[z0] n).toList=List.replicate n z0:=fun n=>by
    have:=pK [z0] n 1 rfl
    rw [this]
    induction n with
    |zero=>rfl
    |succ n ih=>rw [List.replicate_succ,List.flatten_cons,ih (pK [z0] n 1 rfl),List.replicate_succ];rfl
  obtain ⟨v',w',hrun,hsat⟩:∃ v' w',(Builtin.append_ #[t,tn] ty #[.slice (some ⟨g,0,none⟩) i cap,.int .i64 k]).run P w= .ok v' w'∧fP (Own e 1 v' (i+k) (l.take i++List.replicate k z0)::L) w':=by
    refine ⟨_,_,hr,b6b (w:=w.drew) _ (fun h hc=>⟨?_,?_,.inr ⟨_,_,_,rfl,hc,hge,grownCap_le_maxLen w (i+k) cap e hl,?_,?_⟩⟩) (xW hw)⟩
    · simp;omega
    · rw [List.all_append,ho];simp [h1]
    · simp only [Array.size_append,List.size_toArray,a7k,hzc,List.length_take]
      simp;omega
    · simp only [Array.toList_append,hzc,hmap]
      rw [List.take_append_of_le_length (by simp;omega),List.take_of_length_le (by simp;omega)]
  unfold Oper.wp
  have ex:=gU (P:=P) (ρ:=a.eval) (b:= .append) (args:=[x,y]) (ats:=[t,tn].toArray) (ty:=ty) (vs:=[.slice (some ⟨g,0,none⟩) i cap,.int .i64 k]) (by simp [ha.ev hx,ha.ev hy]) (w:=w) (r:= .ok (.value v') w') (fun cs=>by
    simp [builtin,hrun])
  rw [bQ,ex]
  obtain ⟨p',c',rfl⟩:=yN hsat
  exact next _ _ _ _ ⟨p',c',rfl,rfl⟩ (ha.put hd _) hsat
theorem c3d {f:Operand} {ats:Array TypeId} {fid:FuncId} {fn:Func} {tR e:TypeId} {ga oa la ca gb ob lb cb TA TB bs sz:Nat} {z:Value} {xa xb:List Value} {CA CB:List Value→List HP} {pos:String} {aft:Array Edge} {d:Nat}
    [hT:TU P t (.slice e)] [hZ:TZ P e sz z bs]
    (hf:ev env f=some (.func (.func fid) [].toArray [].toArray)) (hx:ev env x=some (.slice (some ⟨ga,oa,none⟩) la ca)) (hy:ev env y=some (.slice (some ⟨gb,ob,none⟩) lb cb)) (hfn:P.funcs[fid]? =some fn) (hname:(fn.name == "runtime.NumGoroutine")=false) (hbody:fn.body.isNone=true) (hnx:Extern.findNext fn=none) (hex:Extern.find fn=some (Extern.SlicesOverlaps.overlaps #[t,t] #[tR]))
    (ka:CellsAt ga L TA xa CA) (kb:CellsAt gb L TB xb CB) (hne:ga≠gb) (hb0:xb.length≠0) (hd:Nat.blt d N=true) :
    KO P N ⟨some d,.call ⟨.value f,[x,y].toArray,ats⟩,ty,pos,aft,none⟩ env L (a4u ((d,.bool false)::env) L):=by
  intro a w ha hw K Q next
  have h1:=gR ka hw
  have h2:=gR kb hw
  have hr:=Lib.run_overlaps_apart (P:=P) w t tR e hT.pf sz (bE hZ) ⟨ga,oa,none⟩ ⟨gb,ob,none⟩ la ca lb cb hne TA TB xa.length xb.length (by simp [World.shape?,h1]) (by simp [World.shape?,h2]) hb0 (by simp [World.frozen?,h1]) (by simp [World.frozen?,h1])
  unfold Oper.wp
  have ex:(execOp a.eval ⟨none,.call ⟨.value f,[x,y].toArray,ats⟩,ty, "", #[],none⟩).run P w= .ok (.value (.bool false)) w:=by
    simp only [execOp,resolve,Sem.run_bind,Deferred.ofValue,ha.ev hf,Sem.run_pure,Result.andThen_ok,invoke]
    rw [run_callFunc_extern hfn hname hbody hnx hex]
    simp [ha.ev hx,ha.ev hy,hr]
  rw [bQ,ex]
  exact next _ _ _ _ ⟨rfl,rfl⟩ (ha.put hd _) hw
theorem a7m {e:TypeId} {ga oa na ca gb ob nb cb TA TB sz k bs:Nat} {z:Value} {l l2 l':List Value} {CA CB:List Value→List HP} {pos:String} {aft:Array Edge} {d:Option Nat} {t2:TypeId} [hT:TU P t (.slice e)] [hZ:TZ P e sz z bs]
    (hx:ev env x=some (.slice (some ⟨ga,oa,none⟩) na ca)) (hy:ev env y=some (.slice (some ⟨gb,ob,none⟩) nb cb)) (hka:CellsAt ga L TA l CA) (hkb:CellsAt gb L TB l2 CB) (hk:min nb na=k) (hfit:oa+k*sz≤l.length) (hfit2:ob+k*sz≤l2.length) (ho:((l2.drop ob).take (k*sz)).all one=true) (hd:xX N d=true) (hl:aQ l oa ((l2.drop ob).take (k*sz))=l') :
    KO P N ⟨d,.call ⟨.builtin .copy,[x,y].toArray,[t,t2].toArray⟩,ty,pos,aft,none⟩ env L (a4u (rM env d (.int .i64 (k:Nat))) (CA l')):=by
  subst hl hk
  intro a w ha hw K Q next
  obtain ⟨R,k1,k2⟩:=hka.pf
  have hs:=k1.sat hw
  have hh:=oF hs
  have hh2:=gR hkb hw
  have htl:((l2.drop ob).take (min nb na*sz)).length=min nb na*sz:=by rw [List.length_take,List.length_drop];omega
  have hf:(Builtin.firstCells sz (min nb na) (.slice (some ⟨gb,ob,none⟩) nb cb)).run P w= .ok ((l2.drop ob).take (min nb na*sz)).toArray w:=by
    simp only [Builtin.firstCells]
    refine fB htl fun j v hj=>?_
    rw [fX hh2]
    rw [List.getElem?_take] at hj
    split at hj
    · rwa [List.getElem?_drop] at hj
    · cases hj
  obtain ⟨w',r1,r2,r3,r4,r5,r6⟩:=fC (P:=P) ga TA ((l2.drop ob).take (min nb na*sz)) l oa 0 w hh (by rw [htl];omega) ho
  have hrun:(Builtin.copy_ #[t,t2] ty #[.slice (some ⟨ga,oa,none⟩) na ca,.slice (some ⟨gb,ob,none⟩) nb cb]).run P w= .ok (goInt (min nb na:Nat)) w':=by
    have hmn:Nat.min nb na=min nb na:=rfl
    simp [Builtin.copy_,aE hT.pf,bE hZ,Builtin.lenOf,hmn,hf,r1]
  unfold Oper.wp
  have ex:=gU (P:=P) (ρ:=a.eval) (b:= .copy) (args:=[x,y]) (ats:=[t,t2].toArray) (ty:=ty) (vs:=[.slice (some ⟨ga,oa,none⟩) na ca,.slice (some ⟨gb,ob,none⟩) nb cb]) (by simp [ha.ev hx,ha.ev hy]) (w:=w) (r:= .ok (.value (goInt (min nb na:Nat))) w') (fun cs=>by
    simp [builtin,hrun])
  rw [bQ,ex]
  refine next _ _ _ _ ⟨rfl,rfl⟩ (ha.puts hd _) ((k2 _).sat ?_)
  exact rY (b:=ga) (Cells ga TA (aQ l oa ((l2.drop ob).take (min nb na*sz)))) (fun h hp=>⟨_,hp.pf⟩) (fun h e=>⟨e⟩) (by simpa using r2) r3 r4 r5 r6 hs
theorem e8s {g h T T':Nat} {l l':List Value} {all:Array Oper} {c:List Oper} {Q:Exit→Act→World→Prop} (k:g≠h→WO P N all c env (Cells g T l::Cells h T' l'::L) Q):WO P N all c env (Cells g T l::Cells h T' l'::L) Q:=by
  intro a w ha hw
  refine k ?_ a w ha hw
  obtain ⟨S,R,d,hp,A,B,d2,hq,hL⟩:=hw
  rw [nT] at hq
  intro e
  subst e
  exact d g (a0a hp.pf).1 (a0a hq.pf).1.1
end
end
section
def s6 (l:List Miss) (line:Int):Int:=if dB l line then (if (cV l line).owes then 0 else 7) else 5
def i4 (l:List Miss) (line:Int):List Miss:=if s6 l line=0 then l.eraseIdx (rJ l line).toNat else l
theorem d0a {e:TypeId} {g n i cap:Nat} {xs spare:List Value} {M:List HP} (hi:i<n) (q1:xs.length=n*15) (q2:xs.all one=true) (h1:n≤cap) (h2:cap≤maxLen) (h3:spare.length=(cap-n)*15) :
    Ent (Cells g e (aQ (xs++spare) (0+i*15) (List.take (min (n-(i+1)) (n-i)*15) (List.take ((n-(i+1))*15) (List.drop ((i+1)*15) xs))))::M)
      (Own e 15 (.slice (some ⟨g,0,none⟩) (n-1) cap) (n-1) (xs.take (i*15)++xs.drop ((i+1)*15))::M):=by
  have e1:List.take (min (n-(i+1)) (n-i)*15) (List.take ((n-(i+1))*15) (List.drop ((i+1)*15) xs))=List.drop ((i+1)*15) xs:=by
    rw [List.take_take,List.take_of_length_le (by rw [List.length_drop,q1];omega)]
  have e2:(List.drop ((i+1)*15) xs).length=(n-(i+1))*15:=by rw [List.length_drop,q1];omega
  rw [e1,Nat.zero_add]
  have hl:=cL (l:=xs++spare) (ys:=List.drop ((i+1)*15) xs) (o:=i*15) (by rw [List.length_append,e2];omega)
  refine mL (cap:=cap) ?_ (om) h2 ?_ ?_ Ent.refl
  · rw [hl,List.length_append,q1,h3];omega
  · have:=q8 (l:=xs++spare) (ys:=List.drop ((i+1)*15) xs) (o:=i*15) (by rw [List.length_append];omega)
    rw [e2,List.take_append_of_le_length (om)] at this
    rw [←this];congr 1;omega
  · rw [List.all_append,List.all_eq_true.2 fun u hu=>List.all_eq_true.1 q2 u (List.mem_of_mem_take hu),List.all_eq_true.2 fun u hu=>List.all_eq_true.1 q2 u (List.mem_of_mem_drop hu)]
    rfl
attribute [local irreducible] Exit.then Exit.inBlock Code.wp WC WO WE WQ V bT vL fP cY eI v8 IntKind.wrap WR Code.rounds WT KO
theorem c3e {F:List HP} {b:Nat} {line:Int} {T:TypeId} {C:List Value→List HP} {m:Miss} (k:CellsAt b F T [.int .i64 line] C) :
    FnF Tryz.prog 202 [f4i m,.pointer (some ⟨b,0,none⟩)] [] F (fun r L'=>r= .bool (decide (m.line=line))∧L'=[]):=by
  refine FnF.mk' Tryz.func202 rfl rfl Tryz.ntmps202 rfl ?_
  repeat first|refine gd ?_|intro _
  exact bF
theorem e2o {F:List HP} {b bl:Nat} {room:Int} {l:List Miss} {line:Int} {p:Option Addr} {c:Nat} {C:List Value→List HP} (k1:CellsAt bl F 3 [.int .i64 line] C) (hn:l.length≤4096) :
    FnF Tryz.prog 199 [.pointer (some ⟨b,0,none⟩),.func (.func 202) [].toArray [.pointer (some ⟨bl,0,none⟩)].toArray] [Cells b 184 [.int .i64 room,.slice p l.length c],Own 182 15 (.slice p l.length c) l.length (aC k9 l)] F
      (fun r L'=>r= .int .i64 (rJ l line)∧L'=[Cells b 184 [.int .i64 room,.slice p l.length c],Own 182 15 (.slice p l.length c) l.length (aC k9 l)]):=by
  have hI:=fun F (C:List Value→List HP) (k1':CellsAt bl F 3 [.int .i64 line] C) (k:RdL F 15 (.slice p l.length c) l.length (aC k9 l))=>
    mS (F:=F) (v:= .slice p l.length c) (l:=l) (fk:=202) (first:=[]) (cap:=[.pointer (some ⟨bl,0,none⟩)]) (p:=fun m=>decide (m.line=line)) k (om) (fun x _=>c3e k1')
  refine FnF.mk' Tryz.func199 rfl rfl Tryz.ntmps199 rfl ?_
  repeat first|refine gd ?_|intro _|refine aD @hI ?_
  (apply aA rfl rfl bH;(first|exact oO|exact ⟨by simp [rJ]<;>omega,rfl⟩);exact jM)
theorem lZ {Q P:Prop} (k:Q) (h:Hid Q→P:=by
  intro k
  first
  |(refine aI ?_;refine uU (id:=7) .true (pl:= .p 0 <| .p 1 <| .p 2 <| .p 4 <| .p 6 <| .p 7 <| .p 8 <| .p 10 <| .p 11 <| .r 3 <| .p 5 <| .r 9 <| .p 12 <| .e true [(13,.done)]) k.out)
  |(refine aI ?_;refine uU (id:=8) .true (pl:= .p 0 <| .p 1 <| .p 2 <| .p 3 <| .p 5 <| .p 6 <| .p 7 <| .r 4 <| .r 8 <| .p 9 <| .p 10 <| .p 11 <| .p 12 <| .p 13 <| .e true [(14,.done)]) k.out)):P:=h ⟨k⟩
theorem d0b {F:List HP} {b:Nat} {room:Int} {l:List Miss} {line:Int} :
    FnF Tryz.prog 154 [.pointer (some ⟨b,0,none⟩),.int .i64 line] [d0m b room l] F (fun r L'=>r= .int .i64 (s6 l line)∧L'=[d0m b room (i4 l line)]):=by
  refine FnF.mk' Tryz.func154 rfl rfl Tryz.ntmps154 rfl ?_
  refine i8 fun p c hl=>?_
  have hO:=fun F=>u7 (F:=F) (b:=b) (room:=room) (l:=l) (line:=line) (p:=p) (c:=c) (om)
  have hA:=fun F (bl:Nat) (C:List Value→List HP) (k1:CellsAt bl F 3 [.int .i64 line] C)=>e2o (F:=F) (b:=b) (room:=room) (l:=l) (p:=p) (c:=c) k1 (om)
  cases h:dB l line with
  |false=>
   have e1:s6 l line=5:=by unfold s6;rw [h];rfl
   have e2:i4 l line=l:=by unfold i4;rw [e1];rfl
   rw [e1,e2]
   rw [h,if_neg Bool.false_ne_true] at hO
   repeat first|refine go ?_|intro _|refine lZ ?_|refine dM ?_|refine aD @hO ?_
   (apply aA rfl rfl bH)
   · exact ⟨rfl,rfl⟩
   · (apply eX;(focus (exact aB));all_goals exact mZ)
  |true=>
   obtain ⟨i,hi,e0,ea,_⟩:=oY h
   rw [if_pos h,e0,Int.toNat_natCast] at hO
   rw [e0] at hA
   cases ho:l[i].owes with
   |false=>
    have e1:s6 l line=7:=by unfold s6;rw [if_pos h,ea,ho];rfl
    have e2:i4 l line=l:=by unfold i4;rw [e1];rfl
    rw [e1,e2]
    repeat' (first|refine go ?_|intro _|refine lZ ?_|refine dM ?_|refine aD @hO ?_|refine nV ?_ ?_|fail)
    all_goals (apply aA rfl rfl bH)
    all_goals first|exact ⟨rfl,rfl⟩|(apply eX;(focus (exact aB));all_goals exact mZ)
   |true=>
    have e1:s6 l line=0:=by unfold s6;rw [if_pos h,ea,ho];rfl
    have e2:i4 l line=l.eraseIdx i:=by unfold i4;rw [if_pos e1,e0,Int.toNat_natCast]
    rw [e1,e2]
    repeat first|refine go ?_|intro _|refine aD @hO ?_|refine aD @hA ?_
    (first|refine aX (Own 182 15 (.slice p l.length c) l.length (aC k9 l)) ?_|refine aY (Own 182 15 (.slice p l.length c) l.length (aC k9 l)) ?_|refine aZ (Own 182 15 (.slice p l.length c) l.length (aC k9 l)) ?_)
    refine b1m (fun q1 q2 p0 e0' e1' e2'=>by omega) (fun q1 q2 g cap spare e0' k1 k2 k3=>?_)
    obtain ⟨rfl,rfl⟩:p=some ⟨g,0,none⟩∧c=cap:=by simpa using e0'
    repeat first|refine go ?_|intro _|refine lZ ?_|refine dM ?_
    rw [show (i:Int)+1=((i+1:Nat):Int) from rfl]
    repeat first|refine go ?_|intro _|refine lZ ?_|refine dM ?_
    rw [o9 (l:=i) (om)]
    apply qW;rfl;exact GIn.none
    apply d9w;rfl;rfl;exact inferInstance;exact RdL.cut (a7l inferInstance q1 q2) (om) (Nat.le_refl _) k1;(simp only [List.length_append,q1,k3];omega);rfl;rfl
    refine aM ?_
    (refine ⟨by first|exact After.free|exact After.turns rfl|(refine After.still ?_;exact jM;done),?_⟩)
    repeat first|refine go ?_|intro _|refine lZ ?_|refine dM ?_
    rw [show (l.length:Int)-1=((l.length-1:Nat):Int) by omega]
    repeat first|refine go ?_|intro _|refine lZ ?_|refine dM ?_
    rw [uY,Int.toNat_natCast]
    have hs:aQ [Value.int .i64 room,Value.slice (some ⟨g,0,none⟩) l.length c] 1 (cellsOf (Value.slice (some ⟨g,0,none⟩) (l.length-1) c))=[Value.int .i64 room,Value.slice (some ⟨g,0,none⟩) (l.length-1) c]:=rfl
    rw [hs]
    (apply aA rfl rfl bH)
    · exact ⟨rfl,rfl⟩
    · refine Ent.trans (d0a hi q1 q2 k1 k2 k3) ?_
      apply eX
      · exact aB
      · rw [List.length_eraseIdx,if_pos hi]
      · rw [iU (enc:=k9) (n:=15) (fun _=>rfl),fV (enc:=k9) (n:=15) (fun _=>rfl),←bJ,←List.eraseIdx_eq_take_drop_succ]
      · have:=List.length_eraseIdx_le l i
        omega
end
section
attribute [local irreducible] Exit.then Exit.inBlock Code.wp WC WO WE WQ V bT vL fP cY eI v8 IntKind.wrap WR Code.rounds WT KO
theorem a4k {F:List HP} {n:Int} (hn:nA n):FnF Tryz.prog 169 [.int .i64 n] [] F (fun r L'=>r=(.tuple [.int .i64 (c1t n),.bool (b4g n)].toArray)∧L'=[]):=by
  unfold nA at hn
  refine FnF.mk' Tryz.func169 rfl rfl Tryz.ntmps169 rfl ?_
  by_cases h:n<1
  · have e:vN n=none:=by
      cases e:vN n with
      |none=>rfl
      |some k=>have:=uR e;have h0:(0:Int)<2^k:=Int.pow_pos (om);omega
    have e1:c1t n=0:=by simp [c1t,e]
    have e2:b4g n=false:=by simp [b4g,e]
    clear e
    repeat first|refine gd ?_|intro _
    (apply aA rfl rfl bH)
    · rw [e1,e2];exact ⟨rfl,rfl⟩
    · exact aB
  · cases e:vN n with
    |none=>
     have hb:=c4r (om) hn.2 e
     have e1:c1t n=0:=by simp [c1t,e]
     have e2:b4g n=false:=by simp [b4g,e]
     clear e
     repeat first|refine gd ?_|intro _
     (apply aA rfl rfl bH)
     · rw [e1,e2];exact ⟨rfl,rfl⟩
     · exact aB
    |some m=>
     obtain ⟨hm,rfl⟩:=uR e
     have hb:=d7n hm
     have e1:c1t (2^m)=m:=by simp [c1t,e]
     have e2:b4g (2^m)=true:=by simp [b4g,e]
     clear e
     repeat first|refine gd ?_|intro _
     apply b6c (fun k:Nat=>[(0,.int .i64 (2^m)),(4,.int .i64 (k:Int))]) (fun _=>F) (fun k=>k≤m) (fun k=>m-k) 0
     · omega
     · exact Sub.cons rfl (Sub.cons rfl Sub.nil)
     · exact aB
     · intro k hk
       have hf:=d7o hk
       have hmin:min ((k:Int)).toNat IntKind.i64.bits=k:=by simp [IntKind.bits];omega
       repeat first|refine gd ?_|intro _
       rw [hmin,hf]
       by_cases hlt:k<m
       · have:(1:Int)<2^(m-k):=by
           have:(2:Nat)^1≤2^(m-k):=Nat.pow_le_pow_right (om) (om)
           have:((2^1:Nat):Int)≤((2^(m-k):Nat):Int):=by exact_mod_cast this
           simp at this;omega
         repeat first|refine gd ?_|intro _
         refine aT (k+1) (om) (om) (Sub.cons rfl (Sub.cons rfl Sub.nil)) Ent.refl
       · obtain rfl:k=m:=by omega
         have:¬(1:Int)<2^(k-k):=by simp
         repeat first|refine gd ?_|intro _
         (apply aA rfl rfl bH)
         · rw [e1,e2];exact ⟨rfl,rfl⟩
         · exact aB
theorem c3f {F:List HP} {n l m:Int} {p:Bool} (hn:nA n):FnF Tryz.prog 136 [.agg [.int .i64 n,.int .i64 l,.int .i64 m,.bool p].toArray] [] F (fun r L'=>r=(.bool (gI n l m p))∧L'=[]):=by
  refine FnF.mk' Tryz.func136 rfl rfl Tryz.ntmps136 rfl ?_
  cases p
  · repeat' (first|refine gd ?_|intro _|refine nV ?_ ?_|fail)
    all_goals (apply aA rfl rfl bH;(exact ⟨by first|(simp_all [gI];done)|(simp_all [gI];omega),rfl⟩);exact jM)
  · repeat first|refine gd ?_|intro _
    repeat first|refine gd ?_|intro _|refine aD @a4k ?_
    cases h:b4g n
    all_goals repeat' (first|refine gd ?_|intro _|refine nV ?_ ?_|fail)
    all_goals (apply aA rfl rfl bH;(exact ⟨by first|(simp_all [gI];done)|(simp_all [gI];omega),rfl⟩);exact jM)
def b1o (c:Cfg):List (Int×Int×Int×Bool):=[(c.cores,1,64,false),(c.homes,1,16,true),(c.sets,1,64,true),(c.words,1,8,true),(c.lines,1,1024,true),(c.ways,1,8,false),
  (c.pointers,0,8,false),(c.mshrs,1,8,false),(c.buffer,1,16,false),(c.writebacks,1,8,false),(c.r0,1,64,false),(c.r1,1,64,false),(c.r2,1,64,false)]
def d8m (b:Int×Int×Int×Bool):List Value:=[.int .i64 b.1,.int .i64 b.2.1,.int .i64 b.2.2.1,.bool b.2.2.2]
theorem a7n (c:Cfg):aF c=(b1o c).all (fun b=>gI b.1 b.2.1 b.2.2.1 b.2.2.2):=by
  simp [aF,b1o,Bool.and_assoc]
theorem e2p (c:Cfg) (hc:c.wf):∀ b∈b1o c,nA b.1:=by
  intro b hb
  obtain ⟨h1,h2,h3,h4,h5,h6,h7,h8,h9,h10,h11,h12,h13⟩:=hc
  simp only [b1o,List.mem_cons,List.not_mem_nil,or_false] at hb
  rcases hb with rfl|rfl|rfl|rfl|rfl|rfl|rfl|rfl|rfl|rfl|rfl|rfl|rfl<;>assumption
theorem dK {F:List HP} {c:Cfg} (hc:c.wf):FnF Tryz.prog 88 [c.val] [] F (fun r L'=>r=(.int .i64 (eD c))∧L'=[]):=by
  refine FnF.mk' Tryz.func88 rfl rfl Tryz.ntmps88 rfl ?_
  repeat first|refine gd ?_|intro _
  apply b6c (fun j:Nat=>[(50,.int .i64 (j:Int)),(49,.agg (aC d8m (b1o c)).toArray)]) (fun _=>F) (fun j=>j≤13∧∀ i (h:i<(b1o c).length),i<j→gI (b1o c)[i].1 (b1o c)[i].2.1 (b1o c)[i].2.2.1 (b1o c)[i].2.2.2=true) (fun j=>13-j) 0
  · exact ⟨om,fun i h hi=>by omega⟩
  · exact Sub.cons rfl (Sub.cons rfl Sub.nil)
  · exact aB
  · rintro j ⟨hj,hall⟩
    by_cases hlt:j<13
    · have hlen:j<(b1o c).length:=hlt
      have hs:=c0z (enc:=d8m) (n:=4) (fun _=>rfl) (b1o c) j hlen
      repeat first|refine gd ?_|intro _
      refine b6d (y7 rfl rfl (om) (om) hs rfl) rfl ?_
      have hwf:=e2p c hc _ (List.getElem_mem hlen)
      generalize hb:(b1o c)[j]=b at hwf
      repeat first|refine gd ?_|intro _
      repeat first|refine gd ?_|intro _|refine aD @c3f ?_
      cases hf:gI b.1 b.2.1 b.2.2.1 b.2.2.2
      · repeat first|refine gd ?_|intro _
        have e:aF c=false:=by
          rw [a7n,List.all_eq_false]
          exact ⟨_,List.getElem_mem hlen,by simp [hb,hf]⟩
        (apply aA rfl rfl bH;(exact ⟨by first|(simp [eD,e];done)|(simp [eD,e];omega),rfl⟩);exact jM)
      · repeat first|refine gd ?_|intro _
        refine aT (j+1) (om) ⟨om,fun i h hi=>?_⟩ (Sub.cons rfl (Sub.cons rfl Sub.nil)) ?_
        · by_cases hij:i=j
          · subst hij;rw [hb];exact hf
          · exact hall i h (om)
        · exact aB
    · obtain rfl:j=13:=by omega
      have e:aF c=true:=by
        rw [a7n,List.all_eq_true]
        intro b hb
        obtain ⟨i,hi,rfl⟩:=List.getElem_of_mem hb
        exact hall i hi hi
      repeat first|refine gd ?_|intro _
      (apply aA rfl rfl bH;(exact ⟨by first|(simp [eD,e];done)|(simp [eD,e];omega),rfl⟩);exact jM)
theorem d4i {n:Int} (h:b4g n=true):∃ k,k<63∧n=2^k:=by
  unfold b4g at h
  cases e:vN n with
  |none=>simp [e] at h
  |some k=>exact ⟨k,uR e⟩
theorem dF {c:Cfg} (h:aF c=true):1≤c.words∧c.words≤8∧1≤c.lines∧c.lines≤1024:=by
  simp only [aF,gI,Bool.and_eq_true,decide_eq_true_eq] at h
  omega
theorem b1p {a b m n:Int} (h1:0≤a) (h2:a≤m) (h3:0≤b) (h4:b≤n) (hn:0≤n):0≤a*b∧a*b≤m*n:=
  ⟨Int.mul_nonneg h1 h3,Int.le_trans (Int.mul_le_mul_of_nonneg_right h2 h3) (Int.mul_le_mul_of_nonneg_left h4 (om))⟩
theorem lT {F:List HP} {c:Cfg} (hc:c.wf):FnF Tryz.prog 121 [c.val] [] F (fun r L'=>r=(.int .i64 (fO c))∧L'=[]):=by
  refine FnF.mk' Tryz.func121 rfl rfl Tryz.ntmps121 rfl ?_
  repeat first|refine gd ?_|intro _
  repeat first|refine gd ?_|intro _|refine aD @dK ?_
  cases e:aF c
  · have e1:eD c=1:=by simp [eD,e]
    repeat first|refine gd ?_|intro _
    (apply aA rfl rfl bH;(exact ⟨by first|(simp [fO,e];done)|(simp [fO,e];omega),rfl⟩);exact jM)
  · have e1:eD c=0:=by simp [eD,e]
    have hw:=dF e
    have hm:=b1p (m:=8) (n:=1024) (a:=c.words) (b:=c.lines) (om) (om) (om) (om) (om)
    repeat first|refine gd ?_|intro _
    (apply aA rfl rfl bH;(exact ⟨by first|(simp [fO,e];done)|(simp [fO,e];omega),rfl⟩);exact jM)
end
section
attribute [local irreducible] Exit.then Exit.inBlock Code.wp WC WO WE WQ V bT vL fP cY eI v8 IntKind.wrap WR Code.rounds WT KO
def fR (c:Cfg) (a:Int):Bool:=aF c&& decide (0≤a∧a<c.words*c.lines)
def bS (c:Cfg) (a:Int):Int:=if fR c a then a / c.words else 0
def lL (c:Cfg) (a:Int):Int:=if fR c a then a % c.words else 0
def zZ (c:Cfg) (a:Int):Int:=if fR c a then 0 else 1
def aL (c:Cfg) (l:Int):Bool:=aF c&& decide (0≤l∧l<c.lines)
def cU (c:Cfg) (l:Int):Int:=if aL c l then l % c.homes else 0
def nK (c:Cfg) (l:Int):Int:=if aL c l then l % c.sets else 0
def c3g (c:Cfg) (l:Int):Int:=if aL c l then l / c.sets else 0
def t6 (c:Cfg) (l:Int):Int:=if aL c l then 0 else 1
def fF (c:Cfg) (l w:Int):Bool:=aF c&& decide (0≤l∧l<c.lines∧0≤w∧w<c.words)
def a5h (c:Cfg) (l w:Int):Int:=if fF c l w then l*c.words+w else 0
def xU (c:Cfg) (l w:Int):Int:=if fF c l w then 0 else 1
theorem bG {c:Cfg} (h:aF c=true):(1≤c.cores∧c.cores≤64)∧(∃ k:Nat,k≤4∧c.homes=2^k)∧(∃ k:Nat,k≤6∧c.sets=2^k)∧(∃ k:Nat,k≤3∧c.words=2^k)∧(∃ k:Nat,k≤10∧c.lines=2^k)∧(1≤c.ways∧c.ways≤8):=by
  simp only [aF,gI,Bool.and_eq_true,decide_eq_true_eq] at h
  have pw:∀ (n:Int) (m:Nat),b4g n=true→n≤2^m→m<63→∃ k:Nat,k≤m∧n=2^k:=by
    intro n m h1 h2 h3
    obtain ⟨k,hk,rfl⟩:=d4i h1
    refine ⟨k,?_,rfl⟩
    rcases Nat.lt_or_ge m k with h|h
    · have:(2:Nat)^m<2^k:=Nat.pow_lt_pow_right (om) h
      have h4:((2^m:Nat):Int)<((2^k:Nat):Int):=by exact_mod_cast this
      simp at h4;omega
    · exact h
  simp at h
  refine ⟨om,pw _ 4 (by simp_all) (by simp;omega) (om),pw _ 6 (by simp_all) (by simp;omega) (om),pw _ 3 (by simp_all) (by simp;omega) (om),pw _ 10 (by simp_all) (by simp;omega) (om),om⟩
theorem s7 {k m:Nat} (h:k≤m):(1:Int)≤2^k∧(2:Int)^k≤2^m:=by
  have h1:(2:Nat)^k≤2^m:=Nat.pow_le_pow_right (om) h
  have h2:1≤(2:Nat)^k:=Nat.one_le_two_pow
  have h3:((2^k:Nat):Int)≤((2^m:Nat):Int):=by exact_mod_cast h1
  have h4:((1:Nat):Int)≤((2^k:Nat):Int):=by exact_mod_cast h2
  simp at h3 h4
  exact ⟨h4,h3⟩
theorem d4j {n:Int} {k:Nat} (h0:0≤n) (h1:n≤9223372036854775807) (hk:k<63):eI .i64 n (2^k-1)=n % 2^k:=by
  have hp:=c1s hk
  have hp0:(0:Int)<2^k:=Int.pow_pos (om)
  rw [b1c h0 (om) (om) (om)]
  have e:((2:Int)^k-1).toNat=2^k-1:=by
    have:((2^k:Nat):Int)=(2:Int)^k:=by simp
    have h2:1≤(2:Nat)^k:=Nat.one_le_two_pow
    omega
  rw [e,Nat.and_two_pow_sub_one_eq_mod]
  obtain ⟨m,rfl⟩:=Int.eq_ofNat_of_zero_le h0
  simp
theorem e2q {n:Int} {k:Nat}:n.fdiv (2^k)=n / 2^k:=by
  rw [Int.fdiv_eq_ediv_of_nonneg]
  exact Int.le_of_lt (Int.pow_pos (om))
theorem b0b {F:List HP} {n:Int} (hn:nA n):FnF Tryz.prog 125 [.int .i64 n] [] F (fun r L'=>r= .agg [.int .i64 (IntKind.i64.wrap (n-1)),.int .i64 (c1t n)].toArray∧L'=[]):=by
  refine FnF.mk' Tryz.func125 rfl rfl Tryz.ntmps125 rfl ?_
  repeat first|refine gd ?_|intro _|refine aD @a4k ?_
  exact bF
theorem c0f {F:List HP} {n:Int} {k:Nat} (hk:k<63) (h0:0≤n) (h1:n≤9223372036854775807) :
    FnF Tryz.prog 126 [.agg [.int .i64 (2^k-1),.int .i64 k].toArray,.int .i64 n] [] F (fun r L'=>r= .tuple [.int .i64 (n / 2^k),.int .i64 (n % 2^k)].toArray∧L'=[]):=by
  refine FnF.mk' Tryz.func126 rfl rfl Tryz.ntmps126 rfl ?_
  repeat first|refine gd ?_|intro _
  have hmin:min ((k:Int)).toNat IntKind.i64.bits=k:=by simp [IntKind.bits];omega
  rw [hmin,e2q,d4j h0 h1 hk]
  exact bF
abbrev f4r (k:Nat):Value:= .func (.func 126) [.agg [.int .i64 (2^k-1),.int .i64 k].toArray].toArray [].toArray
theorem t7 {F:List HP} {c:Cfg} {n m:Int} {f:Value} (hc:c.wf) (h:¬(aF c=true∧0≤n∧n<m)) :
    FnF Tryz.prog 124 [c.val,.int .i64 n,.int .i64 m,f] [] F (fun r L'=>r= .tuple [.int .i64 0,.int .i64 0,.int .i64 1].toArray∧L'=[]):=by
  refine FnF.mk' Tryz.func124 rfl rfl Tryz.ntmps124 rfl ?_
  have hE:=fun F=>dK (F:=F) hc
  cases e:aF c with
  |false=>
   simp only [eD,e] at hE
   repeat first|refine gd ?_|intro _|refine aD @hE ?_
   exact bF
  |true=>
   simp only [eD,e,if_true] at hE
   rw [e] at h
   repeat' (first|refine gd ?_|intro _|refine aD @hE ?_|refine nV ?_ ?_|fail)
   all_goals first|(exfalso;simp at h;omega)|exact bF
theorem a0p {F:List HP} {c:Cfg} {n m:Int} {k:Nat} (hc:c.wf) (h:aF c=true) (h0:0≤n) (hm:n<m) (hk:k<63) (h1:n≤9223372036854775807) :
    FnF Tryz.prog 124 [c.val,.int .i64 n,.int .i64 m,f4r k] [] F (fun r L'=>r= .tuple [.int .i64 (n / 2^k),.int .i64 (n % 2^k),.int .i64 0].toArray∧L'=[]):=by
  refine FnF.mk' Tryz.func124 rfl rfl Tryz.ntmps124 rfl ?_
  have hE:=fun F=>dK (F:=F) hc
  simp only [eD,h,if_true] at hE
  repeat first|refine gd ?_|intro _|refine aD @hE ?_|refine aD @c0f ?_
  exact bF
theorem a3j {F:List HP} {n:Int} {k:Nat} (h:n=2^k) (hk:k≤30):FnF Tryz.prog 125 [.int .i64 n] [] F (fun r L'=>r= .agg [.int .i64 (2^k-1),.int .i64 k].toArray∧L'=[]):=by
  have hp:=s7 hk
  simp only [Int.reducePow] at hp
  have hb:=b0b (F:=F) (n:=n) (by unfold nA;omega)
  have e1:c1t n=k:=by rw [h];simp [c1t,b4f (show k<63 by omega)]
  have e2:IntKind.i64.wrap (n-1)=2^k-1:=by rw [h,y6 (om) (om)]
  rwa [e1,e2] at hb
theorem a1o {c:Cfg} {a:Int} (e:fR c a=true):aF c=true∧0≤a∧a<c.words*c.lines:=by
  simpa only [fR,Bool.and_eq_true,decide_eq_true_eq] using e
theorem d4k {c:Cfg} {a:Int} (e:fR c a=false):¬(aF c=true∧0≤a∧a<fO c):=by
  rintro ⟨h1,h2,h3⟩
  simp only [fO,h1,if_true] at h3
  simp [fR,h1] at e
  omega
theorem b0c {c:Cfg} {a:Int} (e:aL c a=true):aF c=true∧0≤a∧a<c.lines:=by
  simpa only [aL,Bool.and_eq_true,decide_eq_true_eq] using e
theorem d4l {c:Cfg} {a:Int} (e:aL c a=false):¬(aF c=true∧0≤a∧a<c.lines):=by
  rintro ⟨h1,h2,h3⟩
  simp [aL,h1] at e
  omega
theorem a4l {Q P:Prop} (k:Q) (h:Hid Q→P:=by
  intro k
  first
  |(refine aI ?_;refine uU (id:=1) .false (pl:= .p 1 <| .p 4 <| .r 0 <| .r 2 <| .r 5 <| .e true [(3,.e true [(6,.p 7 <| .e true [(8,.p 9 <| .p 10 <| .p 11 <| .p 12 <| .p 13 <| .p 14 <| .done)])])]) k.out)):P:=h ⟨k⟩
theorem t8 {F:List HP} {c:Cfg} {a:Int} (hc:c.wf) (ha:nA a):FnF Tryz.prog 65 [c.val,.int .i64 a] [] F (fun r L'=>r= .tuple [.int .i64 (bS c a),.int .i64 (lL c a),.int .i64 (zZ c a)].toArray∧L'=[]):=by
  obtain ⟨_,_,_,_,hw,_⟩:=id hc
  unfold nA at ha
  cases e:fR c a with
  |true=>
   obtain ⟨e1,e2,e3⟩:=a1o e
   obtain ⟨k,hk,ek⟩:=(bG e1).2.2.2.1
   have hs:fO c=c.words*c.lines:=by simp [fO,e1]
   have r1:bS c a=a / 2^k:=by simp [bS,e,ek]
   have r2:lL c a=a % 2^k:=by simp [lL,e,ek]
   have r3:zZ c a=0:=by simp [zZ,e]
   rw [r1,r2,r3]
   have hS:=fun F=>lT (F:=F) hc
   simp only [hs] at hS
   refine FnF.mk' Tryz.func65 rfl rfl Tryz.ntmps65 rfl ?_
   repeat first|refine go ?_|intro _|refine a4l ?_|refine dM ?_|refine aD @hS ?_|refine aD (a3j ek) ?_|refine aD @a0p ?_
   exact bF
  |false=>
   have r1:bS c a=0:=by simp [bS,e]
   have r2:lL c a=0:=by simp [lL,e]
   have r3:zZ c a=1:=by simp [zZ,e]
   rw [r1,r2,r3]
   have hn:=d4k e
   refine FnF.mk' Tryz.func65 rfl rfl Tryz.ntmps65 rfl ?_
   repeat first|refine go ?_|intro _|refine a4l ?_|refine dM ?_|refine aD @lT ?_|refine aD @b0b ?_|refine aD @t7 ?_
   exact bF
theorem a4m {Q P:Prop} (k:Q) (h:Hid Q→P:=by
  intro k
  first
  |(refine aI ?_;refine uU (id:=1) .false (pl:= .p 1 <| .p 2 <| .p 4 <| .r 0 <| .r 3 <| .r 5 <| .e true [(6,.p 7 <| .e true [(8,.p 9 <| .p 10 <| .p 11 <| .p 12 <| .p 13 <| .p 14 <| .p 15 <| .done)])]) k.out)):P:=h ⟨k⟩
theorem n3 {F:List HP} {c:Cfg} {a:Int} (hc:c.wf) (ha:nA a):FnF Tryz.prog 66 [c.val,.int .i64 a] [] F (fun r L'=>r= .tuple [.int .i64 (cU c a),.int .i64 (nK c a),.int .i64 (c3g c a),.int .i64 (t6 c a)].toArray∧L'=[]):=by
  obtain ⟨_,_,hs,_⟩:=id hc
  unfold nA at ha
  cases e:aL c a with
  |true=>
   obtain ⟨e1,e2,e3⟩:=b0c e
   obtain ⟨k,hk,ek⟩:=(bG e1).2.2.1
   obtain ⟨m,hm,em⟩:=(bG e1).2.1
   have r0:cU c a=a % 2^m:=by simp [cU,e,em]
   have r1:nK c a=a % 2^k:=by simp [nK,e,ek]
   have r2:c3g c a=a / 2^k:=by simp [c3g,e,ek]
   have r3:t6 c a=0:=by simp [t6,e]
   rw [r0,r1,r2,r3]
   refine FnF.mk' Tryz.func66 rfl rfl Tryz.ntmps66 rfl ?_
   repeat first|refine go ?_|intro _|refine a4m ?_|refine dM ?_|refine aD (a3j ek) ?_|refine aD (a3j em) ?_|refine aD @a0p ?_|refine aD @c0f ?_
   exact bF
  |false=>
   have r0:cU c a=0:=by simp [cU,e]
   have r1:nK c a=0:=by simp [nK,e]
   have r2:c3g c a=0:=by simp [c3g,e]
   have r3:t6 c a=1:=by simp [t6,e]
   rw [r0,r1,r2,r3]
   have hn:=d4l e
   refine FnF.mk' Tryz.func66 rfl rfl Tryz.ntmps66 rfl ?_
   repeat first|refine go ?_|intro _|refine a4m ?_|refine dM ?_|refine aD @b0b ?_|refine aD @t7 ?_
   exact bF
theorem e8t {t s a b:Int} (ht:0≤t) (hta:t<a) (hs:s<b) (hb:0<b):t*b+s<a*b:=by
  have h1:(t+1)*b≤a*b:=Int.mul_le_mul_of_nonneg_right (om) (om)
  rw [Int.add_mul,Int.one_mul] at h1
  omega
theorem d0c {t s a b:Int} (h:t*b+s<a*b) (hs:0≤s) (hb:0<b):t<a:=by
  rcases Int.lt_or_le t a with h1|h1
  · exact h1
  · have:=Int.mul_le_mul_of_nonneg_right h1 (Int.le_of_lt hb)
    omega
theorem t9 {F:List HP} {c:Cfg} {hi lo e m:Int} (hc:c.wf) (h:¬(aF c=true∧0≤lo∧lo<e∧0≤hi∧hi<m)) :
    FnF Tryz.prog 236 [c.val,.int .i64 hi,.int .i64 lo,.int .i64 e,.int .i64 m] [] F (fun r L'=>r= .tuple [.int .i64 0,.int .i64 1].toArray∧L'=[]):=by
  have hE:=fun F=>dK (F:=F) hc
  refine FnF.mk' Tryz.func236 rfl rfl Tryz.ntmps236 rfl ?_
  cases e:aF c with
  |false=>
   simp only [eD,e] at hE
   repeat first|refine gd ?_|intro _|refine aD @hE ?_
   exact bF
  |true=>
   simp only [eD,e,if_true] at hE
   rw [e] at h
   repeat' (first|refine gd ?_|intro _|refine aD @hE ?_|refine nV ?_ ?_|fail)
   all_goals first|(exfalso;simp at h;omega)|exact bF
theorem b4o {F:List HP} {c:Cfg} {hi lo e m:Int} (hc:c.wf) (h:aF c=true) (h0:0≤lo) (h1:lo<e) (h2:0≤hi) (h3:hi<m) (he:e≤64) (hm:m≤8192) :
    FnF Tryz.prog 236 [c.val,.int .i64 hi,.int .i64 lo,.int .i64 e,.int .i64 m] [] F (fun r L'=>r= .tuple [.int .i64 (if hi*e+lo<m then hi*e+lo else 0),.int .i64 (if hi*e+lo<m then 0 else 1)].toArray∧L'=[]):=by
  have hE:=fun F=>dK (F:=F) hc
  simp only [eD,h,if_true] at hE
  have hb:=b1p (a:=hi) (b:=e) (m:=8192) (n:=64) h2 (om) (om) he (om)
  refine FnF.mk' Tryz.func236 rfl rfl Tryz.ntmps236 rfl ?_
  by_cases hlt:hi*e+lo<m
  · repeat first|refine gd ?_|intro _|refine aD @hE ?_
    (apply aA rfl rfl bH;(first|exact oO|exact ⟨by simp [hlt]<;>omega,rfl⟩);exact jM)
  · repeat first|refine gd ?_|intro _|refine aD @hE ?_
    (apply aA rfl rfl bH;(first|exact oO|exact ⟨by simp [hlt]<;>omega,rfl⟩);exact jM)
theorem tJ {Q P:Prop} (k:Q) (h:Hid Q→P:=by
  intro k
  first
  |(refine aI ?_;refine uU (id:=1) .false (pl:= .p 1 <| .p 2 <| .p 3 <| .r 0 <| .r 4 <| .r 5 <| .e true [(6,.e true [(7,.p 8 <| .p 9 <| .p 10 <| .p 11 <| .done)])]) k.out)):P:=h ⟨k⟩
theorem a7o {F:List HP} {c:Cfg} {l w:Int} (hc:c.wf) (hl:nA l) (hw:nA w):FnF Tryz.prog 210 [c.val,.int .i64 l,.int .i64 w] [] F (fun r L'=>r= .tuple [.int .i64 (a5h c l w),.int .i64 (xU c l w)].toArray∧L'=[]):=by
  cases e:aF c with
  |false=>
   have r1:a5h c l w=0:=by simp [a5h,fF,e]
   have r2:xU c l w=1:=by simp [xU,fF,e]
   have hn:∀ a b:Prop,¬(aF c=true∧a∧b):=fun a b h=>by simp [e] at h
   rw [r1,r2]
   refine FnF.mk' Tryz.func210 rfl rfl Tryz.ntmps210 rfl ?_
   repeat first|refine go ?_|intro _|refine tJ ?_|refine dM ?_|refine aD @lT ?_|refine aD (t9 hc (by simp [e])) ?_
   exact bF
  |true=>
   obtain ⟨_,_,_,⟨k,hk,ek⟩,⟨n,hn,en⟩,_⟩:=bG e
   have b1:=s7 hk
   have b2:=s7 hn
   rw [←ek] at b1
   rw [←en] at b2
   simp only [Int.reducePow] at b1 b2
   have hb:=b1p (a:=c.words) (b:=c.lines) (m:=8) (n:=1024) (om) (om) (om) (om) (om)
   have hS:=fun F=>lT (F:=F) hc
   simp only [fO,e,if_true] at hS
   by_cases h:0≤w∧w<c.words∧0≤l∧l<c.words*c.lines
   · have key:l*c.words+w<c.words*c.lines↔l<c.lines:=by
       rw [Int.mul_comm c.words c.lines]
       exact ⟨fun q=>d0c q (om) (om),fun q=>e8t (om) q (om) (om)⟩
     have r1:a5h c l w=if l*c.words+w<c.words*c.lines then l*c.words+w else 0:=by simp only [a5h,fF,e,key];simp;congr 1;simp;omega
     have r2:xU c l w=if l*c.words+w<c.words*c.lines then 0 else 1:=by simp only [xU,fF,e,key];simp;congr 1;simp;omega
     rw [r1,r2]
     refine FnF.mk' Tryz.func210 rfl rfl Tryz.ntmps210 rfl ?_
     repeat first|refine go ?_|intro _|refine tJ ?_|refine dM ?_|refine aD @hS ?_|refine aD @b4o ?_
     exact bF
   · have hle:c.lines≤c.words*c.lines:=by
       have:=Int.mul_le_mul_of_nonneg_right (a:=1) (b:=c.words) (c:=c.lines) (om) (om)
       omega
     have r0:fF c l w=false:=by simp only [fF,e];simp;omega
     have r1:a5h c l w=0:=by simp [a5h,r0]
     have r2:xU c l w=1:=by simp [xU,r0]
     rw [r1,r2]
     have hno:¬(aF c=true∧0≤w∧w<c.words∧0≤l∧l<c.words*c.lines):=fun q=>h q.2
     refine FnF.mk' Tryz.func210 rfl rfl Tryz.ntmps210 rfl ?_
     repeat first|refine go ?_|intro _|refine tJ ?_|refine dM ?_|refine aD @hS ?_|refine aD @t9 ?_
     exact bF
def a7p (n h H:Nat):Nat:=(n+(H-1)-h) / H
theorem c5h {n h H k:Nat} (hH:h<H):k<a7p n h H↔h+k*H<n:=by
  unfold a7p
  rw [Nat.lt_iff_add_one_le,Nat.le_div_iff_mul_le (om),Nat.add_mul]
  omega
def b5k (h H k:Nat):List Int:=(List.range k).map fun (i:Nat)=>((h+i*H:Nat):Int)
theorem d0d (h H k:Nat):b5k h H (k+1)=b5k h H k++[((h+k*H:Nat):Int)]:=by
  simp [b5k,List.range_succ]
theorem c0g (h H k:Nat):(b5k h H k).length=k:=by simp [b5k]
def jF (c:Cfg) (h:Int):List Int:=if aF c&& decide (0≤h∧h<c.homes) then b5k h.toNat c.homes.toNat (a7p c.lines.toNat h.toNat c.homes.toNat) else []
theorem b8f {F:List HP} {c:Cfg} {h:Int} (hc:c.wf) (hh:nA h) :
    FnF Tryz.prog 96 [c.val,.int .i64 h] [] F (fun r L'=>∃ p q,r= .slice p (jF c h).length q∧L'=[Own 3 1 (.slice p (jF c h).length q) (jF c h).length (aC ic (jF c h))]):=by
  have hE:=fun F=>dK (F:=F) hc
  cases e:aF c with
  |false=>
   have r1:jF c h=[]:=by simp [jF,e]
   rw [r1]
   simp only [eD,e] at hE
   refine FnF.mk' Tryz.func96 rfl rfl Tryz.ntmps96 rfl ?_
   repeat first|refine gd ?_|intro _|refine aD @hE ?_
   (apply aA rfl rfl bH)
   · exact ⟨_,_,rfl,rfl⟩
   · exact aO (by exact aB)
  |true=>
   simp only [eD,e,if_true] at hE
   by_cases hr:0≤h∧h<c.homes
   · obtain ⟨_,⟨m,hm,em⟩,_,_,⟨n,hn,en⟩,_⟩:=bG e
     have b1:=s7 hm
     have b2:=s7 hn
     rw [←em] at b1
     rw [←en] at b2
     simp only [Int.reducePow] at b1 b2
     obtain ⟨H,eH⟩:∃ H:Nat,c.homes=H:=⟨c.homes.toNat,om⟩
     obtain ⟨n,en⟩:∃ n:Nat,c.lines=n:=⟨c.lines.toNat,om⟩
     obtain ⟨h,rfl⟩:∃ n:Nat,h=n:=⟨h.toNat,om⟩
     have r1:jF c h=b5k h H (a7p n h H):=by simp [jF,e,eH,en];omega
     have hH:h<H:=by omega
     rw [r1]
     refine FnF.mk' Tryz.func96 rfl rfl Tryz.ntmps96 rfl ?_
     repeat first|refine gd ?_|intro _|refine aD @hE ?_
     rename_i bc
     apply aW (E0:=[(2,_)]) (fun E0 (q:Nat×Option Addr×Nat)=>(6,.int .i64 ((h+q.1*H:Nat):Int))::(5,.slice q.2.1 q.1 q.2.2)::E0)
       (fun q=>Own 3 1 (.slice q.2.1 q.1 q.2.2) q.1 (aC ic (b5k h H q.1))::Cells bc 24 c.cells::F) (fun q=>q.1≤a7p n h H) (fun q=>a7p n h H-q.1) (0,none,0)
     · simp only [Nat.zero_mul,Nat.add_zero];exact m9
     · exact Nat.zero_le _
     · exact aO (by exact aB)
     · rintro ⟨k,p,q⟩ hk
       dsimp only at hk ⊢
       have hlt:=c5h (n:=n) (k:=k) hH
       have hcn:a7p n h H≤n+H:=by
         unfold a7p
         exact Nat.le_trans (Nat.div_le_self _ _) (om)
       by_cases hk2:k<a7p n h H
       · have h2:=hlt.1 hk2
         repeat first|refine gd ?_|intro _
         rename_i b' p' q'
         refine aT (k+1,p',q') (by dsimp only;omega) (by dsimp only;omega) ?_ ?_
         · dsimp only
           have e3:((h+(k+1)*H:Nat):Int)=((h+k*H:Nat):Int)+c.homes:=by rw [eH,Nat.add_mul];omega
           rw [e3];exact m9
         · dsimp only;rw [d0d,bJ,dW];exact aB
       · have h2:¬h+k*H<n:=fun z=>hk2 (hlt.2 z)
         have h3:k=a7p n h H:=by omega
         subst h3
         repeat first|refine gd ?_|intro _
         rw [show (b5k h H (a7p n h H)).length=a7p n h H from c0g _ _ _]
         (apply aA rfl rfl bH)
         · exact ⟨_,_,rfl,rfl⟩
         · exact aB
   · have r1:jF c h=[]:=by simp [jF,hr]
     rw [r1]
     refine FnF.mk' Tryz.func96 rfl rfl Tryz.ntmps96 rfl ?_
     repeat' (first|refine gd ?_|intro _|refine aD @hE ?_|refine nV ?_ ?_|fail)
     all_goals first|(exfalso;omega)|skip
     all_goals (apply aA rfl rfl bH)
     all_goals first|exact ⟨_,_,rfl,rfl⟩|exact aO (by exact aB)
end
section
open Go
section
variable {P:Program} {N:Nat} {env:Env} {L:List HP} {Q:Exit→Act→World→Prop}
def e0e {ι:Type} (N:Nat) (E:ι→Env) (H:ι→List HP) (I:ι→Prop):Act→World→Prop:=fun a w=>∃ j,I j∧EnvOk N (E j) a∧fP (H j) w
theorem b0d {ι:Type} {l:Nat} {c rest:Code} (E:ι→Env) (H:ι→List HP) (I:ι→Prop) (hf:findLabel c l=some rest) (first:WC P N c env L (Exit.jump l (e0e N E H I) Q))
    (pass:∀ j,I j→WC P N rest (E j) (H j) (Exit.jump l (fun _ _=>False) Q)):WC P N (.scope c) env L Q:=fun a w ha hw=>
  wp_scope_jumps l (e0e N E H I) (fun _ _=>0) hf (first a w ha hw) fun a w ⟨j,h1,h2,h3⟩=>wp_mono (pass j h1 a w h2 h3) fun e a' w' hq=>by
    cases e with
    |goto l'=>exact absurd hq.2 id
    |normal=>exact hq
    |exit id=>exact hq
    |ret=>exact hq
    |panic ch=>exact hq
    |outgrown=>exact hq
theorem c0h {l:Nat} (h:WE N .normal env L Q):WC P N (.label l) env L Q:=fun a w ha hw=>wp_label (h a w ha hw)
theorem c6w {l:Nat} (h:WE N (.goto l) env L Q):WC P N (.goto l) env L Q:=fun a w ha hw=>wp_goto (h a w ha hw)
theorem c6x {ι:Type} {l:Nat} {E:ι→Env} {H:ι→List HP} {I:ι→Prop} (j:ι) (hI:I j) (hs:Sub (E j) env) (he:Ent L (H j)):WE N (.goto l) env L (Exit.jump l (e0e N E H I) Q):=
  fun a w ha hw=>⟨rfl,j,hI,ha.sub hs,he.sat hw⟩
theorem oK {l:Nat} {J:Act→World→Prop} (h:WE N .ret env L Q):WE N .ret env L (Exit.jump l J Q):=h
theorem a0q {l:Nat} {K:Act→World→Prop} (h:WE N (.goto l) env L Q):WE N (.goto l) env L (Exit.then K Q):=h
theorem yR {id l:Nat} (h:WE N (.goto l) env L Q):WE N (.goto l) env L (Exit.inBlock id Q):=h
theorem a0r {ι:Type} {l:Nat} {E:ι→Env} {H:ι→List HP} {I:ι→Prop} {μ:ι→Nat} {i:ι} (h:WE N (.goto l) env L Q):WE N (.goto l) env L (bT N E H I μ i Q):=h
end
end
end Go.Sx
