/- Ins, Msh8, Shp, Split, Str: several of my texts as one. My own work. -/
import Derived.Laws.Externs
import Derived.Lib.AppendZerosOnto
import Derived.Lib.Overlaps
import Derived.Test.YtjihlpjnebdiiaaGreatZab
import Derived.Laws.BytesString
import Derived.Laws.Strings
set_option linter.unusedVariables false
set_option linter.unusedSectionVars false
set_option linter.unusedSimpArgs false
set_option maxRecDepth 100000
set_option maxHeartbeats 4000000
namespace Go.Sx
open Go Go.Proofs
section
open Go
section
variable {P:Program} {N:Nat} {t ty:TypeId} {x y:Operand} {env:Env} {L:List HP}
theorem e2r {e:TypeId} {ats:List TypeId} {p:Option Addr} {n c:Nat} [hT:TU P t (.slice e)] (hx:ev env x=some (.slice p n c)):V P N (.call ⟨.builtin .cap,[x].toArray,(t::ats).toArray⟩) ty env L (.int .i64 (c:Int)):=by
  intro a w ha hw
  simp [execOp,resolve,invoke,builtin,ha.ev hx,Builtin.cap_,aE hT.pf,goInt]
theorem c6o {e tn:TypeId} {g T i cap k bs:Nat} {kk:Int} {z z0:Value} {l:List Value} {C:List Value→List HP} {pos:String} {aft:Array Edge} {d:Nat} [hT:TU P t (.slice e)] [hN:TU P tn (.int .i64)] [hZ:TZ P e 1 z bs] [hco:CO z [z0]]
    (hx:ev env x=some (.slice (some ⟨g,0,none⟩) i cap)) (hy:ev env y=some (.int .i64 kk)) (hk:CellsAt g L T l C) (he:kk=(k:Int)) (h0:0<k) (hg:cap<i+k) (hb:(i+k)*bs≤140737488355328) (hl0:i+k≤9223372036854775807) (hi:i≤l.length) (ho:(l.take i).all one=true) (h1:one z0=true) (hd:Nat.blt d N=true) :
    KO P N ⟨some d,.call ⟨.builtin .append,[x,y].toArray,[t,tn].toArray⟩,ty,pos,aft,none⟩ env L (d6k env d (i+k) (fun v'=>Own e 1 v' (i+k) (l.take i++List.replicate k z0)::L)):=by
  subst he
  intro a w ha hw K Q next
  have hl:i+k≤maxLen:=by simp only [maxLen];omega
  obtain ⟨ti,hti,hpf⟩:=Option.map_eq_some_iff.1 hZ.pf
  simp only [Prod.mk.injEq] at hpf
  obtain ⟨hisz,hiz,hib⟩:=hpf
  have hzc:z.cells= #[z0]:=by rw [cD,hco.pf]
  have hh:=fV hk hw
  have hold:(Builtin.firstCells ti.size i (.slice (some ⟨g,0,none⟩) i cap)).run P w.drew= .ok (l.take i).toArray w.drew:=by
    rw [hisz]
    simp only [Builtin.firstCells]
    refine dU (by rw [List.length_take];omega) (fun j v hj=>?_)
    have:w.drew.cell? ⟨g,0+j,none⟩=w.cell? ⟨g,0+j,none⟩:=rfl
    rw [this,eG hh]
    rw [List.getElem?_take] at hj
    split at hj
    · simpa using hj
    · cases hj
  have hr:=Lib.run_append_grow_zeros (P:=P) w t tn ty e ti z .i64 .i64 hT.pf hN.pf hti hiz (some ⟨g,0,none⟩) i cap (l.take i) hold k h0 (om) hg (om) (by rw [hib];have:k*bs≤(i+k)*bs:=Nat.mul_le_mul_right _ (om);omega) (growslice_fits (om) (by rw [hib];exact hb))
  have hge:=grownCap_ge w (i+k) cap e
  have hmap:∀ (n:Nat),(Builtin.zeroCells #[z0] n).toList=List.replicate n z0:=fun n=>by
    have:=oK [z0] n 1 rfl
    rw [this]
    induction n with
    |zero=>rfl
    |succ n ih=>rw [List.replicate_succ,List.flatten_cons,ih (oK [z0] n 1 rfl),List.replicate_succ];rfl
  obtain ⟨v',w',hrun,hsat⟩:∃ v' w',(Builtin.append_ #[t,tn] ty #[.slice (some ⟨g,0,none⟩) i cap,.int .i64 k]).run P w= .ok v' w'∧d3 (Own e 1 v' (i+k) (l.take i++List.replicate k z0)::L) w':=by
    refine ⟨_,_,hr,b3f (w:=w.drew) _ (fun h hc=>⟨?_,?_,.inr ⟨_,_,_,rfl,hc,hge,grownCap_le_maxLen w (i+k) cap e hl,?_,?_⟩⟩) (wA hw)⟩
    · simp;omega
    · rw [List.all_append,ho];simp [h1]
    · simp only [Array.size_append,List.size_toArray,a4z,hzc,List.length_take]
      simp;omega
    · simp only [Array.toList_append,hzc,hmap]
      rw [List.take_append_of_le_length (by simp;omega),List.take_of_length_le (by simp;omega)]
  unfold Oper.wp
  have ex:=gC (P:=P) (ρ:=a.eval) (b:= .append) (args:=[x,y]) (ats:=[t,tn].toArray) (ty:=ty) (vs:=[.slice (some ⟨g,0,none⟩) i cap,.int .i64 k]) (by simp [ha.ev hx,ha.ev hy]) (w:=w) (r:= .ok (.value v') w') (fun cs=>by
    simp [builtin,hrun])
  rw [bE,ex]
  obtain ⟨p',c',rfl⟩:=wR hsat
  exact next _ _ _ _ ⟨p',c',rfl,rfl⟩ (ha.put hd _) hsat
theorem c0a {f:Operand} {ats:Array TypeId} {fid:FuncId} {fn:Func} {tR e:TypeId} {ga oa la ca gb ob lb cb TA TB bs sz:Nat} {z:Value} {xa xb:List Value} {CA CB:List Value→List HP} {pos:String} {aft:Array Edge} {d:Nat}
    [hT:TU P t (.slice e)] [hZ:TZ P e sz z bs]
    (hf:ev env f=some (.func (.func fid) [].toArray [].toArray)) (hx:ev env x=some (.slice (some ⟨ga,oa,none⟩) la ca)) (hy:ev env y=some (.slice (some ⟨gb,ob,none⟩) lb cb)) (hfn:P.funcs[fid]? =some fn) (hname:(fn.name == "runtime.NumGoroutine")=false) (hbody:fn.body.isNone=true) (hnx:Extern.findNext fn=none) (hex:Extern.find fn=some (Extern.SlicesOverlaps.overlaps #[t,t] #[tR]))
    (ka:CellsAt ga L TA xa CA) (kb:CellsAt gb L TB xb CB) (hne:ga≠gb) (hb0:xb.length≠0) (hd:Nat.blt d N=true) :
    KO P N ⟨some d,.call ⟨.value f,[x,y].toArray,ats⟩,ty,pos,aft,none⟩ env L (a2m ((d,.bool false)::env) L):=by
  intro a w ha hw K Q next
  have h1:=fV ka hw
  have h2:=fV kb hw
  have hr:=Lib.run_overlaps_apart (P:=P) w t tR e hT.pf sz (bA hZ) ⟨ga,oa,none⟩ ⟨gb,ob,none⟩ la ca lb cb hne TA TB xa.length xb.length (by simp [World.shape?,h1]) (by simp [World.shape?,h2]) hb0 (by simp [World.frozen?,h1]) (by simp [World.frozen?,h1])
  unfold Oper.wp
  have ex:(execOp a.eval ⟨none,.call ⟨.value f,[x,y].toArray,ats⟩,ty, "", #[],none⟩).run P w= .ok (.value (.bool false)) w:=by
    simp only [execOp,resolve,Sem.run_bind,Deferred.ofValue,ha.ev hf,Sem.run_pure,Result.andThen_ok,invoke]
    rw [run_callFunc_extern hfn hname hbody hnx hex]
    simp [ha.ev hx,ha.ev hy,hr]
  rw [bE,ex]
  exact next _ _ _ _ ⟨rfl,rfl⟩ (ha.put hd _) hw
theorem a5b {e:TypeId} {ga oa na ca gb ob nb cb TA TB sz k bs:Nat} {z:Value} {l l2 l':List Value} {CA CB:List Value→List HP} {pos:String} {aft:Array Edge} {d:Option Nat} {t2:TypeId} [hT:TU P t (.slice e)] [hZ:TZ P e sz z bs]
    (hx:ev env x=some (.slice (some ⟨ga,oa,none⟩) na ca)) (hy:ev env y=some (.slice (some ⟨gb,ob,none⟩) nb cb)) (hka:CellsAt ga L TA l CA) (hkb:CellsAt gb L TB l2 CB) (hk:min nb na=k) (hfit:oa+k*sz≤l.length) (hfit2:ob+k*sz≤l2.length) (ho:((l2.drop ob).take (k*sz)).all one=true) (hd:wB N d=true) (hl:aQ l oa ((l2.drop ob).take (k*sz))=l') :
    KO P N ⟨d,.call ⟨.builtin .copy,[x,y].toArray,[t,t2].toArray⟩,ty,pos,aft,none⟩ env L (a2m (qL env d (.int .i64 (k:Nat))) (CA l')):=by
  subst hl hk
  intro a w ha hw K Q next
  obtain ⟨R,k1,k2⟩:=hka.pf
  have hs:=k1.sat hw
  have hh:=nC hs
  have hh2:=fV hkb hw
  have htl:((l2.drop ob).take (min nb na*sz)).length=min nb na*sz:=by rw [List.length_take,List.length_drop];omega
  have hf:(Builtin.firstCells sz (min nb na) (.slice (some ⟨gb,ob,none⟩) nb cb)).run P w= .ok ((l2.drop ob).take (min nb na*sz)).toArray w:=by
    simp only [Builtin.firstCells]
    refine dU htl fun j v hj=>?_
    rw [eG hh2]
    rw [List.getElem?_take] at hj
    split at hj
    · rwa [List.getElem?_drop] at hj
    · cases hj
  obtain ⟨w',r1,r2,r3,r4,r5,r6⟩:=dV (P:=P) ga TA ((l2.drop ob).take (min nb na*sz)) l oa 0 w hh (by rw [htl];omega) ho
  have hrun:(Builtin.copy_ #[t,t2] ty #[.slice (some ⟨ga,oa,none⟩) na ca,.slice (some ⟨gb,ob,none⟩) nb cb]).run P w= .ok (goInt (min nb na:Nat)) w':=by
    have hmn:Nat.min nb na=min nb na:=rfl
    simp [Builtin.copy_,aE hT.pf,bA hZ,Builtin.lenOf,hmn,hf,r1]
  unfold Oper.wp
  have ex:=gC (P:=P) (ρ:=a.eval) (b:= .copy) (args:=[x,y]) (ats:=[t,t2].toArray) (ty:=ty) (vs:=[.slice (some ⟨ga,oa,none⟩) na ca,.slice (some ⟨gb,ob,none⟩) nb cb]) (by simp [ha.ev hx,ha.ev hy]) (w:=w) (r:= .ok (.value (goInt (min nb na:Nat))) w') (fun cs=>by
    simp [builtin,hrun])
  rw [bE,ex]
  refine next _ _ _ _ ⟨rfl,rfl⟩ (ha.puts hd _) ((k2 _).sat ?_)
  exact qW (b:=ga) (Cells ga TA (aQ l oa ((l2.drop ob).take (min nb na*sz)))) (fun h hp=>⟨_,hp.pf⟩) (fun h e=>⟨e⟩) (by simpa using r2) r3 r4 r5 r6 hs
theorem e4k {g h T T':Nat} {l l':List Value} {all:Array Oper} {c:List Oper} {Q:Exit→Act→World→Prop} (k:g≠h→WO P N all c env (Cells g T l::Cells h T' l'::L) Q):WO P N all c env (Cells g T l::Cells h T' l'::L) Q:=by
  intro a w ha hw
  refine k ?_ a w ha hw
  obtain ⟨S,R,d,hp,A,B,d2,hq,hL⟩:=hw
  rw [mE] at hq
  intro e
  subst e
  exact d g (nN hp.pf).1 (nN hq.pf).1.1
end
end
section
def r8 (l:List Miss) (line:Int):Int:=if cR l line then (if (bV l line).owes then 0 else 7) else 5
def iN (l:List Miss) (line:Int):List Miss:=if r8 l line=0 then l.eraseIdx (qS l line).toNat else l
theorem c6p {e:TypeId} {g n i cap:Nat} {xs spare:List Value} {M:List HP} (hi:i<n) (q1:xs.length=n*15) (q2:xs.all one=true) (h1:n≤cap) (h2:cap≤maxLen) (h3:spare.length=(cap-n)*15) :
    Ent (Cells g e (aQ (xs++spare) (0+i*15) (List.take (min (n-(i+1)) (n-i)*15) (List.take ((n-(i+1))*15) (List.drop ((i+1)*15) xs))))::M)
      (Own e 15 (.slice (some ⟨g,0,none⟩) (n-1) cap) (n-1) (xs.take (i*15)++xs.drop ((i+1)*15))::M):=by
  have e1:List.take (min (n-(i+1)) (n-i)*15) (List.take ((n-(i+1))*15) (List.drop ((i+1)*15) xs))=List.drop ((i+1)*15) xs:=by
    rw [List.take_take,List.take_of_length_le (by rw [List.length_drop,q1];omega)]
  have e2:(List.drop ((i+1)*15) xs).length=(n-(i+1))*15:=by rw [List.length_drop,q1];omega
  rw [e1,Nat.zero_add]
  have hl:=bS (l:=xs++spare) (ys:=List.drop ((i+1)*15) xs) (o:=i*15) (by rw [List.length_append,e2];omega)
  refine lJ (cap:=cap) ?_ (om) h2 ?_ ?_ Ent.refl
  · rw [hl,List.length_append,q1,h3];omega
  · have:=p6 (l:=xs++spare) (ys:=List.drop ((i+1)*15) xs) (o:=i*15) (by rw [List.length_append];omega)
    rw [e2,List.take_append_of_le_length (om)] at this
    rw [←this];congr 1;omega
  · rw [List.all_append,List.all_eq_true.2 fun u hu=>List.all_eq_true.1 q2 u (List.mem_of_mem_take hu),List.all_eq_true.2 fun u hu=>List.all_eq_true.1 q2 u (List.mem_of_mem_drop hu)]
    rfl
attribute [local irreducible] Exit.then Exit.inBlock Code.wp WC WO WE WQ V bF tV d3 bW dF uH IntKind.wrap WR Code.rounds WT KO
theorem c0b {F:List HP} {b:Nat} {line:Int} {T:TypeId} {C:List Value→List HP} {m:Miss} (k:CellsAt b F T [.int .i64 line] C) :
    FnF Tryz.prog 202 [e9v m,.pointer (some ⟨b,0,none⟩)] [] F (fun r L'=>r= .bool (decide (m.line=line))∧L'=[]):=by
  refine FnF.mk' Tryz.func202 rfl rfl Tryz.ntmps202 rfl ?_
  repeat first|refine gd ?_|intro _
  exact aU
theorem d8k {F:List HP} {b bl:Nat} {room:Int} {l:List Miss} {line:Int} {p:Option Addr} {c:Nat} {C:List Value→List HP} (k1:CellsAt bl F 3 [.int .i64 line] C) (hn:l.length≤4096) :
    FnF Tryz.prog 199 [.pointer (some ⟨b,0,none⟩),.func (.func 202) [].toArray [.pointer (some ⟨bl,0,none⟩)].toArray] [Cells b 184 [.int .i64 room,.slice p l.length c],Own 182 15 (.slice p l.length c) l.length (aC jF l)] F
      (fun r L'=>r= .int .i64 (qS l line)∧L'=[Cells b 184 [.int .i64 room,.slice p l.length c],Own 182 15 (.slice p l.length c) l.length (aC jF l)]):=by
  have hI:=fun F (C:List Value→List HP) (k1':CellsAt bl F 3 [.int .i64 line] C) (k:RdL F 15 (.slice p l.length c) l.length (aC jF l))=>
    lQ (F:=F) (v:= .slice p l.length c) (l:=l) (fk:=202) (first:=[]) (cap:=[.pointer (some ⟨bl,0,none⟩)]) (p:=fun m=>decide (m.line=line)) k (om) (fun x _=>c0b k1')
  refine FnF.mk' Tryz.func199 rfl rfl Tryz.ntmps199 rfl ?_
  repeat first|refine gd ?_|intro _|refine aD @hI ?_
  (apply aA rfl rfl bB;(first|exact lW|exact ⟨by simp [qS]<;>omega,rfl⟩);exact iC)
theorem kW {Q P:Prop} (k:Q) (h:Hid Q→P:=by
  intro k
  first
  |(refine aG ?_;refine q9 (id:=7) .true (pl:= .p 0 <| .p 1 <| .p 2 <| .p 4 <| .p 6 <| .p 7 <| .p 8 <| .p 10 <| .p 11 <| .r 3 <| .p 5 <| .r 9 <| .p 12 <| .e true [(13,.done)]) k.out)
  |(refine aG ?_;refine q9 (id:=8) .true (pl:= .p 0 <| .p 1 <| .p 2 <| .p 3 <| .p 5 <| .p 6 <| .p 7 <| .r 4 <| .r 8 <| .p 9 <| .p 10 <| .p 11 <| .p 12 <| .p 13 <| .e true [(14,.done)]) k.out)):P:=h ⟨k⟩
theorem c6q {F:List HP} {b:Nat} {room:Int} {l:List Miss} {line:Int} :
    FnF Tryz.prog 154 [.pointer (some ⟨b,0,none⟩),.int .i64 line] [c6w b room l] F (fun r L'=>r= .int .i64 (r8 l line)∧L'=[c6w b room (iN l line)]):=by
  refine FnF.mk' Tryz.func154 rfl rfl Tryz.ntmps154 rfl ?_
  refine iF fun p c hl=>?_
  have hO:=fun F=>t6 (F:=F) (b:=b) (room:=room) (l:=l) (line:=line) (p:=p) (c:=c) (om)
  have hA:=fun F (bl:Nat) (C:List Value→List HP) (k1:CellsAt bl F 3 [.int .i64 line] C)=>d8k (F:=F) (b:=b) (room:=room) (l:=l) (p:=p) (c:=c) k1 (om)
  cases h:cR l line with
  |false=>
   have e1:r8 l line=5:=by unfold r8;rw [h];rfl
   have e2:iN l line=l:=by unfold iN;rw [e1];rfl
   rw [e1,e2]
   rw [h,if_neg Bool.false_ne_true] at hO
   repeat first|refine go ?_|intro _|refine kW ?_|refine cM ?_|refine aD @hO ?_
   (apply aA rfl rfl bB)
   · exact ⟨rfl,rfl⟩
   · (apply dR;(focus (exact aB));all_goals exact mG)
  |true=>
   obtain ⟨i,hi,e0,ea,_⟩:=nV h
   rw [if_pos h,e0,Int.toNat_natCast] at hO
   rw [e0] at hA
   cases ho:l[i].owes with
   |false=>
    have e1:r8 l line=7:=by unfold r8;rw [if_pos h,ea,ho];rfl
    have e2:iN l line=l:=by unfold iN;rw [e1];rfl
    rw [e1,e2]
    repeat' (first|refine go ?_|intro _|refine kW ?_|refine cM ?_|refine aD @hO ?_|refine mH ?_ ?_|fail)
    all_goals (apply aA rfl rfl bB)
    all_goals first|exact ⟨rfl,rfl⟩|(apply dR;(focus (exact aB));all_goals exact mG)
   |true=>
    have e1:r8 l line=0:=by unfold r8;rw [if_pos h,ea,ho];rfl
    have e2:iN l line=l.eraseIdx i:=by unfold iN;rw [if_pos e1,e0,Int.toNat_natCast]
    rw [e1,e2]
    repeat first|refine go ?_|intro _|refine aD @hO ?_|refine aD @hA ?_
    (first|refine aW (Own 182 15 (.slice p l.length c) l.length (aC jF l)) ?_|refine aX (Own 182 15 (.slice p l.length c) l.length (aC jF l)) ?_|refine aY (Own 182 15 (.slice p l.length c) l.length (aC jF l)) ?_)
    refine a8d (fun q1 q2 p0 e0' e1' e2'=>by omega) (fun q1 q2 g cap spare e0' k1 k2 k3=>?_)
    obtain ⟨rfl,rfl⟩:p=some ⟨g,0,none⟩∧c=cap:=by simpa using e0'
    repeat first|refine go ?_|intro _|refine kW ?_|refine cM ?_
    rw [show (i:Int)+1=((i+1:Nat):Int) from rfl]
    repeat first|refine go ?_|intro _|refine kW ?_|refine cM ?_
    rw [n7 (l:=i) (om)]
    apply p4;rfl;exact GIn.none
    apply d6e;rfl;rfl;exact inferInstance;exact RdL.cut (a5a inferInstance q1 q2) (om) (Nat.le_refl _) k1;(simp only [List.length_append,q1,k3];omega);rfl;rfl
    refine aN ?_
    (refine ⟨by first|exact After.free|exact After.turns rfl|(refine After.still ?_;exact iC;done),?_⟩)
    repeat first|refine go ?_|intro _|refine kW ?_|refine cM ?_
    rw [show (l.length:Int)-1=((l.length-1:Nat):Int) by omega]
    repeat first|refine go ?_|intro _|refine kW ?_|refine cM ?_
    rw [t0,Int.toNat_natCast]
    have hs:aQ [Value.int .i64 room,Value.slice (some ⟨g,0,none⟩) l.length c] 1 (cellsOf (Value.slice (some ⟨g,0,none⟩) (l.length-1) c))=[Value.int .i64 room,Value.slice (some ⟨g,0,none⟩) (l.length-1) c]:=rfl
    rw [hs]
    (apply aA rfl rfl bB)
    · exact ⟨rfl,rfl⟩
    · refine Ent.trans (c6p hi q1 q2 k1 k2 k3) ?_
      apply dR
      · exact aB
      · rw [List.length_eraseIdx,if_pos hi]
      · rw [iA (enc:=jF) (n:=15) (fun _=>rfl),eE (enc:=jF) (n:=15) (fun _=>rfl),←aZ,←List.eraseIdx_eq_take_drop_succ]
      · have:=List.length_eraseIdx_le l i
        omega
end
section
attribute [local irreducible] Exit.then Exit.inBlock Code.wp WC WO WE WQ V bF tV d3 bW dF uH IntKind.wrap WR Code.rounds WT KO
theorem a1z {F:List HP} {n:Int} (hn:kP n):FnF Tryz.prog 169 [.int .i64 n] [] F (fun r L'=>r=(.tuple [.int .i64 (b8u n),.bool (b1j n)].toArray)∧L'=[]):=by
  unfold kP at hn
  refine FnF.mk' Tryz.func169 rfl rfl Tryz.ntmps169 rfl ?_
  by_cases h:n<1
  · have e:uM n=none:=by
      cases e:uM n with
      |none=>rfl
      |some k=>have:=tS e;have h0:(0:Int)<2^k:=Int.pow_pos (om);omega
    have e1:b8u n=0:=by simp [b8u,e]
    have e2:b1j n=false:=by simp [b1j,e]
    clear e
    repeat first|refine gd ?_|intro _
    (apply aA rfl rfl bB)
    · rw [e1,e2];exact ⟨rfl,rfl⟩
    · exact aB
  · cases e:uM n with
    |none=>
     have hb:=c1m (om) hn.2 e
     have e1:b8u n=0:=by simp [b8u,e]
     have e2:b1j n=false:=by simp [b1j,e]
     clear e
     repeat first|refine gd ?_|intro _
     (apply aA rfl rfl bB)
     · rw [e1,e2];exact ⟨rfl,rfl⟩
     · exact aB
    |some m=>
     obtain ⟨hm,rfl⟩:=tS e
     have hb:=d3q hm
     have e1:b8u (2^m)=m:=by simp [b8u,e]
     have e2:b1j (2^m)=true:=by simp [b1j,e]
     clear e
     repeat first|refine gd ?_|intro _
     apply b3g (fun k:Nat=>[(0,.int .i64 (2^m)),(4,.int .i64 (k:Int))]) (fun _=>F) (fun k=>k≤m) (fun k=>m-k) 0
     · omega
     · exact Sub.cons rfl (Sub.cons rfl Sub.nil)
     · exact aB
     · intro k hk
       have hf:=d3r hk
       have hmin:min ((k:Int)).toNat IntKind.i64.bits=k:=by simp [IntKind.bits];omega
       repeat first|refine gd ?_|intro _
       rw [hmin,hf]
       by_cases hlt:k<m
       · have:(1:Int)<2^(m-k):=by
           have:(2:Nat)^1≤2^(m-k):=Nat.pow_le_pow_right (om) (om)
           have:((2^1:Nat):Int)≤((2^(m-k):Nat):Int):=by exact_mod_cast this
           simp at this;omega
         repeat first|refine gd ?_|intro _
         refine aS (k+1) (om) (om) (Sub.cons rfl (Sub.cons rfl Sub.nil)) Ent.refl
       · obtain rfl:k=m:=by omega
         have:¬(1:Int)<2^(k-k):=by simp
         repeat first|refine gd ?_|intro _
         (apply aA rfl rfl bB)
         · rw [e1,e2];exact ⟨rfl,rfl⟩
         · exact aB
theorem c0c {F:List HP} {n l m:Int} {p:Bool} (hn:kP n):FnF Tryz.prog 136 [.agg [.int .i64 n,.int .i64 l,.int .i64 m,.bool p].toArray] [] F (fun r L'=>r=(.bool (fI n l m p))∧L'=[]):=by
  refine FnF.mk' Tryz.func136 rfl rfl Tryz.ntmps136 rfl ?_
  cases p
  · repeat' (first|refine gd ?_|intro _|refine mH ?_ ?_|fail)
    all_goals (apply aA rfl rfl bB;(exact ⟨by first|(simp_all [fI];done)|(simp_all [fI];omega),rfl⟩);exact iC)
  · repeat first|refine gd ?_|intro _
    repeat first|refine gd ?_|intro _|refine aD @a1z ?_
    cases h:b1j n
    all_goals repeat' (first|refine gd ?_|intro _|refine mH ?_ ?_|fail)
    all_goals (apply aA rfl rfl bB;(exact ⟨by first|(simp_all [fI];done)|(simp_all [fI];omega),rfl⟩);exact iC)
def a8f (c:Cfg):List (Int×Int×Int×Bool):=[(c.cores,1,64,false),(c.homes,1,16,true),(c.sets,1,64,true),(c.words,1,8,true),(c.lines,1,1024,true),(c.ways,1,8,false),
  (c.pointers,0,8,false),(c.mshrs,1,8,false),(c.buffer,1,16,false),(c.writebacks,1,8,false),(c.r0,1,64,false),(c.r1,1,64,false),(c.r2,1,64,false)]
def d4p (b:Int×Int×Int×Bool):List Value:=[.int .i64 b.1,.int .i64 b.2.1,.int .i64 b.2.2.1,.bool b.2.2.2]
theorem a5c (c:Cfg):aF c=(a8f c).all (fun b=>fI b.1 b.2.1 b.2.2.1 b.2.2.2):=by
  simp [aF,a8f,Bool.and_assoc]
theorem d8l (c:Cfg) (hc:c.wf):∀ b∈a8f c,kP b.1:=by
  intro b hb
  obtain ⟨h1,h2,h3,h4,h5,h6,h7,h8,h9,h10,h11,h12,h13⟩:=hc
  simp only [a8f,List.mem_cons,List.not_mem_nil,or_false] at hb
  rcases hb with rfl|rfl|rfl|rfl|rfl|rfl|rfl|rfl|rfl|rfl|rfl|rfl|rfl<;>assumption
theorem dC {F:List HP} {c:Cfg} (hc:c.wf):FnF Tryz.prog 88 [c.val] [] F (fun r L'=>r=(.int .i64 (d4 c))∧L'=[]):=by
  refine FnF.mk' Tryz.func88 rfl rfl Tryz.ntmps88 rfl ?_
  repeat first|refine gd ?_|intro _
  apply b3g (fun j:Nat=>[(50,.int .i64 (j:Int)),(49,.agg (aC d4p (a8f c)).toArray)]) (fun _=>F) (fun j=>j≤13∧∀ i (h:i<(a8f c).length),i<j→fI (a8f c)[i].1 (a8f c)[i].2.1 (a8f c)[i].2.2.1 (a8f c)[i].2.2.2=true) (fun j=>13-j) 0
  · exact ⟨om,fun i h hi=>by omega⟩
  · exact Sub.cons rfl (Sub.cons rfl Sub.nil)
  · exact aB
  · rintro j ⟨hj,hall⟩
    by_cases hlt:j<13
    · have hlen:j<(a8f c).length:=hlt
      have hs:=b8m (enc:=d4p) (n:=4) (fun _=>rfl) (a8f c) j hlen
      repeat first|refine gd ?_|intro _
      refine b3h (xB rfl rfl (om) (om) hs rfl) rfl ?_
      have hwf:=d8l c hc _ (List.getElem_mem hlen)
      generalize hb:(a8f c)[j]=b at hwf
      repeat first|refine gd ?_|intro _
      repeat first|refine gd ?_|intro _|refine aD @c0c ?_
      cases hf:fI b.1 b.2.1 b.2.2.1 b.2.2.2
      · repeat first|refine gd ?_|intro _
        have e:aF c=false:=by
          rw [a5c,List.all_eq_false]
          exact ⟨_,List.getElem_mem hlen,by simp [hb,hf]⟩
        (apply aA rfl rfl bB;(exact ⟨by first|(simp [d4,e];done)|(simp [d4,e];omega),rfl⟩);exact iC)
      · repeat first|refine gd ?_|intro _
        refine aS (j+1) (om) ⟨om,fun i h hi=>?_⟩ (Sub.cons rfl (Sub.cons rfl Sub.nil)) ?_
        · by_cases hij:i=j
          · subst hij;rw [hb];exact hf
          · exact hall i h (om)
        · exact aB
    · obtain rfl:j=13:=by omega
      have e:aF c=true:=by
        rw [a5c,List.all_eq_true]
        intro b hb
        obtain ⟨i,hi,rfl⟩:=List.getElem_of_mem hb
        exact hall i hi hi
      repeat first|refine gd ?_|intro _
      (apply aA rfl rfl bB;(exact ⟨by first|(simp [d4,e];done)|(simp [d4,e];omega),rfl⟩);exact iC)
theorem d1b {n:Int} (h:b1j n=true):∃ k,k<63∧n=2^k:=by
  unfold b1j at h
  cases e:uM n with
  |none=>simp [e] at h
  |some k=>exact ⟨k,tS e⟩
theorem dO {c:Cfg} (h:aF c=true):1≤c.words∧c.words≤8∧1≤c.lines∧c.lines≤1024:=by
  simp only [aF,fI,Bool.and_eq_true,decide_eq_true_eq] at h
  omega
theorem a8g {a b m n:Int} (h1:0≤a) (h2:a≤m) (h3:0≤b) (h4:b≤n) (hn:0≤n):0≤a*b∧a*b≤m*n:=
  ⟨Int.mul_nonneg h1 h3,Int.le_trans (Int.mul_le_mul_of_nonneg_right h2 h3) (Int.mul_le_mul_of_nonneg_left h4 (om))⟩
theorem kQ {F:List HP} {c:Cfg} (hc:c.wf):FnF Tryz.prog 121 [c.val] [] F (fun r L'=>r=(.int .i64 (fJ c))∧L'=[]):=by
  refine FnF.mk' Tryz.func121 rfl rfl Tryz.ntmps121 rfl ?_
  repeat first|refine gd ?_|intro _
  repeat first|refine gd ?_|intro _|refine aD @dC ?_
  cases e:aF c
  · have e1:d4 c=1:=by simp [d4,e]
    repeat first|refine gd ?_|intro _
    (apply aA rfl rfl bB;(exact ⟨by first|(simp [fJ,e];done)|(simp [fJ,e];omega),rfl⟩);exact iC)
  · have e1:d4 c=0:=by simp [d4,e]
    have hw:=dO e
    have hm:=a8g (m:=8) (n:=1024) (a:=c.words) (b:=c.lines) (om) (om) (om) (om) (om)
    repeat first|refine gd ?_|intro _
    (apply aA rfl rfl bB;(exact ⟨by first|(simp [fJ,e];done)|(simp [fJ,e];omega),rfl⟩);exact iC)
end
section
attribute [local irreducible] Exit.then Exit.inBlock Code.wp WC WO WE WQ V bF tV d3 bW dF uH IntKind.wrap WR Code.rounds WT KO
def oM (c:Cfg) (a:Int):Bool:=aF c&& decide (0≤a∧a<c.words*c.lines)
def cQ (c:Cfg) (a:Int):Int:=if oM c a then a / c.words else 0
def p7 (c:Cfg) (a:Int):Int:=if oM c a then a % c.words else 0
def a9c (c:Cfg) (a:Int):Int:=if oM c a then 0 else 1
def aP (c:Cfg) (l:Int):Bool:=aF c&& decide (0≤l∧l<c.lines)
def dA (c:Cfg) (l:Int):Int:=if aP c l then l % c.homes else 0
def s9 (c:Cfg) (l:Int):Int:=if aP c l then l % c.sets else 0
def c0d (c:Cfg) (l:Int):Int:=if aP c l then l / c.sets else 0
def tA (c:Cfg) (l:Int):Int:=if aP c l then 0 else 1
def dZ (c:Cfg) (l w:Int):Bool:=aF c&& decide (0≤l∧l<c.lines∧0≤w∧w<c.words)
def a2w (c:Cfg) (l w:Int):Int:=if dZ c l w then l*c.words+w else 0
def v7 (c:Cfg) (l w:Int):Int:=if dZ c l w then 0 else 1
theorem cK {c:Cfg} (h:aF c=true):(1≤c.cores∧c.cores≤64)∧(∃ k:Nat,k≤4∧c.homes=2^k)∧(∃ k:Nat,k≤6∧c.sets=2^k)∧(∃ k:Nat,k≤3∧c.words=2^k)∧(∃ k:Nat,k≤10∧c.lines=2^k)∧(1≤c.ways∧c.ways≤8):=by
  simp only [aF,fI,Bool.and_eq_true,decide_eq_true_eq] at h
  have pw:∀ (n:Int) (m:Nat),b1j n=true→n≤2^m→m<63→∃ k:Nat,k≤m∧n=2^k:=by
    intro n m h1 h2 h3
    obtain ⟨k,hk,rfl⟩:=d1b h1
    refine ⟨k,?_,rfl⟩
    rcases Nat.lt_or_ge m k with h|h
    · have:(2:Nat)^m<2^k:=Nat.pow_lt_pow_right (om) h
      have h4:((2^m:Nat):Int)<((2^k:Nat):Int):=by exact_mod_cast this
      simp at h4;omega
    · exact h
  simp at h
  refine ⟨om,pw _ 4 (by simp_all) (by simp;omega) (om),pw _ 6 (by simp_all) (by simp;omega) (om),pw _ 3 (by simp_all) (by simp;omega) (om),pw _ 10 (by simp_all) (by simp;omega) (om),om⟩
theorem r9 {k m:Nat} (h:k≤m):(1:Int)≤2^k∧(2:Int)^k≤2^m:=by
  have h1:(2:Nat)^k≤2^m:=Nat.pow_le_pow_right (om) h
  have h2:1≤(2:Nat)^k:=Nat.one_le_two_pow
  have h3:((2^k:Nat):Int)≤((2^m:Nat):Int):=by exact_mod_cast h1
  have h4:((1:Nat):Int)≤((2^k:Nat):Int):=by exact_mod_cast h2
  simp at h3 h4
  exact ⟨h4,h3⟩
theorem d1c {n:Int} {k:Nat} (h0:0≤n) (h1:n≤9223372036854775807) (hk:k<63):dF .i64 n (2^k-1)=n % 2^k:=by
  have hp:=b8t hk
  have hp0:(0:Int)<2^k:=Int.pow_pos (om)
  rw [a7w h0 (om) (om) (om)]
  have e:((2:Int)^k-1).toNat=2^k-1:=by
    have:((2^k:Nat):Int)=(2:Int)^k:=by simp
    have h2:1≤(2:Nat)^k:=Nat.one_le_two_pow
    omega
  rw [e,Nat.and_two_pow_sub_one_eq_mod]
  obtain ⟨m,rfl⟩:=Int.eq_ofNat_of_zero_le h0
  simp
theorem d8m {n:Int} {k:Nat}:n.fdiv (2^k)=n / 2^k:=by
  rw [Int.fdiv_eq_ediv_of_nonneg]
  exact Int.le_of_lt (Int.pow_pos (om))
theorem a7f {F:List HP} {n:Int} (hn:kP n):FnF Tryz.prog 125 [.int .i64 n] [] F (fun r L'=>r= .agg [.int .i64 (IntKind.i64.wrap (n-1)),.int .i64 (b8u n)].toArray∧L'=[]):=by
  refine FnF.mk' Tryz.func125 rfl rfl Tryz.ntmps125 rfl ?_
  repeat first|refine gd ?_|intro _|refine aD @a1z ?_
  exact aU
theorem b7j {F:List HP} {n:Int} {k:Nat} (hk:k<63) (h0:0≤n) (h1:n≤9223372036854775807) :
    FnF Tryz.prog 126 [.agg [.int .i64 (2^k-1),.int .i64 k].toArray,.int .i64 n] [] F (fun r L'=>r= .tuple [.int .i64 (n / 2^k),.int .i64 (n % 2^k)].toArray∧L'=[]):=by
  refine FnF.mk' Tryz.func126 rfl rfl Tryz.ntmps126 rfl ?_
  repeat first|refine gd ?_|intro _
  have hmin:min ((k:Int)).toNat IntKind.i64.bits=k:=by simp [IntKind.bits];omega
  rw [hmin,d8m,d1c h0 h1 hk]
  exact aU
abbrev f0c (k:Nat):Value:= .func (.func 126) [.agg [.int .i64 (2^k-1),.int .i64 k].toArray].toArray [].toArray
theorem tB {F:List HP} {c:Cfg} {n m:Int} {f:Value} (hc:c.wf) (h:¬(aF c=true∧0≤n∧n<m)) :
    FnF Tryz.prog 124 [c.val,.int .i64 n,.int .i64 m,f] [] F (fun r L'=>r= .tuple [.int .i64 0,.int .i64 0,.int .i64 1].toArray∧L'=[]):=by
  refine FnF.mk' Tryz.func124 rfl rfl Tryz.ntmps124 rfl ?_
  have hE:=fun F=>dC (F:=F) hc
  cases e:aF c with
  |false=>
   simp only [d4,e] at hE
   repeat first|refine gd ?_|intro _|refine aD @hE ?_
   exact aU
  |true=>
   simp only [d4,e,if_true] at hE
   rw [e] at h
   repeat' (first|refine gd ?_|intro _|refine aD @hE ?_|refine mH ?_ ?_|fail)
   all_goals first|(exfalso;simp at h;omega)|exact aU
theorem yZ {F:List HP} {c:Cfg} {n m:Int} {k:Nat} (hc:c.wf) (h:aF c=true) (h0:0≤n) (hm:n<m) (hk:k<63) (h1:n≤9223372036854775807) :
    FnF Tryz.prog 124 [c.val,.int .i64 n,.int .i64 m,f0c k] [] F (fun r L'=>r= .tuple [.int .i64 (n / 2^k),.int .i64 (n % 2^k),.int .i64 0].toArray∧L'=[]):=by
  refine FnF.mk' Tryz.func124 rfl rfl Tryz.ntmps124 rfl ?_
  have hE:=fun F=>dC (F:=F) hc
  simp only [d4,h,if_true] at hE
  repeat first|refine gd ?_|intro _|refine aD @hE ?_|refine aD @b7j ?_
  exact aU
theorem a1d {F:List HP} {n:Int} {k:Nat} (h:n=2^k) (hk:k≤30):FnF Tryz.prog 125 [.int .i64 n] [] F (fun r L'=>r= .agg [.int .i64 (2^k-1),.int .i64 k].toArray∧L'=[]):=by
  have hp:=r9 hk
  simp only [Int.reducePow] at hp
  have hb:=a7f (F:=F) (n:=n) (by unfold kP;omega)
  have e1:b8u n=k:=by rw [h];simp [b8u,b1i (show k<63 by omega)]
  have e2:IntKind.i64.wrap (n-1)=2^k-1:=by rw [h,uB (om) (om)]
  rwa [e1,e2] at hb
theorem a7g {c:Cfg} {a:Int} (e:oM c a=true):aF c=true∧0≤a∧a<c.words*c.lines:=by
  simpa only [oM,Bool.and_eq_true,decide_eq_true_eq] using e
theorem d1d {c:Cfg} {a:Int} (e:oM c a=false):¬(aF c=true∧0≤a∧a<fJ c):=by
  rintro ⟨h1,h2,h3⟩
  simp only [fJ,h1,if_true] at h3
  simp [oM,h1] at e
  omega
theorem a7h {c:Cfg} {a:Int} (e:aP c a=true):aF c=true∧0≤a∧a<c.lines:=by
  simpa only [aP,Bool.and_eq_true,decide_eq_true_eq] using e
theorem d1e {c:Cfg} {a:Int} (e:aP c a=false):¬(aF c=true∧0≤a∧a<c.lines):=by
  rintro ⟨h1,h2,h3⟩
  simp [aP,h1] at e
  omega
theorem a2a {Q P:Prop} (k:Q) (h:Hid Q→P:=by
  intro k
  first
  |(refine aG ?_;refine q9 (id:=1) .false (pl:= .p 1 <| .p 4 <| .r 0 <| .r 2 <| .r 5 <| .e true [(3,.e true [(6,.p 7 <| .e true [(8,.p 9 <| .p 10 <| .p 11 <| .p 12 <| .p 13 <| .p 14 <| .done)])])]) k.out)):P:=h ⟨k⟩
theorem yE {F:List HP} {c:Cfg} {a:Int} (hc:c.wf) (ha:kP a):FnF Tryz.prog 65 [c.val,.int .i64 a] [] F (fun r L'=>r= .tuple [.int .i64 (cQ c a),.int .i64 (p7 c a),.int .i64 (a9c c a)].toArray∧L'=[]):=by
  obtain ⟨_,_,_,_,hw,_⟩:=id hc
  unfold kP at ha
  cases e:oM c a with
  |true=>
   obtain ⟨e1,e2,e3⟩:=a7g e
   obtain ⟨k,hk,ek⟩:=(cK e1).2.2.2.1
   have hs:fJ c=c.words*c.lines:=by simp [fJ,e1]
   have r1:cQ c a=a / 2^k:=by simp [cQ,e,ek]
   have r2:p7 c a=a % 2^k:=by simp [p7,e,ek]
   have r3:a9c c a=0:=by simp [a9c,e]
   rw [r1,r2,r3]
   have hS:=fun F=>kQ (F:=F) hc
   simp only [hs] at hS
   refine FnF.mk' Tryz.func65 rfl rfl Tryz.ntmps65 rfl ?_
   repeat first|refine go ?_|intro _|refine a2a ?_|refine cM ?_|refine aD @hS ?_|refine aD (a1d ek) ?_|refine aD @yZ ?_
   exact aU
  |false=>
   have r1:cQ c a=0:=by simp [cQ,e]
   have r2:p7 c a=0:=by simp [p7,e]
   have r3:a9c c a=1:=by simp [a9c,e]
   rw [r1,r2,r3]
   have hn:=d1d e
   refine FnF.mk' Tryz.func65 rfl rfl Tryz.ntmps65 rfl ?_
   repeat first|refine go ?_|intro _|refine a2a ?_|refine cM ?_|refine aD @kQ ?_|refine aD @a7f ?_|refine aD @tB ?_
   exact aU
theorem a2b {Q P:Prop} (k:Q) (h:Hid Q→P:=by
  intro k
  first
  |(refine aG ?_;refine q9 (id:=1) .false (pl:= .p 1 <| .p 2 <| .p 4 <| .r 0 <| .r 3 <| .r 5 <| .e true [(6,.p 7 <| .e true [(8,.p 9 <| .p 10 <| .p 11 <| .p 12 <| .p 13 <| .p 14 <| .p 15 <| .done)])]) k.out)):P:=h ⟨k⟩
theorem pB {F:List HP} {c:Cfg} {a:Int} (hc:c.wf) (ha:kP a):FnF Tryz.prog 66 [c.val,.int .i64 a] [] F (fun r L'=>r= .tuple [.int .i64 (dA c a),.int .i64 (s9 c a),.int .i64 (c0d c a),.int .i64 (tA c a)].toArray∧L'=[]):=by
  obtain ⟨_,_,hs,_⟩:=id hc
  unfold kP at ha
  cases e:aP c a with
  |true=>
   obtain ⟨e1,e2,e3⟩:=a7h e
   obtain ⟨k,hk,ek⟩:=(cK e1).2.2.1
   obtain ⟨m,hm,em⟩:=(cK e1).2.1
   have r0:dA c a=a % 2^m:=by simp [dA,e,em]
   have r1:s9 c a=a % 2^k:=by simp [s9,e,ek]
   have r2:c0d c a=a / 2^k:=by simp [c0d,e,ek]
   have r3:tA c a=0:=by simp [tA,e]
   rw [r0,r1,r2,r3]
   refine FnF.mk' Tryz.func66 rfl rfl Tryz.ntmps66 rfl ?_
   repeat first|refine go ?_|intro _|refine a2b ?_|refine cM ?_|refine aD (a1d ek) ?_|refine aD (a1d em) ?_|refine aD @yZ ?_|refine aD @b7j ?_
   exact aU
  |false=>
   have r0:dA c a=0:=by simp [dA,e]
   have r1:s9 c a=0:=by simp [s9,e]
   have r2:c0d c a=0:=by simp [c0d,e]
   have r3:tA c a=1:=by simp [tA,e]
   rw [r0,r1,r2,r3]
   have hn:=d1e e
   refine FnF.mk' Tryz.func66 rfl rfl Tryz.ntmps66 rfl ?_
   repeat first|refine go ?_|intro _|refine a2b ?_|refine cM ?_|refine aD @a7f ?_|refine aD @tB ?_
   exact aU
theorem e4l {t s a b:Int} (ht:0≤t) (hta:t<a) (hs:s<b) (hb:0<b):t*b+s<a*b:=by
  have h1:(t+1)*b≤a*b:=Int.mul_le_mul_of_nonneg_right (om) (om)
  rw [Int.add_mul,Int.one_mul] at h1
  omega
theorem c6r {t s a b:Int} (h:t*b+s<a*b) (hs:0≤s) (hb:0<b):t<a:=by
  rcases Int.lt_or_le t a with h1|h1
  · exact h1
  · have:=Int.mul_le_mul_of_nonneg_right h1 (Int.le_of_lt hb)
    omega
theorem tC {F:List HP} {c:Cfg} {hi lo e m:Int} (hc:c.wf) (h:¬(aF c=true∧0≤lo∧lo<e∧0≤hi∧hi<m)) :
    FnF Tryz.prog 236 [c.val,.int .i64 hi,.int .i64 lo,.int .i64 e,.int .i64 m] [] F (fun r L'=>r= .tuple [.int .i64 0,.int .i64 1].toArray∧L'=[]):=by
  have hE:=fun F=>dC (F:=F) hc
  refine FnF.mk' Tryz.func236 rfl rfl Tryz.ntmps236 rfl ?_
  cases e:aF c with
  |false=>
   simp only [d4,e] at hE
   repeat first|refine gd ?_|intro _|refine aD @hE ?_
   exact aU
  |true=>
   simp only [d4,e,if_true] at hE
   rw [e] at h
   repeat' (first|refine gd ?_|intro _|refine aD @hE ?_|refine mH ?_ ?_|fail)
   all_goals first|(exfalso;simp at h;omega)|exact aU
theorem b1t {F:List HP} {c:Cfg} {hi lo e m:Int} (hc:c.wf) (h:aF c=true) (h0:0≤lo) (h1:lo<e) (h2:0≤hi) (h3:hi<m) (he:e≤64) (hm:m≤8192) :
    FnF Tryz.prog 236 [c.val,.int .i64 hi,.int .i64 lo,.int .i64 e,.int .i64 m] [] F (fun r L'=>r= .tuple [.int .i64 (if hi*e+lo<m then hi*e+lo else 0),.int .i64 (if hi*e+lo<m then 0 else 1)].toArray∧L'=[]):=by
  have hE:=fun F=>dC (F:=F) hc
  simp only [d4,h,if_true] at hE
  have hb:=a8g (a:=hi) (b:=e) (m:=8192) (n:=64) h2 (om) (om) he (om)
  refine FnF.mk' Tryz.func236 rfl rfl Tryz.ntmps236 rfl ?_
  by_cases hlt:hi*e+lo<m
  · repeat first|refine gd ?_|intro _|refine aD @hE ?_
    (apply aA rfl rfl bB;(first|exact lW|exact ⟨by simp [hlt]<;>omega,rfl⟩);exact iC)
  · repeat first|refine gd ?_|intro _|refine aD @hE ?_
    (apply aA rfl rfl bB;(first|exact lW|exact ⟨by simp [hlt]<;>omega,rfl⟩);exact iC)
theorem sO {Q P:Prop} (k:Q) (h:Hid Q→P:=by
  intro k
  first
  |(refine aG ?_;refine q9 (id:=1) .false (pl:= .p 1 <| .p 2 <| .p 3 <| .r 0 <| .r 4 <| .r 5 <| .e true [(6,.e true [(7,.p 8 <| .p 9 <| .p 10 <| .p 11 <| .done)])]) k.out)):P:=h ⟨k⟩
theorem a5d {F:List HP} {c:Cfg} {l w:Int} (hc:c.wf) (hl:kP l) (hw:kP w):FnF Tryz.prog 210 [c.val,.int .i64 l,.int .i64 w] [] F (fun r L'=>r= .tuple [.int .i64 (a2w c l w),.int .i64 (v7 c l w)].toArray∧L'=[]):=by
  cases e:aF c with
  |false=>
   have r1:a2w c l w=0:=by simp [a2w,dZ,e]
   have r2:v7 c l w=1:=by simp [v7,dZ,e]
   have hn:∀ a b:Prop,¬(aF c=true∧a∧b):=fun a b h=>by simp [e] at h
   rw [r1,r2]
   refine FnF.mk' Tryz.func210 rfl rfl Tryz.ntmps210 rfl ?_
   repeat first|refine go ?_|intro _|refine sO ?_|refine cM ?_|refine aD @kQ ?_|refine aD (tC hc (by simp [e])) ?_
   exact aU
  |true=>
   obtain ⟨_,_,_,⟨k,hk,ek⟩,⟨n,hn,en⟩,_⟩:=cK e
   have b1:=r9 hk
   have b2:=r9 hn
   rw [←ek] at b1
   rw [←en] at b2
   simp only [Int.reducePow] at b1 b2
   have hb:=a8g (a:=c.words) (b:=c.lines) (m:=8) (n:=1024) (om) (om) (om) (om) (om)
   have hS:=fun F=>kQ (F:=F) hc
   simp only [fJ,e,if_true] at hS
   by_cases h:0≤w∧w<c.words∧0≤l∧l<c.words*c.lines
   · have key:l*c.words+w<c.words*c.lines↔l<c.lines:=by
       rw [Int.mul_comm c.words c.lines]
       exact ⟨fun q=>c6r q (om) (om),fun q=>e4l (om) q (om) (om)⟩
     have r1:a2w c l w=if l*c.words+w<c.words*c.lines then l*c.words+w else 0:=by simp only [a2w,dZ,e,key];simp;congr 1;simp;omega
     have r2:v7 c l w=if l*c.words+w<c.words*c.lines then 0 else 1:=by simp only [v7,dZ,e,key];simp;congr 1;simp;omega
     rw [r1,r2]
     refine FnF.mk' Tryz.func210 rfl rfl Tryz.ntmps210 rfl ?_
     repeat first|refine go ?_|intro _|refine sO ?_|refine cM ?_|refine aD @hS ?_|refine aD @b1t ?_
     exact aU
   · have hle:c.lines≤c.words*c.lines:=by
       have:=Int.mul_le_mul_of_nonneg_right (a:=1) (b:=c.words) (c:=c.lines) (om) (om)
       omega
     have r0:dZ c l w=false:=by simp only [dZ,e];simp;omega
     have r1:a2w c l w=0:=by simp [a2w,r0]
     have r2:v7 c l w=1:=by simp [v7,r0]
     rw [r1,r2]
     have hno:¬(aF c=true∧0≤w∧w<c.words∧0≤l∧l<c.words*c.lines):=fun q=>h q.2
     refine FnF.mk' Tryz.func210 rfl rfl Tryz.ntmps210 rfl ?_
     repeat first|refine go ?_|intro _|refine sO ?_|refine cM ?_|refine aD @hS ?_|refine aD @tC ?_
     exact aU
def a5e (n h H:Nat):Nat:=(n+(H-1)-h) / H
theorem c1z {n h H k:Nat} (hH:h<H):k<a5e n h H↔h+k*H<n:=by
  unfold a5e
  rw [Nat.lt_iff_add_one_le,Nat.le_div_iff_mul_le (om),Nat.add_mul]
  omega
def b2s (h H k:Nat):List Int:=(List.range k).map fun (i:Nat)=>((h+i*H:Nat):Int)
theorem c6s (h H k:Nat):b2s h H (k+1)=b2s h H k++[((h+k*H:Nat):Int)]:=by
  simp [b2s,List.range_succ]
theorem b7k (h H k:Nat):(b2s h H k).length=k:=by simp [b2s]
def iO (c:Cfg) (h:Int):List Int:=if aF c&& decide (0≤h∧h<c.homes) then b2s h.toNat c.homes.toNat (a5e c.lines.toNat h.toNat c.homes.toNat) else []
theorem b5q {F:List HP} {c:Cfg} {h:Int} (hc:c.wf) (hh:kP h) :
    FnF Tryz.prog 96 [c.val,.int .i64 h] [] F (fun r L'=>∃ p q,r= .slice p (iO c h).length q∧L'=[Own 3 1 (.slice p (iO c h).length q) (iO c h).length (aC ic (iO c h))]):=by
  have hE:=fun F=>dC (F:=F) hc
  cases e:aF c with
  |false=>
   have r1:iO c h=[]:=by simp [iO,e]
   rw [r1]
   simp only [d4,e] at hE
   refine FnF.mk' Tryz.func96 rfl rfl Tryz.ntmps96 rfl ?_
   repeat first|refine gd ?_|intro _|refine aD @hE ?_
   (apply aA rfl rfl bB)
   · exact ⟨_,_,rfl,rfl⟩
   · exact aM (by exact aB)
  |true=>
   simp only [d4,e,if_true] at hE
   by_cases hr:0≤h∧h<c.homes
   · obtain ⟨_,⟨m,hm,em⟩,_,_,⟨n,hn,en⟩,_⟩:=cK e
     have b1:=r9 hm
     have b2:=r9 hn
     rw [←em] at b1
     rw [←en] at b2
     simp only [Int.reducePow] at b1 b2
     obtain ⟨H,eH⟩:∃ H:Nat,c.homes=H:=⟨c.homes.toNat,om⟩
     obtain ⟨n,en⟩:∃ n:Nat,c.lines=n:=⟨c.lines.toNat,om⟩
     obtain ⟨h,rfl⟩:∃ n:Nat,h=n:=⟨h.toNat,om⟩
     have r1:iO c h=b2s h H (a5e n h H):=by simp [iO,e,eH,en];omega
     have hH:h<H:=by omega
     rw [r1]
     refine FnF.mk' Tryz.func96 rfl rfl Tryz.ntmps96 rfl ?_
     repeat first|refine gd ?_|intro _|refine aD @hE ?_
     rename_i bc
     apply bC (E0:=[(2,_)]) (fun E0 (q:Nat×Option Addr×Nat)=>(6,.int .i64 ((h+q.1*H:Nat):Int))::(5,.slice q.2.1 q.1 q.2.2)::E0)
       (fun q=>Own 3 1 (.slice q.2.1 q.1 q.2.2) q.1 (aC ic (b2s h H q.1))::Cells bc 24 c.cells::F) (fun q=>q.1≤a5e n h H) (fun q=>a5e n h H-q.1) (0,none,0)
     · simp only [Nat.zero_mul,Nat.add_zero];exact nB
     · exact Nat.zero_le _
     · exact aM (by exact aB)
     · rintro ⟨k,p,q⟩ hk
       dsimp only at hk ⊢
       have hlt:=c1z (n:=n) (k:=k) hH
       have hcn:a5e n h H≤n+H:=by
         unfold a5e
         exact Nat.le_trans (Nat.div_le_self _ _) (om)
       by_cases hk2:k<a5e n h H
       · have h2:=hlt.1 hk2
         repeat first|refine gd ?_|intro _
         rename_i b' p' q'
         refine aS (k+1,p',q') (by dsimp only;omega) (by dsimp only;omega) ?_ ?_
         · dsimp only
           have e3:((h+(k+1)*H:Nat):Int)=((h+k*H:Nat):Int)+c.homes:=by rw [eH,Nat.add_mul];omega
           rw [e3];exact nB
         · dsimp only;rw [c6s,aZ,cG];exact aB
       · have h2:¬h+k*H<n:=fun z=>hk2 (hlt.2 z)
         have h3:k=a5e n h H:=by omega
         subst h3
         repeat first|refine gd ?_|intro _
         rw [show (b2s h H (a5e n h H)).length=a5e n h H from b7k _ _ _]
         (apply aA rfl rfl bB)
         · exact ⟨_,_,rfl,rfl⟩
         · exact aB
   · have r1:iO c h=[]:=by simp [iO,hr]
     rw [r1]
     refine FnF.mk' Tryz.func96 rfl rfl Tryz.ntmps96 rfl ?_
     repeat' (first|refine gd ?_|intro _|refine aD @hE ?_|refine mH ?_ ?_|fail)
     all_goals first|(exfalso;omega)|skip
     all_goals (apply aA rfl rfl bB)
     all_goals first|exact ⟨_,_,rfl,rfl⟩|exact aM (by exact aB)
end
section
open Go
def e7f (ns:List Int):ByteArray:=ns.foldl (fun r n=>r.push (UInt8.ofNat n.toNat)) ByteArray.empty
def f1b (s:ByteArray) (n:Nat):Int:=match s.data.toList[n]? with|some b=>(b.toNat:Int)|none=>0
abbrev f1g (n:Int):List Value:=[.int .u8 n]
section
variable {P:Program} {N:Nat} {t ty xt yt:TypeId} {x y:Operand} {env:Env} {L:List HP}
theorem i8 {k:IntKind} {i:Int} {s:ByteArray} [hT:TU P t .string] (hx:ev env x=some (.string s)) (hy:ev env y=some (.int k i)) (h0:0≤i) (h1:i<(s.size:Int)) :
    V P N (.index t x y) ty env L (.int .u8 (f1b s i.toNat)):=by
  intro a w ha _
  have h2:i.toNat<s.size:=by omega
  have h3:s[i.toNat]? =some s[i.toNat]:=getElem?_pos s _ h2
  have h4:f1b s i.toNat=((s[i.toNat]).toNat:Int):=by
    unfold f1b
    rw [Array.getElem?_toList,Array.getElem?_eq_getElem (by simpa using h2)]
    rfl
  simp only [execOp,ha.ev hx,ha.ev hy,Instr.index,asIntOf,aE hT.pf,Sem.run_bind,Sem.run_pure,Result.andThen_ok,if_pos h0,h3,h4]
theorem nF {a b:ByteArray} (hx:ev env x=some (.string a)) (hy:ev env y=some (.string b)):V P N (.binOp .eql xt x y yt) ty env L (.bool (decide (a=b))):=by
  intro f w ha _
  have e:(eqGuard .eql xt x y (.string a) (.string b)).run P w= .ok () w:=by unfold eqGuard;simp
  have hb:(a.toList == b.toList)=decide (a=b):=by
    rw [ByteArray.toList_eq,ByteArray.toList_eq,Bool.eq_iff_iff,beq_iff_eq,decide_eq_true_iff]
    constructor
    · intro h;cases a;cases b;simp only [Array.toList_inj] at h;simp [h]
    · intro h;rw [h]
  simp [execOp,ha.ev hx,ha.ev hy,e,binOp,Op.stringOp,hb]
theorem nG {a b:ByteArray} (hx:ev env x=some (.string a)) (hy:ev env y=some (.string b)):V P N (.binOp .neq xt x y yt) ty env L (.bool (decide (a≠b))):=by
  intro f w ha _
  have e:(eqGuard .neq xt x y (.string a) (.string b)).run P w= .ok () w:=by unfold eqGuard;simp
  have hb:(a.toList == b.toList)=decide (a=b):=by
    rw [ByteArray.toList_eq,ByteArray.toList_eq,Bool.eq_iff_iff,beq_iff_eq,decide_eq_true_iff]
    constructor
    · intro h;cases a;cases b;simp only [Array.toList_inj] at h;simp [h]
    · intro h;rw [h]
  simp [execOp,ha.ev hx,ha.ev hy,e,binOp,Op.stringOp,hb]
theorem i9 {lo:Option Operand} {l:Nat} {s:ByteArray} [hT:TU P t .string] (hx:ev env x=some (.string s)) (hl:Bnd env lo 0 l) (h:l≤s.size) :
    V P N (.slice t x lo none none) ty env L (.string (s.extract l s.size)):=by
  intro a w ha hw
  have e1:(Instr.sliceAt t (.string s) (lo.map a.eval) none none).run P w= .ok (.string (s.extract l s.size)) w:=by
    cases hl with
    |none=>simp [Instr.sliceAt,Instr.slice,Instr.sliceBounds,aE hT.pf]
    |some q q0=>simp [Instr.sliceAt,Instr.slice,Instr.sliceBounds,aE hT.pf,ha.ev q,eD q0 h]
  simp [execOp,ha.ev hx,e1]
theorem a0f {src dst e:TypeId} {v:Value} {n:Nat} {xs:List Value} {ns:List Int} [hs:TU P src (.slice e)] [he:TU P e (.int .u8)] [hd:TU P dst .string] (hx:ev env x=some v) (hr:RdL L 1 v n xs) (hn:xs=aC f1g ns) :
    V P N (.convert src dst x) ty env L (.string (e7f ns)):=by
  intro a w ha hw
  have hfl:aC f1g ns=ns.map (Value.int .u8):=by
    clear hn
    induction ns with
    |nil=>rfl
    |cons b r ih=>rw [List.map_cons,←ih];rfl
  have hlen:=hr.len w hw
  have e1:(convert src dst v).run P w= .ok (.string (e7f ns)) w:=by
    rcases hr.pf w hw with ⟨p,c,rfl,rfl⟩|⟨b,o,c,rfl,hc⟩
    · rw [run_convert_bytes_string w src dst e _ _ _ hs.pf he.pf hd.pf]
      have hnil:ns=[]:=by rw [hn,hfl] at hlen;exact List.eq_nil_of_length_eq_zero (by simpa using hlen)
      subst hnil
      cases p with
      |none=>simp [Conv.bytesToString,e7f]
      |some p=>
       rw [run_bytesToString w p 0 c [] (by simp [loadCells,loadCellsFrom])]
       rfl
    · rw [run_convert_bytes_string w src dst e _ _ _ hs.pf he.pf hd.pf]
      rw [run_bytesToString w _ n c ns ?_]
      · rfl
      · rw [←hfl,←hn]
        exact dU (om) hc
  simp [execOp,ha.ev hx,e1]
def d1f:TypeDesc→Bool
  | .interface _=>true
  |_=>false
theorem a0g {d:TypeDesc} {u:Value} [hT:TU P t d] (hx:ev env x=some u) (hd:d1f d=false):V P N (.makeInterface t x) ty env L (.iface t u):=by
  intro a w ha _
  have e1:(Instr.makeInterface t u).run P w= .ok (.iface t u) w:=by
    cases d<;>first|(cases hd;done)|simp [Instr.makeInterface,aE hT.pf]
  simp [execOp,ha.ev hx,e1]
def b4c (want:Array (String×TypeId)) (got:Array Method):List (String×TypeId):=want.toList.filter fun p=> !got.any fun m=>m.name == p.1&& m.sig == p.2
theorem c6t {want:Array (String×TypeId)} {got:Array Method} (h:b4c want got=[]):Instr.missingMethod want got=none:=by
  unfold Instr.missingMethod
  unfold b4c at h
  simp only [h,List.map_nil,List.partition_eq_filter_filter,List.filter_nil]
  rfl
theorem a5f {l:List String} (h:l≠[]):∃ m,Instr.least l=some m:=by
  cases l with
  |nil=>exact absurd rfl h
  |cons a r=>exact ⟨_,rfl⟩
theorem c6u {want:Array (String×TypeId)} {got:Array Method} (h:b4c want got≠[]):∃ m,Instr.missingMethod want got=some m:=by
  unfold Instr.missingMethod
  unfold b4c at h
  simp only [List.partition_eq_filter_filter]
  generalize List.filter (fun p=> !got.any fun m=>m.name == p.1&& m.sig == p.2) want.toList=l at h
  by_cases h1:List.filter (not∘fun x:String=>x.contains '.') (List.map (fun x=>x.1) l)=[]
  · rw [h1]
    have h2:List.filter (fun x:String=>x.contains '.') (List.map (fun x=>x.1) l)≠[]:=fun h2=>by
      cases l with
      |nil=>exact h rfl
      |cons a r=>
       have k1:=List.filter_eq_nil_iff.1 h1 a.1 (by simp)
       have k2:=List.filter_eq_nil_iff.1 h2 a.1 (by simp)
       simp only [Function.comp] at k1
       revert k1 k2
       generalize (a.1.contains '.')=b
       cases b<;>simp
    obtain ⟨m,hm⟩:=a5f (l:=List.map (fun id=>(String.splitOn id ".").getLastD id) (List.filter (fun x:String=>x.contains '.') (List.map (fun x=>x.1) l))) (by simpa using h2)
    exact ⟨m,by rw [hm];rfl⟩
  · obtain ⟨m,hm⟩:=a5f h1
    exact ⟨m,by rw [hm];rfl⟩
def e7g (P:Program) (t at':TypeId):Option Bool:=match P.underlying at',P.info? t with
  |some (.interface want),some i=>some (b4c want i.methods).isEmpty
  |_,_=>none
class Has (P:Program) (t at':TypeId) (b:outParam Bool):Prop where
  pf:e7g P t at'=some b
theorem d4q {t at':TypeId} {b:Bool} (h:e7g P t at'=some b):∃ want i,P.underlying at'=some (.interface want)∧P.info? t=some i∧(b4c want i.methods).isEmpty=b:=by
  unfold e7g at h
  split at h
  · rename_i want i h1 h2
    exact ⟨want,i,h1,h2,by simpa using h⟩
  · cases h
theorem pC {u:Value} {at':TypeId} (hx:ev env x=some (.iface t u)) (h:Has P t at' true):V P N (.typeAssert x xt at' true) ty env L (.tuple [.iface t u,.bool true].toArray):=by
  obtain ⟨want,i,h1,h2,h3⟩:=d4q h.pf
  intro a w ha _
  have h4:Instr.missingMethod want i.methods=none:=c6t (by simpa using h3)
  simp [execOp,ha.ev hx,Instr.typeAssert,aE h1,typeInfo,h2,h4]
theorem pD {u z:Value} {at':TypeId} {n bs:Nat} [hZ:TZ P at' n z bs] (hx:ev env x=some (.iface t u)) (h:Has P t at' false):V P N (.typeAssert x xt at' true) ty env L (.tuple [z,.bool false].toArray):=by
  obtain ⟨want,i,h1,h2,h3⟩:=d4q h.pf
  intro a w ha _
  obtain ⟨m,e⟩:=c6u (want:=want) (got:=i.methods) (fun h=>by rw [h] at h3;cases h3)
  simp [execOp,ha.ev hx,Instr.typeAssert,aE h1,typeInfo,h2,e,eR hZ]
class Meth (P:Program) (t:TypeId) (v:Value) (name:String) (k:outParam FuncId) (r:outParam Value):Prop where
  pf:∀ w,(method (P.types.size+Made.depth) t v name).run P w= .ok (k,r) w
theorem c0e {ρ:Operand→Value} {f:Operand} {args:List Operand} {ats:Array TypeId} {k:FuncId} {tv:TypeId} {v r:Value} {name:String} {vs:List Value} (hf:ρ f= .iface tv v) (hm:Meth P tv v name k r) (ha:r::args.map ρ=vs)
    (he:zG P k) (w:World):(execOp ρ ⟨none,.call ⟨.invoke f name,args.toArray,ats⟩,ty, "", #[],none⟩).run P w= .ok (.enter k vs.toArray) w:=by
  have e1:(program).run P w= .ok P w:=by simp
  simp only [execOp,resolve,hf,Sem.run_bind,Sem.run_pure,Result.andThen_ok,invoke]
  have e2:((#[Value.iface tv v]++args.toArray.map ρ)[0]? :Option Value)=some (.iface tv v):=by simp
  simp only [e2,callMethod,Sem.run_bind,e1,Result.andThen_ok,hm.pf]
  rw [he]
  congr 2
  apply Array.ext'
  simp only [←ha,Array.toList_append,Array.toList_extract,List.map_toArray]
  simp [List.extract_eq_take_drop]
  exact List.take_of_length_le (by simp)
theorem c3o {recv:Operand} {args:List Operand} {ats:Array TypeId} {k:FuncId} {tv:TypeId} {v r:Value} {name:String} {avs vs:List Value} {pre F:List HP} {post:Value→List HP→Prop}
    {pos:String} {aft:Array Edge} {d:Option Nat}
    (hf:ev env recv=some (.iface tv v)) (hm:Meth P tv v name k r) (ha:evs env args=some avs) (hv:r::avs=vs) (hd:wB N d=true) (C:FnF P k vs pre F post) (hE:PickL pre L F) :
    KO P N ⟨d,.call ⟨.invoke recv name,args.toArray,ats⟩,ty,pos,aft,none⟩ env L (c2k env d F post):=by
  intro a w hA hw K Q next
  unfold Oper.wp
  rw [bE,c0e (vs:=vs) (hA.ev hf) hm (by rw [hA.evs ha];exact hv) C.enters w]
  refine (C.runs w (hE.pf.sat hw)).mono fun e w' ⟨v,L',he,hp,hs⟩=>?_
  subst he
  exact next _ _ _ w' ⟨v,L',hp,rfl,rfl⟩ (hA.puts hd v) hs
end
set_option maxRecDepth 100000
theorem b4d {Q P:Prop} (k:Q) (h:Hid Q→P:=by
  intro k
  (first|(apply b3h;(first|(apply i8;rfl;rfl;omega;omega)|(apply nF;rfl;rfl)|(apply nG;rfl;rfl)|(apply i9;rfl;exact e7t;omega)|(apply a0f;rfl;exact inferInstance;(first|rfl|(with_reducible assumption)))|(apply a0g;rfl;rfl)|(apply pC;rfl;exact inferInstance)|(apply pD;rfl;exact inferInstance));rfl)|(apply c8x;rfl;exact b6a;(first|(apply i8;rfl;rfl;omega;omega)|(apply nF;rfl;rfl)|(apply nG;rfl;rfl)|(apply i9;rfl;exact e7t;omega)|(apply a0f;rfl;exact inferInstance;(first|rfl|(with_reducible assumption)))|(apply a0g;rfl;rfl)|(apply pC;rfl;exact inferInstance)|(apply pD;rfl;exact inferInstance));rfl)|(apply c8y;rfl;exact b6a;(first|(apply i8;rfl;rfl;omega;omega)|(apply nF;rfl;rfl)|(apply nG;rfl;rfl)|(apply i9;rfl;exact e7t;omega)|(apply a0f;rfl;exact inferInstance;(first|rfl|(with_reducible assumption)))|(apply a0g;rfl;rfl)|(apply pC;rfl;exact inferInstance)|(apply pD;rfl;exact inferInstance));rfl)|(apply c8v;rfl;exact b6a;(first|(apply i8;rfl;rfl;omega;omega)|(apply nF;rfl;rfl)|(apply nG;rfl;rfl)|(apply i9;rfl;exact e7t;omega)|(apply a0f;rfl;exact inferInstance;(first|rfl|(with_reducible assumption)))|(apply a0g;rfl;rfl)|(apply pC;rfl;exact inferInstance)|(apply pD;rfl;exact inferInstance));rfl)|(apply a9g;(first|(apply i8;rfl;rfl;omega;omega)|(apply nF;rfl;rfl)|(apply nG;rfl;rfl)|(apply i9;rfl;exact e7t;omega)|(apply a0f;rfl;exact inferInstance;(first|rfl|(with_reducible assumption)))|(apply a0g;rfl;rfl)|(apply pC;rfl;exact inferInstance)|(apply pD;rfl;exact inferInstance));rfl))
  exact k.out):P:=h ⟨k⟩
theorem lT {C Q P:Prop} (c:C) (k:Q) (h:C→Hid Q→P:=by
  intro c k
  first
  |(apply uC;rfl;(focus (apply c3o;rfl;exact inferInstance;rfl;rfl;rfl;apply c;(all_goals (try (focus ((repeat (first|(with_reducible exact zF)|(apply t8;focus (repeat (first|(with_reducible exact lM)|(apply iZ))))));done))));(all_goals (focus (first|(with_reducible assumption)|exact inferInstance|exact r7 inferInstance rfl rfl|(with_reducible rfl)|omega|(unfold kP;omega)|(constructor<;>omega)|decide)))));refine p8 ?_;exact k.out)
  |(apply p4;rfl;exact b6a;(focus (apply c3o;rfl;exact inferInstance;rfl;rfl;rfl;apply c;(all_goals (try (focus ((repeat (first|(with_reducible exact zF)|(apply t8;focus (repeat (first|(with_reducible exact lM)|(apply iZ))))));done))));(all_goals (focus (first|(with_reducible assumption)|exact inferInstance|exact r7 inferInstance rfl rfl|(with_reducible rfl)|omega|(unfold kP;omega)|(constructor<;>omega)|decide)))));refine p8 ?_;exact k.out)):P:=h c ⟨k⟩
end
end Go.Sx
