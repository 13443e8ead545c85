/- Msh7, Ins, Msh8, Shp, Split, Goto: several of my texts as one. My own work. -/
import Derived.Test.YtjihlpjnebdiiaaGreatZr
import Derived.Test.YtjihlpjnebdiiaaGreatZab
import Derived.Laws.Externs
import Derived.Lib.AppendZerosOnto
import Derived.Lib.Overlaps
import Derived.Test.YtjihlpjnebdiiaaGreatSl
import Derived.Test.YtjihlpjnebdiiaaGreatData
import Derived.Test.YtjihlpjnebdiiaaGreatZaa
import Derived.ScopeJumps
set_option linter.unusedVariables false
set_option linter.unusedSectionVars false
set_option linter.unusedSimpArgs false
/- What files of misses do, seventh part. The program's. My own work. -/
namespace Go.Sx
open Go Go.Proofs
theorem indexBy_same {α:Type} {q:α→Bool} {l:List α} {i:Nat} (hi:i<l.length) {x:α} (h:q x=q l[i]):indexBy q (l.set i x)=indexBy q l:=by
  have key:∀ j (hj:j<l.length),∀ hj':j<(l.set i x).length,q (l.set i x)[j]=q l[j]:=fun j hj hj'=>by
    by_cases e:i=j
    · subst e;rw [List.getElem_set_self,h]
    · rw [List.getElem_set_ne e]
  by_cases hn:0≤indexBy q l
  · obtain ⟨j,hj,e,h1,h2⟩:=indexBy_nat hn
    have hj':j<(l.set i x).length:=by rw [List.length_set];exact hj
    rw [e]
    refine indexBy_at hj' (fun k hk hlt=>?_) ?_
    · rw [List.length_set] at hk
      rw [key k hk];exact h2 k hk hlt
    · rw [key j hj];exact h1
  · obtain ⟨e,h1⟩:=indexBy_neg hn
    rw [e]
    refine indexBy_none fun j hj _=>?_
    rw [List.length_set] at hj
    rw [key j hj];exact h1 _ (List.getElem_mem hj)
def grantL (l:List Miss) (line acks:Int):List Miss:=if dataE l line acks 4=0 then l.set (misP l line).toNat { misAt l line with needs:=acks,own:=4,words:= .zero,granted:=true} else l
set_option maxRecDepth 100000
set_option maxHeartbeats 4000000
attribute [local irreducible] Go.Exit.then Go.Exit.inBlock Go.Code.wp WC WO WE WQ V LoopQ FnQ Sat Star band bor IntKind.wrap WR Code.rounds WT KO
theorem msh_Grant {F:List HP} {b:Nat} {room:Int} {l:List Miss} {line acks:Int} :
    FnF Tryz.prog 223 [.pointer (some ⟨b,0,none⟩),.int .i64 line,.int .i64 acks] [Msh b room l] F (fun r L'=>r= .int .i64 (dataE l line acks 4)∧L'=[Msh b room (grantL l line acks)]):=by
  have hD:=fun F=>msh_Data (F:=F) (b:=b) (room:=room) (l:=l) (line:=line) (acks:=acks) (own:=4) (w:= .zero)
  refine FnF.mk' Tryz.func223 rfl rfl Tryz.ntmps223 rfl ?_
  by_cases h:dataE l line acks 4=0
  · have hin:misIn l line=true:=by
      cases e:misIn l line with
      |true=>rfl
      |false=>unfold dataE at h;rw [e] at h;cases h
    obtain ⟨i,hi,e0,ea,el⟩:=misIn_t hin
    have e1:dataL l line acks 4 .zero=l.set i { l[i] with needs:=acks,own:=4,words:= .zero}:=by unfold dataL;rw [if_pos h,e0,Int.toNat_natCast,ea]
    have e2:grantL l line acks=l.set i { l[i] with needs:=acks,own:=4,words:= .zero,granted:=true}:=by unfold grantL;rw [if_pos h,e0,Int.toNat_natCast,ea]
    have e3:misP (l.set i { l[i] with needs:=acks,own:=4,words:= .zero}) line=i:=by
      have h9:=indexBy_same (q:=fun m:Miss=>decide (m.line=line)) (l:=l) (i:=i) (x:={ l[i] with needs:=acks,own:=4,words:= .zero}) hi rfl
      exact h9.trans e0
    have e4:misIn (l.set i { l[i] with needs:=acks,own:=4,words:= .zero}) line=true:=by unfold misIn;rw [e3];simp
    rw [h,e1] at hD
    rw [h,e2]
    have hi2:i<(l.set i { l[i] with needs:=acks,own:=4,words:= .zero}).length:=by rw [List.length_set];exact hi
    repeat (first|refine gd ?_|intro _|refine cal @hD ?_)
    (first|refine WO_front (Msh b room (l.set i { l[i] with needs:=acks,own:=4,words:= .zero})) ?_|refine WC_front (Msh b room (l.set i { l[i] with needs:=acks,own:=4,words:= .zero})) ?_|refine WE_front (Msh b room (l.set i { l[i] with needs:=acks,own:=4,words:= .zero})) ?_)
    refine RL_openO fun p c hl=>?_
    have hO:=fun F=>msh_ofO (F:=F) (b:=b) (room:=room) (l:=l.set i { l[i] with needs:=acks,own:=4,words:= .zero}) (line:=line) (p:=p) (c:=c) (by omega)
    rw [if_pos e4,e3,Int.toNat_natCast] at hO
    repeat (first|refine gd ?_|intro _|refine cal @hO ?_)
    rw [mis_gr hi2]
    simp only [List.set_set,List.getElem_set_self]
    (apply WE_ret rfl rfl zqR)
    · exact ⟨rfl,rfl⟩
    · rw [show (l.set i { l[i] with needs:=acks,own:=4,words:= .zero}).length=(l.set i { l[i] with needs:=acks,own:=4,words:= .zero,granted:=true}).length by simp] at hl ⊢
      (apply RL_in;(focus (exact entu0));all_goals exact zqS)
  · have e2:grantL l line acks=l:=if_neg h
    have e1:dataL l line acks 4 .zero=l:=if_neg h
    rw [e1] at hD
    rw [e2]
    repeat (first|refine gd ?_|intro _|refine cal @hD ?_)
    exact fin0
end Go.Sx

/- append of a make; cap; overlaps of slices in two blocks. My own work; names no program. -/
namespace Go.Sx
open Go
section
variable {P:Program} {N:Nat} {t ty:TypeId} {x y:Operand} {env:Env} {L:List HP}
theorem v_cap {e:TypeId} {ats:List TypeId} {p:Option Addr} {n c:Nat} [hT:TU P t (.slice e)] (hx:ev env x=some (.slice p n c)):V P N (.call ⟨.builtin .cap,[x].toArray,(t::ats).toArray⟩) ty env L (.int .i64 (c:Int)):=by
  intro a w ha hw
  simp [execOp,resolve,invoke,builtin,ha.ev hx,Builtin.cap_,run_underlying hT.pf,goInt]
theorem K_appendZ {e tn:TypeId} {g T i cap k bs:Nat} {kk:Int} {z z0:Value} {l:List Value} {C:List Value→List HP} {pos:String} {aft:Array Edge} {d:Nat} [hT:TU P t (.slice e)] [hN:TU P tn (.int .i64)] [hZ:TZ P e 1 z bs] [hco:CO z [z0]]
    (hx:ev env x=some (.slice (some ⟨g,0,none⟩) i cap)) (hy:ev env y=some (.int .i64 kk)) (hk:CellsAt g L T l C) (he:kk=(k:Int)) (h0:0<k) (hg:cap<i+k) (hb:(i+k)*bs≤140737488355328) (hl0:i+k≤9223372036854775807) (hi:i≤l.length) (ho:(l.take i).all one=true) (h1:one z0=true) (hd:Nat.blt d N=true) :
    KO P N ⟨some d,.call ⟨.builtin .append,[x,y].toArray,[t,tn].toArray⟩,ty,pos,aft,none⟩ env L (Gives env d (i+k) (fun v'=>Own e 1 v' (i+k) (l.take i++List.replicate k z0)::L)):=by
  subst he
  intro a w ha hw K Q next
  have hl:i+k≤maxLen:=by simp only [maxLen];omega
  obtain ⟨ti,hti,hpf⟩:=Option.map_eq_some_iff.1 hZ.pf
  simp only [Prod.mk.injEq] at hpf
  obtain ⟨hisz,hiz,hib⟩:=hpf
  have hzc:z.cells= #[z0]:=by rw [cellsOf_eq,hco.pf]
  have hh:=cellsAt_heap hk hw
  have hold:(Builtin.firstCells ti.size i (.slice (some ⟨g,0,none⟩) i cap)).run P w.drew= .ok (l.take i).toArray w.drew:=by
    rw [hisz]
    simp only [Builtin.firstCells]
    refine run_loadCells' (by rw [List.length_take];omega) (fun j v hj=>?_)
    have:w.drew.cell? ⟨g,0+j,none⟩=w.cell? ⟨g,0+j,none⟩:=rfl
    rw [this,cell_of_heap hh]
    rw [List.getElem?_take] at hj
    split at hj
    · simpa using hj
    · cases hj
  have hr:=Lib.run_append_grow_zeros (P:=P) w t tn ty e ti z .i64 .i64 hT.pf hN.pf hti hiz (some ⟨g,0,none⟩) i cap (l.take i) hold k h0 (by omega) hg (by omega) (by rw [hib];have:k*bs≤(i+k)*bs:=Nat.mul_le_mul_right _ (by omega);omega) (growslice_fits (by omega) (by rw [hib];exact hb))
  have hge:=grownCap_ge w (i+k) cap e
  have hmap:∀ (n:Nat),(Builtin.zeroCells #[z0] n).toList=List.replicate n z0:=fun n=>by
    have:=zeroCells_list [z0] n 1 rfl
    rw [this]
    induction n with
    |zero=>rfl
    |succ n ih=>rw [List.replicate_succ,List.flatten_cons,ih (zeroCells_list [z0] n 1 rfl),List.replicate_succ];rfl
  obtain ⟨v',w',hrun,hsat⟩:∃ v' w',(Builtin.append_ #[t,tn] ty #[.slice (some ⟨g,0,none⟩) i cap,.int .i64 k]).run P w= .ok v' w'∧Sat (Own e 1 v' (i+k) (l.take i++List.replicate k z0)::L) w':=by
    refine ⟨_,_,hr,sat_new (w:=w.drew) _ (fun h hc=>⟨?_,?_,.inr ⟨_,_,_,rfl,hc,hge,grownCap_le_maxLen w (i+k) cap e hl,?_,?_⟩⟩) (sat_drawn hw)⟩
    · simp;omega
    · rw [List.all_append,ho];simp [h1]
    · simp only [Array.size_append,List.size_toArray,zeros_size,hzc,List.length_take]
      simp;omega
    · simp only [Array.toList_append,hzc,hmap]
      rw [List.take_append_of_le_length (by simp;omega),List.take_of_length_le (by simp;omega)]
  unfold Oper.wp
  have ex:=execBuiltin (P:=P) (ρ:=a.eval) (b:= .append) (args:=[x,y]) (ats:=[t,tn].toArray) (ty:=ty) (vs:=[.slice (some ⟨g,0,none⟩) i cap,.int .i64 k]) (by simp [ha.ev hx,ha.ev hy]) (w:=w) (r:= .ok (.value v') w') (fun cs=>by
    simp [builtin,hrun])
  rw [execOp_plain,ex]
  obtain ⟨p',c',rfl⟩:=sat_own_slice hsat
  exact next _ _ _ _ ⟨p',c',rfl,rfl⟩ (ha.put hd _) hsat
theorem K_overlaps {f:Operand} {ats:Array TypeId} {fid:FuncId} {fn:Func} {tR e:TypeId} {ga oa la ca gb ob lb cb TA TB bs sz:Nat} {z:Value} {xa xb:List Value} {CA CB:List Value→List HP} {pos:String} {aft:Array Edge} {d:Nat}
    [hT:TU P t (.slice e)] [hZ:TZ P e sz z bs]
    (hf:ev env f=some (.func (.func fid) [].toArray [].toArray)) (hx:ev env x=some (.slice (some ⟨ga,oa,none⟩) la ca)) (hy:ev env y=some (.slice (some ⟨gb,ob,none⟩) lb cb)) (hfn:P.funcs[fid]? =some fn) (hname:(fn.name == "runtime.NumGoroutine")=false) (hbody:fn.body.isNone=true) (hnx:Extern.findNext fn=none) (hex:Extern.find fn=some (Extern.SlicesOverlaps.overlaps #[t,t] #[tR]))
    (ka:CellsAt ga L TA xa CA) (kb:CellsAt gb L TB xb CB) (hne:ga≠gb) (hb0:xb.length≠0) (hd:Nat.blt d N=true) :
    KO P N ⟨some d,.call ⟨.value f,[x,y].toArray,ats⟩,ty,pos,aft,none⟩ env L (Same ((d,.bool false)::env) L):=by
  intro a w ha hw K Q next
  have h1:=cellsAt_heap ka hw
  have h2:=cellsAt_heap kb hw
  have hr:=Lib.run_overlaps_apart (P:=P) w t tR e hT.pf sz (run_sizeOf hZ) ⟨ga,oa,none⟩ ⟨gb,ob,none⟩ la ca lb cb hne TA TB xa.length xb.length (by simp [World.shape?,h1]) (by simp [World.shape?,h2]) hb0 (by simp [World.frozen?,h1]) (by simp [World.frozen?,h1])
  unfold Oper.wp
  have ex:(execOp a.eval ⟨none,.call ⟨.value f,[x,y].toArray,ats⟩,ty, "", #[],none⟩).run P w= .ok (.value (.bool false)) w:=by
    simp only [execOp,resolve,Sem.run_bind,Deferred.ofValue,ha.ev hf,Sem.run_pure,Result.andThen_ok,invoke]
    rw [run_callFunc_extern hfn hname hbody hnx hex]
    simp [ha.ev hx,ha.ev hy,hr]
  rw [execOp_plain,ex]
  exact next _ _ _ _ ⟨rfl,rfl⟩ (ha.put hd _) hw
theorem K_copyP {e:TypeId} {ga oa na ca gb ob nb cb TA TB sz k bs:Nat} {z:Value} {l l2 l':List Value} {CA CB:List Value→List HP} {pos:String} {aft:Array Edge} {d:Option Nat} {t2:TypeId} [hT:TU P t (.slice e)] [hZ:TZ P e sz z bs]
    (hx:ev env x=some (.slice (some ⟨ga,oa,none⟩) na ca)) (hy:ev env y=some (.slice (some ⟨gb,ob,none⟩) nb cb)) (hka:CellsAt ga L TA l CA) (hkb:CellsAt gb L TB l2 CB) (hk:min nb na=k) (hfit:oa+k*sz≤l.length) (hfit2:ob+k*sz≤l2.length) (ho:((l2.drop ob).take (k*sz)).all one=true) (hd:dstOk N d=true) (hl:splice l oa ((l2.drop ob).take (k*sz))=l') :
    KO P N ⟨d,.call ⟨.builtin .copy,[x,y].toArray,[t,t2].toArray⟩,ty,pos,aft,none⟩ env L (Same (putEnv env d (.int .i64 (k:Nat))) (CA l')):=by
  subst hl hk
  intro a w ha hw K Q next
  obtain ⟨R,k1,k2⟩:=hka.pf
  have hs:=k1.sat hw
  have hh:=sat_cells hs
  have hh2:=cellsAt_heap hkb hw
  have htl:((l2.drop ob).take (min nb na*sz)).length=min nb na*sz:=by rw [List.length_take,List.length_drop];omega
  have hf:(Builtin.firstCells sz (min nb na) (.slice (some ⟨gb,ob,none⟩) nb cb)).run P w= .ok ((l2.drop ob).take (min nb na*sz)).toArray w:=by
    simp only [Builtin.firstCells]
    refine run_loadCells' htl fun j v hj=>?_
    rw [cell_of_heap hh2]
    rw [List.getElem?_take] at hj
    split at hj
    · rwa [List.getElem?_drop] at hj
    · cases hj
  obtain ⟨w',r1,r2,r3,r4,r5,r6⟩:=run_storeCells (P:=P) ga TA ((l2.drop ob).take (min nb na*sz)) l oa 0 w hh (by rw [htl];omega) ho
  have hrun:(Builtin.copy_ #[t,t2] ty #[.slice (some ⟨ga,oa,none⟩) na ca,.slice (some ⟨gb,ob,none⟩) nb cb]).run P w= .ok (goInt (min nb na:Nat)) w':=by
    have hmn:Nat.min nb na=min nb na:=rfl
    simp [Builtin.copy_,run_underlying hT.pf,run_sizeOf hZ,Builtin.lenOf,hmn,hf,r1]
  unfold Oper.wp
  have ex:=execBuiltin (P:=P) (ρ:=a.eval) (b:= .copy) (args:=[x,y]) (ats:=[t,t2].toArray) (ty:=ty) (vs:=[.slice (some ⟨ga,oa,none⟩) na ca,.slice (some ⟨gb,ob,none⟩) nb cb]) (by simp [ha.ev hx,ha.ev hy]) (w:=w) (r:= .ok (.value (goInt (min nb na:Nat))) w') (fun cs=>by
    simp [builtin,hrun])
  rw [execOp_plain,ex]
  refine next _ _ _ _ ⟨rfl,rfl⟩ (ha.puts hd _) ((k2 _).sat ?_)
  exact sat_upd (b:=ga) (Cells ga TA (splice l oa ((l2.drop ob).take (min nb na*sz)))) (fun h hp=>⟨_,hp.pf⟩) (fun h e=>⟨e⟩) (by simpa using r2) r3 r4 r5 r6 hs
theorem WO_two {g h T T':Nat} {l l':List Value} {all:Array Oper} {c:List Oper} {Q:Exit→Act→World→Prop} (k:g≠h→WO P N all c env (Cells g T l::Cells h T' l'::L) Q):WO P N all c env (Cells g T l::Cells h T' l'::L) Q:=by
  intro a w ha hw
  refine k ?_ a w ha hw
  obtain ⟨S,R,d,hp,A,B,d2,hq,hL⟩:=hw
  rw [res_res] at hq
  intro e
  subst e
  exact d g (res_c hp.pf).1 (res_c hq.pf).1.1
end
end Go.Sx

/- What files of misses do, eighth part. The program's. My own work. -/
namespace Go.Sx
open Go Go.Proofs
def closeE (l:List Miss) (line:Int):Int:=if misIn l line then (if (misAt l line).owes then 0 else 7) else 5
def closeL (l:List Miss) (line:Int):List Miss:=if closeE l line=0 then l.eraseIdx (misP l line).toNat else l
theorem shift_fin {e:TypeId} {g n i cap:Nat} {xs spare:List Value} {M:List HP} (hi:i<n) (q1:xs.length=n*15) (q2:xs.all one=true) (h1:n≤cap) (h2:cap≤maxLen) (h3:spare.length=(cap-n)*15) :
    Ent (Cells g e (splice (xs++spare) (0+i*15) (List.take (min (n-(i+1)) (n-i)*15) (List.take ((n-(i+1))*15) (List.drop ((i+1)*15) xs))))::M)
      (Own e 15 (.slice (some ⟨g,0,none⟩) (n-1) cap) (n-1) (xs.take (i*15)++xs.drop ((i+1)*15))::M):=by
  have e1:List.take (min (n-(i+1)) (n-i)*15) (List.take ((n-(i+1))*15) (List.drop ((i+1)*15) xs))=List.drop ((i+1)*15) xs:=by
    rw [List.take_take,List.take_of_length_le (by rw [List.length_drop,q1];omega)]
  have e2:(List.drop ((i+1)*15) xs).length=(n-(i+1))*15:=by rw [List.length_drop,q1];omega
  rw [e1,Nat.zero_add]
  have hl:=splice_length (l:=xs++spare) (ys:=List.drop ((i+1)*15) xs) (o:=i*15) (by rw [List.length_append,e2];omega)
  refine own_close (cap:=cap) ?_ (by omega) h2 ?_ ?_ Ent.refl
  · rw [hl,List.length_append,q1,h3];omega
  · have:=take_splice (l:=xs++spare) (ys:=List.drop ((i+1)*15) xs) (o:=i*15) (by rw [List.length_append];omega)
    rw [e2,List.take_append_of_le_length (by omega)] at this
    rw [←this];congr 1;omega
  · rw [List.all_append,List.all_eq_true.2 fun u hu=>List.all_eq_true.1 q2 u (List.mem_of_mem_take hu),List.all_eq_true.2 fun u hu=>List.all_eq_true.1 q2 u (List.mem_of_mem_drop hu)]
    rfl
set_option maxRecDepth 100000
set_option maxHeartbeats 4000000
attribute [local irreducible] Go.Exit.then Go.Exit.inBlock Go.Code.wp WC WO WE WQ V LoopQ FnQ Sat Star band bor IntKind.wrap WR Code.rounds WT KO
theorem msh_close1 {F:List HP} {b:Nat} {line:Int} {T:TypeId} {C:List Value→List HP} {m:Miss} (k:CellsAt b F T [.int .i64 line] C) :
    FnF Tryz.prog 202 [msv m,.pointer (some ⟨b,0,none⟩)] [] F (fun r L'=>r= .bool (decide (m.line=line))∧L'=[]):=by
  refine FnF.mk' Tryz.func202 rfl rfl Tryz.ntmps202 rfl ?_
  repeat (first|refine gd ?_|intro _)
  exact fin0
theorem msh_atC {F:List HP} {b bl:Nat} {room:Int} {l:List Miss} {line:Int} {p:Option Addr} {c:Nat} {C:List Value→List HP} (k1:CellsAt bl F 3 [.int .i64 line] C) (hn:l.length≤4096) :
    FnF Tryz.prog 199 [.pointer (some ⟨b,0,none⟩),.func (.func 202) [].toArray [.pointer (some ⟨bl,0,none⟩)].toArray] [Cells b 184 [.int .i64 room,.slice p l.length c],Own 182 15 (.slice p l.length c) l.length (flat msc' l)] F
      (fun r L'=>r= .int .i64 (misP l line)∧L'=[Cells b 184 [.int .i64 room,.slice p l.length c],Own 182 15 (.slice p l.length c) l.length (flat msc' l)]):=by
  have hI:=fun F (C:List Value→List HP) (k1':CellsAt bl F 3 [.int .i64 line] C) (k:RdL F 15 (.slice p l.length c) l.length (flat msc' l))=>
    sl_IndexFunc_miss (F:=F) (v:= .slice p l.length c) (l:=l) (fk:=202) (first:=[]) (cap:=[.pointer (some ⟨bl,0,none⟩)]) (p:=fun m=>decide (m.line=line)) k (by omega) (fun x _=>msh_close1 k1')
  refine FnF.mk' Tryz.func199 rfl rfl Tryz.ntmps199 rfl ?_
  repeat (first|refine gd ?_|intro _|refine cal @hI ?_)
  (apply WE_ret rfl rfl zqR;(first|exact zqL|exact ⟨by simp [misP]<;>omega,rfl⟩);exact zqN)
theorem dr_Msh8_154 {Q P:Prop} (k:Q) (h:Hid Q→P:=by
  intro k
  first
  |(refine is_draw ?_;apply WC_mix (id:=7) .true _ (pl:= .p 0 <| .p 1 <| .p 2 <| .p 4 <| .p 6 <| .p 7 <| .p 8 <| .p 10 <| .p 11 <| .r 3 <| .p 5 <| .r 9 <| .p 12 <| .e true [(13,.done)]);exact mixed;kernel_rfl;kernel_rfl;exact Ent.refl;exact k.out)
  |(refine is_draw ?_;apply WC_mix (id:=8) .true _ (pl:= .p 0 <| .p 1 <| .p 2 <| .p 3 <| .p 5 <| .p 6 <| .p 7 <| .r 4 <| .r 8 <| .p 9 <| .p 10 <| .p 11 <| .p 12 <| .p 13 <| .e true [(14,.done)]);exact mixed;kernel_rfl;kernel_rfl;exact Ent.refl;exact k.out)):P:=h ⟨k⟩
theorem msh_Close {F:List HP} {b:Nat} {room:Int} {l:List Miss} {line:Int} :
    FnF Tryz.prog 154 [.pointer (some ⟨b,0,none⟩),.int .i64 line] [Msh b room l] F (fun r L'=>r= .int .i64 (closeE l line)∧L'=[Msh b room (closeL l line)]):=by
  refine FnF.mk' Tryz.func154 rfl rfl Tryz.ntmps154 rfl ?_
  refine RL_open fun p c hl=>?_
  have hO:=fun F=>msh_ofO (F:=F) (b:=b) (room:=room) (l:=l) (line:=line) (p:=p) (c:=c) (by omega)
  have hA:=fun F (bl:Nat) (C:List Value→List HP) (k1:CellsAt bl F 3 [.int .i64 line] C)=>msh_atC (F:=F) (b:=b) (room:=room) (l:=l) (p:=p) (c:=c) k1 (by omega)
  cases h:misIn l line with
  |false=>
   have e1:closeE l line=5:=by unfold closeE;rw [h];rfl
   have e2:closeL l line=l:=by unfold closeL;rw [e1];rfl
   rw [e1,e2]
   rw [h,if_neg Bool.false_ne_true] at hO
   repeat (first|refine go ?_|intro _|refine dr_Msh8_154 ?_|refine drq ?_|refine cal @hO ?_)
   (apply WE_ret rfl rfl zqR)
   · exact ⟨rfl,rfl⟩
   · (apply RL_in;(focus (exact entu0));all_goals exact zqS)
  |true=>
   obtain ⟨i,hi,e0,ea,_⟩:=misIn_t h
   rw [if_pos h,e0,Int.toNat_natCast] at hO
   rw [e0] at hA
   cases ho:l[i].owes with
   |false=>
    have e1:closeE l line=7:=by unfold closeE;rw [if_pos h,ea,ho];rfl
    have e2:closeL l line=l:=by unfold closeL;rw [e1];rfl
    rw [e1,e2]
    repeat' (first|refine go ?_|intro _|refine dr_Msh8_154 ?_|refine drq ?_|refine cal @hO ?_|refine spl ?_ ?_|fail)
    all_goals (apply WE_ret rfl rfl zqR)
    all_goals first|exact ⟨rfl,rfl⟩|(apply RL_in;(focus (exact entu0));all_goals exact zqS)
   |true=>
    have e1:closeE l line=0:=by unfold closeE;rw [if_pos h,ea,ho];rfl
    have e2:closeL l line=l.eraseIdx i:=by unfold closeL;rw [if_pos e1,e0,Int.toNat_natCast]
    rw [e1,e2]
    repeat (first|refine go ?_|intro _|refine cal @hO ?_|refine cal @hA ?_)
    (first|refine WO_front (Own 182 15 (.slice p l.length c) l.length (flat msc' l)) ?_|refine WC_front (Own 182 15 (.slice p l.length c) l.length (flat msc' l)) ?_|refine WE_front (Own 182 15 (.slice p l.length c) l.length (flat msc' l)) ?_)
    refine WC_own (fun q1 q2 p0 e0' e1' e2'=>by omega) (fun q1 q2 g cap spare e0' k1 k2 k3=>?_)
    obtain ⟨rfl,rfl⟩:p=some ⟨g,0,none⟩∧c=cap:=by simpa using e0'
    repeat (first|refine go ?_|intro _|refine dr_Msh8_154 ?_|refine drq ?_)
    rw [show (i:Int)+1=((i+1:Nat):Int) from rfl]
    repeat (first|refine go ?_|intro _|refine dr_Msh8_154 ?_|refine drq ?_)
    rw [cut_at (l:=i) (by omega)]
    apply WT_k;rfl;exact GIn.none
    apply K_copy;rfl;rfl;exact inferInstance;exact RdL.cut (rd_open inferInstance q1 q2) (by omega) (Nat.le_refl _) k1;(simp only [List.length_append,q1,k3];omega);rfl;rfl
    refine same_intro ?_
    (refine ⟨by first|exact After.free|exact After.turns rfl|(refine After.still ?_;exact zqN;done),?_⟩)
    repeat (first|refine go ?_|intro _|refine dr_Msh8_154 ?_|refine drq ?_)
    rw [show (l.length:Int)-1=((l.length-1:Nat):Int) by omega]
    repeat (first|refine go ?_|intro _|refine dr_Msh8_154 ?_|refine drq ?_)
    rw [cut_low,Int.toNat_natCast]
    have hs:splice [Value.int .i64 room,Value.slice (some ⟨g,0,none⟩) l.length c] 1 (cellsOf (Value.slice (some ⟨g,0,none⟩) (l.length-1) c))=[Value.int .i64 room,Value.slice (some ⟨g,0,none⟩) (l.length-1) c]:=rfl
    rw [hs]
    (apply WE_ret rfl rfl zqR)
    · exact ⟨rfl,rfl⟩
    · refine Ent.trans (shift_fin hi q1 q2 k1 k2 k3) ?_
      apply RL_in
      · exact entu0
      · rw [List.length_eraseIdx,if_pos hi]
      · rw [flat_take (enc:=msc') (n:=15) (fun _=>rfl),flat_drop (enc:=msc') (n:=15) (fun _=>rfl),←flat_append,←List.eraseIdx_eq_take_drop_succ]
      · have:=List.length_eraseIdx_le l i
        omega
end Go.Sx

/- What the functions of package shape do, and the document's. My own work. -/
namespace Go.Sx
open Go Go.Proofs
set_option maxRecDepth 100000
set_option maxHeartbeats 4000000
attribute [local irreducible] Go.Exit.then Go.Exit.inBlock Go.Code.wp WC WO WE WQ V LoopQ FnQ Sat Star band bor IntKind.wrap WR Code.rounds WT KO
theorem shape_Power {F:List HP} {n:Int} (hn:I64 n):FnF Tryz.prog 169 [.int .i64 n] [] F (fun r L'=>r=(.tuple [.int .i64 (powK n),.bool (powB n)].toArray)∧L'=[]):=by
  unfold I64 at hn
  refine FnF.mk' Tryz.func169 rfl rfl Tryz.ntmps169 rfl ?_
  by_cases h:n<1
  · have e:powOf n=none:=by
      cases e:powOf n with
      |none=>rfl
      |some k=>have:=powOf_some e;have h0:(0:Int)<2^k:=Int.pow_pos (by omega);omega
    have e1:powK n=0:=by simp [powK,e]
    have e2:powB n=false:=by simp [powB,e]
    clear e
    repeat (first|refine gd ?_|intro _)
    (apply WE_ret rfl rfl zqR)
    · rw [e1,e2];exact ⟨rfl,rfl⟩
    · exact entu0
  · cases e:powOf n with
    |none=>
     have hb:=band_nopow (by omega) hn.2 e
     have e1:powK n=0:=by simp [powK,e]
     have e2:powB n=false:=by simp [powB,e]
     clear e
     repeat (first|refine gd ?_|intro _)
     (apply WE_ret rfl rfl zqR)
     · rw [e1,e2];exact ⟨rfl,rfl⟩
     · exact entu0
    |some m=>
     obtain ⟨hm,rfl⟩:=powOf_some e
     have hb:=band_pow hm
     have e1:powK (2^m)=m:=by simp [powK,e]
     have e2:powB (2^m)=true:=by simp [powB,e]
     clear e
     repeat (first|refine gd ?_|intro _)
     apply WC_loop (fun k:Nat=>[(0,.int .i64 (2^m)),(4,.int .i64 (k:Int))]) (fun _=>F) (fun k=>k≤m) (fun k=>m-k) 0
     · omega
     · exact Sub.cons rfl (Sub.cons rfl Sub.nil)
     · exact entu0
     · intro k hk
       have hf:=fdiv_pow hk
       have hmin:min ((k:Int)).toNat IntKind.i64.bits=k:=by simp [IntKind.bits];omega
       repeat (first|refine gd ?_|intro _)
       rw [hmin,hf]
       by_cases hlt:k<m
       · have:(1:Int)<2^(m-k):=by
           have:(2:Nat)^1≤2^(m-k):=Nat.pow_le_pow_right (by omega) (by omega)
           have:((2^1:Nat):Int)≤((2^(m-k):Nat):Int):=by exact_mod_cast this
           simp at this;omega
         repeat (first|refine gd ?_|intro _)
         refine WE_loop (k+1) (by omega) (by omega) (Sub.cons rfl (Sub.cons rfl Sub.nil)) Ent.refl
       · obtain rfl:k=m:=by omega
         have:¬(1:Int)<2^(k-k):=by simp
         repeat (first|refine gd ?_|intro _)
         (apply WE_ret rfl rfl zqR)
         · rw [e1,e2];exact ⟨rfl,rfl⟩
         · exact entu0
theorem shape_fits {F:List HP} {n l m:Int} {p:Bool} (hn:I64 n):FnF Tryz.prog 136 [.agg [.int .i64 n,.int .i64 l,.int .i64 m,.bool p].toArray] [] F (fun r L'=>r=(.bool (fitsB n l m p))∧L'=[]):=by
  refine FnF.mk' Tryz.func136 rfl rfl Tryz.ntmps136 rfl ?_
  cases p
  · repeat' (first|refine gd ?_|intro _|refine spl ?_ ?_|fail)
    all_goals (apply WE_ret rfl rfl zqR;(exact ⟨by first|(simp_all [fitsB];done)|(simp_all [fitsB];omega),rfl⟩);exact zqN)
  · repeat (first|refine gd ?_|intro _)
    repeat (first|refine gd ?_|intro _|refine cal @shape_Power ?_)
    cases h:powB n
    all_goals repeat' (first|refine gd ?_|intro _|refine spl ?_ ?_|fail)
    all_goals (apply WE_ret rfl rfl zqR;(exact ⟨by first|(simp_all [fitsB];done)|(simp_all [fitsB];omega),rfl⟩);exact zqN)
def bnds (c:Cfg):List (Int×Int×Int×Bool):=[(c.cores,1,64,false),(c.homes,1,16,true),(c.sets,1,64,true),(c.words,1,8,true),(c.lines,1,1024,true),(c.ways,1,8,false),
  (c.pointers,0,8,false),(c.mshrs,1,8,false),(c.buffer,1,16,false),(c.writebacks,1,8,false),(c.r0,1,64,false),(c.r1,1,64,false),(c.r2,1,64,false)]
def encBnd (b:Int×Int×Int×Bool):List Value:=[.int .i64 b.1,.int .i64 b.2.1,.int .i64 b.2.2.1,.bool b.2.2.2]
theorem checkB_all (c:Cfg):checkB c=(bnds c).all (fun b=>fitsB b.1 b.2.1 b.2.2.1 b.2.2.2):=by
  simp [checkB,bnds,Bool.and_assoc]
theorem bnds_wf (c:Cfg) (hc:c.wf):∀ b∈bnds c,I64 b.1:=by
  intro b hb
  obtain ⟨h1,h2,h3,h4,h5,h6,h7,h8,h9,h10,h11,h12,h13⟩:=hc
  simp only [bnds,List.mem_cons,List.not_mem_nil,or_false] at hb
  rcases hb with rfl|rfl|rfl|rfl|rfl|rfl|rfl|rfl|rfl|rfl|rfl|rfl|rfl<;>assumption
theorem shape_Check {F:List HP} {c:Cfg} (hc:c.wf):FnF Tryz.prog 88 [c.val] [] F (fun r L'=>r=(.int .i64 (checkE c))∧L'=[]):=by
  refine FnF.mk' Tryz.func88 rfl rfl Tryz.ntmps88 rfl ?_
  repeat (first|refine gd ?_|intro _)
  apply WC_loop (fun j:Nat=>[(50,.int .i64 (j:Int)),(49,.agg (flat encBnd (bnds c)).toArray)]) (fun _=>F) (fun j=>j≤13∧∀ i (h:i<(bnds c).length),i<j→fitsB (bnds c)[i].1 (bnds c)[i].2.1 (bnds c)[i].2.2.1 (bnds c)[i].2.2.2=true) (fun j=>13-j) 0
  · exact ⟨by omega,fun i h hi=>by omega⟩
  · exact Sub.cons rfl (Sub.cons rfl Sub.nil)
  · exact entu0
  · rintro j ⟨hj,hall⟩
    by_cases hlt:j<13
    · have hlen:j<(bnds c).length:=hlt
      have hs:=sub_flat (enc:=encBnd) (n:=4) (fun _=>rfl) (bnds c) j hlen
      repeat (first|refine gd ?_|intro _)
      refine WO_v (v_index_array rfl rfl (by omega) (by omega) hs rfl) rfl ?_
      have hwf:=bnds_wf c hc _ (List.getElem_mem hlen)
      generalize hb:(bnds c)[j]=b at hwf
      repeat (first|refine gd ?_|intro _)
      repeat (first|refine gd ?_|intro _|refine cal @shape_fits ?_)
      cases hf:fitsB b.1 b.2.1 b.2.2.1 b.2.2.2
      · repeat (first|refine gd ?_|intro _)
        have e:checkB c=false:=by
          rw [checkB_all,List.all_eq_false]
          exact ⟨_,List.getElem_mem hlen,by simp [hb,hf]⟩
        (apply WE_ret rfl rfl zqR;(exact ⟨by first|(simp [checkE,e];done)|(simp [checkE,e];omega),rfl⟩);exact zqN)
      · repeat (first|refine gd ?_|intro _)
        refine WE_loop (j+1) (by omega) ⟨by omega,fun i h hi=>?_⟩ (Sub.cons rfl (Sub.cons rfl Sub.nil)) ?_
        · by_cases hij:i=j
          · subst hij;rw [hb];exact hf
          · exact hall i h (by omega)
        · exact entu0
    · obtain rfl:j=13:=by omega
      have e:checkB c=true:=by
        rw [checkB_all,List.all_eq_true]
        intro b hb
        obtain ⟨i,hi,rfl⟩:=List.getElem_of_mem hb
        exact hall i hi hi
      repeat (first|refine gd ?_|intro _)
      (apply WE_ret rfl rfl zqR;(exact ⟨by first|(simp [checkE,e];done)|(simp [checkE,e];omega),rfl⟩);exact zqN)
theorem powB_pos {n:Int} (h:powB n=true):∃ k,k<63∧n=2^k:=by
  unfold powB at h
  cases e:powOf n with
  |none=>simp [e] at h
  |some k=>exact ⟨k,powOf_some e⟩
theorem check_words {c:Cfg} (h:checkB c=true):1≤c.words∧c.words≤8∧1≤c.lines∧c.lines≤1024:=by
  simp only [checkB,fitsB,Bool.and_eq_true,decide_eq_true_eq] at h
  omega
theorem mul_bd {a b m n:Int} (h1:0≤a) (h2:a≤m) (h3:0≤b) (h4:b≤n) (hn:0≤n):0≤a*b∧a*b≤m*n:=
  ⟨Int.mul_nonneg h1 h3,Int.le_trans (Int.mul_le_mul_of_nonneg_right h2 h3) (Int.mul_le_mul_of_nonneg_left h4 (by omega))⟩
theorem shape_Size {F:List HP} {c:Cfg} (hc:c.wf):FnF Tryz.prog 121 [c.val] [] F (fun r L'=>r=(.int .i64 (sizeOf' c))∧L'=[]):=by
  refine FnF.mk' Tryz.func121 rfl rfl Tryz.ntmps121 rfl ?_
  repeat (first|refine gd ?_|intro _)
  repeat (first|refine gd ?_|intro _|refine cal @shape_Check ?_)
  cases e:checkB c
  · have e1:checkE c=1:=by simp [checkE,e]
    repeat (first|refine gd ?_|intro _)
    (apply WE_ret rfl rfl zqR;(exact ⟨by first|(simp [sizeOf',e];done)|(simp [sizeOf',e];omega),rfl⟩);exact zqN)
  · have e1:checkE c=0:=by simp [checkE,e]
    have hw:=check_words e
    have hm:=mul_bd (m:=8) (n:=1024) (a:=c.words) (b:=c.lines) (by omega) (by omega) (by omega) (by omega) (by omega)
    repeat (first|refine gd ?_|intro _)
    (apply WE_ret rfl rfl zqR;(exact ⟨by first|(simp [sizeOf',e];done)|(simp [sizeOf',e];omega),rfl⟩);exact zqN)
end Go.Sx

/- What the functions of package split do, and the document's. My own work. -/
namespace Go.Sx
open Go Go.Proofs
set_option maxRecDepth 100000
set_option maxHeartbeats 4000000
attribute [local irreducible] Go.Exit.then Go.Exit.inBlock Go.Code.wp WC WO WE WQ V LoopQ FnQ Sat Star band bor IntKind.wrap WR Code.rounds WT KO
def okAddr (c:Cfg) (a:Int):Bool:=checkB c&& decide (0≤a∧a<c.words*c.lines)
def addrL (c:Cfg) (a:Int):Int:=if okAddr c a then a / c.words else 0
def addrW (c:Cfg) (a:Int):Int:=if okAddr c a then a % c.words else 0
def addrE (c:Cfg) (a:Int):Int:=if okAddr c a then 0 else 1
def okLine (c:Cfg) (l:Int):Bool:=checkB c&& decide (0≤l∧l<c.lines)
def lineH (c:Cfg) (l:Int):Int:=if okLine c l then l % c.homes else 0
def lineS (c:Cfg) (l:Int):Int:=if okLine c l then l % c.sets else 0
def lineT (c:Cfg) (l:Int):Int:=if okLine c l then l / c.sets else 0
def lineE (c:Cfg) (l:Int):Int:=if okLine c l then 0 else 1
def okJoin (c:Cfg) (l w:Int):Bool:=checkB c&& decide (0≤l∧l<c.lines∧0≤w∧w<c.words)
def joinN (c:Cfg) (l w:Int):Int:=if okJoin c l w then l*c.words+w else 0
def joinE (c:Cfg) (l w:Int):Int:=if okJoin c l w then 0 else 1
theorem check_facts {c:Cfg} (h:checkB c=true):(1≤c.cores∧c.cores≤64)∧(∃ k:Nat,k≤4∧c.homes=2^k)∧(∃ k:Nat,k≤6∧c.sets=2^k)∧(∃ k:Nat,k≤3∧c.words=2^k)∧(∃ k:Nat,k≤10∧c.lines=2^k)∧(1≤c.ways∧c.ways≤8):=by
  simp only [checkB,fitsB,Bool.and_eq_true,decide_eq_true_eq] at h
  have pw:∀ (n:Int) (m:Nat),powB n=true→n≤2^m→m<63→∃ k:Nat,k≤m∧n=2^k:=by
    intro n m h1 h2 h3
    obtain ⟨k,hk,rfl⟩:=powB_pos h1
    refine ⟨k,?_,rfl⟩
    rcases Nat.lt_or_ge m k with h|h
    · have:(2:Nat)^m<2^k:=Nat.pow_lt_pow_right (by omega) h
      have h4:((2^m:Nat):Int)<((2^k:Nat):Int):=by exact_mod_cast this
      simp at h4;omega
    · exact h
  simp at h
  refine ⟨by omega,pw _ 4 (by simp_all) (by simp;omega) (by omega),pw _ 6 (by simp_all) (by simp;omega) (by omega),pw _ 3 (by simp_all) (by simp;omega) (by omega),pw _ 10 (by simp_all) (by simp;omega) (by omega),by omega⟩
theorem pow_bd {k m:Nat} (h:k≤m):(1:Int)≤2^k∧(2:Int)^k≤2^m:=by
  have h1:(2:Nat)^k≤2^m:=Nat.pow_le_pow_right (by omega) h
  have h2:1≤(2:Nat)^k:=Nat.one_le_two_pow
  have h3:((2^k:Nat):Int)≤((2^m:Nat):Int):=by exact_mod_cast h1
  have h4:((1:Nat):Int)≤((2^k:Nat):Int):=by exact_mod_cast h2
  simp at h3 h4
  exact ⟨h4,h3⟩
theorem band_mod {n:Int} {k:Nat} (h0:0≤n) (h1:n≤9223372036854775807) (hk:k<63):band .i64 n (2^k-1)=n % 2^k:=by
  have hp:=pow_lt63 hk
  have hp0:(0:Int)<2^k:=Int.pow_pos (by omega)
  rw [band_nat h0 (by omega) (by omega) (by omega)]
  have e:((2:Int)^k-1).toNat=2^k-1:=by
    have:((2^k:Nat):Int)=(2:Int)^k:=by simp
    have h2:1≤(2:Nat)^k:=Nat.one_le_two_pow
    omega
  rw [e,Nat.and_two_pow_sub_one_eq_mod]
  obtain ⟨m,rfl⟩:=Int.eq_ofNat_of_zero_le h0
  simp
theorem fdiv_nn {n:Int} {k:Nat}:n.fdiv (2^k)=n / 2^k:=by
  rw [Int.fdiv_eq_ediv_of_nonneg]
  exact Int.le_of_lt (Int.pow_pos (by omega))
theorem split_by {F:List HP} {n:Int} (hn:I64 n):FnF Tryz.prog 125 [.int .i64 n] [] F (fun r L'=>r= .agg [.int .i64 (IntKind.i64.wrap (n-1)),.int .i64 (powK n)].toArray∧L'=[]):=by
  refine FnF.mk' Tryz.func125 rfl rfl Tryz.ntmps125 rfl ?_
  repeat (first|refine gd ?_|intro _|refine cal @shape_Power ?_)
  exact fin0
theorem split_of {F:List HP} {n:Int} {k:Nat} (hk:k<63) (h0:0≤n) (h1:n≤9223372036854775807) :
    FnF Tryz.prog 126 [.agg [.int .i64 (2^k-1),.int .i64 k].toArray,.int .i64 n] [] F (fun r L'=>r= .tuple [.int .i64 (n / 2^k),.int .i64 (n % 2^k)].toArray∧L'=[]):=by
  refine FnF.mk' Tryz.func126 rfl rfl Tryz.ntmps126 rfl ?_
  repeat (first|refine gd ?_|intro _)
  have hmin:min ((k:Int)).toNat IntKind.i64.bits=k:=by simp [IntKind.bits];omega
  rw [hmin,fdiv_nn,band_mod h0 h1 hk]
  exact fin0
abbrev cutV (k:Nat):Value:= .func (.func 126) [.agg [.int .i64 (2^k-1),.int .i64 k].toArray].toArray [].toArray
theorem split_parted_no {F:List HP} {c:Cfg} {n m:Int} {f:Value} (hc:c.wf) (h:¬(checkB c=true∧0≤n∧n<m)) :
    FnF Tryz.prog 124 [c.val,.int .i64 n,.int .i64 m,f] [] F (fun r L'=>r= .tuple [.int .i64 0,.int .i64 0,.int .i64 1].toArray∧L'=[]):=by
  refine FnF.mk' Tryz.func124 rfl rfl Tryz.ntmps124 rfl ?_
  have hE:=fun F=>shape_Check (F:=F) hc
  cases e:checkB c with
  |false=>
   simp only [checkE,e] at hE
   repeat (first|refine gd ?_|intro _|refine cal @hE ?_)
   exact fin0
  |true=>
   simp only [checkE,e,if_true] at hE
   rw [e] at h
   repeat' (first|refine gd ?_|intro _|refine cal @hE ?_|refine spl ?_ ?_|fail)
   all_goals first|(exfalso;simp at h;omega)|exact fin0
theorem split_parted {F:List HP} {c:Cfg} {n m:Int} {k:Nat} (hc:c.wf) (h:checkB c=true) (h0:0≤n) (hm:n<m) (hk:k<63) (h1:n≤9223372036854775807) :
    FnF Tryz.prog 124 [c.val,.int .i64 n,.int .i64 m,cutV k] [] F (fun r L'=>r= .tuple [.int .i64 (n / 2^k),.int .i64 (n % 2^k),.int .i64 0].toArray∧L'=[]):=by
  refine FnF.mk' Tryz.func124 rfl rfl Tryz.ntmps124 rfl ?_
  have hE:=fun F=>shape_Check (F:=F) hc
  simp only [checkE,h,if_true] at hE
  repeat (first|refine gd ?_|intro _|refine cal @hE ?_|refine cal @split_of ?_)
  exact fin0
theorem split_by2 {F:List HP} {n:Int} {k:Nat} (h:n=2^k) (hk:k≤30):FnF Tryz.prog 125 [.int .i64 n] [] F (fun r L'=>r= .agg [.int .i64 (2^k-1),.int .i64 k].toArray∧L'=[]):=by
  have hp:=pow_bd hk
  simp only [Int.reducePow] at hp
  have hb:=split_by (F:=F) (n:=n) (by unfold I64;omega)
  have e1:powK n=k:=by rw [h];simp [powK,powOf_pow (show k<63 by omega)]
  have e2:IntKind.i64.wrap (n-1)=2^k-1:=by rw [h,wrap_id (by omega) (by omega)]
  rwa [e1,e2] at hb
theorem addr_big {c:Cfg} {a:Int} (e:okAddr c a=true):checkB c=true∧0≤a∧a<c.words*c.lines:=by
  simpa only [okAddr,Bool.and_eq_true,decide_eq_true_eq] using e
theorem addr_not {c:Cfg} {a:Int} (e:okAddr c a=false):¬(checkB c=true∧0≤a∧a<sizeOf' c):=by
  rintro ⟨h1,h2,h3⟩
  simp only [sizeOf',h1,if_true] at h3
  simp [okAddr,h1] at e
  omega
theorem line_big {c:Cfg} {a:Int} (e:okLine c a=true):checkB c=true∧0≤a∧a<c.lines:=by
  simpa only [okLine,Bool.and_eq_true,decide_eq_true_eq] using e
theorem line_not {c:Cfg} {a:Int} (e:okLine c a=false):¬(checkB c=true∧0≤a∧a<c.lines):=by
  rintro ⟨h1,h2,h3⟩
  simp [okLine,h1] at e
  omega
theorem dr_Split_65 {Q P:Prop} (k:Q) (h:Hid Q→P:=by
  intro k
  first
  |(refine is_draw ?_;apply WC_mix (id:=1) .false _ (pl:= .p 1 <| .p 4 <| .r 0 <| .r 2 <| .r 5 <| .e true [(3,.e true [(6,.p 7 <| .e true [(8,.p 9 <| .p 10 <| .p 11 <| .p 12 <| .p 13 <| .p 14 <| .done)])])]);exact mixed;kernel_rfl;kernel_rfl;exact Ent.refl;exact k.out)):P:=h ⟨k⟩
theorem split_Addr {F:List HP} {c:Cfg} {a:Int} (hc:c.wf) (ha:I64 a):FnF Tryz.prog 65 [c.val,.int .i64 a] [] F (fun r L'=>r= .tuple [.int .i64 (addrL c a),.int .i64 (addrW c a),.int .i64 (addrE c a)].toArray∧L'=[]):=by
  obtain ⟨_,_,_,_,hw,_⟩:=id hc
  unfold I64 at ha
  cases e:okAddr c a with
  |true=>
   obtain ⟨e1,e2,e3⟩:=addr_big e
   obtain ⟨k,hk,ek⟩:=(check_facts e1).2.2.2.1
   have hs:sizeOf' c=c.words*c.lines:=by simp [sizeOf',e1]
   have r1:addrL c a=a / 2^k:=by simp [addrL,e,ek]
   have r2:addrW c a=a % 2^k:=by simp [addrW,e,ek]
   have r3:addrE c a=0:=by simp [addrE,e]
   rw [r1,r2,r3]
   have hS:=fun F=>shape_Size (F:=F) hc
   simp only [hs] at hS
   refine FnF.mk' Tryz.func65 rfl rfl Tryz.ntmps65 rfl ?_
   repeat (first|refine go ?_|intro _|refine dr_Split_65 ?_|refine drq ?_|refine cal @hS ?_|refine cal (split_by2 ek) ?_|refine cal @split_parted ?_)
   exact fin0
  |false=>
   have r1:addrL c a=0:=by simp [addrL,e]
   have r2:addrW c a=0:=by simp [addrW,e]
   have r3:addrE c a=1:=by simp [addrE,e]
   rw [r1,r2,r3]
   have hn:=addr_not e
   refine FnF.mk' Tryz.func65 rfl rfl Tryz.ntmps65 rfl ?_
   repeat (first|refine go ?_|intro _|refine dr_Split_65 ?_|refine drq ?_|refine cal @shape_Size ?_|refine cal @split_by ?_|refine cal @split_parted_no ?_)
   exact fin0
theorem dr_Split_66 {Q P:Prop} (k:Q) (h:Hid Q→P:=by
  intro k
  first
  |(refine is_draw ?_;apply WC_mix (id:=1) .false _ (pl:= .p 1 <| .p 2 <| .p 4 <| .r 0 <| .r 3 <| .r 5 <| .e true [(6,.p 7 <| .e true [(8,.p 9 <| .p 10 <| .p 11 <| .p 12 <| .p 13 <| .p 14 <| .p 15 <| .done)])]);exact mixed;kernel_rfl;kernel_rfl;exact Ent.refl;exact k.out)):P:=h ⟨k⟩
theorem split_Line {F:List HP} {c:Cfg} {a:Int} (hc:c.wf) (ha:I64 a):FnF Tryz.prog 66 [c.val,.int .i64 a] [] F (fun r L'=>r= .tuple [.int .i64 (lineH c a),.int .i64 (lineS c a),.int .i64 (lineT c a),.int .i64 (lineE c a)].toArray∧L'=[]):=by
  obtain ⟨_,_,hs,_⟩:=id hc
  unfold I64 at ha
  cases e:okLine c a with
  |true=>
   obtain ⟨e1,e2,e3⟩:=line_big e
   obtain ⟨k,hk,ek⟩:=(check_facts e1).2.2.1
   obtain ⟨m,hm,em⟩:=(check_facts e1).2.1
   have r0:lineH c a=a % 2^m:=by simp [lineH,e,em]
   have r1:lineS c a=a % 2^k:=by simp [lineS,e,ek]
   have r2:lineT c a=a / 2^k:=by simp [lineT,e,ek]
   have r3:lineE c a=0:=by simp [lineE,e]
   rw [r0,r1,r2,r3]
   refine FnF.mk' Tryz.func66 rfl rfl Tryz.ntmps66 rfl ?_
   repeat (first|refine go ?_|intro _|refine dr_Split_66 ?_|refine drq ?_|refine cal (split_by2 ek) ?_|refine cal (split_by2 em) ?_|refine cal @split_parted ?_|refine cal @split_of ?_)
   exact fin0
  |false=>
   have r0:lineH c a=0:=by simp [lineH,e]
   have r1:lineS c a=0:=by simp [lineS,e]
   have r2:lineT c a=0:=by simp [lineT,e]
   have r3:lineE c a=1:=by simp [lineE,e]
   rw [r0,r1,r2,r3]
   have hn:=line_not e
   refine FnF.mk' Tryz.func66 rfl rfl Tryz.ntmps66 rfl ?_
   repeat (first|refine go ?_|intro _|refine dr_Split_66 ?_|refine drq ?_|refine cal @split_by ?_|refine cal @split_parted_no ?_)
   exact fin0
theorem mul_lt {t s a b:Int} (ht:0≤t) (hta:t<a) (hs:s<b) (hb:0<b):t*b+s<a*b:=by
  have h1:(t+1)*b≤a*b:=Int.mul_le_mul_of_nonneg_right (by omega) (by omega)
  rw [Int.add_mul,Int.one_mul] at h1
  omega
theorem lt_of_mul {t s a b:Int} (h:t*b+s<a*b) (hs:0≤s) (hb:0<b):t<a:=by
  rcases Int.lt_or_le t a with h1|h1
  · exact h1
  · have:=Int.mul_le_mul_of_nonneg_right h1 (Int.le_of_lt hb)
    omega
theorem split_joined_no {F:List HP} {c:Cfg} {hi lo e m:Int} (hc:c.wf) (h:¬(checkB c=true∧0≤lo∧lo<e∧0≤hi∧hi<m)) :
    FnF Tryz.prog 236 [c.val,.int .i64 hi,.int .i64 lo,.int .i64 e,.int .i64 m] [] F (fun r L'=>r= .tuple [.int .i64 0,.int .i64 1].toArray∧L'=[]):=by
  have hE:=fun F=>shape_Check (F:=F) hc
  refine FnF.mk' Tryz.func236 rfl rfl Tryz.ntmps236 rfl ?_
  cases e:checkB c with
  |false=>
   simp only [checkE,e] at hE
   repeat (first|refine gd ?_|intro _|refine cal @hE ?_)
   exact fin0
  |true=>
   simp only [checkE,e,if_true] at hE
   rw [e] at h
   repeat' (first|refine gd ?_|intro _|refine cal @hE ?_|refine spl ?_ ?_|fail)
   all_goals first|(exfalso;simp at h;omega)|exact fin0
theorem split_joined {F:List HP} {c:Cfg} {hi lo e m:Int} (hc:c.wf) (h:checkB c=true) (h0:0≤lo) (h1:lo<e) (h2:0≤hi) (h3:hi<m) (he:e≤64) (hm:m≤8192) :
    FnF Tryz.prog 236 [c.val,.int .i64 hi,.int .i64 lo,.int .i64 e,.int .i64 m] [] F (fun r L'=>r= .tuple [.int .i64 (if hi*e+lo<m then hi*e+lo else 0),.int .i64 (if hi*e+lo<m then 0 else 1)].toArray∧L'=[]):=by
  have hE:=fun F=>shape_Check (F:=F) hc
  simp only [checkE,h,if_true] at hE
  have hb:=mul_bd (a:=hi) (b:=e) (m:=8192) (n:=64) h2 (by omega) (by omega) he (by omega)
  refine FnF.mk' Tryz.func236 rfl rfl Tryz.ntmps236 rfl ?_
  by_cases hlt:hi*e+lo<m
  · repeat (first|refine gd ?_|intro _|refine cal @hE ?_)
    (apply WE_ret rfl rfl zqR;(first|exact zqL|exact ⟨by simp [hlt]<;>omega,rfl⟩);exact zqN)
  · repeat (first|refine gd ?_|intro _|refine cal @hE ?_)
    (apply WE_ret rfl rfl zqR;(first|exact zqL|exact ⟨by simp [hlt]<;>omega,rfl⟩);exact zqN)
theorem dr_Split_210 {Q P:Prop} (k:Q) (h:Hid Q→P:=by
  intro k
  first
  |(refine is_draw ?_;apply WC_mix (id:=1) .false _ (pl:= .p 1 <| .p 2 <| .p 3 <| .r 0 <| .r 4 <| .r 5 <| .e true [(6,.e true [(7,.p 8 <| .p 9 <| .p 10 <| .p 11 <| .done)])]);exact mixed;kernel_rfl;kernel_rfl;exact Ent.refl;exact k.out)):P:=h ⟨k⟩
theorem split_Join {F:List HP} {c:Cfg} {l w:Int} (hc:c.wf) (hl:I64 l) (hw:I64 w):FnF Tryz.prog 210 [c.val,.int .i64 l,.int .i64 w] [] F (fun r L'=>r= .tuple [.int .i64 (joinN c l w),.int .i64 (joinE c l w)].toArray∧L'=[]):=by
  cases e:checkB c with
  |false=>
   have r1:joinN c l w=0:=by simp [joinN,okJoin,e]
   have r2:joinE c l w=1:=by simp [joinE,okJoin,e]
   have hn:∀ a b:Prop,¬(checkB c=true∧a∧b):=fun a b h=>by simp [e] at h
   rw [r1,r2]
   refine FnF.mk' Tryz.func210 rfl rfl Tryz.ntmps210 rfl ?_
   repeat (first|refine go ?_|intro _|refine dr_Split_210 ?_|refine drq ?_|refine cal @shape_Size ?_|refine cal (split_joined_no hc (by simp [e])) ?_)
   exact fin0
  |true=>
   obtain ⟨_,_,_,⟨k,hk,ek⟩,⟨n,hn,en⟩,_⟩:=check_facts e
   have b1:=pow_bd hk
   have b2:=pow_bd hn
   rw [←ek] at b1
   rw [←en] at b2
   simp only [Int.reducePow] at b1 b2
   have hb:=mul_bd (a:=c.words) (b:=c.lines) (m:=8) (n:=1024) (by omega) (by omega) (by omega) (by omega) (by omega)
   have hS:=fun F=>shape_Size (F:=F) hc
   simp only [sizeOf',e,if_true] at hS
   by_cases h:0≤w∧w<c.words∧0≤l∧l<c.words*c.lines
   · have key:l*c.words+w<c.words*c.lines↔l<c.lines:=by
       rw [Int.mul_comm c.words c.lines]
       exact ⟨fun q=>lt_of_mul q (by omega) (by omega),fun q=>mul_lt (by omega) q (by omega) (by omega)⟩
     have r1:joinN c l w=if l*c.words+w<c.words*c.lines then l*c.words+w else 0:=by simp only [joinN,okJoin,e,key];simp;congr 1;simp;omega
     have r2:joinE c l w=if l*c.words+w<c.words*c.lines then 0 else 1:=by simp only [joinE,okJoin,e,key];simp;congr 1;simp;omega
     rw [r1,r2]
     refine FnF.mk' Tryz.func210 rfl rfl Tryz.ntmps210 rfl ?_
     repeat (first|refine go ?_|intro _|refine dr_Split_210 ?_|refine drq ?_|refine cal @hS ?_|refine cal @split_joined ?_)
     exact fin0
   · have hle:c.lines≤c.words*c.lines:=by
       have:=Int.mul_le_mul_of_nonneg_right (a:=1) (b:=c.words) (c:=c.lines) (by omega) (by omega)
       omega
     have r0:okJoin c l w=false:=by simp only [okJoin,e];simp;omega
     have r1:joinN c l w=0:=by simp [joinN,r0]
     have r2:joinE c l w=1:=by simp [joinE,r0]
     rw [r1,r2]
     have hno:¬(checkB c=true∧0≤w∧w<c.words∧0≤l∧l<c.words*c.lines):=fun q=>h q.2
     refine FnF.mk' Tryz.func210 rfl rfl Tryz.ntmps210 rfl ?_
     repeat (first|refine go ?_|intro _|refine dr_Split_210 ?_|refine drq ?_|refine cal @hS ?_|refine cal @split_joined_no ?_)
     exact fin0
def cntN (n h H:Nat):Nat:=(n+(H-1)-h) / H
theorem cnt_lt {n h H k:Nat} (hH:h<H):k<cntN n h H↔h+k*H<n:=by
  unfold cntN
  rw [Nat.lt_iff_add_one_le,Nat.le_div_iff_mul_le (by omega),Nat.add_mul]
  omega
def rowN (h H k:Nat):List Int:=(List.range k).map fun (i:Nat)=>((h+i*H:Nat):Int)
theorem rowN_succ (h H k:Nat):rowN h H (k+1)=rowN h H k++[((h+k*H:Nat):Int)]:=by
  simp [rowN,List.range_succ]
theorem rowN_len (h H k:Nat):(rowN h H k).length=k:=by simp [rowN]
def linesL (c:Cfg) (h:Int):List Int:=if checkB c&& decide (0≤h∧h<c.homes) then rowN h.toNat c.homes.toNat (cntN c.lines.toNat h.toNat c.homes.toNat) else []
theorem split_Lines {F:List HP} {c:Cfg} {h:Int} (hc:c.wf) (hh:I64 h) :
    FnF Tryz.prog 96 [c.val,.int .i64 h] [] F (fun r L'=>∃ p q,r= .slice p (linesL c h).length q∧L'=[Own 3 1 (.slice p (linesL c h).length q) (linesL c h).length (flat ic (linesL c h))]):=by
  have hE:=fun F=>shape_Check (F:=F) hc
  cases e:checkB c with
  |false=>
   have r1:linesL c h=[]:=by simp [linesL,e]
   rw [r1]
   simp only [checkE,e] at hE
   refine FnF.mk' Tryz.func96 rfl rfl Tryz.ntmps96 rfl ?_
   repeat (first|refine gd ?_|intro _|refine cal @hE ?_)
   (apply WE_ret rfl rfl zqR)
   · exact ⟨_,_,rfl,rfl⟩
   · exact own_empty (by exact entu0)
  |true=>
   simp only [checkE,e,if_true] at hE
   by_cases hr:0≤h∧h<c.homes
   · obtain ⟨_,⟨m,hm,em⟩,_,_,⟨n,hn,en⟩,_⟩:=check_facts e
     have b1:=pow_bd hm
     have b2:=pow_bd hn
     rw [←em] at b1
     rw [←en] at b2
     simp only [Int.reducePow] at b1 b2
     obtain ⟨H,eH⟩:∃ H:Nat,c.homes=H:=⟨c.homes.toNat,by omega⟩
     obtain ⟨n,en⟩:∃ n:Nat,c.lines=n:=⟨c.lines.toNat,by omega⟩
     obtain ⟨h,rfl⟩:∃ n:Nat,h=n:=⟨h.toNat,by omega⟩
     have r1:linesL c h=rowN h H (cntN n h H):=by simp [linesL,e,eH,en];omega
     have hH:h<H:=by omega
     rw [r1]
     refine FnF.mk' Tryz.func96 rfl rfl Tryz.ntmps96 rfl ?_
     repeat (first|refine gd ?_|intro _|refine cal @hE ?_)
     rename_i bc
     apply WC_loopE (E0:=[(2,_)]) (fun E0 (q:Nat×Option Addr×Nat)=>(6,.int .i64 ((h+q.1*H:Nat):Int))::(5,.slice q.2.1 q.1 q.2.2)::E0)
       (fun q=>Own 3 1 (.slice q.2.1 q.1 q.2.2) q.1 (flat ic (rowN h H q.1))::Cells bc 24 c.cells::F) (fun q=>q.1≤cntN n h H) (fun q=>cntN n h H-q.1) (0,none,0)
     · simp only [Nat.zero_mul,Nat.add_zero];exact zqU
     · exact Nat.zero_le _
     · exact own_empty (by exact entu0)
     · rintro ⟨k,p,q⟩ hk
       dsimp only at hk ⊢
       have hlt:=cnt_lt (n:=n) (k:=k) hH
       have hcn:cntN n h H≤n+H:=by
         unfold cntN
         exact Nat.le_trans (Nat.div_le_self _ _) (by omega)
       by_cases hk2:k<cntN n h H
       · have h2:=hlt.1 hk2
         repeat (first|refine gd ?_|intro _)
         rename_i b' p' q'
         refine WE_loop (k+1,p',q') (by dsimp only;omega) (by dsimp only;omega) ?_ ?_
         · dsimp only
           have e3:((h+(k+1)*H:Nat):Int)=((h+k*H:Nat):Int)+c.homes:=by rw [eH,Nat.add_mul];omega
           rw [e3];exact zqU
         · dsimp only;rw [rowN_succ,flat_append,flat_one];exact entu0
       · have h2:¬h+k*H<n:=fun z=>hk2 (hlt.2 z)
         have h3:k=cntN n h H:=by omega
         subst h3
         repeat (first|refine gd ?_|intro _)
         rw [show (rowN h H (cntN n h H)).length=cntN n h H from rowN_len _ _ _]
         (apply WE_ret rfl rfl zqR)
         · exact ⟨_,_,rfl,rfl⟩
         · exact entu0
   · have r1:linesL c h=[]:=by simp [linesL,hr]
     rw [r1]
     refine FnF.mk' Tryz.func96 rfl rfl Tryz.ntmps96 rfl ?_
     repeat' (first|refine gd ?_|intro _|refine cal @hE ?_|refine spl ?_ ?_|fail)
     all_goals first|(exfalso;omega)|skip
     all_goals (apply WE_ret rfl rfl zqR)
     all_goals first|exact ⟨_,_,rfl,rfl⟩|exact own_empty (by exact entu0)
end Go.Sx

/- Jumps to a label that stands behind. My own work; names no program. -/
namespace Go.Sx
open Go
section
variable {P:Program} {N:Nat} {env:Env} {L:List HP} {Q:Exit→Act→World→Prop}
def JumpQ {ι:Type} (N:Nat) (E:ι→Env) (H:ι→List HP) (I:ι→Prop):Act→World→Prop:=fun a w=>∃ j,I j∧EnvOk N (E j) a∧Sat (H j) w
theorem WC_scope {ι:Type} {l:Nat} {c rest:Code} (E:ι→Env) (H:ι→List HP) (I:ι→Prop) (hf:findLabel c l=some rest) (first:WC P N c env L (Exit.jump l (JumpQ N E H I) Q))
    (pass:∀ j,I j→WC P N rest (E j) (H j) (Exit.jump l (fun _ _=>False) Q)):WC P N (.scope c) env L Q:=fun a w ha hw=>
  wp_scope_jumps l (JumpQ N E H I) (fun _ _=>0) hf (first a w ha hw) fun a w ⟨j,h1,h2,h3⟩=>wp_mono (pass j h1 a w h2 h3) fun e a' w' hq=>by
    cases e with
    |goto l'=>exact absurd hq.2 id
    |normal=>exact hq
    |exit id=>exact hq
    |ret=>exact hq
    |panic ch=>exact hq
    |outgrown=>exact hq
theorem WC_label {l:Nat} (h:WE N .normal env L Q):WC P N (.label l) env L Q:=fun a w ha hw=>wp_label (h a w ha hw)
theorem WC_goto {l:Nat} (h:WE N (.goto l) env L Q):WC P N (.goto l) env L Q:=fun a w ha hw=>wp_goto (h a w ha hw)
theorem WE_jump {ι:Type} {l:Nat} {E:ι→Env} {H:ι→List HP} {I:ι→Prop} (j:ι) (hI:I j) (hs:Sub (E j) env) (he:Ent L (H j)):WE N (.goto l) env L (Exit.jump l (JumpQ N E H I) Q):=
  fun a w ha hw=>⟨rfl,j,hI,ha.sub hs,he.sat hw⟩
theorem WE_jump_ret {l:Nat} {J:Act→World→Prop} (h:WE N .ret env L Q):WE N .ret env L (Exit.jump l J Q):=h
theorem WE_then_goto {l:Nat} {K:Act→World→Prop} (h:WE N (.goto l) env L Q):WE N (.goto l) env L (Exit.then K Q):=h
theorem WE_block_goto {id l:Nat} (h:WE N (.goto l) env L Q):WE N (.goto l) env L (Exit.inBlock id Q):=h
theorem WE_loop_goto {ι:Type} {l:Nat} {E:ι→Env} {H:ι→List HP} {I:ι→Prop} {μ:ι→Nat} {i:ι} (h:WE N (.goto l) env L Q):WE N (.goto l) env L (LoopQ N E H I μ i Q):=h
end
end Go.Sx
