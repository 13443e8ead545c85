/- Ins, All: several of my texts as one. My own work. -/
import Derived.Laws.Externs
import Derived.Lib.AppendZerosOnto
import Derived.Lib.Overlaps
import Derived.Test.YtjihlpjnebdiiabGreatData
set_option linter.unusedVariables false
set_option linter.unusedSectionVars false
set_option linter.unusedSimpArgs false
set_option maxRecDepth 100000
set_option maxHeartbeats 4000000
namespace Go.Sx
open Go Go.Proofs
section
open Go
section
variable {P:Program} {N:Nat} {t ty:TypeId} {x y:Operand} {env:Env} {L:List HP}
theorem RP {e:TypeId} {ats:List TypeId} {p:Option Addr} {n c:Nat} [hT:TU P t (.slice e)] (hx:ev env x=some (.slice p n c)):V P N (.call ⟨.builtin .cap,[x].toArray,(t::ats).toArray⟩) ty env L (.int .i64 (c:Int)):=by
  intro a w ha hw;simp [execOp,resolve,invoke,builtin,ha.ev hx,Builtin.cap_,run_underlying hT.pf,goInt]
theorem Ku {e tn:TypeId} {g T i cap k bs:Nat} {kk:Int} {z z0:Value} {l:List Value} {C:List Value→List HP} {pos:String} {c9:Array Edge} {d:Nat} [hT:TU P t (.slice e)] [hN:TU P tn (.int .i64)] [hZ:TZ P e 1 z bs] [yG:CO z [z0]]
    (hx:ev env x=some (.slice (some ⟨g,0,none⟩) i cap)) (hy:ev env y=some (.int .i64 kk)) (hk:bX g L T l C) (he:kk=(k:Int)) (h0:0<k) (hg:cap<i+k) (hb:(i+k)*bs≤140737488355328) (zF:i+k≤9223372036854775807) (hi:i≤l.length) (ho:(l.take i).all one=true) (h1:one z0=true) (hd:Nat.blt d N=true) :
    KO P N ⟨some d,.call ⟨.builtin .append,[x,y].toArray,[t,tn].toArray⟩,ty,pos,c9,none⟩ env L (Mh env d (i+k) (fun v'=>aT e 1 v' (i+k) (l.take i++List.replicate k z0)::L)):=by
  subst he;intro a w ha hw K Q next
  have hl:i+k≤maxLen:=by simp only [maxLen];omega
  obtain ⟨ti,JX,Up⟩:=Option.map_eq_some_iff.1 hZ.pf;simp only [Prod.mk.injEq] at Up;obtain ⟨Pe,WL,Vd⟩:=Up;have R6:z.cells= #[z0]:=by rw [dT,yG.pf]
  have hh:=jn hk hw;have hold:(Builtin.firstCells ti.size i (.slice (some ⟨g,0,none⟩) i cap)).run P w.drew= .ok (l.take i).toArray w.drew:=by
    rw [Pe];simp only [Builtin.firstCells];refine gK (by rw [List.length_take];omega) (fun j v hj=>?_);have:w.drew.cell? ⟨g,0+j,none⟩=w.cell? ⟨g,0+j,none⟩:=rfl;rw [this,io hh];rw [List.getElem?_take] at hj;split at hj
    ·simpa using hj
    ·cases hj
  have hr:=Lib.run_append_grow_zeros (P:=P) w t tn ty e ti z .i64 .i64 hT.pf hN.pf JX WL (some ⟨g,0,none⟩) i cap (l.take i) hold k h0 (om) hg (om) (by rw [Vd];have:k*bs≤(i+k)*bs:=Nat.mul_le_mul_right _ (om);omega) (growslice_fits (om) (by rw [Vd];exact hb));have Uo:=grownCap_ge w (i+k) cap e;have XK:∀ (n:Nat),(Builtin.zeroCells #[z0] n).toList=List.replicate n z0:=fun n=>by
    have:=qB [z0] n 1 rfl;rw [this];induction n with
    |zero=>rfl
    |succ n ih=>rw [List.replicate_succ,List.flatten_cons,ih (qB [z0] n 1 rfl),List.replicate_succ];rfl
  obtain ⟨v',w',yQ,F4⟩:∃ v' w',(Builtin.append_ #[t,tn] ty #[.slice (some ⟨g,0,none⟩) i cap,.int .i64 k]).run P w= .ok v' w'∧Sat (aT e 1 v' (i+k) (l.take i++List.replicate k z0)::L) w':=by
    refine ⟨_,_,hr,DU (w:=w.drew) _ (fun h hc=>⟨?_,?_,.inr ⟨_,_,_,rfl,hc,Uo,grownCap_le_maxLen w (i+k) cap e hl,?_,?_⟩⟩) (vm hw)⟩
    ·simp;omega
    ·rw [List.all_append,ho];simp [h1]
    ·simp only [Array.size_append,List.size_toArray,A8,R6,List.length_take];simp;omega
    ·simp only [Array.toList_append,R6,XK];rw [List.take_append_of_le_length (by simp;omega),List.take_of_length_le (by simp;omega)]
  unfold Oper.wp;have ex:=ji (P:=P) (ρ:=a.eval) (b:= .append) (args:=[x,y]) (ats:=[t,tn].toArray) (ty:=ty) (vs:=[.slice (some ⟨g,0,none⟩) i cap,.int .i64 k]) (by simp [ha.ev hx,ha.ev hy]) (w:=w) (r:= .ok (.value v') w') (fun cs=>by
    simp [builtin,yQ])
  rw [cY,ex];obtain ⟨p',c',rfl⟩:=vT F4;exact next _ _ _ _ ⟨p',c',rfl,rfl⟩ (ha.put hd _) F4
theorem H7 {f:Operand} {ats:Array TypeId} {Yv:FuncId} {fn:Func} {tR e:TypeId} {ga oa la ca gb ob lb cb TA TB bs sz:Nat} {z:Value} {xa xb:List Value} {CA CB:List Value→List HP} {pos:String} {c9:Array Edge} {d:Nat}
    [hT:TU P t (.slice e)] [hZ:TZ P e sz z bs]
    (hf:ev env f=some (.func (.func Yv) [].toArray [].toArray)) (hx:ev env x=some (.slice (some ⟨ga,oa,none⟩) la ca)) (hy:ev env y=some (.slice (some ⟨gb,ob,none⟩) lb cb)) (ZT:P.funcs[Yv]? =some fn) (V1:(fn.name == "runtime.NumGoroutine")=false) (Mj:fn.body.isNone=true) (ZU:Extern.findNext fn=none) (hex:Extern.find fn=some (Extern.SlicesOverlaps.overlaps #[t,t] #[tR]))
    (ka:bX ga L TA xa CA) (kb:bX gb L TB xb CB) (kz:ga≠gb) (Sc:xb.length≠0) (hd:Nat.blt d N=true) :
    KO P N ⟨some d,.call ⟨.value f,[x,y].toArray,ats⟩,ty,pos,c9,none⟩ env L (tq ((d,.bool false)::env) L):=by
  intro a w ha hw K Q next
  have h1:=jn ka hw;have h2:=jn kb hw;have hr:=Lib.run_overlaps_apart (P:=P) w t tR e hT.pf sz (run_sizeOf hZ) ⟨ga,oa,none⟩ ⟨gb,ob,none⟩ la ca lb cb kz TA TB xa.length xb.length (by simp [World.shape?,h1]) (by simp [World.shape?,h2]) Sc (by simp [World.frozen?,h1]) (by simp [World.frozen?,h1]);unfold Oper.wp;have ex:(execOp a.eval ⟨none,.call ⟨.value f,[x,y].toArray,ats⟩,ty, "", #[],none⟩).run P w= .ok (.value (.bool false)) w:=by
    simp only [execOp,resolve,Sem.run_bind,Deferred.ofValue,ha.ev hf,Sem.run_pure,Result.andThen_ok,invoke];rw [run_callFunc_extern ZT V1 Mj ZU hex];simp [ha.ev hx,ha.ev hy,hr]
  rw [cY,ex];exact next _ _ _ _ ⟨rfl,rfl⟩ (ha.put hd _) hw
theorem zX {e:TypeId} {ga oa na ca gb ob nb cb TA TB sz k bs:Nat} {z:Value} {l l2 l':List Value} {CA CB:List Value→List HP} {pos:String} {c9:Array Edge} {d:Option Nat} {t2:TypeId} [hT:TU P t (.slice e)] [hZ:TZ P e sz z bs]
    (hx:ev env x=some (.slice (some ⟨ga,oa,none⟩) na ca)) (hy:ev env y=some (.slice (some ⟨gb,ob,none⟩) nb cb)) (ZV:bX ga L TA l CA) (WW:bX gb L TB l2 CB) (hk:min nb na=k) (LJ:oa+k*sz≤l.length) (Zc:ob+k*sz≤l2.length) (ho:((l2.drop ob).take (k*sz)).all one=true) (hd:sh N d=true) (hl:aV l oa ((l2.drop ob).take (k*sz))=l') :
    KO P N ⟨d,.call ⟨.builtin .copy,[x,y].toArray,[t,t2].toArray⟩,ty,pos,c9,none⟩ env L (tq (pj env d (.int .i64 (k:Nat))) (CA l')):=by
  subst hl hk;intro a w ha hw K Q next
  obtain ⟨R,k1,k2⟩:=ZV.pf;have hs:=k1.gX hw;have hh:=nT hs;have L0:=jn WW hw;have BK:((l2.drop ob).take (min nb na*sz)).length=min nb na*sz:=by rw [List.length_take,List.length_drop];omega
  have hf:(Builtin.firstCells sz (min nb na) (.slice (some ⟨gb,ob,none⟩) nb cb)).run P w= .ok ((l2.drop ob).take (min nb na*sz)).toArray w:=by
    simp only [Builtin.firstCells];refine gK BK fun j v hj=>?_;rw [io L0];rw [List.getElem?_take] at hj;split at hj
    ·rwa [List.getElem?_drop] at hj
    ·cases hj
  obtain ⟨w',r1,r2,r3,r4,r5,r6⟩:=gL (P:=P) ga TA ((l2.drop ob).take (min nb na*sz)) l oa 0 w hh (by rw [BK];omega) ho;have yQ:(Builtin.copy_ #[t,t2] ty #[.slice (some ⟨ga,oa,none⟩) na ca,.slice (some ⟨gb,ob,none⟩) nb cb]).run P w= .ok (goInt (min nb na:Nat)) w':=by
    have WI:Nat.min nb na=min nb na:=rfl;simp [Builtin.copy_,run_underlying hT.pf,run_sizeOf hZ,Builtin.lenOf,WI,hf,r1]
  unfold Oper.wp;have ex:=ji (P:=P) (ρ:=a.eval) (b:= .copy) (args:=[x,y]) (ats:=[t,t2].toArray) (ty:=ty) (vs:=[.slice (some ⟨ga,oa,none⟩) na ca,.slice (some ⟨gb,ob,none⟩) nb cb]) (by simp [ha.ev hx,ha.ev hy]) (w:=w) (r:= .ok (.value (goInt (min nb na:Nat))) w') (fun cs=>by
    simp [builtin,yQ])
  rw [cY,ex];refine next _ _ _ _ ⟨rfl,rfl⟩ (ha.B1 hd _) ((k2 _).gX ?_)
  exact qN (b:=ga) (ao ga TA (aV l oa ((l2.drop ob).take (min nb na*sz)))) (fun h hp=>⟨_,hp.pf⟩) (fun h e=>⟨e⟩) (by simpa using r2) r3 r4 r5 r6 hs
theorem S1 {g h T T':Nat} {l l':List Value} {all:Array Oper} {c:List Oper} {Q:Exit→Act→World→Prop} (k:g≠h→WO P N all c env (ao g T l::ao h T' l'::L) Q):WO P N all c env (ao g T l::ao h T' l'::L) Q:=by
  intro a w ha hw;refine k ?_ a w ha hw;obtain ⟨S,R,d,hp,A,B,d2,hq,hL⟩:=hw;rw [mU] at hq;intro e;subst e;exact d g (tp hp.pf).1 (tp hq.pf).1.1
end
end
section
open Go
theorem Kv {L M:List HP} (p:L.Perm M):∀ h,bz L h→bz M h:=by
  induction p with
  |nil=>exact fun _ h=>h
  |cons x _ ih=>exact fun _ h=>jM ih h
  |swap x y l=>exact fun _ h=>kE h
  |trans _ _ a b=>exact fun h x=>b h (a h x)
theorem fD {L M:List HP} (p:L.Perm M):ai L M:=Kv p
theorem wl {α:Type}:∀ (l:List α) (i:Nat) (hi:i<l.length),(l[i]::l.eraseIdx i).Perm l
  |a::r,0,_=>List.Perm.refl _
  |a::r,i+1,hi=>(List.Perm.swap _ _ _).trans ((wl r i (by simpa using hi)).cons a)
  | [],i,hi=>by simp at hi
structure bZ (ps:List HP) (h:PH):Prop where
  pf:bz ps h
theorem km {ps L:List HP}:ai (bZ ps::L) (ps++L):=fun h ⟨S,T,d,hp,hL⟩=>lu d hp.pf hL
theorem jN {ps L:List HP}:ai (ps++L) (bZ ps::L):=fun h H=>by
  obtain ⟨S,T,d,h1,h2⟩:=mm H;exact ⟨S,T,d,⟨h1⟩,h2⟩
theorem all_nil {L:List HP}:ai L (bZ []::L):=jN (ps:=[])
section
variable {α:Type} {f:α→HP} {qs:List α} {L:List HP}
theorem nj (i:Nat) (hi:i<qs.length):ai (bZ (qs.map f)::L) (f qs[i]::bZ ((qs.eraseIdx i).map f)::L):=by
  refine ai.trans km (ai.trans (fD ?_) (ai.cons jN));have:=(wl qs i hi).map f;exact (this.symm.append_right L)
theorem uv (i:Nat) (hi:i<qs.length) (x:α):ai (f x::bZ ((qs.eraseIdx i).map f)::L) (bZ ((qs.set i x).map f)::L):=by
  refine ai.trans (ai.cons km) (ai.trans (fD ?_) jN);have h2:i<(qs.set i x).length:=by simpa using hi
  have:=(wl (qs.set i x) i h2).map f;simp only [List.getElem_set_self,List.eraseIdx_set_eq] at this;exact this.append_right L
theorem Ns (i:Nat) (hi:i<qs.length):ai (f qs[i]::bZ ((qs.eraseIdx i).map f)::L) (bZ (qs.map f)::L):=by
  have:=uv (f:=f) (L:=L) i hi qs[i];simpa using this
theorem o7 (x:α):ai (f x::bZ (qs.map f)::L) (bZ ((qs++[x]).map f)::L):=by
  refine ai.trans (ai.cons km) (ai.trans (fD ?_) jN);rw [List.map_append];exact (List.perm_append_singleton (f x) (qs.map f)).symm.append_right L
theorem yg (i:Nat):ai (bZ (qs.map f)::L) (bZ ((qs.eraseIdx i).map f)::L):=by
  by_cases hi:i<qs.length
  ·exact ai.trans (nj i hi) (ai.drop ai.refl)
  ·rw [List.eraseIdx_of_length_le (om)];exact ai.refl
end
structure OY (sz:Nat) (v:Value) (n:Nat) (xs:List Value) (h:PH):Prop where
  len:xs.length=n*sz
  q7:xs.all one=true
  pf:(∃ p c,v= .slice p 0 c∧n=0)∨∃ b o c pd T,v= .slice (some ⟨b,o,none⟩) n c∧h.c b=some (.cells pd T (0,0))∧∀ j u,xs[j]? =some u→pd.toList[o+j]? =some u
section
variable {sz n:Nat} {v:Value} {xs:List Value} {L:List HP}
instance (priority:=high) bN.WX:bN (OY sz v n xs::L) sz v n xs:=
  ⟨fun w ⟨_,_,_,hp,_⟩=>hp.len,fun w ⟨_,_,_,hp,_⟩=>hp.q7,fun w ⟨S,_,_,hp,_⟩=>by
    rcases hp.pf with h|⟨b,o,c,pd,T,h1,h2,h3⟩
    ·exact .inl h
    ·refine .inr ⟨b,o,c,h1,fun j u hu=>?_⟩;have hh:w.heap[b]? =some (.cells pd.toList.toArray T (0,0)):=by have h4:=(tp h2).2;simp only [ph] at h4;simpa using h4
     rw [io hh];exact h3 j u hu⟩
theorem zY {e:TypeId}:ai (aT e sz v n xs::L) (OY sz v n xs::L):=fun h ⟨S,T,d,hp,hL⟩=>by
  refine ⟨S,T,d,⟨hp.len,hp.q7,?_⟩,hL⟩;rcases hp.pf with ⟨p,a,b⟩|⟨g,cap,pd,a,b,c,d1,e1,f⟩
  ·exact .inl ⟨p,0,a,b⟩
  ·refine .inr ⟨g,0,cap,pd,e,a,b,fun j u hu=>?_⟩;rw [←f,List.getElem?_take] at hu;split at hu
   ·simpa using hu
   ·simp at hu
theorem zZ {p:Option Addr} {c:Nat}:ai L (OY sz (.slice p 0 c) 0 []::L):=fun hh H=>by
  refine ⟨fun _=>False,fun _=>True,fun _ a _=>a,⟨by simp,rfl,.inl ⟨p,c,rfl,rfl⟩⟩,?_⟩;have:pR hh (fun _=>True)=hh:=by unfold pR;simp
  rw [this];exact H
theorem P4 {l h m:Nat} (h1:l≤h) (h2:h≤n) (h3:h≤m):ai (OY sz v n xs::L) (OY sz (cut v l h m sz) (h-l) ((xs.drop (l*sz)).take ((h-l)*sz))::L):=fun hh ⟨S,T,d,hp,hL⟩=>by
  refine ⟨S,T,d,⟨?_,?_,?_⟩,hL⟩
  ·have:=hp.len;have e:(h-l)*sz+l*sz≤n*sz:=by rw [←Nat.add_mul];exact Nat.mul_le_mul_right _ (om)
   simp;omega
  ·have:=hp.q7;rw [List.all_eq_true] at this ⊢;exact fun u hu=>this u (List.mem_of_mem_drop (List.mem_of_mem_take hu))
  ·by_cases hq:h=l
   ·left;subst hq;rcases hp.pf with ⟨p,c,rfl,rfl⟩|⟨b,o,c,pd,T,rfl,_⟩<;>exact ⟨_,_,by simp [Sx.cut];exact ⟨rfl,rfl⟩,om⟩
   ·rcases hp.pf with ⟨p,c,rfl,rfl⟩|⟨b,o,c,pd,T,rfl,hb,hc⟩
    ·omega
    ·right;have sK:(Addr.add ⟨b,o,none⟩ (l*sz))=⟨b,o+l*sz,none⟩:=by unfold Addr.add;split<;>simp_all
     refine ⟨b,o+l*sz,m-l,pd,T,?_,hb,fun j u hj=>?_⟩
     ·simp only [Sx.cut,if_neg (show ¬m=l by omega),Option.map_some,sK]
     ·rw [List.getElem?_take] at hj;split at hj
      ·rw [List.getElem?_drop] at hj;have:=hc _ _ hj;rwa [←Nat.add_assoc] at this
      ·simp at hj
end
end
end Go.Sx
