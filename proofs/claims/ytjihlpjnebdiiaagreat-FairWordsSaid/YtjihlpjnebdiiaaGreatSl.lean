/- Slices: those that a call owns, those that it only reads, and what is done to them. My own work; names no program. -/
import Derived.Laws.AppendOwn
import Derived.Test.YtjihlpjnebdiiaaGreatSx
set_option linter.unusedVariables false
set_option linter.unusedSectionVars false
set_option linter.unusedSimpArgs false
namespace Go.Sx
open Go
theorem jP {p:Prop} {inst:Decidable p} (h:p):@decide p inst=true:=decide_eq_true h
theorem jQ {p:Prop} {inst:Decidable p} (h:¬p):@decide p inst=false:=decide_eq_false h
structure Own (e:TypeId) (sz:Nat) (v:Value) (n:Nat) (xs:List Value) (h:PH):Prop where
  len:xs.length=n*sz
  ones:xs.all one=true
  pf:(∃ p,v= .slice p 0 0∧n=0)∨∃ g cap cur,v= .slice (some ⟨g,0,none⟩) n cap∧h.c g=some (.cells cur e (0,0))∧n≤cap∧cap≤maxLen∧cur.size=cap*sz∧cur.toList.take (n*sz)=xs
def pb:Value→Nat
  | .slice (some a) _ _=>a.block
  |_=>0
def po:Value→Nat
  | .slice (some a) _ _=>a.off
  |_=>0
class RdL (L:List HP) (sz:outParam Nat) (v:Value) (n:outParam Nat) (xs:outParam (List Value)):Prop where
  len:∀ w,fP L w→xs.length=n*sz
  ones:∀ w,fP L w→xs.all one=true
  pf:∀ w,fP L w→(∃ p c,v= .slice p 0 c∧n=0)∨∃ b o c,v= .slice (some ⟨b,o,none⟩) n c∧∀ j u,xs[j]? =some u→w.cell? ⟨b,o+j,none⟩=some u
theorem oV {p:HP} {L:List HP} {w:World} (h:fP (p::L) w):fP L w:=aU h
theorem tI:∀ {L M:List HP} {w:World},fP (pO L M) w→fP L w:=fun {L M w} h=>by
  obtain ⟨S,T,d,h1,h2⟩:=n5 (show cY (L++M) (ph w) by rw [←a5r];exact h)
  exact b0t h1
instance RdL.there {p:HP} {L:List HP} {sz:Nat} {v:Value} {n:Nat} {xs:List Value} [k:RdL L sz v n xs]:RdL (p::L) sz v n xs:=
  ⟨fun w h=>k.len w (oV h),fun w h=>k.ones w (oV h),fun w h=>k.pf w (oV h)⟩
instance RdL.left {L M:List HP} {sz:Nat} {v:Value} {n:Nat} {xs:List Value} [k:RdL L sz v n xs]:RdL (pO L M) sz v n xs:=
  ⟨fun w h=>k.len w (tI h),fun w h=>k.ones w (tI h),fun w h=>k.pf w (tI h)⟩
theorem rT {e:TypeId} {sz:Nat} {v:Value} {n:Nat} {xs:List Value} {L:List HP} {w:World} (H:fP (Own e sz v n xs::L) w) :
    xs.length=n*sz∧xs.all one=true∧((∃ p,v= .slice p 0 0∧n=0)∨∃ g cap cur,v= .slice (some ⟨g,0,none⟩) n cap∧w.heap[g]? =some (.cells cur e (0,0))∧n≤cap∧cap≤maxLen∧cur.size=cap*sz∧cur.toList.take (n*sz)=xs):=by
  obtain ⟨S,_,_,hp,_⟩:=H
  refine ⟨hp.len,hp.ones,?_⟩
  rcases hp.pf with h|⟨g,cap,cur,h1,h2,h3⟩
  · exact .inl h
  · exact .inr ⟨g,cap,cur,h1,(a0a h2).2,h3⟩
theorem b3i {w:World} {g:Nat} {cur:Array Value} {e:TypeId} {k:Nat} {xs:List Value} (h:w.heap[g]? =some (.cells cur e (0,0))) (ht:cur.toList.take k=xs) (j:Nat) (u:Value) (hu:xs[j]? =some u) :
    w.cell? ⟨g,0+j,none⟩=some u:=by
  have hc:cur=cur.toList.toArray:=by simp
  rw [hc] at h
  rw [fX h]
  subst ht
  rw [List.getElem?_take] at hu
  split at hu
  · simpa using hu
  · simp at hu
instance (priority:=high) RdL.own {e:TypeId} {sz:Nat} {v:Value} {n:Nat} {xs:List Value} {L:List HP}:RdL (Own e sz v n xs::L) sz v n xs:=
  ⟨fun w h=>(rT h).1,fun w h=>(rT h).2.1,fun w h=>by
    rcases (rT h).2.2 with ⟨p,h1,h2⟩|⟨g,cap,cur,h1,h2,h3,h4,h5,h6⟩
    · exact .inl ⟨p,0,h1,h2⟩
    · exact .inr ⟨g,0,cap,h1,fun j u hu=>b3i h2 h6 j u hu⟩⟩
class OwnAt (v:Value) (L:List HP) (e sz n:outParam Nat) (xs:outParam (List Value)) (L':outParam (List HP)):Prop where
  pf:Ent L (Own e sz v n xs::L')
instance (priority:=high) OwnAt.here {v:Value} {L:List HP} {e sz n:Nat} {xs:List Value}:OwnAt v (Own e sz v n xs::L) e sz n xs L:=⟨Ent.refl⟩
instance OwnAt.there {v:Value} {q:HP} {L L':List HP} {e sz n:Nat} {xs:List Value} [k:OwnAt v L e sz n xs L']:OwnAt v (q::L) e sz n xs (q::L'):=
  ⟨fun _ h=>jN (iT k.pf h)⟩
class ROld (W:World) (sz:outParam Nat) (v:Value) (n:outParam Nat) (xs:outParam (List Value)):Prop where
  len:xs.length=n*sz
  ones:xs.all one=true
  pf:(∃ p c,v= .slice p 0 c∧n=0)∨∃ b o c,v= .slice (some ⟨b,o,none⟩) n c∧b<W.heap.size∧∀ j u,xs[j]? =some u→W.cell? ⟨b,o+j,none⟩=some u
instance (priority:=high) RdL.old {W:World} {sz:Nat} {v:Value} {n:Nat} {xs:List Value} {L:List HP} [k:ROld W sz v n xs]:RdL (Old W::L) sz v n xs:=
  ⟨fun w h=>k.len,fun w h=>k.ones,fun w h=>by
    rcases k.pf with h1|⟨b,o,c,h1,h2,h3⟩
    · exact .inl h1
    · refine .inr ⟨b,o,c,h1,fun j u hu=>?_⟩
      have:=h3 j u hu
      have ho:=(c7s h).1 b h2
      unfold World.cell? at this ⊢
      simp only [ho]
      exact this⟩
section
variable {P:Program} {N:Nat} {t ty:TypeId} {x y:Operand} {env:Env} {L:List HP}
theorem d4f {e:TypeId} {ats:List TypeId} {sz n:Nat} {v:Value} {xs:List Value} [hT:TU P t (.slice e)] (hx:ev env x=some v) (k:RdL L sz v n xs):V P N (.call ⟨.builtin .len,[x].toArray,(t::ats).toArray⟩) ty env L (.int .i64 (n:Int)):=by
  intro a w ha hw
  refine gU (vs:=[v]) (by simp [ha.ev hx]) fun cs=>?_
  rcases k.pf w hw with ⟨p,c,rfl,rfl⟩|⟨b,o,c,rfl,_⟩<;>simp [builtin,Builtin.len_,aE hT.pf,goInt]
theorem vP {e:TypeId} {i:Int} {k:IntKind} {n sz sz' bs:Nat} {z v:Value} {xs:List Value} [hT:TU P t (.slice e)] [hZ:TZ P e sz z bs] (hx:ev env x=some v) (hr:RdL L sz' v n xs) (hy:ev env y=some (.int k i))
    (h0:0≤i) (h1:i<(n:Int)):V P N (.indexAddr t x y) ty env L (.pointer (some ⟨pb v,po v+i.toNat*sz,none⟩)):=by
  intro a w ha hw
  rcases hr.pf w hw with ⟨p,c,rfl,rfl⟩|⟨b,o,c,rfl,_⟩
  · omega
  · have hadd:(Addr.add ⟨b,o,none⟩ (i.toNat*sz))=⟨b,o+i.toNat*sz,none⟩:=by unfold Addr.add;split<;>simp_all
    simp [execOp,ha.ev hx,ha.ev hy,Instr.indexAt,asIntOf,aE hT.pf,h0,h1,bE hZ,hadd,pb,po]
theorem a5f {e:TypeId} {i:Nat} {k:IntKind} {n sz sz' bs:Nat} {z v:Value} {xs:List Value} [hT:TU P t (.slice e)] [hZ:TZ P e sz z bs] (hx:ev env x=some v) (hr:RdL L sz' v n xs) (hy:ev env y=some (.int k (i:Int)))
    (h1:i<n):V P N (.indexAddr t x y) ty env L (.pointer (some ⟨pb v,po v+i*sz,none⟩)):=by
  have:=vP (P:=P) (N:=N) (ty:=ty) (t:=t) (hT:=hT) (hZ:=hZ) hx hr hy (om) (om)
  simpa using this
theorem a3i {d:TypeDesc} {n sz m bs:Nat} {z v u:Value} {k:Nat} {xs cs:List Value} [hT:TU P t d] [hZ:TZ P t m z bs]
    (hx:ev env x=some (.pointer (some ⟨pb v,po v+k,none⟩))) (hr:RdL L sz v n xs) (hs:sub xs k m=some cs) (hm:Nat.blt 0 m=true) (hv:kE (n7 d) cs=some u):V P N (.load t x) ty env L u:=by
  intro a w ha hw
  obtain ⟨h1,h2⟩:=a1v hs
  have hm':0<m:=by simpa using hm
  rcases hr.pf w hw with ⟨p,c,rfl,rfl⟩|⟨b,o,c,rfl,hc⟩
  · have:=hr.len w hw
    simp at this
    simp [this] at h1
    omega
  · have:=v9 (P:=P) (w:=w) (b:=b) (off:=o+k) hT hZ (cs:=cs) (by subst h2;simp;omega) hv (fun j v hj=>by
      subst h2
      rw [List.getElem?_take] at hj
      split at hj
      · rw [List.getElem?_drop] at hj
        have:=hc (k+j) v hj
        rwa [Nat.add_assoc]
      · simp at hj)
    simp [execOp,ha.ev hx,Instr.loadAt,Instr.sureAddr,pb,po,this]
end
section
variable {P:Program} {N:Nat} {t ty:TypeId} {x y:Operand} {env:Env} {L:List HP}
theorem a7i {d:TypeDesc} {n sz m bs:Nat} {z v u:Value} {k j:Nat} {xs cs:List Value} [hT:TU P t d] [hZ:TZ P t m z bs]
    (hx:ev env x=some (.pointer (some ⟨pb v,po v+k+j,none⟩))) (hr:RdL L sz v n xs) (hs:sub xs (k+j) m=some cs) (hm:Nat.blt 0 m=true) (hv:kE (n7 d) cs=some u):V P N (.load t x) ty env L u:=
  a3i (k:=k+j) (by rw [hx,Nat.add_assoc]) hr hs hm hv
end
section
variable {α:Type} {enc:α→List Value} {n:Nat}
theorem a4i (h:∀ x,(enc x).length=n) (xs:List α) (i:Nat) (hi:i<xs.length) {j m:Nat} {cs:List Value} (hs:sub (enc xs[i]) j m=some cs):sub (aC enc xs) (i*n+j) m=some cs:=by
  obtain ⟨h1,h2⟩:=a1v hs
  rw [h] at h1
  have hb:Nat.ble (i*n+j+m) (aC enc xs).length=true:=by
    rw [gV h]
    have:(i+1)*n≤xs.length*n:=Nat.mul_le_mul_right _ (om)
    rw [Nat.succ_mul] at this
    simp;omega
  unfold sub
  rw [hb]
  simp only [Option.some.injEq]
  rw [h2,←List.drop_drop,fV h,List.drop_eq_getElem_cons hi]
  show ((enc xs[i]++aC enc _).drop j).take m=_
  rw [List.drop_append,List.take_append,Nat.sub_eq_zero_of_le (by rw [List.length_drop,h];omega)]
  simp
theorem b4k (h:∀ x,(enc x).length=n) (xs:List α) (i:Nat) (hi:i<xs.length) {m:Nat} {cs:List Value} (hs:sub (enc xs[i]) 0 m=some cs):sub (aC enc xs) (i*n) m=some cs:=by
  have:=a4i h xs i hi hs
  simpa using this
theorem a7j (h:∀ x,(enc x).length=n) {xs:List α} {i:Nat} {e:α} (he:xs[i]? =some e) {j m:Nat} {cs:List Value} (hs:sub (enc e) j m=some cs):sub (aC enc xs) (i*n+j) m=some cs:=by
  obtain ⟨hi,rfl⟩:=List.getElem?_eq_some_iff.1 he
  exact a4i h xs i hi hs
theorem b8c (h:∀ x,(enc x).length=n) {xs:List α} {i:Nat} {e:α} (he:xs[i]? =some e) {m:Nat} {cs:List Value} (hs:sub (enc e) 0 m=some cs):sub (aC enc xs) (i*n) m=some cs:=by
  obtain ⟨hi,rfl⟩:=List.getElem?_eq_some_iff.1 he
  exact b4k h xs i hi hs
end
theorem b8d {α:Type} {enc:α→List Value} {l:List α} {e:α} {P:Program} {N:Nat} {t ty:TypeId} {x:Operand} {env:Env} {L:List HP} {d:TypeDesc} {n sz m bs i j:Nat} {z v:Value} {cs:List Value} [hT:TU P t d] [hZ:TZ P t m z bs]
    (hx:ev env x=some (.pointer (some ⟨pb v,po v+i*sz+j,none⟩))) (hd:n7 d=true) (hr:RdL L sz v n (aC enc l)) (h:∀ x,(enc x).length=sz) (he:l[i]? =some e) (_:SubN (enc e) j m cs) (hs:sub (enc e) j m=some cs) (hm:Nat.blt 0 m=true) :
    V P N (.load t x) ty env L (.agg cs.toArray):=
  a7i (k:=i*sz) hx hr (a7j h he hs) hm (by rw [hd];rfl)
theorem c0d {p q:HP} {L:List HP} {w w':World} {ob nb:Option Nat} (hp:∀ h:PH,p h→∀ b,ob=some b→∃ o,h.c b=some o)
    (hw:∀ k,k<w.heap.size→some k≠ob→w'.heap[k]? =w.heap[k]?) (hn:∀ k,nb=some k→ob=some k∨w.heap.size≤k) (hq:∀ h:PH,(∀ k,nb=some k→h.c k=w'.heap[k]?)→q h)
    (o1:w'.os=w.os) (o2:w'.output=w.output) (o3:w'.tape=w.tape) (H:fP (p::L) w):fP (q::L) w':=by
  obtain ⟨S,T,d,h1,h2⟩:=H
  refine ⟨fun b=>nb=some b,fun b=>T b∧b<w.heap.size,?_,hq _ ?_,?_⟩
  · rintro b e ⟨t,lt⟩
    rcases hn b e with h|h
    · obtain ⟨o,ho⟩:=hp _ h1 b h
      exact d b (a0a ho).1 t
    · omega
  · intro k hk
    simp [res,ph,hk]
  · have e:res (ph w') (fun b=>T b∧b<w.heap.size)=res (ph w) T:=by
      unfold res ph
      simp only [o1,o2,o3,PH.mk.injEq,and_true]
      funext b
      by_cases t:T b
      · by_cases lt:b<w.heap.size
        · simp only [t,lt,and_self,if_true]
          refine hw b lt fun h=>?_
          obtain ⟨o,ho⟩:=hp _ h1 b h.symm
          exact d b (a0a ho).1 t
        · simp [t,lt]
      · simp [t]
    rw [e];exact h2
section
variable {P:Program} {w:World} {t ty e:TypeId} {i:TypeInfo} {z:Value} {sz:Nat}
theorem b4l (ht:P.underlying t=some (.slice e)) (hi:P.info? e=some i) (hz:i.zero=some z) {base:Option Addr} {sLen sCap n:Nat} {x:Value} {olds news:List Value}
    (hx:∃ p c,x= .slice p n c) (hfo:(Builtin.firstCells i.size sLen (.slice base sLen sCap)).run P w.drew= .ok olds.toArray w.drew) (hf:(Builtin.firstCells i.size n x).run P w.drew= .ok news.toArray w.drew)
    (hg:sCap<sLen+n) (h63:((sLen+n:Nat):Int)≤9223372036854775807) (hfit:Builtin.nextslicecap (sLen+n) sCap*i.bytes≤281474976710656) :
    (Builtin.append_ #[t,t] ty #[.slice base sLen sCap,x]).run P w =
      .ok (.slice (some ⟨w.heap.size,0,none⟩) (sLen+n) (grownCap w (sLen+n) sCap e))
        (w.drew.alloc (.cells (olds.toArray++news.toArray++Builtin.zeroCells z.cells (grownCap w (sLen+n) sCap e-(sLen+n))) e)):=by
  obtain ⟨p,c,rfl⟩:=hx
  have hn:¬(sLen+n≤sCap):=by omega
  have h63':¬(9223372036854775807<((sLen:Int)+(n:Int))):=by omega
  have h48':¬(281474976710656<Builtin.nextslicecap (sLen+n) sCap*i.bytes):=by omega
  simp [Builtin.append_,aE ht,sizeOf,typeInfo,zeroValue,hi,hz,Builtin.lenOf,hn,h63',h48',Question.forced,hf,hfo,newRow,grownCap]
  congr 2
  apply Array.ext'
  simp [List.append_assoc]
theorem b8e (ht:P.underlying t=some (.slice e)) (hi:P.info? e=some i) {base:Option Addr} {sLen sCap:Nat} {x:Value}
    (hx:∃ p c,x= .slice p 0 c) (hl:sLen≤sCap):(Builtin.append_ #[t,t] ty #[.slice base sLen sCap,x]).run P w= .ok (.slice base sLen sCap) w:=by
  obtain ⟨p,c,rfl⟩:=hx
  cases p<;>cases base<;>simp [Builtin.append_,aE ht,sizeOf,typeInfo,hi,Builtin.lenOf,hl,Builtin.firstCells,loadCells,loadCellsFrom,storeCells]
end
section
variable {P:Program} {N:Nat} {t ty:TypeId} {x y:Operand} {env:Env} {L:List HP}
abbrev e0d (env:Env) (d k:Nat) (L':Value→List HP):Env→List HP→Prop:=fun e' M=>∃ p c,e'=(d,.slice p k c)::env∧M=L' (.slice p k c)
theorem dE {env:Env} {d k:Nat} {L':Value→List HP} {R:Env→List HP→Prop} (h:∀ p c,R ((d,.slice p k c)::env) (L' (.slice p k c))):∀ e' M,e0d env d k L' e' M→R e' M:=by
  rintro _ _ ⟨p,c,rfl,rfl⟩;exact h p c
theorem yN {e:TypeId} {sz:Nat} {v:Value} {n:Nat} {xs:List Value} {L:List HP} {w:World} (H:fP (Own e sz v n xs::L) w):∃ p c,v= .slice p n c:=by
  rcases (rT H).2.2 with ⟨p,h1,h2⟩|⟨g,cap,cur,h1,_⟩
  · exact ⟨p,0,by rw [h1,h2]⟩
  · exact ⟨_,cap,h1⟩
theorem c9x {p q:HP} {L:List HP} {w w':World} (o:Obj) (hw:w'=w.drew.alloc o) (hq:∀ h:PH,h.c w.heap.size=some o→q h) (H:fP (p::L) w):fP (q::L) w':=by
  subst hw
  exact c0d (ob:=none) (nb:=some w.heap.size) (fun _ _ _ h=>nomatch h) (fun k hk _=>heap_alloc_old w.drew o k hk) (fun k hk=>by cases hk;exact .inr (Nat.le_refl _)) (fun h hh=>hq h (by rw [hh _ rfl];exact heap_alloc_new w.drew o)) rfl rfl rfl H
theorem d8l (g k:Nat):(Addr.add ⟨g,0,none⟩ k)=⟨g,k,none⟩:=by unfold Addr.add;split<;>simp_all
theorem a7k (z:Array Value) (n:Nat):(Builtin.zeroCells z n).size=n*z.size:=by simp [Builtin.zeroCells]
theorem d4g {e:TypeId} {sz n m bs:Nat} {z v u:Value} {xs ys zs:List Value} {L':List HP} {pos:String} {aft:Array Edge} {d:Nat} [hT:TU P t (.slice e)] [hZ:TZ P e sz z bs]
    (hx:ev env x=some v) (hy:ev env y=some u) (hp:OwnAt v L e sz n xs L') (hr:RdL L sz u m ys) (hb:(n+m)*bs≤140737488355328) (hl0:n+m≤9223372036854775807) (hz0:Nat.blt 0 sz=true) [hco:CO z zs] (hzl:zs.length=sz) (hd:Nat.blt d N=true) :
    KO P N ⟨some d,.call ⟨.builtin .append,[x,y].toArray,[t,t].toArray⟩,ty,pos,aft,none⟩ env L (e0d env d (n+m) (fun v'=>Own e sz v' (n+m) (xs++ys)::L')):=by
  intro a w ha hw K Q next
  have hl:n+m≤maxLen:=by simp only [maxLen];omega
  have hS:=hp.pf.sat hw
  obtain ⟨h1,h2,h3⟩:=rT hS
  have hyl:=hr.len w hw
  have hyo:=hr.ones w hw
  obtain ⟨i,hi,hpf⟩:=Option.map_eq_some_iff.1 hZ.pf
  simp only [Prod.mk.injEq] at hpf
  obtain ⟨hisz,hiz,hib⟩:=hpf
  have hsz:0<sz:=by simpa using hz0
  have hzs:z.cells.size=sz:=by have:=hco.pf;rw [dA,this];simpa using hzl
  have hxu:∃ p c,u= .slice p m c:=by
    rcases hr.pf w hw with ⟨p,c,h,h'⟩|⟨b,o,c,h,_⟩
    · exact ⟨p,c,by rw [h,h']⟩
    · exact ⟨_,c,h⟩
  have hfx:∀ w':World,w'.heap=w.heap→(Builtin.firstCells sz m u).run P w'= .ok ys.toArray w':=by
    intro w' hh
    rcases hr.pf w hw with ⟨p,c,h,h'⟩|⟨b,o,c,h,hc⟩
    · subst h h'
      have:ys=[]:=List.eq_nil_of_length_eq_zero (by simpa using hyl)
      subst this
      cases p<;>simp [Builtin.firstCells,loadCells,loadCellsFrom]
    · subst h
      simp only [Builtin.firstCells]
      exact fB hyl (fun j v hj=>by
        have:=hc j v hj
        unfold World.cell? at this ⊢
        rw [hh];exact this)
  have run:∃ v' w',(Builtin.append_ #[t,t] ty #[v,u]).run P w= .ok v' w'∧fP (Own e sz v' (n+m) (xs++ys)::L') w':=by
    have h63:((n+m:Nat):Int)≤9223372036854775807:=by have:=hl;simp only [maxLen] at this;omega
    have grow:∀ (base:Option Addr) (old:Nat),v= .slice base n old→(∀ w':World,w'.heap=w.heap→(Builtin.firstCells sz n (.slice base n old)).run P w'= .ok xs.toArray w')→old<n+m→
     ∃ v' w',(Builtin.append_ #[t,t] ty #[v,u]).run P w= .ok v' w'∧fP (Own e sz v' (n+m) (xs++ys)::L') w':=by
      intro base old hv hfo ho
      subst hv
      have hr1:=b4l (P:=P) (w:=w) (ty:=ty) (base:=base) (sLen:=n) (sCap:=old) (olds:=xs) (news:=ys) hT.pf hi hiz hxu (by rw [hisz];exact hfo w.drew rfl) (by rw [hisz];exact hfx w.drew rfl) ho h63 (growslice_fits (om) (by rw [hib];exact hb))
      refine ⟨_,_,hr1,c9x _ rfl (fun h hh=>?_) hS⟩
      have hge:=grownCap_ge w (n+m) old e
      refine ⟨by rw [List.length_append,h1,hyl,Nat.add_mul],by rw [List.all_append,h2,hyo];rfl,.inr ⟨_,_,_,rfl,hh,hge,grownCap_le_maxLen w (n+m) old e hl,?_,?_⟩⟩
      · simp only [Array.size_append,List.size_toArray,a7k,hzs,h1,hyl,←Nat.add_mul]
        congr 1;omega
      · simp only [Array.toList_append,List.append_assoc]
        rw [←List.append_assoc]
        have:(xs++ys).length=(n+m)*sz:=by rw [List.length_append,h1,hyl,Nat.add_mul]
        rw [←this]
        exact List.take_left
    have still:m=0→∀ base c,v= .slice base n c→n≤c→∃ v' w',(Builtin.append_ #[t,t] ty #[v,u]).run P w= .ok v' w'∧fP (Own e sz v' (n+m) (xs++ys)::L') w':=by
      intro hm base c hv hc
      subst hm
      have:ys=[]:=List.eq_nil_of_length_eq_zero (by simpa using hyl)
      subst this
      refine ⟨v,w,?_,by simpa using hS⟩
      rw [hv]
      exact b8e hT.pf hi hxu hc
    by_cases hm:m=0
    · rcases h3 with ⟨p,hv,hn⟩|⟨g,cap,cur,hv,hg,hnc,_⟩
      · exact still hm p 0 (by rw [hv,hn]) (om)
      · exact still hm _ cap hv hnc
    · rcases h3 with ⟨p,hv,hn⟩|⟨g,cap,cur,hv,hg,hnc,hcm,hcs,htake⟩
      · refine grow p 0 (by rw [hv,hn]) (fun w' _=>?_) (om)
        have:xs=[]:=List.eq_nil_of_length_eq_zero (by rw [h1,hn];simp)
        subst this
        subst hn
        cases p<;>simp [Builtin.firstCells,loadCells,loadCellsFrom]
      · by_cases hroom:n+m≤cap
        · have hcur:cur=cur.toList.toArray:=by simp
          have hg':=hg
          rw [hcur] at hg'
          have hcl:cur.toList.length=cap*sz:=by simp [hcs]
          have hfit:n*sz+m*sz≤cap*sz:=by rw [←Nat.add_mul];exact Nat.mul_le_mul_right _ hroom
          obtain ⟨w',r1,r2,r3,r4,r5,r6⟩:=fC (P:=P) g e ys cur.toList (n*sz) 0 w hg' (by rw [hyl,hcl];omega) hyo
          refine ⟨.slice (some ⟨g,0,none⟩) (n+m) cap,w',?_,?_⟩
          · subst hv
            obtain ⟨p,c,rfl⟩:=hxu
            have hadd:(Addr.add ⟨g,0,none⟩ (n*sz))=⟨g,n*sz,none⟩:=d8l g _
            have hf:=hfx w rfl
            simp [Builtin.append_,aE hT.pf,bE hZ,Builtin.lenOf,hroom,hf,hadd,r1]
          · refine c0d (ob:=some g) (nb:=some g) ?_ (fun k _ hk=>r3 k (fun e=>hk (by rw [e]))) (fun k hk=> .inl hk) (fun h hh=>?_) r4 r5 r6 hS
            · intro h hh b hb
              cases hb
              rcases hh.pf with ⟨p,hv',hn'⟩|⟨g',cap',cur',hv',hc',_⟩
              · rw [hv] at hv'
                simp at hv'
                omega
              · rw [hv] at hv'
                simp at hv'
                obtain ⟨rfl,_⟩:=hv'
                exact ⟨_,hc'⟩
            · have hc:=hh g rfl
              rw [r2] at hc
              refine ⟨by rw [List.length_append,h1,hyl,Nat.add_mul],by rw [List.all_append,h2,hyo];rfl,.inr ⟨g,cap,_,rfl,hc,hroom,hcm,?_,?_⟩⟩
              · simp only [Nat.add_zero,List.size_toArray,aQ,List.length_append,List.length_take,List.length_drop,hcl,hyl]
                omega
              · simp only [Nat.add_zero,aQ,htake]
                have:(xs++ys).length=(n+m)*sz:=by rw [List.length_append,h1,hyl,Nat.add_mul]
                rw [←this]
                exact List.take_left
        · refine grow _ cap hv (fun w' hh=>?_) (om)
          simp only [Builtin.firstCells]
          refine fB h1 (fun j v hj=>?_)
          have:=b3i hg htake j v hj
          unfold World.cell? at this ⊢
          rw [hh];exact this
  obtain ⟨v',w',hrun,hsat⟩:=run
  unfold Oper.wp
  have ex:=gU (P:=P) (ρ:=a.eval) (b:= .append) (args:=[x,y]) (ats:=[t,t].toArray) (ty:=ty) (vs:=[v,u]) (by simp [ha.ev hx,ha.ev hy]) (w:=w) (r:= .ok (.value v') w') (fun cs=>by
    simp [builtin,hrun])
  rw [bQ,ex]
  obtain ⟨p',c',rfl⟩:=yN hsat
  exact next _ _ _ _ ⟨p',c',rfl,rfl⟩ (ha.put hd _) hsat
end
end Go.Sx
namespace Go.Sx
open Go
def cut (v:Value) (l h m sz:Nat):Value:=match v with
  | .slice a _ _=> .slice (if m=l then a else a.map (·.add (l*sz))) (h-l) (m-l)
  |v=>v
section
variable {P:Program} {N:Nat} {t ty:TypeId} {x y:Operand} {env:Env} {L:List HP}
inductive Bnd (env:Env):Option Operand→Nat→Nat→Prop
  |none {dflt:Nat}:Bnd env none dflt dflt
  |some {o:Operand} {k:IntKind} {i:Int} {dflt:Nat} (h:ev env o=some (.int k i)) (h0:0≤i):Bnd env (some o) dflt i.toNat
theorem b5h {env:Env} {o:Operand} {k:IntKind} {i dflt:Nat} (h:ev env o=some (.int k (i:Int))):Bnd env (some o) dflt i:=by
  have:=Bnd.some (dflt:=dflt) h (om)
  simpa using this
theorem fU {w:World} {k:IntKind} {i:Int} {y:Nat} {code:BoundsCode} (h0:0≤i) (h1:i.toNat≤y):(Instr.sliceBound (.int k i) y code).run P w= .ok i.toNat w:=by
  have:i≤y:=by omega
  simp [Instr.sliceBound,asIntOf,h0,this]
theorem c6u {e:TypeId} {lo hi mx:Option Operand} {l h m n c:Nat} {p:Option Addr} {sz bs:Nat} {z:Value} [hT:TU P t (.slice e)] [hZ:TZ P e sz z bs] (hx:ev env x=some (.slice p n c))
    (hl:Bnd env lo 0 l) (hh:Bnd env hi n h) (hm:Bnd env mx c m) (hmx:mx.isSome=true→hi.isSome=true) (h1:l≤h) (h2:h≤m) (h3:m≤c) :
    V P N (.slice t x lo hi mx) ty env L (cut (.slice p n c) l h m sz):=by
  intro a w ha hw
  have e1:(Instr.sliceAt t (.slice p n c) (lo.map a.eval) (hi.map a.eval) (mx.map a.eval)).run P w= .ok (cut (.slice p n c) l h m sz) w:=by
    simp only [Instr.sliceAt,Sem.run_bind,aE hT.pf,Result.andThen_ok,Instr.slice,Instr.sliceBounds]
    cases hm with
    |none=>
     cases hh with
     |none=>
      cases hl with
      |none=>simp [bE hZ,cut]
      |some q q0=>simp [ha.ev q,fU q0 h1,bE hZ,cut]
     |some r r0=>
      cases hl with
      |none=>simp [ha.ev r,fU r0 h2,bE hZ,cut]
      |some q q0=>simp [ha.ev q,ha.ev r,fU r0 h2,fU q0 h1,bE hZ,cut]
    |some s s0=>
     cases hh with
     |none=>simp at hmx
     |some r r0=>
      cases hl with
      |none=>simp [ha.ev r,ha.ev s,fU s0 h3,fU r0 h2,bE hZ,cut]
      |some q q0=>simp [ha.ev q,ha.ev r,ha.ev s,fU s0 h3,fU r0 h2,fU q0 h1,bE hZ,cut]
  simp [execOp,ha.ev hx,e1]
theorem yO {e len:TypeId} {lo hi:Option Operand} {l h:Nat} {b o:Nat} {sz bs:Nat} {z:Value} [hT:TU P t (.array len e)] [hZ:TZ P e sz z bs] (hx:ev env x=some (.pointer (some ⟨b,o,none⟩)))
    (hl:Bnd env lo 0 l) (hh:Bnd env hi len h) (h1:l≤h) (h2:h≤len) :
    V P N (.slice t x lo hi none) ty env L (cut (.slice (some ⟨b,o,none⟩) len len) l h len sz):=by
  intro a w ha hw
  have e1:(Instr.sliceAt t (.pointer (some ⟨b,o,none⟩)) (lo.map a.eval) (hi.map a.eval) none).run P w= .ok (cut (.slice (some ⟨b,o,none⟩) len len) l h len sz) w:=by
    have hcut:cut (.slice (some ⟨b,o,none⟩) len len) l h len sz= .slice (some (if len=l then ⟨b,o,none⟩ else (⟨b,o,none⟩:Addr).add (l*sz))) (h-l) (len-l):=by
      simp only [cut];congr 1;split<;>simp
    rw [hcut]
    simp only [Instr.sliceAt,Sem.run_bind,aE hT.pf,Result.andThen_ok,Instr.sureAddr,Instr.sliceBounds]
    cases hh with
      |none=>
       cases hl with
       |none=>simp [bE hZ]
       |some q q0=>simp [ha.ev q,fU q0 h1,bE hZ]
      |some r r0=>
       cases hl with
       |none=>simp [ha.ev r,fU r0 h2,bE hZ]
       |some q q0=>simp [ha.ev q,ha.ev r,fU r0 h2,fU q0 h1,bE hZ]
  simp [execOp,ha.ev hx,e1]
theorem RdL.cut {sz n l h m:Nat} {v:Value} {xs:List Value} (k:RdL L sz v n xs) (h1:l≤h) (h2:h≤n) (h3:h≤m):RdL L sz (cut v l h m sz) (h-l) ((xs.drop (l*sz)).take ((h-l)*sz)):=by
  refine ⟨fun w hw=>?_,fun w hw=>?_,fun w hw=>?_⟩
  · have:=k.len w hw
    have e:(h-l)*sz+l*sz≤n*sz:=by rw [←Nat.add_mul];exact Nat.mul_le_mul_right _ (om)
    simp;omega
  · have:=k.ones w hw
    rw [List.all_eq_true] at this ⊢
    exact fun u hu=>this u (List.mem_of_mem_drop (List.mem_of_mem_take hu))
  · by_cases hq:h=l
    · left
      subst hq
      rcases k.pf w hw with ⟨p,c,rfl,rfl⟩|⟨b,o,c,rfl,_⟩<;>exact ⟨_,_,by simp [Sx.cut];exact ⟨rfl,rfl⟩,om⟩
    · rcases k.pf w hw with ⟨p,c,rfl,rfl⟩|⟨b,o,c,rfl,hc⟩
      · omega
      · right
        have hadd:(Addr.add ⟨b,o,none⟩ (l*sz))=⟨b,o+l*sz,none⟩:=by unfold Addr.add;split<;>simp_all
        refine ⟨b,o+l*sz,m-l,?_,fun j u hj=>?_⟩
        · simp only [Sx.cut,if_neg (show ¬m=l by omega),Option.map_some,hadd]
        · rw [List.getElem?_take] at hj
          split at hj
          · rw [List.getElem?_drop] at hj
            have:=hc _ _ hj
            rwa [←Nat.add_assoc] at this
          · simp at hj
theorem wZ {b o m c sz:Nat} {T:TypeId} {l:List Value} {C:List Value→List HP} (k:CellsAt b L T l C) (h:o+m*sz≤l.length) (h1:((l.drop o).take (m*sz)).all one=true) :
    RdL L sz (.slice (some ⟨b,o,none⟩) m c) m ((l.drop o).take (m*sz)):=by
  refine ⟨fun w hw=>by simp;omega,fun w hw=>h1,fun w hw=> .inr ⟨b,o,c,rfl,fun j u hj=>?_⟩⟩
  rw [fX (gR k hw)]
  rw [List.getElem?_take] at hj
  split at hj
  · rwa [List.getElem?_drop] at hj
  · simp at hj
theorem qS {p:Option Addr} {c sz:Nat}:RdL L sz (.slice p 0 c) 0 []:=⟨fun _ _=>by simp,fun _ _=>rfl,fun _ _=> .inl ⟨p,c,rfl,rfl⟩⟩
theorem a1n {e:TypeId} {sz:Nat} {v:Value} {n:Nat} {xs:List Value} {w:World} (H:fP (Own e sz v n xs::L) w) :
    xs.length=n*sz∧xs.all one=true∧((∃ p,v= .slice p 0 0∧n=0∧xs=[])∨∃ g cap spare,v= .slice (some ⟨g,0,none⟩) n cap∧n≤cap∧cap≤maxLen∧spare.length=(cap-n)*sz∧fP (Cells g e (xs++spare)::L) w):=by
  obtain ⟨h1,h2,_⟩:=rT H
  refine ⟨h1,h2,?_⟩
  obtain ⟨S,T,d,hp,hL⟩:=H
  rcases hp.pf with ⟨p,a,b⟩|⟨g,cap,cur,a,b,c,d1,e1,f⟩
  · exact .inl ⟨p,a,b,List.eq_nil_of_length_eq_zero (by rw [h1,b];simp)⟩
  · have hcl:cur.toList.length=cap*sz:=by simp [e1]
    have hnc:n*sz≤cap*sz:=Nat.mul_le_mul_right _ c
    refine .inr ⟨g,cap,cur.toList.drop (n*sz),a,c,d1,by rw [List.length_drop,hcl,Nat.sub_mul],S,T,d,⟨?_⟩,hL⟩
    rw [b]
    congr 2
    apply Array.ext'
    simp only [←f,List.take_append_drop]
theorem b1m {e:TypeId} {sz:Nat} {v:Value} {n:Nat} {xs:List Value} {c:Code} {Q:Exit→Act→World→Prop} (h0:xs.length=n*sz→xs.all one=true→∀ p,v= .slice p 0 0→n=0→xs=[]→WC P N c env (Own e sz v n xs::L) Q)
    (h1:xs.length=n*sz→xs.all one=true→∀ g cap spare,v= .slice (some ⟨g,0,none⟩) n cap→n≤cap→cap≤maxLen→spare.length=(cap-n)*sz→WC P N c env (Cells g e (xs++spare)::L) Q):WC P N c env (Own e sz v n xs::L) Q:=by
  intro a w ha hw
  obtain ⟨k1,k2,⟨p,a1,a2,a3⟩|⟨g,cap,spare,b1,b2,b3,b4,b5⟩⟩:=a1n hw
  · exact h0 k1 k2 p a1 a2 a3 a w ha hw
  · exact h1 k1 k2 g cap spare b1 b2 b3 b4 a w ha b5
theorem aO {e:TypeId} {sz:Nat} {p:Option Addr} {M:List HP} (h:Ent L M):Ent L (Own e sz (.slice p 0 0) 0 []::M):=fun hh H=>by
  refine ⟨fun _=>False,fun _=>True,fun _ a _=>a,⟨by simp,rfl,.inl ⟨p,rfl,rfl⟩⟩,?_⟩
  have:res hh (fun _=>True)=hh:=by unfold res;simp
  rw [this];exact h _ H
theorem mL {e:TypeId} {sz g n cap:Nat} {l xs:List Value} {M:List HP} (hl:l.length=cap*sz) (hc:n≤cap) (hm:cap≤maxLen) (hx:l.take (n*sz)=xs) (h1:xs.all one=true) (h:Ent L M) :
    Ent (Cells g e l::L) (Own e sz (.slice (some ⟨g,0,none⟩) n cap) n xs::M):=fun hh H=>by
  obtain ⟨S,T,d,hp,hL⟩:=H
  refine ⟨S,T,d,⟨?_,h1,.inr ⟨g,cap,l.toArray,rfl,hp.pf,hc,hm,by simpa using hl,by simpa using hx⟩⟩,h _ hL⟩
  subst hx
  have:n*sz≤cap*sz:=Nat.mul_le_mul_right _ hc
  simp;omega
theorem vX {e:TypeId} {g T n m cap sz bs:Nat} {z u:Value} {l ys l':List Value} {C:List Value→List HP} {pos:String} {aft:Array Edge} {d:Nat} [hT:TU P t (.slice e)] [hZ:TZ P e sz z bs]
    (hx:ev env x=some (.slice (some ⟨g,0,none⟩) n cap)) (hy:ev env y=some u) (k:CellsAt g L T l C) (hr:RdL L sz u m ys) (hroom:n+m≤cap) (hfit:n*sz+m*sz≤l.length) (hd:Nat.blt d N=true) (hl:aQ l (n*sz) ys=l') :
    KO P N ⟨some d,.call ⟨.builtin .append,[x,y].toArray,[t,t].toArray⟩,ty,pos,aft,none⟩ env L (a4u ((d,.slice (some ⟨g,0,none⟩) (n+m) cap)::env) (C l')):=by
  subst hl
  intro a w ha hw K Q next
  obtain ⟨R,k1,k2⟩:=k.pf
  have hs:=k1.sat hw
  have hh:=oF hs
  have hyl:=hr.len w hw
  have hyo:=hr.ones w hw
  have hxu:∃ p c,u= .slice p m c:=by
    rcases hr.pf w hw with ⟨p,c,h,h'⟩|⟨b,o,c,h,_⟩
    · exact ⟨p,c,by rw [h,h']⟩
    · exact ⟨_,c,h⟩
  have hf:(Builtin.firstCells sz m u).run P w= .ok ys.toArray w:=by
    rcases hr.pf w hw with ⟨p,c,h,h'⟩|⟨b,o,c,h,hc⟩
    · subst h h'
      have:ys=[]:=List.eq_nil_of_length_eq_zero (by simpa using hyl)
      subst this
      cases p<;>simp [Builtin.firstCells,loadCells,loadCellsFrom]
    · subst h
      simp only [Builtin.firstCells]
      exact fB hyl hc
  obtain ⟨w',r1,r2,r3,r4,r5,r6⟩:=fC (P:=P) g T ys l (n*sz) 0 w hh (by rw [hyl];omega) hyo
  have hrun:(Builtin.append_ #[t,t] ty #[.slice (some ⟨g,0,none⟩) n cap,u]).run P w= .ok (.slice (some ⟨g,0,none⟩) (n+m) cap) w':=by
    obtain ⟨p,c,rfl⟩:=hxu
    have hadd:(Addr.add ⟨g,0,none⟩ (n*sz))=⟨g,n*sz,none⟩:=d8l g _
    simp [Builtin.append_,aE hT.pf,bE hZ,Builtin.lenOf,hroom,hf,hadd,r1]
  unfold Oper.wp
  have ex:=gU (P:=P) (ρ:=a.eval) (b:= .append) (args:=[x,y]) (ats:=[t,t].toArray) (ty:=ty) (vs:=[.slice (some ⟨g,0,none⟩) n cap,u]) (by simp [ha.ev hx,ha.ev hy]) (w:=w) (r:= .ok (.value (.slice (some ⟨g,0,none⟩) (n+m) cap)) w') (fun cs=>by
    simp [builtin,hrun])
  rw [bQ,ex]
  refine next _ _ _ _ ⟨rfl,rfl⟩ (ha.put hd _) ((k2 _).sat ?_)
  exact rY (b:=g) (Cells g T (aQ l (n*sz) ys)) (fun h hp=>⟨_,hp.pf⟩) (fun h e=>⟨e⟩) (by simpa using r2) r3 r4 r5 r6 hs
theorem pK (zs:List Value) (n sz:Nat) (h:zs.length=sz):(Builtin.zeroCells zs.toArray n).toList=(List.replicate n zs).flatten:=by
  subst h
  induction n with
  |zero=>simp [Builtin.zeroCells]
  |succ n ih=>
   rw [List.replicate_succ',List.flatten_append,←ih]
   simp only [Builtin.zeroCells,List.size_toArray,Array.toList_map,Array.toList_range,Nat.succ_mul,List.range_add,List.map_append,List.map_map]
   congr 1
   simp only [List.flatten_cons,List.flatten_nil,List.append_nil]
   apply List.ext_getElem
   · simp
   · intro i h1 h2
     simp at h1
     simp [Nat.mod_eq_of_lt h1,h1]
theorem b5i {e:TypeId} {g o T m c sz bs:Nat} {z:Value} {zs l l':List Value} {C:List Value→List HP} {pos:String} {aft:Array Edge} {d:Option Nat} {ats:List TypeId} [hT:TU P t (.slice e)] [hZ:TZ P e sz z bs] [hco:CO z zs] (hzl:zs.length=sz) (hz1:zs.all one=true)
    (hx:ev env x=some (.slice (some ⟨g,o,none⟩) m c)) (k:CellsAt g L T l C) (hfit:o+m*sz≤l.length) (hd:xX N d=true) (hl:aQ l o (List.replicate m zs).flatten=l') :
    KO P N ⟨d,.call ⟨.builtin .clear,[x].toArray,(t::ats).toArray⟩,ty,pos,aft,none⟩ env L (a4u (rM env d (.tuple #[])) (C l')):=by
  subst hl
  intro a w ha hw K Q next
  obtain ⟨R,k1,k2⟩:=k.pf
  have hs:=k1.sat hw
  have hh:=oF hs
  have hlen:(List.replicate m zs).flatten.length=m*sz:=by simp [hzl]
  have hone:(List.replicate m zs).flatten.all one=true:=by
    rw [List.all_eq_true]
    intro u hu
    simp only [List.mem_flatten,List.mem_replicate] at hu
    obtain ⟨_,⟨_,rfl⟩,hu⟩:=hu
    exact List.all_eq_true.1 hz1 u hu
  obtain ⟨w',r1,r2,r3,r4,r5,r6⟩:=fC (P:=P) g T (List.replicate m zs).flatten l o 0 w hh (by rw [hlen];omega) hone
  have ez:z.cells=zs.toArray:=by rw [dA,hco.pf]
  have hrun:(Builtin.clear_ (t::ats).toArray ty #[.slice (some ⟨g,o,none⟩) m c]).run P w= .ok (.tuple #[]) (if m=0 then w else w'):=by
    by_cases hm:m=0
    · subst hm
      simp [Builtin.clear_,aE hT.pf]
    · have hq:∀ (α:Type) (A B:α),(match m with|0=>A|_+1=>B)=B:=by intro α A B;cases m with|zero=>exact absurd rfl hm|succ _=>rfl
      obtain ⟨m,rfl⟩:∃ k,m=k+1:=⟨m-1,om⟩
      have ezl:=pK zs (m+1) sz hzl
      simp [Builtin.clear_,aE hT.pf,f8 hZ,ez,ezl,r1]
  unfold Oper.wp
  have ex:=gU (P:=P) (ρ:=a.eval) (b:= .clear) (args:=[x]) (ats:=(t::ats).toArray) (ty:=ty) (vs:=[.slice (some ⟨g,o,none⟩) m c]) (by simp [ha.ev hx]) (w:=w) (r:= .ok (.value (.tuple #[])) (if m=0 then w else w')) (fun cs=>by
    simp [builtin,hrun])
  rw [bQ,ex]
  refine next _ _ _ _ ⟨rfl,rfl⟩ (ha.puts hd _) ((k2 _).sat ?_)
  by_cases hm:m=0
  · subst hm
    simpa [aQ] using hs
  · rw [if_neg hm]
    exact rY (b:=g) (Cells g T (aQ l o (List.replicate m zs).flatten)) (fun h hp=>⟨_,hp.pf⟩) (fun h e=>⟨e⟩) (by simpa using r2) r3 r4 r5 r6 hs
theorem a4j {e:TypeId} {sz n k m bs:Nat} {z v u:Value} {xs cs:List Value} {L':List HP} {pos:String} {aft:Array Edge} [hZ:TZ P t m z bs]
    (hx:ev env x=some (.pointer (some ⟨pb v,po v+k,none⟩))) (hy:ev env y=some u) (hp:OwnAt v L e sz n xs L') (hc:CO u cs) (hn:cs.length=m) (h1:cs.all one=true) (hk:k+m≤n*sz) (hm:0<m) :
    KO P N ⟨none,.store t x y,ty,pos,aft,none⟩ env L (a4u env (Own e sz v n (aQ xs k cs)::L')):=by
  intro a w ha hw K Q next
  have hS:=hp.pf.sat hw
  obtain ⟨q1,q2,⟨p,a1,a2,a3⟩|⟨g,cap,spare,b1,b2,b3,b4,b5⟩⟩:=a1n hS
  · subst a2;simp at hk;omega
  · subst b1
    have hh:=oF b5
    have hnc:n*sz≤cap*sz:=Nat.mul_le_mul_right _ b2
    have hlen:(xs++spare).length=cap*sz:=by rw [List.length_append,q1,b4,Nat.sub_mul];omega
    obtain ⟨w',r1,r2,r3,r4,r5,r6⟩:=fC (P:=P) g e cs (xs++spare) k 0 w hh (by rw [hlen];omega) h1
    have run:(execOp a.eval ⟨none,.store t x y,ty, "", #[],none⟩).run P w= .ok .skip w':=by
      have e':u.cells.toList=cs:=by rw [dA];simpa using hc.pf
      have e2:u.cells.size=m:=by rw [dA];simp [hc.pf,hn]
      have hx':=ha.ev hx
      simp only [pb,po,Nat.zero_add] at hx'
      simp [execOp,hx',ha.ev hy,Instr.storeAt,Instr.sureAddr,storeVar,bE hZ,e2,e',r1]
    unfold Oper.wp
    rw [bQ,run]
    refine next _ _ a w' ⟨rfl,rfl⟩ ha ?_
    have hsat:fP (Cells g e (aQ (xs++spare) k cs)::L') w':=rY (b:=g) _ (fun h hp=>⟨_,hp.pf⟩) (fun h e=>⟨e⟩) (by simpa using r2) r3 r4 r5 r6 b5
    have hsp:aQ (xs++spare) k cs=aQ xs k cs++spare:=by
      unfold aQ
      rw [List.take_append_of_le_length (om),List.drop_append_of_le_length (om)]
      simp [List.append_assoc]
    have hsl:(aQ xs k cs).length=n*sz:=by unfold aQ;simp;omega
    refine (mL (n:=n) (cap:=cap) (xs:=aQ xs k cs) ?_ b2 b3 ?_ ?_ Ent.refl).sat hsat
    · rw [hsp,List.length_append,hsl,b4,Nat.sub_mul];omega
    · rw [hsp,List.take_append_of_le_length (om),List.take_of_length_le (om)]
    · unfold aQ
      rw [List.all_append,List.all_append,h1,List.all_eq_true.2 fun u hu=>List.all_eq_true.1 q2 u (List.mem_of_mem_take hu),List.all_eq_true.2 fun u hu=>List.all_eq_true.1 q2 u (List.mem_of_mem_drop hu)]
      rfl
theorem b4m {e:TypeId} {sz n k j m bs:Nat} {z v u:Value} {xs cs:List Value} {L':List HP} {pos:String} {aft:Array Edge} [hZ:TZ P t m z bs]
    (hx:ev env x=some (.pointer (some ⟨pb v,po v+k+j,none⟩))) (hy:ev env y=some u) (hp:OwnAt v L e sz n xs L') (hc:CO u cs) (hn:cs.length=m) (h1:cs.all one=true) (hk:k+j+m≤n*sz) (hm:0<m) :
    KO P N ⟨none,.store t x y,ty,pos,aft,none⟩ env L (a4u env (Own e sz v n (aQ xs (k+j) cs)::L')):=
  a4j (k:=k+j) (by rw [hx,Nat.add_assoc]) hy hp hc hn h1 hk hm
theorem b6w {sz n:Nat} {v:Value} {xs:List Value} {c:Code} {Q:Exit→Act→World→Prop} (k:RdL L sz v n xs) (h:xs.length=n*sz→xs.all one=true→∀ p c0,v= .slice p n c0→(p=none→n=0)→WC P N c env L Q):WC P N c env L Q:=by
  intro a w ha hw
  rcases k.pf w hw with ⟨p,c0,h1,h2⟩|⟨b,o,c0,h1,_⟩
  · exact h (k.len w hw) (k.ones w hw) p c0 (by rw [h1,h2]) (fun _=>h2) a w ha hw
  · exact h (k.len w hw) (k.ones w hw) _ c0 h1 (fun h=>nomatch h) a w ha hw
def b6x:Value→Bool
  | .int .. | .float .. | .complex .. | .string .. =>false
  |_=>true
theorem a2l {xt yt:TypeId} {a b:Value} {r:Bool} (hx:ev env x=some a) (hy:ev env y=some b) (he:∀ w,(Op.equalIn (9999+1) xt a b).run P w= .ok r w) (hg:∀ w,(eqGuard .eql xt x y a b).run P w= .ok () w)
    (ha:b6x a=true):V P N (.binOp .eql xt x y yt) ty env L (.bool r):=by
  intro f w hA _
  have h:(Op.equal xt a b).run P w= .ok r w:=he w
  have hgw:=hg w
  cases a<;>first|(simp [b6x] at ha;done)|simp [execOp,hA.ev hx,hA.ev hy,hgw,binOp,h]
theorem b0a {xt yt:TypeId} {a b:Value} {r:Bool} (hx:ev env x=some a) (hy:ev env y=some b) (he:∀ w,(Op.equalIn (9999+1) xt a b).run P w= .ok r w) (hg:∀ w,(eqGuard .neq xt x y a b).run P w= .ok () w)
    (ha:b6x a=true):V P N (.binOp .neq xt x y yt) ty env L (.bool !r):=by
  intro f w hA _
  have h:(Op.equal xt a b).run P w= .ok r w:=he w
  have hgw:=hg w
  cases a<;>first|(simp [b6x] at ha;done)|simp [execOp,hA.ev hx,hA.ev hy,hgw,binOp,h]
section
variable {xt yt e:TypeId}
theorem c0e (d:Nat) (hT:TU P xt (.slice e)) (p:Option Addr) (n c:Nat) (w:World):(Op.equalIn (d+1) xt (.slice p n c) (.slice none 0 0)).run P w= .ok p.isNone w:=by
  cases p<;>simp only [Op.equalIn,Sem.run_bind,aE hT.pf,Result.andThen_ok,Sem.run_pure]<;>rfl
theorem c2w [hT:TU P xt (.slice e)] {n c:Nat} (hx:ev env x=some (.slice none n c)) (hy:ev env y=some (.slice none 0 0)):V P N (.binOp .eql xt x y yt) ty env L (.bool true):=
  a2l hx hy (fun w=>c0e 9999 hT _ _ _ w) (fun w=>by unfold eqGuard;simp) rfl
theorem c2x [hT:TU P xt (.slice e)] {a:Addr} {n c:Nat} (hx:ev env x=some (.slice (some a) n c)) (hy:ev env y=some (.slice none 0 0)):V P N (.binOp .eql xt x y yt) ty env L (.bool false):=
  a2l hx hy (fun w=>c0e 9999 hT _ _ _ w) (fun w=>by unfold eqGuard;simp) rfl
theorem b6y (d:Nat) (hT:TU P xt (.pointer e)) (p:Option Addr) (w:World):(Op.equalIn (d+1) xt (.pointer p) (.pointer none)).run P w= .ok p.isNone w:=by
  cases p<;>simp only [Op.equalIn,Sem.run_bind,aE hT.pf,Result.andThen_ok,Sem.run_pure]<;>rfl
theorem c2y [hT:TU P xt (.pointer e)] (hx:ev env x=some (.pointer none)) (hy:ev env y=some (.pointer none)):V P N (.binOp .eql xt x y yt) ty env L (.bool true):=
  a2l hx hy (fun w=>b6y 9999 hT _ w) (fun w=>by unfold eqGuard;simp) rfl
theorem c2z [hT:TU P xt (.pointer e)] {a:Addr} (hx:ev env x=some (.pointer (some a))) (hy:ev env y=some (.pointer none)):V P N (.binOp .eql xt x y yt) ty env L (.bool false):=
  a2l hx hy (fun w=>b6y 9999 hT _ w) (fun w=>by unfold eqGuard;simp) rfl
theorem c3a [hT:TU P xt (.pointer e)] (hx:ev env x=some (.pointer none)) (hy:ev env y=some (.pointer none)):V P N (.binOp .neq xt x y yt) ty env L (.bool false):=
  b0a hx hy (fun w=>b6y 9999 hT _ w) (fun w=>by unfold eqGuard;simp) rfl
theorem c3b [hT:TU P xt (.pointer e)] {a:Addr} (hx:ev env x=some (.pointer (some a))) (hy:ev env y=some (.pointer none)):V P N (.binOp .neq xt x y yt) ty env L (.bool true):=
  b0a hx hy (fun w=>b6y 9999 hT _ w) (fun w=>by unfold eqGuard;simp) rfl
end
theorem d4h {e:TypeId} {sz b:Nat} {M:List HP} (h:Ent L M):Ent (Cells b e []::L) (Own e sz (.slice (some ⟨b,0,none⟩) 0 0) 0 []::M):=aO (Ent.drop h)
theorem s5 {b m c sz:Nat} {T:TypeId} {l:List Value} {C:List Value→List HP} (k:CellsAt b L T l C) (h:l.length=m*sz) (h1:l.all one=true):RdL L sz (.slice (some ⟨b,0,none⟩) m c) m l:=by
  have:=wZ (o:=0) (m:=m) (c:=c) (sz:=sz) k (om) (by rw [List.drop_zero,List.take_of_length_le (om)];exact h1)
  rw [List.drop_zero,List.take_of_length_le (om)] at this
  exact this
theorem b1n {e:TypeId} {sz bs:Nat} {z:Value} {zs:List Value} {pos:String} {aft:Array Edge} {d:Nat} [hT:TU P t (.slice e)] [hE:TZ P e sz z bs] [hco:CO z zs] (hzl:zs.length=sz) (hd:Nat.blt d N=true) :
    KO P N ⟨some d,.buildSlice t 0 #[],ty,pos,aft,none⟩ env L (a1w env d (fun b=> .slice (some ⟨b,0,none⟩) 0 0) (fun b=>Own e sz (.slice (some ⟨b,0,none⟩) 0 0) 0 []::L)):=by
  intro a w ha hw K Q next
  refine b2k (P:=P) (o:= .cells #[] e (0,0)) (q:=fun b=>Cells b e []) (v:=fun b=> .slice (some ⟨b,0,none⟩) 0 0) (fun b h e=>⟨e⟩) ?_ hd a w ha hw K Q ?_
  · intro a w ha _
    have hl:¬((0:Nat)>2^24):=by omega
    simp [execOp,Instr.buildSlice,aE hT.pf,bE hE,Instr.fill,newRow]
    congr 2
    apply Array.ext'
    simp [Array.toList_range]
  · rintro _ _ a' w' ⟨b,rfl,rfl⟩ ha' hw'
    exact next _ _ _ _ ⟨b,rfl,rfl⟩ ha' ((d4h Ent.refl).sat hw')
theorem uY {a:Addr} {n c i m sz:Nat}:cut (.slice (some a) n c) 0 i m sz= .slice (some a) i m:=by
  have:a.add 0=a:=by cases a with|mk b o s=>cases s<;>simp [Addr.add]
  simp [cut,this]
theorem o9 {g o n c l h m sz:Nat} (hm:m≠l):cut (.slice (some ⟨g,o,none⟩) n c) l h m sz= .slice (some ⟨g,o+l*sz,none⟩) (h-l) (m-l):=by
  have hadd:(Addr.add ⟨g,o,none⟩ (l*sz))=⟨g,o+l*sz,none⟩:=by unfold Addr.add;split<;>simp_all
  simp [cut,hm,hadd]
theorem a6g {e len:TypeId} {b o:Nat} {sz bs:Nat} {z:Value} [hT:TU P t (.array len e)] [hZ:TZ P e sz z bs] (hx:ev env x=some (.pointer (some ⟨b,o,none⟩))) :
    V P N (.slice t x none none none) ty env L (.slice (some ⟨b,o,none⟩) len len):=by
  have:=yO (P:=P) (N:=N) (ty:=ty) (L:=L) (t:=t) (lo:=none) (hi:=none) hx Bnd.none Bnd.none (Nat.zero_le _) (Nat.le_refl _)
  rwa [uY] at this
theorem a7l {g n cap sz:Nat} {T:TypeId} {xs spare:List Value} {C:List Value→List HP} (k:CellsAt g L T (xs++spare) C) (h:xs.length=n*sz) (h1:xs.all one=true):RdL L sz (.slice (some ⟨g,0,none⟩) n cap) n xs:=by
  have hx:((xs++spare).drop 0).take (n*sz)=xs:=by rw [List.drop_zero,List.take_append_of_le_length (om),List.take_of_length_le (om)]
  have:=wZ (o:=0) (m:=n) (c:=cap) (sz:=sz) k (by simp;omega) (by rw [hx];exact h1)
  rwa [hx] at this
theorem q8 {l ys:List Value} {o:Nat} (h:o≤l.length):(aQ l o ys).take (o+ys.length)=l.take o++ys:=by
  unfold aQ
  rw [List.take_append,List.take_of_length_le (by simp;omega)]
  simp;omega
theorem vQ {l ys:List Value} {o k:Nat} (h:o≤l.length) (hk:k≤o):(aQ l o ys).take k=l.take k:=by
  unfold aQ
  rw [List.append_assoc,List.take_append_of_le_length (by simp;omega),List.take_take,Nat.min_eq_left hk]
theorem cL {l ys:List Value} {o:Nat} (h:o+ys.length≤l.length):(aQ l o ys).length=l.length:=by
  unfold aQ;simp;omega
theorem aX (A:HP) {L':List HP} [k:Pick A L L'] {all:Array Oper} {c:List Oper} {Q:Exit→Act→World→Prop} (h:WO P N all c env (A::L') Q):WO P N all c env L Q:=n6 k.pf h
theorem aY (A:HP) {L':List HP} [k:Pick A L L'] {c:Code} {Q:Exit→Act→World→Prop} (h:WC P N c env (A::L') Q):WC P N c env L Q:=fun a w ha hw=>h a w ha (k.pf.sat hw)
theorem aZ (A:HP) {L':List HP} [k:Pick A L L'] {e:Exit} {Q:Exit→Act→World→Prop} (h:WE N e env (A::L') Q):WE N e env L Q:=fun a w ha hw=>h a w ha (k.pf.sat hw)
theorem yP {L':List HP} {c:Code} {Q:Exit→Act→World→Prop} (e:Ent L L') (h:WC P N c env L' Q):WC P N c env L Q:=fun a w ha hw=>h a w ha (e.sat hw)
theorem yQ {L':List HP} {x:Exit} {Q:Exit→Act→World→Prop} (e:Ent L L') (h:WE N x env L' Q):WE N x env L Q:=fun a w ha hw=>h a w ha (e.sat hw)
theorem b5j {ι:Type} (E:ι→Env) (H:ι→List HP) (I:ι→Prop) {c:Code} {Q:Exit→Act→World→Prop} {G:Prop}
    (main:(∀ j env L,I j→Sub (E j) env→Ent L (H j)→WC P N c env L Q)→G) (tail:∀ j,I j→WC P N c (E j) (H j) Q):G:=
  main fun j env L hi hs he a w ha hw=>tail j hi a w (ha.sub hs) (he.sat hw)
section
variable {xt yt:TypeId} {p:Prop} {inst:Decidable p}
end
def c3c (v:Value) (n:Nat):Prop:=∃ b o c,v= .slice (some ⟨b,o,none⟩) n c
theorem c6v {sz n:Nat} {v:Value} {xs:List Value} (k:RdL L sz v n xs) (hn:0<n) {w:World} (hw:fP L w):c3c v n:=by
  rcases k.pf w hw with ⟨p,c,h1,h2⟩|⟨b,o,c,h1,_⟩
  · omega
  · exact ⟨b,o,c,h1⟩
theorem fJ (v:Value) {sz n:Nat} {xs:List Value} (k:RdL L sz v n xs) (hn:0<n) {all:Array Oper} {c:List Oper} {Q:Exit→Act→World→Prop} (h:c3c v n→WO P N all c env L Q):WO P N all c env L Q:=fun a w ha hw=>h (c6v k hn hw) a w ha hw
theorem fM (v:Value) {sz n:Nat} {xs:List Value} (k:RdL L sz v n xs) (hn:0<n) {c:Code} {Q:Exit→Act→World→Prop} (h:c3c v n→WC P N c env L Q):WC P N c env L Q:=fun a w ha hw=>h (c6v k hn hw) a w ha hw
theorem vR {e:TypeId} {i:Int} {k:IntKind} {n sz bs:Nat} {z v:Value} [hT:TU P t (.slice e)] [hZ:TZ P e sz z bs] (hx:ev env x=some v) (hs:c3c v n) (hy:ev env y=some (.int k i))
    (h0:0≤i) (h1:i<(n:Int)):V P N (.indexAddr t x y) ty env L (.pointer (some ⟨pb v,po v+i.toNat*sz,none⟩)):=by
  intro a w ha hw
  obtain ⟨b,o,c,rfl⟩:=hs
  have hadd:(Addr.add ⟨b,o,none⟩ (i.toNat*sz))=⟨b,o+i.toNat*sz,none⟩:=by unfold Addr.add;split<;>simp_all
  simp [execOp,ha.ev hx,ha.ev hy,Instr.indexAt,asIntOf,aE hT.pf,h0,h1,bE hZ,hadd,pb,po]
theorem a5g {e:TypeId} {i:Nat} {k:IntKind} {n sz bs:Nat} {z v:Value} [hT:TU P t (.slice e)] [hZ:TZ P e sz z bs] (hx:ev env x=some v) (hs:c3c v n) (hy:ev env y=some (.int k (i:Int)))
    (h1:i<n):V P N (.indexAddr t x y) ty env L (.pointer (some ⟨pb v,po v+i*sz,none⟩)):=by
  have:=vR (P:=P) (N:=N) (ty:=ty) (t:=t) (L:=L) (hT:=hT) (hZ:=hZ) hx hs hy (om) (om)
  simpa using this
end
end Go.Sx
