/- Slices: those that a call owns, those that it only reads, and what is done to them. My own work; names no program. -/
import Derived.Laws.AppendOwn
import Derived.Test.YtjihlpjnebdiiabGreatSx
set_option linter.unusedVariables false
set_option linter.unusedSectionVars false
set_option linter.unusedSimpArgs false
namespace Go.Sx
open Go
theorem je {p:Prop} {inst:Decidable p} (h:p):@decide p inst=true:=decide_eq_true h
theorem jg {p:Prop} {inst:Decidable p} (h:¬p):@decide p inst=false:=decide_eq_false h
structure aT (e:TypeId) (sz:Nat) (v:Value) (n:Nat) (xs:List Value) (h:PH):Prop where
  len:xs.length=n*sz
  q7:xs.all one=true
  pf:(∃ p,v= .slice p 0 0∧n=0)∨∃ g cap pd,v= .slice (some ⟨g,0,none⟩) n cap∧h.c g=some (.cells pd e (0,0))∧n≤cap∧cap≤maxLen∧pd.size=cap*sz∧pd.toList.take (n*sz)=xs
def pb:Value→Nat
  | .slice (some a) _ _=>a.block
  |_=>0
def po:Value→Nat
  | .slice (some a) _ _=>a.off
  |_=>0
class bN (L:List HP) (sz:outParam Nat) (v:Value) (n:outParam Nat) (xs:outParam (List Value)):Prop where
  len:∀ w,Sat L w→xs.length=n*sz
  q7:∀ w,Sat L w→xs.all one=true
  pf:∀ w,Sat L w→(∃ p c,v= .slice p 0 c∧n=0)∨∃ b o c,v= .slice (some ⟨b,o,none⟩) n c∧∀ j u,xs[j]? =some u→w.cell? ⟨b,o+j,none⟩=some u
theorem oq {p:HP} {L:List HP} {w:World} (h:Sat (p::L) w):Sat L w:=aG h
theorem s9:∀ {L M:List HP} {w:World},Sat (eX L M) w→Sat L w:=fun {L M w} h=>by
  obtain ⟨S,T,d,h1,h2⟩:=mm (show bz (L++M) (ph w) by rw [←vJ];exact h);exact wU h1
theorem Cz:∀ {L M:List HP} {w:World},Sat (eX L M) w→Sat M w:=fun {L M w} h=>by
  obtain ⟨S,T,d,h1,h2⟩:=mm (show bz (L++M) (ph w) by rw [←vJ];exact h);exact wU h2
instance bN.there {p:HP} {L:List HP} {sz:Nat} {v:Value} {n:Nat} {xs:List Value} [k:bN L sz v n xs]:bN (p::L) sz v n xs:=
  ⟨fun w h=>k.len w (oq h),fun w h=>k.q7 w (oq h),fun w h=>k.pf w (oq h)⟩
instance bN.left {L M:List HP} {sz:Nat} {v:Value} {n:Nat} {xs:List Value} [k:bN L sz v n xs]:bN (eX L M) sz v n xs:=
  ⟨fun w h=>k.len w (s9 h),fun w h=>k.q7 w (s9 h),fun w h=>k.pf w (s9 h)⟩
theorem qO {e:TypeId} {sz:Nat} {v:Value} {n:Nat} {xs:List Value} {L:List HP} {w:World} (H:Sat (aT e sz v n xs::L) w) :
    xs.length=n*sz∧xs.all one=true∧((∃ p,v= .slice p 0 0∧n=0)∨∃ g cap pd,v= .slice (some ⟨g,0,none⟩) n cap∧w.heap[g]? =some (.cells pd e (0,0))∧n≤cap∧cap≤maxLen∧pd.size=cap*sz∧pd.toList.take (n*sz)=xs):=by
  obtain ⟨S,_,_,hp,_⟩:=H;refine ⟨hp.len,hp.q7,?_⟩;rcases hp.pf with h|⟨g,cap,pd,h1,h2,h3⟩
  ·exact .inl h
  ·exact .inr ⟨g,cap,pd,h1,(tp h2).2,h3⟩
theorem CQ {w:World} {g:Nat} {pd:Array Value} {e:TypeId} {k:Nat} {xs:List Value} (h:w.heap[g]? =some (.cells pd e (0,0))) (ht:pd.toList.take k=xs) (j:Nat) (u:Value) (hu:xs[j]? =some u) :
    w.cell? ⟨g,0+j,none⟩=some u:=by
  have hc:pd=pd.toList.toArray:=by simp
  rw [hc] at h;rw [io h];subst ht;rw [List.getElem?_take] at hu;split at hu
  ·simpa using hu
  ·simp at hu
instance (priority:=high) bN.bI {e:TypeId} {sz:Nat} {v:Value} {n:Nat} {xs:List Value} {L:List HP}:bN (aT e sz v n xs::L) sz v n xs:=
  ⟨fun w h=>(qO h).1,fun w h=>(qO h).2.1,fun w h=>by
    rcases (qO h).2.2 with ⟨p,h1,h2⟩|⟨g,cap,pd,h1,h2,h3,h4,h5,h6⟩
    ·exact .inl ⟨p,0,h1,h2⟩
    ·exact .inr ⟨g,0,cap,h1,fun j u hu=>CQ h2 h6 j u hu⟩⟩
class yd (v:Value) (L:List HP) (e sz n:outParam Nat) (xs:outParam (List Value)) (L':outParam (List HP)):Prop where
  pf:ai L (aT e sz v n xs::L')
instance (priority:=high) yd.here {v:Value} {L:List HP} {e sz n:Nat} {xs:List Value}:yd v (aT e sz v n xs::L) e sz n xs L:=⟨ai.refl⟩
instance yd.there {v:Value} {q:HP} {L L':List HP} {e sz n:Nat} {xs:List Value} [k:yd v L e sz n xs L']:yd v (q::L) e sz n xs (q::L'):=
  ⟨fun _ h=>kE (jM k.pf h)⟩
class wb (W:World) (sz:outParam Nat) (v:Value) (n:outParam Nat) (xs:outParam (List Value)):Prop where
  len:xs.length=n*sz
  q7:xs.all one=true
  pf:(∃ p c,v= .slice p 0 c∧n=0)∨∃ b o c,v= .slice (some ⟨b,o,none⟩) n c∧b<W.heap.size∧∀ j u,xs[j]? =some u→W.cell? ⟨b,o+j,none⟩=some u
instance (priority:=high) bN.OS {W:World} {sz:Nat} {v:Value} {n:Nat} {xs:List Value} {L:List HP} [k:wb W sz v n xs]:bN (Cs W::L) sz v n xs:=
  ⟨fun w h=>k.len,fun w h=>k.q7,fun w h=>by
    rcases k.pf with h1|⟨b,o,c,h1,h2,h3⟩
    ·exact .inl h1
    ·refine .inr ⟨b,o,c,h1,fun j u hu=>?_⟩;have:=h3 j u hu;have ho:=(Jh h).1 b h2;unfold World.cell? at this ⊢;simp only [ho];exact this⟩
section
variable {P:Program} {N:Nat} {t ty:TypeId} {x y:Operand} {env:Env} {L:List HP}
theorem Ng {e:TypeId} {ats:List TypeId} {sz n:Nat} {v:Value} {xs:List Value} [hT:TU P t (.slice e)] (hx:ev env x=some v) (k:bN L sz v n xs):V P N (.call ⟨.builtin .len,[x].toArray,(t::ats).toArray⟩) ty env L (.int .i64 (n:Int)):=by
  intro a w ha hw;refine ji (vs:=[v]) (by simp [ha.ev hx]) fun cs=>?_;rcases k.pf w hw with ⟨p,c,rfl,rfl⟩|⟨b,o,c,rfl,_⟩<;>simp [builtin,Builtin.len_,run_underlying hT.pf,goInt]
theorem u7 {e:TypeId} {i:Int} {k:IntKind} {n sz WJ bs:Nat} {z v:Value} {xs:List Value} [hT:TU P t (.slice e)] [hZ:TZ P e sz z bs] (hx:ev env x=some v) (hr:bN L WJ v n xs) (hy:ev env y=some (.int k i))
    (h0:0≤i) (h1:i<(n:Int)):V P N (.indexAddr t x y) ty env L (.pointer (some ⟨pb v,po v+i.toNat*sz,none⟩)):=by
  intro a w ha hw;rcases hr.pf w hw with ⟨p,c,rfl,rfl⟩|⟨b,o,c,rfl,_⟩
  ·omega
  ·have sK:(Addr.add ⟨b,o,none⟩ (i.toNat*sz))=⟨b,o+i.toNat*sz,none⟩:=by unfold Addr.add;split<;>simp_all
   simp [execOp,ha.ev hx,ha.ev hy,Instr.indexAt,asIntOf,run_underlying hT.pf,h0,h1,run_sizeOf hZ,sK,pb,po]
theorem Ag {e:TypeId} {i:Nat} {k:IntKind} {n sz WJ bs:Nat} {z v:Value} {xs:List Value} [hT:TU P t (.slice e)] [hZ:TZ P e sz z bs] (hx:ev env x=some v) (hr:bN L WJ v n xs) (hy:ev env y=some (.int k (i:Int)))
    (h1:i<n):V P N (.indexAddr t x y) ty env L (.pointer (some ⟨pb v,po v+i*sz,none⟩)):=by
  have:=u7 (P:=P) (N:=N) (ty:=ty) (t:=t) (hT:=hT) (hZ:=hZ) hx hr hy (om) (om);simpa using this
theorem yf {d:TypeDesc} {n sz m bs:Nat} {z v u:Value} {k:Nat} {xs cs:List Value} [hT:TU P t d] [hZ:TZ P t m z bs]
    (hx:ev env x=some (.pointer (some ⟨pb v,po v+k,none⟩))) (hr:bN L sz v n xs) (hs:sub xs k m=some cs) (hm:Nat.blt 0 m=true) (hv:kJ (mD d) cs=some u):V P N (.load t x) ty env L u:=by
  intro a w ha hw;obtain ⟨h1,h2⟩:=wV hs;have Pu:0<m:=by simpa using hm
  rcases hr.pf w hw with ⟨p,c,rfl,rfl⟩|⟨b,o,c,rfl,hc⟩
  ·have:=hr.len w hw;simp at this;simp [this] at h1;omega
  ·have:=uI (P:=P) (w:=w) (b:=b) (off:=o+k) hT hZ (cs:=cs) (by subst h2;simp;omega) hv (fun j v hj=>by
     subst h2;rw [List.getElem?_take] at hj;split at hj
     ·rw [List.getElem?_drop] at hj;have:=hc (k+j) v hj;rwa [Nat.add_assoc]
     ·simp at hj)
   simp [execOp,ha.ev hx,Instr.loadAt,Instr.sureAddr,pb,po,this]
end
section
variable {P:Program} {N:Nat} {t ty:TypeId} {x y:Operand} {env:Env} {L:List HP}
theorem A6 {d:TypeDesc} {n sz m bs:Nat} {z v u:Value} {k j:Nat} {xs cs:List Value} [hT:TU P t d] [hZ:TZ P t m z bs]
    (hx:ev env x=some (.pointer (some ⟨pb v,po v+k+j,none⟩))) (hr:bN L sz v n xs) (hs:sub xs (k+j) m=some cs) (hm:Nat.blt 0 m=true) (hv:kJ (mD d) cs=some u):V P N (.load t x) ty env L u:=
  yf (k:=k+j) (by rw [hx,Nat.add_assoc]) hr hs hm hv
end
section
variable {α:Type} {enc:α→List Value} {n:Nat}
theorem yZ (h:∀ x,(enc x).length=n) (xs:List α) (i:Nat) (hi:i<xs.length) {j m:Nat} {cs:List Value} (hs:sub (enc xs[i]) j m=some cs):sub (aj enc xs) (i*n+j) m=some cs:=by
  obtain ⟨h1,h2⟩:=wV hs;rw [h] at h1;have hb:Nat.ble (i*n+j+m) (aj enc xs).length=true:=by
    rw [jj h];have:(i+1)*n≤xs.length*n:=Nat.mul_le_mul_right _ (om);rw [Nat.succ_mul] at this;simp;omega
  unfold sub;rw [hb];simp only [Option.some.injEq];rw [h2,←List.drop_drop,gn h,List.drop_eq_getElem_cons hi]
  show ((enc xs[i]++aj enc _).drop j).take m=_;rw [List.drop_append,List.take_append,Nat.sub_eq_zero_of_le (by rw [List.length_drop,h];omega)];simp
theorem Et (h:∀ x,(enc x).length=n) (xs:List α) (i:Nat) (hi:i<xs.length) {m:Nat} {cs:List Value} (hs:sub (enc xs[i]) 0 m=some cs):sub (aj enc xs) (i*n) m=some cs:=by
  have:=yZ h xs i hi hs;simpa using this
theorem A7 (h:∀ x,(enc x).length=n) {xs:List α} {i:Nat} {e:α} (he:xs[i]? =some e) {j m:Nat} {cs:List Value} (hs:sub (enc e) j m=some cs):sub (aj enc xs) (i*n+j) m=some cs:=by
  obtain ⟨hi,rfl⟩:=List.getElem?_eq_some_iff.1 he;exact yZ h xs i hi hs
theorem Gd (h:∀ x,(enc x).length=n) {xs:List α} {i:Nat} {e:α} (he:xs[i]? =some e) {m:Nat} {cs:List Value} (hs:sub (enc e) 0 m=some cs):sub (aj enc xs) (i*n) m=some cs:=by
  obtain ⟨hi,rfl⟩:=List.getElem?_eq_some_iff.1 he;exact Et h xs i hi hs
end
theorem Ge {α:Type} {enc:α→List Value} {l:List α} {e:α} {P:Program} {N:Nat} {t ty:TypeId} {x:Operand} {env:Env} {L:List HP} {d:TypeDesc} {n sz m bs i j:Nat} {z v:Value} {cs:List Value} [hT:TU P t d] [hZ:TZ P t m z bs]
    (hx:ev env x=some (.pointer (some ⟨pb v,po v+i*sz+j,none⟩))) (hd:mD d=true) (hr:bN L sz v n (aj enc l)) (h:∀ x,(enc x).length=sz) (he:l[i]? =some e) (_:F3 (enc e) j m cs) (hs:sub (enc e) j m=some cs) (hm:Nat.blt 0 m=true) :
    V P N (.load t x) ty env L (.agg cs.toArray):=
  A6 (k:=i*sz) hx hr (A7 h he hs) hm (by rw [hd];rfl)
theorem E4 {p q:HP} {L:List HP} {w w':World} {ob nb:Option Nat} (hp:∀ h:PH,p h→∀ b,ob=some b→∃ o,h.c b=some o)
    (hw:∀ k,k<w.heap.size→some k≠ob→w'.heap[k]? =w.heap[k]?) (hn:∀ k,nb=some k→ob=some k∨w.heap.size≤k) (hq:∀ h:PH,(∀ k,nb=some k→h.c k=w'.heap[k]?)→q h)
    (o1:w'.os=w.os) (o2:w'.output=w.output) (o3:w'.tape=w.tape) (H:Sat (p::L) w):Sat (q::L) w':=by
  obtain ⟨S,T,d,h1,h2⟩:=H;refine ⟨fun b=>nb=some b,fun b=>T b∧b<w.heap.size,?_,hq _ ?_,?_⟩
  ·rintro b e ⟨t,lt⟩;rcases hn b e with h|h
   ·obtain ⟨o,ho⟩:=hp _ h1 b h;exact d b (tp ho).1 t
   ·omega
  ·intro k hk;simp [pR,ph,hk]
  ·have e:pR (ph w') (fun b=>T b∧b<w.heap.size)=pR (ph w) T:=by
     unfold pR ph;simp only [o1,o2,o3,PH.mk.injEq,and_true];funext b;by_cases t:T b
     ·by_cases lt:b<w.heap.size
      ·simp only [t,lt,and_self,if_true];refine hw b lt fun h=>?_;obtain ⟨o,ho⟩:=hp _ h1 b h.symm;exact d b (tp ho).1 t
      ·simp [t,lt]
     ·simp [t]
   rw [e];exact h2
section
variable {P:Program} {w:World} {t ty e:TypeId} {i:TypeInfo} {z:Value} {sz:Nat}
theorem Eu (ht:P.underlying t=some (.slice e)) (hi:P.info? e=some i) (hz:i.zero=some z) {base:Option Addr} {rI we n:Nat} {x:Value} {SC news:List Value}
    (hx:∃ p c,x= .slice p n c) (WK:(Builtin.firstCells i.size rI (.slice base rI we)).run P w.drew= .ok SC.toArray w.drew) (hf:(Builtin.firstCells i.size n x).run P w.drew= .ok news.toArray w.drew)
    (hg:we<rI+n) (Yg:((rI+n:Nat):Int)≤9223372036854775807) (LJ:Builtin.nextslicecap (rI+n) we*i.bytes≤281474976710656) :
    (Builtin.append_ #[t,t] ty #[.slice base rI we,x]).run P w =
      .ok (.slice (some ⟨w.heap.size,0,none⟩) (rI+n) (grownCap w (rI+n) we e))
        (w.drew.alloc (.cells (SC.toArray++news.toArray++Builtin.zeroCells z.cells (grownCap w (rI+n) we e-(rI+n))) e)):=by
  obtain ⟨p,c,rfl⟩:=hx;have hn:¬(rI+n≤we):=by omega
  have Xz:¬(9223372036854775807<((rI:Int)+(n:Int))):=by omega
  have XA:¬(281474976710656<Builtin.nextslicecap (rI+n) we*i.bytes):=by omega
  simp [Builtin.append_,run_underlying ht,sizeOf,typeInfo,zeroValue,hi,hz,Builtin.lenOf,hn,Xz,XA,Question.forced,hf,WK,newRow,grownCap];congr 2;apply Array.ext';simp [List.append_assoc]
theorem Gf (ht:P.underlying t=some (.slice e)) (hi:P.info? e=some i) {base:Option Addr} {rI we:Nat} {x:Value}
    (hx:∃ p c,x= .slice p 0 c) (hl:rI≤we):(Builtin.append_ #[t,t] ty #[.slice base rI we,x]).run P w= .ok (.slice base rI we) w:=by
  obtain ⟨p,c,rfl⟩:=hx;cases p<;>cases base<;>simp [Builtin.append_,run_underlying ht,sizeOf,typeInfo,hi,Builtin.lenOf,hl,Builtin.firstCells,loadCells,loadCellsFrom,storeCells]
end
section
variable {P:Program} {N:Nat} {t ty:TypeId} {x y:Operand} {env:Env} {L:List HP}
abbrev Mh (env:Env) (d k:Nat) (L':Value→List HP):Env→List HP→Prop:=fun e' M=>∃ p c,e'=(d,.slice p k c)::env∧M=L' (.slice p k c)
theorem eu {env:Env} {d k:Nat} {L':Value→List HP} {R:Env→List HP→Prop} (h:∀ p c,R ((d,.slice p k c)::env) (L' (.slice p k c))):∀ e' M,Mh env d k L' e' M→R e' M:=by
  rintro _ _ ⟨p,c,rfl,rfl⟩;exact h p c
theorem vT {e:TypeId} {sz:Nat} {v:Value} {n:Nat} {xs:List Value} {L:List HP} {w:World} (H:Sat (aT e sz v n xs::L) w):∃ p c,v= .slice p n c:=by
  rcases (qO H).2.2 with ⟨p,h1,h2⟩|⟨g,cap,pd,h1,_⟩
  ·exact ⟨p,0,by rw [h1,h2]⟩
  ·exact ⟨_,cap,h1⟩
theorem Kn {p q:HP} {L:List HP} {w w':World} (o:Obj) (hw:w'=w.drew.alloc o) (hq:∀ h:PH,h.c w.heap.size=some o→q h) (H:Sat (p::L) w):Sat (q::L) w':=by
  subst hw;exact E4 (ob:=none) (nb:=some w.heap.size) (fun _ _ _ h=>nomatch h) (fun k hk _=>heap_alloc_old w.drew o k hk) (fun k hk=>by cases hk;exact .inr (Nat.le_refl _)) (fun h hh=>hq h (by rw [hh _ rfl];exact heap_alloc_new w.drew o)) rfl rfl rfl H
theorem Mq (g k:Nat):(Addr.add ⟨g,0,none⟩ k)=⟨g,k,none⟩:=by unfold Addr.add;split<;>simp_all
theorem A8 (z:Array Value) (n:Nat):(Builtin.zeroCells z n).size=n*z.size:=by simp [Builtin.zeroCells]
theorem Nh {e:TypeId} {sz n m bs:Nat} {z v u:Value} {xs ys zs:List Value} {L':List HP} {pos:String} {c9:Array Edge} {d:Nat} [hT:TU P t (.slice e)] [hZ:TZ P e sz z bs]
    (hx:ev env x=some v) (hy:ev env y=some u) (hp:yd v L e sz n xs L') (hr:bN L sz u m ys) (hb:(n+m)*bs≤140737488355328) (zF:n+m≤9223372036854775807) (Zo:Nat.blt 0 sz=true) [yG:CO z zs] (LX:zs.length=sz) (hd:Nat.blt d N=true) :
    KO P N ⟨some d,.call ⟨.builtin .append,[x,y].toArray,[t,t].toArray⟩,ty,pos,c9,none⟩ env L (Mh env d (n+m) (fun v'=>aT e sz v' (n+m) (xs++ys)::L')):=by
  intro a w ha hw K Q next
  have hl:n+m≤maxLen:=by simp only [maxLen];omega
  have hS:=hp.pf.gX hw;obtain ⟨h1,h2,h3⟩:=qO hS;have Cr:=hr.len w hw;have JW:=hr.q7 w hw;obtain ⟨i,hi,Up⟩:=Option.map_eq_some_iff.1 hZ.pf;simp only [Prod.mk.injEq] at Up;obtain ⟨Pe,WL,Vd⟩:=Up;have hsz:0<sz:=by simpa using Zo
  have Zp:z.cells.size=sz:=by have:=yG.pf;rw [dT,this];simpa using LX
  have Pt:∃ p c,u= .slice p m c:=by
    rcases hr.pf w hw with ⟨p,c,h,h'⟩|⟨b,o,c,h,_⟩
    ·exact ⟨p,c,by rw [h,h']⟩
    ·exact ⟨_,c,h⟩
  have Yh:∀ w':World,w'.heap=w.heap→(Builtin.firstCells sz m u).run P w'= .ok ys.toArray w':=by
    intro w' hh;rcases hr.pf w hw with ⟨p,c,h,h'⟩|⟨b,o,c,h,hc⟩
    ·subst h h';have:ys=[]:=List.eq_nil_of_length_eq_zero (by simpa using Cr);subst this;cases p<;>simp [Builtin.firstCells,loadCells,loadCellsFrom]
    ·subst h;simp only [Builtin.firstCells];exact gK Cr (fun j v hj=>by
       have:=hc j v hj;unfold World.cell? at this ⊢;rw [hh];exact this)
  have run:∃ v' w',(Builtin.append_ #[t,t] ty #[v,u]).run P w= .ok v' w'∧Sat (aT e sz v' (n+m) (xs++ys)::L') w':=by
    have Yg:((n+m:Nat):Int)≤9223372036854775807:=by have:=hl;simp only [maxLen] at this;omega
    have grow:∀ (base:Option Addr) (OS:Nat),v= .slice base n OS→(∀ w':World,w'.heap=w.heap→(Builtin.firstCells sz n (.slice base n OS)).run P w'= .ok xs.toArray w')→OS<n+m→
     ∃ v' w',(Builtin.append_ #[t,t] ty #[v,u]).run P w= .ok v' w'∧Sat (aT e sz v' (n+m) (xs++ys)::L') w':=by
      intro base OS hv WK ho;subst hv;have Yi:=Eu (P:=P) (w:=w) (ty:=ty) (base:=base) (rI:=n) (we:=OS) (SC:=xs) (news:=ys) hT.pf hi WL Pt (by rw [Pe];exact WK w.drew rfl) (by rw [Pe];exact Yh w.drew rfl) ho Yg (growslice_fits (om) (by rw [Vd];exact hb));refine ⟨_,_,Yi,Kn _ rfl (fun h hh=>?_) hS⟩;have Uo:=grownCap_ge w (n+m) OS e;refine ⟨by rw [List.length_append,h1,Cr,Nat.add_mul],by rw [List.all_append,h2,JW];rfl,.inr ⟨_,_,_,rfl,hh,Uo,grownCap_le_maxLen w (n+m) OS e hl,?_,?_⟩⟩
      ·simp only [Array.size_append,List.size_toArray,A8,Zp,h1,Cr,←Nat.add_mul];congr 1;omega
      ·simp only [Array.toList_append,List.append_assoc];rw [←List.append_assoc];have:(xs++ys).length=(n+m)*sz:=by rw [List.length_append,h1,Cr,Nat.add_mul]
       rw [←this];exact List.take_left
    have still:m=0→∀ base c,v= .slice base n c→n≤c→∃ v' w',(Builtin.append_ #[t,t] ty #[v,u]).run P w= .ok v' w'∧Sat (aT e sz v' (n+m) (xs++ys)::L') w':=by
      intro hm base c hv hc;subst hm;have:ys=[]:=List.eq_nil_of_length_eq_zero (by simpa using Cr);subst this;refine ⟨v,w,?_,by simpa using hS⟩;rw [hv];exact Gf hT.pf hi Pt hc
    by_cases hm:m=0
    ·rcases h3 with ⟨p,hv,hn⟩|⟨g,cap,pd,hv,hg,Ve,_⟩
     ·exact still hm p 0 (by rw [hv,hn]) (om)
     ·exact still hm _ cap hv Ve
    ·rcases h3 with ⟨p,hv,hn⟩|⟨g,cap,pd,hv,hg,Ve,Zq,Pv,RJ⟩
     ·refine grow p 0 (by rw [hv,hn]) (fun w' _=>?_) (om);have:xs=[]:=List.eq_nil_of_length_eq_zero (by rw [h1,hn];simp);subst this;subst hn;cases p<;>simp [Builtin.firstCells,loadCells,loadCellsFrom]
     ·by_cases Cg:n+m≤cap
      ·have XB:pd=pd.toList.toArray:=by simp
       have Yj:=hg;rw [XB] at Yj;have OT:pd.toList.length=cap*sz:=by simp [Pv]
       have LJ:n*sz+m*sz≤cap*sz:=by rw [←Nat.add_mul];exact Nat.mul_le_mul_right _ Cg
       obtain ⟨w',r1,r2,r3,r4,r5,r6⟩:=gL (P:=P) g e ys pd.toList (n*sz) 0 w Yj (by rw [Cr,OT];omega) JW;refine ⟨.slice (some ⟨g,0,none⟩) (n+m) cap,w',?_,?_⟩
       ·subst hv;obtain ⟨p,c,rfl⟩:=Pt;have sK:(Addr.add ⟨g,0,none⟩ (n*sz))=⟨g,n*sz,none⟩:=Mq g _;have hf:=Yh w rfl;simp [Builtin.append_,run_underlying hT.pf,run_sizeOf hZ,Builtin.lenOf,Cg,hf,sK,r1]
       ·refine E4 (ob:=some g) (nb:=some g) ?_ (fun k _ hk=>r3 k (fun e=>hk (by rw [e]))) (fun k hk=> .inl hk) (fun h hh=>?_) r4 r5 r6 hS
        ·intro h hh b hb;cases hb;rcases hh.pf with ⟨p,R7,LW⟩|⟨g',cap',cur',R7,I3,_⟩
         ·rw [hv] at R7;simp at R7;omega
         ·rw [hv] at R7;simp at R7;obtain ⟨rfl,_⟩:=R7;exact ⟨_,I3⟩
        ·have hc:=hh g rfl;rw [r2] at hc;refine ⟨by rw [List.length_append,h1,Cr,Nat.add_mul],by rw [List.all_append,h2,JW];rfl,.inr ⟨g,cap,_,rfl,hc,Cg,Zq,?_,?_⟩⟩
         ·simp only [Nat.add_zero,List.size_toArray,aV,List.length_append,List.length_take,List.length_drop,OT,Cr];omega
         ·simp only [Nat.add_zero,aV,RJ];have:(xs++ys).length=(n+m)*sz:=by rw [List.length_append,h1,Cr,Nat.add_mul]
          rw [←this];exact List.take_left
      ·refine grow _ cap hv (fun w' hh=>?_) (om);simp only [Builtin.firstCells];refine gK h1 (fun j v hj=>?_);have:=CQ hg RJ j v hj;unfold World.cell? at this ⊢;rw [hh];exact this
  obtain ⟨v',w',yQ,F4⟩:=run;unfold Oper.wp;have ex:=ji (P:=P) (ρ:=a.eval) (b:= .append) (args:=[x,y]) (ats:=[t,t].toArray) (ty:=ty) (vs:=[v,u]) (by simp [ha.ev hx,ha.ev hy]) (w:=w) (r:= .ok (.value v') w') (fun cs=>by
    simp [builtin,yQ])
  rw [cY,ex];obtain ⟨p',c',rfl⟩:=vT F4;exact next _ _ _ _ ⟨p',c',rfl,rfl⟩ (ha.put hd _) F4
end
end Go.Sx
namespace Go.Sx
open Go
def cut (v:Value) (l h m sz:Nat):Value:=match v with
  | .slice a _ _=> .slice (if m=l then a else a.map (·.add (l*sz))) (h-l) (m-l)
  |v=>v
section
variable {P:Program} {N:Nat} {t ty:TypeId} {x y:Operand} {env:Env} {L:List HP}
inductive Ak (env:Env):Option Operand→Nat→Nat→Prop
  |none {Ef:Nat}:Ak env none Ef Ef
  |some {o:Operand} {k:IntKind} {i:Int} {Ef:Nat} (h:ev env o=some (.int k i)) (h0:0≤i):Ak env (some o) Ef i.toNat
theorem DR {env:Env} {o:Operand} {k:IntKind} {i Ef:Nat} (h:ev env o=some (.int k (i:Int))):Ak env (some o) Ef i:=by
  have:=Ak.some (Ef:=Ef) h (om);simpa using this
theorem gM {w:World} {k:IntKind} {i:Int} {y:Nat} {code:BoundsCode} (h0:0≤i) (h1:i.toNat≤y):(Instr.sliceBound (.int k i) y code).run P w= .ok i.toNat w:=by
  have:i≤y:=by omega
  simp [Instr.sliceBound,asIntOf,h0,this]
theorem DS {e:TypeId} {lo hi mx:Option Operand} {l h m n c:Nat} {p:Option Addr} {sz bs:Nat} {z:Value} [hT:TU P t (.slice e)] [hZ:TZ P e sz z bs] (hx:ev env x=some (.slice p n c))
    (hl:Ak env lo 0 l) (hh:Ak env hi n h) (hm:Ak env mx c m) (OU:mx.isSome=true→hi.isSome=true) (h1:l≤h) (h2:h≤m) (h3:m≤c) :
    V P N (.slice t x lo hi mx) ty env L (cut (.slice p n c) l h m sz):=by
  intro a w ha hw;have e1:(Instr.sliceAt t (.slice p n c) (lo.map a.eval) (hi.map a.eval) (mx.map a.eval)).run P w= .ok (cut (.slice p n c) l h m sz) w:=by
    simp only [Instr.sliceAt,Sem.run_bind,run_underlying hT.pf,Result.andThen_ok,Instr.slice,Instr.sliceBounds];cases hm with
    |none=>
     cases hh with
     |none=>
      cases hl with
      |none=>simp [run_sizeOf hZ,cut]
      |some q q0=>simp [ha.ev q,gM q0 h1,run_sizeOf hZ,cut]
     |some r r0=>
      cases hl with
      |none=>simp [ha.ev r,gM r0 h2,run_sizeOf hZ,cut]
      |some q q0=>simp [ha.ev q,ha.ev r,gM r0 h2,gM q0 h1,run_sizeOf hZ,cut]
    |some s s0=>
     cases hh with
     |none=>simp at OU
     |some r r0=>
      cases hl with
      |none=>simp [ha.ev r,ha.ev s,gM s0 h3,gM r0 h2,run_sizeOf hZ,cut]
      |some q q0=>simp [ha.ev q,ha.ev r,ha.ev s,gM s0 h3,gM r0 h2,gM q0 h1,run_sizeOf hZ,cut]
  simp [execOp,ha.ev hx,e1]
theorem vU {e len:TypeId} {lo hi:Option Operand} {l h:Nat} {b o:Nat} {sz bs:Nat} {z:Value} [hT:TU P t (.array len e)] [hZ:TZ P e sz z bs] (hx:ev env x=some (.pointer (some ⟨b,o,none⟩)))
    (hl:Ak env lo 0 l) (hh:Ak env hi len h) (h1:l≤h) (h2:h≤len) :
    V P N (.slice t x lo hi none) ty env L (cut (.slice (some ⟨b,o,none⟩) len len) l h len sz):=by
  intro a w ha hw;have e1:(Instr.sliceAt t (.pointer (some ⟨b,o,none⟩)) (lo.map a.eval) (hi.map a.eval) none).run P w= .ok (cut (.slice (some ⟨b,o,none⟩) len len) l h len sz) w:=by
    have LK:cut (.slice (some ⟨b,o,none⟩) len len) l h len sz= .slice (some (if len=l then ⟨b,o,none⟩ else (⟨b,o,none⟩:Addr).add (l*sz))) (h-l) (len-l):=by
      simp only [cut];congr 1;split<;>simp
    rw [LK];simp only [Instr.sliceAt,Sem.run_bind,run_underlying hT.pf,Result.andThen_ok,Instr.sureAddr,Instr.sliceBounds];cases hh with
      |none=>
       cases hl with
       |none=>simp [run_sizeOf hZ]
       |some q q0=>simp [ha.ev q,gM q0 h1,run_sizeOf hZ]
      |some r r0=>
       cases hl with
       |none=>simp [ha.ev r,gM r0 h2,run_sizeOf hZ]
       |some q q0=>simp [ha.ev q,ha.ev r,gM r0 h2,gM q0 h1,run_sizeOf hZ]
  simp [execOp,ha.ev hx,e1]
theorem bN.cut {sz n l h m:Nat} {v:Value} {xs:List Value} (k:bN L sz v n xs) (h1:l≤h) (h2:h≤n) (h3:h≤m):bN L sz (cut v l h m sz) (h-l) ((xs.drop (l*sz)).take ((h-l)*sz)):=by
  refine ⟨fun w hw=>?_,fun w hw=>?_,fun w hw=>?_⟩
  ·have:=k.len w hw;have e:(h-l)*sz+l*sz≤n*sz:=by rw [←Nat.add_mul];exact Nat.mul_le_mul_right _ (om)
   simp;omega
  ·have:=k.q7 w hw;rw [List.all_eq_true] at this ⊢;exact fun u hu=>this u (List.mem_of_mem_drop (List.mem_of_mem_take hu))
  ·by_cases hq:h=l
   ·left;subst hq;rcases k.pf w hw with ⟨p,c,rfl,rfl⟩|⟨b,o,c,rfl,_⟩<;>exact ⟨_,_,by simp [Sx.cut];exact ⟨rfl,rfl⟩,om⟩
   ·rcases k.pf w hw with ⟨p,c,rfl,rfl⟩|⟨b,o,c,rfl,hc⟩
    ·omega
    ·right;have sK:(Addr.add ⟨b,o,none⟩ (l*sz))=⟨b,o+l*sz,none⟩:=by unfold Addr.add;split<;>simp_all
     refine ⟨b,o+l*sz,m-l,?_,fun j u hj=>?_⟩
     ·simp only [Sx.cut,if_neg (show ¬m=l by omega),Option.map_some,sK]
     ·rw [List.getElem?_take] at hj;split at hj
      ·rw [List.getElem?_drop] at hj;have:=hc _ _ hj;rwa [←Nat.add_assoc] at this
      ·simp at hj
theorem tT {b o m c sz:Nat} {T:TypeId} {l:List Value} {C:List Value→List HP} (k:bX b L T l C) (h:o+m*sz≤l.length) (h1:((l.drop o).take (m*sz)).all one=true) :
    bN L sz (.slice (some ⟨b,o,none⟩) m c) m ((l.drop o).take (m*sz)):=by
  refine ⟨fun w hw=>by simp;omega,fun w hw=>h1,fun w hw=> .inr ⟨b,o,c,rfl,fun j u hj=>?_⟩⟩;rw [io (jn k hw)];rw [List.getElem?_take] at hj;split at hj
  ·rwa [List.getElem?_drop] at hj
  ·simp at hj
theorem ou {p:Option Addr} {c sz:Nat}:bN L sz (.slice p 0 c) 0 []:=⟨fun _ _=>by simp,fun _ _=>rfl,fun _ _=> .inl ⟨p,c,rfl,rfl⟩⟩
theorem AJ {e:TypeId} {sz:Nat} {v:Value} {n:Nat} {xs:List Value} {w:World} (H:Sat (aT e sz v n xs::L) w) :
    xs.length=n*sz∧xs.all one=true∧((∃ p,v= .slice p 0 0∧n=0∧xs=[])∨∃ g cap spare,v= .slice (some ⟨g,0,none⟩) n cap∧n≤cap∧cap≤maxLen∧spare.length=(cap-n)*sz∧Sat (ao g e (xs++spare)::L) w):=by
  obtain ⟨h1,h2,_⟩:=qO H;refine ⟨h1,h2,?_⟩;obtain ⟨S,T,d,hp,hL⟩:=H;rcases hp.pf with ⟨p,a,b⟩|⟨g,cap,pd,a,b,c,d1,e1,f⟩
  ·exact .inl ⟨p,a,b,List.eq_nil_of_length_eq_zero (by rw [h1,b];simp)⟩
  ·have OT:pd.toList.length=cap*sz:=by simp [e1]
   have Ve:n*sz≤cap*sz:=Nat.mul_le_mul_right _ c;refine .inr ⟨g,cap,pd.toList.drop (n*sz),a,c,d1,by rw [List.length_drop,OT,Nat.sub_mul],S,T,d,⟨?_⟩,hL⟩;rw [b];congr 2;apply Array.ext';simp only [←f,List.take_append_drop]
theorem Au {e:TypeId} {sz:Nat} {v:Value} {n:Nat} {xs:List Value} {c:Code} {Q:Exit→Act→World→Prop} (h0:xs.length=n*sz→xs.all one=true→∀ p,v= .slice p 0 0→n=0→xs=[]→WC P N c env (aT e sz v n xs::L) Q)
    (h1:xs.length=n*sz→xs.all one=true→∀ g cap spare,v= .slice (some ⟨g,0,none⟩) n cap→n≤cap→cap≤maxLen→spare.length=(cap-n)*sz→WC P N c env (ao g e (xs++spare)::L) Q):WC P N c env (aT e sz v n xs::L) Q:=by
  intro a w ha hw;obtain ⟨k1,k2,⟨p,a1,a2,a3⟩|⟨g,cap,spare,b1,b2,b3,b4,b5⟩⟩:=AJ hw
  ·exact h0 k1 k2 p a1 a2 a3 a w ha hw
  ·exact h1 k1 k2 g cap spare b1 b2 b3 b4 a w ha b5
theorem aI {e:TypeId} {sz:Nat} {p:Option Addr} {M:List HP} (h:ai L M):ai L (aT e sz (.slice p 0 0) 0 []::M):=fun hh H=>by
  refine ⟨fun _=>False,fun _=>True,fun _ a _=>a,⟨by simp,rfl,.inl ⟨p,rfl,rfl⟩⟩,?_⟩;have:pR hh (fun _=>True)=hh:=by unfold pR;simp
  rw [this];exact h _ H
theorem lE {e:TypeId} {sz g n cap:Nat} {l xs:List Value} {M:List HP} (hl:l.length=cap*sz) (hc:n≤cap) (hm:cap≤maxLen) (hx:l.take (n*sz)=xs) (h1:xs.all one=true) (h:ai L M) :
    ai (ao g e l::L) (aT e sz (.slice (some ⟨g,0,none⟩) n cap) n xs::M):=fun hh H=>by
  obtain ⟨S,T,d,hp,hL⟩:=H;refine ⟨S,T,d,⟨?_,h1,.inr ⟨g,cap,l.toArray,rfl,hp.pf,hc,hm,by simpa using hl,by simpa using hx⟩⟩,h _ hL⟩;subst hx;have:n*sz≤cap*sz:=Nat.mul_le_mul_right _ hc;simp;omega
theorem uL {e:TypeId} {g T n m cap sz bs:Nat} {z u:Value} {l ys l':List Value} {C:List Value→List HP} {pos:String} {c9:Array Edge} {d:Nat} [hT:TU P t (.slice e)] [hZ:TZ P e sz z bs]
    (hx:ev env x=some (.slice (some ⟨g,0,none⟩) n cap)) (hy:ev env y=some u) (k:bX g L T l C) (hr:bN L sz u m ys) (Cg:n+m≤cap) (LJ:n*sz+m*sz≤l.length) (hd:Nat.blt d N=true) (hl:aV l (n*sz) ys=l') :
    KO P N ⟨some d,.call ⟨.builtin .append,[x,y].toArray,[t,t].toArray⟩,ty,pos,c9,none⟩ env L (tq ((d,.slice (some ⟨g,0,none⟩) (n+m) cap)::env) (C l')):=by
  subst hl;intro a w ha hw K Q next
  obtain ⟨R,k1,k2⟩:=k.pf;have hs:=k1.gX hw;have hh:=nT hs;have Cr:=hr.len w hw;have JW:=hr.q7 w hw;have Pt:∃ p c,u= .slice p m c:=by
    rcases hr.pf w hw with ⟨p,c,h,h'⟩|⟨b,o,c,h,_⟩
    ·exact ⟨p,c,by rw [h,h']⟩
    ·exact ⟨_,c,h⟩
  have hf:(Builtin.firstCells sz m u).run P w= .ok ys.toArray w:=by
    rcases hr.pf w hw with ⟨p,c,h,h'⟩|⟨b,o,c,h,hc⟩
    ·subst h h';have:ys=[]:=List.eq_nil_of_length_eq_zero (by simpa using Cr);subst this;cases p<;>simp [Builtin.firstCells,loadCells,loadCellsFrom]
    ·subst h;simp only [Builtin.firstCells];exact gK Cr hc
  obtain ⟨w',r1,r2,r3,r4,r5,r6⟩:=gL (P:=P) g T ys l (n*sz) 0 w hh (by rw [Cr];omega) JW;have yQ:(Builtin.append_ #[t,t] ty #[.slice (some ⟨g,0,none⟩) n cap,u]).run P w= .ok (.slice (some ⟨g,0,none⟩) (n+m) cap) w':=by
    obtain ⟨p,c,rfl⟩:=Pt;have sK:(Addr.add ⟨g,0,none⟩ (n*sz))=⟨g,n*sz,none⟩:=Mq g _;simp [Builtin.append_,run_underlying hT.pf,run_sizeOf hZ,Builtin.lenOf,Cg,hf,sK,r1]
  unfold Oper.wp;have ex:=ji (P:=P) (ρ:=a.eval) (b:= .append) (args:=[x,y]) (ats:=[t,t].toArray) (ty:=ty) (vs:=[.slice (some ⟨g,0,none⟩) n cap,u]) (by simp [ha.ev hx,ha.ev hy]) (w:=w) (r:= .ok (.value (.slice (some ⟨g,0,none⟩) (n+m) cap)) w') (fun cs=>by
    simp [builtin,yQ])
  rw [cY,ex];refine next _ _ _ _ ⟨rfl,rfl⟩ (ha.put hd _) ((k2 _).gX ?_)
  exact qN (b:=g) (ao g T (aV l (n*sz) ys)) (fun h hp=>⟨_,hp.pf⟩) (fun h e=>⟨e⟩) (by simpa using r2) r3 r4 r5 r6 hs
theorem qB (zs:List Value) (n sz:Nat) (h:zs.length=sz):(Builtin.zeroCells zs.toArray n).toList=(List.replicate n zs).flatten:=by
  subst h;induction n with
  |zero=>simp [Builtin.zeroCells]
  |succ n ih=>
   rw [List.replicate_succ',List.flatten_append,←ih];simp only [Builtin.zeroCells,List.size_toArray,Array.toList_map,Array.toList_range,Nat.succ_mul,List.range_add,List.map_append,List.map_map];congr 1;simp only [List.flatten_cons,List.flatten_nil,List.append_nil];apply List.ext_getElem
   ·simp
   ·intro i h1 h2;simp at h1;simp [Nat.mod_eq_of_lt h1,h1]
theorem DT {e:TypeId} {g o T m c sz bs:Nat} {z:Value} {zs l l':List Value} {C:List Value→List HP} {pos:String} {c9:Array Edge} {d:Option Nat} {ats:List TypeId} [hT:TU P t (.slice e)] [hZ:TZ P e sz z bs] [yG:CO z zs] (LX:zs.length=sz) (Zr:zs.all one=true)
    (hx:ev env x=some (.slice (some ⟨g,o,none⟩) m c)) (k:bX g L T l C) (LJ:o+m*sz≤l.length) (hd:sh N d=true) (hl:aV l o (List.replicate m zs).flatten=l') :
    KO P N ⟨d,.call ⟨.builtin .clear,[x].toArray,(t::ats).toArray⟩,ty,pos,c9,none⟩ env L (tq (pj env d (.tuple #[])) (C l')):=by
  subst hl;intro a w ha hw K Q next
  obtain ⟨R,k1,k2⟩:=k.pf;have hs:=k1.gX hw;have hh:=nT hs;have hlen:(List.replicate m zs).flatten.length=m*sz:=by simp [LX]
  have Pf:(List.replicate m zs).flatten.all one=true:=by
    rw [List.all_eq_true];intro u hu;simp only [List.mem_flatten,List.mem_replicate] at hu;obtain ⟨_,⟨_,rfl⟩,hu⟩:=hu;exact List.all_eq_true.1 Zr u hu
  obtain ⟨w',r1,r2,r3,r4,r5,r6⟩:=gL (P:=P) g T (List.replicate m zs).flatten l o 0 w hh (by rw [hlen];omega) Pf;have ez:z.cells=zs.toArray:=by rw [dT,yG.pf]
  have yQ:(Builtin.clear_ (t::ats).toArray ty #[.slice (some ⟨g,o,none⟩) m c]).run P w= .ok (.tuple #[]) (if m=0 then w else w'):=by
    by_cases hm:m=0
    ·subst hm;simp [Builtin.clear_,run_underlying hT.pf]
    ·have hq:∀ (α:Type) (A B:α),(match m with|0=>A|_+1=>B)=B:=by intro α A B;cases m with|zero=>exact absurd rfl hm|succ _=>rfl
     obtain ⟨m,rfl⟩:∃ k,m=k+1:=⟨m-1,om⟩;have Zs:=qB zs (m+1) sz LX;simp [Builtin.clear_,run_underlying hT.pf,jI hZ,ez,Zs,r1]
  unfold Oper.wp;have ex:=ji (P:=P) (ρ:=a.eval) (b:= .clear) (args:=[x]) (ats:=(t::ats).toArray) (ty:=ty) (vs:=[.slice (some ⟨g,o,none⟩) m c]) (by simp [ha.ev hx]) (w:=w) (r:= .ok (.value (.tuple #[])) (if m=0 then w else w')) (fun cs=>by
    simp [builtin,yQ])
  rw [cY,ex];refine next _ _ _ _ ⟨rfl,rfl⟩ (ha.B1 hd _) ((k2 _).gX ?_)
  by_cases hm:m=0
  ·subst hm;simpa [aV] using hs
  ·rw [if_neg hm];exact qN (b:=g) (ao g T (aV l o (List.replicate m zs).flatten)) (fun h hp=>⟨_,hp.pf⟩) (fun h e=>⟨e⟩) (by simpa using r2) r3 r4 r5 r6 hs
theorem y8 {e:TypeId} {sz n k m bs:Nat} {z v u:Value} {xs cs:List Value} {L':List HP} {pos:String} {c9:Array Edge} [hZ:TZ P t m z bs]
    (hx:ev env x=some (.pointer (some ⟨pb v,po v+k,none⟩))) (hy:ev env y=some u) (hp:yd v L e sz n xs L') (hc:CO u cs) (hn:cs.length=m) (h1:cs.all one=true) (hk:k+m≤n*sz) (hm:0<m) :
    KO P N ⟨none,.store t x y,ty,pos,c9,none⟩ env L (tq env (aT e sz v n (aV xs k cs)::L')):=by
  intro a w ha hw K Q next
  have hS:=hp.pf.gX hw;obtain ⟨q1,q2,⟨p,a1,a2,a3⟩|⟨g,cap,spare,b1,b2,b3,b4,b5⟩⟩:=AJ hS
  ·subst a2;simp at hk;omega
  ·subst b1;have hh:=nT b5;have Ve:n*sz≤cap*sz:=Nat.mul_le_mul_right _ b2;have hlen:(xs++spare).length=cap*sz:=by rw [List.length_append,q1,b4,Nat.sub_mul];omega
   obtain ⟨w',r1,r2,r3,r4,r5,r6⟩:=gL (P:=P) g e cs (xs++spare) k 0 w hh (by rw [hlen];omega) h1;have run:(execOp a.eval ⟨none,.store t x y,ty, "", #[],none⟩).run P w= .ok .skip w':=by
     have e':u.cells.toList=cs:=by rw [dT];simpa using hc.pf
     have e2:u.cells.size=m:=by rw [dT];simp [hc.pf,hn]
     have qF:=ha.ev hx;simp only [pb,po,Nat.zero_add] at qF;simp [execOp,qF,ha.ev hy,Instr.storeAt,Instr.sureAddr,storeVar,run_sizeOf hZ,e2,e',r1]
   unfold Oper.wp;rw [cY,run];refine next _ _ a w' ⟨rfl,rfl⟩ ha ?_
   have F4:Sat (ao g e (aV (xs++spare) k cs)::L') w':=qN (b:=g) _ (fun h hp=>⟨_,hp.pf⟩) (fun h e=>⟨e⟩) (by simpa using r2) r3 r4 r5 r6 b5;have OV:aV (xs++spare) k cs=aV xs k cs++spare:=by
     unfold aV;rw [List.take_append_of_le_length (om),List.drop_append_of_le_length (om)];simp [List.append_assoc]
   have EX:(aV xs k cs).length=n*sz:=by unfold aV;simp;omega
   refine (lE (n:=n) (cap:=cap) (xs:=aV xs k cs) ?_ b2 b3 ?_ ?_ ai.refl).gX F4
   ·rw [OV,List.length_append,EX,b4,Nat.sub_mul];omega
   ·rw [OV,List.take_append_of_le_length (om),List.take_of_length_le (om)]
   ·unfold aV;rw [List.all_append,List.all_append,h1,List.all_eq_true.2 fun u hu=>List.all_eq_true.1 q2 u (List.mem_of_mem_take hu),List.all_eq_true.2 fun u hu=>List.all_eq_true.1 q2 u (List.mem_of_mem_drop hu)];rfl
theorem Ev {e:TypeId} {sz n k j m bs:Nat} {z v u:Value} {xs cs:List Value} {L':List HP} {pos:String} {c9:Array Edge} [hZ:TZ P t m z bs]
    (hx:ev env x=some (.pointer (some ⟨pb v,po v+k+j,none⟩))) (hy:ev env y=some u) (hp:yd v L e sz n xs L') (hc:CO u cs) (hn:cs.length=m) (h1:cs.all one=true) (hk:k+j+m≤n*sz) (hm:0<m) :
    KO P N ⟨none,.store t x y,ty,pos,c9,none⟩ env L (tq env (aT e sz v n (aV xs (k+j) cs)::L')):=
  y8 (k:=k+j) (by rw [hx,Nat.add_assoc]) hy hp hc hn h1 hk hm
theorem Ch {sz n:Nat} {v:Value} {xs:List Value} {c:Code} {Q:Exit→Act→World→Prop} (k:bN L sz v n xs) (h:xs.length=n*sz→xs.all one=true→∀ p c0,v= .slice p n c0→(p=none→n=0)→WC P N c env L Q):WC P N c env L Q:=by
  intro a w ha hw;rcases k.pf w hw with ⟨p,c0,h1,h2⟩|⟨b,o,c0,h1,_⟩
  ·exact h (k.len w hw) (k.q7 w hw) p c0 (by rw [h1,h2]) (fun _=>h2) a w ha hw
  ·exact h (k.len w hw) (k.q7 w hw) _ c0 h1 (fun h=>nomatch h) a w ha hw
def DG:Value→Bool
  | .int .. | .float .. | .complex .. | .string .. =>false
  |_=>true
theorem wH {xt yt:TypeId} {a b:Value} {r:Bool} (hx:ev env x=some a) (hy:ev env y=some b) (he:∀ w,(Op.equalIn (9999+1) xt a b).run P w= .ok r w) (hg:∀ w,(eqGuard .eql xt x y a b).run P w= .ok () w)
    (ha:DG a=true):V P N (.binOp .eql xt x y yt) ty env L (.bool r):=by
  intro f w hA _;have h:(Op.equal xt a b).run P w= .ok r w:=he w;have WN:=hg w;cases a<;>first|(simp [DG] at ha;done)|simp [execOp,hA.ev hx,hA.ev hy,WN,binOp,h]
theorem AF {xt yt:TypeId} {a b:Value} {r:Bool} (hx:ev env x=some a) (hy:ev env y=some b) (he:∀ w,(Op.equalIn (9999+1) xt a b).run P w= .ok r w) (hg:∀ w,(eqGuard .neq xt x y a b).run P w= .ok () w)
    (ha:DG a=true):V P N (.binOp .neq xt x y yt) ty env L (.bool !r):=by
  intro f w hA _;have h:(Op.equal xt a b).run P w= .ok r w:=he w;have WN:=hg w;cases a<;>first|(simp [DG] at ha;done)|simp [execOp,hA.ev hx,hA.ev hy,WN,binOp,h]
section
variable {xt yt e:TypeId}
theorem E5 (d:Nat) (hT:TU P xt (.slice e)) (p:Option Addr) (n c:Nat) (w:World):(Op.equalIn (d+1) xt (.slice p n c) (.slice none 0 0)).run P w= .ok p.isNone w:=by
  cases p<;>simp only [Op.equalIn,Sem.run_bind,run_underlying hT.pf,Result.andThen_ok,Sem.run_pure]<;>rfl
theorem HO [hT:TU P xt (.slice e)] {n c:Nat} (hx:ev env x=some (.slice none n c)) (hy:ev env y=some (.slice none 0 0)):V P N (.binOp .eql xt x y yt) ty env L (.bool true):=
  wH hx hy (fun w=>E5 9999 hT _ _ _ w) (fun w=>by unfold eqGuard;simp) rfl
theorem HQ [hT:TU P xt (.slice e)] {a:Addr} {n c:Nat} (hx:ev env x=some (.slice (some a) n c)) (hy:ev env y=some (.slice none 0 0)):V P N (.binOp .eql xt x y yt) ty env L (.bool false):=
  wH hx hy (fun w=>E5 9999 hT _ _ _ w) (fun w=>by unfold eqGuard;simp) rfl
theorem DH (d:Nat) (hT:TU P xt (.pointer e)) (p:Option Addr) (w:World):(Op.equalIn (d+1) xt (.pointer p) (.pointer none)).run P w= .ok p.isNone w:=by
  cases p<;>simp only [Op.equalIn,Sem.run_bind,run_underlying hT.pf,Result.andThen_ok,Sem.run_pure]<;>rfl
theorem HR [hT:TU P xt (.pointer e)] (hx:ev env x=some (.pointer none)) (hy:ev env y=some (.pointer none)):V P N (.binOp .eql xt x y yt) ty env L (.bool true):=
  wH hx hy (fun w=>DH 9999 hT _ w) (fun w=>by unfold eqGuard;simp) rfl
theorem HS [hT:TU P xt (.pointer e)] {a:Addr} (hx:ev env x=some (.pointer (some a))) (hy:ev env y=some (.pointer none)):V P N (.binOp .eql xt x y yt) ty env L (.bool false):=
  wH hx hy (fun w=>DH 9999 hT _ w) (fun w=>by unfold eqGuard;simp) rfl
theorem HT [hT:TU P xt (.pointer e)] (hx:ev env x=some (.pointer none)) (hy:ev env y=some (.pointer none)):V P N (.binOp .neq xt x y yt) ty env L (.bool false):=
  AF hx hy (fun w=>DH 9999 hT _ w) (fun w=>by unfold eqGuard;simp) rfl
theorem HU [hT:TU P xt (.pointer e)] {a:Addr} (hx:ev env x=some (.pointer (some a))) (hy:ev env y=some (.pointer none)):V P N (.binOp .neq xt x y yt) ty env L (.bool true):=
  AF hx hy (fun w=>DH 9999 hT _ w) (fun w=>by unfold eqGuard;simp) rfl
end
theorem Ni {e:TypeId} {sz b:Nat} {M:List HP} (h:ai L M):ai (ao b e []::L) (aT e sz (.slice (some ⟨b,0,none⟩) 0 0) 0 []::M):=aI (ai.drop h)
theorem qV {b m c sz:Nat} {T:TypeId} {l:List Value} {C:List Value→List HP} (k:bX b L T l C) (h:l.length=m*sz) (h1:l.all one=true):bN L sz (.slice (some ⟨b,0,none⟩) m c) m l:=by
  have:=tT (o:=0) (m:=m) (c:=c) (sz:=sz) k (om) (by rw [List.drop_zero,List.take_of_length_le (om)];exact h1);rw [List.drop_zero,List.take_of_length_le (om)] at this;exact this
theorem CC {e:TypeId} {sz bs:Nat} {z:Value} {zs:List Value} {pos:String} {c9:Array Edge} {d:Nat} [hT:TU P t (.slice e)] [hE:TZ P e sz z bs] [yG:CO z zs] (LX:zs.length=sz) (hd:Nat.blt d N=true) :
    KO P N ⟨some d,.buildSlice t 0 #[],ty,pos,c9,none⟩ env L (uX env d (fun b=> .slice (some ⟨b,0,none⟩) 0 0) (fun b=>aT e sz (.slice (some ⟨b,0,none⟩) 0 0) 0 []::L)):=by
  intro a w ha hw K Q next
  refine zN (P:=P) (o:= .cells #[] e (0,0)) (q:=fun b=>ao b e []) (v:=fun b=> .slice (some ⟨b,0,none⟩) 0 0) (fun b h e=>⟨e⟩) ?_ hd a w ha hw K Q ?_
  ·intro a w ha _;have hl:¬((0:Nat)>2^24):=by omega
   simp [execOp,Instr.buildSlice,run_underlying hT.pf,run_sizeOf hE,Instr.fill,newRow];congr 2;apply Array.ext';simp [Array.toList_range]
  ·rintro _ _ a' w' ⟨b,rfl,rfl⟩ Ej Ct;exact next _ _ _ _ ⟨b,rfl,rfl⟩ Ej ((Ni ai.refl).gX Ct)
theorem sD {a:Addr} {n c i m sz:Nat}:cut (.slice (some a) n c) 0 i m sz= .slice (some a) i m:=by
  have:a.add 0=a:=by cases a with|mk b o s=>cases s<;>simp [Addr.add]
  simp [cut,this]
theorem nD {g o n c l h m sz:Nat} (hm:m≠l):cut (.slice (some ⟨g,o,none⟩) n c) l h m sz= .slice (some ⟨g,o+l*sz,none⟩) (h-l) (m-l):=by
  have sK:(Addr.add ⟨g,o,none⟩ (l*sz))=⟨g,o+l*sz,none⟩:=by unfold Addr.add;split<;>simp_all
  simp [cut,hm,sK]
theorem BW {e len:TypeId} {b o:Nat} {sz bs:Nat} {z:Value} [hT:TU P t (.array len e)] [hZ:TZ P e sz z bs] (hx:ev env x=some (.pointer (some ⟨b,o,none⟩))) :
    V P N (.slice t x none none none) ty env L (.slice (some ⟨b,o,none⟩) len len):=by
  have:=vU (P:=P) (N:=N) (ty:=ty) (L:=L) (t:=t) (lo:=none) (hi:=none) hx Ak.none Ak.none (Nat.zero_le _) (Nat.le_refl _);rwa [sD] at this
theorem zV {g n cap sz:Nat} {T:TypeId} {xs spare:List Value} {C:List Value→List HP} (k:bX g L T (xs++spare) C) (h:xs.length=n*sz) (h1:xs.all one=true):bN L sz (.slice (some ⟨g,0,none⟩) n cap) n xs:=by
  have hx:((xs++spare).drop 0).take (n*sz)=xs:=by rw [List.drop_zero,List.take_append_of_le_length (om),List.take_of_length_le (om)]
  have:=tT (o:=0) (m:=n) (c:=cap) (sz:=sz) k (by simp;omega) (by rw [hx];exact h1);rwa [hx] at this
theorem rv {l ys:List Value} {o:Nat} (h:o≤l.length):(aV l o ys).take (o+ys.length)=l.take o++ys:=by
  unfold aV;rw [List.take_append,List.take_of_length_le (by simp;omega)];simp;omega
theorem u9 {l ys:List Value} {o k:Nat} (h:o≤l.length) (hk:k≤o):(aV l o ys).take k=l.take k:=by
  unfold aV;rw [List.append_assoc,List.take_append_of_le_length (by simp;omega),List.take_take,Nat.min_eq_left hk]
theorem dF {l ys:List Value} {o:Nat} (h:o+ys.length≤l.length):(aV l o ys).length=l.length:=by
  unfold aV;simp;omega
theorem aD (A:HP) {L':List HP} [k:sJ A L L'] {all:Array Oper} {c:List Oper} {Q:Exit→Act→World→Prop} (h:WO P N all c env (A::L') Q):WO P N all c env L Q:=cy k.pf h
theorem aE (A:HP) {L':List HP} [k:sJ A L L'] {c:Code} {Q:Exit→Act→World→Prop} (h:WC P N c env (A::L') Q):WC P N c env L Q:=fun a w ha hw=>h a w ha (k.pf.gX hw)
theorem aF (A:HP) {L':List HP} [k:sJ A L L'] {e:Exit} {Q:Exit→Act→World→Prop} (h:WE N e env (A::L') Q):WE N e env L Q:=fun a w ha hw=>h a w ha (k.pf.gX hw)
theorem cD {L':List HP} {c:Code} {Q:Exit→Act→World→Prop} (e:ai L L') (h:WC P N c env L' Q):WC P N c env L Q:=fun a w ha hw=>h a w ha (e.gX hw)
theorem cE {L':List HP} {x:Exit} {Q:Exit→Act→World→Prop} (e:ai L L') (h:WE N x env L' Q):WE N x env L Q:=fun a w ha hw=>h a w ha (e.gX hw)
theorem mT {ι:Type} (E:ι→Env) (H:ι→List HP) (I:ι→Prop) {c:Code} {Q:Exit→Act→World→Prop} {G:Prop}
    (main:(∀ j env L,I j→Sub (E j) env→ai L (H j)→WC P N c env L Q)→G) (tail:∀ j,I j→WC P N c (E j) (H j) Q):G:=
  main fun j env L hi hs he a w ha hw=>tail j hi a w (ha.sub hs) (he.gX hw)
section
variable {xt yt:TypeId} {p:Prop} {inst:Decidable p}
end
def EQ (v:Value) (n:Nat):Prop:=∃ b o c,v= .slice (some ⟨b,o,none⟩) n c
theorem rd_some {sz n:Nat} {v:Value} {xs:List Value} (k:bN L sz v n xs) (hn:0<n) {w:World} (hw:Sat L w):EQ v n:=by
  rcases k.pf w hw with ⟨p,c,h1,h2⟩|⟨b,o,c,h1,_⟩
  ·omega
  ·exact ⟨b,o,c,h1⟩
theorem aX (v:Value) {sz n:Nat} {xs:List Value} (k:bN L sz v n xs) (hn:0<n) {all:Array Oper} {c:List Oper} {Q:Exit→Act→World→Prop} (h:EQ v n→WO P N all c env L Q):WO P N all c env L Q:=fun a w ha hw=>h (rd_some k hn hw) a w ha hw
theorem aY (v:Value) {sz n:Nat} {xs:List Value} (k:bN L sz v n xs) (hn:0<n) {c:Code} {Q:Exit→Act→World→Prop} (h:EQ v n→WC P N c env L Q):WC P N c env L Q:=fun a w ha hw=>h (rd_some k hn hw) a w ha hw
theorem vd {e:TypeId} {i:Int} {k:IntKind} {n sz bs:Nat} {z v:Value} [hT:TU P t (.slice e)] [hZ:TZ P e sz z bs] (hx:ev env x=some v) (hs:EQ v n) (hy:ev env y=some (.int k i))
    (h0:0≤i) (h1:i<(n:Int)):V P N (.indexAddr t x y) ty env L (.pointer (some ⟨pb v,po v+i.toNat*sz,none⟩)):=by
  intro a w ha hw;obtain ⟨b,o,c,rfl⟩:=hs;have sK:(Addr.add ⟨b,o,none⟩ (i.toNat*sz))=⟨b,o+i.toNat*sz,none⟩:=by unfold Addr.add;split<;>simp_all
  simp [execOp,ha.ev hx,ha.ev hy,Instr.indexAt,asIntOf,run_underlying hT.pf,h0,h1,run_sizeOf hZ,sK,pb,po]
theorem Ah {e:TypeId} {i:Nat} {k:IntKind} {n sz bs:Nat} {z v:Value} [hT:TU P t (.slice e)] [hZ:TZ P e sz z bs] (hx:ev env x=some v) (hs:EQ v n) (hy:ev env y=some (.int k (i:Int)))
    (h1:i<n):V P N (.indexAddr t x y) ty env L (.pointer (some ⟨pb v,po v+i*sz,none⟩)):=by
  have:=vd (P:=P) (N:=N) (ty:=ty) (t:=t) (L:=L) (hT:=hT) (hZ:=hZ) hx hs hy (om) (om);simpa using this
end
end Go.Sx
