/- '==' of structs and arrays of whole numbers and bools. My own work; names no program. -/
import Derived.ChangeKeysEq
import Derived.Laws.StructEq
import Derived.Test.YtjihlpjnebdiiabGreatSl
set_option linter.unusedVariables false
set_option linter.unusedSectionVars false
set_option linter.unusedSimpArgs false
namespace Go.Sx
open Go
inductive Kd where
  |i (k:IntKind)
  |b
def Kd.ok:Kd→Value→Bool
  | .i k,.int k' _=>decide (k=k')
  | .b,.bool _=>true
  |_,_=>false
def qD:List Kd→List Value→Bool
  | [],[]=>true
  |k::ks,v::vs=>k.ok v&& qD ks vs
  |_,_=>false
theorem o5:∀ {ks:List Kd} {vs:List Value},qD ks vs=true→vs.length=ks.length
  | [],[],_=>rfl
  |k::ks,v::vs,h=>by simp only [qD,Bool.and_eq_true] at h;simp [o5 h.2]
  | [],_::_,h=>by simp [qD] at h
  |_::_,[],h=>by simp [qD] at h
theorem r7:∀ {ks I1:List Kd} {vs:List Value},qD (ks++I1) vs=true→qD ks (vs.take ks.length)=true∧qD I1 (vs.drop ks.length)=true
  | [],I1,vs,h=>⟨by simp [qD],by simpa using h⟩
  |k::ks,I1,v::vs,h=>by
   simp only [List.cons_append,qD,Bool.and_eq_true] at h
   obtain ⟨h1,h2⟩:=r7 h.2
   exact ⟨by simp [qD,h.1,h1],by simpa using h2⟩
  |k::ks,I1,[],h=>by simp [qD] at h
def Ul:Bool→List Value→Value
  |true,xs=> .agg xs.toArray
  |false,[v]=>v
  |false,_=>undef
structure Um (P:Program) (t:TypeId) (m:Nat) (ks:List Kd) (a:Bool):Prop where
  u:∃ desc,P.underlying t=some desc∧mD desc=a
  size:P.cellsOf t=ks.length
  one:a=false→ks.length=1
  pos:0<ks.length
  eq:∀ (d:Nat) (w:World) (xs ys:List Value),qD ks xs=true→qD ks ys=true→∃ r:Bool,(Op.equalIn (d+m) t (Ul a xs) (Ul a ys)).run P w= .ok r w∧(r=true↔xs=ys)
section
variable {P:Program}
theorem wT {t m:Nat} {ks:List Kd} {a:Bool} (h:Um P t m ks a) {X:List Value} {off:Nat} (hX:off+ks.length≤X.length) (w:World) :
    (part t X.toArray off).run P w= .ok (Ul a ((X.drop off).take ks.length)) w:=by
  obtain ⟨desc,hu,ha⟩:=h.u;have hz:=h.size;obtain ⟨i,hi⟩:=info_of_underlying hu;have WB:i.size=ks.length:=by simpa [Program.cellsOf,hi] using hz
  have WD:(isAgg t).run P w= .ok a w:=by rw [vi ⟨hu⟩,ha]
  unfold part;simp only [Sem.run_bind,WD,Result.andThen_ok];cases a with
  |true=>
   simp only [if_true,Sem.run_bind,sizeOf,typeInfo];simp [hi,WB,Ul,List.extract_eq_take_drop]
  |false=>
   have h1:=h.one rfl;rw [h1] at hX ⊢;have bB:off<X.length:=by omega
   have e:(X.drop off).take 1=[X[off]]:=by rw [List.drop_eq_getElem_cons bB];rfl
   simp [Ul,e,bB]
def nS (f:TypeId→Option (List Kd×Bool)) (P:Program):List Field→Nat→Option (List Kd)
  | [],_=>some []
  |fd::r,off=>match f fd.type with
   |none=>none
   |some (ks,_)=>match decide (fd.name≠ "_"),Nat.beq fd.offset off with
    |true,true=>(nS f P r (off+ks.length)).map (ks++ ·)
    |_,_=>none
def yO (P:Program):Nat→TypeId→Option (List Kd×Bool)
  |0,_=>none
  |m+1,t=>match P.underlying t with
   |some .bool=>if P.cellsOf t=1 then some ([.b],false) else none
   |some (.int k)=>if P.cellsOf t=1 then some ([.i k],false) else none
   |some (.array n e)=>match yO P m e with
    |some (ks,_)=>if P.cellsOf t=((List.replicate n ks).flatten).length∧0<((List.replicate n ks).flatten).length then some ((List.replicate n ks).flatten,true) else none
    |none=>none
   |some (.struct fs)=>match nS (yO P m) P fs.toList 0,P.stoodInHeld t with
    |some ks,false=>if P.cellsOf t=ks.length∧0<ks.length then some (ks,true) else none
    |_,_=>none
   |_=>none
theorem yV {m:Nat} (ih:∀ t ks a,yO P m t=some (ks,a)→Um P t m ks a) (d:Nat) (w:World) (X Y:List Value) :
    ∀ (fs:List Field) (off:Nat) (ks:List Kd),nS (yO P m) P fs off=some ks→qD ks (X.drop off)=true→qD ks (Y.drop off)=true→
      ∃ r:Bool,(Op.eqFields (d+m) X.toArray Y.toArray fs).run P w= .ok r w∧(r=true↔X.drop off=Y.drop off)
  | [],off,ks,h,hx,hy=>by
    simp [nS] at h;subst h
    have h1:=o5 hx
    have h2:=o5 hy;refine ⟨true,by simp [Op.eqFields],?_⟩;rw [List.eq_nil_of_length_eq_zero h1,List.eq_nil_of_length_eq_zero h2];simp
  |f::fs,off,ks,h,hx,hy=>by
   simp only [nS] at h;cases hk:yO P m f.type with
   |none=>simp [hk] at h
   |some p=>
    obtain ⟨k1,a⟩:=p;simp only [hk] at h;split at h
    ·rename_i hn ho;have R4:f.offset=off:=by simpa using ho
     have LW:f.name≠ "_" :=by simpa using hn
     cases hr:nS (yO P m) P fs (off+k1.length) with
     |none=>simp [hr] at h
     |some k2=>
      simp [hr] at h;subst h;have E:=ih _ _ _ hk;obtain ⟨x1,x2⟩:=r7 hx;obtain ⟨y1,y2⟩:=r7 hy;rw [List.drop_drop] at x2 y2;obtain ⟨r2,g2,i2⟩:=yV ih d w X Y fs _ _ hr x2 y2;have lx:=o5 hx;have ly:=o5 hy;simp only [List.length_drop,List.length_append] at lx ly;have Xv:=E.pos;have px:=wT E (X:=X) (off:=f.offset) (om) w;have py:=wT E (X:=Y) (off:=f.offset) (om) w;obtain ⟨r1,g1,i1⟩:=E.eq d w _ _ x1 y1;rw [R4] at px py;simp only [Op.eqFields,if_pos LW,Sem.run_bind,R4,px,py,g1,Result.andThen_ok];have key:X.drop off=Y.drop off↔(X.drop off).take k1.length=(Y.drop off).take k1.length∧X.drop (off+k1.length)=Y.drop (off+k1.length):=by
        constructor
        ·intro e;exact ⟨by rw [e],by rw [←List.drop_drop,←List.drop_drop,e]⟩
        ·rintro ⟨e1,e2⟩;rw [←List.take_append_drop k1.length (X.drop off),←List.take_append_drop k1.length (Y.drop off),e1,List.drop_drop,List.drop_drop,e2]
      cases r1 with
      |false=>
       refine ⟨false,by simp,?_⟩;rw [key];simp only [Bool.false_eq_true,false_iff];rintro ⟨e1,_⟩;have:=i1.2 e1;cases this
      |true=>
       refine ⟨r2,by simpa using g2,?_⟩;rw [key,i2];exact ⟨fun e=>⟨i1.1 rfl,e⟩,fun e=>e.2⟩
    ·simp at h
theorem A5 {m e:Nat} {ks:List Kd} {a:Bool} (E:Um P e m ks a) (d:Nat) (w:World) (X Y:List Value) :
    ∀ (n k:Nat),qD (List.replicate n ks).flatten (X.drop (k*ks.length))=true→qD (List.replicate n ks).flatten (Y.drop (k*ks.length))=true→
      ∃ r:Bool,(Op.eqItems (d+m) e (P.cellsOf e) X.toArray Y.toArray (List.range' k n)).run P w= .ok r w∧(r=true↔X.drop (k*ks.length)=Y.drop (k*ks.length))
  |0,k,hx,hy=>by
   have h1:=o5 hx
   have h2:=o5 hy;refine ⟨true,by simp [Op.eqItems],?_⟩;rw [List.eq_nil_of_length_eq_zero h1,List.eq_nil_of_length_eq_zero h2];simp
  |n+1,k,hx,hy=>by
   rw [List.replicate_succ,List.flatten_cons] at hx hy;obtain ⟨x1,x2⟩:=r7 hx;obtain ⟨y1,y2⟩:=r7 hy;rw [List.drop_drop] at x2 y2;have hm:k*ks.length+ks.length=(k+1)*ks.length:=by rw [Nat.succ_mul]
   rw [hm] at x2 y2;obtain ⟨r2,g2,i2⟩:=A5 E d w X Y n (k+1) x2 y2;have lx:=o5 hx;have ly:=o5 hy;simp only [List.length_drop,List.length_append] at lx ly;obtain ⟨r1,g1,i1⟩:=E.eq d w _ _ x1 y1;have kz:X.length-k*ks.length=ks.length+((List.replicate n ks).flatten).length:=lx;have Xv:=E.pos;have px:=wT E (X:=X) (off:=k*ks.length) (om) w;have py:=wT E (X:=Y) (off:=k*ks.length) (om) w;have hs:=E.size;simp only [List.range'_succ,Op.eqItems,Sem.run_bind,hs,px,py,g1,Result.andThen_ok];rw [hs] at g2;have key:X.drop (k*ks.length)=Y.drop (k*ks.length)↔(X.drop (k*ks.length)).take ks.length=(Y.drop (k*ks.length)).take ks.length∧X.drop ((k+1)*ks.length)=Y.drop ((k+1)*ks.length):=by
     rw [←hm];constructor
     ·intro e;exact ⟨by rw [e],by rw [←List.drop_drop,←List.drop_drop,e]⟩
     ·rintro ⟨e1,e2⟩;rw [←List.take_append_drop ks.length (X.drop (k*ks.length)),←List.take_append_drop ks.length (Y.drop (k*ks.length)),e1,List.drop_drop,List.drop_drop,e2]
   cases r1 with
   |false=>
    refine ⟨false,by simp,?_⟩;rw [key];simp only [Bool.false_eq_true,false_iff];rintro ⟨e1,_⟩;have:=i1.2 e1;cases this
   |true=>
    refine ⟨r2,by simpa using g2,?_⟩;rw [key,i2];exact ⟨fun e=>⟨i1.1 rfl,e⟩,fun e=>e.2⟩
theorem o6:∀ (m:Nat) (t:TypeId) (ks:List Kd) (a:Bool),yO P m t=some (ks,a)→Um P t m ks a
  |0,t,ks,a,h=>by simp [yO] at h
  |m+1,t,ks,a,h=>by
   have ih:=o6 m
   simp only [yO] at h;cases hu:P.underlying t with
   |none=>simp [hu] at h
   |some desc=>
    cases desc<;>simp only [hu] at h<;>try (simp at h;done)
    case bool=>
      split at h
      ·rename_i hc;simp at h;obtain ⟨rfl,rfl⟩:=h;refine ⟨⟨_,hu,rfl⟩,hc,fun _=>rfl,Nat.one_pos,fun d w xs ys hx hy=>?_⟩;match xs,ys,hx,hy with
       | [],_,hx,_=>simp [qD] at hx
       |_::_::_,_,hx,_=>simp [qD] at hx
       | [x],[],_,hy=>simp [qD] at hy
       | [x],_::_::_,_,hy=>simp [qD] at hy
       | [x],[y],hx,hy=>
         cases x<;>simp [qD,Kd.ok] at hx;cases y<;>simp [qD,Kd.ok] at hy;rename_i n1 n2;exact ⟨n1 == n2,run_equalIn_bool w (d+m) t n1 n2 hu,by simp⟩
      ·simp at h
    case int k=>
      split at h
      ·rename_i hc;simp at h;obtain ⟨rfl,rfl⟩:=h;refine ⟨⟨_,hu,rfl⟩,hc,fun _=>rfl,Nat.one_pos,fun d w xs ys hx hy=>?_⟩;match xs,ys,hx,hy with
       | [],_,hx,_=>simp [qD] at hx
       |_::_::_,_,hx,_=>simp [qD] at hx
       | [x],[],_,hy=>simp [qD] at hy
       | [x],_::_::_,_,hy=>simp [qD] at hy
       | [x],[y],hx,hy=>
         cases x<;>simp [qD,Kd.ok] at hx;cases y<;>simp [qD,Kd.ok] at hy;subst hx;subst hy;rename_i n1 n2;exact ⟨n1 == n2,run_equalIn_int w (d+m) t _ _ n1 n2 hu,by simp⟩
      ·simp at h
    case array n e=>
      cases he:yO P m e with
      |none=>simp [he] at h
      |some p=>
       obtain ⟨k1,a1⟩:=p;simp only [he] at h;split at h
       ·rename_i hc;simp only [Option.some.injEq,Prod.mk.injEq] at h;obtain ⟨rfl,rfl⟩:=h;have E:=ih _ _ _ he;refine ⟨⟨_,hu,rfl⟩,hc.1,(fun h=>nomatch h),hc.2,fun d w xs ys hx hy=>?_⟩;obtain ⟨de,Zl,_⟩:=E.u;obtain ⟨i,hi⟩:=info_of_underlying Zl;obtain ⟨r,g,q⟩:=A5 E d w xs ys n 0 (by simpa using hx) (by simpa using hy);refine ⟨r,?_,by simpa using q⟩
        show (Op.equalIn ((d+m)+1) t (.agg xs.toArray) (.agg ys.toArray)).run P w=_;rw [run_equalIn_array w (d+m) xs.toArray ys.toArray hu hi,List.range_eq_range'];exact g
       ·simp at h
    case struct fs=>
      cases hf:nS (yO P m) P fs.toList 0 with
      |none=>simp [hf] at h
      |some k1=>
       cases uG:P.stoodInHeld t with
       |true=>simp [hf,uG] at h
       |false=>
        simp only [hf,uG] at h;split at h
        ·rename_i hc;simp only [Option.some.injEq,Prod.mk.injEq] at h;obtain ⟨rfl,rfl⟩:=h;refine ⟨⟨_,hu,rfl⟩,hc.1,(fun h=>nomatch h),hc.2,fun d w xs ys hx hy=>?_⟩;have Ye:P.fieldsOf t=fs:=by simp [Program.fieldsOf,hu]
         obtain ⟨r,g,q⟩:=yV ih d w xs ys fs.toList 0 _ hf (by simpa using hx) (by simpa using hy);refine ⟨r,?_,by simpa using q⟩
         show (Op.equalIn ((d+m)+1) t (.agg xs.toArray) (.agg ys.toArray)).run P w=_;rw [run_equalIn_struct w (d+m) t xs.toArray ys.toArray (by rw [Ye];exact hu) uG,Ye];exact g
        ·simp at h
end
theorem yW {P:Program} {op:BinOp} {t:TypeId} {x y:Operand} {xs ys:Array Value} (h:P.eqGuardType P.depth t=false) (w:World):(eqGuard op t x y (.agg xs) (.agg ys)).run P w= .ok () w:=by
  unfold eqGuard;cases op<;>simp [h]
class JU (P:Program) (t:TypeId) (ks:outParam (List Kd)):Prop where
  pf:∃ m,m≤10000∧Um P t m ks true
  guard:P.eqGuardType P.depth t=false
open Classical in
theorem M5 {P:Program} {N:Nat} {env:Env} {L:List HP} {x y:Operand} {xt yt ty:TypeId} {ks:List Kd} {xs ys:List Value} [h:JU P xt ks] (hx:ev env x=some (.agg xs.toArray)) (hy:ev env y=some (.agg ys.toArray)) (ox:qD ks xs=true) (oy:qD ks ys=true) :
    V P N (.binOp .eql xt x y yt) ty env L (.bool (decide (xs=ys))):=by
  obtain ⟨m,hm,E⟩:=h.pf;have key:∀ w,(Op.equalIn (9999+1) xt (.agg xs.toArray) (.agg ys.toArray)).run P w= .ok (decide (xs=ys)) w:=fun w=>by
    obtain ⟨r,g,q⟩:=E.eq (10000-m) w xs ys ox oy;rw [show 10000-m+m=9999+1 by omega] at g;have:r=decide (xs=ys):=by rw [Bool.eq_iff_iff,q];simp
    rw [←this];exact g
  exact wH hx hy key (fun w=>yW h.guard w) rfl
open Classical in
theorem M6 {P:Program} {N:Nat} {env:Env} {L:List HP} {x y:Operand} {xt yt ty:TypeId} {ks:List Kd} {xs ys:List Value} [h:JU P xt ks] (hx:ev env x=some (.agg xs.toArray)) (hy:ev env y=some (.agg ys.toArray)) (ox:qD ks xs=true) (oy:qD ks ys=true) :
    V P N (.binOp .neq xt x y yt) ty env L (.bool (decide (xs≠ys))):=by
  obtain ⟨m,hm,E⟩:=h.pf;have key:∀ w,(Op.equalIn (9999+1) xt (.agg xs.toArray) (.agg ys.toArray)).run P w= .ok (decide (xs=ys)) w:=fun w=>by
    obtain ⟨r,g,q⟩:=E.eq (10000-m) w xs ys ox oy;rw [show 10000-m+m=9999+1 by omega] at g;have:r=decide (xs=ys):=by rw [Bool.eq_iff_iff,q];simp
    rw [←this];exact g
  have:=AF (P:=P) (N:=N) (L:=L) (ty:=ty) (yt:=yt) hx hy key (fun w=>yW h.guard w) rfl;rwa [←decide_not] at this
end Go.Sx
