/- Shp, Str, Msg, SlT, Bag, BagR: several of my texts as one. My own work. -/
import Derived.Test.YtjihlpjnebdiiabGreatData
import Derived.Laws.BytesString
import Derived.Laws.Strings
set_option linter.unusedVariables false
set_option linter.unusedSectionVars false
set_option linter.unusedSimpArgs false
set_option maxRecDepth 100000
set_option maxHeartbeats 4000000
namespace Go.Sx
open Go Go.Proofs Tryz
section
attribute [local irreducible] Exit.then Exit.inBlock Code.wp WC WO WE WQ V aW dL Sat bz bK dU IntKind.wrap WR Code.rounds WT KO
theorem zc {F:List HP} {n:Int} (hn:dZ n):az prog 133 [.int .i64 n] [] F (fun r L'=>r=(.tuple [.int .i64 (ua n),.bool (q8 n)].toArray)∧L'=[]):=by
  unfold dZ at hn;refine ay func133 ntmps133 ?_;by_cases h:n<1
  ·have e:oW n=none:=by
     cases e:oW n with
     |none=>rfl
     |some k=>have:=qd e;have h0:(0:Int)<2^k:=Int.pow_pos (om);omega
   have e1:ua n=0:=by simp [ua,e]
   have e2:q8 n=false:=by simp [q8,e]
   clear e;repeat first|refine gd ?_|intro _
   (apply ad rfl rfl ar)
   ·rw [e1,e2];exact ⟨rfl,rfl⟩
   ·exact af
  ·cases e:oW n with
   |none=>
    have hb:=HN (om) hn.2 e;have e1:ua n=0:=by simp [ua,e]
    have e2:q8 n=false:=by simp [q8,e]
    clear e;repeat first|refine gd ?_|intro _
    (apply ad rfl rfl ar)
    ·rw [e1,e2];exact ⟨rfl,rfl⟩
    ·exact af
   |some m=>
    obtain ⟨hm,rfl⟩:=qd e;have hb:=Nd hm;have e1:ua (2^m)=m:=by simp [ua,e]
    have e2:q8 (2^m)=true:=by simp [q8,e]
    clear e;repeat first|refine gd ?_|intro _
    apply zT (fun k:Nat=>[(0,.int .i64 (2^m)),(4,.int .i64 (k:Int))]) (fun _=>F) (fun k=>k≤m) (fun k=>m-k) 0
    ·omega
    ·exact Sub.cons rfl (Sub.cons rfl Sub.nil)
    ·exact af
    ·intro k hk;have hf:=Nf hk;have LL:min ((k:Int)).toNat IntKind.i64.bits=k:=by simp [IntKind.bits];omega
     repeat first|refine gd ?_|intro _
     rw [LL,hf];by_cases bB:k<m
     ·have:(1:Int)<2^(m-k):=by
        have:(2:Nat)^1≤2^(m-k):=Nat.pow_le_pow_right (om) (om);have:((2^1:Nat):Int)≤((2^(m-k):Nat):Int):=by exact_mod_cast this
        simp at this;omega
      repeat first|refine gd ?_|intro _
      refine aC (k+1) (om) (om) (Sub.cons rfl (Sub.cons rfl Sub.nil)) ai.refl
     ·obtain rfl:k=m:=by omega
      have:¬(1:Int)<2^(k-k):=by simp
      repeat first|refine gd ?_|intro _
      (apply ad rfl rfl ar)
      ·rw [e1,e2];exact ⟨rfl,rfl⟩
      ·exact af
theorem H3 {F:List HP} {n l m:Int} {p:Bool} (hn:dZ n):az prog 51 [.agg [.int .i64 n,.int .i64 l,.int .i64 m,.bool p].toArray] [] F (fun r L'=>r=(.bool (eJ n l m p))∧L'=[]):=by
  refine ay func51 ntmps51 ?_;cases p
  ·repeat' (first|refine gd ?_|intro _|refine bj ?_ ?_|fail)
   all_goals (apply ad rfl rfl ar;(exact ⟨by first|(simp_all [eJ];done)|(simp_all [eJ];omega),rfl⟩);exact bM)
  ·repeat first|refine gd ?_|intro _
   repeat first|refine gd ?_|intro _|refine ae @zc ?_
   cases h:q8 n;all_goals repeat' (first|refine gd ?_|intro _|refine bj ?_ ?_|fail)
   all_goals (apply ad rfl rfl ar;(exact ⟨by first|(simp_all [eJ];done)|(simp_all [eJ];omega),rfl⟩);exact bM)
def wk (c:au):List (Int×Int×Int×Bool):=[(c.ax,1,64,false),(c.bY,1,16,true),(c.cl,1,64,true),(c.ag,1,8,true),(c.aZ,1,1024,true),(c.al,1,8,false),
  (c.ef,0,8,false),(c.aS,1,8,false),(c.aQ,1,16,false),(c.aw,1,8,false),(c.r0,1,64,false),(c.r1,1,64,false),(c.r2,1,64,false)]
def Ms (b:Int×Int×Int×Bool):List Value:=[.int .i64 b.1,.int .i64 b.2.1,.int .i64 b.2.2.1,.bool b.2.2.2]
theorem Be (c:au):aB c=(wk c).all (fun b=>eJ b.1 b.2.1 b.2.2.1 b.2.2.2):=by
  simp [aB,wk,Bool.and_assoc]
theorem P2 (c:au) (hc:c.wf):∀ b∈wk c,dZ b.1:=by
  intro b hb;obtain ⟨h1,h2,h3,h4,h5,h6,h7,h8,h9,Uu,qG,WU,ZS⟩:=hc;simp only [wk,List.mem_cons,List.not_mem_nil,or_false] at hb;rcases hb with rfl|rfl|rfl|rfl|rfl|rfl|rfl|rfl|rfl|rfl|rfl|rfl|rfl<;>assumption
theorem fT {F:List HP} {c:au} (hc:c.wf):az prog 11 [c.val] [] F (fun r L'=>r=(.int .i64 (cF c))∧L'=[]):=by
  refine ay func11 ntmps11 ?_;repeat first|refine gd ?_|intro _
  apply zT (fun j:Nat=>[(50,.int .i64 (j:Int)),(49,.agg (aj Ms (wk c)).toArray)]) (fun _=>F) (fun j=>j≤13∧∀ i (h:i<(wk c).length),i<j→eJ (wk c)[i].1 (wk c)[i].2.1 (wk c)[i].2.2.1 (wk c)[i].2.2.2=true) (fun j=>13-j) 0
  ·exact ⟨om,fun i h hi=>by omega⟩
  ·exact Sub.cons rfl (Sub.cons rfl Sub.nil)
  ·exact af
  ·rintro j ⟨hj,kQ⟩;by_cases bB:j<13
   ·have hlen:j<(wk c).length:=bB;have hs:=E8 (enc:=Ms) (n:=4) (fun _=>rfl) (wk c) j hlen;repeat first|refine gd ?_|intro _
    refine xG (vV rfl rfl (om) (om) hs rfl) rfl ?_;have Ek:=P2 c hc _ (List.getElem_mem hlen);generalize hb:(wk c)[j]=b at Ek;repeat first|refine gd ?_|intro _
    repeat first|refine gd ?_|intro _|refine ae @H3 ?_
    cases hf:eJ b.1 b.2.1 b.2.2.1 b.2.2.2
    ·repeat first|refine gd ?_|intro _
     have e:aB c=false:=by
       rw [Be,List.all_eq_false];exact ⟨_,List.getElem_mem hlen,by simp [hb,hf]⟩
     (apply ad rfl rfl ar;(exact ⟨by first|(simp [cF,e];done)|(simp [cF,e];omega),rfl⟩);exact bM)
    ·repeat first|refine gd ?_|intro _
     refine aC (j+1) (om) ⟨om,fun i h hi=>?_⟩ (Sub.cons rfl (Sub.cons rfl Sub.nil)) ?_
     ·by_cases G7:i=j
      ·subst G7;rw [hb];exact hf
      ·exact kQ i h (om)
     ·exact af
   ·obtain rfl:j=13:=by omega
    have e:aB c=true:=by
      rw [Be,List.all_eq_true];intro b hb;obtain ⟨i,hi,rfl⟩:=List.getElem_of_mem hb;exact kQ i hi hi
    repeat first|refine gd ?_|intro _
    (apply ad rfl rfl ar;(exact ⟨by first|(simp [cF,e];done)|(simp [cF,e];omega),rfl⟩);exact bM)
theorem E9 {n:Int} (h:q8 n=true):∃ k,k<63∧n=2^k:=by
  unfold q8 at h;cases e:oW n with
  |none=>simp [e] at h
  |some k=>exact ⟨k,qd e⟩
theorem dR {c:au} (h:aB c=true):1≤c.ag∧c.ag≤8∧1≤c.aZ∧c.aZ≤1024:=by
  simp only [aB,eJ,Bool.and_eq_true,decide_eq_true_eq] at h;omega
theorem tL {a b m n:Int} (h1:0≤a) (h2:a≤m) (h3:0≤b) (h4:b≤n) (hn:0≤n):0≤a*b∧a*b≤m*n:=
  ⟨Int.mul_nonneg h1 h3,Int.le_trans (Int.mul_le_mul_of_nonneg_right h2 h3) (Int.mul_le_mul_of_nonneg_left h4 (om))⟩
theorem mn {F:List HP} {c:au} (hc:c.wf):az prog 132 [c.val] [] F (fun r L'=>r=(.int .i64 (eh c))∧L'=[]):=by
  refine ay func132 ntmps132 ?_;repeat first|refine gd ?_|intro _
  repeat first|refine gd ?_|intro _|refine ae @fT ?_
  cases e:aB c
  ·have e1:cF c=1:=by simp [cF,e]
   repeat first|refine gd ?_|intro _
   (apply ad rfl rfl ar;(exact ⟨by first|(simp [eh,e];done)|(simp [eh,e];omega),rfl⟩);exact bM)
  ·have e1:cF c=0:=by simp [cF,e]
   have hw:=dR e;have hm:=tL (m:=8) (n:=1024) (a:=c.ag) (b:=c.aZ) (om) (om) (om) (om) (om);repeat first|refine gd ?_|intro _
   (apply ad rfl rfl ar;(exact ⟨by first|(simp [eh,e];done)|(simp [eh,e];omega),rfl⟩);exact bM)
theorem Gk {F:List HP} {n:Int} (hn:dZ n):az prog 257 [.int .i64 n] [] F (fun r L'=>r=(.tuple [.int .i64 (ua n),.bool (q8 n)].toArray)∧L'=[]):=by
  unfold dZ at hn;refine ay func257 ntmps257 ?_;repeat first|refine gd ?_|intro _
  apply zT (fun k:Nat=>[(0,.int .i64 n),(5,.int .i64 (k:Int)),(4,.int .i64 (IntKind.i64.wrap (2^k)))]) (fun _=>F) (fun k=>k≤63∧∀ j,j<k→(2:Int)^j≠n) (fun k=>64-k) 0
  ·exact ⟨om,fun j hj=>by omega⟩
  ·exact Sub.cons rfl (Sub.cons rfl (Sub.cons (by rw [show IntKind.i64.wrap ((2:Int)^0)=1 from k9 (by decide) (by decide)];rfl) Sub.nil))
  ·exact af
  ·rintro k ⟨hk,h1⟩;by_cases bB:k<63
   ·have hp:=AI bB;have h0:(0:Int)<2^k:=Int.pow_pos (om);rw [k9 (n:=(2:Int)^k) (om) (om)];by_cases he:(2:Int)^k=n
    ·subst he;have e1:ua (2^k)=k:=by simp [ua,vl bB]
     have e2:q8 (2^k)=true:=by simp [q8,vl bB]
     repeat first|refine gd ?_|intro _
     (apply ad rfl rfl ar;(exact ⟨by first|(rw [e1,e2];rfl;done)|(rw [e1,e2];rfl;omega),rfl⟩);exact bM)
    ·repeat first|refine gd ?_|intro _
     refine aC (k+1) (om) ⟨om,fun j hj=>?_⟩ (Sub.cons rfl (Sub.cons rfl (Sub.cons ?_ Sub.nil))) ?_
     ·by_cases e:j=k
      ·subst e;exact he
      ·exact h1 j (om)
     ·rw [Int.pow_succ,Int.mul_comm];rfl
     ·exact af
   ·obtain rfl:k=63:=by omega
    have e:oW n=none:=by
      cases e:oW n with
      |none=>rfl
      |some k=>obtain ⟨h2,h3⟩:=qd e;exact absurd h3.symm (h1 k h2)
    have e1:ua n=0:=by simp [ua,e]
    have e2:q8 n=false:=by simp [q8,e]
    repeat first|refine gd ?_|intro _
    (apply ad rfl rfl ar;(exact ⟨by first|(rw [e1,e2];rfl;done)|(rw [e1,e2];rfl;omega),rfl⟩);exact bM)
theorem Fa {F:List HP} {n l h:Int}:az prog 171 [.int .i64 n,.int .i64 l,.int .i64 h] [] F (fun r L'=>r=(.bool (eJ n l h false))∧L'=[]):=by
  refine ay func171 ntmps171 ?_;repeat' (first|refine gd ?_|intro _|refine bj ?_ ?_|fail)
  all_goals (apply ad rfl rfl ar;(exact ⟨by first|(simp_all [eJ];done)|(simp_all [eJ];omega),rfl⟩);exact bM)
theorem Gl {F:List HP} {n h:Int} (hn:dZ n):az prog 172 [.int .i64 n,.int .i64 h] [] F (fun r L'=>r=(.bool (eJ n 1 h true))∧L'=[]):=by
  refine ay func172 ntmps172 ?_;repeat first|refine gd ?_|intro _
  repeat first|refine gd ?_|intro _|refine ae @Gk ?_
  have key:q8 n=true→1≤n:=fun e=>by
    obtain ⟨k,hk,rfl⟩:=E9 e;have:(0:Int)<2^k:=Int.pow_pos (om);omega
  cases e:q8 n
  ·repeat first|refine gd ?_|intro _
   (apply ad rfl rfl ar;(exact ⟨by first|(simp [eJ,e];done)|(simp [eJ,e];omega),rfl⟩);exact bM)
  ·have:=key e;repeat first|refine gd ?_|intro _
   (apply ad rfl rfl ar;(exact ⟨by first|(simp [eJ,e,this];done)|(simp [eJ,e,this];omega),rfl⟩);exact bM)
theorem eC {F:List HP} {c:au} (hc:c.wf):az prog 85 [c.val] [] F (fun r L'=>r=(.int .i64 (cF c))∧L'=[]):=by
  obtain ⟨h1,h2,h3,h4,h5,h6,h7,h8,h9,Uu,qG,WU,ZS⟩:=hc;refine ay func85 ntmps85 ?_;repeat' (first|refine gd ?_|intro _|refine ae @Fa ?_|refine ae @Gl ?_|refine bj ?_ ?_|fail)
  all_goals try (refine vn 4 ?_;repeat' (first|refine gd ?_|intro _|refine ae @Fa ?_|refine bj ?_ ?_|fail))
  all_goals (apply ad rfl rfl ar;(exact ⟨by first|(simp_all [cF,aB];done)|(simp_all [cF,aB];omega),rfl⟩);exact bM)
end
section
open Go
def SD (ns:List Int):ByteArray:=ns.foldl (fun r n=>r.push (UInt8.ofNat n.toNat)) ByteArray.empty
def WV (s:ByteArray) (n:Nat):Int:=match s.data.toList[n]? with|some b=>(b.toNat:Int)|none=>0
abbrev Yu (n:Int):List Value:=[.int .u8 n]
section
variable {P:Program} {N:Nat} {t ty xt yt:TypeId} {x y:Operand} {env:Env} {L:List HP}
theorem lv {k:IntKind} {i:Int} {s:ByteArray} [hT:TU P t .string] (hx:ev env x=some (.string s)) (hy:ev env y=some (.int k i)) (h0:0≤i) (h1:i<(s.size:Int)) :
    V P N (.index t x y) ty env L (.int .u8 (WV s i.toNat)):=by
  intro a w ha _;have h2:i.toNat<s.size:=by omega
  have h3:s[i.toNat]? =some s[i.toNat]:=getElem?_pos s _ h2;have h4:WV s i.toNat=((s[i.toNat]).toNat:Int):=by
    unfold WV;rw [Array.getElem?_toList,Array.getElem?_eq_getElem (by simpa using h2)];rfl
  simp only [execOp,ha.ev hx,ha.ev hy,Instr.index,asIntOf,run_underlying hT.pf,Sem.run_bind,Sem.run_pure,Result.andThen_ok,if_pos h0,h3,h4]
theorem oP {a b:ByteArray} (hx:ev env x=some (.string a)) (hy:ev env y=some (.string b)):V P N (.binOp .eql xt x y yt) ty env L (.bool (decide (a=b))):=by
  intro f w ha _;have e:(eqGuard .eql xt x y (.string a) (.string b)).run P w= .ok () w:=by unfold eqGuard;simp
  have hb:(a.toList == b.toList)=decide (a=b):=by
    rw [ByteArray.toList_eq,ByteArray.toList_eq,Bool.eq_iff_iff,beq_iff_eq,decide_eq_true_iff];constructor
    ·intro h;cases a;cases b;simp only [Array.toList_inj] at h;simp [h]
    ·intro h;rw [h]
  simp [execOp,ha.ev hx,ha.ev hy,e,binOp,Op.stringOp,hb]
theorem oQ {a b:ByteArray} (hx:ev env x=some (.string a)) (hy:ev env y=some (.string b)):V P N (.binOp .neq xt x y yt) ty env L (.bool (decide (a≠b))):=by
  intro f w ha _;have e:(eqGuard .neq xt x y (.string a) (.string b)).run P w= .ok () w:=by unfold eqGuard;simp
  have hb:(a.toList == b.toList)=decide (a=b):=by
    rw [ByteArray.toList_eq,ByteArray.toList_eq,Bool.eq_iff_iff,beq_iff_eq,decide_eq_true_iff];constructor
    ·intro h;cases a;cases b;simp only [Array.toList_inj] at h;simp [h]
    ·intro h;rw [h]
  simp [execOp,ha.ev hx,ha.ev hy,e,binOp,Op.stringOp,hb]
theorem lz {lo:Option Operand} {l:Nat} {s:ByteArray} [hT:TU P t .string] (hx:ev env x=some (.string s)) (hl:Ak env lo 0 l) (h:l≤s.size) :
    V P N (.slice t x lo none none) ty env L (.string (s.extract l s.size)):=by
  intro a w ha hw;have e1:(Instr.sliceAt t (.string s) (lo.map a.eval) none none).run P w= .ok (.string (s.extract l s.size)) w:=by
    cases hl with
    |none=>simp [Instr.sliceAt,Instr.slice,Instr.sliceBounds,run_underlying hT.pf]
    |some q q0=>simp [Instr.sliceAt,Instr.slice,Instr.sliceBounds,run_underlying hT.pf,ha.ev q,gM q0 h]
  simp [execOp,ha.ev hx,e1]
theorem wI {src dst e:TypeId} {v:Value} {n:Nat} {xs:List Value} {ns:List Int} [hs:TU P src (.slice e)] [he:TU P e (.int .u8)] [hd:TU P dst .string] (hx:ev env x=some v) (hr:bN L 1 v n xs) (hn:xs=aj Yu ns) :
    V P N (.convert src dst x) ty env L (.string (SD ns)):=by
  intro a w ha hw;have Sb:aj Yu ns=ns.map (Value.int .u8):=by
    clear hn;induction ns with
    |nil=>rfl
    |cons b r ih=>rw [List.map_cons,←ih];rfl
  have hlen:=hr.len w hw;have e1:(convert src dst v).run P w= .ok (.string (SD ns)) w:=by
    rcases hr.pf w hw with ⟨p,c,rfl,rfl⟩|⟨b,o,c,rfl,hc⟩
    ·rw [run_convert_bytes_string w src dst e _ _ _ hs.pf he.pf hd.pf];have U0:ns=[]:=by rw [hn,Sb] at hlen;exact List.eq_nil_of_length_eq_zero (by simpa using hlen)
     subst U0;cases p with
     |none=>simp [Conv.bytesToString,SD]
     |some p=>
      rw [run_bytesToString w p 0 c [] (by simp [loadCells,loadCellsFrom])];rfl
    ·rw [run_convert_bytes_string w src dst e _ _ _ hs.pf he.pf hd.pf];rw [run_bytesToString w _ n c ns ?_]
     ·rfl
     ·rw [←Sb,←hn];exact gK (om) hc
  simp [execOp,ha.ev hx,e1]
def Nq:TypeDesc→Bool
  | .interface _=>true
  |_=>false
theorem wJ {d:TypeDesc} {u:Value} [hT:TU P t d] (hx:ev env x=some u) (hd:Nq d=false):V P N (.makeInterface t x) ty env L (.iface t u):=by
  intro a w ha _;have e1:(Instr.makeInterface t u).run P w= .ok (.iface t u) w:=by
    cases d<;>first|(cases hd;done)|simp [Instr.makeInterface,run_underlying hT.pf]
  simp [execOp,ha.ev hx,e1]
def Cm (want:Array (String×TypeId)) (gY:Array Method):List (String×TypeId):=want.toList.filter fun p=> !gY.any fun m=>m.name == p.1&& m.sig == p.2
theorem Ks {want:Array (String×TypeId)} {gY:Array Method} (h:Cm want gY=[]):Instr.missingMethod want gY=none:=by
  unfold Instr.missingMethod;unfold Cm at h;simp only [h,List.map_nil,List.partition_eq_filter_filter,List.filter_nil];rfl
theorem Bf {l:List String} (h:l≠[]):∃ m,Instr.least l=some m:=by
  cases l with
  |nil=>exact absurd rfl h
  |cons a r=>exact ⟨_,rfl⟩
theorem Kt {want:Array (String×TypeId)} {gY:Array Method} (h:Cm want gY≠[]):∃ m,Instr.missingMethod want gY=some m:=by
  unfold Instr.missingMethod;unfold Cm at h;simp only [List.partition_eq_filter_filter];generalize List.filter (fun p=> !gY.any fun m=>m.name == p.1&& m.sig == p.2) want.toList=l at h;by_cases h1:List.filter (not∘fun x:String=>x.contains '.') (List.map (fun x=>x.1) l)=[]
  ·rw [h1];have h2:List.filter (fun x:String=>x.contains '.') (List.map (fun x=>x.1) l)≠[]:=fun h2=>by
     cases l with
     |nil=>exact h rfl
     |cons a r=>
      have k1:=List.filter_eq_nil_iff.1 h1 a.1 (by simp);have k2:=List.filter_eq_nil_iff.1 h2 a.1 (by simp);simp only [Function.comp] at k1;revert k1 k2;generalize (a.1.contains '.')=b;cases b<;>simp
   obtain ⟨m,hm⟩:=Bf (l:=List.map (fun id=>(String.splitOn id ".").getLastD id) (List.filter (fun x:String=>x.contains '.') (List.map (fun x=>x.1) l))) (by simpa using h2);exact ⟨m,by rw [hm];rfl⟩
  ·obtain ⟨m,hm⟩:=Bf h1;exact ⟨m,by rw [hm];rfl⟩
def SE (P:Program) (t lD:TypeId):Option Bool:=match P.underlying lD,P.info? t with
  |some (.interface want),some i=>some (Cm want i.methods).isEmpty
  |_,_=>none
class Has (P:Program) (t lD:TypeId) (b:outParam Bool):Prop where
  pf:SE P t lD=some b
theorem Mt {t lD:TypeId} {b:Bool} (h:SE P t lD=some b):∃ want i,P.underlying lD=some (.interface want)∧P.info? t=some i∧(Cm want i.methods).isEmpty=b:=by
  unfold SE at h;split at h
  ·rename_i want i h1 h2;exact ⟨want,i,h1,h2,by simpa using h⟩
  ·cases h
theorem qf {u:Value} {lD:TypeId} (hx:ev env x=some (.iface t u)) (h:Has P t lD true):V P N (.typeAssert x xt lD true) ty env L (.tuple [.iface t u,.bool true].toArray):=by
  obtain ⟨want,i,h1,h2,h3⟩:=Mt h.pf;intro a w ha _;have h4:Instr.missingMethod want i.methods=none:=Ks (by simpa using h3);simp [execOp,ha.ev hx,Instr.typeAssert,run_underlying h1,typeInfo,h2,h4]
theorem qg {u z:Value} {lD:TypeId} {n bs:Nat} [hZ:TZ P lD n z bs] (hx:ev env x=some (.iface t u)) (h:Has P t lD false):V P N (.typeAssert x xt lD true) ty env L (.tuple [z,.bool false].toArray):=by
  obtain ⟨want,i,h1,h2,h3⟩:=Mt h.pf;intro a w ha _;obtain ⟨m,e⟩:=Kt (want:=want) (gY:=i.methods) (fun h=>by rw [h] at h3;cases h3);simp [execOp,ha.ev hx,Instr.typeAssert,run_underlying h1,typeInfo,h2,e,jI hZ]
class xH (P:Program) (t:TypeId) (v:Value) (name:String) (k:outParam FuncId) (r:outParam Value):Prop where
  pf:∀ w,(method (P.types.size+Made.depth) t v name).run P w= .ok (k,r) w
theorem H4 {ρ:Operand→Value} {f:Operand} {args:List Operand} {ats:Array TypeId} {k:FuncId} {tv:TypeId} {v r:Value} {name:String} {vs:List Value} (hf:ρ f= .iface tv v) (hm:xH P tv v name k r) (ha:r::args.map ρ=vs)
    (he:sk P k) (w:World):(execOp ρ ⟨none,.call ⟨.invoke f name,args.toArray,ats⟩,ty, "", #[],none⟩).run P w= .ok (.enter k vs.toArray) w:=by
  have e1:(program).run P w= .ok P w:=by simp
  simp only [execOp,resolve,hf,Sem.run_bind,Sem.run_pure,Result.andThen_ok,invoke];have e2:((#[Value.iface tv v]++args.toArray.map ρ)[0]? :Option Value)=some (.iface tv v):=by simp
  simp only [e2,callMethod,Sem.run_bind,e1,Result.andThen_ok,hm.pf];rw [he];congr 2;apply Array.ext';simp only [←ha,Array.toList_append,Array.toList_extract,List.map_toArray];simp [List.extract_eq_take_drop];exact List.take_of_length_le (by simp)
theorem Jl {recv:Operand} {args:List Operand} {ats:Array TypeId} {k:FuncId} {tv:TypeId} {v r:Value} {name:String} {OQ vs:List Value} {pre F:List HP} {post:Value→List HP→Prop}
    {pos:String} {c9:Array Edge} {d:Option Nat}
    (hf:ev env recv=some (.iface tv v)) (hm:xH P tv v name k r) (ha:Cq env args=some OQ) (hv:r::OQ=vs) (hd:sh N d=true) (C:az P k vs pre F post) (hE:rh pre L F) :
    KO P N ⟨d,.call ⟨.invoke recv name,args.toArray,ats⟩,ty,pos,c9,none⟩ env L (Hh env d F post):=by
  intro a w hA hw K Q next
  unfold Oper.wp;rw [cY,H4 (vs:=vs) (hA.ev hf) hm (by rw [hA.Cq ha];exact hv) C.enters w];refine (C.runs w (hE.pf.gX hw)).mono fun e w' ⟨v,L',he,hp,hs⟩=>?_;subst he;exact next _ _ _ w' ⟨v,L',hp,rfl,rfl⟩ (hA.B1 hd v) hs
end
set_option maxRecDepth 100000
theorem str {Q P:Prop} (k:Q) (h:Hid Q→P:=by
  intro k
  (first|(apply xG;(first|(apply lv;rfl;rfl;omega;omega)|(apply oP;rfl;rfl)|(apply oQ;rfl;rfl)|(apply lz;rfl;exact JZ;omega)|(apply wI;rfl;exact inferInstance;(first|rfl|(with_reducible assumption)))|(apply wJ;rfl;rfl)|(apply qf;rfl;exact inferInstance)|(apply qg;rfl;exact inferInstance));rfl)|(apply F0;rfl;exact qy;(first|(apply lv;rfl;rfl;omega;omega)|(apply oP;rfl;rfl)|(apply oQ;rfl;rfl)|(apply lz;rfl;exact JZ;omega)|(apply wI;rfl;exact inferInstance;(first|rfl|(with_reducible assumption)))|(apply wJ;rfl;rfl)|(apply qf;rfl;exact inferInstance)|(apply qg;rfl;exact inferInstance));rfl)|(apply F1;rfl;exact qy;(first|(apply lv;rfl;rfl;omega;omega)|(apply oP;rfl;rfl)|(apply oQ;rfl;rfl)|(apply lz;rfl;exact JZ;omega)|(apply wI;rfl;exact inferInstance;(first|rfl|(with_reducible assumption)))|(apply wJ;rfl;rfl)|(apply qf;rfl;exact inferInstance)|(apply qg;rfl;exact inferInstance));rfl)|(apply FZ;rfl;exact qy;(first|(apply lv;rfl;rfl;omega;omega)|(apply oP;rfl;rfl)|(apply oQ;rfl;rfl)|(apply lz;rfl;exact JZ;omega)|(apply wI;rfl;exact inferInstance;(first|rfl|(with_reducible assumption)))|(apply wJ;rfl;rfl)|(apply qf;rfl;exact inferInstance)|(apply qg;rfl;exact inferInstance));rfl)|(apply zM;(first|(apply lv;rfl;rfl;omega;omega)|(apply oP;rfl;rfl)|(apply oQ;rfl;rfl)|(apply lz;rfl;exact JZ;omega)|(apply wI;rfl;exact inferInstance;(first|rfl|(with_reducible assumption)))|(apply wJ;rfl;rfl)|(apply qf;rfl;exact inferInstance)|(apply qg;rfl;exact inferInstance));rfl))
  exact k.out):P:=h ⟨k⟩
theorem jJ {C Q P:Prop} (c:C) (k:Q) (h:C→Hid Q→P:=by
  intro c k
  first
  |(apply mY;rfl;(focus (apply Jl;rfl;exact inferInstance;rfl;rfl;rfl;apply c;(all_goals (try (focus ((repeat (first|(with_reducible exact vI)|(apply sB;focus (repeat (first|(with_reducible exact qM)|(apply ol))))));done))));(all_goals (focus (first|(with_reducible assumption)|exact inferInstance|exact qV inferInstance rfl rfl|(with_reducible rfl)|omega|(unfold dZ;omega)|(constructor<;>omega)|decide)))));refine ru ?_;exact k.out)
  |(apply kO;rfl;exact qy;(focus (apply Jl;rfl;exact inferInstance;rfl;rfl;rfl;apply c;(all_goals (try (focus ((repeat (first|(with_reducible exact vI)|(apply sB;focus (repeat (first|(with_reducible exact qM)|(apply ol))))));done))));(all_goals (focus (first|(with_reducible assumption)|exact inferInstance|exact qV inferInstance rfl rfl|(with_reducible rfl)|omega|(unfold dZ;omega)|(constructor<;>omega)|decide)))));refine ru ?_;exact k.out)):P:=h c ⟨k⟩
end
section
def ee (k:Int):Int:=if 1≤k∧k≤3 then 0 else if 4≤k∧k≤6 then 1 else if 7≤k∧k≤11 then 2 else -1
def cA (k:Int):Prop:=(1≤k∧k≤3)∨k=11
instance (k:Int):Decidable (cA k):=by unfold cA;infer_instance
def fQ (c:au) (m:bA):Int:=m.aa.tmod c.bY
def An (n k:Int):Prop:=0≤n∧n<k
instance (n k:Int):Decidable (An n k):=by unfold An;infer_instance
def eD (c:au) (m:bA) (a:Bool):Prop:=m.mu=0∧m.bI=0∧0≤m.aH∧m.aH<(if a then c.ax else 1)
instance (c:au) (m:bA) (a:Bool):Decidable (eD c m a):=by unfold eD;infer_instance
def nq (c:au) (m:bA):Prop:=(0≤m.src∧m.src<c.ax)∧m.dst=fQ c m∧eD c m false
instance (c:au) (m:bA):Decidable (nq c m):=by unfold nq;infer_instance
def fC (c:au) (m:bA) (a:Bool):Prop:=m.src=fQ c m∧(0≤m.dst∧m.dst<c.ax)∧eD c m a
instance (c:au) (m:bA) (a:Bool):Decidable (fC c m a):=by unfold fC;infer_instance
def dD (c:au) (m:bA):Prop:=(0≤m.src∧m.src<c.ax)∧(0≤m.dst∧m.dst<c.ax)∧m.src≠m.dst∧eD c m false
instance (c:au) (m:bA):Decidable (dD c m):=by unfold dD;infer_instance
def bV (c:au) (m:bA) (a:Bool):Prop:=(0≤m.mu∧m.mu<c.ax)∧m.mu≠m.dst∧fC c { m with mu:=0} a
instance (c:au) (m:bA) (a:Bool):Decidable (bV c m a):=by unfold bV;infer_instance
def g9 (c:au) (m:bA):Prop:=(m.bI=1∨m.bI=2∨m.bI=4)∧(0≤m.aH∧m.aH<c.ax)∧(0≤m.dst∧m.dst<c.ax)∧((m.mu=0∧m.src=fQ c m)∨(m.mu=1∧(0≤m.src∧m.src<c.ax)∧m.src≠m.dst))
instance (c:au) (m:bA):Decidable (g9 c m):=by unfold g9;infer_instance
def Words.at (w:Words) (i:Nat):Int:=w.list.getD i 0
def oC (c:au) (w:Words) (i:Nat):Prop:= -2147483648≤w.at i∧w.at i≤2147483647∧(c.ag≤i→w.at i=0)
instance (c:au) (w:Words) (i:Nat):Decidable (oC c w i):=by unfold oC;infer_instance
def cG (c:au) (w:Words):Prop:=∀ i,i<8→oC c w i
instance (c:au) (w:Words):Decidable (cG c w):=by unfold cG;infer_instance
def iF (c:au) (m:bA):Prop:=
  if cA m.ah then nq c m else if m.ah=4∨m.ah=6 then bV c m false else if m.ah=5 then bV c m true else if m.ah=7 then g9 c m else if m.ah=8 then fC c m true else if m.ah=10 then fC c m false else dD c m
instance (c:au) (m:bA):Decidable (iF c m):=by unfold iF;infer_instance
def iG (k:Int):Prop:=k=3∨k=7
instance (k:Int):Decidable (iG k):=by unfold iG;infer_instance
def fM (c:au) (m:bA):Prop:=if iG m.ah then cG c m.ag else m.ag= .zero
instance (c:au) (m:bA):Decidable (fM c m):=by unfold fM;infer_instance
def bU (c:au) (m:bA):Prop:=aB c=true∧(1≤m.ah∧m.ah≤11)∧(0≤m.aa∧m.aa<c.aZ)∧iF c m∧fM c m
instance (c:au) (m:bA):Decidable (bU c m):=by unfold bU;infer_instance
instance:xH prog 414 (.agg #[]) "mesne/message.fits" 389 (.agg #[]):=⟨fun w=>by kernel_rfl⟩
instance:xH prog 416 (.agg #[]) "mesne/message.fits" 389 (.agg #[]):=⟨fun w=>by kernel_rfl⟩
instance:xH prog 416 (.agg #[]) "mesne/message.words" 392 (.agg #[]):=⟨fun w=>by kernel_rfl⟩
instance:xH prog 419 (.agg #[]) "mesne/message.fits" 396 (.agg #[]):=⟨fun w=>by kernel_rfl⟩
instance:xH prog 419 (.agg #[]) "mesne/message.words" 397 (.agg #[]):=⟨fun w=>by kernel_rfl⟩
instance:xH prog 421 (.agg #[]) "mesne/message.fits" 398 (.agg #[]):=⟨fun w=>by kernel_rfl⟩
instance:xH prog 418 (.agg #[.bool false]) "mesne/message.fits" 394 (.agg #[.bool false]):=⟨fun w=>by kernel_rfl⟩
instance:xH prog 418 (.agg #[.bool true]) "mesne/message.fits" 394 (.agg #[.bool true]):=⟨fun w=>by kernel_rfl⟩
instance:xH prog 420 (.agg #[.bool false]) "mesne/message.fits" 395 (.agg #[.bool false]):=⟨fun w=>by kernel_rfl⟩
instance:xH prog 420 (.agg #[.bool true]) "mesne/message.fits" 395 (.agg #[.bool true]):=⟨fun w=>by kernel_rfl⟩
instance:Has prog 416 398 true:=⟨by kernel_rfl⟩
instance:Has prog 419 398 true:=⟨by kernel_rfl⟩
instance:Has prog 414 398 false:=⟨by kernel_rfl⟩
instance:Has prog 420 398 false:=⟨by kernel_rfl⟩
instance:Has prog 421 398 false:=⟨by kernel_rfl⟩
instance:Has prog 418 398 false:=⟨by kernel_rfl⟩
attribute [local irreducible] Exit.then Exit.inBlock Code.wp WC WO WE WQ V aW dL Sat bz bK dU IntKind.wrap WR Code.rounds WT KO
theorem qQ {F:List HP} {k:Int}:az prog 233 [.int .i64 k] [] F (fun r L'=>r= .int .i64 (ee k)∧L'=[]):=by
  refine ay func233 ntmps233 ?_;repeat' (first|refine gd ?_|intro _|refine bj ?_ ?_|fail)
  all_goals ((apply ad rfl rfl ar);(refine ⟨congrArg (Value.int .i64) ?_,rfl⟩;unfold ee;repeat (first|rfl|(rw [if_pos (om)])|(rw [if_neg (om)])));exact af)
theorem wX {F:List HP} {k:Int}:az prog 284 [.int .i64 k] [] F (fun r L'=>r= .bool (decide (cA k))∧L'=[]):=by
  have h:ee k=0↔(1≤k∧k≤3):=by unfold ee;split<;>(try split)<;>(try split)<;>omega
  refine ay func284 ntmps284 ?_;repeat' (first|refine gd ?_|intro _|refine ae @qQ ?_|refine bj ?_ ?_|fail)
  all_goals (apply ad rfl rfl ar;(refine ⟨congrArg Value.bool ?_,rfl⟩;(first|(refine decide_eq_decide.2 ?_)|(refine (decide_eq_true ?_).symm)|(refine (decide_eq_false ?_).symm));(first|omega|(simp only [cA,h];omega)));exact bM)
theorem jt {F:List HP} {n k:Int}:az prog 328 [.int .i64 n,.int .i64 k] [] F (fun r L'=>r= .bool (decide (An n k))∧L'=[]):=by
  refine ay func328 ntmps328 ?_;repeat' (first|refine gd ?_|intro _|refine bj ?_ ?_|fail)
  all_goals (apply ad rfl rfl ar;(refine ⟨congrArg Value.bool ?_,rfl⟩;(first|(refine decide_eq_decide.2 ?_)|(refine (decide_eq_true ?_).symm)|(refine (decide_eq_false ?_).symm));(first|omega|(simp only [An];omega)));exact bM)
theorem AL {F:List HP} {c:au} {m:bA} (h:c.bY≠0):az prog 390 [c.val,mv m] [] F (fun r L'=>r= .int .i64 (fQ c m)∧L'=[]):=by
  refine ay func390 ntmps390 ?_;repeat first|refine gd ?_|intro _
  (apply ad rfl rfl ar;(first|exact cS|exact ⟨by simp [fQ]<;>omega,rfl⟩);exact bM)
theorem vo {F:List HP} {c:au} {m:bA} {a:Bool}:az prog 391 [c.val,mv m,.bool a] [] F (fun r L'=>r= .bool (decide (eD c m a))∧L'=[]):=by
  refine ay func391 ntmps391 ?_;cases a with
  |true=>
   repeat' (first|refine gd ?_|intro _|refine ae @jt ?_|refine bj ?_ ?_|fail)
   all_goals (apply ad rfl rfl ar;(refine ⟨congrArg Value.bool ?_,rfl⟩;(first|(refine decide_eq_decide.2 ?_)|(refine (decide_eq_true ?_).symm)|(refine (decide_eq_false ?_).symm));(first|omega|(simp only [eD,An,if_true];omega)));exact bM)
  |false=>
   repeat' (first|refine gd ?_|intro _|refine ae @jt ?_|refine bj ?_ ?_|fail)
   all_goals (apply ad rfl rfl ar;(refine ⟨congrArg Value.bool ?_,rfl⟩;(first|(refine decide_eq_decide.2 ?_)|(refine (decide_eq_true ?_).symm)|(refine (decide_eq_false ?_).symm));(first|omega|(simp only [eD,An,Bool.false_eq_true,if_false];omega)));exact bM)
theorem DI {F:List HP} {c:au} {m:bA} (h:c.bY≠0):az prog 389 [.agg #[],c.val,mv m] [] F (fun r L'=>r= .bool (decide (nq c m))∧L'=[]):=by
  have hW:=fun F=>jt (F:=F) (n:=m.src) (k:=c.ax);simp only [An] at hW;refine ay func389 ntmps389 ?_;repeat' (first|refine gd ?_|intro _|refine ae @hW ?_|refine ae @AL ?_|refine ae @vo ?_|refine bj ?_ ?_|fail)
  all_goals (apply ad rfl rfl ar;(refine ⟨congrArg Value.bool ?_,rfl⟩;(first|(refine decide_eq_decide.2 ?_)|(refine (decide_eq_true ?_).symm)|(refine (decide_eq_false ?_).symm));(first|omega|(simp only [nq,eD,Bool.false_eq_true,if_false];omega)));exact bM)
theorem AM {F:List HP} {c:au} {m:bA} {a:Bool} (h:c.bY≠0):az prog 395 [.agg #[.bool a],c.val,mv m] [] F (fun r L'=>r= .bool (decide (fC c m a))∧L'=[]):=by
  have hW:=fun F=>jt (F:=F) (n:=m.dst) (k:=c.ax);simp only [An] at hW;refine ay func395 ntmps395 ?_;repeat' (first|refine gd ?_|intro _|refine ae @hW ?_|refine ae @AL ?_|refine ae @vo ?_|refine bj ?_ ?_|fail)
  all_goals first|(apply ad rfl rfl ar;(refine ⟨congrArg Value.bool ?_,rfl⟩;(first|(refine decide_eq_decide.2 ?_)|(refine (decide_eq_true ?_).symm)|(refine (decide_eq_false ?_).symm));(first|omega|(simp only [fC];omega)));exact bM)|(apply ad rfl rfl (by repeat (first|exact lr.nil|(apply lr.tmp;rfl)));(refine ⟨congrArg Value.bool (decide_eq_decide.2 ⟨fun h=>⟨by assumption,by assumption,h⟩,fun h=>h.2.2⟩),rfl⟩);exact bM)
theorem H5 {F:List HP} {c:au} {m:bA}:az prog 398 [.agg #[],c.val,mv m] [] F (fun r L'=>r= .bool (decide (dD c m))∧L'=[]):=by
  have hW:=fun F=>jt (F:=F) (n:=m.src) (k:=c.ax);have hV:=fun F=>jt (F:=F) (n:=m.dst) (k:=c.ax);simp only [An] at hW hV;refine ay func398 ntmps398 ?_;repeat' (first|refine gd ?_|intro _|refine ae @hW ?_|refine ae @hV ?_|refine ae @vo ?_|refine bj ?_ ?_|fail)
  all_goals (apply ad rfl rfl ar;(refine ⟨congrArg Value.bool ?_,rfl⟩;(first|(refine decide_eq_decide.2 ?_)|(refine (decide_eq_true ?_).symm)|(refine (decide_eq_false ?_).symm));(first|omega|(simp only [dD,eD,Bool.false_eq_true,if_false];omega)));exact bM)
theorem uM {F:List HP} {c:au} {m:bA} {a:Bool} (h:c.bY≠0):az prog 394 [.agg #[.bool a],c.val,mv m] [] F (fun r L'=>r= .bool (decide (bV c m a))∧L'=[]):=by
  have hW:=fun F=>jt (F:=F) (n:=m.mu) (k:=c.ax);have hD:=fun F=>AM (F:=F) (c:=c) (m:={ m with mu:=0}) (a:=a) h;simp only [An] at hW;refine ay func394 ntmps394 ?_;repeat' (first|refine gd ?_|intro _|refine ae @hW ?_|refine ae @hD ?_|refine bj ?_ ?_|fail)
  all_goals first|(apply ad rfl rfl ar;(refine ⟨congrArg Value.bool ?_,rfl⟩;(first|(refine decide_eq_decide.2 ?_)|(refine (decide_eq_true ?_).symm)|(refine (decide_eq_false ?_).symm));(first|omega|(simp only [bV];omega)));exact bM)|(apply ad rfl rfl (by repeat (first|exact lr.nil|(apply lr.tmp;rfl)));(refine ⟨congrArg Value.bool (decide_eq_decide.2 ⟨fun h=>⟨by assumption,by assumption,h⟩,fun h=>h.2.2⟩),rfl⟩);exact bM)
theorem H6 {Q P:Prop} (k:Q) (h:Hid Q→P:=by
  intro k
  first
  |(refine an ?_;refine bF (id:=6) .false (pl:= .p 0 <| .r 1 <| .r 2 <| .r 3 <| .e true [(4,.p 5 <| .p 6 <| .done)]) k.out)):P:=h ⟨k⟩
theorem Nr {F:List HP} {c:au} {m:bA} (h:c.bY≠0):az prog 396 [.agg #[],c.val,mv m] [] F (fun r L'=>r= .bool (decide (g9 c m))∧L'=[]):=by
  have hW:=fun F=>jt (F:=F) (n:=m.src) (k:=c.ax);have hV:=fun F=>jt (F:=F) (n:=m.dst) (k:=c.ax);have hP:=fun F=>vo (F:=F) (c:=c) (m:={ m with mu:=0,bI:=0}) (a:=true);have hH:=fun F=>AL (F:=F) (c:=c) (m:={ m with mu:=0,bI:=0}) h;simp only [eD,if_true,An,true_and] at hW hV hP;have hh:fQ c { m with mu:=0,bI:=0}=fQ c m:=rfl;simp only [hh] at hH;refine ay func396 ntmps396 ?_;repeat' (first|refine go ?_|intro _|refine H6 ?_|refine av ?_|refine ae @hW ?_|refine ae @hV ?_|refine ae @hP ?_|refine ae @hH ?_|refine bj ?_ ?_|fail)
  all_goals (apply ad rfl rfl ar;(refine ⟨congrArg Value.bool ?_,rfl⟩;(first|(refine decide_eq_decide.2 ?_)|(refine (decide_eq_true ?_).symm)|(refine (decide_eq_false ?_).symm));(first|omega|(simp only [g9];omega)));exact bM)
end
section
attribute [local irreducible] Exit.then Exit.inBlock Code.wp WC WO WE WQ V aW dL Sat bz bK dU IntKind.wrap WR Code.rounds WT KO
theorem DV {e:TypeId} {sz g n i j cap:Nat} {xs spare zs:List Value} {M:List HP} (G7:i≤j) (hj:j≤n) (q1:xs.length=n*sz) (q2:xs.all one=true) (h1:n≤cap) (h2:cap≤maxLen) (h3:spare.length=(cap-n)*sz)
    (hz:zs.length=n*sz-(i+(n-j))*sz) (a1:(i+(n-j))*sz=i*sz+(n-j)*sz) (a2:(i+(n-j))*sz≤n*sz) (a3:j*sz≤n*sz) (a4:n*sz≤cap*sz) (a5:(cap-n)*sz=cap*sz-n*sz) (a6:(n-j)*sz=n*sz-j*sz) :
    ai (ao g e (aV (aV (xs++spare) (i*sz) ((xs.drop (j*sz)).take ((n-j)*sz))) (0+(i+(n-j))*sz) zs)::M)
      (aT e sz (.slice (some ⟨g,0,none⟩) (i+(n-j)) cap) (i+(n-j)) (xs.take (i*sz)++xs.drop (j*sz))::M):=by
  have e1:(List.drop (j*sz) xs).take ((n-j)*sz)=List.drop (j*sz) xs:=List.take_of_length_le (by simp;omega);have e2:(List.drop (j*sz) xs).length=(n-j)*sz:=by simp;omega
  rw [e1,Nat.zero_add];have hl:=dF (l:=xs++spare) (ys:=List.drop (j*sz) xs) (o:=i*sz) (by simp;omega);refine lE (cap:=cap) ?_ (om) h2 ?_ ?_ ai.refl
  ·rw [dF,hl,List.length_append,q1,h3]
   ·omega
   ·rw [hl,List.length_append];omega
  ·rw [u9 (by rw [hl,List.length_append];omega) (om)];have:=rv (l:=xs++spare) (ys:=List.drop (j*sz) xs) (o:=i*sz) (by simp;omega);rw [a1,←e2,this,List.take_append_of_le_length (om)]
  ·rw [List.all_append,List.all_eq_true.2 fun u hu=>List.all_eq_true.1 q2 u (List.mem_of_mem_take hu),List.all_eq_true.2 fun u hu=>List.all_eq_true.1 q2 u (List.mem_of_mem_drop hu)];rfl
theorem DW {z:List Value} {k n:Nat} (h:z.length=n):(List.replicate k z).flatten.length=k*n:=by simp [h]
theorem tf {F:List HP} {v:Value} {n:Nat} {xs:List Value} (k:bN F 1 v n xs) (hn:n≤1099511627776):az prog 365 [v] [] F (fun r L'=>∃ p c,r= .slice p n c∧L'=[aT 3 1 (.slice p n c) n xs]):=by
  refine ay func365 ntmps365 ?_;refine Ch (v:=v) k fun q1 q2 p c0 e q3=>?_;subst e;cases p with
  |none=>
   obtain rfl:=q3 rfl;obtain rfl:xs=[]:=List.eq_nil_of_length_eq_zero (by simpa using q1);repeat first|refine gd ?_|intro _
   (apply ad rfl rfl ar)
   ·exact ⟨_,_,rfl,rfl⟩
   ·exact aI ai.refl
  |some a=>
   repeat first|refine gd ?_|intro _
   simp only [Nat.zero_add,List.nil_append];(apply ad rfl rfl ar)
   ·exact ⟨_,_,rfl,rfl⟩
   ·exact ai.refl
theorem EA {F:List HP} {v:Value} {l:List Int} {x:Int} (k:bN F 1 v l.length (aj ic l)) (hn:l.length≤1099511627776):az prog 316 [v,iv x] [] F (fun r L'=>r= .int .i64 (bO (· =x) l)∧L'=[]):=by
  refine ay func316 ntmps316 ?_;repeat first|refine gd ?_|intro _
  apply aO (E0:=[(0,_),(1,_),(7,_)]) (fun E0 (i:Nat)=>(8,.int .i64 i)::E0) (fun _=>F) (fun i=>i≤l.length∧∀ j (h:j<l.length),j<i→decide (l[j]=x)=false) (fun i=>l.length-i) 0
  ·exact bH
  ·exact ⟨om,fun j _ hj=>by omega⟩
  ·exact ai.refl
  ·rintro i ⟨hi,h1⟩;by_cases bB:i<l.length
   ·by_cases he:x=l[i]
    ·repeat first|refine gd ?_|intro _
     (apply ad rfl rfl ar)
     ·exact ⟨by rw [eU bB h1 (by simp [he])];rfl,rfl⟩
     ·exact ai.refl
    ·repeat first|refine gd ?_|intro _
     refine aC (i+1) (om) ⟨om,fun j hj rp=>?_⟩ ?_ ai.refl
     ·by_cases e:j=i
      ·subst e;simpa using fun h=>he h.symm
      ·exact h1 j hj (om)
     ·exact bH
   ·have e:i=l.length:=by omega
    subst e;repeat first|refine gd ?_|intro _
    (apply ad rfl rfl ar)
    ·exact ⟨by rw [dr h1];rfl,rfl⟩
    ·exact ai.refl
theorem yK {F:List HP} {v:Value} {l:List Int} {fk:FuncId} {first cap:List Value} {p:Int→Bool} (k:bN F 1 v l.length (aj ic l)) (hn:l.length≤1099511627776)
    (H:∀ x∈l,az prog fk (first++[iv x]++cap) [] F (fun r L'=>r= .bool (p x)∧L'=[])) :
    az prog 363 [v,.func (.func fk) first.toArray cap.toArray] [] F (fun r L'=>r= .int .i64 (bO p l)∧L'=[]):=by
  refine ay func363 ntmps363 ?_;repeat first|refine gd ?_|intro _
  apply aO (E0:=[(0,_),(1,_),(7,_)]) (fun E0 (i:Nat)=>(8,.int .i64 i)::E0) (fun _=>F) (fun i=>i≤l.length∧∀ j (h:j<l.length),j<i→p l[j]=false) (fun i=>l.length-i) 0
  ·exact bH
  ·exact ⟨om,fun j _ hj=>by omega⟩
  ·exact ai.refl
  ·rintro i ⟨hi,h1⟩;by_cases bB:i<l.length
   ·have hH:=H l[i] (List.getElem_mem bB);cases he:p l[i]
    ·rw [he] at hH;repeat first|refine gd ?_|intro _|refine ae @hH ?_
     refine aC (i+1) (om) ⟨om,fun j hj rp=>?_⟩ ?_ ai.refl
     ·by_cases e:j=i
      ·subst e;exact he
      ·exact h1 j hj (om)
     ·exact bH
    ·rw [he] at hH;repeat first|refine gd ?_|intro _|refine ae @hH ?_
     (apply ad rfl rfl ar)
     ·exact ⟨by rw [eU bB h1 he];rfl,rfl⟩
     ·exact ai.refl
   ·have e:i=l.length:=by omega
    subst e;repeat first|refine gd ?_|intro _
    (apply ad rfl rfl ar)
    ·exact ⟨by rw [dr h1];rfl,rfl⟩
    ·exact ai.refl
theorem tg {F:List HP} {v:Value} {n:Nat} {xs:List Value} (k:bN F 15 v n xs) (hn:n≤1099511627776):az prog 214 [v] [] F (fun r L'=>∃ p c,r= .slice p n c∧L'=[aT 159 15 (.slice p n c) n xs]):=by
  refine ay func214 ntmps214 ?_;refine Ch (v:=v) k fun q1 q2 p c0 e q3=>?_;subst e;cases p with
  |none=>
   obtain rfl:=q3 rfl;obtain rfl:xs=[]:=List.eq_nil_of_length_eq_zero (by simpa using q1);repeat first|refine gd ?_|intro _
   (apply ad rfl rfl ar)
   ·exact ⟨_,_,rfl,rfl⟩
   ·exact aI ai.refl
  |some a=>
   repeat first|refine gd ?_|intro _
   simp only [Nat.zero_add,List.nil_append];(apply ad rfl rfl ar)
   ·exact ⟨_,_,rfl,rfl⟩
   ·exact ai.refl
theorem qh {Q P:Prop} (k:Q) (h:Hid Q→P:=by
  intro k
  first
  |(refine an ?_;apply nC (id:=5) .true [] (pl:= .p 0 <| .p 1 <| .p 2 <| .p 3 <| .p 4 <| .p 5 <| .e true [(6,.p 7 <| .done)]);exact mixed;kernel_rfl;kernel_rfl;exact ai.nil;exact k.out)):P:=h ⟨k⟩
theorem CG {F:List HP} {v:Value} {n i j:Nat} {xs:List Value} (G7:i≤j) (hj:j≤n) (hn:n≤1099511627776) :
    az prog 286 [v,.int .i64 i,.int .i64 j] [aT 159 15 v n xs] F (fun r L'=>∃ p c,r= .slice p (i+(n-j)) c∧L'=[aT 159 15 (.slice p (i+(n-j)) c) (i+(n-j)) (xs.take (i*15)++xs.drop (j*15))]):=by
  refine ay func286 ntmps286 ?_;refine Au (fun q1 q2 p e0 e1 e2=>?_) (fun q1 q2 g cap spare e0 h1 h2 h3=>?_)
  ·subst e0 e1 e2;obtain rfl:i=j:=by omega
   obtain rfl:i=0:=by omega
   repeat first|refine go ?_|intro _|refine qh ?_|refine av ?_
   (apply ad rfl rfl ar)
   ·exact ⟨_,_,rfl,rfl⟩
   ·simp only [Nat.zero_sub,List.take_nil,List.drop_nil,List.append_nil];exact ai.refl
  ·subst e0;by_cases he:i=j
   ·subst he;repeat first|refine go ?_|intro _|refine qh ?_|refine av ?_
    have e0:i+(n-i)=n:=by omega
    rw [e0];(apply ad rfl rfl ar)
    ·exact ⟨_,_,rfl,rfl⟩
    ·rw [List.take_append_drop];exact lE (by simp [q1,h3];omega) h1 h2 (by simp [q1]) q2 ai.refl
   ·repeat first|refine go ?_|intro _|refine qh ?_|refine av ?_
    rw [sD];apply kO;rfl;exact tB.none;apply uL;rfl;rfl;exact inferInstance;exact bN.cut (zV inferInstance q1 q2) hj (Nat.le_refl _) h1;omega;(simp;omega);rfl;rfl;refine aU ?_;refine ⟨cc.still ai.nil,?_⟩;repeat first|refine go ?_|intro _|refine qh ?_|refine av ?_
    rw [nD (om)];apply mY;rfl;apply DT;rfl;rfl;rfl;exact inferInstance;(rw [dF (by simp;omega)];simp;omega);rfl;rfl;refine aU ?_;repeat first|refine go ?_|intro _|refine qh ?_|refine av ?_
    (apply ad rfl rfl ar)
    ·exact ⟨_,_,rfl,rfl⟩
    ·exact DV G7 hj q1 q2 h1 h2 h3 (by rw [DW rfl];simp only [List.length_cons,List.length_nil];omega) (om) (om) (om) (om) (om) (om)
theorem Gm {F:List HP} {v:Value} {n:Nat} {xs:List Value} (k:bN F 3 v n xs) (hn:n≤1099511627776):az prog 135 [v] [] F (fun r L'=>∃ p c,r= .slice p n c∧L'=[aT 74 3 (.slice p n c) n xs]):=by
  refine ay func135 ntmps135 ?_;refine Ch (v:=v) k fun q1 q2 p c0 e q3=>?_;subst e;cases p with
  |none=>
   obtain rfl:=q3 rfl;obtain rfl:xs=[]:=List.eq_nil_of_length_eq_zero (by simpa using q1);repeat first|refine gd ?_|intro _
   (apply ad rfl rfl ar)
   ·exact ⟨_,_,rfl,rfl⟩
   ·exact aI ai.refl
  |some a=>
   repeat first|refine gd ?_|intro _
   simp only [Nat.zero_add,List.nil_append];(apply ad rfl rfl ar)
   ·exact ⟨_,_,rfl,rfl⟩
   ·exact ai.refl
theorem EB {F:List HP} {v:Value} {n:Nat} {xs:List Value} (k:bN F 10 v n xs) (hn:n≤1099511627776):az prog 250 [v] [] F (fun r L'=>∃ p c,r= .slice p n c∧L'=[aT 131 10 (.slice p n c) n xs]):=by
  refine ay func250 ntmps250 ?_;refine Ch (v:=v) k fun q1 q2 p c0 e q3=>?_;subst e;cases p with
  |none=>
   obtain rfl:=q3 rfl;obtain rfl:xs=[]:=List.eq_nil_of_length_eq_zero (by simpa using q1);repeat first|refine gd ?_|intro _
   (apply ad rfl rfl ar)
   ·exact ⟨_,_,rfl,rfl⟩
   ·exact aI ai.refl
  |some a=>
   repeat first|refine gd ?_|intro _
   simp only [Nat.zero_add,List.nil_append];(apply ad rfl rfl ar)
   ·exact ⟨_,_,rfl,rfl⟩
   ·exact ai.refl
theorem qi {Q P:Prop} (k:Q) (h:Hid Q→P:=by
  intro k
  first
  |(refine an ?_;apply nC (id:=5) .true [] (pl:= .p 0 <| .p 1 <| .p 2 <| .p 3 <| .p 4 <| .p 5 <| .e true [(6,.p 7 <| .done)]);exact mixed;kernel_rfl;kernel_rfl;exact ai.nil;exact k.out)):P:=h ⟨k⟩
theorem CH {F:List HP} {v:Value} {n i j:Nat} {xs:List Value} (G7:i≤j) (hj:j≤n) (hn:n≤1099511627776) :
    az prog 354 [v,.int .i64 i,.int .i64 j] [aT 131 10 v n xs] F (fun r L'=>∃ p c,r= .slice p (i+(n-j)) c∧L'=[aT 131 10 (.slice p (i+(n-j)) c) (i+(n-j)) (xs.take (i*10)++xs.drop (j*10))]):=by
  refine ay func354 ntmps354 ?_;refine Au (fun q1 q2 p e0 e1 e2=>?_) (fun q1 q2 g cap spare e0 h1 h2 h3=>?_)
  ·subst e0 e1 e2;obtain rfl:i=j:=by omega
   obtain rfl:i=0:=by omega
   repeat first|refine go ?_|intro _|refine qi ?_|refine av ?_
   (apply ad rfl rfl ar)
   ·exact ⟨_,_,rfl,rfl⟩
   ·simp only [Nat.zero_sub,List.take_nil,List.drop_nil,List.append_nil];exact ai.refl
  ·subst e0;by_cases he:i=j
   ·subst he;repeat first|refine go ?_|intro _|refine qi ?_|refine av ?_
    have e0:i+(n-i)=n:=by omega
    rw [e0];(apply ad rfl rfl ar)
    ·exact ⟨_,_,rfl,rfl⟩
    ·rw [List.take_append_drop];exact lE (by simp [q1,h3];omega) h1 h2 (by simp [q1]) q2 ai.refl
   ·repeat first|refine go ?_|intro _|refine qi ?_|refine av ?_
    rw [sD];apply kO;rfl;exact tB.none;apply uL;rfl;rfl;exact inferInstance;exact bN.cut (zV inferInstance q1 q2) hj (Nat.le_refl _) h1;omega;(simp;omega);rfl;rfl;refine aU ?_;refine ⟨cc.still ai.nil,?_⟩;repeat first|refine go ?_|intro _|refine qi ?_|refine av ?_
    rw [nD (om)];apply mY;rfl;apply DT;rfl;rfl;rfl;exact inferInstance;(rw [dF (by simp;omega)];simp;omega);rfl;rfl;refine aU ?_;repeat first|refine go ?_|intro _|refine qi ?_|refine av ?_
    (apply ad rfl rfl ar)
    ·exact ⟨_,_,rfl,rfl⟩
    ·exact DV G7 hj q1 q2 h1 h2 h3 (by rw [DW rfl];simp only [List.length_cons,List.length_nil];omega) (om) (om) (om) (om) (om) (om)
theorem yL {F:List HP} {v:Value} {l:List li} {fk:FuncId} {first cap:List Value} {p:li→Bool} (k:bN F 10 v l.length (aj bc l)) (hn:l.length≤1099511627776)
    (H:∀ x∈l,az prog fk (first++[bv x]++cap) [] F (fun r L'=>r= .bool (p x)∧L'=[])) :
    az prog 346 [v,.func (.func fk) first.toArray cap.toArray] [] F (fun r L'=>r= .int .i64 (bO p l)∧L'=[]):=by
  refine ay func346 ntmps346 ?_;repeat first|refine gd ?_|intro _
  apply aO (E0:=[(0,_),(1,_),(7,_)]) (fun E0 (i:Nat)=>(8,.int .i64 i)::E0) (fun _=>F) (fun i=>i≤l.length∧∀ j (h:j<l.length),j<i→p l[j]=false) (fun i=>l.length-i) 0
  ·exact bH
  ·exact ⟨om,fun j _ hj=>by omega⟩
  ·exact ai.refl
  ·rintro i ⟨hi,h1⟩;by_cases bB:i<l.length
   ·have hH:=H l[i] (List.getElem_mem bB);cases he:p l[i]
    ·rw [he] at hH;repeat first|refine gd ?_|intro _|refine ae @hH ?_
     refine aC (i+1) (om) ⟨om,fun j hj rp=>?_⟩ ?_ ai.refl
     ·by_cases e:j=i
      ·subst e;exact he
      ·exact h1 j hj (om)
     ·exact bH
    ·rw [he] at hH;repeat first|refine gd ?_|intro _|refine ae @hH ?_
     (apply ad rfl rfl ar)
     ·exact ⟨by rw [eU bB h1 he];rfl,rfl⟩
     ·exact ai.refl
   ·have e:i=l.length:=by omega
    subst e;repeat first|refine gd ?_|intro _
    (apply ad rfl rfl ar)
    ·exact ⟨by rw [dr h1];rfl,rfl⟩
    ·exact ai.refl
theorem qj {Q P:Prop} (k:Q) (h:Hid Q→P:=by
  intro k
  first
  |(refine an ?_;apply nC (id:=5) .true [] (pl:= .p 0 <| .p 1 <| .p 2 <| .p 3 <| .p 4 <| .p 5 <| .e true [(6,.p 7 <| .done)]);exact mixed;kernel_rfl;kernel_rfl;exact ai.nil;exact k.out)):P:=h ⟨k⟩
theorem xu {F:List HP} {v:Value} {n i j:Nat} {xs:List Value} (G7:i≤j) (hj:j≤n) (hn:n≤1099511627776) :
    az prog 296 [v,.int .i64 i,.int .i64 j] [aT 203 17 v n xs] F (fun r L'=>∃ p c,r= .slice p (i+(n-j)) c∧L'=[aT 203 17 (.slice p (i+(n-j)) c) (i+(n-j)) (xs.take (i*17)++xs.drop (j*17))]):=by
  refine ay func296 ntmps296 ?_;refine Au (fun q1 q2 p e0 e1 e2=>?_) (fun q1 q2 g cap spare e0 h1 h2 h3=>?_)
  ·subst e0 e1 e2;obtain rfl:i=j:=by omega
   obtain rfl:i=0:=by omega
   repeat first|refine go ?_|intro _|refine qj ?_|refine av ?_
   (apply ad rfl rfl ar)
   ·exact ⟨_,_,rfl,rfl⟩
   ·simp only [Nat.zero_sub,List.take_nil,List.drop_nil,List.append_nil];exact ai.refl
  ·subst e0;by_cases he:i=j
   ·subst he;repeat first|refine go ?_|intro _|refine qj ?_|refine av ?_
    have e0:i+(n-i)=n:=by omega
    rw [e0];(apply ad rfl rfl ar)
    ·exact ⟨_,_,rfl,rfl⟩
    ·rw [List.take_append_drop];exact lE (by simp [q1,h3];omega) h1 h2 (by simp [q1]) q2 ai.refl
   ·repeat first|refine go ?_|intro _|refine qj ?_|refine av ?_
    rw [sD];apply kO;rfl;exact tB.none;apply uL;rfl;rfl;exact inferInstance;exact bN.cut (zV inferInstance q1 q2) hj (Nat.le_refl _) h1;omega;(simp;omega);rfl;rfl;refine aU ?_;refine ⟨cc.still ai.nil,?_⟩;repeat first|refine go ?_|intro _|refine qj ?_|refine av ?_
    rw [nD (om)];apply mY;rfl;apply DT;rfl;rfl;rfl;exact inferInstance;(rw [dF (by simp;omega)];simp;omega);rfl;rfl;refine aU ?_;repeat first|refine go ?_|intro _|refine qj ?_|refine av ?_
    (apply ad rfl rfl ar)
    ·exact ⟨_,_,rfl,rfl⟩
    ·exact DV G7 hj q1 q2 h1 h2 h3 (by rw [DW rfl];simp only [List.length_cons,List.length_nil];omega) (om) (om) (om) (om) (om) (om)
theorem tD {F:List HP} {v:Value} {l:List QP} {fk:FuncId} {first cap:List Value} {p:QP→Bool} (k:bN F 17 v l.length (aj qc l)) (hn:l.length≤1099511627776)
    (H:∀ x∈l,az prog fk (first++[qv x]++cap) [] F (fun r L'=>r= .bool (p x)∧L'=[])) :
    az prog 294 [v,.func (.func fk) first.toArray cap.toArray] [] F (fun r L'=>r= .int .i64 (bO p l)∧L'=[]):=by
  refine ay func294 ntmps294 ?_;repeat first|refine gd ?_|intro _
  apply aO (E0:=[(0,_),(1,_),(7,_)]) (fun E0 (i:Nat)=>(8,.int .i64 i)::E0) (fun _=>F) (fun i=>i≤l.length∧∀ j (h:j<l.length),j<i→p l[j]=false) (fun i=>l.length-i) 0
  ·exact bH
  ·exact ⟨om,fun j _ hj=>by omega⟩
  ·exact ai.refl
  ·rintro i ⟨hi,h1⟩;by_cases bB:i<l.length
   ·have hH:=H l[i] (List.getElem_mem bB);cases he:p l[i]
    ·rw [he] at hH;repeat first|refine gd ?_|intro _|refine ae @hH ?_
     refine aC (i+1) (om) ⟨om,fun j hj rp=>?_⟩ ?_ ai.refl
     ·by_cases e:j=i
      ·subst e;exact he
      ·exact h1 j hj (om)
     ·exact bH
    ·rw [he] at hH;repeat first|refine gd ?_|intro _|refine ae @hH ?_
     (apply ad rfl rfl ar)
     ·exact ⟨by rw [eU bB h1 he];rfl,rfl⟩
     ·exact ai.refl
   ·have e:i=l.length:=by omega
    subst e;repeat first|refine gd ?_|intro _
    (apply ad rfl rfl ar)
    ·exact ⟨by rw [dr h1];rfl,rfl⟩
    ·exact ai.refl
end
section
attribute [local irreducible] Exit.then Exit.inBlock Code.wp WC WO WE WQ V aW dL Sat bz bK dU IntKind.wrap WR Code.rounds WT KO
def nz {α:Type} (ak:Int) (l:List α):Int:=if (l.length:Int)=ak then 4 else 0
def kB {α:Type} (ak:Int) (l:List α) (x:α):List α:=if (l.length:Int)=ak then l else l++[x]
def qH {α:Type} (l:List α) (n:Int):Bool:=decide (0≤n∧n<l.length)
def nG {α:Type} (l:List α) (n:Int):List α:=if qH l n then l.eraseIdx n.toNat else l
def zO {α:Type} (l:List α) (n:Int):Int:=if qH l n then 0 else 5
def sQ {α:Type} (z:α) (l:List α) (n:Int):α:=if qH l n then l.getD n.toNat z else z
theorem P3 {α:Type} {ak:Int} {l:List α} {x:α} (h:(l.length:Int)≤ak):((kB ak l x).length:Int)≤ak:=by
  unfold kB;split
  ·exact h
  ·simp;omega
theorem qR {α:Type} {l:List α} {n:Int}:qH l n=true↔(0≤n∧n<l.length):=by simp [qH]
theorem wK {α:Type} {l:List α} {n:Int}:qH l n=false↔¬(0≤n∧n<l.length):=by rw [←Bool.not_eq_true,qR]
abbrev cf (b:Nat) (ak:Int) (l:List bA):HP:=RL 319 159 15 mc b ak l
theorem uN {F:List HP} {ak:Int} (h:1≤ak∧ak≤4096):az prog 134 [.int .i64 ak] [] F (fun r L'=>∃ b,r= .tuple [.pointer (some ⟨b,0,none⟩),.int .i64 0].toArray∧L'=[cf b ak []]):=by
  refine ay func134 ntmps134 ?_;repeat first|refine gd ?_|intro _
  (apply ad rfl rfl ar)
  ·exact ⟨_,rfl,rfl⟩
  ·exact bC (l:=[]) (ai.cons (aI ai.refl)) rfl rfl (by simp;omega)
theorem nv {F:List HP} {b:Nat} {ak:Int} {l:List bA}:az prog 222 [.pointer (some ⟨b,0,none⟩)] [cf b ak l] F (fun r L'=>r= .int .i64 (ak-l.length)∧L'=[cf b ak l]):=by
  refine ay func222 ntmps222 ?_;refine cC fun p c hl=>?_;repeat first|refine gd ?_|intro _
  (apply ad rfl rfl ar)
  ·exact ⟨rfl,rfl⟩
  ·(apply bC;(focus (exact af));all_goals exact bu)
theorem Bg {Q P:Prop} (k:Q) (h:Hid Q→P:=by
  intro k
  first
  |(refine an ?_;refine bF (id:=3) .true (pl:= .p 0 <| .p 1 <| .p 2 <| .p 3 <| .r 4 <| .r 5 <| .e true [(6,.e true [(7,.p 8 <| .p 9 <| .e false [(10,.done)])])]) k.out)):P:=h ⟨k⟩
theorem uO {F:List HP} {b:Nat} {ak:Int} {l:List bA} {x:bA}:az prog 304 [.pointer (some ⟨b,0,none⟩),mv x] [cf b ak l] F (fun r L'=>r= .int .i64 (nz ak l)∧L'=[cf b ak (kB ak l x)]):=by
  refine ay func304 ntmps304 ?_;by_cases e:(l.length:Int)=ak
  ·repeat first|refine go ?_|intro _|refine Bg ?_|refine av ?_|refine ae @nv ?_
   (apply ad rfl rfl ar)
   ·exact ⟨by simp [nz,e],rfl⟩
   ·simp only [kB,e,if_true];exact af
  ·repeat first|refine go ?_|intro _|refine ae @nv ?_
   (first|refine aD (cf b ak l) ?_|refine aE (cf b ak l) ?_|refine aF (cf b ak l) ?_);first|refine cC fun p c hl=>?_|refine lV fun p c hl=>?_
   repeat first|refine go ?_|intro _|refine Bg ?_|refine av ?_
   (apply ad rfl rfl ar)
   ·exact ⟨by simp [nz,e],rfl⟩
   ·simp only [kB,e,if_false];(apply bC;(focus (exact af));all_goals exact bu)
theorem qk {F:List HP} {b:Nat} {ak:Int} {l:List bA} {n:Int}:az prog 221 [.pointer (some ⟨b,0,none⟩),.int .i64 n] [cf b ak l] F (fun r L'=>r= .tuple [mv (sQ .zero l n),.bool (qH l n)].toArray∧L'=[cf b ak l]):=by
  refine ay func221 ntmps221 ?_;refine cC fun p c hl=>?_;by_cases h:0≤n∧n<l.length
  ·obtain ⟨i,rfl⟩:∃ i:Nat,n=i:=⟨n.toNat,om⟩;have hi:i<l.length:=by omega
   repeat first|refine gd ?_|intro _
   (apply ad rfl rfl ar)
   ·exact ⟨by simp [sQ,qR.2 h,hi],rfl⟩
   ·(apply bC;(focus (exact af));all_goals exact bu)
  ·repeat' (first|refine gd ?_|intro _|refine bj ?_ ?_|fail)
   all_goals first|(exfalso;omega)|skip
   all_goals (apply ad rfl rfl ar)
   all_goals first|exact ⟨by simp [sQ,wK.2 h];rfl,rfl⟩|exact ⟨by simp [sQ,wK.2 h],rfl⟩|(apply bC;(focus (exact af));all_goals exact bu)
theorem lL {F:List HP} {b:Nat} {ak:Int} {l:List bA}:az prog 119 [.pointer (some ⟨b,0,none⟩)] [cf b ak l] F (fun r L'=>∃ p c,r= .slice p l.length c∧L'=[aT 159 15 (.slice p l.length c) l.length (aj mc l),cf b ak l]):=by
  refine ay func119 ntmps119 ?_;refine cC fun p c hl=>?_;repeat first|refine gd ?_|intro _|refine ae @tg ?_
  (apply ad rfl rfl ar)
  ·exact ⟨_,_,rfl,rfl⟩
  ·refine ai.cons ?_;(apply bC;(focus (exact af));all_goals exact bu)
theorem th {F:List HP} {b:Nat} {ak:Int} {l:List bA} {n:Int}:az prog 225 [.pointer (some ⟨b,0,none⟩),.int .i64 n] [cf b ak l] F (fun r L'=>r= .tuple [mv (sQ .zero l n),.int .i64 (zO l n)].toArray∧L'=[cf b ak (nG l n)]):=by
  refine ay func225 ntmps225 ?_;cases e:qH l n with
  |true=>
   obtain ⟨h1,h2⟩:=qR.1 e;obtain ⟨i,rfl⟩:∃ i:Nat,n=i:=⟨n.toNat,om⟩;have hB:=fun F=>qk (F:=F) (b:=b) (ak:=ak) (l:=l) (n:=i);simp only [e] at hB;repeat first|refine gd ?_|intro _|refine ae @hB ?_
   (first|refine aD (cf b ak l) ?_|refine aE (cf b ak l) ?_|refine aF (cf b ak l) ?_);refine lV fun p c hl=>?_;repeat first|refine gd ?_|intro _
   refine ae (@CG (i:=i) (j:=i+1)) ?_;repeat first|refine gd ?_|intro _
   (apply ad rfl rfl ar)
   ·exact ⟨by simp [zO,e],rfl⟩
   ·simp only [nG,e,if_true];apply bC
    ·exact af
    ·simp only [List.length_eraseIdx,Int.toNat_natCast];split<;>omega
    ·rw [iY (enc:=mc) (n:=15) (fun _=>rfl),gn (enc:=mc) (n:=15) (fun _=>rfl)];simp [List.eraseIdx_eq_take_drop_succ]
    ·have:=List.length_eraseIdx_le l i;simp only [Int.toNat_natCast];omega
  |false=>
   have hB:=fun F=>qk (F:=F) (b:=b) (ak:=ak) (l:=l) (n:=n);simp only [e] at hB;repeat first|refine gd ?_|intro _|refine ae @hB ?_
   (apply ad rfl rfl ar)
   ·exact ⟨by simp [zO,e],rfl⟩
   ·simp only [nG,e,Bool.false_eq_true,if_false];exact af
end
section
attribute [local irreducible] Exit.then Exit.inBlock Code.wp WC WO WE WQ V aW dL Sat bz bK dU IntKind.wrap WR Code.rounds WT KO
theorem cd {α:Type} (l:List α) (n i:Nat) (hi:i<l.length):(l.take (i+1)).eraseIdx n=if i=n then (l.take i).eraseIdx n else (l.take i).eraseIdx n++[l[i]]:=by
  have JX:(l.take i).length=i:=by rw [List.length_take];omega
  rw [List.take_add_one];simp only [hi,List.getElem?_eq_getElem,Option.toList_some];split
  ·rename_i h;subst h;rw [List.eraseIdx_append_of_length_le (om),JX,List.eraseIdx_of_length_le (l:=l.take i) (k:=i) (om)];simp
  ·rename_i h;by_cases h1:n<i
   ·rw [List.eraseIdx_append_of_lt_length (om)]
   ·rw [List.eraseIdx_of_length_le (by simp;omega),List.eraseIdx_of_length_le (om)]
theorem iu {α:Type} (l:List α) (i:Nat):(l.eraseIdx i).length≤l.length:=List.length_eraseIdx_le _ _
end
end Go.Sx
