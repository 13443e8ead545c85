/- Read, Read2, Read3, SlT, Arr0, Bag: several of my texts as one. My own work. -/
import Derived.Carry
import Derived.ChangeOld
import Derived.OpenShut
import Derived.ProofKit
import Derived.WalkKit
import Derived.Test.YtjihlpjnebdiiaaGreatData
import Derived.SizedLaws
set_option linter.unusedVariables false
set_option linter.unusedSectionVars false
set_option linter.unusedSimpArgs false
set_option maxRecDepth 100000
set_option maxHeartbeats 4000000
namespace Go.Sx
open Go Go.Proofs
section
open Go Go.ChangeShapes Go.WideShapes
inductive Leaf where
  |int (k:IntKind)
  |bool
  |other (t:TypeId)
section
variable {H:Type} (enc:TypeId×Value→H) (P:Program) (W:World)
def b6z:Leaf→Value→Prop
  | .int k,v=>∃ n,v= .int k n∧(Lit.int k n).wf=true
  | .bool,v=>∃ b,v= .bool b
  | .other t,v=>∃ fuel x,DataW.trod enc P W 0 (fun _=>true) true fuel t [v]=some x
inductive LeafsOk:List Leaf→List Value→Prop
  |nil:LeafsOk [] []
  |cons {k:Leaf} {c:Value} {ks:List Leaf} {cs:List Value}:b6z enc P W k c→LeafsOk ks cs→LeafsOk (k::ks) (c::cs)
def s8 (f:TypeId→Option (List Leaf)):List Field→Nat→Option (List Leaf)
  | [],_=>some []
  |fd::r,off=>match f fd.type with
   |none=>none
   |some ks=>if fd.offset=off∧P.cellsOf fd.type=ks.length then (s8 f r (off+ks.length)).map (ks++ ·) else none
def pI:Nat→TypeId→Option (List Leaf)
  |0,_=>none
  |d+1,t=>match P.underlying t with
   |some .bool=>some [.bool]
   |some (.int k)=>some [.int k]
   |some (.slice _)=>some [.other t]
   |some .string=>some [.other t]
   |some (.struct fs)=>(s8 P (pI d) fs.toList 0).bind fun ks=>if ks.length=P.cellsOf t then some ks else none
   |some (.array n e)=>(pI d e).bind fun ks=>if ks.length=P.cellsOf e∧n*ks.length=P.cellsOf t then some (List.replicate n ks).flatten else none
   |_=>none
theorem vS {ks ks':List Leaf} {cs cs':List Value} (h:LeafsOk enc P W ks cs) (h':LeafsOk enc P W ks' cs'):LeafsOk enc P W (ks++ks') (cs++cs'):=by
  induction h with
  |nil=>exact h'
  |cons a _ ih=>exact .cons a ih
theorem jW {α β:Type} {f:α→Option β} {a:α} {l:List α} {r:List β} (h:(a::l).mapM f=some r):∃ b r',f a=some b∧l.mapM f=some r'∧r=b::r':=by
  rw [List.mapM_cons] at h
  simp only [Option.bind_eq_bind,Option.bind_eq_some_iff] at h
  obtain ⟨b,h1,r',h2,h3⟩:=h
  exact ⟨b,r',h1,h2,by simpa using h3.symm⟩
theorem b3j {d:Nat} (ih:∀ t ks,pI P d t=some ks→∀ fuel cs x,DataW.trod enc P W 0 (fun _=>true) true fuel t cs=some x→LeafsOk enc P W ks cs) (fuel:Nat) (cs:List Value) :
    ∀ (fs:List Field) (off:Nat) (ks:List Leaf) (xs:List (DataW H×List MemPlace)),s8 P (pI P d) fs off=some ks→
      (fs.mapM fun f=>DataW.trod enc P W 0 (fun _=>true) true fuel f.type ((cs.drop f.offset).take (P.cellsOf f.type)))=some xs→LeafsOk enc P W ks ((cs.drop off).take ks.length)
  | [],off,ks,xs,h,_=>by simp [s8] at h;subst h;simp;exact .nil
  |fd::r,off,ks,xs,h,hm=>by
   obtain ⟨x,xs',h1,h2,_⟩:=jW hm
   simp only [s8] at h
   cases hk:pI P d fd.type with
   |none=>simp [hk] at h
   |some k0=>
    simp only [hk] at h
    split at h
    · rename_i hc
      obtain ⟨c1,c2⟩:=hc
      cases hr:s8 P (pI P d) r (off+k0.length) with
      |none=>simp [hr] at h
      |some k1=>
       simp [hr] at h
       subst h
       have a:=ih _ _ hk _ _ _ h1
       have b:=b3j ih fuel cs r _ _ _ hr h2
       rw [c1,c2] at a
       have e:(cs.drop off).take (k0++k1).length=(cs.drop off).take k0.length++(cs.drop (off+k0.length)).take k1.length:=by
         rw [List.length_append,List.take_add,List.drop_drop]
       rw [e]
       exact vS enc P W a b
    · simp at h
theorem b3k {e:Nat} {ks:List Leaf} {fuel:Nat} {cs:List Value} (ih:∀ fuel cs x,DataW.trod enc P W 0 (fun _=>true) true fuel e cs=some x→LeafsOk enc P W ks cs) (he:ks.length=P.cellsOf e) :
    ∀ (n k:Nat) (xs:List (DataW H×List MemPlace)),(((List.range n).map (k+ ·)).mapM fun i=>DataW.trod enc P W 0 (fun _=>true) true fuel e ((cs.drop (i*P.cellsOf e)).take (P.cellsOf e)))=some xs→
      LeafsOk enc P W (List.replicate n ks).flatten ((cs.drop (k*P.cellsOf e)).take (n*P.cellsOf e))
  |0,k,xs,_=>by simp;exact .nil
  |n+1,k,xs,h=>by
   have e1:(List.range (n+1)).map (k+ ·)=k::(List.range n).map (k+1+ ·):=by
     rw [List.range_succ_eq_map]
     simp [Function.comp_def,Nat.add_assoc,Nat.add_comm 1]
   rw [e1] at h
   obtain ⟨x,xs',h1,h2,_⟩:=jW h
   have a:=ih _ _ _ h1
   have b:=b3k ih he n (k+1) xs' h2
   have e2:(cs.drop (k*P.cellsOf e)).take ((n+1)*P.cellsOf e)=(cs.drop (k*P.cellsOf e)).take (P.cellsOf e)++(cs.drop ((k+1)*P.cellsOf e)).take (n*P.cellsOf e):=by
     rw [Nat.succ_mul,Nat.add_comm,List.take_add,List.drop_drop,Nat.succ_mul]
   rw [e2,List.replicate_succ,List.flatten_cons]
   exact vS enc P W a b
theorem c0l:∀ (d:Nat) (t:TypeId) (ks:List Leaf),pI P d t=some ks→∀ fuel cs x,DataW.trod enc P W 0 (fun _=>true) true fuel t cs=some x→LeafsOk enc P W ks cs
  |0,_,_,h=>by simp [pI] at h
  |d+1,t,ks,h=>by
   intro fuel cs x hx
   have ih:=c0l d
   simp only [pI] at h
   cases fuel with
   |zero=>simp [DataW.trod] at hx
   |succ fuel=>
    have hx0:=hx
    cases hu:P.underlying t with
    |none=>simp [hu] at h
    |some u=>
     cases u<;>simp only [hu] at h<;>try (simp at h;done)
     case bool=>
       simp at h;subst h
       have:∃ b,cs=[.bool b]:=by
         unfold DataW.trod at hx;rw [hu] at hx
         split at hx<;>simp_all
       obtain ⟨b,rfl⟩:=this
       exact .cons ⟨b,rfl⟩ .nil
     case int k=>
       simp at h;subst h
       obtain ⟨n,h1,_,h3⟩:=DataW.trod_int hu hx0
       subst h1
       exact .cons ⟨n,rfl,h3⟩ .nil
     case string=>
       simp at h;subst h
       have:∃ v,cs=[v]:=by
         unfold DataW.trod at hx;rw [hu] at hx
         split at hx<;>simp_all
       obtain ⟨v,rfl⟩:=this
       exact .cons ⟨_,_,hx0⟩ .nil
     case slice e=>
       simp at h;subst h
       have:∃ v,cs=[v]:=by
         unfold DataW.trod at hx;rw [hu] at hx
         split at hx<;>simp_all
       obtain ⟨v,rfl⟩:=this
       exact .cons ⟨_,_,hx0⟩ .nil
     case array n e=>
       simp only [Option.bind_eq_some_iff] at h
       obtain ⟨k0,h1,h2⟩:=h
       split at h2
       · rename_i hc
         simp at h2;subst h2
         unfold DataW.trod at hx;rw [hu] at hx
         have hx':(if cs.length=P.cellsOf t then ((List.range n).mapM fun i=>DataW.trod enc P W 0 (fun _=>true) true fuel e ((cs.drop (i*P.cellsOf e)).take (P.cellsOf e))).map fun xs=>(DataW.agg (xs.map (·.1)),xs.flatMap (·.2)) else none)=some x:=by
           split at hx<;>simp_all
         split at hx'
         · rename_i hl
           simp only [Option.map_eq_some_iff] at hx'
           obtain ⟨xs,hm,_⟩:=hx'
           have:=b3k enc P W (fun fuel cs x hx=>ih e k0 h1 fuel cs x hx) hc.1 n 0 xs (by simpa using hm)
           simp only [Nat.zero_mul,List.drop_zero] at this
           rw [←hc.1,hc.2,←hl,List.take_length] at this
           exact this
         · simp at hx'
       · simp at h2
     case struct fs=>
       simp only [Option.bind_eq_some_iff] at h
       obtain ⟨k0,h1,h2⟩:=h
       split at h2
       · rename_i hc
         simp at h2;subst h2
         unfold DataW.trod at hx;rw [hu] at hx
         have hx':∃ xs,cs.length=P.cellsOf t∧(fs.toList.mapM fun f=>DataW.trod enc P W 0 (fun _=>true) true fuel f.type ((cs.drop f.offset).take (P.cellsOf f.type)))=some xs:=by
           have hx2:(if cs.length=P.cellsOf t then (fs.toList.mapM fun f=>DataW.trod enc P W 0 (fun _=>true) true fuel f.type ((cs.drop f.offset).take (P.cellsOf f.type))).map fun xs=>(DataW.agg (xs.map (·.1)),xs.flatMap (·.2)) else none)=some x:=by
             split at hx<;>simp_all
           split at hx2
           · rename_i hl
             simp only [Option.map_eq_some_iff] at hx2
             obtain ⟨xs,hm,_⟩:=hx2
             exact ⟨xs,hl,hm⟩
           · simp at hx2
         obtain ⟨xs,hl,hm⟩:=hx'
         have:=b3j enc P W ih fuel cs fs.toList 0 k0 xs h1 hm
         rw [hc,List.drop_zero,←hl,List.take_length] at this
         exact this
       · simp at h2
theorem uA {d:Nat} {t:TypeId} {ks:List Leaf} {v:Value} {dt:DataW H} {p:List MemPlace} (hk:pI P d t=some ks) (h:DataW.Trod enc P W 0 (fun _=>true) true t v dt p):LeafsOk enc P W ks (cellsOf v):=by
  obtain ⟨fuel,hf⟩:=h
  have:=c0l enc P W d t ks hk fuel _ _ hf
  rw [dA] at this
  exact this
theorem c0m {v:Value} (h:b6z enc P W (.int .i64) v):∃ n,v= .int .i64 n∧nA n:=by
  obtain ⟨n,e,hw⟩:=h
  refine ⟨n,e,?_⟩
  simp only [Lit.wf,Bool.and_eq_true,decide_eq_true_eq,IntKind.min,IntKind.max,IntKind.signed,IntKind.bits] at hw
  unfold nA
  simp at hw
  omega
theorem c3h {k:Leaf} {ks:List Leaf} {cs:List Value} (h:LeafsOk enc P W (k::ks) cs):∃ c cs',cs=c::cs'∧b6z enc P W k c∧LeafsOk enc P W ks cs':=by
  cases h with
  |cons a b=>exact ⟨_,_,rfl,a,b⟩
theorem sJ {cs:List Value} (h:LeafsOk enc P W [] cs):cs=[]:=by cases h;rfl
theorem aV {ks:List Leaf} {cs:List Value} (h:LeafsOk enc P W (.int .i64::ks) cs):∃ n cs',cs= .int .i64 n::cs'∧nA n∧LeafsOk enc P W ks cs':=by
  obtain ⟨c,cs',rfl,h1,h2⟩:=c3h enc P W h
  obtain ⟨n,rfl,hn⟩:=c0m enc P W h1
  exact ⟨n,cs',rfl,hn,h2⟩
end
theorem tK {v:Value} {cs:Array Value} (h:v= .agg cs):v= .agg (cellsOf v).toArray:=by subst h;simp [cellsOf]
end
section
open Go Go.ChangeShapes Go.WideShapes
section
variable {H:Type} (enc:TypeId×Value→H) (P:Program) (W:World)
theorem vT {α:Type} {f:Nat→Option α}:∀ (n k:Nat) (r:List α),((List.range n).map (k+ ·)).mapM f=some r→r.length=n∧∀ i,i<n→f (k+i)=r[i]?
  |0,k,r,h=>by simp at h;subst h;simp
  |n+1,k,r,h=>by
   have e1:(List.range (n+1)).map (k+ ·)=k::(List.range n).map (k+1+ ·):=by
     rw [List.range_succ_eq_map]
     simp [Function.comp_def,Nat.add_assoc,Nat.add_comm 1]
   rw [e1] at h
   obtain ⟨x,xs,h1,h2,rfl⟩:=jW h
   obtain ⟨h3,h4⟩:=vT n (k+1) xs h2
   refine ⟨by simp [h3],fun i hi=>?_⟩
   cases i with
   |zero=>simpa using h1
   |succ i=>have:=h4 i (om);rw [List.getElem?_cons_succ,←this];congr 1;omega
theorem uB {α:Type} {f:Nat→Option α} {n:Nat} {r:List α} (h:(List.range n).mapM f=some r):r.length=n∧∀ i,i<n→f i=r[i]? :=by
  have:=vT n 0 r (by simpa using h)
  simpa using this
theorem c3i {w:World} {a:Addr} {n:Nat} {cs:List Value} (h:w.cells? 0 a n=some cs):cs.length=n∧∀ j,j<n→w.cell? (a.add j)=cs[j]? :=by
  unfold World.cells? at h
  rw [if_pos (Nat.zero_le _)] at h
  exact uB h
theorem d0g {w:World} {a:Addr} {v:Value} (h:w.cell? a=some v):a.spot=none∧a.block<w.heap.size:=by
  unfold World.cell? at h
  split at h
  · rename_i he
    have hb:=(Array.getElem?_eq_some_iff.1 he).1
    split at h
    · simp at h
    · rename_i hs
      refine ⟨by simpa using hs,hb⟩
  · simp at h
theorem d4v (a:Addr) (i j:Nat):(a.add i).add j=a.add (i+j):=by
  unfold Addr.add
  by_cases hi:i=0<;>by_cases hj:j=0<;>simp [hi,hj,Nat.add_assoc]
theorem a7s:∀ (n:Nat) (cs:List Value),LeafsOk enc P W (List.replicate n (.int .i64)) cs→∃ l:List Int,l.length=n∧(∀ x∈l,nA x)∧cs=l.map (Value.int .i64)
  |0,cs,h=>⟨[],rfl,by simp,by rw [sJ enc P W h];rfl⟩
  |n+1,cs,h=>by
   obtain ⟨a,cs',rfl,ha,h⟩:=aV enc P W h
   obtain ⟨l,h1,h2,rfl⟩:=a7s n cs' h
   exact ⟨a::l,by simp [h1],fun x hx=>(List.mem_cons.1 hx).elim (fun e=>e▸ha) (h2 x),rfl⟩
end
section
variable {H:Type} (enc:TypeId×Value→H) (P:Program) (W:World)
theorem e8x {cs:List Value} (h:LeafsOk enc P W (List.replicate 3 (.int .i64)) cs):∃ x:Op3,x.wf∧cs=oc x∧(oc x).all one=true:=by
  obtain ⟨l,h1,h2,rfl⟩:=a7s enc P W _ _ h
  match l,h1 with
  | [a,b,c],_=>exact ⟨⟨a,b,c⟩,⟨h2 a (by simp),h2 b (by simp),h2 c (by simp)⟩,rfl,rfl⟩
end
end
section
open Go Go.ChangeShapes Go.WideShapes
section
variable {H:Type} (enc:TypeId×Value→H) (P:Program) (W:World)
def Sm (t:TypeId) (d:DataW H):Prop:=(d.weights P t).all (· ≤reachBytes)=true
def b5m:Leaf→Value→Prop
  | .int k,v=>∃ n,v= .int k n∧(Lit.int k n).wf=true
  | .bool,v=>∃ b,v= .bool b
  | .other t,v=>∃ fuel x,DataW.trod enc P W 0 (fun _=>true) true fuel t [v]=some x∧Sm P t x.1
inductive LeafsOkS:List Leaf→List Value→Prop
  |nil:LeafsOkS [] []
  |cons {k:Leaf} {c:Value} {ks:List Leaf} {cs:List Value}:b5m enc P W k c→LeafsOkS ks cs→LeafsOkS (k::ks) (c::cs)
theorem uC {ks ks':List Leaf} {cs cs':List Value} (h:LeafsOkS enc P W ks cs) (h':LeafsOkS enc P W ks' cs'):LeafsOkS enc P W (ks++ks') (cs++cs'):=by
  induction h with
  |nil=>exact h'
  |cons a _ ih=>exact .cons a ih
theorem nR {t:TypeId} {ts:List TypeId} {d:DataW H} {r:List (DataW H)} (h:(DataW.weightsEach P (t::ts) (d::r)).all (· ≤reachBytes)=true):Sm P t d∧(DataW.weightsEach P ts r).all (· ≤reachBytes)=true:=by
  rw [DataW.weightsEach,List.all_append,Bool.and_eq_true] at h
  exact h
theorem d8n {e:TypeId}:∀ {l:List (DataW H)} {d:DataW H},d∈l→(DataW.weightsAll P e l).all (· ≤reachBytes)=true→Sm P e d
  | [],_,h,_=>by cases h
  |a::r,d,h,hw=>by
   rw [DataW.weightsAll,List.all_append,Bool.and_eq_true] at hw
   rcases List.mem_cons.1 h with h|h
   · subst h;exact hw.1
   · exact d8n h hw.2
theorem a7t {d:Nat} (ih:∀ t ks,pI P d t=some ks→∀ fuel cs x,DataW.trod enc P W 0 (fun _=>true) true fuel t cs=some x→Sm P t x.1→LeafsOkS enc P W ks cs) (fuel:Nat) (cs:List Value) :
    ∀ (fs:List Field) (off:Nat) (ks:List Leaf) (xs:List (DataW H×List MemPlace)),s8 P (pI P d) fs off=some ks→
      (fs.mapM fun f=>DataW.trod enc P W 0 (fun _=>true) true fuel f.type ((cs.drop f.offset).take (P.cellsOf f.type)))=some xs→(DataW.weightsEach P (fs.map (·.type)) (xs.map (·.1))).all (· ≤reachBytes)=true→LeafsOkS enc P W ks ((cs.drop off).take ks.length)
  | [],off,ks,xs,h,_,_=>by simp [s8] at h;subst h;simp;exact .nil
  |fd::r,off,ks,xs,h,hm,hw=>by
   obtain ⟨x,xs',h1,h2,rfl⟩:=jW hm
   rw [List.map_cons,List.map_cons] at hw
   obtain ⟨hw1,hw2⟩:=nR P hw
   simp only [s8] at h
   cases hk:pI P d fd.type with
   |none=>simp [hk] at h
   |some k0=>
    simp only [hk] at h
    split at h
    · rename_i hc
      obtain ⟨c1,c2⟩:=hc
      cases hr:s8 P (pI P d) r (off+k0.length) with
      |none=>simp [hr] at h
      |some k1=>
       simp [hr] at h
       subst h
       have a:=ih _ _ hk _ _ _ h1 hw1
       have b:=a7t ih fuel cs r _ _ _ hr h2 hw2
       rw [c1,c2] at a
       have e:(cs.drop off).take (k0++k1).length=(cs.drop off).take k0.length++(cs.drop (off+k0.length)).take k1.length:=by
         rw [List.length_append,List.take_add,List.drop_drop]
       rw [e]
       exact uC enc P W a b
    · simp at h
theorem a7u {e:Nat} {ks:List Leaf} {fuel:Nat} {cs:List Value} (ih:∀ fuel cs x,DataW.trod enc P W 0 (fun _=>true) true fuel e cs=some x→Sm P e x.1→LeafsOkS enc P W ks cs) (he:ks.length=P.cellsOf e) :
    ∀ (n k:Nat) (xs:List (DataW H×List MemPlace)),(((List.range n).map (k+ ·)).mapM fun i=>DataW.trod enc P W 0 (fun _=>true) true fuel e ((cs.drop (i*P.cellsOf e)).take (P.cellsOf e)))=some xs→
      (DataW.weightsAll P e (xs.map (·.1))).all (· ≤reachBytes)=true→
      LeafsOkS enc P W (List.replicate n ks).flatten ((cs.drop (k*P.cellsOf e)).take (n*P.cellsOf e))
  |0,k,xs,_,_=>by simp;exact .nil
  |n+1,k,xs,h,hw=>by
   have e1:(List.range (n+1)).map (k+ ·)=k::(List.range n).map (k+1+ ·):=by
     rw [List.range_succ_eq_map]
     simp [Function.comp_def,Nat.add_assoc,Nat.add_comm 1]
   rw [e1] at h
   obtain ⟨x,xs',h1,h2,rfl⟩:=jW h
   rw [List.map_cons,DataW.weightsAll,List.all_append,Bool.and_eq_true] at hw
   have a:=ih _ _ _ h1 hw.1
   have b:=a7u ih he n (k+1) xs' h2 hw.2
   have e2:(cs.drop (k*P.cellsOf e)).take ((n+1)*P.cellsOf e)=(cs.drop (k*P.cellsOf e)).take (P.cellsOf e)++(cs.drop ((k+1)*P.cellsOf e)).take (n*P.cellsOf e):=by
     rw [Nat.succ_mul,Nat.add_comm,List.take_add,List.drop_drop,Nat.succ_mul]
   rw [e2,List.replicate_succ,List.flatten_cons]
   exact uC enc P W a b
theorem b3l:∀ (d:Nat) (t:TypeId) (ks:List Leaf),pI P d t=some ks→∀ fuel cs x,DataW.trod enc P W 0 (fun _=>true) true fuel t cs=some x→Sm P t x.1→LeafsOkS enc P W ks cs
  |0,_,_,h=>by simp [pI] at h
  |d+1,t,ks,h=>by
   intro fuel cs x hx hw
   have ih:=b3l d
   simp only [pI] at h
   cases fuel with
   |zero=>simp [DataW.trod] at hx
   |succ fuel=>
    have hx0:=hx
    cases hu:P.underlying t with
    |none=>simp [hu] at h
    |some u=>
     cases u<;>simp only [hu] at h<;>try (simp at h;done)
     case bool=>
       simp at h;subst h
       have:∃ b,cs=[.bool b]:=by
         unfold DataW.trod at hx;rw [hu] at hx
         split at hx<;>simp_all
       obtain ⟨b,rfl⟩:=this
       exact .cons ⟨b,rfl⟩ .nil
     case int k=>
       simp at h;subst h
       obtain ⟨n,h1,_,h3⟩:=DataW.trod_int hu hx0
       subst h1
       exact .cons ⟨n,rfl,h3⟩ .nil
     case string=>
       simp at h;subst h
       have:∃ v,cs=[v]:=by
         unfold DataW.trod at hx;rw [hu] at hx
         split at hx<;>simp_all
       obtain ⟨v,rfl⟩:=this
       exact .cons ⟨_,_,hx0,hw⟩ .nil
     case slice e=>
       simp at h;subst h
       have:∃ v,cs=[v]:=by
         unfold DataW.trod at hx;rw [hu] at hx
         split at hx<;>simp_all
       obtain ⟨v,rfl⟩:=this
       exact .cons ⟨_,_,hx0,hw⟩ .nil
     case array n e=>
       simp only [Option.bind_eq_some_iff] at h
       obtain ⟨k0,h1,h2⟩:=h
       split at h2
       · rename_i hc
         simp at h2;subst h2
         unfold DataW.trod at hx;rw [hu] at hx
         have hx':(if cs.length=P.cellsOf t then ((List.range n).mapM fun i=>DataW.trod enc P W 0 (fun _=>true) true fuel e ((cs.drop (i*P.cellsOf e)).take (P.cellsOf e))).map fun xs=>(DataW.agg (xs.map (·.1)),xs.flatMap (·.2)) else none)=some x:=by
           split at hx<;>simp_all
         split at hx'
         · rename_i hl
           simp only [Option.map_eq_some_iff] at hx'
           obtain ⟨xs,hm,rfl⟩:=hx'
           have hw':(DataW.weightsAll P e (xs.map (·.1))).all (· ≤reachBytes)=true:=by simpa [Sm,DataW.weights,hu] using hw
           have:=a7u enc P W (fun fuel cs x hx hw=>ih e k0 h1 fuel cs x hx hw) hc.1 n 0 xs (by simpa using hm) hw'
           simp only [Nat.zero_mul,List.drop_zero] at this
           rw [←hc.1,hc.2,←hl,List.take_length] at this
           exact this
         · simp at hx'
       · simp at h2
     case struct fs=>
       simp only [Option.bind_eq_some_iff] at h
       obtain ⟨k0,h1,h2⟩:=h
       split at h2
       · rename_i hc
         simp at h2;subst h2
         unfold DataW.trod at hx;rw [hu] at hx
         have hx':∃ xs,cs.length=P.cellsOf t∧(fs.toList.mapM fun f=>DataW.trod enc P W 0 (fun _=>true) true fuel f.type ((cs.drop f.offset).take (P.cellsOf f.type)))=some xs∧x.1=DataW.agg (xs.map (·.1)):=by
           have hx2:(if cs.length=P.cellsOf t then (fs.toList.mapM fun f=>DataW.trod enc P W 0 (fun _=>true) true fuel f.type ((cs.drop f.offset).take (P.cellsOf f.type))).map fun xs=>(DataW.agg (xs.map (·.1)),xs.flatMap (·.2)) else none)=some x:=by
             split at hx<;>simp_all
           split at hx2
           · rename_i hl
             simp only [Option.map_eq_some_iff] at hx2
             obtain ⟨xs,hm,rfl⟩:=hx2
             exact ⟨xs,hl,hm,rfl⟩
           · simp at hx2
         obtain ⟨xs,hl,hm,hx1⟩:=hx'
         rw [hx1] at hw
         have hw':(DataW.weightsEach P (fs.toList.map (·.type)) (xs.map (·.1))).all (· ≤reachBytes)=true:=by simpa [Sm,DataW.weights,hu] using hw
         have:=a7t enc P W ih fuel cs fs.toList 0 k0 xs h1 hm hw'
         rw [hc,List.drop_zero,←hl,List.take_length] at this
         exact this
       · simp at h2
theorem lU {α:Type} {encA:α→List Value} {wf:α→Prop} {d e t:Nat} {ks:List Leaf} {v:Value} {dt:DataW H} {p:List MemPlace} (hu:P.underlying t=some (.slice e)) (hk:pI P d e=some ks) (hc:P.cellsOf e=ks.length) (h0:0<ks.length)
    (hA:∀ cs,LeafsOkS enc P W ks cs→∃ x,wf x∧cs=encA x∧(encA x).all one=true) (hv0:∃ a n c,v= .slice a n c) (h:DataW.Trod enc P W 0 (fun _=>true) true t v dt p) (hs:Sm P t dt) :
    ∃ xs:List α,(∀ x∈xs,wf x)∧ROld W ks.length v xs.length (aC encA xs)∧xs.length≤9223372036854775807∧xs.length*P.bytesOf e≤reachBytes:=by
  obtain ⟨a0,n0,c0,rfl⟩:=hv0
  obtain ⟨fuel,hf⟩:=h
  cases fuel with
  |zero=>simp [DataW.trod] at hf
  |succ fuel=>
   unfold DataW.trod at hf
   rw [hu] at hf
   split at hf<;>try (simp_all;done)
   · rename_i h1 h2
     simp only [Value.cells,List.cons.injEq,Value.slice.injEq,and_true] at h2
     obtain ⟨rfl,rfl,rfl⟩:=h2
     exact ⟨[],by simp,⟨by simp,rfl,.inl ⟨none,0,rfl,rfl⟩⟩,by simp,by simp⟩
   · rename_i e' a len cap h1 h2
     have he:e'=e:=by simp_all
     subst he
     simp only [Value.cells,List.cons.injEq,Value.slice.injEq,and_true] at h2
     obtain ⟨rfl,rfl,rfl⟩:=h2
     simp only at hf
     split at hf
     · rename_i hb
       simp only [Option.bind_eq_some_iff] at hf
       obtain ⟨elems,hm,hrest⟩:=hf
       simp only [if_true,Option.map_eq_some_iff] at hrest
       obtain ⟨rest,_,hdt⟩:=hrest
       have hdt1:dt= .slice (elems.map (·.1)) (rest.map (·.1)):=by injection hdt with h _;exact h.symm
       subst hdt1
       have hw:(elems.length+rest.length)*P.bytesOf e'≤reachBytes∧(DataW.weightsAll P e' (elems.map (·.1))).all (· ≤reachBytes)=true:=by
         unfold Sm at hs
         rw [DataW.weights,hu] at hs
         simp only [List.all_cons,List.all_append,Bool.and_eq_true,List.length_map,decide_eq_true_eq] at hs
         exact ⟨hs.1,hs.2.1⟩
       obtain ⟨hl,hg⟩:=uB hm
       have key:∀ i,i<n0→∃ x:α,wf x∧(encA x).all one=true∧(encA x).length=ks.length∧∀ j u,(encA x)[j]? =some u→W.cell? ((a.add (i*ks.length)).add j)=some u:=by
         intro i hi
         have:=hg i hi
         rw [List.getElem?_eq_getElem (om)] at this
         simp only [Option.bind_eq_some_iff] at this
         obtain ⟨cs,hc1,hc2⟩:=this
         rw [hc] at hc1
         obtain ⟨q1,q2⟩:=c3i hc1
         have hmem:elems[i].1∈elems.map (·.1):=List.mem_map_of_mem (List.getElem_mem _)
         obtain ⟨x,hx,rfl,ho⟩:=hA cs (b3l enc P W d e' ks hk _ _ _ hc2 (d8n P hmem hw.2))
         refine ⟨x,hx,ho,q1,fun j u hj=>?_⟩
         have hlt:=(List.getElem?_eq_some_iff.1 hj).1
         rw [q2 j (om),hj]
       have pick:∀ n,n≤n0→∃ xs:List α,xs.length=n∧(∀ x∈xs,wf x)∧(aC encA xs).all one=true∧(aC encA xs).length=n*ks.length∧∀ j u,(aC encA xs)[j]? =some u→W.cell? (a.add j)=some u:=by
         intro n
         induction n with
         |zero=>intro _;exact ⟨[],rfl,by simp,rfl,by simp,by simp⟩
         |succ n ih=>
          intro hn
          obtain ⟨xs,x1,x2,x3,x4,x5⟩:=ih (om)
          obtain ⟨x,y1,y2,y3,y4⟩:=key n (om)
          refine ⟨xs++[x],by simp [x1],?_,?_,?_,?_⟩
          · intro z hz;rcases List.mem_append.1 hz with h|h
            · exact x2 z h
            · rw [List.mem_singleton.1 h];exact y1
          · rw [bJ,dW,List.all_append,x3,y2];rfl
          · rw [bJ,dW,List.length_append,x4,y3,Nat.succ_mul]
          · intro j u hj
            rw [bJ,dW] at hj
            by_cases hlt:j<(aC encA xs).length
            · rw [List.getElem?_append_left hlt] at hj
              exact x5 j u hj
            · rw [List.getElem?_append_right (om)] at hj
              have:=y4 _ u hj
              have e3:(a.add (n*ks.length)).add (j-(aC encA xs).length)=a.add j:=by
                rw [d4v];congr 1;omega
              rwa [e3] at this
       obtain ⟨xs,x1,x2,x3,x4,x5⟩:=pick n0 (Nat.le_refl _)
       have hmx:maxLen=9223372036854775807:=by decide
       have hbx:xs.length*P.bytesOf e'≤reachBytes:=Nat.le_trans (Nat.mul_le_mul_right _ (om)) hw.1
       refine ⟨xs,x2,?_,om,hbx⟩
       refine ⟨by rw [x4,x1],x3,?_⟩
       by_cases hz:n0=0
       · subst hz
         exact .inl ⟨some a,c0,rfl,x1⟩
       · right
         have h00:∃ u,(aC encA xs)[0]? =some u:=by
           have:0<(aC encA xs).length:=by
             rw [x4];exact Nat.mul_pos (om) h0
           exact ⟨_,List.getElem?_eq_getElem this⟩
         obtain ⟨u0,hu0⟩:=h00
         have hc0:=x5 0 u0 hu0
         have ha0:a.add 0=a:=by simp [Addr.add]
         rw [ha0] at hc0
         obtain ⟨s1,s2⟩:=d0g hc0
         obtain ⟨b,o,sp⟩:=a
         simp only at s1 s2
         subst s1
         refine ⟨b,o,c0,by rw [x1],s2,fun j u hj=>?_⟩
         have:=x5 j u hj
         have e4:(Addr.add ⟨b,o,none⟩ j)=⟨b,o+j,none⟩:=by unfold Addr.add;split<;>simp_all
         rwa [e4] at this
     · simp at hf
theorem b4p {ks:List Leaf} {cs:List Value} (h:LeafsOkS enc P W ks cs):LeafsOk enc P W ks cs:=by
  induction h with
  |nil=>exact .nil
  | @cons k c ks cs a _ ih=>
    refine .cons ?_ ih
    cases k with
    |int k=>exact a
    |bool=>exact a
    |other t=>obtain ⟨f,x,h,_⟩:=a;exact ⟨f,x,h⟩
theorem a4n {k:Leaf} {ks:List Leaf} {cs:List Value} (h:LeafsOkS enc P W (k::ks) cs):∃ c cs',cs=c::cs'∧b5m enc P W k c∧LeafsOkS enc P W ks cs':=by
  cases h with
  |cons a b=>exact ⟨_,_,rfl,a,b⟩
theorem z3 {ks:List Leaf} {cs:List Value} (h:LeafsOkS enc P W (.int .i64::ks) cs):∃ n cs',cs= .int .i64 n::cs'∧nA n∧LeafsOkS enc P W ks cs':=by
  obtain ⟨c,cs',rfl,h1,h2⟩:=a4n enc P W h
  obtain ⟨n,rfl,hn⟩:=c0m enc P W (show b6z enc P W (.int .i64) c from h1)
  exact ⟨n,cs',rfl,hn,h2⟩
theorem a7v {cs:List Value} (h:LeafsOkS enc P W [] cs):cs=[]:=by cases h;rfl
theorem b8g {t e:TypeId} {c:Value} (hu:P.underlying t=some (.slice e)) (h:b5m enc P W (.other t) c):∃ a n k x p,c= .slice a n k∧DataW.Trod enc P W 0 (fun _=>true) true t c x p∧Sm P t x:=by
  obtain ⟨fuel,x,h1,h2⟩:=h
  have hsh:∃ a n k,c= .slice a n k:=by
    cases fuel with
    |zero=>simp [DataW.trod] at h1
    |succ fuel=>
     have h3:=h1
     unfold DataW.trod at h3;rw [hu] at h3
     split at h3<;>simp_all
  obtain ⟨a,n,k,rfl⟩:=hsh
  exact ⟨a,n,k,x.1,x.2,rfl,⟨fuel,by simpa [Value.cells] using h1⟩,h2⟩
end
end
section
attribute [local irreducible] Exit.then Exit.inBlock Code.wp WC WO WE WQ V bT vL fP cY eI v8 IntKind.wrap WR Code.rounds WT KO
theorem b5n {e:TypeId} {sz g n i j cap:Nat} {xs spare zs:List Value} {M:List HP} (hij:i≤j) (hj:j≤n) (q1:xs.length=n*sz) (q2:xs.all one=true) (h1:n≤cap) (h2:cap≤maxLen) (h3:spare.length=(cap-n)*sz)
    (hz:zs.length=n*sz-(i+(n-j))*sz) (a1:(i+(n-j))*sz=i*sz+(n-j)*sz) (a2:(i+(n-j))*sz≤n*sz) (a3:j*sz≤n*sz) (a4:n*sz≤cap*sz) (a5:(cap-n)*sz=cap*sz-n*sz) (a6:(n-j)*sz=n*sz-j*sz) :
    Ent (Cells g e (aQ (aQ (xs++spare) (i*sz) ((xs.drop (j*sz)).take ((n-j)*sz))) (0+(i+(n-j))*sz) zs)::M)
      (Own e sz (.slice (some ⟨g,0,none⟩) (i+(n-j)) cap) (i+(n-j)) (xs.take (i*sz)++xs.drop (j*sz))::M):=by
  have e1:(List.drop (j*sz) xs).take ((n-j)*sz)=List.drop (j*sz) xs:=List.take_of_length_le (by simp;omega)
  have e2:(List.drop (j*sz) xs).length=(n-j)*sz:=by simp;omega
  rw [e1,Nat.zero_add]
  have hl:=cL (l:=xs++spare) (ys:=List.drop (j*sz) xs) (o:=i*sz) (by simp;omega)
  refine mL (cap:=cap) ?_ (om) h2 ?_ ?_ Ent.refl
  · rw [cL,hl,List.length_append,q1,h3]
    · omega
    · rw [hl,List.length_append];omega
  · rw [vQ (by rw [hl,List.length_append];omega) (om)]
    have:=q8 (l:=xs++spare) (ys:=List.drop (j*sz) xs) (o:=i*sz) (by simp;omega)
    rw [a1,←e2,this,List.take_append_of_le_length (om)]
  · rw [List.all_append,List.all_eq_true.2 fun u hu=>List.all_eq_true.1 q2 u (List.mem_of_mem_take hu),List.all_eq_true.2 fun u hu=>List.all_eq_true.1 q2 u (List.mem_of_mem_drop hu)]
    rfl
theorem b5o {z:List Value} {k n:Nat} (h:z.length=n):(List.replicate k z).flatten.length=k*n:=by simp [h]
theorem tL {F:List HP} {v:Value} {n:Nat} {xs:List Value} (k:RdL F 1 v n xs) (hn:n≤1099511627776):FnF Tryz.prog 248 [v] [] F (fun r L'=>∃ p c,r= .slice p n c∧L'=[Own 3 1 (.slice p n c) n xs]):=by
  refine FnF.mk' Tryz.func248 rfl rfl Tryz.ntmps248 rfl ?_
  refine b6w (v:=v) k fun q1 q2 p c0 e q3=>?_
  subst e
  cases p with
  |none=>
   obtain rfl:=q3 rfl
   obtain rfl:xs=[]:=List.eq_nil_of_length_eq_zero (by simpa using q1)
   repeat first|refine gd ?_|intro _
   (apply aA rfl rfl bH)
   · exact ⟨_,_,rfl,rfl⟩
   · exact aO Ent.refl
  |some a=>
   repeat first|refine gd ?_|intro _
   simp only [Nat.zero_add,List.nil_append]
   (apply aA rfl rfl bH)
   · exact ⟨_,_,rfl,rfl⟩
   · exact Ent.refl
theorem b4q {F:List HP} {v:Value} {l:List Int} {x:Int} (k:RdL F 1 v l.length (aC ic l)) (hn:l.length≤1099511627776):FnF Tryz.prog 212 [v,iv x] [] F (fun r L'=>r= .int .i64 (bA (· =x) l)∧L'=[]):=by
  refine FnF.mk' Tryz.func212 rfl rfl Tryz.ntmps212 rfl ?_
  repeat first|refine gd ?_|intro _
  apply aW (E0:=[(0,_),(1,_),(7,_)]) (fun E0 (i:Nat)=>(8,.int .i64 i)::E0) (fun _=>F) (fun i=>i≤l.length∧∀ j (h:j<l.length),j<i→decide (l[j]=x)=false) (fun i=>l.length-i) 0
  · exact m9
  · exact ⟨om,fun j _ hj=>by omega⟩
  · exact Ent.refl
  · rintro i ⟨hi,h1⟩
    by_cases hlt:i<l.length
    · by_cases he:x=l[i]
      · repeat first|refine gd ?_|intro _
        (apply aA rfl rfl bH)
        · exact ⟨by rw [kG hlt h1 (by simp [he])];rfl,rfl⟩
        · exact Ent.refl
      · repeat first|refine gd ?_|intro _
        refine aT (i+1) (om) ⟨om,fun j hj hji=>?_⟩ ?_ Ent.refl
        · by_cases e:j=i
          · subst e;simpa using fun h=>he h.symm
          · exact h1 j hj (om)
        · exact m9
    · have e:i=l.length:=by omega
      subst e
      repeat first|refine gd ?_|intro _
      (apply aA rfl rfl bH)
      · exact ⟨by rw [gT h1];rfl,rfl⟩
      · exact Ent.refl
theorem a2n {F:List HP} {v:Value} {l:List Int} {fk:FuncId} {first cap:List Value} {p:Int→Bool} (k:RdL F 1 v l.length (aC ic l)) (hn:l.length≤1099511627776)
    (H:∀ x∈l,FnF Tryz.prog fk (first++[iv x]++cap) [] F (fun r L'=>r= .bool (p x)∧L'=[])) :
    FnF Tryz.prog 246 [v,.func (.func fk) first.toArray cap.toArray] [] F (fun r L'=>r= .int .i64 (bA p l)∧L'=[]):=by
  refine FnF.mk' Tryz.func246 rfl rfl Tryz.ntmps246 rfl ?_
  repeat first|refine gd ?_|intro _
  apply aW (E0:=[(0,_),(1,_),(7,_)]) (fun E0 (i:Nat)=>(8,.int .i64 i)::E0) (fun _=>F) (fun i=>i≤l.length∧∀ j (h:j<l.length),j<i→p l[j]=false) (fun i=>l.length-i) 0
  · exact m9
  · exact ⟨om,fun j _ hj=>by omega⟩
  · exact Ent.refl
  · rintro i ⟨hi,h1⟩
    by_cases hlt:i<l.length
    · have hH:=H l[i] (List.getElem_mem hlt)
      cases he:p l[i]
      · rw [he] at hH
        repeat first|refine gd ?_|intro _|refine aD @hH ?_
        refine aT (i+1) (om) ⟨om,fun j hj hji=>?_⟩ ?_ Ent.refl
        · by_cases e:j=i
          · subst e;exact he
          · exact h1 j hj (om)
        · exact m9
      · rw [he] at hH
        repeat first|refine gd ?_|intro _|refine aD @hH ?_
        (apply aA rfl rfl bH)
        · exact ⟨by rw [kG hlt h1 he];rfl,rfl⟩
        · exact Ent.refl
    · have e:i=l.length:=by omega
      subst e
      repeat first|refine gd ?_|intro _
      (apply aA rfl rfl bH)
      · exact ⟨by rw [gT h1];rfl,rfl⟩
      · exact Ent.refl
theorem tM {F:List HP} {v:Value} {n:Nat} {xs:List Value} (k:RdL F 15 v n xs) (hn:n≤1099511627776):FnF Tryz.prog 116 [v] [] F (fun r L'=>∃ p c,r= .slice p n c∧L'=[Own 99 15 (.slice p n c) n xs]):=by
  refine FnF.mk' Tryz.func116 rfl rfl Tryz.ntmps116 rfl ?_
  refine b6w (v:=v) k fun q1 q2 p c0 e q3=>?_
  subst e
  cases p with
  |none=>
   obtain rfl:=q3 rfl
   obtain rfl:xs=[]:=List.eq_nil_of_length_eq_zero (by simpa using q1)
   repeat first|refine gd ?_|intro _
   (apply aA rfl rfl bH)
   · exact ⟨_,_,rfl,rfl⟩
   · exact aO Ent.refl
  |some a=>
   repeat first|refine gd ?_|intro _
   simp only [Nat.zero_add,List.nil_append]
   (apply aA rfl rfl bH)
   · exact ⟨_,_,rfl,rfl⟩
   · exact Ent.refl
theorem qG {Q P:Prop} (k:Q) (h:Hid Q→P:=by
  intro k
  first
  |(refine aI ?_;apply pV (id:=5) .true [] (pl:= .p 0 <| .p 1 <| .p 2 <| .p 3 <| .p 4 <| .p 5 <| .e true [(6,.p 7 <| .done)]);exact sD;kernel_rfl;kernel_rfl;exact Ent.nil;exact k.out)):P:=h ⟨k⟩
theorem b1r {F:List HP} {v:Value} {n i j:Nat} {xs:List Value} (hij:i≤j) (hj:j≤n) (hn:n≤1099511627776) :
    FnF Tryz.prog 180 [v,.int .i64 i,.int .i64 j] [Own 99 15 v n xs] F (fun r L'=>∃ p c,r= .slice p (i+(n-j)) c∧L'=[Own 99 15 (.slice p (i+(n-j)) c) (i+(n-j)) (xs.take (i*15)++xs.drop (j*15))]):=by
  refine FnF.mk' Tryz.func180 rfl rfl Tryz.ntmps180 rfl ?_
  refine b1m (fun q1 q2 p e0 e1 e2=>?_) (fun q1 q2 g cap spare e0 h1 h2 h3=>?_)
  · subst e0 e1 e2
    obtain rfl:i=j:=by omega
    obtain rfl:i=0:=by omega
    repeat first|refine go ?_|intro _|refine qG ?_|refine dM ?_
    (apply aA rfl rfl bH)
    · exact ⟨_,_,rfl,rfl⟩
    · simp only [Nat.zero_sub,List.take_nil,List.drop_nil,List.append_nil]
      exact Ent.refl
  · subst e0
    by_cases he:i=j
    · subst he
      repeat first|refine go ?_|intro _|refine qG ?_|refine dM ?_
      have e0:i+(n-i)=n:=by omega
      rw [e0]
      (apply aA rfl rfl bH)
      · exact ⟨_,_,rfl,rfl⟩
      · rw [List.take_append_drop]
        exact mL (by simp [q1,h3];omega) h1 h2 (by simp [q1]) q2 Ent.refl
    · repeat first|refine go ?_|intro _|refine qG ?_|refine dM ?_
      rw [uY]
      apply qW;rfl;exact GIn.none
      apply vX;rfl;rfl;exact inferInstance;exact RdL.cut (a7l inferInstance q1 q2) hj (Nat.le_refl _) h1;omega;(simp;omega);rfl;rfl
      refine aM ?_
      refine ⟨After.still Ent.nil,?_⟩
      repeat first|refine go ?_|intro _|refine qG ?_|refine dM ?_
      rw [o9 (om)]
      apply xG;rfl
      apply b5i;rfl;rfl;rfl;exact inferInstance;(rw [cL (by simp;omega)];simp;omega);rfl;rfl
      refine aM ?_
      repeat first|refine go ?_|intro _|refine qG ?_|refine dM ?_
      (apply aA rfl rfl bH)
      · exact ⟨_,_,rfl,rfl⟩
      · exact b5n hij hj q1 q2 h1 h2 h3 (by rw [b5o rfl];simp only [List.length_cons,List.length_nil];omega) (om) (om) (om) (om) (om) (om)
theorem b8h {F:List HP} {v:Value} {n:Nat} {xs:List Value} (k:RdL F 3 v n xs) (hn:n≤1099511627776):FnF Tryz.prog 91 [v] [] F (fun r L'=>∃ p c,r= .slice p n c∧L'=[Own 58 3 (.slice p n c) n xs]):=by
  refine FnF.mk' Tryz.func91 rfl rfl Tryz.ntmps91 rfl ?_
  refine b6w (v:=v) k fun q1 q2 p c0 e q3=>?_
  subst e
  cases p with
  |none=>
   obtain rfl:=q3 rfl
   obtain rfl:xs=[]:=List.eq_nil_of_length_eq_zero (by simpa using q1)
   repeat first|refine gd ?_|intro _
   (apply aA rfl rfl bH)
   · exact ⟨_,_,rfl,rfl⟩
   · exact aO Ent.refl
  |some a=>
   repeat first|refine gd ?_|intro _
   simp only [Nat.zero_add,List.nil_append]
   (apply aA rfl rfl bH)
   · exact ⟨_,_,rfl,rfl⟩
   · exact Ent.refl
theorem b4r {F:List HP} {v:Value} {n:Nat} {xs:List Value} (k:RdL F 10 v n xs) (hn:n≤1099511627776):FnF Tryz.prog 118 [v] [] F (fun r L'=>∃ p c,r= .slice p n c∧L'=[Own 125 10 (.slice p n c) n xs]):=by
  refine FnF.mk' Tryz.func118 rfl rfl Tryz.ntmps118 rfl ?_
  refine b6w (v:=v) k fun q1 q2 p c0 e q3=>?_
  subst e
  cases p with
  |none=>
   obtain rfl:=q3 rfl
   obtain rfl:xs=[]:=List.eq_nil_of_length_eq_zero (by simpa using q1)
   repeat first|refine gd ?_|intro _
   (apply aA rfl rfl bH)
   · exact ⟨_,_,rfl,rfl⟩
   · exact aO Ent.refl
  |some a=>
   repeat first|refine gd ?_|intro _
   simp only [Nat.zero_add,List.nil_append]
   (apply aA rfl rfl bH)
   · exact ⟨_,_,rfl,rfl⟩
   · exact Ent.refl
theorem qH {Q P:Prop} (k:Q) (h:Hid Q→P:=by
  intro k
  first
  |(refine aI ?_;apply pV (id:=5) .true [] (pl:= .p 0 <| .p 1 <| .p 2 <| .p 3 <| .p 4 <| .p 5 <| .e true [(6,.p 7 <| .done)]);exact sD;kernel_rfl;kernel_rfl;exact Ent.nil;exact k.out)):P:=h ⟨k⟩
theorem b1s {F:List HP} {v:Value} {n i j:Nat} {xs:List Value} (hij:i≤j) (hj:j≤n) (hn:n≤1099511627776) :
    FnF Tryz.prog 237 [v,.int .i64 i,.int .i64 j] [Own 125 10 v n xs] F (fun r L'=>∃ p c,r= .slice p (i+(n-j)) c∧L'=[Own 125 10 (.slice p (i+(n-j)) c) (i+(n-j)) (xs.take (i*10)++xs.drop (j*10))]):=by
  refine FnF.mk' Tryz.func237 rfl rfl Tryz.ntmps237 rfl ?_
  refine b1m (fun q1 q2 p e0 e1 e2=>?_) (fun q1 q2 g cap spare e0 h1 h2 h3=>?_)
  · subst e0 e1 e2
    obtain rfl:i=j:=by omega
    obtain rfl:i=0:=by omega
    repeat first|refine go ?_|intro _|refine qH ?_|refine dM ?_
    (apply aA rfl rfl bH)
    · exact ⟨_,_,rfl,rfl⟩
    · simp only [Nat.zero_sub,List.take_nil,List.drop_nil,List.append_nil]
      exact Ent.refl
  · subst e0
    by_cases he:i=j
    · subst he
      repeat first|refine go ?_|intro _|refine qH ?_|refine dM ?_
      have e0:i+(n-i)=n:=by omega
      rw [e0]
      (apply aA rfl rfl bH)
      · exact ⟨_,_,rfl,rfl⟩
      · rw [List.take_append_drop]
        exact mL (by simp [q1,h3];omega) h1 h2 (by simp [q1]) q2 Ent.refl
    · repeat first|refine go ?_|intro _|refine qH ?_|refine dM ?_
      rw [uY]
      apply qW;rfl;exact GIn.none
      apply vX;rfl;rfl;exact inferInstance;exact RdL.cut (a7l inferInstance q1 q2) hj (Nat.le_refl _) h1;omega;(simp;omega);rfl;rfl
      refine aM ?_
      refine ⟨After.still Ent.nil,?_⟩
      repeat first|refine go ?_|intro _|refine qH ?_|refine dM ?_
      rw [o9 (om)]
      apply xG;rfl
      apply b5i;rfl;rfl;rfl;exact inferInstance;(rw [cL (by simp;omega)];simp;omega);rfl;rfl
      refine aM ?_
      repeat first|refine go ?_|intro _|refine qH ?_|refine dM ?_
      (apply aA rfl rfl bH)
      · exact ⟨_,_,rfl,rfl⟩
      · exact b5n hij hj q1 q2 h1 h2 h3 (by rw [b5o rfl];simp only [List.length_cons,List.length_nil];omega) (om) (om) (om) (om) (om) (om)
theorem a2o {F:List HP} {v:Value} {l:List WbE} {fk:FuncId} {first cap:List Value} {p:WbE→Bool} (k:RdL F 10 v l.length (aC bc l)) (hn:l.length≤1099511627776)
    (H:∀ x∈l,FnF Tryz.prog fk (first++[bv x]++cap) [] F (fun r L'=>r= .bool (p x)∧L'=[])) :
    FnF Tryz.prog 232 [v,.func (.func fk) first.toArray cap.toArray] [] F (fun r L'=>r= .int .i64 (bA p l)∧L'=[]):=by
  refine FnF.mk' Tryz.func232 rfl rfl Tryz.ntmps232 rfl ?_
  repeat first|refine gd ?_|intro _
  apply aW (E0:=[(0,_),(1,_),(7,_)]) (fun E0 (i:Nat)=>(8,.int .i64 i)::E0) (fun _=>F) (fun i=>i≤l.length∧∀ j (h:j<l.length),j<i→p l[j]=false) (fun i=>l.length-i) 0
  · exact m9
  · exact ⟨om,fun j _ hj=>by omega⟩
  · exact Ent.refl
  · rintro i ⟨hi,h1⟩
    by_cases hlt:i<l.length
    · have hH:=H l[i] (List.getElem_mem hlt)
      cases he:p l[i]
      · rw [he] at hH
        repeat first|refine gd ?_|intro _|refine aD @hH ?_
        refine aT (i+1) (om) ⟨om,fun j hj hji=>?_⟩ ?_ Ent.refl
        · by_cases e:j=i
          · subst e;exact he
          · exact h1 j hj (om)
        · exact m9
      · rw [he] at hH
        repeat first|refine gd ?_|intro _|refine aD @hH ?_
        (apply aA rfl rfl bH)
        · exact ⟨by rw [kG hlt h1 he];rfl,rfl⟩
        · exact Ent.refl
    · have e:i=l.length:=by omega
      subst e
      repeat first|refine gd ?_|intro _
      (apply aA rfl rfl bH)
      · exact ⟨by rw [gT h1];rfl,rfl⟩
      · exact Ent.refl
theorem qI {Q P:Prop} (k:Q) (h:Hid Q→P:=by
  intro k
  first
  |(refine aI ?_;apply pV (id:=5) .true [] (pl:= .p 0 <| .p 1 <| .p 2 <| .p 3 <| .p 4 <| .p 5 <| .e true [(6,.p 7 <| .done)]);exact sD;kernel_rfl;kernel_rfl;exact Ent.nil;exact k.out)):P:=h ⟨k⟩
theorem a0s {F:List HP} {v:Value} {n i j:Nat} {xs:List Value} (hij:i≤j) (hj:j≤n) (hn:n≤1099511627776) :
    FnF Tryz.prog 190 [v,.int .i64 i,.int .i64 j] [Own 191 17 v n xs] F (fun r L'=>∃ p c,r= .slice p (i+(n-j)) c∧L'=[Own 191 17 (.slice p (i+(n-j)) c) (i+(n-j)) (xs.take (i*17)++xs.drop (j*17))]):=by
  refine FnF.mk' Tryz.func190 rfl rfl Tryz.ntmps190 rfl ?_
  refine b1m (fun q1 q2 p e0 e1 e2=>?_) (fun q1 q2 g cap spare e0 h1 h2 h3=>?_)
  · subst e0 e1 e2
    obtain rfl:i=j:=by omega
    obtain rfl:i=0:=by omega
    repeat first|refine go ?_|intro _|refine qI ?_|refine dM ?_
    (apply aA rfl rfl bH)
    · exact ⟨_,_,rfl,rfl⟩
    · simp only [Nat.zero_sub,List.take_nil,List.drop_nil,List.append_nil]
      exact Ent.refl
  · subst e0
    by_cases he:i=j
    · subst he
      repeat first|refine go ?_|intro _|refine qI ?_|refine dM ?_
      have e0:i+(n-i)=n:=by omega
      rw [e0]
      (apply aA rfl rfl bH)
      · exact ⟨_,_,rfl,rfl⟩
      · rw [List.take_append_drop]
        exact mL (by simp [q1,h3];omega) h1 h2 (by simp [q1]) q2 Ent.refl
    · repeat first|refine go ?_|intro _|refine qI ?_|refine dM ?_
      rw [uY]
      apply qW;rfl;exact GIn.none
      apply vX;rfl;rfl;exact inferInstance;exact RdL.cut (a7l inferInstance q1 q2) hj (Nat.le_refl _) h1;omega;(simp;omega);rfl;rfl
      refine aM ?_
      refine ⟨After.still Ent.nil,?_⟩
      repeat first|refine go ?_|intro _|refine qI ?_|refine dM ?_
      rw [o9 (om)]
      apply xG;rfl
      apply b5i;rfl;rfl;rfl;exact inferInstance;(rw [cL (by simp;omega)];simp;omega);rfl;rfl
      refine aM ?_
      repeat first|refine go ?_|intro _|refine qI ?_|refine dM ?_
      (apply aA rfl rfl bH)
      · exact ⟨_,_,rfl,rfl⟩
      · exact b5n hij hj q1 q2 h1 h2 h3 (by rw [b5o rfl];simp only [List.length_cons,List.length_nil];omega) (om) (om) (om) (om) (om) (om)
theorem uD {F:List HP} {v:Value} {l:List QP} {fk:FuncId} {first cap:List Value} {p:QP→Bool} (k:RdL F 17 v l.length (aC qc l)) (hn:l.length≤1099511627776)
    (H:∀ x∈l,FnF Tryz.prog fk (first++[qv x]++cap) [] F (fun r L'=>r= .bool (p x)∧L'=[])) :
    FnF Tryz.prog 188 [v,.func (.func fk) first.toArray cap.toArray] [] F (fun r L'=>r= .int .i64 (bA p l)∧L'=[]):=by
  refine FnF.mk' Tryz.func188 rfl rfl Tryz.ntmps188 rfl ?_
  repeat first|refine gd ?_|intro _
  apply aW (E0:=[(0,_),(1,_),(7,_)]) (fun E0 (i:Nat)=>(8,.int .i64 i)::E0) (fun _=>F) (fun i=>i≤l.length∧∀ j (h:j<l.length),j<i→p l[j]=false) (fun i=>l.length-i) 0
  · exact m9
  · exact ⟨om,fun j _ hj=>by omega⟩
  · exact Ent.refl
  · rintro i ⟨hi,h1⟩
    by_cases hlt:i<l.length
    · have hH:=H l[i] (List.getElem_mem hlt)
      cases he:p l[i]
      · rw [he] at hH
        repeat first|refine gd ?_|intro _|refine aD @hH ?_
        refine aT (i+1) (om) ⟨om,fun j hj hji=>?_⟩ ?_ Ent.refl
        · by_cases e:j=i
          · subst e;exact he
          · exact h1 j hj (om)
        · exact m9
      · rw [he] at hH
        repeat first|refine gd ?_|intro _|refine aD @hH ?_
        (apply aA rfl rfl bH)
        · exact ⟨by rw [kG hlt h1 he];rfl,rfl⟩
        · exact Ent.refl
    · have e:i=l.length:=by omega
      subst e
      repeat first|refine gd ?_|intro _
      (apply aA rfl rfl bH)
      · exact ⟨by rw [gT h1];rfl,rfl⟩
      · exact Ent.refl
end
section
structure Way where
  st:Int
  line:Int
  words:Words
  lk:Bool
abbrev b8i (w:Way):List Value:=[.int .i64 w.st,.int .i64 w.line,.int .i64 w.words.w0,.int .i64 w.words.w1,.int .i64 w.words.w2,.int .i64 w.words.w3,.int .i64 w.words.w4,.int .i64 w.words.w5,.int .i64 w.words.w6,.int .i64 w.words.w7,.bool w.lk]
abbrev f3w (w:Way):Value:= .agg (b8i w).toArray
abbrev Way.zero:Way:=⟨0,0,.zero,false⟩
theorem Way.ext_iff' {a b:Way}:(a.st=b.st∧a.line=b.line∧a.words=b.words∧a.lk=b.lk)↔a=b:=by cases a;cases b;simp
instance:DecidableEq Way:=fun a b=>decidable_of_iff _ Way.ext_iff'
structure Miss where
  line:Int
  kind:Int
  needs:Int
  got:Int
  own:Int
  words:Words
  granted:Bool
  owes:Bool
abbrev k9 (m:Miss):List Value:=[.int .i64 m.line,.int .i64 m.kind,.int .i64 m.needs,.int .i64 m.got,.int .i64 m.own,.int .i64 m.words.w0,.int .i64 m.words.w1,.int .i64 m.words.w2,.int .i64 m.words.w3,.int .i64 m.words.w4,.int .i64 m.words.w5,.int .i64 m.words.w6,.int .i64 m.words.w7,.bool m.granted,.bool m.owes]
abbrev f4i (m:Miss):Value:= .agg (k9 m).toArray
abbrev Miss.zero:Miss:=⟨0,0,0,0,0,.zero,false,false⟩
theorem Miss.ext_iff' {a b:Miss}:(a.line=b.line∧a.kind=b.kind∧a.needs=b.needs∧a.got=b.got∧a.own=b.own∧a.words=b.words∧a.granted=b.granted∧a.owes=b.owes)↔a=b:=by cases a;cases b;simp
instance:DecidableEq Miss:=fun a b=>decidable_of_iff _ Miss.ext_iff'
section
variable {P:Program} {N:Nat} {t ty:TypeId} {x y:Operand} {env:Env} {L:List HP}
theorem b4s {e:TypeId} {nn:Int} {z:Value} {sz bs:Nat} {zs:List Value} {pos:String} {aft:Array Edge} {d:Nat} [hT:TU P t (.slice e)] [hZ:TZ P e sz z bs] [hco:CO z zs]
    (hx:ev env x=some (.int .i64 nn)) (h0:0≤nn) (hb:(bs:Int)*nn≤140737488355328) (hm:nn≤1099511627776) (hl:zs.length=sz) (hs:0<sz) (hd:Nat.blt d N=true) :
    KO P N ⟨some d,.makeSlice t x x,ty,pos,aft,none⟩ env L (a1w env d (fun b=> .slice (some ⟨b,0,none⟩) nn.toNat nn.toNat) (fun b=>Cells b e (List.replicate nn.toNat zs).flatten::L)):=by
  have hz:=hco.pf
  have hzc:z.cells=zs.toArray:=by rw [dA,hz]
  have hi:=hZ.pf
  cases hq:P.info? e with
  |none=>simp [hq] at hi
  |some i=>
   simp only [hq,Option.map_some,Option.some.injEq,Prod.mk.injEq] at hi
   obtain ⟨hi1,hi2,hi3⟩:=hi
   have f1r:madeCells z.cells (nn.toNat*i.size)=(List.replicate nn.toNat zs).flatten.toArray:=by
     apply Array.ext'
     simp only [madeCells,hzc,hi1,Array.toList_map,Array.toList_range]
     apply List.ext_getElem
     · simp [hl]
     · intro j h1 h2
       have hj:j<nn.toNat*sz:=by simpa using h1
       have hmod:j % sz<zs.length:=by rw [hl];exact Nat.mod_lt _ hs
       have hrep:∀ (k j:Nat) (hj:j<(List.replicate k zs).flatten.length),(List.replicate k zs).flatten[j]=zs[j % sz]'(by rw [hl];exact Nat.mod_lt _ hs):=by
         intro k
         induction k with
         |zero=>intro j hj;simp at hj
         |succ k ih=>
          intro j hj
          simp only [List.replicate_succ,List.flatten_cons,List.getElem_append]
          split
          · rename_i hlt
            congr 1
            rw [Nat.mod_eq_of_lt (om)]
          · rename_i hge
            have:=ih (j-zs.length) (by simp only [List.replicate_succ,List.flatten_cons,List.length_append] at hj;omega)
            rw [this]
            congr 1
            rw [hl,Nat.mod_eq_sub_mod (a:=j) (b:=sz) (om)]
       simp only [List.getElem_map,List.getElem_range]
       rw [hrep]
       rw [getElem!_pos zs.toArray (j % zs.toArray.size) (by simp [hl];omega)]
       simp [hl]
   refine b2k (P:=P) (o:= .cells (List.replicate nn.toNat zs).flatten.toArray e (0,0)) (v:=fun b=> .slice (some ⟨b,0,none⟩) nn.toNat nn.toNat) (fun b h hc=>⟨hc⟩) ?_ hd
   intro a w ha _
   have hr:=run_make (P:=P) w t e i z hT.pf hq hi2 .i64 .i64 nn nn h0 (Int.le_refl _) (by rw [hi3];omega) (om)
   rw [f1r] at hr
   simp only [execOp,ha.ev hx,hr,Sem.run_bind,Result.andThen_ok,Sem.run_pure]
   rfl
end
attribute [local irreducible] Exit.then Exit.inBlock Code.wp WC WO WE WQ V bT vL fP cY eI v8 IntKind.wrap WR Code.rounds WT KO
theorem kB {F:List HP} {v:Value} {l:List Way} {fk:FuncId} {first cap:List Value} {p:Way→Bool} (k:RdL F 11 v l.length (aC b8i l)) (hn:l.length≤1099511627776)
    (H:∀ x∈l,FnF Tryz.prog fk (first++[f3w x]++cap) [] F (fun r L'=>r= .bool (p x)∧L'=[])) :
    FnF Tryz.prog 204 [v,.func (.func fk) first.toArray cap.toArray] [] F (fun r L'=>r= .int .i64 (bA p l)∧L'=[]):=by
  refine FnF.mk' Tryz.func204 rfl rfl Tryz.ntmps204 rfl ?_
  repeat first|refine gd ?_|intro _
  apply aW (E0:=[(0,_),(1,_),(7,_)]) (fun E0 (i:Nat)=>(8,.int .i64 i)::E0) (fun _=>F) (fun i=>i≤l.length∧∀ j (h:j<l.length),j<i→p l[j]=false) (fun i=>l.length-i) 0
  · exact m9
  · exact ⟨om,fun j _ hj=>by omega⟩
  · exact Ent.refl
  · rintro i ⟨hi,h1⟩
    by_cases hlt:i<l.length
    · have hH:=H l[i] (List.getElem_mem hlt)
      cases he:p l[i]
      · rw [he] at hH
        repeat first|refine gd ?_|intro _|refine aD @hH ?_
        refine aT (i+1) (om) ⟨om,fun j hj hji=>?_⟩ ?_ Ent.refl
        · by_cases e:j=i
          · subst e;exact he
          · exact h1 j hj (om)
        · exact m9
      · rw [he] at hH
        repeat first|refine gd ?_|intro _|refine aD @hH ?_
        (apply aA rfl rfl bH)
        · exact ⟨by rw [kG hlt h1 he];rfl,rfl⟩
        · exact Ent.refl
    · have e:i=l.length:=by omega
      subst e
      repeat first|refine gd ?_|intro _
      (apply aA rfl rfl bH)
      · exact ⟨by rw [gT h1];rfl,rfl⟩
      · exact Ent.refl
theorem b1t {F:List HP} {v:Value} {n:Nat} {xs:List Value} (k:RdL F 15 v n xs) (hn:n≤1099511627776):FnF Tryz.prog 117 [v] [] F (fun r L'=>∃ p c,r= .slice p n c∧L'=[Own 182 15 (.slice p n c) n xs]):=by
  refine FnF.mk' Tryz.func117 rfl rfl Tryz.ntmps117 rfl ?_
  refine b6w (v:=v) k fun q1 q2 p c0 e q3=>?_
  subst e
  cases p with
  |none=>
   obtain rfl:=q3 rfl
   obtain rfl:xs=[]:=List.eq_nil_of_length_eq_zero (by simpa using q1)
   repeat first|refine gd ?_|intro _
   (apply aA rfl rfl bH)
   · exact ⟨_,_,rfl,rfl⟩
   · exact aO Ent.refl
  |some a=>
   repeat first|refine gd ?_|intro _
   simp only [Nat.zero_add,List.nil_append]
   (apply aA rfl rfl bH)
   · exact ⟨_,_,rfl,rfl⟩
   · exact Ent.refl
theorem mS {F:List HP} {v:Value} {l:List Miss} {fk:FuncId} {first cap:List Value} {p:Miss→Bool} (k:RdL F 15 v l.length (aC k9 l)) (hn:l.length≤1099511627776)
    (H:∀ x∈l,FnF Tryz.prog fk (first++[f4i x]++cap) [] F (fun r L'=>r= .bool (p x)∧L'=[])) :
    FnF Tryz.prog 230 [v,.func (.func fk) first.toArray cap.toArray] [] F (fun r L'=>r= .int .i64 (bA p l)∧L'=[]):=by
  refine FnF.mk' Tryz.func230 rfl rfl Tryz.ntmps230 rfl ?_
  repeat first|refine gd ?_|intro _
  apply aW (E0:=[(0,_),(1,_),(7,_)]) (fun E0 (i:Nat)=>(8,.int .i64 i)::E0) (fun _=>F) (fun i=>i≤l.length∧∀ j (h:j<l.length),j<i→p l[j]=false) (fun i=>l.length-i) 0
  · exact m9
  · exact ⟨om,fun j _ hj=>by omega⟩
  · exact Ent.refl
  · rintro i ⟨hi,h1⟩
    by_cases hlt:i<l.length
    · have hH:=H l[i] (List.getElem_mem hlt)
      cases he:p l[i]
      · rw [he] at hH
        repeat first|refine gd ?_|intro _|refine aD @hH ?_
        refine aT (i+1) (om) ⟨om,fun j hj hji=>?_⟩ ?_ Ent.refl
        · by_cases e:j=i
          · subst e;exact he
          · exact h1 j hj (om)
        · exact m9
      · rw [he] at hH
        repeat first|refine gd ?_|intro _|refine aD @hH ?_
        (apply aA rfl rfl bH)
        · exact ⟨by rw [kG hlt h1 he];rfl,rfl⟩
        · exact Ent.refl
    · have e:i=l.length:=by omega
      subst e
      repeat first|refine gd ?_|intro _
      (apply aA rfl rfl bH)
      · exact ⟨by rw [gT h1];rfl,rfl⟩
      · exact Ent.refl
theorem xB {F:List HP} {v:Value} {l:List Int} {fk:FuncId} {first cap:List Value} {p:Int→Bool} (k:RdL F 1 v l.length (aC ic l)) (hn:l.length≤1099511627776)
    (H:∀ x∈l,FnF Tryz.prog fk (first++[iv x]++cap) [] F (fun r L'=>r= .bool (p x)∧L'=[])) :
    FnF Tryz.prog 234 [v,.func (.func fk) first.toArray cap.toArray] [] F (fun r L'=>r= .bool (decide (0≤bA p l))∧L'=[]):=by
  have hI:=fun (k:RdL F 1 v l.length (aC ic l))=>a2n (F:=F) (first:=first) (cap:=cap) (p:=p) k hn H
  refine FnF.mk' Tryz.func234 rfl rfl Tryz.ntmps234 rfl ?_
  repeat first|refine gd ?_|intro _|refine aD @hI ?_
  exact bF
end
section
attribute [local irreducible] Exit.then Exit.inBlock Code.wp WC WO WE WQ V bT vL fP cY eI v8 IntKind.wrap WR Code.rounds WT KO
def d8o {α:Type} (room:Int) (l:List α):Int:=if (l.length:Int)=room then 4 else 0
def a4o {α:Type} (room:Int) (l:List α) (x:α):List α:=if (l.length:Int)=room then l else l++[x]
def d4w {α:Type} (l:List α) (n:Int):Bool:=decide (0≤n∧n<l.length)
def oQ {α:Type} (l:List α) (n:Int):List α:=if d4w l n then l.eraseIdx n.toNat else l
def c3j {α:Type} (l:List α) (n:Int):Int:=if d4w l n then 0 else 5
def e6z {α:Type} (z:α) (l:List α) (n:Int):α:=if d4w l n then l.getD n.toNat z else z
theorem e2z {α:Type} {room:Int} {l:List α} {x:α} (h:(l.length:Int)≤room):((a4o room l x).length:Int)≤room:=by
  unfold a4o;split
  · exact h
  · simp;omega
theorem b5p {α:Type} {l:List α} {n:Int}:d4w l n=true↔(0≤n∧n<l.length):=by simp [d4w]
theorem c7a {α:Type} {l:List α} {n:Int}:d4w l n=false↔¬(0≤n∧n<l.length):=by rw [←Bool.not_eq_true,b5p]
abbrev bL (b:Nat) (room:Int) (l:List Msg):HP:=RL 179 99 15 mc b room l
theorem vZ {F:List HP} {room:Int} (h:1≤room∧room≤4096):FnF Tryz.prog 90 [.int .i64 room] [] F (fun r L'=>∃ b,r= .tuple [.pointer (some ⟨b,0,none⟩),.int .i64 0].toArray∧L'=[bL b room []]):=by
  refine FnF.mk' Tryz.func90 rfl rfl Tryz.ntmps90 rfl ?_
  repeat first|refine gd ?_|intro _
  (apply aA rfl rfl bH)
  · exact ⟨_,rfl,rfl⟩
  · exact eX (l:=[]) (Ent.cons (aO Ent.refl)) rfl rfl (by simp;omega)
theorem mY {F:List HP} {b:Nat} {room:Int} {l:List Msg}:FnF Tryz.prog 139 [.pointer (some ⟨b,0,none⟩)] [bL b room l] F (fun r L'=>r= .int .i64 (room-l.length)∧L'=[bL b room l]):=by
  refine FnF.mk' Tryz.func139 rfl rfl Tryz.ntmps139 rfl ?_
  refine i8 fun p c hl=>?_
  repeat first|refine gd ?_|intro _
  (apply aA rfl rfl bH)
  · exact ⟨rfl,rfl⟩
  · (apply eX;(focus (exact aB));all_goals exact mZ)
theorem a7w {Q P:Prop} (k:Q) (h:Hid Q→P:=by
  intro k
  first
  |(refine aI ?_;refine uU (id:=3) .true (pl:= .p 0 <| .p 1 <| .p 2 <| .p 3 <| .r 4 <| .r 5 <| .e true [(6,.e true [(7,.p 8 <| .p 9 <| .e false [(10,.done)])])]) k.out)):P:=h ⟨k⟩
theorem v5 {F:List HP} {b:Nat} {room:Int} {l:List Msg} {x:Msg}:FnF Tryz.prog 198 [.pointer (some ⟨b,0,none⟩),mv x] [bL b room l] F (fun r L'=>r= .int .i64 (d8o room l)∧L'=[bL b room (a4o room l x)]):=by
  refine FnF.mk' Tryz.func198 rfl rfl Tryz.ntmps198 rfl ?_
  by_cases e:(l.length:Int)=room
  · repeat first|refine go ?_|intro _|refine a7w ?_|refine dM ?_|refine aD @mY ?_
    (apply aA rfl rfl bH)
    · exact ⟨by simp [d8o,e],rfl⟩
    · simp only [a4o,e,if_true];exact aB
  · repeat first|refine go ?_|intro _|refine aD @mY ?_
    (first|refine aX (bL b room l) ?_|refine aY (bL b room l) ?_|refine aZ (bL b room l) ?_)
    first|refine i8 fun p c hl=>?_|refine qV fun p c hl=>?_
    repeat first|refine go ?_|intro _|refine a7w ?_|refine dM ?_
    (apply aA rfl rfl bH)
    · exact ⟨by simp [d8o,e],rfl⟩
    · simp only [a4o,e,if_false]
      (apply eX;(focus (exact aB));all_goals exact mZ)
theorem qJ {F:List HP} {b:Nat} {room:Int} {l:List Msg} {n:Int}:FnF Tryz.prog 138 [.pointer (some ⟨b,0,none⟩),.int .i64 n] [bL b room l] F (fun r L'=>r= .tuple [mv (e6z .zero l n),.bool (d4w l n)].toArray∧L'=[bL b room l]):=by
  refine FnF.mk' Tryz.func138 rfl rfl Tryz.ntmps138 rfl ?_
  refine i8 fun p c hl=>?_
  by_cases h:0≤n∧n<l.length
  · obtain ⟨i,rfl⟩:∃ i:Nat,n=i:=⟨n.toNat,om⟩
    have hi:i<l.length:=by omega
    repeat first|refine gd ?_|intro _
    (apply aA rfl rfl bH)
    · exact ⟨by simp [e6z,b5p.2 h,hi],rfl⟩
    · (apply eX;(focus (exact aB));all_goals exact mZ)
  · repeat' (first|refine gd ?_|intro _|refine nV ?_ ?_|fail)
    all_goals first|(exfalso;omega)|skip
    all_goals (apply aA rfl rfl bH)
    all_goals first|exact ⟨by simp [e6z,c7a.2 h];rfl,rfl⟩|exact ⟨by simp [e6z,c7a.2 h],rfl⟩|(apply eX;(focus (exact aB));all_goals exact mZ)
theorem kL {F:List HP} {b:Nat} {room:Int} {l:List Msg}:FnF Tryz.prog 56 [.pointer (some ⟨b,0,none⟩)] [bL b room l] F (fun r L'=>∃ p c,r= .slice p l.length c∧L'=[Own 99 15 (.slice p l.length c) l.length (aC mc l),bL b room l]):=by
  refine FnF.mk' Tryz.func56 rfl rfl Tryz.ntmps56 rfl ?_
  refine i8 fun p c hl=>?_
  repeat first|refine gd ?_|intro _|refine aD @tM ?_
  (apply aA rfl rfl bH)
  · exact ⟨_,_,rfl,rfl⟩
  · refine Ent.cons ?_
    (apply eX;(focus (exact aB));all_goals exact mZ)
theorem tN {F:List HP} {b:Nat} {room:Int} {l:List Msg} {n:Int}:FnF Tryz.prog 142 [.pointer (some ⟨b,0,none⟩),.int .i64 n] [bL b room l] F (fun r L'=>r= .tuple [mv (e6z .zero l n),.int .i64 (c3j l n)].toArray∧L'=[bL b room (oQ l n)]):=by
  refine FnF.mk' Tryz.func142 rfl rfl Tryz.ntmps142 rfl ?_
  cases e:d4w l n with
  |true=>
   obtain ⟨h1,h2⟩:=b5p.1 e
   obtain ⟨i,rfl⟩:∃ i:Nat,n=i:=⟨n.toNat,om⟩
   have hB:=fun F=>qJ (F:=F) (b:=b) (room:=room) (l:=l) (n:=i)
   simp only [e] at hB
   repeat first|refine gd ?_|intro _|refine aD @hB ?_
   (first|refine aX (bL b room l) ?_|refine aY (bL b room l) ?_|refine aZ (bL b room l) ?_)
   refine qV fun p c hl=>?_
   repeat first|refine gd ?_|intro _
   refine aD (@b1r (i:=i) (j:=i+1)) ?_
   repeat first|refine gd ?_|intro _
   (apply aA rfl rfl bH)
   · exact ⟨by simp [c3j,e],rfl⟩
   · simp only [oQ,e,if_true]
     apply eX
     · exact aB
     · simp only [List.length_eraseIdx,Int.toNat_natCast];split<;>omega
     · rw [iU (enc:=mc) (n:=15) (fun _=>rfl),fV (enc:=mc) (n:=15) (fun _=>rfl)]
       simp [List.eraseIdx_eq_take_drop_succ]
     · have:=List.length_eraseIdx_le l i
       simp only [Int.toNat_natCast]
       omega
  |false=>
   have hB:=fun F=>qJ (F:=F) (b:=b) (room:=room) (l:=l) (n:=n)
   simp only [e] at hB
   repeat first|refine gd ?_|intro _|refine aD @hB ?_
   (apply aA rfl rfl bH)
   · exact ⟨by simp [c3j,e],rfl⟩
   · simp only [oQ,e,Bool.false_eq_true,if_false];exact aB
end
end Go.Sx
