/- Read, Read2, SlT, Arr0, Bag, Msh: several of my texts as one. My own work. -/
import Derived.Carry
import Derived.ChangeOld
import Derived.OpenShut
import Derived.ProofKit
import Derived.WalkKit
import Derived.Test.YtjihlpjnebdiiaaGreatData
set_option linter.unusedVariables false
set_option linter.unusedSectionVars false
set_option linter.unusedSimpArgs false
set_option maxRecDepth 100000
set_option maxHeartbeats 4000000
namespace Go.Sx
open Go Go.Proofs
section
open Go Go.ChangeShapes Go.WideShapes
inductive Leaf where
  |int (k:IntKind)
  |bool
  |other (t:TypeId)
section
variable {H:Type} (enc:TypeId×Value→H) (P:Program) (W:World)
def b4e:Leaf→Value→Prop
  | .int k,v=>∃ n,v= .int k n∧(Lit.int k n).wf=true
  | .bool,v=>∃ b,v= .bool b
  | .other t,v=>∃ fuel x,DataW.trod enc P W 0 (fun _=>true) true fuel t [v]=some x
inductive LeafsOk:List Leaf→List Value→Prop
  |nil:LeafsOk [] []
  |cons {k:Leaf} {c:Value} {ks:List Leaf} {cs:List Value}:b4e enc P W k c→LeafsOk ks cs→LeafsOk (k::ks) (c::cs)
def sA (f:TypeId→Option (List Leaf)):List Field→Nat→Option (List Leaf)
  | [],_=>some []
  |fd::r,off=>match f fd.type with
   |none=>none
   |some ks=>if fd.offset=off∧P.cellsOf fd.type=ks.length then (sA f r (off+ks.length)).map (ks++ ·) else none
def oE:Nat→TypeId→Option (List Leaf)
  |0,_=>none
  |d+1,t=>match P.underlying t with
   |some .bool=>some [.bool]
   |some (.int k)=>some [.int k]
   |some (.slice _)=>some [.other t]
   |some .string=>some [.other t]
   |some (.struct fs)=>(sA P (oE d) fs.toList 0).bind fun ks=>if ks.length=P.cellsOf t then some ks else none
   |some (.array n e)=>(oE d e).bind fun ks=>if ks.length=P.cellsOf e∧n*ks.length=P.cellsOf t then some (List.replicate n ks).flatten else none
   |_=>none
theorem uT {ks ks':List Leaf} {cs cs':List Value} (h:LeafsOk enc P W ks cs) (h':LeafsOk enc P W ks' cs'):LeafsOk enc P W (ks++ks') (cs++cs'):=by
  induction h with
  |nil=>exact h'
  |cons a _ ih=>exact .cons a ih
theorem jA {α β:Type} {f:α→Option β} {a:α} {l:List α} {r:List β} (h:(a::l).mapM f=some r):∃ b r',f a=some b∧l.mapM f=some r'∧r=b::r':=by
  rw [List.mapM_cons] at h
  simp only [Option.bind_eq_bind,Option.bind_eq_some_iff] at h
  obtain ⟨b,h1,r',h2,h3⟩:=h
  exact ⟨b,r',h1,h2,by simpa using h3.symm⟩
theorem b0e {d:Nat} (ih:∀ t ks,oE P d t=some ks→∀ fuel cs x,DataW.trod enc P W 0 (fun _=>true) true fuel t cs=some x→LeafsOk enc P W ks cs) (fuel:Nat) (cs:List Value) :
    ∀ (fs:List Field) (off:Nat) (ks:List Leaf) (xs:List (DataW H×List MemPlace)),sA P (oE P d) fs off=some ks→
      (fs.mapM fun f=>DataW.trod enc P W 0 (fun _=>true) true fuel f.type ((cs.drop f.offset).take (P.cellsOf f.type)))=some xs→LeafsOk enc P W ks ((cs.drop off).take ks.length)
  | [],off,ks,xs,h,_=>by simp [sA] at h;subst h;simp;exact .nil
  |fd::r,off,ks,xs,h,hm=>by
   obtain ⟨x,xs',h1,h2,_⟩:=jA hm
   simp only [sA] at h
   cases hk:oE P d fd.type with
   |none=>simp [hk] at h
   |some k0=>
    simp only [hk] at h
    split at h
    · rename_i hc
      obtain ⟨c1,c2⟩:=hc
      cases hr:sA P (oE P d) r (off+k0.length) with
      |none=>simp [hr] at h
      |some k1=>
       simp [hr] at h
       subst h
       have a:=ih _ _ hk _ _ _ h1
       have b:=b0e ih fuel cs r _ _ _ hr h2
       rw [c1,c2] at a
       have e:(cs.drop off).take (k0++k1).length=(cs.drop off).take k0.length++(cs.drop (off+k0.length)).take k1.length:=by
         rw [List.length_append,List.take_add,List.drop_drop]
       rw [e]
       exact uT enc P W a b
    · simp at h
theorem b0f {e:Nat} {ks:List Leaf} {fuel:Nat} {cs:List Value} (ih:∀ fuel cs x,DataW.trod enc P W 0 (fun _=>true) true fuel e cs=some x→LeafsOk enc P W ks cs) (he:ks.length=P.cellsOf e) :
    ∀ (n k:Nat) (xs:List (DataW H×List MemPlace)),(((List.range n).map (k+ ·)).mapM fun i=>DataW.trod enc P W 0 (fun _=>true) true fuel e ((cs.drop (i*P.cellsOf e)).take (P.cellsOf e)))=some xs→
      LeafsOk enc P W (List.replicate n ks).flatten ((cs.drop (k*P.cellsOf e)).take (n*P.cellsOf e))
  |0,k,xs,_=>by simp;exact .nil
  |n+1,k,xs,h=>by
   have e1:(List.range (n+1)).map (k+ ·)=k::(List.range n).map (k+1+ ·):=by
     rw [List.range_succ_eq_map]
     simp [Function.comp_def,Nat.add_assoc,Nat.add_comm 1]
   rw [e1] at h
   obtain ⟨x,xs',h1,h2,_⟩:=jA h
   have a:=ih _ _ _ h1
   have b:=b0f ih he n (k+1) xs' h2
   have e2:(cs.drop (k*P.cellsOf e)).take ((n+1)*P.cellsOf e)=(cs.drop (k*P.cellsOf e)).take (P.cellsOf e)++(cs.drop ((k+1)*P.cellsOf e)).take (n*P.cellsOf e):=by
     rw [Nat.succ_mul,Nat.add_comm,List.take_add,List.drop_drop,Nat.succ_mul]
   rw [e2,List.replicate_succ,List.flatten_cons]
   exact uT enc P W a b
theorem b7l:∀ (d:Nat) (t:TypeId) (ks:List Leaf),oE P d t=some ks→∀ fuel cs x,DataW.trod enc P W 0 (fun _=>true) true fuel t cs=some x→LeafsOk enc P W ks cs
  |0,_,_,h=>by simp [oE] at h
  |d+1,t,ks,h=>by
   intro fuel cs x hx
   have ih:=b7l d
   simp only [oE] at h
   cases fuel with
   |zero=>simp [DataW.trod] at hx
   |succ fuel=>
    have hx0:=hx
    cases hu:P.underlying t with
    |none=>simp [hu] at h
    |some u=>
     cases u<;>simp only [hu] at h<;>try (simp at h;done)
     case bool=>
       simp at h;subst h
       have:∃ b,cs=[.bool b]:=by
         unfold DataW.trod at hx;rw [hu] at hx
         split at hx<;>simp_all
       obtain ⟨b,rfl⟩:=this
       exact .cons ⟨b,rfl⟩ .nil
     case int k=>
       simp at h;subst h
       obtain ⟨n,h1,_,h3⟩:=DataW.trod_int hu hx0
       subst h1
       exact .cons ⟨n,rfl,h3⟩ .nil
     case string=>
       simp at h;subst h
       have:∃ v,cs=[v]:=by
         unfold DataW.trod at hx;rw [hu] at hx
         split at hx<;>simp_all
       obtain ⟨v,rfl⟩:=this
       exact .cons ⟨_,_,hx0⟩ .nil
     case slice e=>
       simp at h;subst h
       have:∃ v,cs=[v]:=by
         unfold DataW.trod at hx;rw [hu] at hx
         split at hx<;>simp_all
       obtain ⟨v,rfl⟩:=this
       exact .cons ⟨_,_,hx0⟩ .nil
     case array n e=>
       simp only [Option.bind_eq_some_iff] at h
       obtain ⟨k0,h1,h2⟩:=h
       split at h2
       · rename_i hc
         simp at h2;subst h2
         unfold DataW.trod at hx;rw [hu] at hx
         have hx':(if cs.length=P.cellsOf t then ((List.range n).mapM fun i=>DataW.trod enc P W 0 (fun _=>true) true fuel e ((cs.drop (i*P.cellsOf e)).take (P.cellsOf e))).map fun xs=>(DataW.agg (xs.map (·.1)),xs.flatMap (·.2)) else none)=some x:=by
           split at hx<;>simp_all
         split at hx'
         · rename_i hl
           simp only [Option.map_eq_some_iff] at hx'
           obtain ⟨xs,hm,_⟩:=hx'
           have:=b0f enc P W (fun fuel cs x hx=>ih e k0 h1 fuel cs x hx) hc.1 n 0 xs (by simpa using hm)
           simp only [Nat.zero_mul,List.drop_zero] at this
           rw [←hc.1,hc.2,←hl,List.take_length] at this
           exact this
         · simp at hx'
       · simp at h2
     case struct fs=>
       simp only [Option.bind_eq_some_iff] at h
       obtain ⟨k0,h1,h2⟩:=h
       split at h2
       · rename_i hc
         simp at h2;subst h2
         unfold DataW.trod at hx;rw [hu] at hx
         have hx':∃ xs,cs.length=P.cellsOf t∧(fs.toList.mapM fun f=>DataW.trod enc P W 0 (fun _=>true) true fuel f.type ((cs.drop f.offset).take (P.cellsOf f.type)))=some xs:=by
           have hx2:(if cs.length=P.cellsOf t then (fs.toList.mapM fun f=>DataW.trod enc P W 0 (fun _=>true) true fuel f.type ((cs.drop f.offset).take (P.cellsOf f.type))).map fun xs=>(DataW.agg (xs.map (·.1)),xs.flatMap (·.2)) else none)=some x:=by
             split at hx<;>simp_all
           split at hx2
           · rename_i hl
             simp only [Option.map_eq_some_iff] at hx2
             obtain ⟨xs,hm,_⟩:=hx2
             exact ⟨xs,hl,hm⟩
           · simp at hx2
         obtain ⟨xs,hl,hm⟩:=hx'
         have:=b0e enc P W ih fuel cs fs.toList 0 k0 xs h1 hm
         rw [hc,List.drop_zero,←hl,List.take_length] at this
         exact this
       · simp at h2
theorem tD {d:Nat} {t:TypeId} {ks:List Leaf} {v:Value} {dt:DataW H} {p:List MemPlace} (hk:oE P d t=some ks) (h:DataW.Trod enc P W 0 (fun _=>true) true t v dt p):LeafsOk enc P W ks (cellsOf v):=by
  obtain ⟨fuel,hf⟩:=h
  have:=b7l enc P W d t ks hk fuel _ _ hf
  rw [cD] at this
  exact this
theorem b7m {v:Value} (h:b4e enc P W (.int .i64) v):∃ n,v= .int .i64 n∧kP n:=by
  obtain ⟨n,e,hw⟩:=h
  refine ⟨n,e,?_⟩
  simp only [Lit.wf,Bool.and_eq_true,decide_eq_true_eq,IntKind.min,IntKind.max,IntKind.signed,IntKind.bits] at hw
  unfold kP
  simp at hw
  omega
theorem c0f {k:Leaf} {ks:List Leaf} {cs:List Value} (h:LeafsOk enc P W (k::ks) cs):∃ c cs',cs=c::cs'∧b4e enc P W k c∧LeafsOk enc P W ks cs':=by
  cases h with
  |cons a b=>exact ⟨_,_,rfl,a,b⟩
theorem rG {cs:List Value} (h:LeafsOk enc P W [] cs):cs=[]:=by cases h;rfl
theorem aH {ks:List Leaf} {cs:List Value} (h:LeafsOk enc P W (.int .i64::ks) cs):∃ n cs',cs= .int .i64 n::cs'∧kP n∧LeafsOk enc P W ks cs':=by
  obtain ⟨c,cs',rfl,h1,h2⟩:=c0f enc P W h
  obtain ⟨n,rfl,hn⟩:=b7m enc P W h1
  exact ⟨n,cs',rfl,hn,h2⟩
end
theorem oF {v:Value} {cs:Array Value} (h:v= .agg cs):v= .agg (cellsOf v).toArray:=by subst h;simp [cellsOf]
end
section
open Go Go.ChangeShapes Go.WideShapes
section
variable {H:Type} (enc:TypeId×Value→H) (P:Program) (W:World)
theorem uU {α:Type} {f:Nat→Option α}:∀ (n k:Nat) (r:List α),((List.range n).map (k+ ·)).mapM f=some r→r.length=n∧∀ i,i<n→f (k+i)=r[i]?
  |0,k,r,h=>by simp at h;subst h;simp
  |n+1,k,r,h=>by
   have e1:(List.range (n+1)).map (k+ ·)=k::(List.range n).map (k+1+ ·):=by
     rw [List.range_succ_eq_map]
     simp [Function.comp_def,Nat.add_assoc,Nat.add_comm 1]
   rw [e1] at h
   obtain ⟨x,xs,h1,h2,rfl⟩:=jA h
   obtain ⟨h3,h4⟩:=uU n (k+1) xs h2
   refine ⟨by simp [h3],fun i hi=>?_⟩
   cases i with
   |zero=>simpa using h1
   |succ i=>have:=h4 i (om);rw [List.getElem?_cons_succ,←this];congr 1;omega
theorem tE {α:Type} {f:Nat→Option α} {n:Nat} {r:List α} (h:(List.range n).mapM f=some r):r.length=n∧∀ i,i<n→f i=r[i]? :=by
  have:=uU n 0 r (by simpa using h)
  simpa using this
theorem c0g {w:World} {a:Addr} {n:Nat} {cs:List Value} (h:w.cells? 0 a n=some cs):cs.length=n∧∀ j,j<n→w.cell? (a.add j)=cs[j]? :=by
  unfold World.cells? at h
  rw [if_pos (Nat.zero_le _)] at h
  exact tE h
theorem c6v {w:World} {a:Addr} {v:Value} (h:w.cell? a=some v):a.spot=none∧a.block<w.heap.size:=by
  unfold World.cell? at h
  split at h
  · rename_i he
    have hb:=(Array.getElem?_eq_some_iff.1 he).1
    split at h
    · simp at h
    · rename_i hs
      refine ⟨by simpa using hs,hb⟩
  · simp at h
theorem d1g (a:Addr) (i j:Nat):(a.add i).add j=a.add (i+j):=by
  unfold Addr.add
  by_cases hi:i=0<;>by_cases hj:j=0<;>simp [hi,hj,Nat.add_assoc]
theorem a5g:∀ (n:Nat) (cs:List Value),LeafsOk enc P W (List.replicate n (.int .i64)) cs→∃ l:List Int,l.length=n∧(∀ x∈l,kP x)∧cs=l.map (Value.int .i64)
  |0,cs,h=>⟨[],rfl,by simp,by rw [rG enc P W h];rfl⟩
  |n+1,cs,h=>by
   obtain ⟨a,cs',rfl,ha,h⟩:=aH enc P W h
   obtain ⟨l,h1,h2,rfl⟩:=a5g n cs' h
   exact ⟨a::l,by simp [h1],fun x hx=>(List.mem_cons.1 hx).elim (fun e=>e▸ha) (h2 x),rfl⟩
end
section
variable {H:Type} (enc:TypeId×Value→H) (P:Program) (W:World)
theorem e4m {cs:List Value} (h:LeafsOk enc P W (List.replicate 3 (.int .i64)) cs):∃ x:Op3,x.wf∧cs=oc x∧(oc x).all one=true:=by
  obtain ⟨l,h1,h2,rfl⟩:=a5g enc P W _ _ h
  match l,h1 with
  | [a,b,c],_=>exact ⟨⟨a,b,c⟩,⟨h2 a (by simp),h2 b (by simp),h2 c (by simp)⟩,rfl,rfl⟩
end
end
section
attribute [local irreducible] Exit.then Exit.inBlock Code.wp WC WO WE WQ V bF tV d3 bW dF uH IntKind.wrap WR Code.rounds WT KO
theorem b2t {e:TypeId} {sz g n i j cap:Nat} {xs spare zs:List Value} {M:List HP} (hij:i≤j) (hj:j≤n) (q1:xs.length=n*sz) (q2:xs.all one=true) (h1:n≤cap) (h2:cap≤maxLen) (h3:spare.length=(cap-n)*sz)
    (hz:zs.length=n*sz-(i+(n-j))*sz) (a1:(i+(n-j))*sz=i*sz+(n-j)*sz) (a2:(i+(n-j))*sz≤n*sz) (a3:j*sz≤n*sz) (a4:n*sz≤cap*sz) (a5:(cap-n)*sz=cap*sz-n*sz) (a6:(n-j)*sz=n*sz-j*sz) :
    Ent (Cells g e (aQ (aQ (xs++spare) (i*sz) ((xs.drop (j*sz)).take ((n-j)*sz))) (0+(i+(n-j))*sz) zs)::M)
      (Own e sz (.slice (some ⟨g,0,none⟩) (i+(n-j)) cap) (i+(n-j)) (xs.take (i*sz)++xs.drop (j*sz))::M):=by
  have e1:(List.drop (j*sz) xs).take ((n-j)*sz)=List.drop (j*sz) xs:=List.take_of_length_le (by simp;omega)
  have e2:(List.drop (j*sz) xs).length=(n-j)*sz:=by simp;omega
  rw [e1,Nat.zero_add]
  have hl:=bS (l:=xs++spare) (ys:=List.drop (j*sz) xs) (o:=i*sz) (by simp;omega)
  refine lJ (cap:=cap) ?_ (om) h2 ?_ ?_ Ent.refl
  · rw [bS,hl,List.length_append,q1,h3]
    · omega
    · rw [hl,List.length_append];omega
  · rw [uR (by rw [hl,List.length_append];omega) (om)]
    have:=p6 (l:=xs++spare) (ys:=List.drop (j*sz) xs) (o:=i*sz) (by simp;omega)
    rw [a1,←e2,this,List.take_append_of_le_length (om)]
  · rw [List.all_append,List.all_eq_true.2 fun u hu=>List.all_eq_true.1 q2 u (List.mem_of_mem_take hu),List.all_eq_true.2 fun u hu=>List.all_eq_true.1 q2 u (List.mem_of_mem_drop hu)]
    rfl
theorem b2u {z:List Value} {k n:Nat} (h:z.length=n):(List.replicate k z).flatten.length=k*n:=by simp [h]
theorem sP {F:List HP} {v:Value} {n:Nat} {xs:List Value} (k:RdL F 1 v n xs) (hn:n≤1099511627776):FnF Tryz.prog 248 [v] [] F (fun r L'=>∃ p c,r= .slice p n c∧L'=[Own 3 1 (.slice p n c) n xs]):=by
  refine FnF.mk' Tryz.func248 rfl rfl Tryz.ntmps248 rfl ?_
  refine b3z (v:=v) k fun q1 q2 p c0 e q3=>?_
  subst e
  cases p with
  |none=>
   obtain rfl:=q3 rfl
   obtain rfl:xs=[]:=List.eq_nil_of_length_eq_zero (by simpa using q1)
   repeat first|refine gd ?_|intro _
   (apply aA rfl rfl bB)
   · exact ⟨_,_,rfl,rfl⟩
   · exact aM Ent.refl
  |some a=>
   repeat first|refine gd ?_|intro _
   simp only [Nat.zero_add,List.nil_append]
   (apply aA rfl rfl bB)
   · exact ⟨_,_,rfl,rfl⟩
   · exact Ent.refl
theorem b1u {F:List HP} {v:Value} {l:List Int} {x:Int} (k:RdL F 1 v l.length (aC ic l)) (hn:l.length≤1099511627776):FnF Tryz.prog 212 [v,iv x] [] F (fun r L'=>r= .int .i64 (aV (· =x) l)∧L'=[]):=by
  refine FnF.mk' Tryz.func212 rfl rfl Tryz.ntmps212 rfl ?_
  repeat first|refine gd ?_|intro _
  apply bC (E0:=[(0,_),(1,_),(7,_)]) (fun E0 (i:Nat)=>(8,.int .i64 i)::E0) (fun _=>F) (fun i=>i≤l.length∧∀ j (h:j<l.length),j<i→decide (l[j]=x)=false) (fun i=>l.length-i) 0
  · exact nB
  · exact ⟨om,fun j _ hj=>by omega⟩
  · exact Ent.refl
  · rintro i ⟨hi,h1⟩
    by_cases hlt:i<l.length
    · by_cases he:x=l[i]
      · repeat first|refine gd ?_|intro _
        (apply aA rfl rfl bB)
        · exact ⟨by rw [jK hlt h1 (by simp [he])];rfl,rfl⟩
        · exact Ent.refl
      · repeat first|refine gd ?_|intro _
        refine aS (i+1) (om) ⟨om,fun j hj hji=>?_⟩ ?_ Ent.refl
        · by_cases e:j=i
          · subst e;simpa using fun h=>he h.symm
          · exact h1 j hj (om)
        · exact nB
    · have e:i=l.length:=by omega
      subst e
      repeat first|refine gd ?_|intro _
      (apply aA rfl rfl bB)
      · exact ⟨by rw [fX h1];rfl,rfl⟩
      · exact Ent.refl
theorem a0h {F:List HP} {v:Value} {l:List Int} {fk:FuncId} {first cap:List Value} {p:Int→Bool} (k:RdL F 1 v l.length (aC ic l)) (hn:l.length≤1099511627776)
    (H:∀ x∈l,FnF Tryz.prog fk (first++[iv x]++cap) [] F (fun r L'=>r= .bool (p x)∧L'=[])) :
    FnF Tryz.prog 246 [v,.func (.func fk) first.toArray cap.toArray] [] F (fun r L'=>r= .int .i64 (aV p l)∧L'=[]):=by
  refine FnF.mk' Tryz.func246 rfl rfl Tryz.ntmps246 rfl ?_
  repeat first|refine gd ?_|intro _
  apply bC (E0:=[(0,_),(1,_),(7,_)]) (fun E0 (i:Nat)=>(8,.int .i64 i)::E0) (fun _=>F) (fun i=>i≤l.length∧∀ j (h:j<l.length),j<i→p l[j]=false) (fun i=>l.length-i) 0
  · exact nB
  · exact ⟨om,fun j _ hj=>by omega⟩
  · exact Ent.refl
  · rintro i ⟨hi,h1⟩
    by_cases hlt:i<l.length
    · have hH:=H l[i] (List.getElem_mem hlt)
      cases he:p l[i]
      · rw [he] at hH
        repeat first|refine gd ?_|intro _|refine aD @hH ?_
        refine aS (i+1) (om) ⟨om,fun j hj hji=>?_⟩ ?_ Ent.refl
        · by_cases e:j=i
          · subst e;exact he
          · exact h1 j hj (om)
        · exact nB
      · rw [he] at hH
        repeat first|refine gd ?_|intro _|refine aD @hH ?_
        (apply aA rfl rfl bB)
        · exact ⟨by rw [jK hlt h1 he];rfl,rfl⟩
        · exact Ent.refl
    · have e:i=l.length:=by omega
      subst e
      repeat first|refine gd ?_|intro _
      (apply aA rfl rfl bB)
      · exact ⟨by rw [fX h1];rfl,rfl⟩
      · exact Ent.refl
theorem sQ {F:List HP} {v:Value} {n:Nat} {xs:List Value} (k:RdL F 15 v n xs) (hn:n≤1099511627776):FnF Tryz.prog 116 [v] [] F (fun r L'=>∃ p c,r= .slice p n c∧L'=[Own 99 15 (.slice p n c) n xs]):=by
  refine FnF.mk' Tryz.func116 rfl rfl Tryz.ntmps116 rfl ?_
  refine b3z (v:=v) k fun q1 q2 p c0 e q3=>?_
  subst e
  cases p with
  |none=>
   obtain rfl:=q3 rfl
   obtain rfl:xs=[]:=List.eq_nil_of_length_eq_zero (by simpa using q1)
   repeat first|refine gd ?_|intro _
   (apply aA rfl rfl bB)
   · exact ⟨_,_,rfl,rfl⟩
   · exact aM Ent.refl
  |some a=>
   repeat first|refine gd ?_|intro _
   simp only [Nat.zero_add,List.nil_append]
   (apply aA rfl rfl bB)
   · exact ⟨_,_,rfl,rfl⟩
   · exact Ent.refl
theorem pE {Q P:Prop} (k:Q) (h:Hid Q→P:=by
  intro k
  first
  |(refine aG ?_;apply mT (id:=5) .true [] (pl:= .p 0 <| .p 1 <| .p 2 <| .p 3 <| .p 4 <| .p 5 <| .e true [(6,.p 7 <| .done)]);exact pN;kernel_rfl;kernel_rfl;exact Ent.nil;exact k.out)):P:=h ⟨k⟩
theorem a8h {F:List HP} {v:Value} {n i j:Nat} {xs:List Value} (hij:i≤j) (hj:j≤n) (hn:n≤1099511627776) :
    FnF Tryz.prog 180 [v,.int .i64 i,.int .i64 j] [Own 99 15 v n xs] F (fun r L'=>∃ p c,r= .slice p (i+(n-j)) c∧L'=[Own 99 15 (.slice p (i+(n-j)) c) (i+(n-j)) (xs.take (i*15)++xs.drop (j*15))]):=by
  refine FnF.mk' Tryz.func180 rfl rfl Tryz.ntmps180 rfl ?_
  refine a8d (fun q1 q2 p e0 e1 e2=>?_) (fun q1 q2 g cap spare e0 h1 h2 h3=>?_)
  · subst e0 e1 e2
    obtain rfl:i=j:=by omega
    obtain rfl:i=0:=by omega
    repeat first|refine go ?_|intro _|refine pE ?_|refine cM ?_
    (apply aA rfl rfl bB)
    · exact ⟨_,_,rfl,rfl⟩
    · simp only [Nat.zero_sub,List.take_nil,List.drop_nil,List.append_nil]
      exact Ent.refl
  · subst e0
    by_cases he:i=j
    · subst he
      repeat first|refine go ?_|intro _|refine pE ?_|refine cM ?_
      have e0:i+(n-i)=n:=by omega
      rw [e0]
      (apply aA rfl rfl bB)
      · exact ⟨_,_,rfl,rfl⟩
      · rw [List.take_append_drop]
        exact lJ (by simp [q1,h3];omega) h1 h2 (by simp [q1]) q2 Ent.refl
    · repeat first|refine go ?_|intro _|refine pE ?_|refine cM ?_
      rw [t0]
      apply p4;rfl;exact GIn.none
      apply u7;rfl;rfl;exact inferInstance;exact RdL.cut (a5a inferInstance q1 q2) hj (Nat.le_refl _) h1;omega;(simp;omega);rfl;rfl
      refine aN ?_
      refine ⟨After.still Ent.nil,?_⟩
      repeat first|refine go ?_|intro _|refine pE ?_|refine cM ?_
      rw [n7 (om)]
      apply uC;rfl
      apply b2q;rfl;rfl;rfl;exact inferInstance;(rw [bS (by simp;omega)];simp;omega);rfl;rfl
      refine aN ?_
      repeat first|refine go ?_|intro _|refine pE ?_|refine cM ?_
      (apply aA rfl rfl bB)
      · exact ⟨_,_,rfl,rfl⟩
      · exact b2t hij hj q1 q2 h1 h2 h3 (by rw [b2u rfl];simp only [List.length_cons,List.length_nil];omega) (om) (om) (om) (om) (om) (om)
theorem b5r {F:List HP} {v:Value} {n:Nat} {xs:List Value} (k:RdL F 3 v n xs) (hn:n≤1099511627776):FnF Tryz.prog 91 [v] [] F (fun r L'=>∃ p c,r= .slice p n c∧L'=[Own 58 3 (.slice p n c) n xs]):=by
  refine FnF.mk' Tryz.func91 rfl rfl Tryz.ntmps91 rfl ?_
  refine b3z (v:=v) k fun q1 q2 p c0 e q3=>?_
  subst e
  cases p with
  |none=>
   obtain rfl:=q3 rfl
   obtain rfl:xs=[]:=List.eq_nil_of_length_eq_zero (by simpa using q1)
   repeat first|refine gd ?_|intro _
   (apply aA rfl rfl bB)
   · exact ⟨_,_,rfl,rfl⟩
   · exact aM Ent.refl
  |some a=>
   repeat first|refine gd ?_|intro _
   simp only [Nat.zero_add,List.nil_append]
   (apply aA rfl rfl bB)
   · exact ⟨_,_,rfl,rfl⟩
   · exact Ent.refl
theorem b1v {F:List HP} {v:Value} {n:Nat} {xs:List Value} (k:RdL F 10 v n xs) (hn:n≤1099511627776):FnF Tryz.prog 118 [v] [] F (fun r L'=>∃ p c,r= .slice p n c∧L'=[Own 125 10 (.slice p n c) n xs]):=by
  refine FnF.mk' Tryz.func118 rfl rfl Tryz.ntmps118 rfl ?_
  refine b3z (v:=v) k fun q1 q2 p c0 e q3=>?_
  subst e
  cases p with
  |none=>
   obtain rfl:=q3 rfl
   obtain rfl:xs=[]:=List.eq_nil_of_length_eq_zero (by simpa using q1)
   repeat first|refine gd ?_|intro _
   (apply aA rfl rfl bB)
   · exact ⟨_,_,rfl,rfl⟩
   · exact aM Ent.refl
  |some a=>
   repeat first|refine gd ?_|intro _
   simp only [Nat.zero_add,List.nil_append]
   (apply aA rfl rfl bB)
   · exact ⟨_,_,rfl,rfl⟩
   · exact Ent.refl
theorem pF {Q P:Prop} (k:Q) (h:Hid Q→P:=by
  intro k
  first
  |(refine aG ?_;apply mT (id:=5) .true [] (pl:= .p 0 <| .p 1 <| .p 2 <| .p 3 <| .p 4 <| .p 5 <| .e true [(6,.p 7 <| .done)]);exact pN;kernel_rfl;kernel_rfl;exact Ent.nil;exact k.out)):P:=h ⟨k⟩
theorem a8i {F:List HP} {v:Value} {n i j:Nat} {xs:List Value} (hij:i≤j) (hj:j≤n) (hn:n≤1099511627776) :
    FnF Tryz.prog 237 [v,.int .i64 i,.int .i64 j] [Own 125 10 v n xs] F (fun r L'=>∃ p c,r= .slice p (i+(n-j)) c∧L'=[Own 125 10 (.slice p (i+(n-j)) c) (i+(n-j)) (xs.take (i*10)++xs.drop (j*10))]):=by
  refine FnF.mk' Tryz.func237 rfl rfl Tryz.ntmps237 rfl ?_
  refine a8d (fun q1 q2 p e0 e1 e2=>?_) (fun q1 q2 g cap spare e0 h1 h2 h3=>?_)
  · subst e0 e1 e2
    obtain rfl:i=j:=by omega
    obtain rfl:i=0:=by omega
    repeat first|refine go ?_|intro _|refine pF ?_|refine cM ?_
    (apply aA rfl rfl bB)
    · exact ⟨_,_,rfl,rfl⟩
    · simp only [Nat.zero_sub,List.take_nil,List.drop_nil,List.append_nil]
      exact Ent.refl
  · subst e0
    by_cases he:i=j
    · subst he
      repeat first|refine go ?_|intro _|refine pF ?_|refine cM ?_
      have e0:i+(n-i)=n:=by omega
      rw [e0]
      (apply aA rfl rfl bB)
      · exact ⟨_,_,rfl,rfl⟩
      · rw [List.take_append_drop]
        exact lJ (by simp [q1,h3];omega) h1 h2 (by simp [q1]) q2 Ent.refl
    · repeat first|refine go ?_|intro _|refine pF ?_|refine cM ?_
      rw [t0]
      apply p4;rfl;exact GIn.none
      apply u7;rfl;rfl;exact inferInstance;exact RdL.cut (a5a inferInstance q1 q2) hj (Nat.le_refl _) h1;omega;(simp;omega);rfl;rfl
      refine aN ?_
      refine ⟨After.still Ent.nil,?_⟩
      repeat first|refine go ?_|intro _|refine pF ?_|refine cM ?_
      rw [n7 (om)]
      apply uC;rfl
      apply b2q;rfl;rfl;rfl;exact inferInstance;(rw [bS (by simp;omega)];simp;omega);rfl;rfl
      refine aN ?_
      repeat first|refine go ?_|intro _|refine pF ?_|refine cM ?_
      (apply aA rfl rfl bB)
      · exact ⟨_,_,rfl,rfl⟩
      · exact b2t hij hj q1 q2 h1 h2 h3 (by rw [b2u rfl];simp only [List.length_cons,List.length_nil];omega) (om) (om) (om) (om) (om) (om)
theorem a0i {F:List HP} {v:Value} {l:List WbE} {fk:FuncId} {first cap:List Value} {p:WbE→Bool} (k:RdL F 10 v l.length (aC bc l)) (hn:l.length≤1099511627776)
    (H:∀ x∈l,FnF Tryz.prog fk (first++[bv x]++cap) [] F (fun r L'=>r= .bool (p x)∧L'=[])) :
    FnF Tryz.prog 232 [v,.func (.func fk) first.toArray cap.toArray] [] F (fun r L'=>r= .int .i64 (aV p l)∧L'=[]):=by
  refine FnF.mk' Tryz.func232 rfl rfl Tryz.ntmps232 rfl ?_
  repeat first|refine gd ?_|intro _
  apply bC (E0:=[(0,_),(1,_),(7,_)]) (fun E0 (i:Nat)=>(8,.int .i64 i)::E0) (fun _=>F) (fun i=>i≤l.length∧∀ j (h:j<l.length),j<i→p l[j]=false) (fun i=>l.length-i) 0
  · exact nB
  · exact ⟨om,fun j _ hj=>by omega⟩
  · exact Ent.refl
  · rintro i ⟨hi,h1⟩
    by_cases hlt:i<l.length
    · have hH:=H l[i] (List.getElem_mem hlt)
      cases he:p l[i]
      · rw [he] at hH
        repeat first|refine gd ?_|intro _|refine aD @hH ?_
        refine aS (i+1) (om) ⟨om,fun j hj hji=>?_⟩ ?_ Ent.refl
        · by_cases e:j=i
          · subst e;exact he
          · exact h1 j hj (om)
        · exact nB
      · rw [he] at hH
        repeat first|refine gd ?_|intro _|refine aD @hH ?_
        (apply aA rfl rfl bB)
        · exact ⟨by rw [jK hlt h1 he];rfl,rfl⟩
        · exact Ent.refl
    · have e:i=l.length:=by omega
      subst e
      repeat first|refine gd ?_|intro _
      (apply aA rfl rfl bB)
      · exact ⟨by rw [fX h1];rfl,rfl⟩
      · exact Ent.refl
theorem pG {Q P:Prop} (k:Q) (h:Hid Q→P:=by
  intro k
  first
  |(refine aG ?_;apply mT (id:=5) .true [] (pl:= .p 0 <| .p 1 <| .p 2 <| .p 3 <| .p 4 <| .p 5 <| .e true [(6,.p 7 <| .done)]);exact pN;kernel_rfl;kernel_rfl;exact Ent.nil;exact k.out)):P:=h ⟨k⟩
theorem y0 {F:List HP} {v:Value} {n i j:Nat} {xs:List Value} (hij:i≤j) (hj:j≤n) (hn:n≤1099511627776) :
    FnF Tryz.prog 190 [v,.int .i64 i,.int .i64 j] [Own 191 17 v n xs] F (fun r L'=>∃ p c,r= .slice p (i+(n-j)) c∧L'=[Own 191 17 (.slice p (i+(n-j)) c) (i+(n-j)) (xs.take (i*17)++xs.drop (j*17))]):=by
  refine FnF.mk' Tryz.func190 rfl rfl Tryz.ntmps190 rfl ?_
  refine a8d (fun q1 q2 p e0 e1 e2=>?_) (fun q1 q2 g cap spare e0 h1 h2 h3=>?_)
  · subst e0 e1 e2
    obtain rfl:i=j:=by omega
    obtain rfl:i=0:=by omega
    repeat first|refine go ?_|intro _|refine pG ?_|refine cM ?_
    (apply aA rfl rfl bB)
    · exact ⟨_,_,rfl,rfl⟩
    · simp only [Nat.zero_sub,List.take_nil,List.drop_nil,List.append_nil]
      exact Ent.refl
  · subst e0
    by_cases he:i=j
    · subst he
      repeat first|refine go ?_|intro _|refine pG ?_|refine cM ?_
      have e0:i+(n-i)=n:=by omega
      rw [e0]
      (apply aA rfl rfl bB)
      · exact ⟨_,_,rfl,rfl⟩
      · rw [List.take_append_drop]
        exact lJ (by simp [q1,h3];omega) h1 h2 (by simp [q1]) q2 Ent.refl
    · repeat first|refine go ?_|intro _|refine pG ?_|refine cM ?_
      rw [t0]
      apply p4;rfl;exact GIn.none
      apply u7;rfl;rfl;exact inferInstance;exact RdL.cut (a5a inferInstance q1 q2) hj (Nat.le_refl _) h1;omega;(simp;omega);rfl;rfl
      refine aN ?_
      refine ⟨After.still Ent.nil,?_⟩
      repeat first|refine go ?_|intro _|refine pG ?_|refine cM ?_
      rw [n7 (om)]
      apply uC;rfl
      apply b2q;rfl;rfl;rfl;exact inferInstance;(rw [bS (by simp;omega)];simp;omega);rfl;rfl
      refine aN ?_
      repeat first|refine go ?_|intro _|refine pG ?_|refine cM ?_
      (apply aA rfl rfl bB)
      · exact ⟨_,_,rfl,rfl⟩
      · exact b2t hij hj q1 q2 h1 h2 h3 (by rw [b2u rfl];simp only [List.length_cons,List.length_nil];omega) (om) (om) (om) (om) (om) (om)
theorem tF {F:List HP} {v:Value} {l:List QP} {fk:FuncId} {first cap:List Value} {p:QP→Bool} (k:RdL F 17 v l.length (aC qc l)) (hn:l.length≤1099511627776)
    (H:∀ x∈l,FnF Tryz.prog fk (first++[qv x]++cap) [] F (fun r L'=>r= .bool (p x)∧L'=[])) :
    FnF Tryz.prog 188 [v,.func (.func fk) first.toArray cap.toArray] [] F (fun r L'=>r= .int .i64 (aV p l)∧L'=[]):=by
  refine FnF.mk' Tryz.func188 rfl rfl Tryz.ntmps188 rfl ?_
  repeat first|refine gd ?_|intro _
  apply bC (E0:=[(0,_),(1,_),(7,_)]) (fun E0 (i:Nat)=>(8,.int .i64 i)::E0) (fun _=>F) (fun i=>i≤l.length∧∀ j (h:j<l.length),j<i→p l[j]=false) (fun i=>l.length-i) 0
  · exact nB
  · exact ⟨om,fun j _ hj=>by omega⟩
  · exact Ent.refl
  · rintro i ⟨hi,h1⟩
    by_cases hlt:i<l.length
    · have hH:=H l[i] (List.getElem_mem hlt)
      cases he:p l[i]
      · rw [he] at hH
        repeat first|refine gd ?_|intro _|refine aD @hH ?_
        refine aS (i+1) (om) ⟨om,fun j hj hji=>?_⟩ ?_ Ent.refl
        · by_cases e:j=i
          · subst e;exact he
          · exact h1 j hj (om)
        · exact nB
      · rw [he] at hH
        repeat first|refine gd ?_|intro _|refine aD @hH ?_
        (apply aA rfl rfl bB)
        · exact ⟨by rw [jK hlt h1 he];rfl,rfl⟩
        · exact Ent.refl
    · have e:i=l.length:=by omega
      subst e
      repeat first|refine gd ?_|intro _
      (apply aA rfl rfl bB)
      · exact ⟨by rw [fX h1];rfl,rfl⟩
      · exact Ent.refl
end
section
structure Way where
  st:Int
  line:Int
  words:Words
  lk:Bool
abbrev b5s (w:Way):List Value:=[.int .i64 w.st,.int .i64 w.line,.int .i64 w.words.w0,.int .i64 w.words.w1,.int .i64 w.words.w2,.int .i64 w.words.w3,.int .i64 w.words.w4,.int .i64 w.words.w5,.int .i64 w.words.w6,.int .i64 w.words.w7,.bool w.lk]
abbrev e2g (w:Way):Value:= .agg (b5s w).toArray
abbrev Way.zero:Way:=⟨0,0,.zero,false⟩
theorem Way.ext_iff' {a b:Way}:(a.st=b.st∧a.line=b.line∧a.words=b.words∧a.lk=b.lk)↔a=b:=by cases a;cases b;simp
instance:DecidableEq Way:=fun a b=>decidable_of_iff _ Way.ext_iff'
structure Miss where
  line:Int
  kind:Int
  needs:Int
  got:Int
  own:Int
  words:Words
  granted:Bool
  owes:Bool
abbrev jF (m:Miss):List Value:=[.int .i64 m.line,.int .i64 m.kind,.int .i64 m.needs,.int .i64 m.got,.int .i64 m.own,.int .i64 m.words.w0,.int .i64 m.words.w1,.int .i64 m.words.w2,.int .i64 m.words.w3,.int .i64 m.words.w4,.int .i64 m.words.w5,.int .i64 m.words.w6,.int .i64 m.words.w7,.bool m.granted,.bool m.owes]
abbrev e9v (m:Miss):Value:= .agg (jF m).toArray
abbrev Miss.zero:Miss:=⟨0,0,0,0,0,.zero,false,false⟩
theorem Miss.ext_iff' {a b:Miss}:(a.line=b.line∧a.kind=b.kind∧a.needs=b.needs∧a.got=b.got∧a.own=b.own∧a.words=b.words∧a.granted=b.granted∧a.owes=b.owes)↔a=b:=by cases a;cases b;simp
instance:DecidableEq Miss:=fun a b=>decidable_of_iff _ Miss.ext_iff'
section
variable {P:Program} {N:Nat} {t ty:TypeId} {x y:Operand} {env:Env} {L:List HP}
theorem b1w {e:TypeId} {nn:Int} {z:Value} {sz bs:Nat} {zs:List Value} {pos:String} {aft:Array Edge} {d:Nat} [hT:TU P t (.slice e)] [hZ:TZ P e sz z bs] [hco:CO z zs]
    (hx:ev env x=some (.int .i64 nn)) (h0:0≤nn) (hb:(bs:Int)*nn≤140737488355328) (hm:nn≤1099511627776) (hl:zs.length=sz) (hs:0<sz) (hd:Nat.blt d N=true) :
    KO P N ⟨some d,.makeSlice t x x,ty,pos,aft,none⟩ env L (yL env d (fun b=> .slice (some ⟨b,0,none⟩) nn.toNat nn.toNat) (fun b=>Cells b e (List.replicate nn.toNat zs).flatten::L)):=by
  have hz:=hco.pf
  have hzc:z.cells=zs.toArray:=by rw [cD,hz]
  have hi:=hZ.pf
  cases hq:P.info? e with
  |none=>simp [hq] at hi
  |some i=>
   simp only [hq,Option.map_some,Option.some.injEq,Prod.mk.injEq] at hi
   obtain ⟨hi1,hi2,hi3⟩:=hi
   have e7q:madeCells z.cells (nn.toNat*i.size)=(List.replicate nn.toNat zs).flatten.toArray:=by
     apply Array.ext'
     simp only [madeCells,hzc,hi1,Array.toList_map,Array.toList_range]
     apply List.ext_getElem
     · simp [hl]
     · intro j h1 h2
       have hj:j<nn.toNat*sz:=by simpa using h1
       have hmod:j % sz<zs.length:=by rw [hl];exact Nat.mod_lt _ hs
       have hrep:∀ (k j:Nat) (hj:j<(List.replicate k zs).flatten.length),(List.replicate k zs).flatten[j]=zs[j % sz]'(by rw [hl];exact Nat.mod_lt _ hs):=by
         intro k
         induction k with
         |zero=>intro j hj;simp at hj
         |succ k ih=>
          intro j hj
          simp only [List.replicate_succ,List.flatten_cons,List.getElem_append]
          split
          · rename_i hlt
            congr 1
            rw [Nat.mod_eq_of_lt (om)]
          · rename_i hge
            have:=ih (j-zs.length) (by simp only [List.replicate_succ,List.flatten_cons,List.length_append] at hj;omega)
            rw [this]
            congr 1
            rw [hl,Nat.mod_eq_sub_mod (a:=j) (b:=sz) (om)]
       simp only [List.getElem_map,List.getElem_range]
       rw [hrep]
       rw [getElem!_pos zs.toArray (j % zs.toArray.size) (by simp [hl];omega)]
       simp [hl]
   refine a9h (P:=P) (o:= .cells (List.replicate nn.toNat zs).flatten.toArray e (0,0)) (v:=fun b=> .slice (some ⟨b,0,none⟩) nn.toNat nn.toNat) (fun b h hc=>⟨hc⟩) ?_ hd
   intro a w ha _
   have hr:=run_make (P:=P) w t e i z hT.pf hq hi2 .i64 .i64 nn nn h0 (Int.le_refl _) (by rw [hi3];omega) (om)
   rw [e7q] at hr
   simp only [execOp,ha.ev hx,hr,Sem.run_bind,Result.andThen_ok,Sem.run_pure]
   rfl
end
attribute [local irreducible] Exit.then Exit.inBlock Code.wp WC WO WE WQ V bF tV d3 bW dF uH IntKind.wrap WR Code.rounds WT KO
theorem jG {F:List HP} {v:Value} {l:List Way} {fk:FuncId} {first cap:List Value} {p:Way→Bool} (k:RdL F 11 v l.length (aC b5s l)) (hn:l.length≤1099511627776)
    (H:∀ x∈l,FnF Tryz.prog fk (first++[e2g x]++cap) [] F (fun r L'=>r= .bool (p x)∧L'=[])) :
    FnF Tryz.prog 204 [v,.func (.func fk) first.toArray cap.toArray] [] F (fun r L'=>r= .int .i64 (aV p l)∧L'=[]):=by
  refine FnF.mk' Tryz.func204 rfl rfl Tryz.ntmps204 rfl ?_
  repeat first|refine gd ?_|intro _
  apply bC (E0:=[(0,_),(1,_),(7,_)]) (fun E0 (i:Nat)=>(8,.int .i64 i)::E0) (fun _=>F) (fun i=>i≤l.length∧∀ j (h:j<l.length),j<i→p l[j]=false) (fun i=>l.length-i) 0
  · exact nB
  · exact ⟨om,fun j _ hj=>by omega⟩
  · exact Ent.refl
  · rintro i ⟨hi,h1⟩
    by_cases hlt:i<l.length
    · have hH:=H l[i] (List.getElem_mem hlt)
      cases he:p l[i]
      · rw [he] at hH
        repeat first|refine gd ?_|intro _|refine aD @hH ?_
        refine aS (i+1) (om) ⟨om,fun j hj hji=>?_⟩ ?_ Ent.refl
        · by_cases e:j=i
          · subst e;exact he
          · exact h1 j hj (om)
        · exact nB
      · rw [he] at hH
        repeat first|refine gd ?_|intro _|refine aD @hH ?_
        (apply aA rfl rfl bB)
        · exact ⟨by rw [jK hlt h1 he];rfl,rfl⟩
        · exact Ent.refl
    · have e:i=l.length:=by omega
      subst e
      repeat first|refine gd ?_|intro _
      (apply aA rfl rfl bB)
      · exact ⟨by rw [fX h1];rfl,rfl⟩
      · exact Ent.refl
theorem a8j {F:List HP} {v:Value} {n:Nat} {xs:List Value} (k:RdL F 15 v n xs) (hn:n≤1099511627776):FnF Tryz.prog 117 [v] [] F (fun r L'=>∃ p c,r= .slice p n c∧L'=[Own 182 15 (.slice p n c) n xs]):=by
  refine FnF.mk' Tryz.func117 rfl rfl Tryz.ntmps117 rfl ?_
  refine b3z (v:=v) k fun q1 q2 p c0 e q3=>?_
  subst e
  cases p with
  |none=>
   obtain rfl:=q3 rfl
   obtain rfl:xs=[]:=List.eq_nil_of_length_eq_zero (by simpa using q1)
   repeat first|refine gd ?_|intro _
   (apply aA rfl rfl bB)
   · exact ⟨_,_,rfl,rfl⟩
   · exact aM Ent.refl
  |some a=>
   repeat first|refine gd ?_|intro _
   simp only [Nat.zero_add,List.nil_append]
   (apply aA rfl rfl bB)
   · exact ⟨_,_,rfl,rfl⟩
   · exact Ent.refl
theorem lQ {F:List HP} {v:Value} {l:List Miss} {fk:FuncId} {first cap:List Value} {p:Miss→Bool} (k:RdL F 15 v l.length (aC jF l)) (hn:l.length≤1099511627776)
    (H:∀ x∈l,FnF Tryz.prog fk (first++[e9v x]++cap) [] F (fun r L'=>r= .bool (p x)∧L'=[])) :
    FnF Tryz.prog 230 [v,.func (.func fk) first.toArray cap.toArray] [] F (fun r L'=>r= .int .i64 (aV p l)∧L'=[]):=by
  refine FnF.mk' Tryz.func230 rfl rfl Tryz.ntmps230 rfl ?_
  repeat first|refine gd ?_|intro _
  apply bC (E0:=[(0,_),(1,_),(7,_)]) (fun E0 (i:Nat)=>(8,.int .i64 i)::E0) (fun _=>F) (fun i=>i≤l.length∧∀ j (h:j<l.length),j<i→p l[j]=false) (fun i=>l.length-i) 0
  · exact nB
  · exact ⟨om,fun j _ hj=>by omega⟩
  · exact Ent.refl
  · rintro i ⟨hi,h1⟩
    by_cases hlt:i<l.length
    · have hH:=H l[i] (List.getElem_mem hlt)
      cases he:p l[i]
      · rw [he] at hH
        repeat first|refine gd ?_|intro _|refine aD @hH ?_
        refine aS (i+1) (om) ⟨om,fun j hj hji=>?_⟩ ?_ Ent.refl
        · by_cases e:j=i
          · subst e;exact he
          · exact h1 j hj (om)
        · exact nB
      · rw [he] at hH
        repeat first|refine gd ?_|intro _|refine aD @hH ?_
        (apply aA rfl rfl bB)
        · exact ⟨by rw [jK hlt h1 he];rfl,rfl⟩
        · exact Ent.refl
    · have e:i=l.length:=by omega
      subst e
      repeat first|refine gd ?_|intro _
      (apply aA rfl rfl bB)
      · exact ⟨by rw [fX h1];rfl,rfl⟩
      · exact Ent.refl
theorem vN {F:List HP} {v:Value} {l:List Int} {fk:FuncId} {first cap:List Value} {p:Int→Bool} (k:RdL F 1 v l.length (aC ic l)) (hn:l.length≤1099511627776)
    (H:∀ x∈l,FnF Tryz.prog fk (first++[iv x]++cap) [] F (fun r L'=>r= .bool (p x)∧L'=[])) :
    FnF Tryz.prog 234 [v,.func (.func fk) first.toArray cap.toArray] [] F (fun r L'=>r= .bool (decide (0≤aV p l))∧L'=[]):=by
  have hI:=fun (k:RdL F 1 v l.length (aC ic l))=>a0h (F:=F) (first:=first) (cap:=cap) (p:=p) k hn H
  refine FnF.mk' Tryz.func234 rfl rfl Tryz.ntmps234 rfl ?_
  repeat first|refine gd ?_|intro _|refine aD @hI ?_
  exact aU
end
section
attribute [local irreducible] Exit.then Exit.inBlock Code.wp WC WO WE WQ V bF tV d3 bW dF uH IntKind.wrap WR Code.rounds WT KO
def d8o {α:Type} (room:Int) (l:List α):Int:=if (l.length:Int)=room then 4 else 0
def a3p {α:Type} (room:Int) (l:List α) (x:α):List α:=if (l.length:Int)=room then l else l++[x]
def e2f {α:Type} (l:List α) (n:Int):Bool:=decide (0≤n∧n<l.length)
def pH {α:Type} (l:List α) (n:Int):List α:=if e2f l n then l.eraseIdx n.toNat else l
def c0h {α:Type} (l:List α) (n:Int):Int:=if e2f l n then 0 else 5
def e4n {α:Type} (z:α) (l:List α) (n:Int):α:=if e2f l n then l.getD n.toNat z else z
theorem d8p {α:Type} {room:Int} {l:List α} {x:α} (h:(l.length:Int)≤room):((a3p room l x).length:Int)≤room:=by
  unfold a3p;split
  · exact h
  · simp;omega
theorem b2v {α:Type} {l:List α} {n:Int}:e2f l n=true↔(0≤n∧n<l.length):=by simp [e2f]
theorem c3p {α:Type} {l:List α} {n:Int}:e2f l n=false↔¬(0≤n∧n<l.length):=by rw [←Bool.not_eq_true,b2v]
abbrev bG (b:Nat) (room:Int) (l:List Msg):HP:=RL 179 99 15 mc b room l
theorem u8 {F:List HP} {room:Int} (h:1≤room∧room≤4096):FnF Tryz.prog 90 [.int .i64 room] [] F (fun r L'=>∃ b,r= .tuple [.pointer (some ⟨b,0,none⟩),.int .i64 0].toArray∧L'=[bG b room []]):=by
  refine FnF.mk' Tryz.func90 rfl rfl Tryz.ntmps90 rfl ?_
  repeat first|refine gd ?_|intro _
  (apply aA rfl rfl bB)
  · exact ⟨_,rfl,rfl⟩
  · exact dR (l:=[]) (Ent.cons (aM Ent.refl)) rfl rfl (by simp;omega)
theorem lU {F:List HP} {b:Nat} {room:Int} {l:List Msg}:FnF Tryz.prog 139 [.pointer (some ⟨b,0,none⟩)] [bG b room l] F (fun r L'=>r= .int .i64 (room-l.length)∧L'=[bG b room l]):=by
  refine FnF.mk' Tryz.func139 rfl rfl Tryz.ntmps139 rfl ?_
  refine iF fun p c hl=>?_
  repeat first|refine gd ?_|intro _
  (apply aA rfl rfl bB)
  · exact ⟨rfl,rfl⟩
  · (apply dR;(focus (exact aB));all_goals exact mG)
theorem a5h {Q P:Prop} (k:Q) (h:Hid Q→P:=by
  intro k
  first
  |(refine aG ?_;refine q9 (id:=3) .true (pl:= .p 0 <| .p 1 <| .p 2 <| .p 3 <| .r 4 <| .r 5 <| .e true [(6,.e true [(7,.p 8 <| .p 9 <| .e false [(10,.done)])])]) k.out)):P:=h ⟨k⟩
theorem u9 {F:List HP} {b:Nat} {room:Int} {l:List Msg} {x:Msg}:FnF Tryz.prog 198 [.pointer (some ⟨b,0,none⟩),mv x] [bG b room l] F (fun r L'=>r= .int .i64 (d8o room l)∧L'=[bG b room (a3p room l x)]):=by
  refine FnF.mk' Tryz.func198 rfl rfl Tryz.ntmps198 rfl ?_
  by_cases e:(l.length:Int)=room
  · repeat first|refine go ?_|intro _|refine a5h ?_|refine cM ?_|refine aD @lU ?_
    (apply aA rfl rfl bB)
    · exact ⟨by simp [d8o,e],rfl⟩
    · simp only [a3p,e,if_true];exact aB
  · repeat first|refine go ?_|intro _|refine aD @lU ?_
    (first|refine aW (bG b room l) ?_|refine aX (bG b room l) ?_|refine aY (bG b room l) ?_)
    first|refine iF fun p c hl=>?_|refine pX fun p c hl=>?_
    repeat first|refine go ?_|intro _|refine a5h ?_|refine cM ?_
    (apply aA rfl rfl bB)
    · exact ⟨by simp [d8o,e],rfl⟩
    · simp only [a3p,e,if_false]
      (apply dR;(focus (exact aB));all_goals exact mG)
theorem pI {F:List HP} {b:Nat} {room:Int} {l:List Msg} {n:Int}:FnF Tryz.prog 138 [.pointer (some ⟨b,0,none⟩),.int .i64 n] [bG b room l] F (fun r L'=>r= .tuple [mv (e4n .zero l n),.bool (e2f l n)].toArray∧L'=[bG b room l]):=by
  refine FnF.mk' Tryz.func138 rfl rfl Tryz.ntmps138 rfl ?_
  refine iF fun p c hl=>?_
  by_cases h:0≤n∧n<l.length
  · obtain ⟨i,rfl⟩:∃ i:Nat,n=i:=⟨n.toNat,om⟩
    have hi:i<l.length:=by omega
    repeat first|refine gd ?_|intro _
    (apply aA rfl rfl bB)
    · exact ⟨by simp [e4n,b2v.2 h,hi],rfl⟩
    · (apply dR;(focus (exact aB));all_goals exact mG)
  · repeat' (first|refine gd ?_|intro _|refine mH ?_ ?_|fail)
    all_goals first|(exfalso;omega)|skip
    all_goals (apply aA rfl rfl bB)
    all_goals first|exact ⟨by simp [e4n,c3p.2 h];rfl,rfl⟩|exact ⟨by simp [e4n,c3p.2 h],rfl⟩|(apply dR;(focus (exact aB));all_goals exact mG)
theorem sR {F:List HP} {b:Nat} {room:Int} {l:List Msg}:FnF Tryz.prog 56 [.pointer (some ⟨b,0,none⟩)] [bG b room l] F (fun r L'=>∃ p c,r= .slice p l.length c∧L'=[Own 99 15 (.slice p l.length c) l.length (aC mc l),bG b room l]):=by
  refine FnF.mk' Tryz.func56 rfl rfl Tryz.ntmps56 rfl ?_
  refine iF fun p c hl=>?_
  repeat first|refine gd ?_|intro _|refine aD @sQ ?_
  (apply aA rfl rfl bB)
  · exact ⟨_,_,rfl,rfl⟩
  · refine Ent.cons ?_
    (apply dR;(focus (exact aB));all_goals exact mG)
theorem sS {F:List HP} {b:Nat} {room:Int} {l:List Msg} {n:Int}:FnF Tryz.prog 142 [.pointer (some ⟨b,0,none⟩),.int .i64 n] [bG b room l] F (fun r L'=>r= .tuple [mv (e4n .zero l n),.int .i64 (c0h l n)].toArray∧L'=[bG b room (pH l n)]):=by
  refine FnF.mk' Tryz.func142 rfl rfl Tryz.ntmps142 rfl ?_
  cases e:e2f l n with
  |true=>
   obtain ⟨h1,h2⟩:=b2v.1 e
   obtain ⟨i,rfl⟩:∃ i:Nat,n=i:=⟨n.toNat,om⟩
   have hB:=fun F=>pI (F:=F) (b:=b) (room:=room) (l:=l) (n:=i)
   simp only [e] at hB
   repeat first|refine gd ?_|intro _|refine aD @hB ?_
   (first|refine aW (bG b room l) ?_|refine aX (bG b room l) ?_|refine aY (bG b room l) ?_)
   refine pX fun p c hl=>?_
   repeat first|refine gd ?_|intro _
   refine aD (@a8h (i:=i) (j:=i+1)) ?_
   repeat first|refine gd ?_|intro _
   (apply aA rfl rfl bB)
   · exact ⟨by simp [c0h,e],rfl⟩
   · simp only [pH,e,if_true]
     apply dR
     · exact aB
     · simp only [List.length_eraseIdx,Int.toNat_natCast];split<;>omega
     · rw [iA (enc:=mc) (n:=15) (fun _=>rfl),eE (enc:=mc) (n:=15) (fun _=>rfl)]
       simp [List.eraseIdx_eq_take_drop_succ]
     · have:=List.length_eraseIdx_le l i
       simp only [Int.toNat_natCast]
       omega
  |false=>
   have hB:=fun F=>pI (F:=F) (b:=b) (room:=room) (l:=l) (n:=n)
   simp only [e] at hB
   repeat first|refine gd ?_|intro _|refine aD @hB ?_
   (apply aA rfl rfl bB)
   · exact ⟨by simp [c0h,e],rfl⟩
   · simp only [pH,e,Bool.false_eq_true,if_false];exact aB
end
section
def qS (l:List Miss) (line:Int):Int:=aV (fun m=>decide (m.line=line)) l
def bV (l:List Miss) (line:Int):Miss:=l.getD (qS l line).toNat .zero
def cR (l:List Miss) (line:Int):Bool:=decide (0≤qS l line)
def tG (room:Int) (l:List Miss) (line kind:Int):Int:=if kind≠1∧kind≠2 then 1 else if cR l line then 6 else if (l.length:Int)=room then 4 else 0
def kL (room:Int) (l:List Miss) (line kind:Int):List Miss:=if tG room l line kind=0 then l++[⟨line,kind,-1,0,0,.zero,false,false⟩] else l
def kG (l:List Miss):Int:=aV (fun m=>m.owes) l
theorem nV {l:List Miss} {line:Int} (h:cR l line=true):∃ i:Nat,∃ hi:i<l.length,qS l line=i∧bV l line=l[i]∧l[i].line=line:=by
  obtain ⟨i,hi,h1,h2,_⟩:=cL (of_decide_eq_true h)
  refine ⟨i,hi,h1,?_,by simpa using h2⟩
  unfold bV qS
  rw [h1];simp [hi]
theorem d8q {l:List Miss} {line:Int} (h:cR l line=false):qS l line= -1:=(dY (of_decide_eq_false h)).1
attribute [local irreducible] Exit.then Exit.inBlock Code.wp WC WO WE WQ V bF tV d3 bW dF uH IntKind.wrap WR Code.rounds WT KO
abbrev c6w (b:Nat) (room:Int) (l:List Miss):HP:=RL 184 182 15 jF b room l
theorem d8r {F:List HP} {room:Int} (h:1≤room∧room≤8):FnF Tryz.prog 93 [.int .i64 room] [] F (fun r L'=>∃ b,r= .tuple [.pointer (some ⟨b,0,none⟩),.int .i64 0].toArray∧L'=[c6w b room []]):=by
  refine FnF.mk' Tryz.func93 rfl rfl Tryz.ntmps93 rfl ?_
  repeat first|refine gd ?_|intro _
  (apply aA rfl rfl bB)
  · exact ⟨_,rfl,rfl⟩
  · exact dR (l:=[]) (Ent.cons (aM Ent.refl)) rfl rfl (by simp;omega)
theorem d8s {F:List HP} {b:Nat} {line:Int} {T:TypeId} {C:List Value→List HP} {m:Miss} (k:CellsAt b F T [.int .i64 line] C) :
    FnF Tryz.prog 231 [e9v m,.pointer (some ⟨b,0,none⟩)] [] F (fun r L'=>r= .bool (decide (m.line=line))∧L'=[]):=by
  refine FnF.mk' Tryz.func231 rfl rfl Tryz.ntmps231 rfl ?_
  repeat first|refine gd ?_|intro _
  exact aU
theorem c0i {F:List HP} {m:Miss}:FnF Tryz.prog 200 [e9v m] [] F (fun r L'=>r= .bool m.owes∧L'=[]):=by
  refine FnF.mk' Tryz.func200 rfl rfl Tryz.ntmps200 rfl ?_
  repeat first|refine gd ?_|intro _
  exact aU
theorem l8 {F:List HP} {b:Nat} {room:Int} {l:List Miss}:FnF Tryz.prog 58 [.pointer (some ⟨b,0,none⟩)] [c6w b room l] F (fun r L'=>∃ p c,r= .slice p l.length c∧L'=[Own 182 15 (.slice p l.length c) l.length (aC jF l),c6w b room l]):=by
  refine FnF.mk' Tryz.func58 rfl rfl Tryz.ntmps58 rfl ?_
  refine iF fun p c hl=>?_
  repeat first|refine gd ?_|intro _|refine aD @a8j ?_
  (apply aA rfl rfl bB)
  · exact ⟨_,_,rfl,rfl⟩
  · exact xW @dR
theorem d8t {F:List HP} {b bl:Nat} {room:Int} {l:List Miss} {line:Int} {p:Option Addr} {c:Nat} {C:List Value→List HP} (k1:CellsAt bl F 3 [.int .i64 line] C) (hn:l.length≤4096) :
    FnF Tryz.prog 199 [.pointer (some ⟨b,0,none⟩),.func (.func 231) [].toArray [.pointer (some ⟨bl,0,none⟩)].toArray] [Cells b 184 [.int .i64 room,.slice p l.length c],Own 182 15 (.slice p l.length c) l.length (aC jF l)] F
      (fun r L'=>r= .int .i64 (qS l line)∧L'=[Cells b 184 [.int .i64 room,.slice p l.length c],Own 182 15 (.slice p l.length c) l.length (aC jF l)]):=by
  have hI:=fun F (C:List Value→List HP) (k1':CellsAt bl F 3 [.int .i64 line] C) (k:RdL F 15 (.slice p l.length c) l.length (aC jF l))=>
    lQ (F:=F) (v:= .slice p l.length c) (l:=l) (fk:=231) (first:=[]) (cap:=[.pointer (some ⟨bl,0,none⟩)]) (p:=fun m=>decide (m.line=line)) k (om) (fun x _=>d8s k1')
  refine FnF.mk' Tryz.func199 rfl rfl Tryz.ntmps199 rfl ?_
  repeat first|refine gd ?_|intro _|refine aD @hI ?_
  (apply aA rfl rfl bB;(first|exact lW|exact ⟨by simp [qS]<;>omega,rfl⟩);exact iC)
theorem t6 {F:List HP} {b:Nat} {room:Int} {l:List Miss} {line:Int} {p:Option Addr} {c:Nat} (hn:l.length≤4096) :
    FnF Tryz.prog 201 [.pointer (some ⟨b,0,none⟩),.int .i64 line] [Cells b 184 [.int .i64 room,.slice p l.length c],Own 182 15 (.slice p l.length c) l.length (aC jF l)] F
      (fun r L'=>r= .pointer (if cR l line then some ⟨pb (.slice p l.length c),po (.slice p l.length c)+(qS l line).toNat*15,none⟩ else none)∧L'=[Cells b 184 [.int .i64 room,.slice p l.length c],Own 182 15 (.slice p l.length c) l.length (aC jF l)]):=by
  have hA:=fun F (bl:Nat) (C:List Value→List HP) (k1:CellsAt bl F 3 [.int .i64 line] C)=>d8t (F:=F) (b:=b) (room:=room) (l:=l) (p:=p) (c:=c) k1 hn
  cases h:cR l line with
  |true=>
   obtain ⟨i,hi,e1,_,_⟩:=nV h
   rw [e1] at hA
   rw [e1,if_pos rfl,Int.toNat_natCast]
   refine FnF.mk' Tryz.func201 rfl rfl Tryz.ntmps201 rfl ?_
   repeat first|refine gd ?_|intro _|refine aD @hA ?_
   exact aU
  |false=>
   rw [d8q h] at hA
   rw [if_neg Bool.false_ne_true]
   refine FnF.mk' Tryz.func201 rfl rfl Tryz.ntmps201 rfl ?_
   repeat first|refine gd ?_|intro _|refine aD @hA ?_
   exact aU
end
end Go.Sx
