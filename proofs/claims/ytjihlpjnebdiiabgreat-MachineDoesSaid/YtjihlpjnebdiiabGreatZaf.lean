/- Same7, Arr0, Msh, Msh2, Msh3, Msh4, Msh5, Msh6, Msh7, Msh8, MshR: several of my texts as one. My own work. -/
import Derived.Test.YtjihlpjnebdiiabGreatZaa
import Derived.Test.YtjihlpjnebdiiabGreatZab
set_option linter.unusedVariables false
set_option linter.unusedSectionVars false
set_option linter.unusedSimpArgs false
set_option maxRecDepth 100000
set_option maxHeartbeats 4000000
namespace Go.Sx
open Go Go.Proofs Tryz
section
theorem Ta {a b:bA} (h:mc a=mc b):a=b:=by
  obtain ⟨a1,a2,a3,a4,a5,a6,a7,⟨x0,x1,x2,x3,x4,x5,x6,x7⟩⟩:=a;obtain ⟨b1,b2,b3,b4,b5,b6,b7,⟨y0,y1,y2,y3,y4,y5,y6,y7⟩⟩:=b;simp only [mc,List.cons.injEq,Value.int.injEq,true_and,and_true] at h;obtain ⟨rfl,rfl,rfl,rfl,rfl,rfl,rfl,rfl,rfl,rfl,rfl,rfl,rfl,rfl,rfl⟩:=h;rfl
attribute [local irreducible] Exit.then Exit.inBlock Code.wp WC WO WE WQ V aW dL Sat bz bK dU IntKind.wrap WR Code.rounds WT KO
theorem Bq {F:List HP} {v u:Value} {l m:List bA} (k1:bN F 15 v l.length (aj mc l)) (k2:bN F 15 u m.length (aj mc m)) (hn:l.length≤1099511627776):az prog 101 [v,u] [] F (fun r L'=>r= .bool (decide (l=m))∧L'=[]):=by
  refine ay func101 ntmps101 ?_;by_cases e:l.length=m.length
  ·repeat first|refine gd ?_|intro _
   apply aO (E0:=[(0,_),(1,_)]) (fun E0 (i:Nat)=>(5,.int .i64 i)::E0) (fun _=>F) (fun i=>i≤l.length∧l.take i=m.take i) (fun i=>l.length-i) 0
   ·exact bH
   ·exact ⟨om,rfl⟩
   ·exact ai.refl
   ·rintro i ⟨hi,h1⟩;by_cases bB:i<l.length
    ·have If:i<m.length:=by omega
     by_cases he:l[i]=m[i]
     ·have Al:¬(mc l[i]≠mc m[i]):=fun h=>h (by rw [he]);repeat first|refine gd ?_|intro _
      refine aC (i+1) (om) ⟨om,?_⟩ ?_ ai.refl
      ·rw [List.take_add_one,List.take_add_one,h1];simp [bB,If,he]
      ·exact bH
     ·have Al:mc l[i]≠mc m[i]:=fun h=>he (Ta h);repeat first|refine gd ?_|intro _
      have kz:l≠m:=fun e=>by subst e;exact he rfl
      (apply ad rfl rfl ar;(first|exact cS|exact ⟨by simp [kz]<;>omega,rfl⟩);exact bM)
    ·have kM:i=l.length:=by omega
     subst kM;have:l=m:=by rw [List.take_length,e,List.take_length] at h1;exact h1
     repeat first|refine gd ?_|intro _
     (apply ad rfl rfl ar;(first|exact cS|exact ⟨by simp [this]<;>omega,rfl⟩);exact bM)
  ·have kz:l≠m:=fun h=>e (by rw [h]);repeat first|refine gd ?_|intro _
   (apply ad rfl rfl ar;(first|exact cS|exact ⟨by simp [kz]<;>omega,rfl⟩);exact bM)
end
section
structure Way where
  st:Int
  aa:Int
  ag:Words
  lk:Bool
abbrev lM (w:Way):List Value:=[.int .i64 w.st,.int .i64 w.aa,.int .i64 w.ag.w0,.int .i64 w.ag.w1,.int .i64 w.ag.w2,.int .i64 w.ag.w3,.int .i64 w.ag.w4,.int .i64 w.ag.w5,.int .i64 w.ag.w6,.int .i64 w.ag.w7,.bool w.lk]
abbrev J5 (w:Way):Value:= .agg (lM w).toArray
abbrev Way.zero:Way:=⟨0,0,.zero,false⟩
theorem Way.iZ {a b:Way}:(a.st=b.st∧a.aa=b.aa∧a.ag=b.ag∧a.lk=b.lk)↔a=b:=by cases a;cases b;simp
instance:DecidableEq Way:=fun a b=>decidable_of_iff _ Way.iZ
structure bR where
  aa:Int
  ah:Int
  dc:Int
  gY:Int
  bI:Int
  ag:Words
  granted:Bool
  oU:Bool
abbrev fg (m:bR):List Value:=[.int .i64 m.aa,.int .i64 m.ah,.int .i64 m.dc,.int .i64 m.gY,.int .i64 m.bI,.int .i64 m.ag.w0,.int .i64 m.ag.w1,.int .i64 m.ag.w2,.int .i64 m.ag.w3,.int .i64 m.ag.w4,.int .i64 m.ag.w5,.int .i64 m.ag.w6,.int .i64 m.ag.w7,.bool m.granted,.bool m.oU]
abbrev O3 (m:bR):Value:= .agg (fg m).toArray
abbrev bR.zero:bR:=⟨0,0,0,0,0,.zero,false,false⟩
theorem bR.iZ {a b:bR}:(a.aa=b.aa∧a.ah=b.ah∧a.dc=b.dc∧a.gY=b.gY∧a.bI=b.bI∧a.ag=b.ag∧a.granted=b.granted∧a.oU=b.oU)↔a=b:=by cases a;cases b;simp
instance:DecidableEq bR:=fun a b=>decidable_of_iff _ bR.iZ
section
variable {P:Program} {N:Nat} {t ty:TypeId} {x y:Operand} {env:Env} {L:List HP}
theorem xC {e:TypeId} {nn:Int} {z:Value} {sz bs:Nat} {zs:List Value} {pos:String} {c9:Array Edge} {d:Nat} [hT:TU P t (.slice e)] [hZ:TZ P e sz z bs] [yG:CO z zs]
    (hx:ev env x=some (.int .i64 nn)) (h0:0≤nn) (hb:(bs:Int)*nn≤140737488355328) (hm:nn≤1099511627776) (hl:zs.length=sz) (hs:0<sz) (hd:Nat.blt d N=true) :
    KO P N ⟨some d,.makeSlice t x x,ty,pos,c9,none⟩ env L (uX env d (fun b=> .slice (some ⟨b,0,none⟩) nn.toNat nn.toNat) (fun b=>ao b e (List.replicate nn.toNat zs).flatten::L)):=by
  have hz:=yG.pf;have R6:z.cells=zs.toArray:=by rw [dT,hz]
  have hi:=hZ.pf;cases hq:P.info? e with
  |none=>simp [hq] at hi
  |some i=>
   simp only [hq,Option.map_some,Option.some.injEq,Prod.mk.injEq] at hi;obtain ⟨WH,sq,I2⟩:=hi;have G5:madeCells z.cells (nn.toNat*i.size)=(List.replicate nn.toNat zs).flatten.toArray:=by
     apply Array.ext';simp only [madeCells,R6,WH,Array.toList_map,Array.toList_range];apply List.ext_getElem
     ·simp [hl]
     ·intro j h1 h2;have hj:j<nn.toNat*sz:=by simpa using h1
      have hmod:j % sz<zs.length:=by rw [hl];exact Nat.mod_lt _ hs
      have XT:∀ (k j:Nat) (hj:j<(List.replicate k zs).flatten.length),(List.replicate k zs).flatten[j]=zs[j % sz]'(by rw [hl];exact Nat.mod_lt _ hs):=by
        intro k;induction k with
        |zero=>intro j hj;simp at hj
        |succ k ih=>
         intro j hj;simp only [List.replicate_succ,List.flatten_cons,List.getElem_append];split
         ·rename_i bB;congr 1;rw [Nat.mod_eq_of_lt (om)]
         ·rename_i Uo;have:=ih (j-zs.length) (by simp only [List.replicate_succ,List.flatten_cons,List.length_append] at hj;omega);rw [this];congr 1;rw [hl,Nat.mod_eq_sub_mod (a:=j) (b:=sz) (om)]
      simp only [List.getElem_map,List.getElem_range];rw [XT];rw [getElem!_pos zs.toArray (j % zs.toArray.size) (by simp [hl];omega)];simp [hl]
   refine zN (P:=P) (o:= .cells (List.replicate nn.toNat zs).flatten.toArray e (0,0)) (v:=fun b=> .slice (some ⟨b,0,none⟩) nn.toNat nn.toNat) (fun b h hc=>⟨hc⟩) ?_ hd;intro a w ha _;have hr:=run_make (P:=P) w t e i z hT.pf hq sq .i64 .i64 nn nn h0 (Int.le_refl _) (by rw [I2];omega) (om);rw [G5] at hr;simp only [execOp,ha.ev hx,hr,Sem.run_bind,Result.andThen_ok,Sem.run_pure];rfl
end
attribute [local irreducible] Exit.then Exit.inBlock Code.wp WC WO WE WQ V aW dL Sat bz bK dU IntKind.wrap WR Code.rounds WT KO
theorem lP {F:List HP} {v:Value} {l:List Way} {fk:FuncId} {first cap:List Value} {p:Way→Bool} (k:bN F 11 v l.length (aj lM l)) (hn:l.length≤1099511627776)
    (H:∀ x∈l,az prog fk (first++[J5 x]++cap) [] F (fun r L'=>r= .bool (p x)∧L'=[])) :
    az prog 310 [v,.func (.func fk) first.toArray cap.toArray] [] F (fun r L'=>r= .int .i64 (bO p l)∧L'=[]):=by
  refine ay func310 ntmps310 ?_;repeat first|refine gd ?_|intro _
  apply aO (E0:=[(0,_),(1,_),(7,_)]) (fun E0 (i:Nat)=>(8,.int .i64 i)::E0) (fun _=>F) (fun i=>i≤l.length∧∀ j (h:j<l.length),j<i→p l[j]=false) (fun i=>l.length-i) 0
  ·exact bH
  ·exact ⟨om,fun j _ hj=>by omega⟩
  ·exact ai.refl
  ·rintro i ⟨hi,h1⟩;by_cases bB:i<l.length
   ·have hH:=H l[i] (List.getElem_mem bB);cases he:p l[i]
    ·rw [he] at hH;repeat first|refine gd ?_|intro _|refine ae @hH ?_
     refine aC (i+1) (om) ⟨om,fun j hj rp=>?_⟩ ?_ ai.refl
     ·by_cases e:j=i
      ·subst e;exact he
      ·exact h1 j hj (om)
     ·exact bH
    ·rw [he] at hH;repeat first|refine gd ?_|intro _|refine ae @hH ?_
     (apply ad rfl rfl ar)
     ·exact ⟨by rw [eU bB h1 he];rfl,rfl⟩
     ·exact ai.refl
   ·have e:i=l.length:=by omega
    subst e;repeat first|refine gd ?_|intro _
    (apply ad rfl rfl ar)
    ·exact ⟨by rw [dr h1];rfl,rfl⟩
    ·exact ai.refl
theorem CJ {F:List HP} {v:Value} {n:Nat} {xs:List Value} (k:bN F 15 v n xs) (hn:n≤1099511627776):az prog 274 [v] [] F (fun r L'=>∃ p c,r= .slice p n c∧L'=[aT 184 15 (.slice p n c) n xs]):=by
  refine ay func274 ntmps274 ?_;refine Ch (v:=v) k fun q1 q2 p c0 e q3=>?_;subst e;cases p with
  |none=>
   obtain rfl:=q3 rfl;obtain rfl:xs=[]:=List.eq_nil_of_length_eq_zero (by simpa using q1);repeat first|refine gd ?_|intro _
   (apply ad rfl rfl ar)
   ·exact ⟨_,_,rfl,rfl⟩
   ·exact aI ai.refl
  |some a=>
   repeat first|refine gd ?_|intro _
   simp only [Nat.zero_add,List.nil_append];(apply ad rfl rfl ar)
   ·exact ⟨_,_,rfl,rfl⟩
   ·exact ai.refl
theorem nF {F:List HP} {v:Value} {l:List bR} {fk:FuncId} {first cap:List Value} {p:bR→Bool} (k:bN F 15 v l.length (aj fg l)) (hn:l.length≤1099511627776)
    (H:∀ x∈l,az prog fk (first++[O3 x]++cap) [] F (fun r L'=>r= .bool (p x)∧L'=[])) :
    az prog 344 [v,.func (.func fk) first.toArray cap.toArray] [] F (fun r L'=>r= .int .i64 (bO p l)∧L'=[]):=by
  refine ay func344 ntmps344 ?_;repeat first|refine gd ?_|intro _
  apply aO (E0:=[(0,_),(1,_),(7,_)]) (fun E0 (i:Nat)=>(8,.int .i64 i)::E0) (fun _=>F) (fun i=>i≤l.length∧∀ j (h:j<l.length),j<i→p l[j]=false) (fun i=>l.length-i) 0
  ·exact bH
  ·exact ⟨om,fun j _ hj=>by omega⟩
  ·exact ai.refl
  ·rintro i ⟨hi,h1⟩;by_cases bB:i<l.length
   ·have hH:=H l[i] (List.getElem_mem bB);cases he:p l[i]
    ·rw [he] at hH;repeat first|refine gd ?_|intro _|refine ae @hH ?_
     refine aC (i+1) (om) ⟨om,fun j hj rp=>?_⟩ ?_ ai.refl
     ·by_cases e:j=i
      ·subst e;exact he
      ·exact h1 j hj (om)
     ·exact bH
    ·rw [he] at hH;repeat first|refine gd ?_|intro _|refine ae @hH ?_
     (apply ad rfl rfl ar)
     ·exact ⟨by rw [eU bB h1 he];rfl,rfl⟩
     ·exact ai.refl
   ·have e:i=l.length:=by omega
    subst e;repeat first|refine gd ?_|intro _
    (apply ad rfl rfl ar)
    ·exact ⟨by rw [dr h1];rfl,rfl⟩
    ·exact ai.refl
theorem vS {F:List HP} {v:Value} {l:List Int} {fk:FuncId} {first cap:List Value} {p:Int→Bool} (k:bN F 1 v l.length (aj ic l)) (hn:l.length≤1099511627776)
    (H:∀ x∈l,az prog fk (first++[iv x]++cap) [] F (fun r L'=>r= .bool (p x)∧L'=[])) :
    az prog 348 [v,.func (.func fk) first.toArray cap.toArray] [] F (fun r L'=>r= .bool (decide (0≤bO p l))∧L'=[]):=by
  have hI:=fun (k:bN F 1 v l.length (aj ic l))=>yK (F:=F) (first:=first) (cap:=cap) (p:=p) k hn H;refine ay func348 ntmps348 ?_;repeat first|refine gd ?_|intro _|refine ae @hI ?_
  exact aM
end
section
def nK (l:List bR) (aa:Int):Int:=bO (fun m=>decide (m.aa=aa)) l
def iR (l:List bR) (aa:Int):bR:=l.getD (nK l aa).toNat .zero
def dp (l:List bR) (aa:Int):Bool:=decide (0≤nK l aa)
def lS (ak:Int) (l:List bR) (aa ah:Int):Int:=if ah≠1∧ah≠2 then 1 else if dp l aa then 6 else if (l.length:Int)=ak then 4 else 0
def gH (ak:Int) (l:List bR) (aa ah:Int):List bR:=if lS ak l aa ah=0 then l++[⟨aa,ah,-1,0,0,.zero,false,false⟩] else l
def gx (l:List bR):Int:=bO (fun m=>m.oU) l
theorem iT {l:List bR} {aa:Int} (h:dp l aa=true):∃ i:Nat,∃ hi:i<l.length,nK l aa=i∧iR l aa=l[i]∧l[i].aa=aa:=by
  obtain ⟨i,hi,h1,h2,_⟩:=fx (of_decide_eq_true h);refine ⟨i,hi,h1,?_,by simpa using h2⟩;unfold iR nK;rw [h1];simp [hi]
theorem sF {l:List bR} {aa:Int} (h:dp l aa=false):nK l aa= -1:=(ix (of_decide_eq_false h)).1
attribute [local irreducible] Exit.then Exit.inBlock Code.wp WC WO WE WQ V aW dL Sat bz bK dU IntKind.wrap WR Code.rounds WT KO
abbrev vO (b:Nat) (ak:Int) (l:List bR):HP:=RL 328 184 15 fg b ak l
theorem Qh {F:List HP} {ak:Int} (h:1≤ak∧ak≤8):az prog 137 [.int .i64 ak] [] F (fun r L'=>∃ b,r= .tuple [.pointer (some ⟨b,0,none⟩),.int .i64 0].toArray∧L'=[vO b ak []]):=by
  refine ay func137 ntmps137 ?_;repeat first|refine gd ?_|intro _
  (apply ad rfl rfl ar)
  ·exact ⟨_,rfl,rfl⟩
  ·exact bC (l:=[]) (ai.cons (aI ai.refl)) rfl rfl (by simp;omega)
theorem Qi {F:List HP} {b:Nat} {aa:Int} {T:TypeId} {C:List Value→List HP} {m:bR} (k:bX b F T [.int .i64 aa] C) :
    az prog 345 [O3 m,.pointer (some ⟨b,0,none⟩)] [] F (fun r L'=>r= .bool (decide (m.aa=aa))∧L'=[]):=by
  refine ay func345 ntmps345 ?_;repeat first|refine gd ?_|intro _
  exact aM
theorem Ii {F:List HP} {m:bR}:az prog 306 [O3 m] [] F (fun r L'=>r= .bool m.oU∧L'=[]):=by
  refine ay func306 ntmps306 ?_;repeat first|refine gd ?_|intro _
  exact aM
theorem np {F:List HP} {b:Nat} {ak:Int} {l:List bR}:az prog 204 [.pointer (some ⟨b,0,none⟩)] [vO b ak l] F (fun r L'=>∃ p c,r= .slice p l.length c∧L'=[aT 184 15 (.slice p l.length c) l.length (aj fg l),vO b ak l]):=by
  refine ay func204 ntmps204 ?_;refine cC fun p c hl=>?_;repeat first|refine gd ?_|intro _|refine ae @CJ ?_
  (apply ad rfl rfl ar)
  ·exact ⟨_,_,rfl,rfl⟩
  ·exact eb @bC
theorem Qj {F:List HP} {b bl:Nat} {ak:Int} {l:List bR} {aa:Int} {p:Option Addr} {c:Nat} {C:List Value→List HP} (k1:bX bl F 3 [.int .i64 aa] C) (hn:l.length≤4096) :
    az prog 305 [.pointer (some ⟨b,0,none⟩),.func (.func 345) [].toArray [.pointer (some ⟨bl,0,none⟩)].toArray] [ao b 328 [.int .i64 ak,.slice p l.length c],aT 184 15 (.slice p l.length c) l.length (aj fg l)] F
      (fun r L'=>r= .int .i64 (nK l aa)∧L'=[ao b 328 [.int .i64 ak,.slice p l.length c],aT 184 15 (.slice p l.length c) l.length (aj fg l)]):=by
  have hI:=fun F (C:List Value→List HP) (PB:bX bl F 3 [.int .i64 aa] C) (k:bN F 15 (.slice p l.length c) l.length (aj fg l))=>
    nF (F:=F) (v:= .slice p l.length c) (l:=l) (fk:=345) (first:=[]) (cap:=[.pointer (some ⟨bl,0,none⟩)]) (p:=fun m=>decide (m.aa=aa)) k (om) (fun x _=>Qi PB)
  refine ay func305 ntmps305 ?_;repeat first|refine gd ?_|intro _|refine ae @hI ?_
  (apply ad rfl rfl ar;(first|exact cS|exact ⟨by simp [nK]<;>omega,rfl⟩);exact bM)
theorem sG {F:List HP} {b:Nat} {ak:Int} {l:List bR} {aa:Int} {p:Option Addr} {c:Nat} (hn:l.length≤4096) :
    az prog 307 [.pointer (some ⟨b,0,none⟩),.int .i64 aa] [ao b 328 [.int .i64 ak,.slice p l.length c],aT 184 15 (.slice p l.length c) l.length (aj fg l)] F
      (fun r L'=>r= .pointer (if dp l aa then some ⟨pb (.slice p l.length c),po (.slice p l.length c)+(nK l aa).toNat*15,none⟩ else none)∧L'=[ao b 328 [.int .i64 ak,.slice p l.length c],aT 184 15 (.slice p l.length c) l.length (aj fg l)]):=by
  have hA:=fun F (bl:Nat) (C:List Value→List HP) (k1:bX bl F 3 [.int .i64 aa] C)=>Qj (F:=F) (b:=b) (ak:=ak) (l:=l) (p:=p) (c:=c) k1 hn;cases h:dp l aa with
  |true=>
   obtain ⟨i,hi,e1,_,_⟩:=iT h;rw [e1] at hA;rw [e1,if_pos rfl,Int.toNat_natCast];refine ay func307 ntmps307 ?_;repeat first|refine gd ?_|intro _|refine ae @hA ?_
   exact aM
  |false=>
   rw [sF h] at hA;rw [if_neg Bool.false_ne_true];refine ay func307 ntmps307 ?_;repeat first|refine gd ?_|intro _|refine ae @hA ?_
   exact aM
end
section
def qY (l:List bR) (aa:Int):bR:=if dp l aa then iR l aa else .zero
def u4 (m:bR) (aH bI:Int):Bool:=decide (m.dc= -1∧m.gY≤aH)&& (if m.ah=2 then decide (bI=4) else decide (aH=0∧(bI=1∨bI=2)))
def fm (l:List bR) (aa aH bI:Int):Int:=if dp l aa then (if u4 (iR l aa) aH bI then 0 else 7) else 5
def dw (l:List bR) (aa aH bI:Int) (w:Words):List bR:=if fm l aa aH bI=0 then l.set (nK l aa).toNat { iR l aa with dc:=aH,bI:=bI,ag:=w} else l
attribute [local irreducible] Exit.then Exit.inBlock Code.wp WC WO WE WQ V aW dL Sat bz bK dU IntKind.wrap WR Code.rounds WT KO
theorem NI {F:List HP} {b:Nat} {ak:Int} {l:List bR} {aa ah:Int} :
    az prog 246 [.pointer (some ⟨b,0,none⟩),.int .i64 aa,.int .i64 ah] [vO b ak l] F (fun r L'=>r= .int .i64 (lS ak l aa ah)∧L'=[vO b ak (gH ak l aa ah)]):=by
  refine ay func246 ntmps246 ?_;by_cases hk:ah≠1∧ah≠2
  ·have e1:lS ak l aa ah=1:=if_pos hk;have e2:gH ak l aa ah=l:=by unfold gH;rw [e1];rfl
   obtain ⟨BN,J2⟩:=hk;rw [e1,e2];repeat first|refine gd ?_|intro _
   exact aM
  ·refine cC fun p c hl=>?_;have hO:=fun F=>sG (F:=F) (b:=b) (ak:=ak) (l:=l) (aa:=aa) (p:=p) (c:=c) (om);have sR:ah=1∨¬ah=1∧ah=2:=by omega
   cases h:dp l aa with
   |true=>
    have e1:lS ak l aa ah=6:=by unfold lS;rw [if_neg hk,if_pos h]
    have e2:gH ak l aa ah=l:=by unfold gH;rw [e1];rfl
    rw [e1,e2];rw [if_pos h] at hO;rcases sR with h1|⟨h1,h2⟩
    ·repeat first|refine gd ?_|intro _|refine ae @hO ?_
     (apply ad rfl rfl ar)
     ·exact ⟨rfl,rfl⟩
     ·(apply bC;(focus (exact af));all_goals exact bu)
    ·repeat first|refine gd ?_|intro _|refine ae @hO ?_
     (apply ad rfl rfl ar)
     ·exact ⟨rfl,rfl⟩
     ·(apply bC;(focus (exact af));all_goals exact bu)
   |false=>
    rw [h,if_neg Bool.false_ne_true] at hO;by_cases hf:(l.length:Int)=ak
    ·have e1:lS ak l aa ah=4:=by unfold lS;rw [if_neg hk,h,if_neg Bool.false_ne_true,if_pos hf]
     have e2:gH ak l aa ah=l:=by unfold gH;rw [e1];rfl
     rw [e1,e2];rcases sR with h1|⟨h1,h2⟩
     ·repeat first|refine gd ?_|intro _|refine ae @hO ?_
      (apply ad rfl rfl ar)
      ·exact ⟨rfl,rfl⟩
      ·(apply bC;(focus (exact af));all_goals exact bu)
     ·repeat first|refine gd ?_|intro _|refine ae @hO ?_
      (apply ad rfl rfl ar)
      ·exact ⟨rfl,rfl⟩
      ·(apply bC;(focus (exact af));all_goals exact bu)
    ·have e1:lS ak l aa ah=0:=by unfold lS;rw [if_neg hk,h,if_neg Bool.false_ne_true,if_neg hf]
     have e2:gH ak l aa ah=l++[⟨aa,ah,-1,0,0,.zero,false,false⟩]:=by unfold gH;rw [e1];rfl
     rw [e1,e2];rcases sR with h1|⟨h1,h2⟩
     ·repeat first|refine gd ?_|intro _|refine ae @hO ?_
      (apply ad rfl rfl ar)
      ·exact ⟨rfl,rfl⟩
      ·(apply bC;(focus (exact af));all_goals (first|rfl|(with_reducible assumption)|(simp [aJ,bi];done)|(simp [aJ,bi];omega)|omega|(constructor<;>(simp [aJ,bi])<;>omega)))
     ·repeat first|refine gd ?_|intro _|refine ae @hO ?_
      (apply ad rfl rfl ar)
      ·exact ⟨rfl,rfl⟩
      ·(apply bC;(focus (exact af));all_goals (first|rfl|(with_reducible assumption)|(simp [aJ,bi];done)|(simp [aJ,bi];omega)|omega|(constructor<;>(simp [aJ,bi])<;>omega)))
theorem Qk {F:List HP} {b:Nat} {ak:Int} {l:List bR} {aa:Int} :
    az prog 241 [.pointer (some ⟨b,0,none⟩),.int .i64 aa] [vO b ak l] F (fun r L'=>r= .tuple [O3 (qY l aa),.bool (dp l aa)].toArray∧L'=[vO b ak l]):=by
  refine ay func241 ntmps241 ?_;refine cC fun p c hl=>?_;have hO:=fun F=>sG (F:=F) (b:=b) (ak:=ak) (l:=l) (aa:=aa) (p:=p) (c:=c) (om);cases h:dp l aa with
  |true=>
   obtain ⟨i,hi,e1,e2,_⟩:=iT h;have e3:qY l aa=l[i]:=by unfold qY;rw [if_pos h,e2]
   rw [e3];rw [if_pos h,e1,Int.toNat_natCast] at hO;repeat first|refine gd ?_|intro _|refine ae @hO ?_
   (apply ad rfl rfl ar)
   ·exact ⟨rfl,rfl⟩
   ·(apply bC;(focus (exact af));all_goals exact bu)
  |false=>
   have e3:qY l aa= .zero:=by unfold qY;rw [h];rfl
   rw [e3];rw [h,if_neg Bool.false_ne_true] at hO;repeat first|refine gd ?_|intro _|refine ae @hO ?_
   (apply ad rfl rfl ar)
   ·exact ⟨rfl,rfl⟩
   ·(apply bC;(focus (exact af));all_goals exact bu)
end
section
attribute [local irreducible] Exit.then Exit.inBlock Code.wp WC WO WE WQ V aW dL Sat bz bK dU IntKind.wrap WR Code.rounds WT KO
theorem NJ {F:List HP} {l:List bR} {i:Nat} {aH bI:Int} {p:Option Addr} {c:Nat} (hi:i<l.length) (hn:l.length≤4096) :
    az prog 359 [.pointer (some ⟨pb (.slice p l.length c),po (.slice p l.length c)+i*15,none⟩),.int .i64 aH,.int .i64 bI] [aT 184 15 (.slice p l.length c) l.length (aj fg l)] F
      (fun r L'=>r= .bool (u4 l[i] aH bI)∧L'=[aT 184 15 (.slice p l.length c) l.length (aj fg l)]):=by
  refine ay func359 ntmps359 ?_;unfold u4;by_cases h1:l[i].dc= -1
  ·by_cases h2:aH<l[i].gY
   ·rw [decide_eq_false (om),Bool.false_and];repeat first|refine gd ?_|intro _
    exact aM
   ·rw [decide_eq_true (om),Bool.true_and];by_cases h3:l[i].ah=2
    ·rw [if_pos h3];repeat first|refine gd ?_|intro _
     exact aM
    ·rw [if_neg h3];by_cases h4:aH=0
     ·by_cases h5:bI=1
      ·repeat first|refine gd ?_|intro _
       (apply ad rfl rfl ar;(first|exact cS|exact ⟨by simp [h4,h5]<;>omega,rfl⟩);exact bM)
      ·repeat first|refine gd ?_|intro _
       (apply ad rfl rfl ar;(first|exact cS|exact ⟨by simp [h4,h5]<;>omega,rfl⟩);exact bM)
     ·repeat first|refine gd ?_|intro _
      (apply ad rfl rfl ar;(first|exact cS|exact ⟨by simp [h4]<;>omega,rfl⟩);exact bM)
  ·rw [decide_eq_false (om),Bool.false_and];repeat first|refine gd ?_|intro _
   exact aM
end
section
theorem V5 {l:List bR} {i:Nat} (hi:i<l.length) (x:Int):aV (aj fg l) (i*15+2) [.int .i64 x]=aj fg (l.set i { l[i] with dc:=x}):=
  eR (enc:=fg) (n:=15) (fun _=>rfl) l i hi (j:=2) (cs:=[.int .i64 x]) (x:={ l[i] with dc:=x}) (by simp) rfl
theorem Ml {l:List bR} {i:Nat} (hi:i<l.length) (x:Int):aV (aj fg l) (i*15+3) [.int .i64 x]=aj fg (l.set i { l[i] with gY:=x}):=
  eR (enc:=fg) (n:=15) (fun _=>rfl) l i hi (j:=3) (cs:=[.int .i64 x]) (x:={ l[i] with gY:=x}) (by simp) rfl
theorem V6 {l:List bR} {i:Nat} (hi:i<l.length) (x:Int):aV (aj fg l) (i*15+4) [.int .i64 x]=aj fg (l.set i { l[i] with bI:=x}):=
  eR (enc:=fg) (n:=15) (fun _=>rfl) l i hi (j:=4) (cs:=[.int .i64 x]) (x:={ l[i] with bI:=x}) (by simp) rfl
theorem V7 {l:List bR} {i:Nat} (hi:i<l.length) (x:Words):aV (aj fg l) (i*15+5) (wc x)=aj fg (l.set i { l[i] with ag:=x}):=
  eR (enc:=fg) (n:=15) (fun _=>rfl) l i hi (j:=5) (cs:=wc x) (x:={ l[i] with ag:=x}) (by simp) rfl
theorem MG {l:List bR} {i:Nat} (hi:i<l.length) (x:Bool):aV (aj fg l) (i*15+13) [.bool x]=aj fg (l.set i { l[i] with granted:=x}):=
  eR (enc:=fg) (n:=15) (fun _=>rfl) l i hi (j:=13) (cs:=[.bool x]) (x:={ l[i] with granted:=x}) (by simp) rfl
theorem MH {l:List bR} {i:Nat} (hi:i<l.length) (x:Bool):aV (aj fg l) (i*15+14) [.bool x]=aj fg (l.set i { l[i] with oU:=x}):=
  eR (enc:=fg) (n:=15) (fun _=>rfl) l i hi (j:=14) (cs:=[.bool x]) (x:={ l[i] with oU:=x}) (by simp) rfl
def lB (l:List bR) (aa:Int):Int:=if dp l aa then (if (iR l aa).ah=1∨(iR l aa).dc=(iR l aa).gY then 7 else 0) else 5
def fW (l:List bR) (aa:Int):List bR:=if lB l aa=0 then l.set (nK l aa).toNat { iR l aa with gY:=(iR l aa).gY+1} else l
attribute [local irreducible] Exit.then Exit.inBlock Code.wp WC WO WE WQ V aW dL Sat bz bK dU IntKind.wrap WR Code.rounds WT KO
theorem Ql {F:List HP} {b:Nat} {ak:Int} {l:List bR} {aa:Int} (hg:∀ m∈l,-9223372036854775808≤m.gY∧m.gY≤9223372036854775806) :
    az prog 338 [.pointer (some ⟨b,0,none⟩),.int .i64 aa] [vO b ak l] F (fun r L'=>r= .int .i64 (lB l aa)∧L'=[vO b ak (fW l aa)]):=by
  refine ay func338 ntmps338 ?_;refine cC fun p c hl=>?_;have hO:=fun F=>sG (F:=F) (b:=b) (ak:=ak) (l:=l) (aa:=aa) (p:=p) (c:=c) (om);cases h:dp l aa with
  |false=>
   have e1:lB l aa=5:=by unfold lB;rw [h];rfl
   have e2:fW l aa=l:=by unfold fW;rw [e1];rfl
   rw [e1,e2];rw [h,if_neg Bool.false_ne_true] at hO;repeat first|refine gd ?_|intro _|refine ae @hO ?_
   (apply ad rfl rfl ar)
   ·exact ⟨rfl,rfl⟩
   ·(apply bC;(focus (exact af));all_goals exact bu)
  |true=>
   obtain ⟨i,hi,e0,ea,_⟩:=iT h;rw [if_pos h,e0,Int.toNat_natCast] at hO;have YD:=hg _ (List.getElem_mem hi);by_cases h1:l[i].ah=1
   ·have e1:lB l aa=7:=by unfold lB;rw [if_pos h,ea,if_pos (.inl h1)]
    have e2:fW l aa=l:=by unfold fW;rw [e1];rfl
    rw [e1,e2];repeat' (first|refine gd ?_|intro _|refine ae @hO ?_|refine bj ?_ ?_|fail)
    all_goals (apply ad rfl rfl ar)
    all_goals first|exact ⟨rfl,rfl⟩|(apply bC;(focus (exact af));all_goals exact bu)
   ·by_cases h2:l[i].dc=l[i].gY
    ·have e1:lB l aa=7:=by unfold lB;rw [if_pos h,ea,if_pos (.inr h2)]
     have e2:fW l aa=l:=by unfold fW;rw [e1];rfl
     rw [e1,e2];repeat' (first|refine gd ?_|intro _|refine ae @hO ?_|refine bj ?_ ?_|fail)
     all_goals (apply ad rfl rfl ar)
     all_goals first|exact ⟨rfl,rfl⟩|(apply bC;(focus (exact af));all_goals exact bu)
    ·have e1:lB l aa=0:=by unfold lB;rw [if_pos h,ea,if_neg (om)]
     have e2:fW l aa=l.set i { l[i] with gY:=l[i].gY+1}:=by unfold fW;rw [if_pos e1,e0,Int.toNat_natCast,ea]
     rw [e1,e2];repeat' (first|refine gd ?_|intro _|refine ae @hO ?_|refine bj ?_ ?_|fail)
     all_goals rw [Ml hi]
     all_goals (apply ad rfl rfl ar)
     all_goals first|exact ⟨rfl,rfl⟩|(rw [show l.length=(l.set i { l[i] with gY:=l[i].gY+1}).length by simp];(apply bC;(focus (exact af));all_goals exact bu))
end
section
attribute [local irreducible] Exit.then Exit.inBlock Code.wp WC WO WE WQ V aW dL Sat bz bK dU IntKind.wrap WR Code.rounds WT KO
theorem uR {Q P:Prop} (k:Q) (h:Hid Q→P:=by
  intro k
  first
  |(refine an ?_;apply nC (id:=6) .true [] (pl:= .p 0 <| .p 1 <| .p 2 <| .p 3 <| .p 4 <| .p 6 <| .p 7 <| .e true [(5,.e true [(8,.p 9 <| .p 10 <| .e false [(11,.p 12 <| .p 13 <| .e false [(14,.done)])])]),(8,.p 9 <| .p 10 <| .e false [(5,.e false [(11,.p 12 <| .p 13 <| .e false [(14,.done)])]),(11,.e false [(5,.p 12 <| .p 13 <| .e false [(14,.done)])])])]);exact mixed;kernel_rfl;kernel_rfl;exact ai.nil;exact k.out)):P:=h ⟨k⟩
theorem Fv {F:List HP} {b:Nat} {ak:Int} {l:List bR} {aa aH bI:Int} {w:Words} :
    az prog 336 [.pointer (some ⟨b,0,none⟩),.int .i64 aa,.int .i64 aH,.int .i64 bI,wv w] [vO b ak l] F (fun r L'=>r= .int .i64 (fm l aa aH bI)∧L'=[vO b ak (dw l aa aH bI w)]):=by
  refine ay func336 ntmps336 ?_;refine cC fun p c hl=>?_;have hO:=fun F=>sG (F:=F) (b:=b) (ak:=ak) (l:=l) (aa:=aa) (p:=p) (c:=c) (om);cases h:dp l aa with
  |false=>
   have e1:fm l aa aH bI=5:=by unfold fm;rw [h];rfl
   have e2:dw l aa aH bI w=l:=by unfold dw;rw [e1];rfl
   rw [e1,e2];rw [h,if_neg Bool.false_ne_true] at hO;repeat first|refine go ?_|intro _|refine uR ?_|refine av ?_|refine ae @hO ?_
   (apply ad rfl rfl ar)
   ·exact ⟨rfl,rfl⟩
   ·(apply bC;(focus (exact af));all_goals exact bu)
  |true=>
   obtain ⟨i,hi,e0,ea,_⟩:=iT h;rw [if_pos h,e0,Int.toNat_natCast] at hO;have hF:=fun F=>NJ (F:=F) (l:=l) (i:=i) (aH:=aH) (bI:=bI) (p:=p) (c:=c) hi (om);cases hf:u4 l[i] aH bI with
   |false=>
    rw [hf] at hF;have e1:fm l aa aH bI=7:=by unfold fm;rw [if_pos h,ea,hf];rfl
    have e2:dw l aa aH bI w=l:=by unfold dw;rw [e1];rfl
    rw [e1,e2];repeat first|refine go ?_|intro _|refine uR ?_|refine av ?_|refine ae @hO ?_|refine ae @hF ?_
    (apply ad rfl rfl ar)
    ·exact ⟨rfl,rfl⟩
    ·(apply bC;(focus (exact af));all_goals exact bu)
   |true=>
    rw [hf] at hF;have e1:fm l aa aH bI=0:=by unfold fm;rw [if_pos h,ea,hf];rfl
    have e2:dw l aa aH bI w=l.set i { l[i] with dc:=aH,bI:=bI,ag:=w}:=by unfold dw;rw [if_pos e1,e0,Int.toNat_natCast,ea]
    rw [e1,e2];have hs:∀ x y,i<((l.set i x).set i y).length:=fun x y=>by simpa using hi
    have O0:∀ x,i<(l.set i x).length:=fun x=>by simpa using hi
    repeat' (first|refine go ?_|intro _|refine uR ?_|refine av ?_|refine ae @hO ?_|refine ae @hF ?_|refine bj ?_ ?_|fail)
    all_goals simp only [V5,V6,V7,hi,hs,O0,List.set_set,List.getElem_set_self]
    all_goals (apply ad rfl rfl ar)
    all_goals first|exact ⟨rfl,rfl⟩|(rw [show l.length=(l.set i { l[i] with dc:=aH,bI:=bI,ag:=w}).length by simp];(apply bC;(focus (exact af));all_goals exact bu))
end
section
def l9 (l:List bR) (aa:Int):Bool:=dp l aa&& !(iR l aa).oU&& decide ((iR l aa).dc=(iR l aa).gY)
def fR (l:List bR) (aa:Int):bR:=if l9 l aa then iR l aa else .zero
def iz (l:List bR) (aa:Int):List bR:=if l9 l aa then l.set (nK l aa).toNat { iR l aa with oU:=true} else l
attribute [local irreducible] Exit.then Exit.inBlock Code.wp WC WO WE WQ V aW dL Sat bz bK dU IntKind.wrap WR Code.rounds WT KO
theorem Qm {F:List HP} {b:Nat} {ak:Int} {l:List bR} {aa:Int} :
    az prog 358 [.pointer (some ⟨b,0,none⟩),.int .i64 aa] [vO b ak l] F (fun r L'=>r= .tuple [O3 (fR l aa),.bool (l9 l aa)].toArray∧L'=[vO b ak (iz l aa)]):=by
  refine ay func358 ntmps358 ?_;refine cC fun p c hl=>?_;have hO:=fun F=>sG (F:=F) (b:=b) (ak:=ak) (l:=l) (aa:=aa) (p:=p) (c:=c) (om);cases h:dp l aa with
  |false=>
   have e1:l9 l aa=false:=by unfold l9;rw [h];rfl
   have e2:iz l aa=l:=by unfold iz;rw [e1];rfl
   have e3:fR l aa= .zero:=by unfold fR;rw [e1];rfl
   rw [e1,e2,e3];rw [h,if_neg Bool.false_ne_true] at hO;repeat' (first|refine gd ?_|intro _|refine ae @hO ?_|refine bj ?_ ?_|fail)
   all_goals (apply ad rfl rfl ar)
   all_goals first|exact ⟨rfl,rfl⟩|(apply bC;(focus (exact af));all_goals exact bu)
  |true=>
   obtain ⟨i,hi,e0,ea,_⟩:=iT h;rw [if_pos h,e0,Int.toNat_natCast] at hO;cases h1:l[i].oU with
   |true=>
    have e1:l9 l aa=false:=by unfold l9;rw [ea,h1];simp
    have e2:iz l aa=l:=by unfold iz;rw [e1];rfl
    have e3:fR l aa= .zero:=by unfold fR;rw [e1];rfl
    rw [e1,e2,e3];repeat' (first|refine gd ?_|intro _|refine ae @hO ?_|refine bj ?_ ?_|fail)
    all_goals (apply ad rfl rfl ar)
    all_goals first|exact ⟨rfl,rfl⟩|(apply bC;(focus (exact af));all_goals exact bu)
   |false=>
    by_cases h2:l[i].dc=l[i].gY
    ·have e1:l9 l aa=true:=by unfold l9;rw [h,ea,h1];simp [h2]
     have e2:iz l aa=l.set i { l[i] with oU:=true}:=by unfold iz;rw [if_pos e1,e0,Int.toNat_natCast,ea]
     have e3:fR l aa=l[i]:=by unfold fR;rw [if_pos e1,ea]
     rw [e1,e2,e3];repeat' (first|refine gd ?_|intro _|refine ae @hO ?_|refine bj ?_ ?_|fail)
     all_goals rw [MH hi]
     all_goals (apply ad rfl rfl ar)
     all_goals first|exact ⟨rfl,rfl⟩|(rw [show l.length=(l.set i { l[i] with oU:=true}).length by simp];(apply bC;(focus (exact af));all_goals exact bu))
    ·have e1:l9 l aa=false:=by unfold l9;rw [h,ea,h1];simp [h2]
     have e2:iz l aa=l:=by unfold iz;rw [e1];rfl
     have e3:fR l aa= .zero:=by unfold fR;rw [e1];rfl
     rw [e1,e2,e3];repeat' (first|refine gd ?_|intro _|refine ae @hO ?_|refine bj ?_ ?_|fail)
     all_goals (apply ad rfl rfl ar)
     all_goals first|exact ⟨rfl,rfl⟩|(apply bC;(focus (exact af));all_goals exact bu)
theorem KM {F:List HP} {b:Nat} {ak:Int} {l:List bR} :
    az prog 236 [.pointer (some ⟨b,0,none⟩)] [vO b ak l] F (fun r L'=>r= .tuple [.int .i64 (if 0≤gx l then (l.getD (gx l).toNat .zero).aa else 0),.bool (decide (0≤gx l))].toArray∧L'=[vO b ak l]):=by
  have Si:∀ F (p:Option Addr) (c:Nat),l.length≤4096→az prog 305 [.pointer (some ⟨b,0,none⟩),.func (.func 306) [].toArray [].toArray] [ao b 328 [.int .i64 ak,.slice p l.length c],aT 184 15 (.slice p l.length c) l.length (aj fg l)] F
   (fun r L'=>r= .int .i64 (gx l)∧L'=[ao b 328 [.int .i64 ak,.slice p l.length c],aT 184 15 (.slice p l.length c) l.length (aj fg l)]):=fun F p c hn=>by
    have hI:=fun F (k:bN F 15 (.slice p l.length c) l.length (aj fg l))=>nF (F:=F) (v:= .slice p l.length c) (l:=l) (fk:=306) (first:=[]) (cap:=[]) (p:=fun m=>m.oU) k (om) (fun x _=>Ii);refine ay func305 ntmps305 ?_;repeat first|refine gd ?_|intro _|refine ae @hI ?_
    (apply ad rfl rfl ar;(first|exact cS|exact ⟨by simp [gx]<;>omega,rfl⟩);exact bM)
  refine ay func236 ntmps236 ?_;refine cC fun p c hl=>?_;have hA:=fun F=>Si F p c (om);by_cases h:0≤gx l
  ·obtain ⟨i,hi,e0,_⟩:=fx h;have tQ:gx l=i:=e0;rw [if_pos h,decide_eq_true h];rw [tQ] at hA;rw [tQ,Int.toNat_natCast,←ia hi];repeat first|refine gd ?_|intro _|refine ae @hA ?_
   (apply ad rfl rfl ar)
   ·exact ⟨rfl,rfl⟩
   ·(apply bC;(focus (exact af));all_goals exact bu)
  ·have e0:gx l= -1:=(ix h).1;rw [if_neg h,decide_eq_false h];rw [e0] at hA;repeat first|refine gd ?_|intro _|refine ae @hA ?_
   (apply ad rfl rfl ar)
   ·exact ⟨rfl,rfl⟩
   ·(apply bC;(focus (exact af));all_goals exact bu)
end
section
theorem xD {α:Type} {q:α→Bool} {l:List α} {i:Nat} (hi:i<l.length) {x:α} (h:q x=q l[i]):bO q (l.set i x)=bO q l:=by
  have key:∀ j (hj:j<l.length),∀ PC:j<(l.set i x).length,q (l.set i x)[j]=q l[j]:=fun j hj PC=>by
    by_cases e:i=j
    ·subst e;rw [List.getElem_set_self,h]
    ·rw [List.getElem_set_ne e]
  by_cases hn:0≤bO q l
  ·obtain ⟨j,hj,e,h1,h2⟩:=fx hn;have PC:j<(l.set i x).length:=by rw [List.length_set];exact hj
   rw [e];refine eU PC (fun k hk bB=>?_) ?_
   ·rw [List.length_set] at hk;rw [key k hk];exact h2 k hk bB
   ·rw [key j hj];exact h1
  ·obtain ⟨e,h1⟩:=ix hn;rw [e];refine dr fun j hj _=>?_;rw [List.length_set] at hj;rw [key j hj];exact h1 _ (List.getElem_mem hj)
def dy (l:List bR) (aa aH:Int):List bR:=if fm l aa aH 4=0 then l.set (nK l aa).toNat { iR l aa with dc:=aH,bI:=4,ag:= .zero,granted:=true} else l
attribute [local irreducible] Exit.then Exit.inBlock Code.wp WC WO WE WQ V aW dL Sat bz bK dU IntKind.wrap WR Code.rounds WT KO
theorem KN {F:List HP} {b:Nat} {ak:Int} {l:List bR} {aa aH:Int} :
    az prog 337 [.pointer (some ⟨b,0,none⟩),.int .i64 aa,.int .i64 aH] [vO b ak l] F (fun r L'=>r= .int .i64 (fm l aa aH 4)∧L'=[vO b ak (dy l aa aH)]):=by
  have hD:=fun F=>Fv (F:=F) (b:=b) (ak:=ak) (l:=l) (aa:=aa) (aH:=aH) (bI:=4) (w:= .zero);refine ay func337 ntmps337 ?_;by_cases h:fm l aa aH 4=0
  ·have kH:dp l aa=true:=by
     cases e:dp l aa with
     |true=>rfl
     |false=>unfold fm at h;rw [e] at h;cases h
   obtain ⟨i,hi,e0,ea,el⟩:=iT kH;have e1:dw l aa aH 4 .zero=l.set i { l[i] with dc:=aH,bI:=4,ag:= .zero}:=by unfold dw;rw [if_pos h,e0,Int.toNat_natCast,ea]
   have e2:dy l aa aH=l.set i { l[i] with dc:=aH,bI:=4,ag:= .zero,granted:=true}:=by unfold dy;rw [if_pos h,e0,Int.toNat_natCast,ea]
   have e3:nK (l.set i { l[i] with dc:=aH,bI:=4,ag:= .zero}) aa=i:=by
     have h9:=xD (q:=fun m:bR=>decide (m.aa=aa)) (l:=l) (i:=i) (x:={ l[i] with dc:=aH,bI:=4,ag:= .zero}) hi rfl;exact h9.trans e0
   have e4:dp (l.set i { l[i] with dc:=aH,bI:=4,ag:= .zero}) aa=true:=by unfold dp;rw [e3];simp
   rw [h,e1] at hD;rw [h,e2];have sq:i<(l.set i { l[i] with dc:=aH,bI:=4,ag:= .zero}).length:=by rw [List.length_set];exact hi
   repeat first|refine gd ?_|intro _|refine ae @hD ?_
   (first|refine aD (vO b ak (l.set i { l[i] with dc:=aH,bI:=4,ag:= .zero})) ?_|refine aE (vO b ak (l.set i { l[i] with dc:=aH,bI:=4,ag:= .zero})) ?_|refine aF (vO b ak (l.set i { l[i] with dc:=aH,bI:=4,ag:= .zero})) ?_);refine lV fun p c hl=>?_;have hO:=fun F=>sG (F:=F) (b:=b) (ak:=ak) (l:=l.set i { l[i] with dc:=aH,bI:=4,ag:= .zero}) (aa:=aa) (p:=p) (c:=c) (om);rw [if_pos e4,e3,Int.toNat_natCast] at hO;repeat first|refine gd ?_|intro _|refine ae @hO ?_
   rw [MG sq];simp only [List.set_set,List.getElem_set_self];(apply ad rfl rfl ar)
   ·exact ⟨rfl,rfl⟩
   ·rw [show (l.set i { l[i] with dc:=aH,bI:=4,ag:= .zero}).length=(l.set i { l[i] with dc:=aH,bI:=4,ag:= .zero,granted:=true}).length by simp] at hl ⊢;(apply bC;(focus (exact af));all_goals exact bu)
  ·have e2:dy l aa aH=l:=if_neg h;have e1:dw l aa aH 4 .zero=l:=if_neg h;rw [e1] at hD;rw [e2];repeat first|refine gd ?_|intro _|refine ae @hD ?_
   exact aM
end
section
def kS (l:List bR) (aa:Int):Int:=if dp l aa then (if (iR l aa).oU then 0 else 7) else 5
def gy (l:List bR) (aa:Int):List bR:=if kS l aa=0 then l.eraseIdx (nK l aa).toNat else l
theorem KP {e:TypeId} {g n i cap:Nat} {xs spare:List Value} {M:List HP} (hi:i<n) (q1:xs.length=n*15) (q2:xs.all one=true) (h1:n≤cap) (h2:cap≤maxLen) (h3:spare.length=(cap-n)*15) :
    ai (ao g e (aV (xs++spare) (0+i*15) (List.take (min (n-(i+1)) (n-i)*15) (List.take ((n-(i+1))*15) (List.drop ((i+1)*15) xs))))::M)
      (aT e 15 (.slice (some ⟨g,0,none⟩) (n-1) cap) (n-1) (xs.take (i*15)++xs.drop ((i+1)*15))::M):=by
  have e1:List.take (min (n-(i+1)) (n-i)*15) (List.take ((n-(i+1))*15) (List.drop ((i+1)*15) xs))=List.drop ((i+1)*15) xs:=by
    rw [List.take_take,List.take_of_length_le (by rw [List.length_drop,q1];omega)]
  have e2:(List.drop ((i+1)*15) xs).length=(n-(i+1))*15:=by rw [List.length_drop,q1];omega
  rw [e1,Nat.zero_add];have hl:=dF (l:=xs++spare) (ys:=List.drop ((i+1)*15) xs) (o:=i*15) (by rw [List.length_append,e2];omega);refine lE (cap:=cap) ?_ (om) h2 ?_ ?_ ai.refl
  ·rw [hl,List.length_append,q1,h3];omega
  ·have:=rv (l:=xs++spare) (ys:=List.drop ((i+1)*15) xs) (o:=i*15) (by rw [List.length_append];omega);rw [e2,List.take_append_of_le_length (om)] at this;rw [←this];congr 1;omega
  ·rw [List.all_append,List.all_eq_true.2 fun u hu=>List.all_eq_true.1 q2 u (List.mem_of_mem_take hu),List.all_eq_true.2 fun u hu=>List.all_eq_true.1 q2 u (List.mem_of_mem_drop hu)];rfl
attribute [local irreducible] Exit.then Exit.inBlock Code.wp WC WO WE WQ V aW dL Sat bz bK dU IntKind.wrap WR Code.rounds WT KO
theorem Ij {F:List HP} {b:Nat} {aa:Int} {T:TypeId} {C:List Value→List HP} {m:bR} (k:bX b F T [.int .i64 aa] C) :
    az prog 308 [O3 m,.pointer (some ⟨b,0,none⟩)] [] F (fun r L'=>r= .bool (decide (m.aa=aa))∧L'=[]):=by
  refine ay func308 ntmps308 ?_;repeat first|refine gd ?_|intro _
  exact aM
theorem Qn {F:List HP} {b bl:Nat} {ak:Int} {l:List bR} {aa:Int} {p:Option Addr} {c:Nat} {C:List Value→List HP} (k1:bX bl F 3 [.int .i64 aa] C) (hn:l.length≤4096) :
    az prog 305 [.pointer (some ⟨b,0,none⟩),.func (.func 308) [].toArray [.pointer (some ⟨bl,0,none⟩)].toArray] [ao b 328 [.int .i64 ak,.slice p l.length c],aT 184 15 (.slice p l.length c) l.length (aj fg l)] F
      (fun r L'=>r= .int .i64 (nK l aa)∧L'=[ao b 328 [.int .i64 ak,.slice p l.length c],aT 184 15 (.slice p l.length c) l.length (aj fg l)]):=by
  have hI:=fun F (C:List Value→List HP) (PB:bX bl F 3 [.int .i64 aa] C) (k:bN F 15 (.slice p l.length c) l.length (aj fg l))=>
    nF (F:=F) (v:= .slice p l.length c) (l:=l) (fk:=308) (first:=[]) (cap:=[.pointer (some ⟨bl,0,none⟩)]) (p:=fun m=>decide (m.aa=aa)) k (om) (fun x _=>Ij PB)
  refine ay func305 ntmps305 ?_;repeat first|refine gd ?_|intro _|refine ae @hI ?_
  (apply ad rfl rfl ar;(first|exact cS|exact ⟨by simp [nK]<;>omega,rfl⟩);exact bM)
theorem mQ {Q P:Prop} (k:Q) (h:Hid Q→P:=by
  intro k
  first
  |(refine an ?_;refine bF (id:=7) .true (pl:= .p 0 <| .p 1 <| .p 2 <| .p 4 <| .p 6 <| .p 7 <| .p 8 <| .p 10 <| .p 11 <| .r 3 <| .p 5 <| .r 9 <| .p 12 <| .e true [(13,.done)]) k.out)
  |(refine an ?_;refine bF (id:=8) .true (pl:= .p 0 <| .p 1 <| .p 2 <| .p 3 <| .p 5 <| .p 6 <| .p 7 <| .r 4 <| .r 8 <| .p 9 <| .p 10 <| .p 11 <| .p 12 <| .p 13 <| .e true [(14,.done)]) k.out)):P:=h ⟨k⟩
theorem KQ {F:List HP} {b:Nat} {ak:Int} {l:List bR} {aa:Int} :
    az prog 237 [.pointer (some ⟨b,0,none⟩),.int .i64 aa] [vO b ak l] F (fun r L'=>r= .int .i64 (kS l aa)∧L'=[vO b ak (gy l aa)]):=by
  refine ay func237 ntmps237 ?_;refine cC fun p c hl=>?_;have hO:=fun F=>sG (F:=F) (b:=b) (ak:=ak) (l:=l) (aa:=aa) (p:=p) (c:=c) (om);have hA:=fun F (bl:Nat) (C:List Value→List HP) (k1:bX bl F 3 [.int .i64 aa] C)=>Qn (F:=F) (b:=b) (ak:=ak) (l:=l) (p:=p) (c:=c) k1 (om);cases h:dp l aa with
  |false=>
   have e1:kS l aa=5:=by unfold kS;rw [h];rfl
   have e2:gy l aa=l:=by unfold gy;rw [e1];rfl
   rw [e1,e2];rw [h,if_neg Bool.false_ne_true] at hO;repeat first|refine go ?_|intro _|refine mQ ?_|refine av ?_|refine ae @hO ?_
   (apply ad rfl rfl ar)
   ·exact ⟨rfl,rfl⟩
   ·(apply bC;(focus (exact af));all_goals exact bu)
  |true=>
   obtain ⟨i,hi,e0,ea,_⟩:=iT h;rw [if_pos h,e0,Int.toNat_natCast] at hO;rw [e0] at hA;cases ho:l[i].oU with
   |false=>
    have e1:kS l aa=7:=by unfold kS;rw [if_pos h,ea,ho];rfl
    have e2:gy l aa=l:=by unfold gy;rw [e1];rfl
    rw [e1,e2];repeat' (first|refine go ?_|intro _|refine mQ ?_|refine av ?_|refine ae @hO ?_|refine bj ?_ ?_|fail)
    all_goals (apply ad rfl rfl ar)
    all_goals first|exact ⟨rfl,rfl⟩|(apply bC;(focus (exact af));all_goals exact bu)
   |true=>
    have e1:kS l aa=0:=by unfold kS;rw [if_pos h,ea,ho];rfl
    have e2:gy l aa=l.eraseIdx i:=by unfold gy;rw [if_pos e1,e0,Int.toNat_natCast]
    rw [e1,e2];repeat first|refine go ?_|intro _|refine ae @hO ?_|refine ae @hA ?_
    (first|refine aD (aT 184 15 (.slice p l.length c) l.length (aj fg l)) ?_|refine aE (aT 184 15 (.slice p l.length c) l.length (aj fg l)) ?_|refine aF (aT 184 15 (.slice p l.length c) l.length (aj fg l)) ?_);refine Au (fun q1 q2 p0 tQ e1' e2'=>by omega) (fun q1 q2 g cap spare tQ k1 k2 k3=>?_);obtain ⟨rfl,rfl⟩:p=some ⟨g,0,none⟩∧c=cap:=by simpa using tQ
    repeat first|refine go ?_|intro _|refine mQ ?_|refine av ?_
    rw [show (i:Int)+1=((i+1:Nat):Int) from rfl];repeat first|refine go ?_|intro _|refine mQ ?_|refine av ?_
    rw [nD (l:=i) (om)];apply kO;rfl;exact tB.none;apply Mp;rfl;rfl;exact inferInstance;exact bN.cut (zV inferInstance q1 q2) (om) (Nat.le_refl _) k1;(simp only [List.length_append,q1,k3];omega);rfl;rfl;refine aU ?_;(refine ⟨by first|exact cc.free|exact cc.turns rfl|(refine cc.still ?_;exact bM;done),?_⟩);repeat first|refine go ?_|intro _|refine mQ ?_|refine av ?_
    rw [show (l.length:Int)-1=((l.length-1:Nat):Int) by omega];repeat first|refine go ?_|intro _|refine mQ ?_|refine av ?_
    rw [sD,Int.toNat_natCast];have hs:aV [Value.int .i64 ak,Value.slice (some ⟨g,0,none⟩) l.length c] 1 (cellsOf (Value.slice (some ⟨g,0,none⟩) (l.length-1) c))=[Value.int .i64 ak,Value.slice (some ⟨g,0,none⟩) (l.length-1) c]:=rfl;rw [hs];(apply ad rfl rfl ar)
    ·exact ⟨rfl,rfl⟩
    ·refine ai.trans (KP hi q1 q2 k1 k2 k3) ?_;apply bC
     ·exact af
     ·rw [List.length_eraseIdx,if_pos hi]
     ·rw [iY (enc:=fg) (n:=15) (fun _=>rfl),gn (enc:=fg) (n:=15) (fun _=>rfl),←aJ,←List.eraseIdx_eq_take_drop_succ]
     ·have:=List.length_eraseIdx_le l i;omega
end
section
attribute [local irreducible] Exit.then Exit.inBlock Code.wp WC WO WE WQ V aW dL Sat bz bK dU IntKind.wrap WR Code.rounds WT KO
abbrev cW (b:Nat) (ak:Int) (l:List bR):HP:=RL 174 185 15 fg b ak l
theorem KR {F:List HP} {ak:Int} (h:1≤ak∧ak≤8):az prog 174 [.int .i64 ak] [] F (fun r L'=>∃ b,r= .tuple [.pointer (some ⟨b,0,none⟩),.int .i64 0].toArray∧L'=[cW b ak []]):=by
  refine ay func174 ntmps174 ?_;repeat first|refine gd ?_|intro _
  (apply ad rfl rfl ar)
  ·exact ⟨_,rfl,rfl⟩
  ·exact bC (l:=[]) (ai.cons (aI ai.refl)) rfl rfl (by simp;omega)
theorem ko {F:List HP} {b:Nat} {ak aa:Int} {l:List bR} {p:Option Addr} {c:Nat} (hn:l.length≤4096) :
    az prog 217 [.pointer (some ⟨b,0,none⟩),.int .i64 aa] [ao b 174 [.int .i64 ak,.slice p l.length c],aT 185 15 (.slice p l.length c) l.length (aj fg l)] F
      (fun r L'=>r= .int .i64 (nK l aa)∧L'=[ao b 174 [.int .i64 ak,.slice p l.length c],aT 185 15 (.slice p l.length c) l.length (aj fg l)]):=by
  refine ay func217 ntmps217 ?_;repeat first|refine gd ?_|intro _
  apply aO (E0:=[(0,_),(1,_)]) (fun E0 (i:Nat)=>(5,.int .i64 i)::E0) (fun _=>ao b 174 [.int .i64 ak,.slice p l.length c]::aT 185 15 (.slice p l.length c) l.length (aj fg l)::F) (fun i=>i≤l.length∧∀ j (h:j<l.length),j<i→decide (l[j].aa=aa)=false) (fun i=>l.length-i) 0
  ·exact bH
  ·exact ⟨om,fun j _ hj=>by omega⟩
  ·exact af
  ·rintro i ⟨hi,h1⟩;by_cases bB:i<l.length
   ·by_cases h2:l[i].aa=aa
    ·repeat first|refine gd ?_|intro _
     (apply ad rfl rfl ar)
     ·exact ⟨by unfold nK;rw [eU bB h1 (decide_eq_true h2)];rfl,rfl⟩
     ·exact af
    ·repeat first|refine gd ?_|intro _
     refine aC (i+1) (om) ⟨om,fun j hj rp=>?_⟩ ?_ ?_
     ·by_cases e:j=i
      ·subst e;exact decide_eq_false h2
      ·exact h1 j hj (om)
     ·exact bH
     ·exact af
   ·have kM:i=l.length:=by omega
    subst kM;repeat first|refine gd ?_|intro _
    (apply ad rfl rfl ar)
    ·exact ⟨by unfold nK;rw [dr h1];rfl,rfl⟩
    ·exact af
end
end Go.Sx
