/- Range, Goto, Read, Read2, Read3: several of my texts as one. My own work. -/
import Derived.RangeFuncIn
import Derived.RangeFuncLeaves
import Derived.RangeFuncRecord
import Derived.RangeFuncSeq
import Derived.TacticsIn
import Derived.ScopeJumps
import Derived.Test.YtjihlpjnebdiiabGreatData
import Derived.Carry
import Derived.ChangeOld
import Derived.OpenShut
import Derived.ProofKit
import Derived.WalkKit
import Derived.SizedLaws
set_option linter.unusedVariables false
set_option linter.unusedSectionVars false
set_option linter.unusedSimpArgs false
set_option maxRecDepth 100000
set_option maxHeartbeats 4000000
namespace Go.Sx
open Go Go.Proofs
section
open Go
inductive ke:Fence→Prop
  |wide:ke Fence.wide
  |round (l:Nat):ke (Fence.wide.inRound l)
theorem ke.fn {F:Fence} (h:ke F) (f:FuncId):F.fn f:=by cases h<;>trivial
theorem ke.depth {F:Fence} (h:ke F):F.depth=none:=by cases h<;>rfl
theorem ke.calls {F:Fence} (h:ke F) {n:Nat} {P:Program} {f:FuncId} {args:Array Value} {w:World} {R:Ending→World→Prop} (k:Calls P f args w R):CallsIn F n P f args w R:=by
  cases h
  ·exact callsIn_wide.2 k
  ·exact (callsIn_wide (n:=n)).2 k
theorem ke.rows {F:Fence} (h:ke F) {n:Nat} {P:Program} {r:String} {args:Array Value} {w:World} {R:Value→World→Prop} (k:Rows P r args w R):RowsIn F n P r args w R:=by
  cases h
  ·exact fun c cs _=>let ⟨v,w',hR,hs⟩:=k c cs;⟨v,w',hR,stepsIn_wide.2 hs⟩
  ·exact fun c cs _=>let ⟨v,w',hR,hs⟩:=k c cs;⟨v,w',hR,stepsIn_wide.2 hs⟩
abbrev bare (a:Act):Act:={ a with defers:=[]}
section
variable (F:Fence) (P:Program) (N:Nat) (ds:List Deferred)
def WM (c:Code) (env:Env) (L:List HP) (Q:Exit→Act→World→Prop):Prop:=∀ a w,du N env (bare a)→a.defers=ds→Sat L w→c.wpIn F 0 P Q a w
def zH (e:Exit) (env:Env) (L:List HP) (Q:Exit→Act→World→Prop):Prop:=∀ a w,du N env (bare a)→a.defers=ds→Sat L w→Q e a w
def E1 (all:Array Oper) (todo:List Oper) (env:Env) (L:List HP) (Q:Exit→Act→World→Prop):Prop:=∀ a w,du N env (bare a)→a.defers=ds→Sat L w→wpListIn F 0 P all Q todo a w
end
section
variable {F:Fence} {P:Program} {N:Nat} {ds:List Deferred} {env:Env} {L:List HP} {Q:Exit→Act→World→Prop}
theorem Mu {x y:Code} (h:WM F P N ds x env L (Exit.then (y.wpIn F 0 P Q) Q)):WM F P N ds (.seq x y) env L Q:=fun a w ha hd hw=>wpIn_seq (h a w ha hd hw)
theorem Jm (h:zH N ds .normal env L Q):WM F P N ds .skip env L Q:=fun a w ha hd hw=>wpIn_skip (h a w ha hd hw)
theorem Mv (h:zH N ds .ret env L Q):WM F P N ds .ret env L Q:=fun a w ha hd hw=>wpIn_ret (h a w ha hd hw)
theorem Fb {id:Nat} {c:Code} (h:WM F P N ds c env L (Exit.inBlock id Q)):WM F P N ds (.block id c) env L Q:=fun a w ha hd hw=>wpIn_block (h a w ha hd hw)
theorem CT {id:Nat} {ops:List Oper} (h:E1 F P N ds ops.toArray ops env L Q):WM F P N ds (.region id ops.toArray false) env L Q:=fun a w ha hd hw=>wpIn_region_lit (h a w ha hd hw)
theorem vp (a:Act) (x:Operand):(bare a).eval x=a.eval x:=by cases x<;>rfl
theorem Fc {y:Code} {Q':Exit→Act→World→Prop} (h:WM F P N ds y env L Q):zH N ds .normal env L (Exit.then (y.wpIn F 0 P Q) Q'):=h
theorem zd {y:Code} {Q':Exit→Act→World→Prop} (h:WM Fence.wide P N ds y env L Q):zH N ds .normal env L (Exit.then (y.wp P Q) Q'):=fun a w ha hd hw=>wpIn_wide.1 (h a w ha hd hw)
theorem xw {K:Act→World→Prop} (h:zH N ds .ret env L Q):zH N ds .ret env L (Exit.then K Q):=h
theorem CU {id:Nat} (h:zH N ds .normal env L Q):zH N ds .normal env L (Exit.inBlock id Q):=h
theorem vX {id:Nat} (h:zH N ds .ret env L Q):zH N ds .ret env L (Exit.inBlock id Q):=h
theorem qS {all:Array Oper} (h:zH N ds .normal env L Q):E1 F P N ds all [] env L Q:=h
theorem uw {all:Array Oper} {o:List Oper} {M:List HP} (e:ai L M) (h:E1 F P N ds all o env M Q):E1 F P N ds all o env L Q:=fun a w ha hd hw=>h a w ha hd (e.gX hw)
theorem H8 {c:Exit} {M:List HP} (e:ai L (ja False::M)):zH N ds c env L Q:=fun a w ha hd hw=>(fc (e.gX hw)).elim
theorem Kw {c:Code} {M:List HP} (e:ai L (ja False::M)):WM F P N ds c env L Q:=fun a w ha hd hw=>(fc (e.gX hw)).elim
theorem ze {r:Option Nat} {ρ:Operand→Value} {o:Oper} (h:∀ c,o.op≠ .defer c):Oper.semAt r ρ o=execOp ρ o:=by
  cases r with
  |none=>exact Oper.semAt_none ρ o
  |some l=>exact Oper.semAt_some l ρ o h
theorem HA {op:Op} {ty:TypeId} {pos:String} {c9:Array Edge} {d:Nat} {all:Array Oper} {rest:List Oper} {v:Value} (hF:ke F)
    (h:V P N op ty env L v) (hd:Nat.blt d N=true) (OZ:∀ c,op≠ .defer c) (k:E1 F P N ds all rest ((d,v)::env) L Q):E1 F P N ds all (⟨some d,op,ty,pos,c9,none⟩::rest) env L Q:=by
  intro a w ha Sd hw;have h1:=h (bare a) w ha hw;have e:(bare a).eval=a.eval:=funext (vp a);rw [e] at h1;simp only [wpListIn,Region.wanted,if_true,Oper.wpIn];refine ⟨fun f _=>hF.fn f,?_⟩;rw [ze OZ,cY,h1,Oper.uponIn_value];exact k _ w (ha.put hd v) Sd hw
theorem RQ {o:Oper} {all:Array Oper} {rest:List Oper} {post:Env→List HP→Prop} (hF:ke F) (hg:o.guard=none) (OZ:∀ c,o.op≠ .defer c) (h:KO P N o env L post)
    (next:∀ e' L',post e' L'→E1 F P N ds all rest e' L' Q):E1 F P N ds all (o::rest) env L Q:=by
  intro a w ha Sd hw;have h1:=h (bare a) w ha hw (fun a' w'=>∃ e' L',post e' L'∧du N e' a'∧Sat L' w') (fun _ _ _=>False) (fun e' L' a' w' hp Ej Ct=>⟨e',L',hp,Ej,Ct⟩);have e:(bare a).eval=a.eval:=funext (vp a);simp only [wpListIn,Region.wanted,hg,if_true,Oper.wpIn];refine ⟨fun f _=>hF.fn f,?_⟩;rw [ze OZ];unfold Oper.wp at h1;rw [e] at h1;have fin:∀ v w',(∃ e' L',post e' L'∧du N e' ((bare a).put o.dst v)∧Sat L' w')→wpListIn F 0 P all Q rest (a.put o.dst v) w':=by
    rintro v w' ⟨e',L',hp,Ej,Ct⟩;refine next e' L' hp _ w' ?_ ?_ Ct
    ·have:bare (a.put o.dst v)=(bare a).put o.dst v:=by cases o.dst<;>rfl
     rw [this];exact Ej
    ·have:(a.put o.dst v).defers=a.defers:=by cases o.dst<;>rfl
     rw [this];exact Sd
  generalize (execOp a.eval o).run P w=r at h1 ⊢;cases r with
  |ok n w'=>
   cases n<;>simp only [Oper.upon] at h1;case value=>exact fin _ _ h1
   case skip=>exact fin _ _ h1
   case defer d=>
     obtain ⟨e',L',_,Ej,_⟩:=h1;have:=Ej.defers;cases hd:o.dst<;>simp [Act.put,hd] at this
   case enter=>
     refine ⟨(fun hh=>by rw [hF.depth] at hh;cases hh),hF.calls (h1.mono fun e2 w2 hR=>?_)⟩;cases e2 with
     |returned v=>exact fin _ _ hR
     |panicked c=>exact hR.elim
     |outgrown=>obtain ⟨_,_,hh⟩:=hR;exact hh.elim
   case row=>exact ⟨(fun hh=>by rw [hF.depth] at hh;cases hh),hF.rows (h1.mono fun v w2 hR=>fin _ _ hR)⟩
  |halt x w'=>cases x<;>simp only [Oper.upon] at h1
end
abbrev DJ (D:Nat):Deferred:={ target:= .collected D,args:= #[]}
theorem mN {b:Nat} {o o':Obj} {L:List HP} {w:World} (h:Sat (il b o::L) w):Sat (il b o'::L) (w.putObj b o'):=by
  have hb:=qP h;have bB:b<w.heap.size:=(Array.getElem?_eq_some_iff.1 hb).1;exact qN (b:=b) (o:=o') (il b o') (fun h hp=>⟨_,hp.pf⟩) (fun h e=>⟨e⟩) (World.putObj_heap_same bB) (fun k hk=>World.putObj_heap_other hk) rfl rfl rfl h
def Yields (P:Program) (l:Nat) (v:Value) (A B C:List HP):Prop:=
  ∀ F w,Sat (eX A F) w→YieldAt Fence.wide 0 P l #[v] w (fun e w'=>(e= .returned (.bool true)∧Sat (eX B F) w')∨(e= .returned (.bool false)∧Sat (eX C F) w'))
theorem Jn {A B F:List HP} (h:ai A B):ai (eX A F) (eX B F):=fun x hx=>by
  rw [vJ] at hx ⊢;obtain ⟨S,T,d,h1,h2⟩:=mm hx;exact lu d (h _ h1) h2
def Seq (P:Program) (gf:FuncId) (cap:List Value) (pre:List HP) (xs:List Value):Prop:=
  ∀ (l:Nat) (A:Nat→List HP) (C:List HP),(∀ i (h:i<xs.length),Yields P l xs[i] (eX pre (A i)) (eX pre (A (i+1))) C)→
    ∀ w,Sat (eX pre (A 0)) w→Calls P gf (.func (.yield l) #[] #[]::cap).toArray w (fun e w'=>(∃ v,e= .returned v)∧(Sat (eX pre (A xs.length)) w'∨(0<xs.length∧Sat C w')))
theorem r9 {x:HP}:∀ {pre L:List HP},ai (eX pre (x::L)) (x::eX pre L)
  | [],_=>ai.refl
  |_::r,_=>ai.trans (ai.cons (r9 (pre:=r))) (fun _ h=>kE h)
theorem tV {x:HP}:∀ {pre L:List HP},ai (x::eX pre L) (eX pre (x::L))
  | [],_=>ai.refl
  |_::r,_=>ai.trans (fun _ h=>kE h) (ai.cons (tV (pre:=r)))
theorem nl {A B:List HP}:ai (eX A B) (eX B A):=fun x hx=>by
  rw [vJ] at hx ⊢;obtain ⟨S,T,d,h1,h2⟩:=mm hx;exact lu (fun b a c=>d b c a) h2 h1
section
variable {P:Program} {N:Nat} {env:Env} {L:List HP} {Q:Exit→Act→World→Prop}
theorem yh {a:Act} (h:a.defers=[]):bare a=a:=by cases a;simp at h;subst h;rfl
theorem yi {f x:Operand} {ats:Array TypeId} {l:Nat} {v:Value} {A B C F:List HP} {ty:TypeId} {pos:String} {c9:Array Edge} {d:Nat} {all:Array Oper} {rest:List Oper}
    (hf:ev env f=some (.func (.yield l) #[] #[])) (hx:ev env x=some v) (hd:Nat.blt d N=true) (hy:Yields P l v A B C) (he:ai L (eX A F))
    (k1:E1 Fence.wide P N [] all rest ((d,.bool true)::env) (eX B F) Q) (k2:E1 Fence.wide P N [] all rest ((d,.bool false)::env) (eX C F) Q) :
    E1 Fence.wide P N [] all (⟨some d,.call ⟨.value f, #[x],ats⟩,ty,pos,c9,none⟩::rest) env L Q:=by
  intro a w hA Sd hw;have e1:a.eval f= .func (.yield l) #[] #[]:=by rw [←vp];exact hA.ev hf
  have e2:a.eval x=v:=by rw [←vp];exact hA.ev hx
  obtain ⟨fn,tmps,assign,body,J0,ZW⟩:=hy F w (he.gX hw);simp only [wpListIn,Region.wanted,if_true,Oper.wpIn];refine ⟨fun _ _=>trivial,?_⟩;rw [Fence.wide_round,Oper.semAt_none];have hx:(execOp a.eval ⟨some d,.call ⟨.value f, #[x],ats⟩,ty,pos,c9,none⟩).run P w= .ok (.round l fn tmps assign body) w:=by
    simp only [execOp,resolve,Sem.run_bind,Deferred.ofValue,e1,Sem.run_pure,Result.andThen_ok,invoke];rw [←J0];congr 2;simp [e2]
  rw [hx,Oper.uponIn_round];refine ⟨(fun hh=>by cases hh),ZW.mono fun e w' hR=>?_⟩;rcases hR with ⟨rfl,h⟩|⟨rfl,h⟩
  ·exact k1 _ w' (hA.put hd _) Sd h
  ·exact k2 _ w' (hA.put hd _) Sd h
theorem wm {id:Nat} {ops:List Oper} (h:E1 Fence.wide P N [] ops.toArray ops env L Q):WC P N (.region id ops.toArray false) env L Q:=
  fun a w ha hw=>wpIn_wide.1 (wpIn_region_lit (n:=0) (h a w (by rw [yh ha.defers];exact ha) ha.defers hw))
theorem ux {e:Exit} (h:WE N e env L Q):zH N [] e env L Q:=fun a w ha hd hw=>h a w (by rw [←yh hd];exact ha) hw
structure Mk (r:LoopState→Option Code→Loop):Prop where
  pf:∃ fn tmps params assign body defers,r=fun st pe=>{ state:=st,pending:=pe,fn,tmps,params,assign,body,defers}
def AN (l:Nat) (r:LoopState→Option Code→Loop) (B C:List HP):Exit→Act→World→Prop
  | .normal,_,w=>Sat (il l (.loop (r .busy none))::B) w
  | .ret,_,w=>Sat (il l (.loop (r .busy none))::C) w
  |_,_,_=>False
theorem Nt {l:Nat} {r:LoopState→Option Code→Loop} {B C:List HP} (e:ai L (il l (.loop (r .busy none))::C)):zH N [] .ret env L (AN l r B C):=fun _ _ _ _ hw=>e.gX hw
def Hj (P:Program) (l:Nat) (body:Code) (Q:Exit→Act→World→Prop):Exit→Act→World→Prop:=
  Exit.then (fun a w=>∃ w2,(Instr.beginRound l).run P w= .ok () w2∧body.wpIn (Fence.wide.inRound l) 0 P Q a w2) (fun _ _ _=>False)
theorem Kx {l:Nat} {r:LoopState→Option Code→Loop} {body:Code} (hr:Mk r) (h:WM (Fence.wide.inRound l) P N [] body env (il l (.loop (r .busy none))::L) Q) :
    zH N [] .normal env (il l (.loop (r .ready none))::L) (Hj P l body Q):=by
  obtain ⟨fn,tmps,params,assign,Zd,defers,rfl⟩:=hr.pf;intro a w ha hd hw;exact ⟨_,run_beginRound (qP hw) rfl,h a _ ha hd (mN hw)⟩
theorem CV {o:Obj} {w:World} (h:Sat L w):Sat (il w.heap.size o::L) (w.alloc o):=DU (il w.heap.size o) (fun h e=>⟨e⟩) h
theorem EC {g:Operand} {p:Tmp} {assign body:Code} {gf:FuncId} {cap:List Value} {pre:List HP} {xs:List Value} (J:Nat→List HP) (Jx:List HP)
    (hg:ev env g=some (.func (.func gf) #[] cap.toArray)) (he:sk P gf) (XL:Seq P gf cap pre xs) (hL:ai L (eX pre (J 0))) (hp:Nat.blt p N=true)
    (S2:∀ l r D F i (hi:i<xs.length),Mk r→WM (Fence.wide.inRound l) P N [] assign ((p,xs[i])::env) (il l (.loop (r .ready none))::il D (.deferred (some []))::eX (eX pre (J i)) F)
      (Hj P l body (AN l r (il D (.deferred (some []))::eX (eX pre (J (i+1))) F) (il D (.deferred (some []))::eX Jx F))))
    (V2:∀ D,zH N [DJ D] .normal env (il D (.deferred (some []))::eX pre (J xs.length)) Q)
    (V3:∀ D,0<xs.length→zH N [DJ D] .ret env (il D (.deferred (some []))::Jx) Q):WC P N (.rangeFunc g #[p] assign body) env L Q:=by
  intro a w ha hw;refine (wpIn_wide (n:=0)).1 (wpIn_rangeFunc ?_);intro fn _;have ZX:a.eval g= .func (.func gf) #[] cap.toArray:=ha.ev hg;obtain ⟨rec,AC⟩:∃ rec:LoopState→Option Code→Loop,rec=fun st pe=>{ state:=st,pending:=pe,fn,tmps:=a.tmps,params:= #[p],assign,body,defers:=w.heap.size}:=⟨_,rfl⟩;have ZY:Mk rec:=⟨_,_,_,_,_,_,AC⟩;have O0:=CV (o:= .deferred (some [])) hw;have Yw:=CV (o:= .loop (rec .ready none)) O0;rw [World.size_alloc] at Yw;have Se:=ha.defers;have RR:∀ ds,bare { a with defers:=ds}=a:=fun ds=>by cases a;simp at Se;subst Se;rfl
  refine ⟨w.heap.size+1,[DJ w.heap.size],(w.alloc (.deferred (some []))).alloc (.loop (rec .ready none)),{ target:= .fn (.func gf) cap.toArray,args:= #[.func (.yield (w.heap.size+1)) #[] #[]]},(w.alloc (.deferred (some []))).alloc (.loop (rec .ready none)),gf,
    (.func (.yield (w.heap.size+1)) #[] #[]::cap).toArray,(w.alloc (.deferred (some []))).alloc (.loop (rec .ready none)),?_,?_,fun _ _=>trivial,?_,(fun hh=>by cases hh),?_⟩
  ·rw [AC];exact run_enterLoop_outer _ _ _ _ _
  ·simp only [resolve,ZX];simp [go_sem]
  ·simp only [invoke];rw [he];congr 2;apply Array.ext';simp
  ·refine callsIn_wide.2 ((XL (w.heap.size+1) (fun i=>il (w.heap.size+1) (.loop (rec .ready none))::il w.heap.size (.deferred (some []))::J i)
     (il (w.heap.size+1) (.loop (rec .done (some .ret)))::il w.heap.size (.deferred (some []))::Jx) ?_ _ ?_).mono ?_)
   ·intro i hi F W hW;have Yx:Sat (il (w.heap.size+1) (.loop (rec .ready none))::il w.heap.size (.deferred (some []))::eX (eX pre (J i)) F) W:=(Jn (ai.trans r9 (ai.cons r9))).gX hW;have hl:=qP Yx;have hy:=run_yield (P:=P) (args:= #[xs[i]]) hl (by rw [AC];rfl);rw [AC] at hy;refine ⟨fn,_,assign,body,hy,roundIn_of_wpIn trivial ?_⟩;have ZZ:du N ((p,xs[i])::env) (bare { tmps:=(#[p].zip #[xs[i]]).foldl (fun tmps (t,a)=>tmps.setIfInBounds t a) a.tmps,defers:=[]}):=by
      have:=ha.put hp xs[i];have e:a.put (some p) xs[i]={ tmps:=(#[p].zip #[xs[i]]).foldl (fun tmps (t,a)=>tmps.setIfInBounds t a) a.tmps,defers:=[]}:=by
        simp [Act.put,Se]
      rw [←e];have e2:bare (a.put (some p) xs[i])=a.put (some p) xs[i]:=yh (by simp [Act.put,Se]);rw [e2];exact this
    refine wpIn_mono (S2 _ rec w.heap.size F i hi ZY _ W ZZ rfl Yx) ?_;intro e a1 w1 h1;cases e with
    |normal=>
     obtain ⟨w2,hb,Mj⟩:=h1;refine ⟨w2,hb,wpIn_mono Mj ?_⟩;intro e a2 w3 h3;cases e with
     |normal=>
      have h4:Sat (il (w.heap.size+1) (.loop (rec .busy none))::il w.heap.size (.deferred (some []))::eX (eX pre (J (i+1))) F) w3:=h3;have hl:=qP h4;have h5:=mN (o':= .loop { rec .busy none with state:= .ready,pending:=none}) h4;refine ⟨_,_,run_endRound none hl,.inl ⟨rfl,?_⟩⟩;rw [AC] at h5 ⊢;exact (Jn (ai.trans (ai.cons tV) tV)).gX h5
     |ret=>
      have h4:Sat (il (w.heap.size+1) (.loop (rec .busy none))::il w.heap.size (.deferred (some []))::eX Jx F) w3:=h3;have hl:=qP h4;have h5:=mN (o':= .loop { rec .busy none with state:= .done,pending:=some .ret}) h4;refine ⟨_,_,run_endRound (some .ret) hl,.inr ⟨rfl,?_⟩⟩;rw [AC] at h5 ⊢;exact h5
     |exit id=>exact h3.elim
     |goto t=>exact h3.elim
     |panic c=>exact h3.elim
     |outgrown=>exact h3.elim
    |ret=>exact h1
    |exit id=>exact h1
    |goto t=>exact h1
    |panic c=>exact h1
    |outgrown=>exact h1
   ·exact (ai.trans (ai.cons (ai.cons hL)) (ai.trans (ai.cons tV) tV)).gX Yw
   ·rintro e W2 ⟨⟨v,rfl⟩,h|⟨h0,h⟩⟩
    ·have h2:Sat (il (w.heap.size+1) (.loop (rec .ready none))::il w.heap.size (.deferred (some []))::eX pre (J xs.length)) W2:=(ai.trans r9 (ai.cons r9)).gX h;have hl:=qP h2;have h5:=mN (o':= .loop { rec .ready none with state:= .exhausted}) h2;refine ⟨none,_,?_,V2 w.heap.size _ _ (by rw [RR];exact ha) (by simp [Se]) (ai.drop ai.refl |>.gX h5)⟩;have:=run_endLoop (P:=P) hl (by rw [AC];simp);rw [AC] at this ⊢;exact this
    ·have hl:=qP h;have h5:=mN (o':= .loop { rec .done (some .ret) with state:= .exhausted}) h;refine ⟨some .ret,_,?_,wpIn_ret (V3 w.heap.size h0 _ _ (by rw [RR];exact ha) (by simp [Se]) (ai.drop ai.refl |>.gX h5))⟩;have:=run_endLoop (P:=P) hl (by rw [AC];simp);rw [AC] at this ⊢;exact this
def SF (P:Program) (fn:Func) (pre:List HP) (A:Nat→List HP) (C:List HP) (n:Nat):Exit→Act→World→Prop:=
  bodyPost P fn (fun e w'=>(∃ v,e= .returned v)∧(Sat (eX pre (A n)) w'∨(0<n∧Sat C w')))
theorem Seq.mk {f:FuncId} {fn:Func} {c:Code} {N:Nat} {cap:List Value} {pre:List HP} {xs:List Value} (hf:P.funcs[f]? =some fn) (hb:fn.body=some c) (hN:fn.ntmps=N) (hv:Nat.ble (cap.length+1) N=true)
    (h:∀ l A C,(∀ i (h:i<xs.length),Yields P l xs[i] (eX pre (A i)) (eX pre (A (i+1))) C)→WC P N c (ya 0 (.func (.yield l) #[] #[]::cap)) (eX pre (A 0)) (SF P fn pre A C xs.length)):Seq P f cap pre xs:=by
  intro l A C hy w hw;refine calls_of_wp hf hb ?_;have hle:(Value.func (.yield l) #[] #[]::cap).length≤N:=by simpa using hv
  refine h l A C hy _ w ⟨?_,rfl,fun t v e=>?_⟩ hw
  ·simp [hN];simp at hle;omega
  ·obtain ⟨_,h2⟩:=vj _ 0 t v e;have ht:t<(Value.func (.yield l) #[] #[]::cap).length:=(List.getElem?_eq_some_iff.1 h2).1;rw [Array.getD_eq_getD_getElem?,Array.getElem?_append_left (by simpa using ht)];simp at h2;simp [h2]
theorem xx {fn:Func} (h:fn.results.toList=[]) (tmps:Array Value) (w:World):∃ v,(results fn tmps).run P w= .ok v w:=by
  rw [wg,Array.mapM_eq_mapM_toList,h];exact ⟨_,rfl⟩
theorem Gn {fn:Func} {pre:List HP} {A:Nat→List HP} {C:List HP} {n:Nat} {e:Exit} (he:(match e with| .normal=>true| .ret=>true|_=>false)=true) (pS:fn.results.toList=[]) (h:ai L (eX pre (A n))):WE N e env L (SF P fn pre A C n):=by
  intro a w ha hw;obtain ⟨v,hr⟩:=xx (P:=P) pS a.tmps w;have fin:a.defers=[]∧∃ v,(results fn a.tmps).run P w= .ok v w∧((∃ u,Ending.returned v= .returned u)∧(Sat (eX pre (A n)) w∨(0<n∧Sat C w))):=⟨ha.defers,v,hr,⟨v,rfl⟩,.inl (h.gX hw)⟩;cases e with
  |normal=>exact fin
  |ret=>exact fin
  |_=>simp at he
theorem uP {fn:Func} {pre:List HP} {A:Nat→List HP} {C:List HP} {n:Nat} {e:Exit} (he:(match e with| .normal=>true| .ret=>true|_=>false)=true) (pS:fn.results.toList=[]) (hn:0<n) (h:ai L C):WE N e env L (SF P fn pre A C n):=by
  intro a w ha hw;obtain ⟨v,hr⟩:=xx (P:=P) pS a.tmps w;have fin:a.defers=[]∧∃ v,(results fn a.tmps).run P w= .ok v w∧((∃ u,Ending.returned v= .returned u)∧(Sat (eX pre (A n)) w∨(0<n∧Sat C w))):=⟨ha.defers,v,hr,⟨v,rfl⟩,.inr ⟨hn,h.gX hw⟩⟩;cases e with
  |normal=>exact fin
  |ret=>exact fin
  |_=>simp at he
def SG (P:Program) (fn:Func) (post:Value→List HP→Prop) (F:List HP):Exit→Act→World→Prop:=
  bodyPostM Fence.wide 0 P fn (fun e w'=>∃ v L',e= .returned v∧post v L'∧Sat (eX L' F) w')
theorem az.Z0 {f:FuncId} {fn:Func} {c:Code} {N:Nat} {vs:List Value} {pre F:List HP} {post:Value→List HP→Prop}
    (hf:P.funcs[f]? =some fn) (hb:fn.body=some c) (hn:(fn.name == "runtime.NumGoroutine")=false) (hN:fn.ntmps=N) (hv:Nat.ble vs.length N=true)
    (h:WC P N c (ya 0 vs) (eX pre F) (SG P fn post F)):az P f vs pre F post:=by
  refine ⟨fb hf hb hn,fun w hw=>callsIn_wide.1 (callsIn_of_wp_marks (n:=0) hf hb trivial (wpIn_wide.2 ?_))⟩;have hle:vs.length≤N:=by simpa using hv
  refine h _ w ⟨?_,rfl,fun t v e=>?_⟩ hw
  ·simp [hN];omega
  ·obtain ⟨_,h2⟩:=vj vs 0 t v e;have ht:t<vs.length:=(List.getElem?_eq_some_iff.1 h2).1;rw [Array.getD_eq_getD_getElem?,Array.getElem?_append_left (by simpa using ht)];simp at h2;simp [h2]
theorem Fe {fn:Func} {post:Value→List HP→Prop} {F:List HP} {e:Exit} {D:Nat} (he:(match e with| .normal=>true| .ret=>true|_=>false)=true) {rs:List ResultVar} {vs:List Value}
    (pS:fn.results.toList=rs) (hr:lr P env L rs vs) (L':List HP) (hp:post (qW vs) L') (hL:ai L (eX L' F)):zH N [DJ D] e env (il D (.deferred (some []))::L) (SG P fn post F):=by
  intro a w ha hd hw;have hD:=qP hw;have h2:Sat L (w.putObj D (.deferred none)):=(ai.drop ai.refl).gX (mN (o':= .deferred none) hw);have key:(results fn a.tmps).run P (w.putObj D (.deferred none))= .ok (qW vs) (w.putObj D (.deferred none)):=by
    have h1:=CR ha h2 hr;subst pS;rw [wg,Array.mapM_eq_mapM_toList];simp only [Sem.run_bind,Sem.run_map];have Vk:(List.mapM (sE a.tmps) fn.results.toList).run P (w.putObj D (.deferred none))= .ok vs (w.putObj D (.deferred none)):=h1;rw [Vk];simp only [Result.andThen_ok,Sem.run_pure];congr 1;unfold qW;match vs with
    | []=>rfl
    | [v]=>rfl
    |a::b::r=>simp
  have fin:LeavesInM Fence.wide 0 P fn a.tmps (fun e w'=>∃ v L',e= .returned v∧post v L'∧Sat (eX L' F) w') a.defers .returning w:=by
    rw [hd];exact ⟨by simp,.inl ⟨D,_,rfl,run_takeDeferred hD,_,key,_,L',rfl,hp,hL.gX h2⟩⟩
  cases e with
  |normal=>exact fin
  |ret=>exact fin
  |_=>simp at he
end
set_option maxRecDepth 100000
theorem Vl {Q P:Prop} (k:Q) (h:Hid Q→P:=by
  intro k
  (first|refine Mu ?_|refine Jm ?_|refine Mv ?_|refine Fb ?_|refine CT ?_|refine qS ?_|refine Fc ?_|refine zd ?_|refine xw ?_|refine CU ?_|refine vX ?_|(apply HA;(first|exact ke.wide|exact ke.round _);exact qE;rfl;(intro _ h;cases h))|(apply RQ;(first|exact ke.wide|exact ke.round _);rfl;(intro _ h;cases h);exact Ei;(first|refine dQ ?_|refine eu ?_|refine aU ?_)))
  (repeat (first|refine Mu ?_|refine Jm ?_|refine Mv ?_|refine Fb ?_|refine CT ?_|refine qS ?_|refine Fc ?_|refine zd ?_|refine xw ?_|refine CU ?_|refine vX ?_|(apply HA;(first|exact ke.wide|exact ke.round _);exact qE;rfl;(intro _ h;cases h))|(apply RQ;(first|exact ke.wide|exact ke.round _);rfl;(intro _ h;cases h);exact Ei;(first|refine dQ ?_|refine eu ?_|refine aU ?_))))
  exact k.out):P:=h ⟨k⟩
theorem L1 {Q P:Prop} (k:Q) (h:Hid Q→P:=by
  intro k
  ((apply HA;(first|exact ke.wide|exact ke.round _);exact qE;rfl;(intro _ h;cases h)))
  (repeat ((apply HA;(first|exact ke.wide|exact ke.round _);exact qE;rfl;(intro _ h;cases h))))
  exact k.out):P:=h ⟨k⟩
theorem L2 {Q P:Prop} (k:Q) (h:Hid Q→P:=by
  intro k
  (first|(apply xG;exact qE;rfl)|refine uf ?_|refine HG ?_|(apply F0;rfl;exact qy;exact qE;rfl)|(apply F1;rfl;exact qy;exact qE;rfl)|refine xI ?_|refine xJ ?_|refine ug ?_|refine pI ?_|refine uh ?_|refine xK ?_|refine mH ?_|refine rM ?_|refine ui ?_|refine mI ?_|(refine mJ ?_ ?_;rfl)|refine lI ?_|refine rN ?_|refine lJ ?_|refine lK ?_|refine mK ?_|refine uj ?_|(apply pJ;rfl;(with_reducible rfl))|(apply pK;rfl;(with_reducible rfl))|refine xL ?_|(apply mY;rfl;exact Ei;(first|refine dQ ?_|refine eu ?_|refine aU ?_))|(apply kO;rfl;exact qy;exact Ei;(first|refine dQ ?_|refine eu ?_|refine aU ?_))|(apply FZ;rfl;exact qy;exact qE;rfl)|refine nY ?_|refine mF rfl ?_|(refine mG ?_ ?_;(focus (exact bM;done)))|(apply B9;rfl;exact Aj;rfl)|(apply Ca;rfl;exact Aj;rfl)|(apply Cb;rfl;exact Aj;rfl;(refine ⟨by first|exact cc.free|exact cc.turns rfl|(refine cc.still ?_;exact bM;done),?_⟩))|(apply zM;exact qE;rfl)|(apply rP;rfl;rfl;(with_reducible rfl);rfl;rfl)|(apply rR;rfl;rfl;(with_reducible rfl);rfl;rfl)|(apply pL;rfl;rfl;(with_reducible rfl);rfl;rfl;rfl)|(apply pN;rfl;rfl;(with_reducible rfl);rfl;rfl;rfl)|(apply mL;rfl;rfl;(with_reducible rfl);rfl)|(apply mM;rfl;rfl;(with_reducible rfl);rfl)|(apply uk;rfl;rfl;rfl;rfl;(first|exact je lR|(first|(with_reducible assumption)|decide)))|(apply ul;rfl;rfl;rfl;rfl;(first|exact jg lR|(first|(with_reducible assumption)|decide)))|(apply um;rfl;rfl;rfl;rfl;(first|exact jg lR|(first|(with_reducible assumption)|decide)))|(apply uo;rfl;rfl;rfl;rfl;(first|exact je lR|(first|(with_reducible assumption)|decide)))|(apply uq;rfl;rfl;rfl;rfl;(first|exact je lR|(first|(with_reducible assumption)|decide)))|(apply ur;rfl;rfl;rfl;rfl;(first|exact jg lR|(first|(with_reducible assumption)|decide)))|(apply us;rfl;rfl;rfl;rfl;(first|exact jg lR|(first|(with_reducible assumption)|decide)))|(apply uu;rfl;rfl;rfl;rfl;(first|exact je lR|(first|(with_reducible assumption)|decide)))|(apply xM;rfl;(first|(with_reducible assumption)|(with_reducible rfl)|(with_reducible exact p4)|(with_reducible exact p5)|omega|decide|exact rfl))|(apply Cc;rfl;(first|(with_reducible assumption)|(with_reducible rfl)|(with_reducible exact p4)|(with_reducible exact p5)|omega|decide|exact rfl))|(apply Cd;rfl;(first|(with_reducible assumption)|decide))|(apply Ce;rfl;(first|(with_reducible assumption)|decide)))
  (repeat (first|(apply xG;exact qE;rfl)|refine uf ?_|refine HG ?_|(apply F0;rfl;exact qy;exact qE;rfl)|(apply F1;rfl;exact qy;exact qE;rfl)|refine xI ?_|refine xJ ?_|refine ug ?_|refine pI ?_|refine uh ?_|refine xK ?_|refine mH ?_|refine rM ?_|refine ui ?_|refine mI ?_|(refine mJ ?_ ?_;rfl)|refine lI ?_|refine rN ?_|refine lJ ?_|refine lK ?_|refine mK ?_|refine uj ?_|(apply pJ;rfl;(with_reducible rfl))|(apply pK;rfl;(with_reducible rfl))|refine xL ?_|(apply mY;rfl;exact Ei;(first|refine dQ ?_|refine eu ?_|refine aU ?_))|(apply kO;rfl;exact qy;exact Ei;(first|refine dQ ?_|refine eu ?_|refine aU ?_))|(apply FZ;rfl;exact qy;exact qE;rfl)|refine nY ?_|refine mF rfl ?_|(refine mG ?_ ?_;(focus (exact bM;done)))|(apply B9;rfl;exact Aj;rfl)|(apply Ca;rfl;exact Aj;rfl)|(apply Cb;rfl;exact Aj;rfl;(refine ⟨by first|exact cc.free|exact cc.turns rfl|(refine cc.still ?_;exact bM;done),?_⟩))|(apply zM;exact qE;rfl)|(apply rP;rfl;rfl;(with_reducible rfl);rfl;rfl)|(apply rR;rfl;rfl;(with_reducible rfl);rfl;rfl)|(apply pL;rfl;rfl;(with_reducible rfl);rfl;rfl;rfl)|(apply pN;rfl;rfl;(with_reducible rfl);rfl;rfl;rfl)|(apply mL;rfl;rfl;(with_reducible rfl);rfl)|(apply mM;rfl;rfl;(with_reducible rfl);rfl)|(apply uk;rfl;rfl;rfl;rfl;(first|exact je lR|(first|(with_reducible assumption)|decide)))|(apply ul;rfl;rfl;rfl;rfl;(first|exact jg lR|(first|(with_reducible assumption)|decide)))|(apply um;rfl;rfl;rfl;rfl;(first|exact jg lR|(first|(with_reducible assumption)|decide)))|(apply uo;rfl;rfl;rfl;rfl;(first|exact je lR|(first|(with_reducible assumption)|decide)))|(apply uq;rfl;rfl;rfl;rfl;(first|exact je lR|(first|(with_reducible assumption)|decide)))|(apply ur;rfl;rfl;rfl;rfl;(first|exact jg lR|(first|(with_reducible assumption)|decide)))|(apply us;rfl;rfl;rfl;rfl;(first|exact jg lR|(first|(with_reducible assumption)|decide)))|(apply uu;rfl;rfl;rfl;rfl;(first|exact je lR|(first|(with_reducible assumption)|decide)))|(apply xM;rfl;(first|(with_reducible assumption)|(with_reducible rfl)|(with_reducible exact p4)|(with_reducible exact p5)|omega|decide|exact rfl))|(apply Cc;rfl;(first|(with_reducible assumption)|(with_reducible rfl)|(with_reducible exact p4)|(with_reducible exact p5)|omega|decide|exact rfl))|(apply Cd;rfl;(first|(with_reducible assumption)|decide))|(apply Ce;rfl;(first|(with_reducible assumption)|decide))))
  exact k.out):P:=h ⟨k⟩
end
section
open Go
section
variable {P:Program} {N:Nat} {env:Env} {L:List HP} {Q:Exit→Act→World→Prop}
def RS {ι:Type} (N:Nat) (E:ι→Env) (H:ι→List HP) (I:ι→Prop):Act→World→Prop:=fun a w=>∃ j,I j∧du N (E j) a∧Sat (H j) w
theorem Nu {ι:Type} {l:Nat} {c rest:Code} (E:ι→Env) (H:ι→List HP) (I:ι→Prop) (hf:findLabel c l=some rest) (first:WC P N c env L (Exit.jump l (RS N E H I) Q))
    (pass:∀ j,I j→WC P N rest (E j) (H j) (Exit.jump l (fun _ _=>False) Q)):WC P N (.scope c) env L Q:=fun a w ha hw=>
  wp_scope_jumps l (RS N E H I) (fun _ _=>0) hf (first a w ha hw) fun a w ⟨j,h1,h2,h3⟩=>wp_mono (pass j h1 a w h2 h3) fun e a' w' hq=>by
    cases e with
    |goto l'=>exact absurd hq.2 id
    |normal=>exact hq
    |exit id=>exact hq
    |ret=>exact hq
    |panic ch=>exact hq
    |outgrown=>exact hq
theorem Nv {l:Nat} (h:WE N .normal env L Q):WC P N (.label l) env L Q:=fun a w ha hw=>wp_label (h a w ha hw)
theorem zf {l:Nat} {J:Act→World→Prop} (h:WE N .ret env L Q):WE N .ret env L (Exit.jump l J Q):=h
end
end
section
open Go Go.ChangeShapes Go.WideShapes
inductive l8 where
  |int (k:IntKind)
  |bool
  |other (t:TypeId)
section
variable {H:Type} (enc:TypeId×Value→H) (P:Program) (W:World)
def DK:l8→Value→Prop
  | .int k,v=>∃ n,v= .int k n∧(Lit.int k n).wf=true
  | .bool,v=>∃ b,v= .bool b
  | .other t,v=>∃ cV x,DataW.trod enc P W 0 (fun _=>true) true cV t [v]=some x
inductive gB:List l8→List Value→Prop
  |nil:gB [] []
  |cons {k:l8} {c:Value} {ks:List l8} {cs:List Value}:DK enc P W k c→gB ks cs→gB (k::ks) (c::cs)
def qX (f:TypeId→Option (List l8)):List Field→Nat→Option (List l8)
  | [],_=>some []
  |fd::r,off=>match f fd.type with
   |none=>none
   |some ks=>if fd.offset=off∧P.cellsOf fd.type=ks.length then (qX f r (off+ks.length)).map (ks++ ·) else none
def m9:Nat→TypeId→Option (List l8)
  |0,_=>none
  |d+1,t=>match P.underlying t with
   |some .bool=>some [.bool]
   |some (.int k)=>some [.int k]
   |some (.slice _)=>some [.other t]
   |some .string=>some [.other t]
   |some (.struct fs)=>(qX P (m9 d) fs.toList 0).bind fun ks=>if ks.length=P.cellsOf t then some ks else none
   |some (.array n e)=>(m9 d e).bind fun ks=>if ks.length=P.cellsOf e∧n*ks.length=P.cellsOf t then some (List.replicate n ks).flatten else none
   |_=>none
theorem ve {ks I1:List l8} {cs wF:List Value} (h:gB enc P W ks cs) (h':gB enc P W I1 wF):gB enc P W (ks++I1) (cs++wF):=by
  induction h with
  |nil=>exact h'
  |cons a _ ih=>exact .cons a ih
theorem lA {α β:Type} {f:α→Option β} {a:α} {l:List α} {r:List β} (h:(a::l).mapM f=some r):∃ b r',f a=some b∧l.mapM f=some r'∧r=b::r':=by
  rw [List.mapM_cons] at h;simp only [Option.bind_eq_bind,Option.bind_eq_some_iff] at h;obtain ⟨b,h1,r',h2,h3⟩:=h;exact ⟨b,r',h1,h2,by simpa using h3.symm⟩
theorem CW {d:Nat} (ih:∀ t ks,m9 P d t=some ks→∀ cV cs x,DataW.trod enc P W 0 (fun _=>true) true cV t cs=some x→gB enc P W ks cs) (cV:Nat) (cs:List Value) :
    ∀ (fs:List Field) (off:Nat) (ks:List l8) (xs:List (DataW H×List MemPlace)),qX P (m9 P d) fs off=some ks→
      (fs.mapM fun f=>DataW.trod enc P W 0 (fun _=>true) true cV f.type ((cs.drop f.offset).take (P.cellsOf f.type)))=some xs→gB enc P W ks ((cs.drop off).take ks.length)
  | [],off,ks,xs,h,_=>by simp [qX] at h;subst h;simp;exact .nil
  |fd::r,off,ks,xs,h,hm=>by
   obtain ⟨x,Uv,h1,h2,_⟩:=lA hm
   simp only [qX] at h;cases hk:m9 P d fd.type with
   |none=>simp [hk] at h
   |some k0=>
    simp only [hk] at h;split at h
    ·rename_i hc;obtain ⟨c1,c2⟩:=hc;cases hr:qX P (m9 P d) r (off+k0.length) with
     |none=>simp [hr] at h
     |some k1=>
      simp [hr] at h;subst h;have a:=ih _ _ hk _ _ _ h1;have b:=CW ih cV cs r _ _ _ hr h2;rw [c1,c2] at a;have e:(cs.drop off).take (k0++k1).length=(cs.drop off).take k0.length++(cs.drop (off+k0.length)).take k1.length:=by
        rw [List.length_append,List.take_add,List.drop_drop]
      rw [e];exact ve enc P W a b
    ·simp at h
theorem CX {e:Nat} {ks:List l8} {cV:Nat} {cs:List Value} (ih:∀ cV cs x,DataW.trod enc P W 0 (fun _=>true) true cV e cs=some x→gB enc P W ks cs) (he:ks.length=P.cellsOf e) :
    ∀ (n k:Nat) (xs:List (DataW H×List MemPlace)),(((List.range n).map (k+ ·)).mapM fun i=>DataW.trod enc P W 0 (fun _=>true) true cV e ((cs.drop (i*P.cellsOf e)).take (P.cellsOf e)))=some xs→
      gB enc P W (List.replicate n ks).flatten ((cs.drop (k*P.cellsOf e)).take (n*P.cellsOf e))
  |0,k,xs,_=>by simp;exact .nil
  |n+1,k,xs,h=>by
   have e1:(List.range (n+1)).map (k+ ·)=k::(List.range n).map (k+1+ ·):=by
     rw [List.range_succ_eq_map];simp [Function.comp_def,Nat.add_assoc,Nat.add_comm 1]
   rw [e1] at h;obtain ⟨x,Uv,h1,h2,_⟩:=lA h;have a:=ih _ _ _ h1;have b:=CX ih he n (k+1) Uv h2;have e2:(cs.drop (k*P.cellsOf e)).take ((n+1)*P.cellsOf e)=(cs.drop (k*P.cellsOf e)).take (P.cellsOf e)++(cs.drop ((k+1)*P.cellsOf e)).take (n*P.cellsOf e):=by
     rw [Nat.succ_mul,Nat.add_comm,List.take_add,List.drop_drop,Nat.succ_mul]
   rw [e2,List.replicate_succ,List.flatten_cons];exact ve enc P W a b
theorem Ff:∀ (d:Nat) (t:TypeId) (ks:List l8),m9 P d t=some ks→∀ cV cs x,DataW.trod enc P W 0 (fun _=>true) true cV t cs=some x→gB enc P W ks cs
  |0,_,_,h=>by simp [m9] at h
  |d+1,t,ks,h=>by
   intro cV cs x hx
   have ih:=Ff d
   simp only [m9] at h;cases cV with
   |zero=>simp [DataW.trod] at hx
   |succ cV=>
    have Cu:=hx;cases hu:P.underlying t with
    |none=>simp [hu] at h
    |some u=>
     cases u<;>simp only [hu] at h<;>try (simp at h;done)
     case bool=>
       simp at h;subst h;have:∃ b,cs=[.bool b]:=by
         unfold DataW.trod at hx;rw [hu] at hx;split at hx<;>simp_all
       obtain ⟨b,rfl⟩:=this;exact .cons ⟨b,rfl⟩ .nil
     case int k=>
       simp at h;subst h;obtain ⟨n,h1,_,h3⟩:=DataW.trod_int hu Cu;subst h1;exact .cons ⟨n,rfl,h3⟩ .nil
     case string=>
       simp at h;subst h;have:∃ v,cs=[v]:=by
         unfold DataW.trod at hx;rw [hu] at hx;split at hx<;>simp_all
       obtain ⟨v,rfl⟩:=this;exact .cons ⟨_,_,Cu⟩ .nil
     case slice e=>
       simp at h;subst h;have:∃ v,cs=[v]:=by
         unfold DataW.trod at hx;rw [hu] at hx;split at hx<;>simp_all
       obtain ⟨v,rfl⟩:=this;exact .cons ⟨_,_,Cu⟩ .nil
     case array n e=>
       simp only [Option.bind_eq_some_iff] at h;obtain ⟨k0,h1,h2⟩:=h;split at h2
       ·rename_i hc;simp at h2;subst h2;unfold DataW.trod at hx;rw [hu] at hx;have qF:(if cs.length=P.cellsOf t then ((List.range n).mapM fun i=>DataW.trod enc P W 0 (fun _=>true) true cV e ((cs.drop (i*P.cellsOf e)).take (P.cellsOf e))).map fun xs=>(DataW.agg (xs.map (·.1)),xs.flatMap (·.2)) else none)=some x:=by
          split at hx<;>simp_all
        split at qF
        ·rename_i hl;simp only [Option.map_eq_some_iff] at qF;obtain ⟨xs,hm,_⟩:=qF;have:=CX enc P W (fun cV cs x hx=>ih e k0 h1 cV cs x hx) hc.1 n 0 xs (by simpa using hm);simp only [Nat.zero_mul,List.drop_zero] at this;rw [←hc.1,hc.2,←hl,List.take_length] at this;exact this
        ·simp at qF
       ·simp at h2
     case struct fs=>
       simp only [Option.bind_eq_some_iff] at h;obtain ⟨k0,h1,h2⟩:=h;split at h2
       ·rename_i hc;simp at h2;subst h2;unfold DataW.trod at hx;rw [hu] at hx;have qF:∃ xs,cs.length=P.cellsOf t∧(fs.toList.mapM fun f=>DataW.trod enc P W 0 (fun _=>true) true cV f.type ((cs.drop f.offset).take (P.cellsOf f.type)))=some xs:=by
          have El:(if cs.length=P.cellsOf t then (fs.toList.mapM fun f=>DataW.trod enc P W 0 (fun _=>true) true cV f.type ((cs.drop f.offset).take (P.cellsOf f.type))).map fun xs=>(DataW.agg (xs.map (·.1)),xs.flatMap (·.2)) else none)=some x:=by
            split at hx<;>simp_all
          split at El
          ·rename_i hl;simp only [Option.map_eq_some_iff] at El;obtain ⟨xs,hm,_⟩:=El;exact ⟨xs,hl,hm⟩
          ·simp at El
        obtain ⟨xs,hl,hm⟩:=qF;have:=CW enc P W ih cV cs fs.toList 0 k0 xs h1 hm;rw [hc,List.drop_zero,←hl,List.take_length] at this;exact this
       ·simp at h2
theorem H0 {d:Nat} {t:TypeId} {ks:List l8} {v:Value} {dt:DataW H} {p:List MemPlace} (hk:m9 P d t=some ks) (h:DataW.Trod enc P W 0 (fun _=>true) true t v dt p):gB enc P W ks (cellsOf v):=by
  obtain ⟨cV,hf⟩:=h;have:=Ff enc P W d t ks hk cV _ _ hf;rw [dT] at this;exact this
theorem Fg {v:Value} (h:DK enc P W (.int .i64) v):∃ n,v= .int .i64 n∧dZ n:=by
  obtain ⟨n,e,hw⟩:=h;refine ⟨n,e,?_⟩;simp only [Lit.wf,Bool.and_eq_true,decide_eq_true_eq,IntKind.min,IntKind.max,IntKind.signed,IntKind.bits] at hw;unfold dZ;simp at hw;omega
theorem H9 {k:l8} {ks:List l8} {cs:List Value} (h:gB enc P W (k::ks) cs):∃ c wF,cs=c::wF∧DK enc P W k c∧gB enc P W ks wF:=by
  cases h with
  |cons a b=>exact ⟨_,_,rfl,a,b⟩
theorem CS {cs:List Value} (h:gB enc P W [] cs):cs=[]:=by cases h;rfl
theorem gN {ks:List l8} {cs:List Value} (h:gB enc P W (.int .i64::ks) cs):∃ n wF,cs= .int .i64 n::wF∧dZ n∧gB enc P W ks wF:=by
  obtain ⟨c,wF,rfl,h1,h2⟩:=H9 enc P W h;obtain ⟨n,rfl,hn⟩:=Fg enc P W h1;exact ⟨n,wF,rfl,hn,h2⟩
end
theorem Ez {v:Value} {cs:Array Value} (h:v= .agg cs):v= .agg (cellsOf v).toArray:=by subst h;simp [cellsOf]
end
section
open Go Go.ChangeShapes Go.WideShapes
section
variable {H:Type} (enc:TypeId×Value→H) (P:Program) (W:World)
theorem vg {α:Type} {f:Nat→Option α}:∀ (n k:Nat) (r:List α),((List.range n).map (k+ ·)).mapM f=some r→r.length=n∧∀ i,i<n→f (k+i)=r[i]?
  |0,k,r,h=>by simp at h;subst h;simp
  |n+1,k,r,h=>by
   have e1:(List.range (n+1)).map (k+ ·)=k::(List.range n).map (k+1+ ·):=by
     rw [List.range_succ_eq_map];simp [Function.comp_def,Nat.add_assoc,Nat.add_comm 1]
   rw [e1] at h;obtain ⟨x,xs,h1,h2,rfl⟩:=lA h;obtain ⟨h3,h4⟩:=vg n (k+1) xs h2;refine ⟨by simp [h3],fun i hi=>?_⟩;cases i with
   |zero=>simpa using h1
   |succ i=>have:=h4 i (om);rw [List.getElem?_cons_succ,←this];congr 1;omega
theorem tE {α:Type} {f:Nat→Option α} {n:Nat} {r:List α} (h:(List.range n).mapM f=some r):r.length=n∧∀ i,i<n→f i=r[i]? :=by
  have:=vg n 0 r (by simpa using h);simpa using this
theorem Ia {w:World} {a:Addr} {n:Nat} {cs:List Value} (h:w.cells? 0 a n=some cs):cs.length=n∧∀ j,j<n→w.cell? (a.add j)=cs[j]? :=by
  unfold World.cells? at h;rw [if_pos (Nat.zero_le _)] at h;exact tE h
theorem Ky {w:World} {a:Addr} {v:Value} (h:w.cell? a=some v):a.spot=none∧a.block<w.heap.size:=by
  unfold World.cell? at h;split at h
  ·rename_i he;have hb:=(Array.getElem?_eq_some_iff.1 he).1;split at h
   ·simp at h
   ·rename_i hs;refine ⟨by simpa using hs,hb⟩
  ·simp at h
theorem Nw (a:Addr) (i j:Nat):(a.add i).add j=a.add (i+j):=by
  unfold Addr.add;by_cases hi:i=0<;>by_cases hj:j=0<;>simp [hi,hj,Nat.add_assoc]
theorem Bh:∀ (n:Nat) (cs:List Value),gB enc P W (List.replicate n (.int .i64)) cs→∃ l:List Int,l.length=n∧(∀ x∈l,dZ x)∧cs=l.map (Value.int .i64)
  |0,cs,h=>⟨[],rfl,by simp,by rw [CS enc P W h];rfl⟩
  |n+1,cs,h=>by
   obtain ⟨a,wF,rfl,ha,h⟩:=gN enc P W h
   obtain ⟨l,h1,h2,rfl⟩:=Bh n wF h;exact ⟨a::l,by simp [h1],fun x hx=>(List.mem_cons.1 hx).elim (fun e=>e▸ha) (h2 x),rfl⟩
end
section
variable {H:Type} (enc:TypeId×Value→H) (P:Program) (W:World)
theorem S3 {cs:List Value} (h:gB enc P W (List.replicate 3 (.int .i64)) cs):∃ x:c5,x.wf∧cs=oc x∧(oc x).all one=true:=by
  obtain ⟨l,h1,h2,rfl⟩:=Bh enc P W _ _ h;match l,h1 with
  | [a,b,c],_=>exact ⟨⟨a,b,c⟩,⟨h2 a (by simp),h2 b (by simp),h2 c (by simp)⟩,rfl,rfl⟩
end
end
section
open Go Go.ChangeShapes Go.WideShapes
section
variable {H:Type} (enc:TypeId×Value→H) (P:Program) (W:World)
def Sm (t:TypeId) (d:DataW H):Prop:=(d.weights P t).all (· ≤reachBytes)=true
def DX:l8→Value→Prop
  | .int k,v=>∃ n,v= .int k n∧(Lit.int k n).wf=true
  | .bool,v=>∃ b,v= .bool b
  | .other t,v=>∃ cV x,DataW.trod enc P W 0 (fun _=>true) true cV t [v]=some x∧Sm P t x.1
inductive fr:List l8→List Value→Prop
  |nil:fr [] []
  |cons {k:l8} {c:Value} {ks:List l8} {cs:List Value}:DX enc P W k c→fr ks cs→fr (k::ks) (c::cs)
theorem tF {ks I1:List l8} {cs wF:List Value} (h:fr enc P W ks cs) (h':fr enc P W I1 wF):fr enc P W (ks++I1) (cs++wF):=by
  induction h with
  |nil=>exact h'
  |cons a _ ih=>exact .cons a ih
theorem zW {t:TypeId} {ts:List TypeId} {d:DataW H} {r:List (DataW H)} (h:(DataW.weightsEach P (t::ts) (d::r)).all (· ≤reachBytes)=true):Sm P t d∧(DataW.weightsEach P ts r).all (· ≤reachBytes)=true:=by
  rw [DataW.weightsEach,List.all_append,Bool.and_eq_true] at h;exact h
theorem Mw {e:TypeId}:∀ {l:List (DataW H)} {d:DataW H},d∈l→(DataW.weightsAll P e l).all (· ≤reachBytes)=true→Sm P e d
  | [],_,h,_=>by cases h
  |a::r,d,h,hw=>by
   rw [DataW.weightsAll,List.all_append,Bool.and_eq_true] at hw
   rcases List.mem_cons.1 h with h|h
   ·subst h;exact hw.1
   ·exact Mw h hw.2
theorem Bi {d:Nat} (ih:∀ t ks,m9 P d t=some ks→∀ cV cs x,DataW.trod enc P W 0 (fun _=>true) true cV t cs=some x→Sm P t x.1→fr enc P W ks cs) (cV:Nat) (cs:List Value) :
    ∀ (fs:List Field) (off:Nat) (ks:List l8) (xs:List (DataW H×List MemPlace)),qX P (m9 P d) fs off=some ks→
      (fs.mapM fun f=>DataW.trod enc P W 0 (fun _=>true) true cV f.type ((cs.drop f.offset).take (P.cellsOf f.type)))=some xs→(DataW.weightsEach P (fs.map (·.type)) (xs.map (·.1))).all (· ≤reachBytes)=true→fr enc P W ks ((cs.drop off).take ks.length)
  | [],off,ks,xs,h,_,_=>by simp [qX] at h;subst h;simp;exact .nil
  |fd::r,off,ks,xs,h,hm,hw=>by
   obtain ⟨x,Uv,h1,h2,rfl⟩:=lA hm
   rw [List.map_cons,List.map_cons] at hw;obtain ⟨Z1,Z2⟩:=zW P hw;simp only [qX] at h;cases hk:m9 P d fd.type with
   |none=>simp [hk] at h
   |some k0=>
    simp only [hk] at h;split at h
    ·rename_i hc;obtain ⟨c1,c2⟩:=hc;cases hr:qX P (m9 P d) r (off+k0.length) with
     |none=>simp [hr] at h
     |some k1=>
      simp [hr] at h;subst h;have a:=ih _ _ hk _ _ _ h1 Z1;have b:=Bi ih cV cs r _ _ _ hr h2 Z2;rw [c1,c2] at a;have e:(cs.drop off).take (k0++k1).length=(cs.drop off).take k0.length++(cs.drop (off+k0.length)).take k1.length:=by
        rw [List.length_append,List.take_add,List.drop_drop]
      rw [e];exact tF enc P W a b
    ·simp at h
theorem Bj {e:Nat} {ks:List l8} {cV:Nat} {cs:List Value} (ih:∀ cV cs x,DataW.trod enc P W 0 (fun _=>true) true cV e cs=some x→Sm P e x.1→fr enc P W ks cs) (he:ks.length=P.cellsOf e) :
    ∀ (n k:Nat) (xs:List (DataW H×List MemPlace)),(((List.range n).map (k+ ·)).mapM fun i=>DataW.trod enc P W 0 (fun _=>true) true cV e ((cs.drop (i*P.cellsOf e)).take (P.cellsOf e)))=some xs→
      (DataW.weightsAll P e (xs.map (·.1))).all (· ≤reachBytes)=true→
      fr enc P W (List.replicate n ks).flatten ((cs.drop (k*P.cellsOf e)).take (n*P.cellsOf e))
  |0,k,xs,_,_=>by simp;exact .nil
  |n+1,k,xs,h,hw=>by
   have e1:(List.range (n+1)).map (k+ ·)=k::(List.range n).map (k+1+ ·):=by
     rw [List.range_succ_eq_map];simp [Function.comp_def,Nat.add_assoc,Nat.add_comm 1]
   rw [e1] at h;obtain ⟨x,Uv,h1,h2,rfl⟩:=lA h;rw [List.map_cons,DataW.weightsAll,List.all_append,Bool.and_eq_true] at hw;have a:=ih _ _ _ h1 hw.1;have b:=Bj ih he n (k+1) Uv h2 hw.2;have e2:(cs.drop (k*P.cellsOf e)).take ((n+1)*P.cellsOf e)=(cs.drop (k*P.cellsOf e)).take (P.cellsOf e)++(cs.drop ((k+1)*P.cellsOf e)).take (n*P.cellsOf e):=by
     rw [Nat.succ_mul,Nat.add_comm,List.take_add,List.drop_drop,Nat.succ_mul]
   rw [e2,List.replicate_succ,List.flatten_cons];exact tF enc P W a b
theorem CY:∀ (d:Nat) (t:TypeId) (ks:List l8),m9 P d t=some ks→∀ cV cs x,DataW.trod enc P W 0 (fun _=>true) true cV t cs=some x→Sm P t x.1→fr enc P W ks cs
  |0,_,_,h=>by simp [m9] at h
  |d+1,t,ks,h=>by
   intro cV cs x hx hw
   have ih:=CY d
   simp only [m9] at h;cases cV with
   |zero=>simp [DataW.trod] at hx
   |succ cV=>
    have Cu:=hx;cases hu:P.underlying t with
    |none=>simp [hu] at h
    |some u=>
     cases u<;>simp only [hu] at h<;>try (simp at h;done)
     case bool=>
       simp at h;subst h;have:∃ b,cs=[.bool b]:=by
         unfold DataW.trod at hx;rw [hu] at hx;split at hx<;>simp_all
       obtain ⟨b,rfl⟩:=this;exact .cons ⟨b,rfl⟩ .nil
     case int k=>
       simp at h;subst h;obtain ⟨n,h1,_,h3⟩:=DataW.trod_int hu Cu;subst h1;exact .cons ⟨n,rfl,h3⟩ .nil
     case string=>
       simp at h;subst h;have:∃ v,cs=[v]:=by
         unfold DataW.trod at hx;rw [hu] at hx;split at hx<;>simp_all
       obtain ⟨v,rfl⟩:=this;exact .cons ⟨_,_,Cu,hw⟩ .nil
     case slice e=>
       simp at h;subst h;have:∃ v,cs=[v]:=by
         unfold DataW.trod at hx;rw [hu] at hx;split at hx<;>simp_all
       obtain ⟨v,rfl⟩:=this;exact .cons ⟨_,_,Cu,hw⟩ .nil
     case array n e=>
       simp only [Option.bind_eq_some_iff] at h;obtain ⟨k0,h1,h2⟩:=h;split at h2
       ·rename_i hc;simp at h2;subst h2;unfold DataW.trod at hx;rw [hu] at hx;have qF:(if cs.length=P.cellsOf t then ((List.range n).mapM fun i=>DataW.trod enc P W 0 (fun _=>true) true cV e ((cs.drop (i*P.cellsOf e)).take (P.cellsOf e))).map fun xs=>(DataW.agg (xs.map (·.1)),xs.flatMap (·.2)) else none)=some x:=by
          split at hx<;>simp_all
        split at qF
        ·rename_i hl;simp only [Option.map_eq_some_iff] at qF;obtain ⟨xs,hm,rfl⟩:=qF;have Ct:(DataW.weightsAll P e (xs.map (·.1))).all (· ≤reachBytes)=true:=by simpa [Sm,DataW.weights,hu] using hw
         have:=Bj enc P W (fun cV cs x hx hw=>ih e k0 h1 cV cs x hx hw) hc.1 n 0 xs (by simpa using hm) Ct;simp only [Nat.zero_mul,List.drop_zero] at this;rw [←hc.1,hc.2,←hl,List.take_length] at this;exact this
        ·simp at qF
       ·simp at h2
     case struct fs=>
       simp only [Option.bind_eq_some_iff] at h;obtain ⟨k0,h1,h2⟩:=h;split at h2
       ·rename_i hc;simp at h2;subst h2;unfold DataW.trod at hx;rw [hu] at hx;have qF:∃ xs,cs.length=P.cellsOf t∧(fs.toList.mapM fun f=>DataW.trod enc P W 0 (fun _=>true) true cV f.type ((cs.drop f.offset).take (P.cellsOf f.type)))=some xs∧x.1=DataW.agg (xs.map (·.1)):=by
          have El:(if cs.length=P.cellsOf t then (fs.toList.mapM fun f=>DataW.trod enc P W 0 (fun _=>true) true cV f.type ((cs.drop f.offset).take (P.cellsOf f.type))).map fun xs=>(DataW.agg (xs.map (·.1)),xs.flatMap (·.2)) else none)=some x:=by
            split at hx<;>simp_all
          split at El
          ·rename_i hl;simp only [Option.map_eq_some_iff] at El;obtain ⟨xs,hm,rfl⟩:=El;exact ⟨xs,hl,hm,rfl⟩
          ·simp at El
        obtain ⟨xs,hl,hm,J1⟩:=qF;rw [J1] at hw;have Ct:(DataW.weightsEach P (fs.toList.map (·.type)) (xs.map (·.1))).all (· ≤reachBytes)=true:=by simpa [Sm,DataW.weights,hu] using hw
        have:=Bi enc P W ih cV cs fs.toList 0 k0 xs h1 hm Ct;rw [hc,List.drop_zero,←hl,List.take_length] at this;exact this
       ·simp at h2
theorem wj {α:Type} {encA:α→List Value} {wf:α→Prop} {d e t:Nat} {ks:List l8} {v:Value} {dt:DataW H} {p:List MemPlace} (hu:P.underlying t=some (.slice e)) (hk:m9 P d e=some ks) (hc:P.cellsOf e=ks.length) (h0:0<ks.length)
    (hA:∀ cs,fr enc P W ks cs→∃ x,wf x∧cs=encA x∧(encA x).all one=true) (Z3:∃ a n c,v= .slice a n c) (h:DataW.Trod enc P W 0 (fun _=>true) true t v dt p) (hs:Sm P t dt) :
    ∃ xs:List α,(∀ x∈xs,wf x)∧wb W ks.length v xs.length (aj encA xs)∧xs.length≤9223372036854775807∧xs.length*P.bytesOf e≤reachBytes:=by
  obtain ⟨a0,n0,c0,rfl⟩:=Z3;obtain ⟨cV,hf⟩:=h;cases cV with
  |zero=>simp [DataW.trod] at hf
  |succ cV=>
   unfold DataW.trod at hf;rw [hu] at hf;split at hf<;>try (simp_all;done)
   ·rename_i h1 h2;simp only [Value.cells,List.cons.injEq,Value.slice.injEq,and_true] at h2;obtain ⟨rfl,rfl,rfl⟩:=h2;exact ⟨[],by simp,⟨by simp,rfl,.inl ⟨none,0,rfl,rfl⟩⟩,by simp,by simp⟩
   ·rename_i e' a len cap h1 h2;have he:e'=e:=by simp_all
    subst he;simp only [Value.cells,List.cons.injEq,Value.slice.injEq,and_true] at h2;obtain ⟨rfl,rfl,rfl⟩:=h2;simp only at hf;split at hf
    ·rename_i hb;simp only [Option.bind_eq_some_iff] at hf;obtain ⟨ER,hm,RT⟩:=hf;simp only [if_true,Option.map_eq_some_iff] at RT;obtain ⟨rest,_,Z4⟩:=RT;have XM:dt= .slice (ER.map (·.1)) (rest.map (·.1)):=by injection Z4 with h _;exact h.symm
     subst XM;have hw:(ER.length+rest.length)*P.bytesOf e'≤reachBytes∧(DataW.weightsAll P e' (ER.map (·.1))).all (· ≤reachBytes)=true:=by
       unfold Sm at hs;rw [DataW.weights,hu] at hs;simp only [List.all_cons,List.all_append,Bool.and_eq_true,List.length_map,decide_eq_true_eq] at hs;exact ⟨hs.1,hs.2.1⟩
     obtain ⟨hl,hg⟩:=tE hm;have key:∀ i,i<n0→∃ x:α,wf x∧(encA x).all one=true∧(encA x).length=ks.length∧∀ j u,(encA x)[j]? =some u→W.cell? ((a.add (i*ks.length)).add j)=some u:=by
       intro i hi;have:=hg i hi;rw [List.getElem?_eq_getElem (om)] at this;simp only [Option.bind_eq_some_iff] at this;obtain ⟨cs,Vi,Sa⟩:=this;rw [hc] at Vi;obtain ⟨q1,q2⟩:=Ia Vi;have gP:ER[i].1∈ER.map (·.1):=List.mem_map_of_mem (List.getElem_mem _);obtain ⟨x,hx,rfl,ho⟩:=hA cs (CY enc P W d e' ks hk _ _ _ Sa (Mw P gP hw.2));refine ⟨x,hx,ho,q1,fun j u hj=>?_⟩;have bB:=(List.getElem?_eq_some_iff.1 hj).1;rw [q2 j (om),hj]
     have pick:∀ n,n≤n0→∃ xs:List α,xs.length=n∧(∀ x∈xs,wf x)∧(aj encA xs).all one=true∧(aj encA xs).length=n*ks.length∧∀ j u,(aj encA xs)[j]? =some u→W.cell? (a.add j)=some u:=by
       intro n;induction n with
       |zero=>intro _;exact ⟨[],rfl,by simp,rfl,by simp,by simp⟩
       |succ n ih=>
        intro hn;obtain ⟨xs,x1,x2,x3,x4,x5⟩:=ih (om);obtain ⟨x,y1,y2,y3,y4⟩:=key n (om);refine ⟨xs++[x],by simp [x1],?_,?_,?_,?_⟩
        ·intro z hz;rcases List.mem_append.1 hz with h|h
         ·exact x2 z h
         ·rw [List.mem_singleton.1 h];exact y1
        ·rw [aJ,bi,List.all_append,x3,y2];rfl
        ·rw [aJ,bi,List.length_append,x4,y3,Nat.succ_mul]
        ·intro j u hj;rw [aJ,bi] at hj;by_cases bB:j<(aj encA xs).length
         ·rw [List.getElem?_append_left bB] at hj;exact x5 j u hj
         ·rw [List.getElem?_append_right (om)] at hj;have:=y4 _ u hj;have e3:(a.add (n*ks.length)).add (j-(aj encA xs).length)=a.add j:=by
            rw [Nw];congr 1;omega
          rwa [e3] at this
     obtain ⟨xs,x1,x2,x3,x4,x5⟩:=pick n0 (Nat.le_refl _);have OU:maxLen=9223372036854775807:=by decide
     have Z5:xs.length*P.bytesOf e'≤reachBytes:=Nat.le_trans (Nat.mul_le_mul_right _ (om)) hw.1;refine ⟨xs,x2,?_,om,Z5⟩;refine ⟨by rw [x4,x1],x3,?_⟩;by_cases hz:n0=0
     ·subst hz;exact .inl ⟨some a,c0,rfl,x1⟩
     ·right;have Z6:∃ u,(aj encA xs)[0]? =some u:=by
        have:0<(aj encA xs).length:=by
          rw [x4];exact Nat.mul_pos (om) h0
        exact ⟨_,List.getElem?_eq_getElem this⟩
      obtain ⟨u0,Z7⟩:=Z6;have Vh:=x5 0 u0 Z7;have Uw:a.add 0=a:=by simp [Addr.add]
      rw [Uw] at Vh;obtain ⟨s1,s2⟩:=Ky Vh;obtain ⟨b,o,sp⟩:=a;simp only at s1 s2;subst s1;refine ⟨b,o,c0,by rw [x1],s2,fun j u hj=>?_⟩;have:=x5 j u hj;have e4:(Addr.add ⟨b,o,none⟩ j)=⟨b,o+j,none⟩:=by unfold Addr.add;split<;>simp_all
      rwa [e4] at this
    ·simp at hf
theorem ED {ks:List l8} {cs:List Value} (h:fr enc P W ks cs):gB enc P W ks cs:=by
  induction h with
  |nil=>exact .nil
  | @cons k c ks cs a _ ih=>
    refine .cons ?_ ih;cases k with
    |int k=>exact a
    |bool=>exact a
    |other t=>obtain ⟨f,x,h,_⟩:=a;exact ⟨f,x,h⟩
theorem zg {k:l8} {ks:List l8} {cs:List Value} (h:fr enc P W (k::ks) cs):∃ c wF,cs=c::wF∧DX enc P W k c∧fr enc P W ks wF:=by
  cases h with
  |cons a b=>exact ⟨_,_,rfl,a,b⟩
theorem wo {ks:List l8} {cs:List Value} (h:fr enc P W (.int .i64::ks) cs):∃ n wF,cs= .int .i64 n::wF∧dZ n∧fr enc P W ks wF:=by
  obtain ⟨c,wF,rfl,h1,h2⟩:=zg enc P W h;obtain ⟨n,rfl,hn⟩:=Fg enc P W (show DK enc P W (.int .i64) c from h1);exact ⟨n,wF,rfl,hn,h2⟩
theorem Bk {cs:List Value} (h:fr enc P W [] cs):cs=[]:=by cases h;rfl
theorem Gp {t e:TypeId} {c:Value} (hu:P.underlying t=some (.slice e)) (h:DX enc P W (.other t) c):∃ a n k x p,c= .slice a n k∧DataW.Trod enc P W 0 (fun _=>true) true t c x p∧Sm P t x:=by
  obtain ⟨cV,x,h1,h2⟩:=h;have Z8:∃ a n k,c= .slice a n k:=by
    cases cV with
    |zero=>simp [DataW.trod] at h1
    |succ cV=>
     have h3:=h1;unfold DataW.trod at h3;rw [hu] at h3;split at h3<;>simp_all
  obtain ⟨a,n,k,rfl⟩:=Z8;exact ⟨a,n,k,x.1,x.2,rfl,⟨cV,by simpa [Value.cells] using h1⟩,h2⟩
end
end
end Go.Sx
