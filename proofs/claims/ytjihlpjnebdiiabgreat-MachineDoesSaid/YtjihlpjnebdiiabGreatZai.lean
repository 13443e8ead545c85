/- Tab, TabLaw, TabPl, MsgR: several of my texts as one. My own work. -/
import Derived.Test.YtjihlpjnebdiiabGreatZad
import Derived.Test.YtjihlpjnebdiiabGreatZaf
set_option linter.unusedVariables false
set_option linter.unusedSectionVars false
set_option linter.unusedSimpArgs false
set_option maxRecDepth 100000
set_option maxHeartbeats 4000000
namespace Go.Sx
open Go Go.Proofs Tryz
section
structure dP where
  o:Int
  s:ij
theorem dP.iZ {a b:dP}:(a.o=b.o∧a.s=b.s)↔a=b:=by cases a;cases b;simp
instance:DecidableEq dP:=fun a b=>decidable_of_iff _ dP.iZ
abbrev Ao (e:dP) (a:Option Addr) (k:Nat):List Value:=[.int .i64 e.o,.int .i64 e.s.ax,.int .i64 e.s.dJ,.slice a e.s.ps.length k,.bool e.s.all]
abbrev dP.no:dP:=⟨0,.no⟩
abbrev tz (p:Option Addr) (n c:Nat):List Value:=[.int .i64 0,.int .i64 0,.int .i64 0,.slice none 0 0,.bool false,.slice p n c,.bool false]
abbrev G8 (e:dP) (a:Option Addr) (k:Nat) (p:Option Addr) (n c:Nat) (w:Bool):List Value:=[.int .i64 e.o,.int .i64 e.s.ax,.int .i64 e.s.dJ,.slice a e.s.ps.length k,.bool e.s.all,.slice p n c,.bool w]
def SB (T U:TypeId) (bm bt:Nat) (m:bA) (l:List bA):HP:=Ex fun q:Option Addr×Nat=>[ao bm T (mc m),ao bt U (tz q.1 l.length q.2),aT T 15 (.slice q.1 l.length q.2) l.length (aj mc l)]
theorem ET {T U:TypeId} {bm bt:Nat} {m:bA} {l:List bA} {p:Option Addr} {n c:Nat} {xs:List Value} {L M:List HP} (h:ai L (ao bm T (mc m)::ao bt U (tz p n c)::aT T 15 (.slice p n c) n xs::M)) (hn:n=l.length) (hx:xs=aj mc l):ai L (SB T U bm bt m l::M):=by
  subst hn hx;exact ai.trans h (fU (p:=fun q:Option Addr×Nat=>[ao bm T (mc m),ao bt U (tz q.1 l.length q.2),aT T 15 (.slice q.1 l.length q.2) l.length (aj mc l)]) (p,c))
section
variable {T U:TypeId} {bm bt:Nat} {m:bA} {l:List bA} {P:Program} {N:Nat} {env:Env} {L:List HP} {Q:Exit→Act→World→Prop}
theorem Qs {c:Code} (h:∀ p c0,WC P N c env (ao bm T (mc m)::ao bt U (tz p l.length c0)::aT T 15 (.slice p l.length c0) l.length (aj mc l)::L) Q):WC P N c env (SB T U bm bt m l::L) Q:=by
  intro a w ha hw;obtain ⟨⟨p,c0⟩,hx⟩:=eN hw;exact h p c0 a w ha hx
theorem xf {all:Array Oper} {c:List Oper} (h:∀ p c0,WO P N all c env (ao bm T (mc m)::ao bt U (tz p l.length c0)::aT T 15 (.slice p l.length c0) l.length (aj mc l)::L) Q):WO P N all c env (SB T U bm bt m l::L) Q:=by
  intro a w ha hw;obtain ⟨⟨p,c0⟩,hx⟩:=eN hw;exact h p c0 a w ha hx
end
def lQ (e:dP):Bool:=cK e.s&& decide (-1≤e.o)&& decide (e.o<e.s.ax)
def fw (m:bA) (ah to mu aH bI:Int) (w:Words):bA:=⟨ah,m.aa,m.dst,to,mu,aH,bI,w⟩
def nE (s:ij):ij:=⟨s.ax,s.dJ,[],false⟩
def uc (e:dP) (kI:List Int):List Int:=eE e.s kI e.s.ax.toNat
def kX (e:dP) (m:bA):dP:=if e.o=m.src then .no else if e.o≠ -1 then ⟨e.o,c7 e.s m.src⟩ else if (uc e []).length=0 then ⟨m.src,nE e.s⟩ else ⟨e.o,c7 e.s m.src⟩
def jE (e:dP) (m:bA) (w:Words):List bA:=if e.o=m.src then [] else if e.o≠ -1 then [fw m 4 e.o m.src 0 0 .zero] else if (uc e []).length=0 then [fw m 7 m.src 0 0 2 w] else [fw m 7 m.src 0 0 1 w]
def iU (e:dP) (m:bA):List Int:=uc e [m.src,e.o]
def lW (e:dP) (m:bA) (w:Words):bA:=if e.o= -1 then fw m 7 m.src 0 (iU e m).length 4 w else if e.o=m.src then fw m 8 m.src 0 (iU e m).length 0 .zero else fw m 5 e.o m.src (iU e m).length 0 .zero
def oE (m:bA) (c:Int):bA:=fw m 6 c m.src 0 0 .zero
def tM (e:dP) (m:bA) (w:Words):List bA:=lW e m w::(iU e m).map (oE m)
def rc (e:dP) (m:bA):dP:=if e.o=m.src then ⟨-1,e.s⟩ else e
def xW (e:dP) (m:bA):Bool:=lQ e&& decide (0≤m.src)&& decide (m.src<e.s.ax)
def fo (e:dP) (m:bA):Int:=if xW e m then (if m.ah=1 then (if e.o=m.src then 7 else 0) else if m.ah=2 then 0 else if m.ah=3 then 0 else 1) else 1
def dx (e:dP) (m:bA):dP:=if fo e m=0 then (if m.ah=1 then kX e m else if m.ah=2 then ⟨m.src,nE e.s⟩ else rc e m) else .no
def bP (e:dP) (m:bA) (w:Words):List bA:=if fo e m=0 then (if m.ah=1 then jE e m w else if m.ah=2 then tM e m w else [fw m 10 m.src 0 0 0 .zero]) else []
def jS (e:dP) (m:bA):Bool:=decide (fo e m=0)&& decide (m.ah=3)&& decide (e.o=m.src)
attribute [local irreducible] Exit.then Exit.inBlock Code.wp WC WO WE WQ V aW dL Sat bz bK dU IntKind.wrap WR Code.rounds WT KO
instance:TU prog 269 (.func #[159] #[] false):=⟨underlying269⟩
abbrev su:=SB 159 379
abbrev PD (e:dP) (a:Option Addr) (k:Nat) (m:bA) (w:Words) (bm bt:Nat):List Value:=[.int .i64 e.o,.int .i64 e.s.ax,.int .i64 e.s.dJ,.slice a e.s.ps.length k,.bool e.s.all,
  .int .i64 m.ah,.int .i64 m.aa,.int .i64 m.src,.int .i64 m.dst,.int .i64 m.mu,.int .i64 m.aH,.int .i64 m.bI,.int .i64 m.ag.w0,.int .i64 m.ag.w1,.int .i64 m.ag.w2,.int .i64 m.ag.w3,.int .i64 m.ag.w4,.int .i64 m.ag.w5,.int .i64 m.ag.w6,.int .i64 m.ag.w7,
  .int .i64 w.w0,.int .i64 w.w1,.int .i64 w.w2,.int .i64 w.w3,.int .i64 w.w4,.int .i64 w.w5,.int .i64 w.w6,.int .i64 w.w7,.func (.func 340) #[] #[.pointer (some ⟨bm,0,none⟩),.pointer (some ⟨bt,0,none⟩)]]
abbrev UA (e:dP) (a:Option Addr) (k:Nat) (m:bA) (w:Words) (bm bt:Nat):Value:= .agg (PD e a k m w bm bt).toArray
theorem Io {Q P:Prop} (k:Q) (h:Hid Q→P:=by
  intro k
  first
  |(refine an ?_;refine bF (id:=1) .true (pl:= .p 0 <| .p 2 <| .r 1 <| .p 4 <| .e true [(3,.e true [(5,.p 6 <| .e false [(7,.done)])]),(5,.e false [(3,.p 6 <| .e false [(7,.done)])])]) k.out)):P:=h ⟨k⟩
theorem NN {F:List HP} {x m:bA} {bm bt:Nat} {l:List bA} (hn:l.length≤1000):az prog 340 [mv x,.pointer (some ⟨bm,0,none⟩),.pointer (some ⟨bt,0,none⟩)] [su bm bt m l] F
    (fun r L'=>r= .tuple [].toArray∧L'=[su bm bt m (l++[{ x with aa:=m.aa,src:=m.dst}])]):=by
  refine ay func340 ntmps340 ?_;refine Qs fun p c=>?_;repeat' (first|refine go ?_|intro _|refine Io ?_|refine av ?_|refine bj ?_ ?_|fail)
  all_goals (apply ad rfl rfl ar)
  all_goals first|exact ⟨rfl,rfl⟩|(((repeat (first|(with_reducible exact ai.refl)|exact ai.nil|(apply iX;exact G4)|(apply ET)|apply ai.drop));all_goals (first|rfl|(with_reducible assumption)|(simp [aJ,bi];done)|(simp [aJ,bi];omega)|omega|(constructor<;>(simp [aJ,bi])<;>omega))))
theorem pO {F:List HP} {m:bA} {bm bt:Nat} {l:List bA} (ah to mu aH bI:Int) (w:Words) (hn:l.length≤1000):az prog 340 [mv ⟨ah,0,0,to,mu,aH,bI,w⟩,.pointer (some ⟨bm,0,none⟩),.pointer (some ⟨bt,0,none⟩)] [su bm bt m l] F
    (fun r L'=>r= .tuple [].toArray∧L'=[su bm bt m (l++[fw m ah to mu aH bI w])]):=NN hn
theorem Qt {F:List HP} {e:dP} {a:Option Addr} {k:Nat} (hk:bN F 1 (.slice a e.s.ps.length k) e.s.ps.length (aj ic e.s.ps)) (hn:e.s.ps.length≤1000):az prog 339 [.agg (Ao e a k).toArray] [] F (fun r L'=>r= .bool (lQ e)∧L'=[]):=by
  have hM:=fun F (hk:bN F 1 (.slice a e.s.ps.length k) e.s.ps.length (aj ic e.s.ps))=>z1 (F:=F) hk hn;refine ay func339 ntmps339 ?_;cases hm:cK e.s with
  |true=>
   simp only [hm] at hM;by_cases h1: -1≤e.o
   ·repeat first|refine gd ?_|intro _|refine ae @hM ?_
    (apply ad rfl rfl ar;(first|exact cS|exact ⟨by simp [lQ,hm,h1]<;>omega,rfl⟩);exact bM)
   ·repeat first|refine gd ?_|intro _|refine ae @hM ?_
    (apply ad rfl rfl ar;(first|exact cS|exact ⟨by simp [lQ,hm,h1]<;>omega,rfl⟩);exact bM)
  |false=>
   simp only [hm] at hM;repeat first|refine gd ?_|intro _|refine ae @hM ?_
   (apply ad rfl rfl ar;(first|exact cS|exact ⟨by simp [lQ,hm]<;>omega,rfl⟩);exact bM)
theorem Gy {F:List HP} {e:dP} {a:Option Addr} {k:Nat} {m:bA} {w:Words} {bm bt:Nat} (hk:bN F 1 (.slice a e.s.ps.length k) e.s.ps.length (aj ic e.s.ps)) (hn:e.s.ps.length≤1000) :
    az prog 360 [UA e a k m w bm bt] [] F (fun r L'=>∃ a' k',r= .agg (Ao ⟨e.o,c7 e.s m.src⟩ a' k').toArray∧L'=[aT 3 1 (.slice a' (c7 e.s m.src).ps.length k') (c7 e.s m.src).ps.length (aj ic (c7 e.s m.src).ps)]):=by
  have hA:=fun F (hk:bN F 1 (.slice a e.s.ps.length k) e.s.ps.length (aj ic e.s.ps))=>P6 (F:=F) (x:=m.src) hk hn;refine ay func360 ntmps360 ?_;repeat first|refine gd ?_|intro _|refine ae @hA ?_
  (apply ad rfl rfl ar)
  ·exact ⟨_,_,rfl,rfl⟩
  ·exact af
theorem AT {F:List HP} {e:dP} {a:Option Addr} {k:Nat} {m:bA} {w:Words} {bm bt:Nat} {bI aH:Int} {l:List bA} (hn:l.length≤1000) :
    az prog 361 [UA e a k m w bm bt,.int .i64 bI,.int .i64 aH] [su bm bt m l] F (fun r L'=>r= .tuple [].toArray∧L'=[su bm bt m (l++[fw m 7 m.src 0 aH bI w])]):=by
  have hS:=fun F=>pO (F:=F) (m:=m) (bm:=bm) (bt:=bt) (l:=l) 7 m.src 0 aH bI w hn;refine ay func361 ntmps361 ?_;repeat first|refine gd ?_|intro _|refine ae @hS ?_
  exact aM
theorem sV {Q P:Prop} (k:Q) (h:Hid Q→P:=by
  intro k
  first
  |(refine an ?_;refine bF (id:=8) .false (pl:= .p 0 <| .p 1 <| .p 3 <| .p 4 <| .r 2 <| .r 5 <| .e true [(6,.p 7 <| .e true [(8,.p 9 <| .p 10 <| .done)])]) k.out)):P:=h ⟨k⟩
theorem NO {F:List HP} {e:dP} {a:Option Addr} {k:Nat} {m:bA} {w:Words} {bm bt:Nat} (hk:bN F 1 (.slice a e.s.ps.length k) e.s.ps.length (aj ic e.s.ps)) (hm:cK e.s=true) :
    az prog 341 [UA e a k m w bm bt] [su bm bt m []] F (fun r L'=>∃ a' k',r= .tuple [.agg (Ao (kX e m) a' k').toArray,.bool false,.int .i64 (if e.o=m.src then 7 else 0)].toArray
      ∧L'=[aT 3 1 (.slice a' (kX e m).s.ps.length k') (kX e m).s.ps.length (aj ic (kX e m).s.ps),su bm bt m (jE e m w)]):=by
  have hn:=(cP hm).2.2;have L6:=fun F (hk:bN F 1 (.slice a e.s.ps.length k) e.s.ps.length (aj ic e.s.ps))=>Gy (F:=F) (e:=e) (a:=a) (k:=k) (m:=m) (w:=w) (bm:=bm) (bt:=bt) hk (om);have hT:=fun F (hk:bN F 1 (.slice a e.s.ps.length k) e.s.ps.length (aj ic e.s.ps))=>zh (F:=F) (u:= .slice none 0 0) (kI:=[]) hk hm ou (by simp);refine ay func341 ntmps341 ?_;by_cases h1:e.o=m.src
  ·have e1:kX e m= .no:=if_pos h1;have e2:jE e m w=[]:=if_pos h1;rw [e1,e2,if_pos h1];repeat first|refine go ?_|intro _|refine sV ?_|refine av ?_
   (apply ad rfl rfl ar)
   ·exact ⟨none,0,rfl,rfl⟩
   ·refine ai.trans ?_ (aI ai.refl);exact af
  ·rw [if_neg h1];by_cases h2:e.o= -1
   ·by_cases h3:(eE e.s [] e.s.ax.toNat).length=0
    ·have e1:kX e m=⟨m.src,nE e.s⟩:=by unfold kX uc;rw [if_neg h1,if_neg (om),if_pos h3]
     have e2:jE e m w=[fw m 7 m.src 0 0 2 w]:=by unfold jE uc;rw [if_neg h1,if_neg (om),if_pos h3]
     have hD:=fun F=>AT (F:=F) (e:=e) (a:=a) (k:=k) (m:=m) (w:=w) (bm:=bm) (bt:=bt) (bI:=2) (aH:=0) (l:=[]) (by simp);simp only [List.nil_append] at hD;rw [e1,e2];repeat' (first|refine go ?_|intro _|refine sV ?_|refine av ?_|refine ae @hT ?_|refine ae @hD ?_|refine ae @C3 ?_|refine bj ?_ ?_|fail)
     all_goals (apply ad rfl rfl ar)
     all_goals first
     |exact ⟨none,0,rfl,rfl⟩
     |(refine ai.trans ?_ (aI ai.refl);exact af)
    ·have e1:kX e m=⟨e.o,c7 e.s m.src⟩:=by unfold kX uc;rw [if_neg h1,if_neg (om),if_neg h3]
     have e2:jE e m w=[fw m 7 m.src 0 0 1 w]:=by unfold jE uc;rw [if_neg h1,if_neg (om),if_neg h3]
     have hD:=fun F=>AT (F:=F) (e:=e) (a:=a) (k:=k) (m:=m) (w:=w) (bm:=bm) (bt:=bt) (bI:=1) (aH:=0) (l:=[]) (by simp);simp only [List.nil_append] at hD;rw [e1,e2];repeat first|refine go ?_|intro _|refine sV ?_|refine av ?_|refine ae @hT ?_|refine ae @hD ?_|refine ae @L6 ?_
     (apply ad rfl rfl ar)
     ·exact ⟨_,_,rfl,rfl⟩
     ·exact af
   ·have e1:kX e m=⟨e.o,c7 e.s m.src⟩:=by unfold kX uc;rw [if_neg h1,if_pos (om)]
    have e2:jE e m w=[fw m 4 e.o m.src 0 0 .zero]:=by unfold jE uc;rw [if_neg h1,if_pos (om)]
    have hS:=fun F=>pO (F:=F) (m:=m) (bm:=bm) (bt:=bt) (l:=[]) 4 e.o m.src 0 0 .zero (by simp);simp only [List.nil_append] at hS;rw [e1,e2];repeat first|refine go ?_|intro _|refine sV ?_|refine av ?_|refine ae @hS ?_|refine ae @L6 ?_
    (apply ad rfl rfl ar)
    ·exact ⟨_,_,rfl,rfl⟩
    ·exact af
theorem Qu {F:List HP} {e:dP} {a:Option Addr} {k:Nat} {m:bA} {w:Words} {bm bt:Nat} :
    az prog 343 [UA e a k m w bm bt] [su bm bt m []] F (fun r L'=>r= .tuple [.agg (Ao (rc e m) a k).toArray,.bool (decide (e.o=m.src)),.int .i64 0].toArray∧L'=[su bm bt m [fw m 10 m.src 0 0 0 .zero]]):=by
  have hS:=fun F=>pO (F:=F) (m:=m) (bm:=bm) (bt:=bt) (l:=[]) 10 m.src 0 0 0 .zero (by simp);simp only [List.nil_append] at hS;refine ay func343 ntmps343 ?_;by_cases h1:e.o=m.src
  ·have e1:rc e m=⟨-1,e.s⟩:=if_pos h1;rw [e1];repeat first|refine gd ?_|intro _|refine ae @hS ?_
   (apply ad rfl rfl ar;(first|exact cS|exact ⟨by simp [h1]<;>omega,rfl⟩);exact bM)
  ·have e1:rc e m=e:=if_neg h1;rw [e1];repeat first|refine gd ?_|intro _|refine ae @hS ?_
   (apply ad rfl rfl ar;(first|exact cS|exact ⟨by simp [h1]<;>omega,rfl⟩);exact bM)
theorem n6 {Q P:Prop} (k:Q) (h:Hid Q→P:=by
  intro k
  first
  |(refine an ?_;refine bF (id:=14) .false (pl:= .p 0 <| .p 1 <| .p 3 <| .p 4 <| .r 2 <| .r 5 <| .e true [(6,.p 7 <| .e true [(8,.p 9 <| .p 10 <| .done)])]) k.out)):P:=h ⟨k⟩
theorem KX {F:List HP} {e:dP} {a:Option Addr} {k:Nat} {m:bA} {w:Words} {bm bt:Nat} (hk:bN F 1 (.slice a e.s.ps.length k) e.s.ps.length (aj ic e.s.ps)) (hm:cK e.s=true) :
    az prog 342 [UA e a k m w bm bt] [su bm bt m []] F (fun r L'=>r= .tuple [.agg (Ao ⟨m.src,nE e.s⟩ none 0).toArray,.bool false,.int .i64 0].toArray∧L'=[su bm bt m (tM e m w)]):=by
  have XU:=(cP hm).2.1;have BK:=DZ e.s [m.src,e.o] e.s.ax.toNat;have hT:=fun F (hk:bN F 1 (.slice a e.s.ps.length k) e.s.ps.length (aj ic e.s.ps)) u (hb:bN F 1 u 2 [.int .i64 m.src,.int .i64 e.o])=>@zh F e.s a k u [m.src,e.o] hk hm hb (by simp);have ho:iU e m=eE e.s [m.src,e.o] e.s.ax.toNat:=rfl;have hw:tM e m w=lW e m w::(iU e m).map (oE m):=rfl;have hf:lW e m w=if e.o= -1 then fw m 7 m.src 0 (iU e m).length 4 w else if e.o=m.src then fw m 8 m.src 0 (iU e m).length 0 .zero else fw m 5 e.o m.src (iU e m).length 0 .zero:=rfl;rw [hw];rw [ho] at hf ⊢;generalize eE e.s [m.src,e.o] e.s.ax.toNat=ot at hT BK hf ⊢;have hD:=fun F=>AT (F:=F) (e:=e) (a:=a) (k:=k) (m:=m) (w:=w) (bm:=bm) (bt:=bt) (bI:=4) (aH:=ot.length) (l:=[]) (by simp);simp only [List.nil_append] at hD;have W0:=fun F=>pO (F:=F) (m:=m) (bm:=bm) (bt:=bt) (l:=[]) 8 m.src 0 ot.length 0 .zero (by simp);simp only [List.nil_append] at W0;have W1:=fun F=>pO (F:=F) (m:=m) (bm:=bm) (bt:=bt) (l:=[]) 5 e.o m.src ot.length 0 .zero (by simp);simp only [List.nil_append] at W1;refine ay func342 ntmps342 ?_;repeat first|refine go ?_|intro _|refine n6 ?_|refine av ?_|refine ae @hT ?_
  rename_i b1 b2 bs p q
  apply mT (P:=prog) (fun _:Unit=>[(1,.pointer (some ⟨b1,0,none⟩)),(2,.pointer (some ⟨b2,0,none⟩)),(3,.bool false),(4,.int .i64 0),(54,.slice p ot.length q),(55,.int .i64 ot.length),(56,.int .i64 0)])
    (fun _=>su bm bt m [lW e m w]::aT 3 1 (.slice p ot.length q) ot.length (aj ic ot)::ao b2 138 [.int .i64 0,.int .i64 0,.int .i64 0,.slice none 0 0,.bool false]::ao b1 405 (PD e a k m w bm bt)::F) (fun _=>True)
  ·intro join;by_cases h1:e.o= -1
   ·rw [if_pos h1] at hf;repeat first|refine go ?_|intro _|refine n6 ?_|refine av ?_|refine ae @hD ?_
    skip
    exact join () _ _ trivial (by exact bH) (by rw [hf];exact af)
   ·rw [if_neg h1] at hf;by_cases h2:e.o=m.src
    ·rw [if_pos h2] at hf;repeat first|refine go ?_|intro _|refine n6 ?_|refine av ?_|refine ae @W0 ?_
     skip
     exact join () _ _ trivial (by exact bH) (by rw [hf];exact af)
    ·rw [if_neg h2] at hf;repeat first|refine go ?_|intro _|refine n6 ?_|refine av ?_|refine ae @W1 ?_
     skip
     exact join () _ _ trivial (by exact bH) (by rw [hf];exact af)
  ·intro _ _;clear hf hD W0 W1;generalize lW e m w=f1;apply aO (E0:=[(1,_),(2,_),(54,_),(55,_)]) (fun E0 (i:Nat)=>(56,.int .i64 i)::E0) (fun i=>su bm bt m (f1::(ot.take i).map (oE m))::aT 3 1 (.slice p ot.length q) ot.length (aj ic ot)::ao b2 138 [.int .i64 0,.int .i64 0,.int .i64 0,.slice none 0 0,.bool false]::ao b1 405 (PD e a k m w bm bt)::F) (fun i=>i≤ot.length) (fun i=>ot.length-i) 0
   ·exact bH
   ·exact Nat.zero_le _
   ·simp only [List.take_zero,List.map_nil];exact af
   ·intro i hi;by_cases bB:i<ot.length
    ·have hS:=fun F=>pO (F:=F) (m:=m) (bm:=bm) (bt:=bt) (l:=f1::(ot.take i).map (oE m)) 6 ot[i] m.src 0 0 .zero (by simp;omega);have et:f1::(ot.take (i+1)).map (oE m)=(f1::(ot.take i).map (oE m))++[fw m 6 ot[i] m.src 0 0 .zero]:=by
       rw [List.take_add_one,List.getElem?_eq_getElem bB];simp only [List.map_append,List.cons_append,List.map_cons,List.map_nil,Option.toList_some];rfl
     repeat first|refine go ?_|intro _|refine n6 ?_|refine av ?_|refine ae @hS ?_
     refine aC (i+1) (om) (om) ?_ ?_
     ·exact bH
     ·rw [et];exact af
    ·have kM:i=ot.length:=by omega
     subst kM;rw [List.take_length];repeat first|refine go ?_|intro _|refine n6 ?_|refine av ?_|refine ae @C3 ?_
     (apply ad rfl rfl ar)
     ·exact ⟨rfl,rfl⟩
     ·exact af
theorem KY {e:dP} {m:bA} (h:cK e.s=true):(kX e m).s.ps.length≤9:=by
  have h8:=cP h;have ha:=Nz e.s m.src;unfold kX;split
  ·simp
  ·split
   ·dsimp only;omega
   ·split
    ·simp [nE]
    ·dsimp only;omega
theorem KZ {e:dP} {m:bA} {w:Words}:(jE e m w).length≤1:=by
  unfold jE;split<;>(try split)<;>(try split)<;>simp
theorem NP {F:List HP} {e:dP} {a:Option Addr} {k:Nat} {m:bA} {w:Words} (hk:bN F 1 (.slice a e.s.ps.length k) e.s.ps.length (aj ic e.s.ps)) (hn:e.s.ps.length≤1000) :
    az prog 301 [.agg (Ao e a k).toArray,mv m,wv w] [] F (fun r L'=>∃ a' k' p c,r= .tuple [.agg (G8 (dx e m) a' k' p (bP e m w).length c (jS e m)).toArray,.int .i64 (fo e m)].toArray
      ∧L'=[aT 3 1 (.slice a' (dx e m).s.ps.length k') (dx e m).s.ps.length (aj ic (dx e m).s.ps),aT 159 15 (.slice p (bP e m w).length c) (bP e m w).length (aj mc (bP e m w))]):=by
  have hM:=fun F (hk:bN F 1 (.slice a e.s.ps.length k) e.s.ps.length (aj ic e.s.ps))=>Qt (F:=F) hk hn;refine ay func301 ntmps301 ?_;cases cO:xW e m with
  |false=>
   have e1:fo e m=1:=by simp [fo,cO]
   have e2:dx e m= .no:=by simp [dx,e1]
   have e3:bP e m w=[]:=by simp [bP,e1]
   have e4:jS e m=false:=by simp [jS,e1]
   rw [e1,e2,e3,e4];cases hm:lQ e with
   |false=>
    simp only [hm] at hM;repeat first|refine gd ?_|intro _|refine ae @hM ?_
    (apply ad rfl rfl ar)
    ·exact ⟨none,0,none,0,rfl,rfl⟩
    ·refine aI (aI ?_);exact af
   |true=>
    simp only [hm] at hM;have hb:¬(0≤m.src∧m.src<e.s.ax):=by
      intro hh;simp [xW,hm,hh] at cO
    by_cases h0:m.src<0
    ·repeat first|refine gd ?_|intro _|refine ae @hM ?_
     (apply ad rfl rfl ar)
     ·exact ⟨none,0,none,0,rfl,rfl⟩
     ·refine aI (aI ?_);exact af
    ·repeat first|refine gd ?_|intro _|refine ae @hM ?_
     (apply ad rfl rfl ar)
     ·exact ⟨none,0,none,0,rfl,rfl⟩
     ·refine aI (aI ?_);exact af
  |true=>
   have hm:lQ e=true:=by simp only [xW,Bool.and_eq_true] at cO;exact cO.1.1
   have hs:cK e.s=true:=by simp only [lQ,Bool.and_eq_true] at hm;exact hm.1.1
   have hb:0≤m.src∧m.src<e.s.ax:=by simp only [xW,Bool.and_eq_true,decide_eq_true_eq] at cO;exact ⟨cO.1.2,cO.2⟩
   have h8:=(cP hs).2.2;simp only [hm] at hM;obtain ⟨Sc,hb1⟩:=hb;by_cases h1:m.ah=1
   ·have Vu:¬m.ah=3:=by omega
    have J2:¬m.ah=2:=by omega
    have hR:=fun F (hk:bN F 1 (.slice a e.s.ps.length k) e.s.ps.length (aj ic e.s.ps)) bm bt=>NO (F:=F) (e:=e) (a:=a) (k:=k) (m:=m) (w:=w) (bm:=bm) (bt:=bt) hk hs;by_cases he:e.o=m.src
    ·have e1:fo e m=7:=by simp [fo,cO,h1,he]
     have e2:dx e m= .no:=by simp [dx,e1]
     have e3:bP e m w=[]:=by simp [bP,e1]
     have e4:jS e m=false:=by simp [jS,e1]
     rw [e1,e2,e3,e4];simp only [if_pos he] at hR;repeat first|refine gd ?_|intro _|refine ae @hM ?_
     rename_i b3 b4 b5 b6 b8 b9;refine cy (L':=su b4 b8 m []::ao b9 405 (PD e a k m w b4 b8)::ao b6 379 (tz none 0 0)::F) (ET (p:=none) (n:=0) (c:=0) (xs:=[]) (ai.trans (aI (e:=159) (sz:=15) (p:=none) ai.refl) (by exact af)) rfl rfl) ?_;repeat first|refine gd ?_|intro _|refine ae @hR ?_
     (first|refine aD (su b4 b8 m (jE e m w)) ?_|refine aE (su b4 b8 m (jE e m w)) ?_|refine aF (su b4 b8 m (jE e m w)) ?_);refine xf fun p c=>?_;repeat first|refine gd ?_|intro _
     (apply ad rfl rfl ar)
     ·exact ⟨none,0,none,0,rfl,rfl⟩
     ·refine aI (aI ?_);exact af
    ·have e1:fo e m=0:=by simp [fo,cO,h1,he]
     have e2:dx e m=kX e m:=by simp [dx,e1,h1]
     have e3:bP e m w=jE e m w:=by simp [bP,e1,h1]
     have e4:jS e m=false:=by simp [jS,e1,h1]
     have hl:(kX e m).s.ps.length≤9:=KY hs;have hl2:(jE e m w).length≤1:=KZ;rw [e1,e2,e3,e4];simp only [if_neg he] at hR;repeat first|refine gd ?_|intro _|refine ae @hM ?_
     rename_i b3 b4 b5 b6 b8 b9;refine cy (L':=su b4 b8 m []::ao b9 405 (PD e a k m w b4 b8)::ao b6 379 (tz none 0 0)::F) (ET (p:=none) (n:=0) (c:=0) (xs:=[]) (ai.trans (aI (e:=159) (sz:=15) (p:=none) ai.refl) (by exact af)) rfl rfl) ?_;repeat first|refine gd ?_|intro _|refine ae @hR ?_
     (first|refine aD (su b4 b8 m (jE e m w)) ?_|refine aE (su b4 b8 m (jE e m w)) ?_|refine aF (su b4 b8 m (jE e m w)) ?_);refine xf fun p c=>?_;repeat first|refine gd ?_|intro _
     refine cy (aI (e:=3) (sz:=1) (p:=none) ai.refl) ?_;repeat first|refine gd ?_|intro _
     simp only [Nat.zero_add,List.nil_append];(apply ad rfl rfl ar)
     ·exact ⟨_,_,_,_,rfl,rfl⟩
     ·exact af
   ·by_cases h2:m.ah=2
    ·skip
     have Vu:¬m.ah=3:=by omega
     have hR:=fun F (hk:bN F 1 (.slice a e.s.ps.length k) e.s.ps.length (aj ic e.s.ps)) bm bt=>KX (F:=F) (e:=e) (a:=a) (k:=k) (m:=m) (w:=w) (bm:=bm) (bt:=bt) hk hs;have e1:fo e m=0:=by simp [fo,cO,h2]
     have e2:dx e m=⟨m.src,nE e.s⟩:=by simp [dx,e1,h2]
     have e3:bP e m w=tM e m w:=by simp [bP,e1,h2]
     haveI U0:∀ L,bN L 1 (.slice none (⟨m.src,nE e.s⟩:dP).s.ps.length 0) 0 []:=fun L=>ou;have e4:jS e m=false:=by simp [jS,e1,h2]
     rw [e1,e2,e3,e4];repeat first|refine gd ?_|intro _|refine ae @hM ?_
     rename_i b3 b4 b5 b6 b8 b9;refine cy (L':=su b4 b8 m []::ao b9 405 (PD e a k m w b4 b8)::ao b6 379 (tz none 0 0)::F) (ET (p:=none) (n:=0) (c:=0) (xs:=[]) (ai.trans (aI (e:=159) (sz:=15) (p:=none) ai.refl) (by exact af)) rfl rfl) ?_;repeat first|refine gd ?_|intro _|refine ae @hR ?_
     (first|refine aD (su b4 b8 m (tM e m w)) ?_|refine aE (su b4 b8 m (tM e m w)) ?_|refine aF (su b4 b8 m (tM e m w)) ?_);refine xf fun p c=>?_;repeat first|refine gd ?_|intro _
     refine cy (aI (e:=3) (sz:=1) (p:=none) ai.refl) ?_;repeat first|refine gd ?_|intro _
     simp only [Nat.zero_add,List.nil_append];(apply ad rfl rfl ar)
     ·exact ⟨_,_,_,_,rfl,rfl⟩
     ·simp only [nE,List.length_nil,lU];exact af
    ·by_cases h3:m.ah=3
     ·skip
      skip
      have hR:=fun F bm bt=>Qu (F:=F) (e:=e) (a:=a) (k:=k) (m:=m) (w:=w) (bm:=bm) (bt:=bt);have e1:fo e m=0:=by simp [fo,cO,h3]
      have e2:dx e m=rc e m:=by simp [dx,e1,h3]
      have e3:bP e m w=[fw m 10 m.src 0 0 0 .zero]:=by simp [bP,e1,h3]
      have e4:jS e m=decide (e.o=m.src):=by simp [jS,e1,h3]
      have e5:(rc e m).s=e.s:=by unfold rc;split<;>rfl
      haveI sv:bN F 1 (.slice a (rc e m).s.ps.length k) (rc e m).s.ps.length (aj ic (rc e m).s.ps):=by rw [e5];exact hk
      have hl:(rc e m).s.ps.length≤8:=by rw [e5];omega
      rw [e1,e2,e3,e4];repeat first|refine gd ?_|intro _|refine ae @hM ?_
      rename_i b3 b4 b5 b6 b8 b9;refine cy (L':=su b4 b8 m []::ao b9 405 (PD e a k m w b4 b8)::ao b6 379 (tz none 0 0)::F) (ET (p:=none) (n:=0) (c:=0) (xs:=[]) (ai.trans (aI (e:=159) (sz:=15) (p:=none) ai.refl) (by exact af)) rfl rfl) ?_;repeat first|refine gd ?_|intro _|refine ae @hR ?_
      (first|refine aD (su b4 b8 m ([fw m 10 m.src 0 0 0 .zero])) ?_|refine aE (su b4 b8 m ([fw m 10 m.src 0 0 0 .zero])) ?_|refine aF (su b4 b8 m ([fw m 10 m.src 0 0 0 .zero])) ?_);refine xf fun p c=>?_;repeat first|refine gd ?_|intro _
      refine cy (aI (e:=3) (sz:=1) (p:=none) ai.refl) ?_;repeat first|refine gd ?_|intro _
      simp only [Nat.zero_add,List.nil_append];(apply ad rfl rfl ar)
      ·exact ⟨_,_,_,_,rfl,rfl⟩
      ·exact af
     ·have e1:fo e m=1:=by simp [fo,cO,h1,h2,h3]
      have e2:dx e m= .no:=by simp [dx,e1]
      have e3:bP e m w=[]:=by simp [bP,e1]
      have e4:jS e m=false:=by simp [jS,e1]
      rw [e1,e2,e3,e4];repeat first|refine gd ?_|intro _|refine ae @hM ?_
      (apply ad rfl rfl ar)
      ·exact ⟨none,0,none,0,rfl,rfl⟩
      ·refine aI (aI ?_);exact af
end
section
attribute [local irreducible] Exit.then Exit.inBlock Code.wp WC WO WE WQ V aW dL Sat bz bK dU IntKind.wrap WR Code.rounds WT KO
theorem Qv {F:List HP} {ax dJ:Int}:az prog 141 [.int .i64 ax,.int .i64 dJ] [] F
    (fun r L'=>r= .tuple [.agg (Ao (if cK ⟨ax,dJ,[],false⟩ then ⟨-1,⟨ax,dJ,[],false⟩⟩ else .no) none 0).toArray,.int .i64 (if cK ⟨ax,dJ,[],false⟩ then 0 else 1)].toArray∧L'=[]):=by
  have hN:=fun F=>P5 (F:=F) (ax:=ax) (dJ:=dJ);cases e:cK ⟨ax,dJ,[],false⟩ with
  |true=>
   simp only [e,if_true] at hN ⊢;refine ay func141 ntmps141 ?_;repeat first|refine gd ?_|intro _|refine ae @hN ?_
   exact aM
  |false=>
   simp only [e,Bool.false_eq_true,if_false] at hN ⊢;refine ay func141 ntmps141 ?_;repeat first|refine gd ?_|intro _|refine ae @hN ?_
   exact aM
end
section
theorem z3 {s:ij} (h1:1≤s.ax) (h2:s.ax≤64) (h3:0≤s.dJ) (h4:s.dJ≤8) (h5:(s.ps.length:Int)≤s.dJ) (h6:s.all=true→s.ps=[]) (h7:s.ps.Pairwise (· < ·)) (h8:∀ c∈s.ps,0≤c∧c<s.ax):cK s=true:=by
  have h9:eP s.ax (-1) s.ps=true:=C0 h7 fun c hc=>by have:=h8 c hc;exact ⟨om,this.2⟩
  have Uu:(!(s.all&& decide (0<s.ps.length)))=true:=by
    cases ha:s.all with
    |false=>rfl
    |true=>rw [h6 ha];rfl
  simp only [cK,h1,h2,h3,h4,h5,h9,Uu,decide_true,Bool.and_true]
theorem Fw {s:ij} {x:Int} (h:cK s=true) (Cu:0≤x) (J1:x<s.ax):cK (c7 s x)=true∧(c7 s x).ax=s.ax∧(c7 s x).dJ=s.dJ:=by
  obtain ⟨m1,m2,m3,m4,m5,m6,m7,m8⟩:=cP h;have e1:jU s x=0:=by simp only [jU,h,if_true];rw [if_neg (om)]
  unfold c7;rw [if_pos e1];cases hh:dM s x with
  |true=>exact ⟨h,rfl,rfl⟩
  |false=>
   rw [if_neg Bool.false_ne_true];by_cases hf:(s.ps.length:Int)=s.dJ
   ·rw [if_pos hf];exact ⟨z3 m1 m2 m3 m4 (by simpa using m3) (fun _=>rfl) List.Pairwise.nil (fun c hc=>by cases hc),rfl,rfl⟩
   ·rw [if_neg hf];have vM:=zl Cu J1 hh;have hx:¬x∈s.ps:=by simpa [dM,vM] using hh
    refine ⟨z3 m1 m2 m3 m4 ?_ ?_ (zj m7 hx) ?_,rfl,rfl⟩
    ·simp only [AO];omega
    ·intro h;dsimp only at h;rw [vM] at h;cases h
    ·intro c hc;rcases (Fj x c s.ps).1 hc with rfl|hc
     ·exact ⟨Cu,J1⟩
     ·exact m8 c hc
theorem Jt {s:ij} {c:Int} (h:cK s=true) (hh:dM s c=true):0≤c∧c<s.ax:=by
  obtain ⟨_,_,_,_,_,_,_,m8⟩:=cP h;unfold dM at hh;cases ha:s.all with
  |true=>rw [ha,if_pos rfl] at hh;simpa using hh
  |false=>rw [ha,if_neg Bool.false_ne_true] at hh;exact m8 c (of_decide_eq_true hh)
theorem D3 {s:ij} {kI:List Int} {c:Int} (h:cK s=true):c∈eE s kI s.ax.toNat↔dM s c=true∧¬c∈kI:=by
  unfold eE;rw [List.mem_filter,Fk];simp only [Bool.and_eq_true,Bool.not_eq_true',decide_eq_false_iff_not];constructor
  ·exact fun h=>h.2
  ·intro hh;have:=Jt h hh.1;exact ⟨om,hh⟩
theorem Ip (s:ij) (kI:List Int) (n:Nat):(eE s kI n).Pairwise (· < ·):=(zk n).filter _
theorem pW {e:dP} {m:bA} (h:fo e m=0):xW e m=true∧(m.ah=1∧¬e.o=m.src∨m.ah=2∨m.ah=3):=by
  unfold fo at h;split at h
  ·rename_i hk;refine ⟨hk,?_⟩;split at h
   ·split at h
    ·cases h
    ·exact .inl ⟨by assumption,by assumption⟩
   ·split at h
    ·exact .inr (.inl (by assumption))
    ·split at h
     ·exact .inr (.inr (by assumption))
     ·cases h
  ·cases h
theorem kF {e:dP} {m:bA} (h:xW e m=true):cK e.s=true∧ -1≤e.o∧e.o<e.s.ax∧0≤m.src∧m.src<e.s.ax:=by
  simp only [xW,lQ,Bool.and_eq_true,decide_eq_true_eq] at h;exact ⟨h.1.1.1.1,h.1.1.1.2,h.1.1.2,h.1.2,h.2⟩
theorem lc {e:dP} (h1:cK e.s=true) (h2: -1≤e.o) (h3:e.o<e.s.ax):lQ e=true:=by simp [lQ,h1,h2,h3]
theorem C9 {s:ij} (h:cK s=true):cK (nE s)=true:=by
  obtain ⟨m1,m2,m3,m4,m5,m6,m7,m8⟩:=cP h;exact z3 m1 m2 m3 m4 (by simpa [nE] using m3) (fun _=>rfl) List.Pairwise.nil (fun c hc=>by cases hc)
theorem NR {e:dP} {m:bA} (h:fo e m=0):lQ (dx e m)=true:=by
  obtain ⟨cO,hk⟩:=pW h;obtain ⟨h1,h2,h3,h4,h5⟩:=kF cO;obtain ⟨a1,a2,_⟩:=Fw h1 h4 h5;unfold dx;rw [if_pos h];rcases hk with ⟨k,ho⟩|k|k
  ·rw [if_pos k];unfold kX;rw [if_neg ho];split
   ·exact lc a1 h2 (by rw [a2];exact h3)
   ·split
    ·exact lc (C9 h1) (by dsimp only;omega) h5
    ·exact lc a1 h2 (by rw [a2];exact h3)
  ·rw [if_neg (om),if_pos k];exact lc (C9 h1) (by dsimp only;omega) h5
  ·rw [if_neg (om),if_neg (om)];unfold rc;split
   ·exact lc h1 (by simp) (by dsimp only;have:=(cP h1).1;omega)
   ·exact lc h1 h2 h3
theorem K0 {e:dP} {m:bA} (w:Words) (h:fo e m=0):∃ f:bA,∃ ot:List Int,bP e m w=f::ot.map (oE m)∧f.ah≠6∧f.aa=m.aa∧f.src=m.dst∧f.aH=(ot.length:Nat)∧(f.dst=m.src∨f.mu=m.src∧f.dst=e.o)∧
    ot.Pairwise (· < ·)∧ot.length≤64∧∀ c∈ot,0≤c∧c≠m.src∧c≠e.o∧dM e.s c=true:=by
  obtain ⟨cO,hk⟩:=pW h;obtain ⟨h1,h2,h3,h4,h5⟩:=kF cO;unfold bP;rw [if_pos h];rcases hk with ⟨k,ho⟩|k|k
  ·rw [if_pos k];unfold jE;rw [if_neg ho];split
   ·exact ⟨_,[],rfl,by simp [fw],rfl,rfl,rfl,.inr ⟨rfl,rfl⟩,List.Pairwise.nil,by simp,fun c hc=>by cases hc⟩
   ·split
    ·exact ⟨_,[],rfl,by simp [fw],rfl,rfl,rfl,.inl rfl,List.Pairwise.nil,by simp,fun c hc=>by cases hc⟩
    ·exact ⟨_,[],rfl,by simp [fw],rfl,rfl,rfl,.inl rfl,List.Pairwise.nil,by simp,fun c hc=>by cases hc⟩
  ·rw [if_neg (om),if_pos k];have R9:∀ c∈iU e m,0≤c∧c≠m.src∧c≠e.o∧dM e.s c=true:=fun c hc=>by
     obtain ⟨g1,g2⟩:=(D3 h1).1 hc;simp only [List.mem_cons,List.not_mem_nil,or_false,not_or] at g2;exact ⟨(Jt h1 g1).1,g2.1,g2.2,g1⟩
   refine ⟨lW e m w,iU e m,rfl,?_,?_,?_,?_,?_,Ip _ _ _,(by have:=DZ e.s [m.src,e.o] e.s.ax.toNat;have Sl:=(cP h1).2.1;have hd:iU e m=eE e.s [m.src,e.o] e.s.ax.toNat:=rfl;rw [hd];omega),R9⟩;all_goals (unfold lW;split)
   all_goals first
   |(simp [fw];done)
   |rfl
   |exact .inl rfl
   |(split<;>first|(simp [fw];done)|rfl|exact .inl rfl|exact .inr ⟨rfl,rfl⟩)
  ·rw [if_neg (om),if_neg (om)];exact ⟨_,[],rfl,by simp [fw],rfl,rfl,rfl,.inl rfl,List.Pairwise.nil,by simp,fun c hc=>by cases hc⟩
def Mn (S:List bA) (i:Nat):Int:=if i≤1 then -1 else (S.getD (i-1) .zero).dst
theorem Bt {e:dP} {m:bA} {w:Words} (h:fo e m=0):0<(bP e m w).length∧(bP e m w).length≤1000∧
    (∀ i (hi:i<(bP e m w).length),(bP e m w)[i].aa=m.aa∧(bP e m w)[i].src=m.dst∧((bP e m w)[i].ah=6↔0<i))∧
    (∀ (hi:0<(bP e m w).length),(bP e m w)[0].aH=((bP e m w).length:Int)-1∧((bP e m w)[0].dst=m.src∨(bP e m w)[0].mu=m.src∧(bP e m w)[0].dst=e.o))∧
    ∀ i (hi:i<(bP e m w).length),0<i→Mn (bP e m w) i<(bP e m w)[i].dst∧(bP e m w)[i].dst≠m.src∧(bP e m w)[i].dst≠e.o∧(bP e m w)[i].mu=m.src∧dM e.s (bP e m w)[i].dst=true:=by
  obtain ⟨cO,_⟩:=pW h;obtain ⟨hm,_⟩:=kF cO;obtain ⟨f,ot,hS,f1,f2,f3,f4,f5,f6,hl,f7⟩:=K0 w h;rw [hS];refine ⟨by simp,by simp;omega,?_,?_,?_⟩
  ·intro i hi;cases i with
   |zero=>exact ⟨f2,f3,by simpa using f1⟩
   |succ i=>simp [oE,fw]
  ·intro _;exact ⟨by simp [f4],f5⟩
  ·intro i hi hi0;obtain ⟨j,rfl⟩:∃ j,i=j+1:=⟨i-1,om⟩;have hj:j<ot.length:=by simpa using hi
   have h7:=f7 _ (List.getElem_mem hj);have e1:(f::ot.map (oE m))[j+1]=oE m ot[j]:=by simp
   rw [e1];refine ⟨?_,h7.2.1,h7.2.2.1,rfl,h7.2.2.2⟩
   show Mn _ _<ot[j];unfold Mn;split
   ·omega
   ·obtain ⟨k,rfl⟩:∃ k,j=k+1:=⟨j-1,om⟩;have e2:(f::ot.map (oE m)).getD (k+1+1-1) .zero=oE m ot[k]:=by
      simp [List.getD_eq_getElem?_getD,show k<ot.length by omega]
    rw [e2];exact List.pairwise_iff_getElem.1 f6 k (k+1) (om) hj (om)
end
section
attribute [local irreducible] Exit.then Exit.inBlock Code.wp WC WO WE WQ V aW dL Sat bz bK dU IntKind.wrap WR Code.rounds WT KO
theorem gV {F:List HP} {c:au} {n:Int}:az prog 273 [c.val,.int .i64 n] [] F (fun r L'=>r= .bool (decide (An n c.ax))∧L'=[]):=by
  refine ay func273 ntmps273 ?_;repeat' (first|refine gd ?_|intro _|refine bj ?_ ?_|fail)
  all_goals (apply ad rfl rfl ar;(refine ⟨congrArg Value.bool ?_,rfl⟩;(first|(refine decide_eq_decide.2 ?_)|(refine (decide_eq_true ?_).symm)|(refine (decide_eq_false ?_).symm));(first|omega|(simp only [An];omega)));exact bM)
theorem gW {F:List HP} {k:Int}:az prog 272 [.int .i64 k] [] F (fun r L'=>r= .bool (decide (cA k))∧L'=[]):=by
  refine ay func272 ntmps272 ?_;repeat' (first|refine gd ?_|intro _|refine bj ?_ ?_|fail)
  all_goals (apply ad rfl rfl ar;(refine ⟨congrArg Value.bool ?_,rfl⟩;(first|(refine decide_eq_decide.2 ?_)|(refine (decide_eq_true ?_).symm)|(refine (decide_eq_false ?_).symm));(first|omega|(simp only [cA];omega)));exact bM)
theorem Da {F:List HP} {k:Int}:az prog 196 [.int .i64 k] [] F (fun r L'=>r= .int .i64 (ee k)∧L'=[]):=by
  by_cases hk:1≤k∧k≤11
  ·have jR:k=1∨k=2∨k=3∨k=4∨k=5∨k=6∨k=7∨k=8∨k=9∨k=10∨k=11:=by omega
   refine ay func196 ntmps196 ?_;rcases jR with rfl|rfl|rfl|rfl|rfl|rfl|rfl|rfl|rfl|rfl|rfl;all_goals (repeat (first|refine gd ?_|intro _);skip)
   all_goals (apply ad rfl rfl ar;(first|exact cS|exact ⟨by simp [ee]<;>omega,rfl⟩);exact bM)
  ·have Vw:ee k= -1:=by unfold ee;rw [if_neg (om),if_neg (om),if_neg (om)]
   refine ay func196 ntmps196 ?_;repeat' (first|refine gd ?_|intro _|refine bj ?_ ?_|fail)
   all_goals first|omega|(apply ad rfl rfl ar;(first|exact cS|exact ⟨by simp [Vw]<;>omega,rfl⟩);exact bM)
def oS (c:au) (k:Int) (w:Words) (i:Nat):Prop:= -2147483648≤w.at i∧w.at i≤2147483647∧(w.at i≠0→i<c.ag∧(k=3∨k=7))
theorem Db {c:au} {k:Int} {w:Words} (h:k=3∨k=7):cG c w↔∀ i,i<8→oS c k w i:=by
  unfold cG oC oS;constructor
  ·intro hv i hi;have:=hv i hi;refine ⟨this.1,this.2.1,fun hn=>⟨?_,h⟩⟩;have:=this.2.2;omega
  ·intro hv i hi;have:=hv i hi;exact ⟨this.1,this.2.1,fun hn=>Classical.byContradiction fun h0=>by have:=(this.2.2 h0).1;omega⟩
theorem lF {c:au} {k:Int} {w:Words} (h:¬(k=3∨k=7)):w= .zero↔∀ i,i<8→oS c k w i:=by
  constructor
  ·rintro rfl i hi;have:Words.zero.at i=0:=by
     have jR:i=0∨i=1∨i=2∨i=3∨i=4∨i=5∨i=6∨i=7:=by omega
     rcases jR with rfl|rfl|rfl|rfl|rfl|rfl|rfl|rfl<;>rfl
   unfold oS;rw [this];exact ⟨om,om,fun h=>absurd rfl h⟩
  ·intro hv;have hz:∀ i,i<8→w.at i=0:=fun i hi=>Classical.byContradiction fun h0=>h ((hv i hi).2.2 h0).2;obtain ⟨w0,w1,w2,w3,w4,w5,w6,w7⟩:=w;have a0:w0=0:=hz 0 (om);have a1:w1=0:=hz 1 (om);have a2:w2=0:=hz 2 (om);have a3:w3=0:=hz 3 (om);have a4:w4=0:=hz 4 (om);have a5:w5=0:=hz 5 (om);have a6:w6=0:=hz 6 (om);have a7:w7=0:=hz 7 (om);rw [a0,a1,a2,a3,a4,a5,a6,a7]
theorem sW (m:bA) (i:Nat) (h:i<8):(mc m)[7+((i:Nat):Int).toNat*1]? =some (.int .i64 (m.ag.at i)):=by
  have jR:i=0∨i=1∨i=2∨i=3∨i=4∨i=5∨i=6∨i=7:=by omega
  rcases jR with rfl|rfl|rfl|rfl|rfl|rfl|rfl|rfl<;>rfl
theorem xg {c:au} (h:aB c=true):(1≤c.ax∧c.ax≤64)∧(1≤c.bY∧c.bY≤16)∧(1≤c.ag∧c.ag≤8)∧(1≤c.aZ∧c.aZ≤1024):=by
  simp only [aB,eJ,Bool.and_eq_true,decide_eq_true_eq] at h;omega
end
end Go.Sx
