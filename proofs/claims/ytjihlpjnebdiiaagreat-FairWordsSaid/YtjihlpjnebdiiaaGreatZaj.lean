/- Tab, TabLaw, TabPl, CaInv, Vw, CaInv2: several of my texts as one. My own work. -/
import Derived.Test.YtjihlpjnebdiiaaGreatZai
set_option linter.unusedVariables false
set_option linter.unusedSectionVars false
set_option linter.unusedSimpArgs false
set_option maxRecDepth 100000
set_option maxHeartbeats 4000000
namespace Go.Sx
open Go Go.Proofs
section
structure TEnt where
  o:Int
  s:SSet
theorem TEnt.ext_iff' {a b:TEnt}:(a.o=b.o∧a.s=b.s)↔a=b:=by cases a;cases b;simp
instance:DecidableEq TEnt:=fun a b=>decidable_of_iff _ TEnt.ext_iff'
abbrev f4a (e:TEnt) (a:Option Addr) (k:Nat):List Value:=[.int .i64 e.o,.int .i64 e.s.cores,.int .i64 e.s.most,.slice a e.s.ps.length k,.bool e.s.all]
abbrev TEnt.no:TEnt:=⟨0,.no⟩
abbrev tz (p:Option Addr) (n c:Nat):List Value:=[.int .i64 0,.int .i64 0,.int .i64 0,.slice none 0 0,.bool false,.slice p n c,.bool false]
abbrev f6e (e:TEnt) (a:Option Addr) (k:Nat) (p:Option Addr) (n c:Nat) (w:Bool):List Value:=[.int .i64 e.o,.int .i64 e.s.cores,.int .i64 e.s.most,.slice a e.s.ps.length k,.bool e.s.all,.slice p n c,.bool w]
def SB (T U:TypeId) (bm bt:Nat) (m:Msg) (l:List Msg):HP:=Ex fun q:Option Addr×Nat=>[Cells bm T (mc m),Cells bt U (tz q.1 l.length q.2),Own T 15 (.slice q.1 l.length q.2) l.length (aC mc l)]
theorem c4j {T U:TypeId} {bm bt:Nat} {m:Msg} {l:List Msg} {p:Option Addr} {n c:Nat} {xs:List Value} {L M:List HP} (h:Ent L (Cells bm T (mc m)::Cells bt U (tz p n c)::Own T 15 (.slice p n c) n xs::M)) (hn:n=l.length) (hx:xs=aC mc l):Ent L (SB T U bm bt m l::M):=by
  subst hn hx
  exact Ent.trans h (kW (p:=fun q:Option Addr×Nat=>[Cells bm T (mc m),Cells bt U (tz q.1 l.length q.2),Own T 15 (.slice q.1 l.length q.2) l.length (aC mc l)]) (p,c))
section
variable {T U:TypeId} {bm bt:Nat} {m:Msg} {l:List Msg} {P:Program} {N:Nat} {env:Env} {L:List HP} {Q:Exit→Act→World→Prop}
theorem e5p {c:Code} (h:∀ p c0,WC P N c env (Cells bm T (mc m)::Cells bt U (tz p l.length c0)::Own T 15 (.slice p l.length c0) l.length (aC mc l)::L) Q):WC P N c env (SB T U bm bt m l::L) Q:=by
  intro a w ha hw
  obtain ⟨⟨p,c0⟩,hx⟩:=kD hw
  exact h p c0 a w ha hx
theorem a1z {all:Array Oper} {c:List Oper} (h:∀ p c0,WO P N all c env (Cells bm T (mc m)::Cells bt U (tz p l.length c0)::Own T 15 (.slice p l.length c0) l.length (aC mc l)::L) Q):WO P N all c env (SB T U bm bt m l::L) Q:=by
  intro a w ha hw
  obtain ⟨⟨p,c0⟩,hx⟩:=kD hw
  exact h p c0 a w ha hx
end
def a6d (e:TEnt):Bool:=d6 e.s&& decide (-1≤e.o)&& decide (e.o<e.s.cores)
def gS (m:Msg) (kind to who acks own:Int) (w:Words):Msg:=⟨kind,m.line,m.dst,to,who,acks,own,w⟩
def mC (s:SSet):SSet:=⟨s.cores,s.most,[],false⟩
def a4y (e:TEnt) (but:List Int):List Int:=jR e.s but e.s.cores.toNat
def n8 (e:TEnt) (m:Msg):TEnt:=if e.o=m.src then .no else if e.o≠ -1 then ⟨e.o,dH e.s m.src⟩ else if (a4y e []).length=0 then ⟨m.src,mC e.s⟩ else ⟨e.o,dH e.s m.src⟩
def kF (e:TEnt) (m:Msg) (w:Words):List Msg:=if e.o=m.src then [] else if e.o≠ -1 then [gS m 4 e.o m.src 0 0 .zero] else if (a4y e []).length=0 then [gS m 7 m.src 0 0 2 w] else [gS m 7 m.src 0 0 1 w]
def e8 (e:TEnt) (m:Msg):List Int:=a4y e [m.src,e.o]
def pX (e:TEnt) (m:Msg) (w:Words):Msg:=if e.o= -1 then gS m 7 m.src 0 (e8 e m).length 4 w else if e.o=m.src then gS m 8 m.src 0 (e8 e m).length 0 .zero else gS m 5 e.o m.src (e8 e m).length 0 .zero
def a4z (m:Msg) (c:Int):Msg:=gS m 6 c m.src 0 0 .zero
def tG (e:TEnt) (m:Msg) (w:Words):List Msg:=pX e m w::(e8 e m).map (a4z m)
def a0w (e:TEnt) (m:Msg):TEnt:=if e.o=m.src then ⟨-1,e.s⟩ else e
def f1o (e:TEnt) (m:Msg):Bool:=a6d e&& decide (0≤m.src)&& decide (m.src<e.s.cores)
def gC (e:TEnt) (m:Msg):Int:=if f1o e m then (if m.kind=1 then (if e.o=m.src then 7 else 0) else if m.kind=2 then 0 else if m.kind=3 then 0 else 1) else 1
def fY (e:TEnt) (m:Msg):TEnt:=if gC e m=0 then (if m.kind=1 then n8 e m else if m.kind=2 then ⟨m.src,mC e.s⟩ else a0w e m) else .no
def cA (e:TEnt) (m:Msg) (w:Words):List Msg:=if gC e m=0 then (if m.kind=1 then kF e m w else if m.kind=2 then tG e m w else [gS m 10 m.src 0 0 0 .zero]) else []
def jB (e:TEnt) (m:Msg):Bool:=decide (gC e m=0)&& decide (m.kind=3)&& decide (e.o=m.src)
attribute [local irreducible] Exit.then Exit.inBlock Code.wp WC WO WE WQ V bT vL fP cY eI v8 IntKind.wrap WR Code.rounds WT KO
instance:TU Tryz.prog 163 (.func #[99] #[] false):=⟨Tryz.underlying163⟩
abbrev c1u:=SB 99 262
abbrev f4g (e:TEnt) (a:Option Addr) (k:Nat) (m:Msg) (w:Words) (bm bt:Nat):List Value:=[.int .i64 e.o,.int .i64 e.s.cores,.int .i64 e.s.most,.slice a e.s.ps.length k,.bool e.s.all,
  .int .i64 m.kind,.int .i64 m.line,.int .i64 m.src,.int .i64 m.dst,.int .i64 m.who,.int .i64 m.acks,.int .i64 m.own,.int .i64 m.words.w0,.int .i64 m.words.w1,.int .i64 m.words.w2,.int .i64 m.words.w3,.int .i64 m.words.w4,.int .i64 m.words.w5,.int .i64 m.words.w6,.int .i64 m.words.w7,
  .int .i64 w.w0,.int .i64 w.w1,.int .i64 w.w2,.int .i64 w.w3,.int .i64 w.w4,.int .i64 w.w5,.int .i64 w.w6,.int .i64 w.w7,.func (.func 226) #[] #[.pointer (some ⟨bm,0,none⟩),.pointer (some ⟨bt,0,none⟩)]]
abbrev f5a (e:TEnt) (a:Option Addr) (k:Nat) (m:Msg) (w:Words) (bm bt:Nat):Value:= .agg (f4g e a k m w bm bt).toArray
theorem c4k {Q P:Prop} (k:Q) (h:Hid Q→P:=by
  intro k
  first
  |(refine aI ?_;refine uU (id:=1) .true (pl:= .p 0 <| .p 2 <| .r 1 <| .p 4 <| .e true [(3,.e true [(5,.p 6 <| .e false [(7,.done)])]),(5,.e false [(3,.p 6 <| .e false [(7,.done)])])]) k.out)):P:=h ⟨k⟩
theorem d6w {F:List HP} {x m:Msg} {bm bt:Nat} {l:List Msg} (hn:l.length≤1000):FnF Tryz.prog 226 [mv x,.pointer (some ⟨bm,0,none⟩),.pointer (some ⟨bt,0,none⟩)] [c1u bm bt m l] F
    (fun r L'=>r= .tuple [].toArray∧L'=[c1u bm bt m (l++[{ x with line:=m.line,src:=m.dst}])]):=by
  refine FnF.mk' Tryz.func226 rfl rfl Tryz.ntmps226 rfl ?_
  refine e5p fun p c=>?_
  repeat' (first|refine go ?_|intro _|refine c4k ?_|refine dM ?_|refine nV ?_ ?_|fail)
  all_goals (apply aA rfl rfl bH)
  all_goals first|exact ⟨rfl,rfl⟩|(((repeat (first|(with_reducible exact Ent.refl)|exact Ent.nil|(apply iS;exact f1n)|(apply c4j)|apply Ent.drop));all_goals (first|rfl|(with_reducible assumption)|(simp [bJ,dW];done)|(simp [bJ,dW];omega)|omega|(constructor<;>(simp [bJ,dW])<;>omega))))
theorem pY {F:List HP} {m:Msg} {bm bt:Nat} {l:List Msg} (kind to who acks own:Int) (w:Words) (hn:l.length≤1000):FnF Tryz.prog 226 [mv ⟨kind,0,0,to,who,acks,own,w⟩,.pointer (some ⟨bm,0,none⟩),.pointer (some ⟨bt,0,none⟩)] [c1u bm bt m l] F
    (fun r L'=>r= .tuple [].toArray∧L'=[c1u bm bt m (l++[gS m kind to who acks own w])]):=d6w hn
theorem e5q {F:List HP} {e:TEnt} {a:Option Addr} {k:Nat} (hk:RdL F 1 (.slice a e.s.ps.length k) e.s.ps.length (aC ic e.s.ps)) (hn:e.s.ps.length≤1000):FnF Tryz.prog 225 [.agg (f4a e a k).toArray] [] F (fun r L'=>r= .bool (a6d e)∧L'=[]):=by
  have hM:=fun F (hk:RdL F 1 (.slice a e.s.ps.length k) e.s.ps.length (aC ic e.s.ps))=>a7y (F:=F) hk hn
  refine FnF.mk' Tryz.func225 rfl rfl Tryz.ntmps225 rfl ?_
  cases hm:d6 e.s with
  |true=>
   simp only [hm] at hM
   by_cases h1: -1≤e.o
   · repeat first|refine gd ?_|intro _|refine aD @hM ?_
     (apply aA rfl rfl bH;(first|exact oO|exact ⟨by simp [a6d,hm,h1]<;>omega,rfl⟩);exact jM)
   · repeat first|refine gd ?_|intro _|refine aD @hM ?_
     (apply aA rfl rfl bH;(first|exact oO|exact ⟨by simp [a6d,hm,h1]<;>omega,rfl⟩);exact jM)
  |false=>
   simp only [hm] at hM
   repeat first|refine gd ?_|intro _|refine aD @hM ?_
   (apply aA rfl rfl bH;(first|exact oO|exact ⟨by simp [a6d,hm]<;>omega,rfl⟩);exact jM)
theorem b9e {F:List HP} {e:TEnt} {a:Option Addr} {k:Nat} {m:Msg} {w:Words} {bm bt:Nat} (hk:RdL F 1 (.slice a e.s.ps.length k) e.s.ps.length (aC ic e.s.ps)) (hn:e.s.ps.length≤1000) :
    FnF Tryz.prog 243 [f5a e a k m w bm bt] [] F (fun r L'=>∃ a' k',r= .agg (f4a ⟨e.o,dH e.s m.src⟩ a' k').toArray∧L'=[Own 3 1 (.slice a' (dH e.s m.src).ps.length k') (dH e.s m.src).ps.length (aC ic (dH e.s m.src).ps)]):=by
  have hA:=fun F (hk:RdL F 1 (.slice a e.s.ps.length k) e.s.ps.length (aC ic e.s.ps))=>e3c (F:=F) (x:=m.src) hk hn
  refine FnF.mk' Tryz.func243 rfl rfl Tryz.ntmps243 rfl ?_
  repeat first|refine gd ?_|intro _|refine aD @hA ?_
  (apply aA rfl rfl bH)
  · exact ⟨_,_,rfl,rfl⟩
  · exact aB
theorem b0y {F:List HP} {e:TEnt} {a:Option Addr} {k:Nat} {m:Msg} {w:Words} {bm bt:Nat} {own acks:Int} {l:List Msg} (hn:l.length≤1000) :
    FnF Tryz.prog 244 [f5a e a k m w bm bt,.int .i64 own,.int .i64 acks] [c1u bm bt m l] F (fun r L'=>r= .tuple [].toArray∧L'=[c1u bm bt m (l++[gS m 7 m.src 0 acks own w])]):=by
  have hS:=fun F=>pY (F:=F) (m:=m) (bm:=bm) (bt:=bt) (l:=l) 7 m.src 0 acks own w hn
  refine FnF.mk' Tryz.func244 rfl rfl Tryz.ntmps244 rfl ?_
  repeat first|refine gd ?_|intro _|refine aD @hS ?_
  exact bF
theorem uM {Q P:Prop} (k:Q) (h:Hid Q→P:=by
  intro k
  first
  |(refine aI ?_;refine uU (id:=8) .false (pl:= .p 0 <| .p 1 <| .p 3 <| .p 4 <| .r 2 <| .r 5 <| .e true [(6,.p 7 <| .e true [(8,.p 9 <| .p 10 <| .done)])]) k.out)):P:=h ⟨k⟩
theorem d6x {F:List HP} {e:TEnt} {a:Option Addr} {k:Nat} {m:Msg} {w:Words} {bm bt:Nat} (hk:RdL F 1 (.slice a e.s.ps.length k) e.s.ps.length (aC ic e.s.ps)) (hm:d6 e.s=true) :
    FnF Tryz.prog 227 [f5a e a k m w bm bt] [c1u bm bt m []] F (fun r L'=>∃ a' k',r= .tuple [.agg (f4a (n8 e m) a' k').toArray,.bool false,.int .i64 (if e.o=m.src then 7 else 0)].toArray
      ∧L'=[Own 3 1 (.slice a' (n8 e m).s.ps.length k') (n8 e m).s.ps.length (aC ic (n8 e m).s.ps),c1u bm bt m (kF e m w)]):=by
  have hn:=(e9 hm).2.2
  have hSh:=fun F (hk:RdL F 1 (.slice a e.s.ps.length k) e.s.ps.length (aC ic e.s.ps))=>b9e (F:=F) (e:=e) (a:=a) (k:=k) (m:=m) (w:=w) (bm:=bm) (bt:=bt) hk (om)
  have hT:=fun F (hk:RdL F 1 (.slice a e.s.ps.length k) e.s.ps.length (aC ic e.s.ps))=>a4p (F:=F) (u:= .slice none 0 0) (but:=[]) hk hm qS (by simp)
  refine FnF.mk' Tryz.func227 rfl rfl Tryz.ntmps227 rfl ?_
  by_cases h1:e.o=m.src
  · have e1:n8 e m= .no:=if_pos h1
    have e2:kF e m w=[]:=if_pos h1
    rw [e1,e2,if_pos h1]
    repeat first|refine go ?_|intro _|refine uM ?_|refine dM ?_
    (apply aA rfl rfl bH)
    · exact ⟨none,0,rfl,rfl⟩
    · refine Ent.trans ?_ (aO Ent.refl)
      exact aB
  · rw [if_neg h1]
    by_cases h2:e.o= -1
    · by_cases h3:(jR e.s [] e.s.cores.toNat).length=0
      · have e1:n8 e m=⟨m.src,mC e.s⟩:=by unfold n8 a4y;rw [if_neg h1,if_neg (om),if_pos h3]
        have e2:kF e m w=[gS m 7 m.src 0 0 2 w]:=by unfold kF a4y;rw [if_neg h1,if_neg (om),if_pos h3]
        have hD:=fun F=>b0y (F:=F) (e:=e) (a:=a) (k:=k) (m:=m) (w:=w) (bm:=bm) (bt:=bt) (own:=2) (acks:=0) (l:=[]) (by simp)
        simp only [List.nil_append] at hD
        rw [e1,e2]
        repeat' (first|refine go ?_|intro _|refine uM ?_|refine dM ?_|refine aD @hT ?_|refine aD @hD ?_|refine aD @b3n ?_|refine nV ?_ ?_|fail)
        all_goals (apply aA rfl rfl bH)
        all_goals first
        |exact ⟨none,0,rfl,rfl⟩
        |(refine Ent.trans ?_ (aO Ent.refl);exact aB)
      · have e1:n8 e m=⟨e.o,dH e.s m.src⟩:=by unfold n8 a4y;rw [if_neg h1,if_neg (om),if_neg h3]
        have e2:kF e m w=[gS m 7 m.src 0 0 1 w]:=by unfold kF a4y;rw [if_neg h1,if_neg (om),if_neg h3]
        have hD:=fun F=>b0y (F:=F) (e:=e) (a:=a) (k:=k) (m:=m) (w:=w) (bm:=bm) (bt:=bt) (own:=1) (acks:=0) (l:=[]) (by simp)
        simp only [List.nil_append] at hD
        rw [e1,e2]
        repeat first|refine go ?_|intro _|refine uM ?_|refine dM ?_|refine aD @hT ?_|refine aD @hD ?_|refine aD @hSh ?_
        (apply aA rfl rfl bH)
        · exact ⟨_,_,rfl,rfl⟩
        · exact aB
    · have e1:n8 e m=⟨e.o,dH e.s m.src⟩:=by unfold n8 a4y;rw [if_neg h1,if_pos (om)]
      have e2:kF e m w=[gS m 4 e.o m.src 0 0 .zero]:=by unfold kF a4y;rw [if_neg h1,if_pos (om)]
      have hS:=fun F=>pY (F:=F) (m:=m) (bm:=bm) (bt:=bt) (l:=[]) 4 e.o m.src 0 0 .zero (by simp)
      simp only [List.nil_append] at hS
      rw [e1,e2]
      repeat first|refine go ?_|intro _|refine uM ?_|refine dM ?_|refine aD @hS ?_|refine aD @hSh ?_
      (apply aA rfl rfl bH)
      · exact ⟨_,_,rfl,rfl⟩
      · exact aB
theorem e5r {F:List HP} {e:TEnt} {a:Option Addr} {k:Nat} {m:Msg} {w:Words} {bm bt:Nat} :
    FnF Tryz.prog 229 [f5a e a k m w bm bt] [c1u bm bt m []] F (fun r L'=>r= .tuple [.agg (f4a (a0w e m) a k).toArray,.bool (decide (e.o=m.src)),.int .i64 0].toArray∧L'=[c1u bm bt m [gS m 10 m.src 0 0 0 .zero]]):=by
  have hS:=fun F=>pY (F:=F) (m:=m) (bm:=bm) (bt:=bt) (l:=[]) 10 m.src 0 0 0 .zero (by simp)
  simp only [List.nil_append] at hS
  refine FnF.mk' Tryz.func229 rfl rfl Tryz.ntmps229 rfl ?_
  by_cases h1:e.o=m.src
  · have e1:a0w e m=⟨-1,e.s⟩:=if_pos h1
    rw [e1]
    repeat first|refine gd ?_|intro _|refine aD @hS ?_
    (apply aA rfl rfl bH;(first|exact oO|exact ⟨by simp [h1]<;>omega,rfl⟩);exact jM)
  · have e1:a0w e m=e:=if_neg h1
    rw [e1]
    repeat first|refine gd ?_|intro _|refine aD @hS ?_
    (apply aA rfl rfl bH;(first|exact oO|exact ⟨by simp [h1]<;>omega,rfl⟩);exact jM)
theorem n9 {Q P:Prop} (k:Q) (h:Hid Q→P:=by
  intro k
  first
  |(refine aI ?_;refine uU (id:=14) .false (pl:= .p 0 <| .p 1 <| .p 3 <| .p 4 <| .r 2 <| .r 5 <| .e true [(6,.p 7 <| .e true [(8,.p 9 <| .p 10 <| .done)])]) k.out)):P:=h ⟨k⟩
theorem d1h {F:List HP} {e:TEnt} {a:Option Addr} {k:Nat} {m:Msg} {w:Words} {bm bt:Nat} (hk:RdL F 1 (.slice a e.s.ps.length k) e.s.ps.length (aC ic e.s.ps)) (hm:d6 e.s=true) :
    FnF Tryz.prog 228 [f5a e a k m w bm bt] [c1u bm bt m []] F (fun r L'=>r= .tuple [.agg (f4a ⟨m.src,mC e.s⟩ none 0).toArray,.bool false,.int .i64 0].toArray∧L'=[c1u bm bt m (tG e m w)]):=by
  have hc64:=(e9 hm).2.1
  have htl:=c7d e.s [m.src,e.o] e.s.cores.toNat
  have hT:=fun F (hk:RdL F 1 (.slice a e.s.ps.length k) e.s.ps.length (aC ic e.s.ps)) u (hb:RdL F 1 u 2 [.int .i64 m.src,.int .i64 e.o])=>@a4p F e.s a k u [m.src,e.o] hk hm hb (by simp)
  have ho:e8 e m=jR e.s [m.src,e.o] e.s.cores.toNat:=rfl
  have hw:tG e m w=pX e m w::(e8 e m).map (a4z m):=rfl
  have hf:pX e m w=if e.o= -1 then gS m 7 m.src 0 (e8 e m).length 4 w else if e.o=m.src then gS m 8 m.src 0 (e8 e m).length 0 .zero else gS m 5 e.o m.src (e8 e m).length 0 .zero:=rfl
  rw [hw]
  rw [ho] at hf ⊢
  generalize jR e.s [m.src,e.o] e.s.cores.toNat=ot at hT htl hf ⊢
  have hD:=fun F=>b0y (F:=F) (e:=e) (a:=a) (k:=k) (m:=m) (w:=w) (bm:=bm) (bt:=bt) (own:=4) (acks:=ot.length) (l:=[]) (by simp)
  simp only [List.nil_append] at hD
  have hS8:=fun F=>pY (F:=F) (m:=m) (bm:=bm) (bt:=bt) (l:=[]) 8 m.src 0 ot.length 0 .zero (by simp)
  simp only [List.nil_append] at hS8
  have hS5:=fun F=>pY (F:=F) (m:=m) (bm:=bm) (bt:=bt) (l:=[]) 5 e.o m.src ot.length 0 .zero (by simp)
  simp only [List.nil_append] at hS5
  refine FnF.mk' Tryz.func228 rfl rfl Tryz.ntmps228 rfl ?_
  repeat first|refine go ?_|intro _|refine n9 ?_|refine dM ?_|refine aD @hT ?_
  rename_i b1 b2 bs p q
  apply b5j (P:=Tryz.prog) (fun _:Unit=>[(1,.pointer (some ⟨b1,0,none⟩)),(2,.pointer (some ⟨b2,0,none⟩)),(3,.bool false),(4,.int .i64 0),(54,.slice p ot.length q),(55,.int .i64 ot.length),(56,.int .i64 0)])
    (fun _=>c1u bm bt m [pX e m w]::Own 3 1 (.slice p ot.length q) ot.length (aC ic ot)::Cells b2 135 [.int .i64 0,.int .i64 0,.int .i64 0,.slice none 0 0,.bool false]::Cells b1 288 (f4g e a k m w bm bt)::F) (fun _=>True)
  · intro join
    by_cases h1:e.o= -1
    · rw [if_pos h1] at hf
      repeat first|refine go ?_|intro _|refine n9 ?_|refine dM ?_|refine aD @hD ?_
      skip
      exact join () _ _ trivial (by exact m9) (by rw [hf];exact aB)
    · rw [if_neg h1] at hf
      by_cases h2:e.o=m.src
      · rw [if_pos h2] at hf
        repeat first|refine go ?_|intro _|refine n9 ?_|refine dM ?_|refine aD @hS8 ?_
        skip
        exact join () _ _ trivial (by exact m9) (by rw [hf];exact aB)
      · rw [if_neg h2] at hf
        repeat first|refine go ?_|intro _|refine n9 ?_|refine dM ?_|refine aD @hS5 ?_
        skip
        exact join () _ _ trivial (by exact m9) (by rw [hf];exact aB)
  · intro _ _
    clear hf hD hS8 hS5
    generalize pX e m w=f1
    apply aW (E0:=[(1,_),(2,_),(54,_),(55,_)]) (fun E0 (i:Nat)=>(56,.int .i64 i)::E0) (fun i=>c1u bm bt m (f1::(ot.take i).map (a4z m))::Own 3 1 (.slice p ot.length q) ot.length (aC ic ot)::Cells b2 135 [.int .i64 0,.int .i64 0,.int .i64 0,.slice none 0 0,.bool false]::Cells b1 288 (f4g e a k m w bm bt)::F) (fun i=>i≤ot.length) (fun i=>ot.length-i) 0
    · exact m9
    · exact Nat.zero_le _
    · simp only [List.take_zero,List.map_nil];exact aB
    · intro i hi
      by_cases hlt:i<ot.length
      · have hS:=fun F=>pY (F:=F) (m:=m) (bm:=bm) (bt:=bt) (l:=f1::(ot.take i).map (a4z m)) 6 ot[i] m.src 0 0 .zero (by simp;omega)
        have et:f1::(ot.take (i+1)).map (a4z m)=(f1::(ot.take i).map (a4z m))++[gS m 6 ot[i] m.src 0 0 .zero]:=by
          rw [List.take_add_one,List.getElem?_eq_getElem hlt];simp only [List.map_append,List.cons_append,List.map_cons,List.map_nil,Option.toList_some];rfl
        repeat first|refine go ?_|intro _|refine n9 ?_|refine dM ?_|refine aD @hS ?_
        refine aT (i+1) (om) (om) ?_ ?_
        · exact m9
        · rw [et];exact aB
      · have hil:i=ot.length:=by omega
        subst hil
        rw [List.take_length]
        repeat first|refine go ?_|intro _|refine n9 ?_|refine dM ?_|refine aD @b3n ?_
        (apply aA rfl rfl bH)
        · exact ⟨rfl,rfl⟩
        · exact aB
theorem d1i {e:TEnt} {m:Msg} (h:d6 e.s=true):(n8 e m).s.ps.length≤9:=by
  have h8:=e9 h
  have ha:=d5b e.s m.src
  unfold n8
  split
  · simp
  · split
    · dsimp only;omega
    · split
      · simp [mC]
      · dsimp only;omega
theorem d1j {e:TEnt} {m:Msg} {w:Words}:(kF e m w).length≤1:=by
  unfold kF;split<;>(try split)<;>(try split)<;>simp
theorem d6y {F:List HP} {e:TEnt} {a:Option Addr} {k:Nat} {m:Msg} {w:Words} (hk:RdL F 1 (.slice a e.s.ps.length k) e.s.ps.length (aC ic e.s.ps)) (hn:e.s.ps.length≤1000) :
    FnF Tryz.prog 195 [.agg (f4a e a k).toArray,mv m,wv w] [] F (fun r L'=>∃ a' k' p c,r= .tuple [.agg (f6e (fY e m) a' k' p (cA e m w).length c (jB e m)).toArray,.int .i64 (gC e m)].toArray
      ∧L'=[Own 3 1 (.slice a' (fY e m).s.ps.length k') (fY e m).s.ps.length (aC ic (fY e m).s.ps),Own 99 15 (.slice p (cA e m w).length c) (cA e m w).length (aC mc (cA e m w))]):=by
  have hM:=fun F (hk:RdL F 1 (.slice a e.s.ps.length k) e.s.ps.length (aC ic e.s.ps))=>e5q (F:=F) hk hn
  refine FnF.mk' Tryz.func195 rfl rfl Tryz.ntmps195 rfl ?_
  cases hok:f1o e m with
  |false=>
   have e1:gC e m=1:=by simp [gC,hok]
   have e2:fY e m= .no:=by simp [fY,e1]
   have e3:cA e m w=[]:=by simp [cA,e1]
   have e4:jB e m=false:=by simp [jB,e1]
   rw [e1,e2,e3,e4]
   cases hm:a6d e with
   |false=>
    simp only [hm] at hM
    repeat first|refine gd ?_|intro _|refine aD @hM ?_
    (apply aA rfl rfl bH)
    · exact ⟨none,0,none,0,rfl,rfl⟩
    · refine aO (aO ?_)
      exact aB
   |true=>
    simp only [hm] at hM
    have hb:¬(0≤m.src∧m.src<e.s.cores):=by
      intro hh;simp [f1o,hm,hh] at hok
    by_cases h0:m.src<0
    · repeat first|refine gd ?_|intro _|refine aD @hM ?_
      (apply aA rfl rfl bH)
      · exact ⟨none,0,none,0,rfl,rfl⟩
      · refine aO (aO ?_)
        exact aB
    · repeat first|refine gd ?_|intro _|refine aD @hM ?_
      (apply aA rfl rfl bH)
      · exact ⟨none,0,none,0,rfl,rfl⟩
      · refine aO (aO ?_)
        exact aB
  |true=>
   have hm:a6d e=true:=by simp only [f1o,Bool.and_eq_true] at hok;exact hok.1.1
   have hs:d6 e.s=true:=by simp only [a6d,Bool.and_eq_true] at hm;exact hm.1.1
   have hb:0≤m.src∧m.src<e.s.cores:=by simp only [f1o,Bool.and_eq_true,decide_eq_true_eq] at hok;exact ⟨hok.1.2,hok.2⟩
   have h8:=(e9 hs).2.2
   simp only [hm] at hM
   obtain ⟨hb0,hb1⟩:=hb
   by_cases h1:m.kind=1
   · have hk3:¬m.kind=3:=by omega
     have hk2:¬m.kind=2:=by omega
     have hR:=fun F (hk:RdL F 1 (.slice a e.s.ps.length k) e.s.ps.length (aC ic e.s.ps)) bm bt=>d6x (F:=F) (e:=e) (a:=a) (k:=k) (m:=m) (w:=w) (bm:=bm) (bt:=bt) hk hs
     by_cases he:e.o=m.src
     · have e1:gC e m=7:=by simp [gC,hok,h1,he]
       have e2:fY e m= .no:=by simp [fY,e1]
       have e3:cA e m w=[]:=by simp [cA,e1]
       have e4:jB e m=false:=by simp [jB,e1]
       rw [e1,e2,e3,e4]
       simp only [if_pos he] at hR
       repeat first|refine gd ?_|intro _|refine aD @hM ?_
       rename_i b3 b4 b5 b6 b8 b9
       refine n6 (L':=c1u b4 b8 m []::Cells b9 288 (f4g e a k m w b4 b8)::Cells b6 262 (tz none 0 0)::F) (c4j (p:=none) (n:=0) (c:=0) (xs:=[]) (Ent.trans (aO (e:=99) (sz:=15) (p:=none) Ent.refl) (by exact aB)) rfl rfl) ?_
       repeat first|refine gd ?_|intro _|refine aD @hR ?_
       (first|refine aX (c1u b4 b8 m (kF e m w)) ?_|refine aY (c1u b4 b8 m (kF e m w)) ?_|refine aZ (c1u b4 b8 m (kF e m w)) ?_)
       refine a1z fun p c=>?_
       repeat first|refine gd ?_|intro _
       (apply aA rfl rfl bH)
       · exact ⟨none,0,none,0,rfl,rfl⟩
       · refine aO (aO ?_)
         exact aB
     · have e1:gC e m=0:=by simp [gC,hok,h1,he]
       have e2:fY e m=n8 e m:=by simp [fY,e1,h1]
       have e3:cA e m w=kF e m w:=by simp [cA,e1,h1]
       have e4:jB e m=false:=by simp [jB,e1,h1]
       have hl:(n8 e m).s.ps.length≤9:=d1i hs
       have hl2:(kF e m w).length≤1:=d1j
       rw [e1,e2,e3,e4]
       simp only [if_neg he] at hR
       repeat first|refine gd ?_|intro _|refine aD @hM ?_
       rename_i b3 b4 b5 b6 b8 b9
       refine n6 (L':=c1u b4 b8 m []::Cells b9 288 (f4g e a k m w b4 b8)::Cells b6 262 (tz none 0 0)::F) (c4j (p:=none) (n:=0) (c:=0) (xs:=[]) (Ent.trans (aO (e:=99) (sz:=15) (p:=none) Ent.refl) (by exact aB)) rfl rfl) ?_
       repeat first|refine gd ?_|intro _|refine aD @hR ?_
       (first|refine aX (c1u b4 b8 m (kF e m w)) ?_|refine aY (c1u b4 b8 m (kF e m w)) ?_|refine aZ (c1u b4 b8 m (kF e m w)) ?_)
       refine a1z fun p c=>?_
       repeat first|refine gd ?_|intro _
       refine n6 (aO (e:=3) (sz:=1) (p:=none) Ent.refl) ?_
       repeat first|refine gd ?_|intro _
       simp only [Nat.zero_add,List.nil_append]
       (apply aA rfl rfl bH)
       · exact ⟨_,_,_,_,rfl,rfl⟩
       · exact aB
   · by_cases h2:m.kind=2
     · skip
       have hk3:¬m.kind=3:=by omega
       have hR:=fun F (hk:RdL F 1 (.slice a e.s.ps.length k) e.s.ps.length (aC ic e.s.ps)) bm bt=>d1h (F:=F) (e:=e) (a:=a) (k:=k) (m:=m) (w:=w) (bm:=bm) (bt:=bt) hk hs
       have e1:gC e m=0:=by simp [gC,hok,h2]
       have e2:fY e m=⟨m.src,mC e.s⟩:=by simp [fY,e1,h2]
       have e3:cA e m w=tG e m w:=by simp [cA,e1,h2]
       haveI hnil:∀ L,RdL L 1 (.slice none (⟨m.src,mC e.s⟩:TEnt).s.ps.length 0) 0 []:=fun L=>qS
       have e4:jB e m=false:=by simp [jB,e1,h2]
       rw [e1,e2,e3,e4]
       repeat first|refine gd ?_|intro _|refine aD @hM ?_
       rename_i b3 b4 b5 b6 b8 b9
       refine n6 (L':=c1u b4 b8 m []::Cells b9 288 (f4g e a k m w b4 b8)::Cells b6 262 (tz none 0 0)::F) (c4j (p:=none) (n:=0) (c:=0) (xs:=[]) (Ent.trans (aO (e:=99) (sz:=15) (p:=none) Ent.refl) (by exact aB)) rfl rfl) ?_
       repeat first|refine gd ?_|intro _|refine aD @hR ?_
       (first|refine aX (c1u b4 b8 m (tG e m w)) ?_|refine aY (c1u b4 b8 m (tG e m w)) ?_|refine aZ (c1u b4 b8 m (tG e m w)) ?_)
       refine a1z fun p c=>?_
       repeat first|refine gd ?_|intro _
       refine n6 (aO (e:=3) (sz:=1) (p:=none) Ent.refl) ?_
       repeat first|refine gd ?_|intro _
       simp only [Nat.zero_add,List.nil_append]
       (apply aA rfl rfl bH)
       · exact ⟨_,_,_,_,rfl,rfl⟩
       · simp only [mC,List.length_nil,d7c];exact aB
     · by_cases h3:m.kind=3
       · skip
         skip
         have hR:=fun F bm bt=>e5r (F:=F) (e:=e) (a:=a) (k:=k) (m:=m) (w:=w) (bm:=bm) (bt:=bt)
         have e1:gC e m=0:=by simp [gC,hok,h3]
         have e2:fY e m=a0w e m:=by simp [fY,e1,h3]
         have e3:cA e m w=[gS m 10 m.src 0 0 0 .zero]:=by simp [cA,e1,h3]
         have e4:jB e m=decide (e.o=m.src):=by simp [jB,e1,h3]
         have e5:(a0w e m).s=e.s:=by unfold a0w;split<;>rfl
         haveI hk':RdL F 1 (.slice a (a0w e m).s.ps.length k) (a0w e m).s.ps.length (aC ic (a0w e m).s.ps):=by rw [e5];exact hk
         have hl:(a0w e m).s.ps.length≤8:=by rw [e5];omega
         rw [e1,e2,e3,e4]
         repeat first|refine gd ?_|intro _|refine aD @hM ?_
         rename_i b3 b4 b5 b6 b8 b9
         refine n6 (L':=c1u b4 b8 m []::Cells b9 288 (f4g e a k m w b4 b8)::Cells b6 262 (tz none 0 0)::F) (c4j (p:=none) (n:=0) (c:=0) (xs:=[]) (Ent.trans (aO (e:=99) (sz:=15) (p:=none) Ent.refl) (by exact aB)) rfl rfl) ?_
         repeat first|refine gd ?_|intro _|refine aD @hR ?_
         (first|refine aX (c1u b4 b8 m ([gS m 10 m.src 0 0 0 .zero])) ?_|refine aY (c1u b4 b8 m ([gS m 10 m.src 0 0 0 .zero])) ?_|refine aZ (c1u b4 b8 m ([gS m 10 m.src 0 0 0 .zero])) ?_)
         refine a1z fun p c=>?_
         repeat first|refine gd ?_|intro _
         refine n6 (aO (e:=3) (sz:=1) (p:=none) Ent.refl) ?_
         repeat first|refine gd ?_|intro _
         simp only [Nat.zero_add,List.nil_append]
         (apply aA rfl rfl bH)
         · exact ⟨_,_,_,_,rfl,rfl⟩
         · exact aB
       · have e1:gC e m=1:=by simp [gC,hok,h1,h2,h3]
         have e2:fY e m= .no:=by simp [fY,e1]
         have e3:cA e m w=[]:=by simp [cA,e1]
         have e4:jB e m=false:=by simp [jB,e1]
         rw [e1,e2,e3,e4]
         repeat first|refine gd ?_|intro _|refine aD @hM ?_
         (apply aA rfl rfl bH)
         · exact ⟨none,0,none,0,rfl,rfl⟩
         · refine aO (aO ?_)
           exact aB
end
section
attribute [local irreducible] Exit.then Exit.inBlock Code.wp WC WO WE WQ V bT vL fP cY eI v8 IntKind.wrap WR Code.rounds WT KO
theorem e5s {F:List HP} {cores most:Int}:FnF Tryz.prog 97 [.int .i64 cores,.int .i64 most] [] F
    (fun r L'=>r= .tuple [.agg (f4a (if d6 ⟨cores,most,[],false⟩ then ⟨-1,⟨cores,most,[],false⟩⟩ else .no) none 0).toArray,.int .i64 (if d6 ⟨cores,most,[],false⟩ then 0 else 1)].toArray∧L'=[]):=by
  have hN:=fun F=>e3b (F:=F) (cores:=cores) (most:=most)
  cases e:d6 ⟨cores,most,[],false⟩ with
  |true=>
   simp only [e,if_true] at hN ⊢
   refine FnF.mk' Tryz.func97 rfl rfl Tryz.ntmps97 rfl ?_
   repeat first|refine gd ?_|intro _|refine aD @hN ?_
   exact bF
  |false=>
   simp only [e,Bool.false_eq_true,if_false] at hN ⊢
   refine FnF.mk' Tryz.func97 rfl rfl Tryz.ntmps97 rfl ?_
   repeat first|refine gd ?_|intro _|refine aD @hN ?_
   exact bF
end
section
theorem a9c {s:SSet} (h1:1≤s.cores) (h2:s.cores≤64) (h3:0≤s.most) (h4:s.most≤8) (h5:(s.ps.length:Int)≤s.most) (h6:s.all=true→s.ps=[]) (h7:s.ps.Pairwise (· < ·)) (h8:∀ c∈s.ps,0≤c∧c<s.cores):d6 s=true:=by
  have h9:iN s.cores (-1) s.ps=true:=b3m h7 fun c hc=>by have:=h8 c hc;exact ⟨om,this.2⟩
  have h10:(!(s.all&& decide (0<s.ps.length)))=true:=by
    cases ha:s.all with
    |false=>rfl
    |true=>rw [h6 ha];rfl
  simp only [d6,h1,h2,h3,h4,h5,h9,h10,decide_true,Bool.and_true]
theorem c1i {s:SSet} {x:Int} (h:d6 s=true) (hx0:0≤x) (hx1:x<s.cores):d6 (dH s x)=true∧(dH s x).cores=s.cores∧(dH s x).most=s.most:=by
  obtain ⟨m1,m2,m3,m4,m5,m6,m7,m8⟩:=e9 h
  have e1:pM s x=0:=by simp only [pM,h,if_true];rw [if_neg (om)]
  unfold dH
  rw [if_pos e1]
  cases hh:cS s x with
  |true=>exact ⟨h,rfl,rfl⟩
  |false=>
   rw [if_neg Bool.false_ne_true]
   by_cases hf:(s.ps.length:Int)=s.most
   · rw [if_pos hf]
     exact ⟨a9c m1 m2 m3 m4 (by simpa using m3) (fun _=>rfl) List.Pairwise.nil (fun c hc=>by cases hc),rfl,rfl⟩
   · rw [if_neg hf]
     have hal:=b8l hx0 hx1 hh
     have hx:¬x∈s.ps:=by simpa [cS,hal] using hh
     refine ⟨a9c m1 m2 m3 m4 ?_ ?_ (b8j m7 hx) ?_,rfl,rfl⟩
     · simp only [b0g];omega
     · intro h;dsimp only at h;rw [hal] at h;cases h
     · intro c hc
       rcases (d4x x c s.ps).1 hc with rfl|hc
       · exact ⟨hx0,hx1⟩
       · exact m8 c hc
theorem c8d {s:SSet} {c:Int} (h:d6 s=true) (hh:cS s c=true):0≤c∧c<s.cores:=by
  obtain ⟨_,_,_,_,_,_,_,m8⟩:=e9 h
  unfold cS at hh
  cases ha:s.all with
  |true=>rw [ha,if_pos rfl] at hh;simpa using hh
  |false=>rw [ha,if_neg Bool.false_ne_true] at hh;exact m8 c (of_decide_eq_true hh)
theorem e5t {s:SSet} {but:List Int} {c:Int} (h:d6 s=true):c∈jR s but s.cores.toNat↔cS s c=true∧¬c∈but:=by
  unfold jR
  rw [List.mem_filter,d5a]
  simp only [Bool.and_eq_true,Bool.not_eq_true',decide_eq_false_iff_not]
  constructor
  · exact fun h=>h.2
  · intro hh
    have:=c8d h hh.1
    exact ⟨om,hh⟩
theorem c4l (s:SSet) (but:List Int) (n:Nat):(jR s but n).Pairwise (· < ·):=(b8k n).filter _
theorem lP {e:TEnt} {m:Msg} (h:gC e m=0):f1o e m=true∧(m.kind=1∧¬e.o=m.src∨m.kind=2∨m.kind=3):=by
  unfold gC at h
  split at h
  · rename_i hk
    refine ⟨hk,?_⟩
    split at h
    · split at h
      · cases h
      · exact .inl ⟨by assumption,by assumption⟩
    · split at h
      · exact .inr (.inl (by assumption))
      · split at h
        · exact .inr (.inr (by assumption))
        · cases h
  · cases h
theorem mP {e:TEnt} {m:Msg} (h:f1o e m=true):d6 e.s=true∧ -1≤e.o∧e.o<e.s.cores∧0≤m.src∧m.src<e.s.cores:=by
  simp only [f1o,a6d,Bool.and_eq_true,decide_eq_true_eq] at h
  exact ⟨h.1.1.1.1,h.1.1.1.2,h.1.1.2,h.1.2,h.2⟩
theorem vF {e:TEnt} (h1:d6 e.s=true) (h2: -1≤e.o) (h3:e.o<e.s.cores):a6d e=true:=by simp [a6d,h1,h2,h3]
theorem b3z {s:SSet} (h:d6 s=true):d6 (mC s)=true:=by
  obtain ⟨m1,m2,m3,m4,m5,m6,m7,m8⟩:=e9 h
  exact a9c m1 m2 m3 m4 (by simpa [mC] using m3) (fun _=>rfl) List.Pairwise.nil (fun c hc=>by cases hc)
theorem d6z {e:TEnt} {m:Msg} (h:gC e m=0):a6d (fY e m)=true:=by
  obtain ⟨hok,hk⟩:=lP h
  obtain ⟨h1,h2,h3,h4,h5⟩:=mP hok
  obtain ⟨a1,a2,_⟩:=c1i h1 h4 h5
  unfold fY
  rw [if_pos h]
  rcases hk with ⟨k,ho⟩|k|k
  · rw [if_pos k]
    unfold n8
    rw [if_neg ho]
    split
    · exact vF a1 h2 (by rw [a2];exact h3)
    · split
      · exact vF (b3z h1) (by dsimp only;omega) h5
      · exact vF a1 h2 (by rw [a2];exact h3)
  · rw [if_neg (om),if_pos k]
    exact vF (b3z h1) (by dsimp only;omega) h5
  · rw [if_neg (om),if_neg (om)]
    unfold a0w
    split
    · exact vF h1 (by simp) (by dsimp only;have:=(e9 h1).1;omega)
    · exact vF h1 h2 h3
theorem d1k {e:TEnt} {m:Msg} (w:Words) (h:gC e m=0):∃ f:Msg,∃ ot:List Int,cA e m w=f::ot.map (a4z m)∧f.kind≠6∧f.line=m.line∧f.src=m.dst∧f.acks=(ot.length:Nat)∧(f.dst=m.src∨f.who=m.src∧f.dst=e.o)∧
    ot.Pairwise (· < ·)∧ot.length≤64∧∀ c∈ot,0≤c∧c≠m.src∧c≠e.o∧cS e.s c=true:=by
  obtain ⟨hok,hk⟩:=lP h
  obtain ⟨h1,h2,h3,h4,h5⟩:=mP hok
  unfold cA
  rw [if_pos h]
  rcases hk with ⟨k,ho⟩|k|k
  · rw [if_pos k]
    unfold kF
    rw [if_neg ho]
    split
    · exact ⟨_,[],rfl,by simp [gS],rfl,rfl,rfl,.inr ⟨rfl,rfl⟩,List.Pairwise.nil,by simp,fun c hc=>by cases hc⟩
    · split
      · exact ⟨_,[],rfl,by simp [gS],rfl,rfl,rfl,.inl rfl,List.Pairwise.nil,by simp,fun c hc=>by cases hc⟩
      · exact ⟨_,[],rfl,by simp [gS],rfl,rfl,rfl,.inl rfl,List.Pairwise.nil,by simp,fun c hc=>by cases hc⟩
  · rw [if_neg (om),if_pos k]
    have hot:∀ c∈e8 e m,0≤c∧c≠m.src∧c≠e.o∧cS e.s c=true:=fun c hc=>by
      obtain ⟨g1,g2⟩:=(e5t h1).1 hc
      simp only [List.mem_cons,List.not_mem_nil,or_false,not_or] at g2
      exact ⟨(c8d h1 g1).1,g2.1,g2.2,g1⟩
    refine ⟨pX e m w,e8 e m,rfl,?_,?_,?_,?_,?_,c4l _ _ _,(by have:=c7d e.s [m.src,e.o] e.s.cores.toNat;have h64:=(e9 h1).2.1;have hd:e8 e m=jR e.s [m.src,e.o] e.s.cores.toNat:=rfl;rw [hd];omega),hot⟩
    all_goals (unfold pX;split)
    all_goals first
    |(simp [gS];done)
    |rfl
    |exact .inl rfl
    |(split<;>first|(simp [gS];done)|rfl|exact .inl rfl|exact .inr ⟨rfl,rfl⟩)
  · rw [if_neg (om),if_neg (om)]
    exact ⟨_,[],rfl,by simp [gS],rfl,rfl,rfl,.inl rfl,List.Pairwise.nil,by simp,fun c hc=>by cases hc⟩
def e0m (S:List Msg) (i:Nat):Int:=if i≤1 then -1 else (S.getD (i-1) .zero).dst
theorem uN {e:TEnt} {m:Msg} {w:Words} (h:gC e m=0):0<(cA e m w).length∧(cA e m w).length≤1000∧
    (∀ i (hi:i<(cA e m w).length),(cA e m w)[i].line=m.line∧(cA e m w)[i].src=m.dst∧((cA e m w)[i].kind=6↔0<i))∧
    (∀ (hi:0<(cA e m w).length),(cA e m w)[0].acks=((cA e m w).length:Int)-1∧((cA e m w)[0].dst=m.src∨(cA e m w)[0].who=m.src∧(cA e m w)[0].dst=e.o))∧
    ∀ i (hi:i<(cA e m w).length),0<i→e0m (cA e m w) i<(cA e m w)[i].dst∧(cA e m w)[i].dst≠m.src∧(cA e m w)[i].dst≠e.o∧(cA e m w)[i].who=m.src∧cS e.s (cA e m w)[i].dst=true:=by
  obtain ⟨hok,_⟩:=lP h
  obtain ⟨hm,_⟩:=mP hok
  obtain ⟨f,ot,hS,f1,f2,f3,f4,f5,f6,hl,f7⟩:=d1k w h
  rw [hS]
  refine ⟨by simp,by simp;omega,?_,?_,?_⟩
  · intro i hi
    cases i with
    |zero=>exact ⟨f2,f3,by simpa using f1⟩
    |succ i=>simp [a4z,gS]
  · intro _
    exact ⟨by simp [f4],f5⟩
  · intro i hi hi0
    obtain ⟨j,rfl⟩:∃ j,i=j+1:=⟨i-1,om⟩
    have hj:j<ot.length:=by simpa using hi
    have h7:=f7 _ (List.getElem_mem hj)
    have e1:(f::ot.map (a4z m))[j+1]=a4z m ot[j]:=by simp
    rw [e1]
    refine ⟨?_,h7.2.1,h7.2.2.1,rfl,h7.2.2.2⟩
    show e0m _ _<ot[j]
    unfold e0m
    split
    · omega
    · obtain ⟨k,rfl⟩:∃ k,j=k+1:=⟨j-1,om⟩
      have e2:(f::ot.map (a4z m)).getD (k+1+1-1) .zero=a4z m ot[k]:=by
        simp [List.getD_eq_getElem?_getD,show k<ot.length by omega]
      rw [e2]
      exact List.pairwise_iff_getElem.1 f6 k (k+1) (om) hj (om)
end
section
def c1j (x:Way):Prop:=0≤x.st∧x.st≤4
def a6e (c:Cfg) (n:Nat) (m:Miss):Prop:=aL c m.line=true∧e6n m∧m.got≤n
def oA (c:Cfg) (n:Nat) (k:CaS):Prop:=cF c k.ways∧(∀ x∈k.ways,c1j x)∧(∀ m∈k.mis,a6e c n m)
theorem vG {c:Cfg} {n n':Nat} {m:Miss} (hn:n≤n') (h:a6e c n m):a6e c n' m:=⟨h.1,h.2.1,by have:=h.2.2;omega⟩
theorem a9d {c:Cfg} {n n':Nat} {k:CaS} (hn:n≤n') (h:oA c n k):oA c n' k:=⟨h.1,h.2.1,fun m hm=>vG hn (h.2.2 m hm)⟩
theorem d1l (c:Cfg) (n:Nat) (w:Nat):oA c n ⟨List.replicate w .zero,[],[]⟩:=
  ⟨c1z c w,fun x hx=>by rw [(List.mem_replicate.1 hx).2];exact ⟨by decide,by decide⟩,fun m hm=>by cases hm⟩
theorem b4a {P:Way→Prop} {c:Cfg} {l:List Way} {line:Int} (h:∀ x∈l,P x) (hz:P .zero):P (aP c l line):=by
  by_cases g:cJ c l line<0
  · unfold aP;rw [if_pos g];exact hz
  · obtain ⟨i,hi⟩:∃ i:Nat,cJ c l line=i:=⟨(cJ c l line).toNat,om⟩
    obtain ⟨h2,_⟩:=p6 hi
    rw [kT hi h2]
    exact h _ (List.getElem_mem h2)
theorem c8e:c1j .zero:=⟨by decide,by decide⟩
theorem f0n {c:Cfg} {l:List Way} {line way:Int} (h:∀ x∈l,c1j x):∀ x∈kR c l line way,c1j x:=by
  unfold kR
  split
  · exact gO h c8e
  · exact h
theorem c8f {c:Cfg} {l:List Way} {line:Int} {lk:Bool} (h:∀ x∈l,c1j x):∀ x∈fS c l line lk,c1j x:=by
  unfold fS
  split
  · exact gO h (b4a (P:=c1j) h c8e)
  · exact h
theorem b2a {c:Cfg} {l:List Way} {line st:Int} {w:Words} (h:∀ x∈l,c1j x):∀ x∈fD c l line st w,c1j x:=by
  unfold fD
  split
  · rename_i h0
    refine gO h ?_
    unfold pE at h0
    split at h0
    · cases h0
    · split at h0
      · cases h0
      · rename_i h1 h2
        unfold c1j;dsimp only;omega
  · exact h
theorem sP {l:List Miss} {line:Int} (h:dB l line=true):cV l line∈l∧(cV l line).line=line:=by
  obtain ⟨i,hi,_,e,el⟩:=oY h
  rw [e];exact ⟨List.getElem_mem hi,el⟩
theorem e5u {c:Cfg} {n:Nat} {room line kind:Int} {l:List Miss} (hl:aL c line=true) (h:∀ m∈l,a6e c n m):∀ m∈jS room l line kind,a6e c n m:=by
  unfold jS
  split
  · rename_i h0
    intro m hm
    rcases List.mem_append.1 hm with g|g
    · exact h m g
    · simp only [List.mem_singleton] at g
      subst g
      have hk:kind=1∨kind=2:=by
        unfold q9 at h0
        split at h0
        · cases h0
        · omega
      exact ⟨hl,⟨hk,by dsimp only;omega,by dsimp only;omega,fun g=>by dsimp only at g;omega⟩,by dsimp only;omega⟩
  · exact h
theorem a2a {l:List Miss} {line acks own:Int} (h:iV l line acks own=0):dB l line=true∧a8e (cV l line) acks own=true:=by
  unfold iV at h
  split at h
  · rename_i h1
    split at h
    · rename_i h2;exact ⟨h1,h2⟩
    · cases h
  · cases h
theorem a9e {m:Miss} {acks own:Int} (h:a8e m acks own=true):m.needs= -1∧m.got≤acks:=by
  unfold a8e at h
  rw [Bool.and_eq_true,decide_eq_true_eq] at h
  exact h.1
theorem b6j {c:Cfg} {n:Nat} {l:List Miss} {line acks own:Int} {w:Words} (h:∀ m∈l,a6e c n m):∀ m∈iW l line acks own w,a6e c n m:=by
  unfold iW
  split
  · rename_i h0
    obtain ⟨h1,h2⟩:=a2a h0
    obtain ⟨g1,g2⟩:=a9e h2
    obtain ⟨a1,a2,a3⟩:=h _ (sP h1).1
    obtain ⟨b1,b2,b3,b4⟩:=a2
    exact gO h ⟨a1,⟨b1,by dsimp only;omega,b3,fun _=>by dsimp only;omega⟩,a3⟩
  · exact h
theorem b0z {c:Cfg} {n:Nat} {l:List Miss} {line acks:Int} (h:∀ m∈l,a6e c n m):∀ m∈gL l line acks,a6e c n m:=by
  unfold gL
  split
  · rename_i h0
    obtain ⟨h1,h2⟩:=a2a h0
    obtain ⟨g1,g2⟩:=a9e h2
    obtain ⟨a1,a2,a3⟩:=h _ (sP h1).1
    obtain ⟨b1,b2,b3,b4⟩:=a2
    exact gO h ⟨a1,⟨b1,by dsimp only;omega,b3,fun _=>by dsimp only;omega⟩,a3⟩
  · exact h
theorem c8g {l:List Miss} {line:Int} (h:xD l line=0):dB l line=true∧(cV l line).kind≠1∧(cV l line).needs≠(cV l line).got:=by
  unfold xD at h
  split at h
  · rename_i h1
    split at h
    · cases h
    · rename_i h2;exact ⟨h1,fun g=>h2 (.inl g),fun g=>h2 (.inr g)⟩
  · cases h
theorem c5o {c:Cfg} {n:Nat} {l:List Miss} {line:Int} (h:∀ m∈l,a6e c n m):∀ m∈nS l line,a6e c (n+1) m:=by
  unfold nS
  split
  · rename_i h0
    obtain ⟨h1,h2,h3⟩:=c8g h0
    obtain ⟨a1,a2,a3⟩:=h _ (sP h1).1
    obtain ⟨b1,b2,b3,b4⟩:=a2
    exact gO (fun m hm=>vG (om) (h m hm)) ⟨a1,⟨b1,b2,by dsimp only;omega,fun g=>by have:=b4 g;dsimp only at g ⊢;omega⟩,by dsimp only;omega⟩
  · exact fun m hm=>vG (om) (h m hm)
theorem f0o {c:Cfg} {n:Nat} {l:List Miss} {line:Int} (h:∀ m∈l,a6e c n m):∀ m∈sO l line,a6e c n m:=by
  unfold sO
  split
  · rename_i h0
    have h1:dB l line=true:=by
      unfold yT at h0;simp only [Bool.and_eq_true] at h0;exact h0.1.1
    obtain ⟨a1,a2,a3⟩:=h _ (sP h1).1
    exact gO h ⟨a1,a2,a3⟩
  · exact h
theorem d7a {c:Cfg} {n:Nat} {l:List Miss} {line:Int} (h:∀ m∈l,a6e c n m):∀ m∈i4 l line,a6e c n m:=by
  unfold i4
  split
  · exact fun m hm=>h m (List.mem_of_mem_eraseIdx hm)
  · exact h
theorem b1a {c:Cfg} {n:Nat} {k:CaS} {line:Int} (h:oA c n k):oA c n (cC c k line):=by
  unfold cC
  split
  · exact ⟨wP h.1,b2a h.2.1,f0o h.2.2⟩
  · exact h
theorem d9o {c:Cfg} {k:CaS} {line kind:Int} (h:dV c k line kind=0):aL c line=true:=by
  unfold dV at h
  split at h
  · cases h
  · rename_i h1
    cases g:aL c line with
    |true=>rfl
    |false=>exact absurd (.inl g) h1
theorem e5v {c:Cfg} {n:Nat} {k:CaS} {line kind:Int} (h:oA c n k):oA c n (bM c k line kind):=by
  unfold bM
  split
  · rename_i h0
    refine ⟨?_,?_,e5u (d9o h0) h.2.2⟩
    · dsimp only;split
      · exact b2m h.1
      · exact a9n h.1
    · dsimp only;split
      · exact c8f h.2.1
      · exact f0n h.2.1
  · exact h
theorem f0p {c:Cfg} {n:Nat} {k:CaS} {s w:Int} (h:oA c n k):oA c n (d5 c k s w):=by
  unfold d5
  split
  · exact ⟨wP h.1,b2a h.2.1,h.2.2⟩
  · exact h
theorem c1k {c:Cfg} {n:Nat} {k:CaS} {line st:Int} {g:Bool} (h:oA c n k):oA c n (cQ c k line st g):=by
  unfold cQ
  split
  · exact ⟨wP h.1,b2a h.2.1,h.2.2⟩
  · split
    · exact ⟨h.1,h.2.1,h.2.2⟩
    · exact h
theorem d7b {c:Cfg} {n:Nat} {core:Int} {k:CaS} {m:Msg} (h:oA c n k):oA c (n+1) (aS c core k m):=by
  have h':oA c (n+1) k:=a9d (om) h
  unfold aS
  split
  · split
    · exact c1k h'
    · split
      · exact c1k h'
      · split
        · split
          · unfold i5
            split
            · exact ⟨wP h'.1,b2a h'.2.1,h'.2.2⟩
            · exact h'
          · exact h'
        · split
          · unfold lH
            split
            · exact b1a ⟨h'.1,h'.2.1,b6j h'.2.2⟩
            · exact h'
          · split
            · unfold sC
              split
              · exact b1a ⟨h'.1,h'.2.1,b0z h'.2.2⟩
              · exact h'
            · split
              · unfold pB
                split
                · exact b1a ⟨h'.1,h'.2.1,c5o h.2.2⟩
                · exact h'
              · exact ⟨h'.1,h'.2.1,h'.2.2⟩
  · exact h'
theorem e5w {c:Cfg} {n:Nat} {k:CaS} (h:oA c n k):oA c n (dY c k):=by
  unfold dY
  split
  · exact ⟨b2m h.1,c8f h.2.1,d7a h.2.2⟩
  · exact h
theorem f0q {c:Cfg} {n:Nat} {k:CaS} {x:Op3} (h:oA c n k):oA c n (dR c k x):=by
  unfold dR
  split
  · exact ⟨wP h.1,b2a h.2.1,h.2.2⟩
  · exact h
end
section
def vw (c:Cfg) (l:List Way) (line:Int):Option Way:=if cJ c l line<0 then none else some (aP c l line)
theorem rZ {c:Cfg} {l:List Way} {line:Int} (h:cJ c l line= -1):vw c l line=none:=by unfold vw;rw [h];rfl
theorem a9f {c:Cfg} {l:List Way} {line:Int} {i:Nat} (h:cJ c l line=i):vw c l line=some (aP c l line):=by unfold vw;rw [if_neg (om)]
theorem a2t {c:Cfg} {l:List Way} {line:Int}:cJ c l line= -1∨∃ i:Nat,cJ c l line=i:=by
  have:=p5 c l line
  by_cases h:cJ c l line= -1
  · exact .inl h
  · exact .inr ⟨(cJ c l line).toNat,om⟩
theorem qU {c:Cfg} {l:List Way} {line:Int}:jA c l line=(vw c l line).isSome:=by
  rcases a2t (c:=c) (l:=l) (line:=line) with h|⟨i,h⟩
  · rw [(a3a h).1,rZ h];rfl
  · rw [(a2j h).1,a9f h];rfl
theorem c1l {c:Cfg} {l:List Way} {line:Int}:aP c l line=(vw c l line).getD .zero:=by
  rcases a2t (c:=c) (l:=l) (line:=line) with h|⟨i,h⟩
  · rw [(a3a h).2.2,rZ h];rfl
  · rw [a9f h];rfl
theorem a2u {c:Cfg} {l:List Way} {line:Int} {w:Way} (h:vw c l line=some w):w.line=line∧bC w=true∧w∈l∧aL c line=true∧aP c l line=w:=by
  rcases a2t (c:=c) (l:=l) (line:=line) with g|⟨i,g⟩
  · rw [rZ g] at h;cases h
  · rw [a9f g] at h
    cases h
    obtain ⟨b1,b2,b3,_⟩:=p6 g
    have e:=kT g b1
    exact ⟨a2z g,by rw [e];exact (kS.1 b3).1,by rw [e];exact List.getElem_mem b1,b2,rfl⟩
theorem b7o {c:Cfg} {l:List Way} {w:Way} (hI:cF c l) (hw:w∈l) (ht:bC w=true):vw c l w.line=some w:=by
  obtain ⟨i,hi,rfl⟩:=List.getElem_of_mem hw
  obtain ⟨h1,h2⟩:=yF (line:=l[i].line) hI hi (by simp [oG,ht])
  rw [a9f h2,kT h2 (om)]
  congr 2;omega
theorem b6k {c:Cfg} {l:List Way} {line st:Int} {w:Words}:pE c l line st w=if (vw c l line).isNone then 5 else if st<0∨st>4∨a6o c w=true then 1 else 0:=by
  unfold pE
  rcases a2t (c:=c) (l:=l) (line:=line) with h|⟨i,h⟩
  · rw [rZ h,if_pos h];rfl
  · rw [a9f h,if_neg (om)];rfl
theorem c5p {c:Cfg} {l:List Way} {line st:Int} {w:Words} (hI:cF c l) (x:Int):vw c (fD c l line st w) x =
    if x=line∧pE c l line st w=0 then (match vw c l line with|some y=>if y.lk=true∨st≠0 then some ⟨st,line,if st=0 then .zero else w,y.lk⟩ else none|none=>none) else vw c l x:=by
  by_cases hx:x=line
  · subst hx
    by_cases he:pE c l x st w=0
    · rw [if_pos ⟨rfl,he⟩]
      obtain ⟨h1,h2,h3⟩:=d3a hI he
      have e:=qU (c:=c) (l:=l) (line:=x)
      rw [h1] at e
      cases hv:vw c l x with
      |none=>rw [hv] at e;cases e
      |some y=>
       have hy:=(a2u hv).2.2.2.2
       rw [hy] at h2 h3
       dsimp only
       by_cases hlk:y.lk=true∨st≠0
       · rw [if_pos hlk]
         obtain ⟨g1,_,g3⟩:=h2 hlk
         have e2:=qU (c:=c) (l:=fD c l x st w) (line:=x)
         rw [g1] at e2
         cases hv2:vw c (fD c l x st w) x with
         |none=>rw [hv2] at e2;cases e2
         |some z=>rw [←g3,(a2u hv2).2.2.2.2]
       · rw [if_neg hlk]
         obtain ⟨g1,_,_⟩:=h3 ⟨by cases hl:y.lk with|false=>rfl|true=>exact absurd (.inl hl) hlk,Decidable.byContradiction fun g=>hlk (.inr g)⟩
         have e2:=qU (c:=c) (l:=fD c l x st w) (line:=x)
         rw [g1] at e2
         cases hv2:vw c (fD c l x st w) x with
         |none=>rfl
         |some z=>rw [hv2] at e2;cases e2
    · rw [if_neg (fun h=>he h.2)]
      have:fD c l x st w=l:=if_neg he
      rw [this]
  · rw [if_neg (fun h=>hx h.1)]
    obtain ⟨h1,h2⟩:=c9f (st:=st) (w:=w) hI (Ne.symm hx)
    unfold vw;rw [h1,h2]
theorem b6l {c:Cfg} {l:List Way} {line:Int} {lk:Bool} (hI:cF c l) (x:Int):vw c (fS c l line lk) x =
    if x=line then (match vw c l line with|some y=>if lk=true∨y.st≠0 then some ⟨y.st,line,y.words,lk⟩ else none|none=>none) else vw c l x:=by
  by_cases hx:x=line
  · subst hx
    rw [if_pos rfl]
    rcases a2t (c:=c) (l:=l) (line:=x) with h|⟨i,h⟩
    · have:fS c l x lk=l:=by unfold fS a5d;rw [if_pos h];rfl
      rw [this,rZ h]
    · have hl:=a2z h
      have he:a5d c l x=0:=if_neg (om)
      have e1:fS c l x lk=l.set (cT c x+i) { aP c l x with lk:=lk}:=by unfold fS;rw [if_pos he,h,Int.toNat_natCast]
      obtain ⟨t1,t2⟩:=b2t (w:={ aP c l x with lk:=lk}) hI h hl
      rw [e1,a9f h]
      dsimp only
      by_cases hc:lk=true∨(aP c l x).st≠0
      · rw [if_pos hc]
        have ht:bC { aP c l x with lk:=lk}=true:=by
          unfold bC;dsimp only
          rcases hc with g|g
          · rw [g];simp
          · simp [g]
        obtain ⟨g1,g2⟩:=t1 ht
        rw [a9f g1,g2]
        simp only [hl]
      · rw [if_neg hc]
        have ht:bC { aP c l x with lk:=lk}=false:=by
          unfold bC;dsimp only
          cases lk with
          |true=>exact absurd (.inl rfl) hc
          |false=>simp;exact Decidable.byContradiction fun g=>hc (.inr g)
        exact rZ (t2 ht)
  · rw [if_neg hx]
    obtain ⟨h1,h2⟩:=c2d (lk:=lk) hI (Ne.symm hx)
    unfold vw;rw [h1,h2]
theorem d9p {c:Cfg} {l:List Way} {line:Int} (hI:cF c l) (hf:¬cZ c l line<0) (hno:vw c l line=none) (x:Int):vw c (kR c l line (cZ c l line)) x=if x=line then some ⟨0,line,.zero,true⟩ else vw c l x:=by
  by_cases hx:x=line
  · subst hx
    rw [if_pos rfl]
    obtain ⟨i,hi⟩:∃ i:Nat,cZ c l x=i:=⟨(cZ c l x).toNat,om⟩
    obtain ⟨_,_,_,h4,h5⟩:=e8y hI hi (by rw [qU,hno];rfl)
    rw [hi,a9f h4,h5]
  · rw [if_neg hx]
    obtain ⟨h1,h2⟩:=c9e (way:=cZ c l line) hI (Ne.symm hx)
    unfold vw;rw [h1,h2]
end
section
def iI (k:CaS):List Int:=k.mis.map (·.line)
def b7p (k:CaS):List Int:=k.buf.map (·.line)
structure CaI2 (c:Cfg) (ways:List Way) (M B:List Int):Prop where
  wd:∀ x w,vw c ways x=some w→a6o c w.words=false∧(w.st=0→w.words= .zero)
  ml:∀ x∈M,∃ w,vw c ways x=some w∧w.lk=true
  lm:∀ x w,vw c ways x=some w→w.lk=true→x∈M
  bn:∀ x∈B,vw c ways x=none
  nd:M.Nodup
  bd:B.Nodup
theorem tH (c:Cfg):a6o c .zero=false:=by
  unfold a6o
  rw [gT]
  · decide
  · intro j hj _
    have:(Words.zero.list.drop c.words.toNat)[j]=0:=by
      have hm:(Words.zero.list.drop c.words.toNat)[j]∈Words.zero.list:=List.mem_of_mem_drop (List.getElem_mem hj)
      have hz:∀ y∈Words.zero.list,y=0:=by decide
      exact hz _ hm
    rw [this];rfl
theorem c8h {c:Cfg} {l:List Way} {line st:Int} {w:Words} (h:pE c l line st w=0):(∃ y,vw c l line=some y)∧0≤st∧st≤4∧a6o c w=false:=by
  rw [b6k] at h
  cases hv:vw c l line with
  |none=>rw [hv] at h;cases h
  |some y=>
   rw [hv] at h
   simp only [Option.isNone_some,Bool.false_eq_true,if_false] at h
   split at h
   · cases h
   · rename_i h1
     refine ⟨⟨y,rfl⟩,om,om,?_⟩
     cases g:a6o c w with
     |false=>rfl
     |true=>exact absurd (.inr (.inr g)) h1
theorem b2b {c:Cfg} {ways:List Way} {M B:List Int} {line st:Int} {w:Words} (hI:cF c ways) (h:CaI2 c ways M B):CaI2 c (fD c ways line st w) M B:=by
  have hv:=c5p (line:=line) (st:=st) (w:=w) hI
  by_cases he:pE c ways line st w=0
  · obtain ⟨⟨y,hy⟩,h0,h4,ho⟩:=c8h he
    have hl:vw c (fD c ways line st w) line=if y.lk=true∨st≠0 then some ⟨st,line,if st=0 then .zero else w,y.lk⟩ else none:=by rw [hv,if_pos ⟨rfl,he⟩,hy]
    have hx:∀ x,x≠line→vw c (fD c ways line st w) x=vw c ways x:=fun x g=>by rw [hv,if_neg (fun g2=>g g2.1)]
    refine ⟨fun x z hz=>?_,fun x hm=>?_,fun x z hz hk=>?_,fun x hb=>?_,h.nd,h.bd⟩
    · by_cases g:x=line
      · subst g
        rw [hl] at hz
        split at hz
        · cases hz
          dsimp only
          refine ⟨?_,fun g0=>by rw [if_pos g0]⟩
          split
          · exact tH c
          · exact ho
        · cases hz
      · rw [hx x g] at hz;exact h.wd x z hz
    · by_cases g:x=line
      · subst g
        obtain ⟨z,hz,hk⟩:=h.ml x hm
        rw [hy] at hz;cases hz
        exact ⟨⟨st,x,if st=0 then .zero else w,y.lk⟩,by rw [hl,if_pos (.inl hk)],hk⟩
      · rw [hx x g];exact h.ml x hm
    · by_cases g:x=line
      · subst g
        rw [hl] at hz
        split at hz
        · cases hz;exact h.lm x y hy hk
        · cases hz
      · rw [hx x g] at hz;exact h.lm x z hz hk
    · by_cases g:x=line
      · subst g
        have:=h.bn x hb
        rw [hy] at this;cases this
      · rw [hx x g];exact h.bn x hb
  · have:fD c ways line st w=ways:=if_neg he
    rw [this];exact h
theorem x8 {l:List Miss} {line:Int}:dB l line=true↔line∈l.map (·.line):=by
  constructor
  · intro h
    obtain ⟨h1,h2⟩:=sP h
    exact List.mem_map.2 ⟨_,h1,h2⟩
  · intro h
    obtain ⟨m,hm,e⟩:=List.mem_map.1 h
    cases g:dB l line with
    |true=>rfl
    |false=>
     have:=(dL (of_decide_eq_false g)).2 m hm
     simp [e] at this
theorem c1m {l:List WbE} {line:Int}:lJ l line=true↔line∈l.map (·.line):=by
  constructor
  · intro h
    obtain ⟨i,hi,_,_,e⟩:=a5x h
    exact List.mem_map.2 ⟨_,List.getElem_mem hi,e⟩
  · intro h
    obtain ⟨m,hm,e⟩:=List.mem_map.1 h
    cases g:lJ l line with
    |true=>rfl
    |false=>
     have:=(dL (of_decide_eq_false g)).2 m hm
     simp [e] at this
theorem a9g {l:List Miss} {line:Int} {x:Miss} (h:dB l line=true) (hx:x.line=(cV l line).line):(l.set (rJ l line).toNat x).map (·.line)=l.map (·.line):=by
  obtain ⟨i,hi,e0,ea,el⟩:=oY h
  rw [e0,Int.toNat_natCast,List.map_set,hx,ea]
  have:(l.map (·.line)).set i l[i].line=l.map (·.line):=by
    have e:l[i].line=(l.map (·.line))[i]'(by simpa using hi):=by simp
    rw [e,List.set_getElem_self]
  exact this
theorem a9h {l:List Miss} {line acks own:Int} {w:Words}:(iW l line acks own w).map (·.line)=l.map (·.line):=by
  unfold iW
  split
  · rename_i h;exact a9g (a2a h).1 rfl
  · rfl
theorem a2b {l:List Miss} {line acks:Int}:(gL l line acks).map (·.line)=l.map (·.line):=by
  unfold gL
  split
  · rename_i h;exact a9g (a2a h).1 rfl
  · rfl
theorem b7q {l:List Miss} {line:Int}:(nS l line).map (·.line)=l.map (·.line):=by
  unfold nS
  split
  · rename_i h;exact a9g (c8g h).1 rfl
  · rfl
theorem f0r {l:List Miss} {line:Int} (h:yT l line=true):dB l line=true:=by
  unfold yT at h;simp only [Bool.and_eq_true] at h;exact h.1.1
theorem d9q {l:List Miss} {line:Int}:(sO l line).map (·.line)=l.map (·.line):=by
  unfold sO
  split
  · rename_i h;exact a9g (f0r h) rfl
  · rfl
abbrev c1v (c:Cfg) (k:CaS):Prop:=CaI2 c k.ways (iI k) (b7p k)
theorem b7r {c:Cfg} {k:CaS} {line:Int} (hI:cF c k.ways) (h:c1v c k):c1v c (cC c k line):=by
  unfold cC
  split
  · unfold c1v iI b7p
    rw [d9q]
    exact b2b hI h
  · exact h
theorem f3q {c:Cfg} {k:CaS} {line kind:Int} (hI:cF c k.ways) (h:c1v c k):c1v c (bM c k line kind):=by
  unfold bM
  split
  · rename_i h0
    unfold dV at h0
    split at h0
    · cases h0
    · rename_i hb
      split at h0
      · cases h0
      · rename_i h6
        split at h0
        · cases h0
        · rename_i h4
          split at h0
          · cases h0
          · rename_i h5
            have hm:dB k.mis line=false:=by cases g:dB k.mis line with|false=>rfl|true=>exact absurd (.inl g) h6
            have hw:lJ k.buf line=false:=by cases g:lJ k.buf line with|false=>rfl|true=>exact absurd (.inr (.inl g)) h6
            have hM:line∉iI k:=fun g=>by rw [x8.2 g] at hm;cases hm
            have hB:line∉b7p k:=fun g=>by rw [c1m.2 g] at hw;cases hw
            have hkd:¬(kind≠1∧kind≠2):=fun g=>hb (.inr g)
            have hop:jS c.mshrs k.mis line kind=k.mis++[⟨line,kind,-1,0,0,.zero,false,false⟩]:=by
              have:q9 c.mshrs k.mis line kind=0:=by
                unfold q9
                rw [if_neg hkd,hm,if_neg Bool.false_ne_true,if_neg h4]
              unfold jS;rw [if_pos this]
            have eM:iI ⟨if jA c k.ways line then fS c k.ways line true else kR c k.ways line (cZ c k.ways line),jS c.mshrs k.mis line kind,k.buf⟩=iI k++[line]:=by
              unfold iI;dsimp only;rw [hop,List.map_append];rfl
            obtain ⟨y,hy,hyk,hyo⟩:∃ y:Way,(∀ x,vw c (if jA c k.ways line then fS c k.ways line true else kR c k.ways line (cZ c k.ways line)) x=if x=line then some y else vw c k.ways x)∧y.lk=true∧(a6o c y.words=false∧(y.st=0→y.words= .zero)):=by
              cases hf:vw c k.ways line with
              |none=>
               have hfb:jA c k.ways line=false:=by rw [qU,hf];rfl
               rw [hfb,if_neg Bool.false_ne_true]
               exact ⟨⟨0,line,.zero,true⟩,d9p hI (fun g=>h5 ⟨hfb,g⟩) hf,rfl,tH c,fun _=>rfl⟩
              |some z=>
               have hfb:jA c k.ways line=true:=by rw [qU,hf];rfl
               rw [hfb,if_pos rfl]
               exact ⟨⟨z.st,line,z.words,true⟩,fun x=>by rw [b6l hI,hf];simp,rfl,h.wd line z hf⟩
            unfold c1v
            rw [eM]
            refine ⟨fun x w hx=>?_,fun x hx=>?_,fun x w hx hk=>?_,fun x hx=>?_,?_,h.bd⟩
            · dsimp only at hx
              rw [hy] at hx
              split at hx
              · cases hx;exact hyo
              · exact h.wd x w hx
            · dsimp only
              rw [hy]
              split
              · exact ⟨y,rfl,hyk⟩
              · rename_i g
                rcases List.mem_append.1 hx with g2|g2
                · exact h.ml x g2
                · exact absurd (by simpa using g2) g
            · dsimp only at hx
              rw [hy] at hx
              split at hx
              · rename_i g;exact List.mem_append.2 (.inr (by simp [g]))
              · exact List.mem_append.2 (.inl (h.lm x w hx hk))
            · dsimp only
              have hne:x≠line:=fun g=>by subst g;exact hB hx
              rw [hy,if_neg hne]
              exact h.bn x hx
            · rw [List.nodup_append]
              exact ⟨h.nd,by simp,fun a ha b hb2=>by simp at hb2;subst hb2;exact fun g=>hM (g▸ha)⟩
  · exact h
theorem vH {c:Cfg} {l:List Way} {s k:Int} (h:(oH c l s k).st≠0):oH c l s k∈l:=by
  unfold oH at h ⊢
  by_cases h1:pF c s k=true
  · rw [if_pos h1] at h ⊢
    by_cases h2:s.toNat*c.ways.toNat+k.toNat<l.length
    · rw [←lI h2];exact List.getElem_mem h2
    · rw [List.getD_eq_getElem?_getD,List.getElem?_eq_none (om)] at h
      exact absurd rfl h
  · rw [if_neg h1] at h
    exact absurd rfl h
theorem f5b {c:Cfg} {k:CaS} {s w:Int} (hI:cF c k.ways) (h:c1v c k):c1v c (d5 c k s w):=by
  unfold d5
  split
  · rename_i h0
    unfold lM at h0
    split at h0
    · cases h0
    · rename_i h1
      split at h0
      · cases h0
      · rename_i h2
        split at h0
        · cases h0
        · rename_i h3
          have hst:(oH c k.ways s w).st≠0:=fun g=>h1 (.inr g)
          have hmem:=vH hst
          have hlk:(oH c k.ways s w).lk=false:=by cases g:(oH c k.ways s w).lk with|false=>rfl|true=>exact absurd g h2
          generalize oH c k.ways s w=x at *
          have hvx:=b7o hI hmem (by simp [bC,hst])
          have hset:pE c k.ways x.line 0 .zero=0:=by rw [b6k,hvx];simp [tH]
          have h':=b2b (line:=x.line) (st:=0) (w:= .zero) hI h
          have hgone:vw c (fD c k.ways x.line 0 .zero) x.line=none:=by rw [c5p hI,if_pos ⟨rfl,hset⟩,hvx];simp [hlk]
          refine ⟨h'.wd,h'.ml,h'.lm,fun z hz=>?_,h'.nd,?_⟩
          · unfold b7p at hz
            dsimp only at hz ⊢
            split at hz
            · unfold mD at hz
              split at hz
              · exact h'.bn z hz
              · split at hz
                · exact h'.bn z hz
                · rw [List.map_append] at hz
                  rcases List.mem_append.1 hz with g|g
                  · exact h'.bn z g
                  · simp at g;subst g;exact hgone
            · exact h'.bn z hz
          · unfold b7p
            dsimp only
            split
            · unfold mD
              split
              · exact h.bd
              · split
                · exact h.bd
                · rename_i g1 g2
                  rw [List.map_append,List.nodup_append]
                  exact ⟨h.bd,by simp,fun a ha b hb2=>by simp at hb2;subst hb2;exact fun g=>g1 (c1m.2 (g▸ha))⟩
            · exact h.bd
  · exact h
theorem c8i {l:List WbE} {line:Int}:(kH l line).map (·.line)=l.map (·.line):=by
  unfold kH
  split
  · rename_i h
    simp only [Bool.and_eq_true] at h
    obtain ⟨i,hi,e0,ea,el⟩:=a5x h.1
    rw [e0,Int.toNat_natCast,List.map_set,ea]
    have e:l[i].line=(l.map (·.line))[i]'(by simpa using hi):=by simp
    dsimp only
    rw [e,List.set_getElem_self]
  · rfl
theorem d9r {c:Cfg} {k:CaS} {line st:Int} {g:Bool} (hI:cF c k.ways) (h:c1v c k):c1v c (cQ c k line st g):=by
  unfold cQ
  split
  · exact b2b hI h
  · split
    · unfold c1v b7p;dsimp only;rw [c8i];exact h
    · exact h
theorem b4b {α:Type} {l m:List α} (h:l.Sublist m) (hn:m.Nodup):l.Nodup:=List.Nodup.sublist h hn
theorem f0s {c:Cfg} {k:CaS} {line:Int} (h:c1v c k):c1v c (b2g k line):=by
  have hs:((mR k.buf line).map (·.line)).Sublist (k.buf.map (·.line)):=by
    unfold mR
    split
    · exact (List.eraseIdx_sublist _ _).map _
    · exact List.Sublist.refl _
  exact ⟨h.wd,h.ml,h.lm,fun x hx=>h.bn x (hs.mem hx),h.nd,b4b hs h.bd⟩
theorem f0t {c:Cfg} {core:Int} {k:CaS} {m:Msg} (hI:cF c k.ways) (h:c1v c k):c1v c (aS c core k m):=by
  have ms:∀ mis':List Miss,mis'.map (·.line)=k.mis.map (·.line)→c1v c ⟨k.ways,mis',k.buf⟩:=fun mis' e=>by
    unfold c1v iI;dsimp only;rw [e];exact h
  unfold aS
  split
  · split
    · exact d9r hI h
    · split
      · exact d9r hI h
      · split
        · split
          · unfold i5
            split
            · exact b2b hI h
            · exact h
          · exact h
        · split
          · unfold lH
            split
            · exact b7r hI (ms _ a9h)
            · exact h
          · split
            · unfold sC
              split
              · exact b7r hI (ms _ a2b)
              · exact h
            · split
              · unfold pB
                split
                · exact b7r hI (ms _ b7q)
                · exact h
              · exact f0s h
  · exact h
theorem c1n {l:List Int} (hn:l.Nodup) {i j:Nat} (hi:i<l.length) (hj:j<l.length) (e:l[i]=l[j]):i=j:=by
  rw [List.nodup_iff_pairwise_ne,List.pairwise_iff_getElem] at hn
  rcases Nat.lt_trichotomy i j with g|g|g
  · exact absurd e (hn i j hi hj g)
  · exact g
  · exact absurd e.symm (hn j i hj hi g)
theorem a5a {l:List Int} (hn:l.Nodup) {i:Nat} (hi:i<l.length) (x:Int):x∈l.eraseIdx i↔x∈l∧x≠l[i]:=by
  constructor
  · intro h
    obtain ⟨j,hj,hne,e⟩:=List.mem_eraseIdx_iff_getElem.1 h
    exact ⟨e▸List.getElem_mem hj,fun g=>hne (c1n hn hj hi (by rw [e,g]))⟩
  · rintro ⟨h,hne⟩
    obtain ⟨j,hj,e⟩:=List.getElem_of_mem h
    exact List.mem_eraseIdx_iff_getElem.2 ⟨j,hj,fun g=>hne (by subst g;exact e.symm),e⟩
theorem d9s {α β:Type} {f:α→β} {l:List α} {i:Nat}:(l.eraseIdx i).map f=(l.map f).eraseIdx i:=by
  simp [List.eraseIdx_eq_take_drop_succ,List.map_take,List.map_drop]
theorem a3s {k:CaS} (hn:(iI k).Nodup) (h:gD k=true):s6 k.mis (cG k)=0∧∃ i,∃ hi:i<k.mis.length,rJ k.mis (cG k)=i∧cG k=k.mis[i].line∧k.mis[i].owes=true:=by
  have h':0≤jH k.mis:=of_decide_eq_true h
  obtain ⟨i,hi,e0,ho,_⟩:=cR h'
  have e0':jH k.mis=i:=e0
  have el:cG k=k.mis[i].line:=by unfold cG;rw [if_pos h',e0',Int.toNat_natCast,←lI hi]
  have hin:dB k.mis (cG k)=true:=x8.2 (List.mem_map.2 ⟨_,List.getElem_mem hi,el.symm⟩)
  obtain ⟨j,hj,e1,ea,ej⟩:=oY hin
  have hij:j=i:=c1n hn (by simpa [iI] using hj) (by simpa [iI] using hi) (by simp [iI,ej,el])
  subst hij
  refine ⟨?_,j,hi,e1,el,ho⟩
  unfold s6
  rw [if_pos hin,ea,ho];rfl
theorem f3r {c:Cfg} {k:CaS} (hI:cF c k.ways) (h:c1v c k):c1v c (dY c k):=by
  unfold dY
  split
  · rename_i h0
    obtain ⟨he,i,hi,ep,el,_⟩:=a3s h.nd h0
    have hcl:i4 k.mis (cG k)=k.mis.eraseIdx i:=by unfold i4;rw [if_pos he,ep,Int.toNat_natCast]
    have eM:iI ⟨fS c k.ways (cG k) false,i4 k.mis (cG k),k.buf⟩=(iI k).eraseIdx i:=by
      unfold iI;dsimp only;rw [hcl,d9s]
    have hi':i<(iI k).length:=by simpa [iI] using hi
    have ei:(iI k)[i]=cG k:=by rw [el];simp [iI]
    have hmem:=a5a h.nd hi'
    rw [ei] at hmem
    obtain ⟨y,hy,hyk⟩:=h.ml (cG k) (by rw [←ei];exact List.getElem_mem hi')
    have hv:=b6l (line:=cG k) (lk:=false) hI
    rw [hy] at hv
    unfold c1v
    rw [eM]
    refine ⟨fun x w hx=>?_,fun x hx=>?_,fun x w hx hk=>?_,fun x hx=>?_,b4b (List.eraseIdx_sublist _ _) h.nd,h.bd⟩
    · dsimp only at hx
      rw [hv] at hx
      split at hx
      · dsimp only at hx
        split at hx
        · cases hx;exact h.wd _ y hy
        · cases hx
      · exact h.wd x w hx
    · obtain ⟨g1,g2⟩:=(hmem x).1 hx
      dsimp only
      rw [hv,if_neg g2]
      exact h.ml x g1
    · dsimp only at hx
      rw [hv] at hx
      split at hx
      · dsimp only at hx
        split at hx
        · cases hx;cases hk
        · cases hx
      · rename_i g
        exact (hmem x).2 ⟨h.lm x w hx hk,g⟩
    · dsimp only
      rw [hv]
      have hb:=h.bn x hx
      split
      · rename_i g
        rw [g,hy] at hb;cases hb
      · exact hb
  · exact h
theorem f5c {c:Cfg} {k:CaS} {x:Op3} (hI:cF c k.ways) (h:c1v c k):c1v c (dR c k x):=by
  unfold dR
  split
  · exact b2b hI h
  · exact h
theorem f3s (c:Cfg) (n:Nat):c1v c ⟨List.replicate n .zero,[],[]⟩:=by
  have hv:∀ x,vw c (List.replicate n .zero) x=none:=fun x=>rZ (b5e fun k hk=>by
    rw [List.getElem_replicate];rfl)
  exact ⟨fun x w h=>(by dsimp only at h;rw [hv] at h;cases h),fun x h=>(by cases h),fun x w h=>(by dsimp only at h;rw [hv] at h;cases h),fun x h=>(by cases h),List.nodup_nil,List.nodup_nil⟩
end
end Go.Sx
