/- ShrTells, Tab, TabLaw, TabPl: several of my texts as one. My own work. -/
import Derived.Test.YtjihlpjnebdiiaaGreatZaj
set_option linter.unusedVariables false
set_option linter.unusedSectionVars false
set_option linter.unusedSimpArgs false
set_option maxRecDepth 100000
set_option maxHeartbeats 4000000
namespace Go.Sx
open Go Go.Proofs
section
theorem d0e (s:SSet) (x:Int):(cT s x).ps.length≤s.ps.length+1:=by
  unfold cT
  split
  · split
    · omega
    · split
      · simp
      · simp only [a7v];omega
  · simp
theorem c3f (s:SSet) (but:List Int) (n:Nat):(i6 s but n).length≤n:=by
  have:=List.length_filter_le (fun c=>bN s c&& !decide (c∈but)) (a2p n)
  simp only [a2p,List.length_map,List.length_range] at this
  exact this
attribute [local irreducible] Exit.then Exit.inBlock Code.wp WC WO WE WQ V bF tV d3 bW dF uH IntKind.wrap WR Code.rounds WT KO
end
section
structure TEnt where
  o:Int
  s:SSet
theorem TEnt.ext_iff' {a b:TEnt}:(a.o=b.o∧a.s=b.s)↔a=b:=by cases a;cases b;simp
instance:DecidableEq TEnt:=fun a b=>decidable_of_iff _ TEnt.ext_iff'
abbrev d0f (e:TEnt) (a:Option Addr) (k:Nat):List Value:=[.int .i64 e.o,.int .i64 e.s.cores,.int .i64 e.s.most,.slice a e.s.ps.length k,.bool e.s.all]
abbrev TEnt.no:TEnt:=⟨0,.no⟩
abbrev tz (p:Option Addr) (n c:Nat):List Value:=[.int .i64 0,.int .i64 0,.int .i64 0,.slice none 0 0,.bool false,.slice p n c,.bool false]
abbrev f1m (e:TEnt) (a:Option Addr) (k:Nat) (p:Option Addr) (n c:Nat) (w:Bool):List Value:=[.int .i64 e.o,.int .i64 e.s.cores,.int .i64 e.s.most,.slice a e.s.ps.length k,.bool e.s.all,.slice p n c,.bool w]
def SB (T U:TypeId) (bm bt:Nat) (m:Msg) (l:List Msg):HP:=Ex fun q:Option Addr×Nat=>[Cells bm T (mc m),Cells bt U (tz q.1 l.length q.2),Own T 15 (.slice q.1 l.length q.2) l.length (aC mc l)]
theorem b9k {T U:TypeId} {bm bt:Nat} {m:Msg} {l:List Msg} {p:Option Addr} {n c:Nat} {xs:List Value} {L M:List HP} (h:Ent L (Cells bm T (mc m)::Cells bt U (tz p n c)::Own T 15 (.slice p n c) n xs::M)) (hn:n=l.length) (hx:xs=aC mc l):Ent L (SB T U bm bt m l::M):=by
  subst hn hx
  exact Ent.trans h (i0 (p:=fun q:Option Addr×Nat=>[Cells bm T (mc m),Cells bt U (tz q.1 l.length q.2),Own T 15 (.slice q.1 l.length q.2) l.length (aC mc l)]) (p,c))
section
variable {T U:TypeId} {bm bt:Nat} {m:Msg} {l:List Msg} {P:Program} {N:Nat} {env:Env} {L:List HP} {Q:Exit→Act→World→Prop}
theorem d7y {c:Code} (h:∀ p c0,WC P N c env (Cells bm T (mc m)::Cells bt U (tz p l.length c0)::Own T 15 (.slice p l.length c0) l.length (aC mc l)::L) Q):WC P N c env (SB T U bm bt m l::L) Q:=by
  intro a w ha hw
  obtain ⟨⟨p,c0⟩,hx⟩:=gW hw
  exact h p c0 a w ha hx
theorem zO {all:Array Oper} {c:List Oper} (h:∀ p c0,WO P N all c env (Cells bm T (mc m)::Cells bt U (tz p l.length c0)::Own T 15 (.slice p l.length c0) l.length (aC mc l)::L) Q):WO P N all c env (SB T U bm bt m l::L) Q:=by
  intro a w ha hw
  obtain ⟨⟨p,c0⟩,hx⟩:=gW hw
  exact h p c0 a w ha hx
end
def rE (e:TEnt):Bool:=c7 e.s&& decide (-1≤e.o)&& decide (e.o<e.s.cores)
def fR (m:Msg) (kind to who acks own:Int) (w:Words):Msg:=⟨kind,m.line,m.dst,to,who,acks,own,w⟩
def kV (s:SSet):SSet:=⟨s.cores,s.most,[],false⟩
def a3n (e:TEnt) (but:List Int):List Int:=i6 e.s but e.s.cores.toNat
def mI (e:TEnt) (m:Msg):TEnt:=if e.o=m.src then .no else if e.o≠ -1 then ⟨e.o,cT e.s m.src⟩ else if (a3n e []).length=0 then ⟨m.src,kV e.s⟩ else ⟨e.o,cT e.s m.src⟩
def kA (e:TEnt) (m:Msg) (w:Words):List Msg:=if e.o=m.src then [] else if e.o≠ -1 then [fR m 4 e.o m.src 0 0 .zero] else if (a3n e []).length=0 then [fR m 7 m.src 0 0 2 w] else [fR m 7 m.src 0 0 1 w]
def fE (e:TEnt) (m:Msg):List Int:=a3n e [m.src,e.o]
def qJ (e:TEnt) (m:Msg) (w:Words):Msg:=if e.o= -1 then fR m 7 m.src 0 (fE e m).length 4 w else if e.o=m.src then fR m 8 m.src 0 (fE e m).length 0 .zero else fR m 5 e.o m.src (fE e m).length 0 .zero
def a3o (m:Msg) (c:Int):Msg:=fR m 6 c m.src 0 0 .zero
def uK (e:TEnt) (m:Msg) (w:Words):List Msg:=qJ e m w::(fE e m).map (a3o m)
def yY (e:TEnt) (m:Msg):TEnt:=if e.o=m.src then ⟨-1,e.s⟩ else e
def e7c (e:TEnt) (m:Msg):Bool:=rE e&& decide (0≤m.src)&& decide (m.src<e.s.cores)
def fF (e:TEnt) (m:Msg):Int:=if e7c e m then (if m.kind=1 then (if e.o=m.src then 7 else 0) else if m.kind=2 then 0 else if m.kind=3 then 0 else 1) else 1
def eF (e:TEnt) (m:Msg):TEnt:=if fF e m=0 then (if m.kind=1 then mI e m else if m.kind=2 then ⟨m.src,kV e.s⟩ else yY e m) else .no
def bR (e:TEnt) (m:Msg) (w:Words):List Msg:=if fF e m=0 then (if m.kind=1 then kA e m w else if m.kind=2 then uK e m w else [fR m 10 m.src 0 0 0 .zero]) else []
def iH (e:TEnt) (m:Msg):Bool:=decide (fF e m=0)&& decide (m.kind=3)&& decide (e.o=m.src)
attribute [local irreducible] Exit.then Exit.inBlock Code.wp WC WO WE WQ V bF tV d3 bW dF uH IntKind.wrap WR Code.rounds WT KO
instance:TU Tryz.prog 163 (.func #[99] #[] false):=⟨Tryz.underlying163⟩
abbrev b8x:=SB 99 262
abbrev e9s (e:TEnt) (a:Option Addr) (k:Nat) (m:Msg) (w:Words) (bm bt:Nat):List Value:=[.int .i64 e.o,.int .i64 e.s.cores,.int .i64 e.s.most,.slice a e.s.ps.length k,.bool e.s.all,
  .int .i64 m.kind,.int .i64 m.line,.int .i64 m.src,.int .i64 m.dst,.int .i64 m.who,.int .i64 m.acks,.int .i64 m.own,.int .i64 m.words.w0,.int .i64 m.words.w1,.int .i64 m.words.w2,.int .i64 m.words.w3,.int .i64 m.words.w4,.int .i64 m.words.w5,.int .i64 m.words.w6,.int .i64 m.words.w7,
  .int .i64 w.w0,.int .i64 w.w1,.int .i64 w.w2,.int .i64 w.w3,.int .i64 w.w4,.int .i64 w.w5,.int .i64 w.w6,.int .i64 w.w7,.func (.func 226) #[] #[.pointer (some ⟨bm,0,none⟩),.pointer (some ⟨bt,0,none⟩)]]
abbrev f0b (e:TEnt) (a:Option Addr) (k:Nat) (m:Msg) (w:Words) (bm bt:Nat):Value:= .agg (e9s e a k m w bm bt).toArray
theorem b9l {Q P:Prop} (k:Q) (h:Hid Q→P:=by
  intro k
  first
  |(refine aG ?_;refine q9 (id:=1) .true (pl:= .p 0 <| .p 2 <| .r 1 <| .p 4 <| .e true [(3,.e true [(5,.p 6 <| .e false [(7,.done)])]),(5,.e false [(3,.p 6 <| .e false [(7,.done)])])]) k.out)):P:=h ⟨k⟩
theorem d0g {F:List HP} {x m:Msg} {bm bt:Nat} {l:List Msg} (hn:l.length≤1000):FnF Tryz.prog 226 [mv x,.pointer (some ⟨bm,0,none⟩),.pointer (some ⟨bt,0,none⟩)] [b8x bm bt m l] F
    (fun r L'=>r= .tuple [].toArray∧L'=[b8x bm bt m (l++[{ x with line:=m.line,src:=m.dst}])]):=by
  refine FnF.mk' Tryz.func226 rfl rfl Tryz.ntmps226 rfl ?_
  refine d7y fun p c=>?_
  repeat' (first|refine go ?_|intro _|refine b9l ?_|refine cM ?_|refine mH ?_ ?_|fail)
  all_goals (apply aA rfl rfl bB)
  all_goals first|exact ⟨rfl,rfl⟩|(((repeat (first|(with_reducible exact Ent.refl)|exact Ent.nil|(apply dQ;exact e6z)|(apply b9k)|apply Ent.drop));all_goals (first|rfl|(with_reducible assumption)|(simp [aZ,cG];done)|(simp [aZ,cG];omega)|omega|(constructor<;>(simp [aZ,cG])<;>omega))))
theorem oL {F:List HP} {m:Msg} {bm bt:Nat} {l:List Msg} (kind to who acks own:Int) (w:Words) (hn:l.length≤1000):FnF Tryz.prog 226 [mv ⟨kind,0,0,to,who,acks,own,w⟩,.pointer (some ⟨bm,0,none⟩),.pointer (some ⟨bt,0,none⟩)] [b8x bm bt m l] F
    (fun r L'=>r= .tuple [].toArray∧L'=[b8x bm bt m (l++[fR m kind to who acks own w])]):=d0g hn
theorem d7z {F:List HP} {e:TEnt} {a:Option Addr} {k:Nat} (hk:RdL F 1 (.slice a e.s.ps.length k) e.s.ps.length (aC ic e.s.ps)) (hn:e.s.ps.length≤1000):FnF Tryz.prog 225 [.agg (d0f e a k).toArray] [] F (fun r L'=>r= .bool (rE e)∧L'=[]):=by
  have hM:=fun F (hk:RdL F 1 (.slice a e.s.ps.length k) e.s.ps.length (aC ic e.s.ps))=>a6p (F:=F) hk hn
  refine FnF.mk' Tryz.func225 rfl rfl Tryz.ntmps225 rfl ?_
  cases hm:c7 e.s with
  |true=>
   simp only [hm] at hM
   by_cases h1: -1≤e.o
   · repeat first|refine gd ?_|intro _|refine aD @hM ?_
     (apply aA rfl rfl bB;(first|exact lW|exact ⟨by simp [rE,hm,h1]<;>omega,rfl⟩);exact iC)
   · repeat first|refine gd ?_|intro _|refine aD @hM ?_
     (apply aA rfl rfl bB;(first|exact lW|exact ⟨by simp [rE,hm,h1]<;>omega,rfl⟩);exact iC)
  |false=>
   simp only [hm] at hM
   repeat first|refine gd ?_|intro _|refine aD @hM ?_
   (apply aA rfl rfl bB;(first|exact lW|exact ⟨by simp [rE,hm]<;>omega,rfl⟩);exact iC)
theorem b5e {F:List HP} {e:TEnt} {a:Option Addr} {k:Nat} {m:Msg} {w:Words} {bm bt:Nat} (hk:RdL F 1 (.slice a e.s.ps.length k) e.s.ps.length (aC ic e.s.ps)) (hn:e.s.ps.length≤1000) :
    FnF Tryz.prog 243 [f0b e a k m w bm bt] [] F (fun r L'=>∃ a' k',r= .agg (d0f ⟨e.o,cT e.s m.src⟩ a' k').toArray∧L'=[Own 3 1 (.slice a' (cT e.s m.src).ps.length k') (cT e.s m.src).ps.length (aC ic (cT e.s m.src).ps)]):=by
  have hA:=fun F (hk:RdL F 1 (.slice a e.s.ps.length k) e.s.ps.length (aC ic e.s.ps))=>e1l (F:=F) (x:=m.src) hk hn
  refine FnF.mk' Tryz.func243 rfl rfl Tryz.ntmps243 rfl ?_
  repeat first|refine gd ?_|intro _|refine aD @hA ?_
  (apply aA rfl rfl bB)
  · exact ⟨_,_,rfl,rfl⟩
  · exact aB
theorem a7c {F:List HP} {e:TEnt} {a:Option Addr} {k:Nat} {m:Msg} {w:Words} {bm bt:Nat} {own acks:Int} {l:List Msg} (hn:l.length≤1000) :
    FnF Tryz.prog 244 [f0b e a k m w bm bt,.int .i64 own,.int .i64 acks] [b8x bm bt m l] F (fun r L'=>r= .tuple [].toArray∧L'=[b8x bm bt m (l++[fR m 7 m.src 0 acks own w])]):=by
  have hS:=fun F=>oL (F:=F) (m:=m) (bm:=bm) (bt:=bt) (l:=l) 7 m.src 0 acks own w hn
  refine FnF.mk' Tryz.func244 rfl rfl Tryz.ntmps244 rfl ?_
  repeat first|refine gd ?_|intro _|refine aD @hS ?_
  exact aU
theorem s4 {Q P:Prop} (k:Q) (h:Hid Q→P:=by
  intro k
  first
  |(refine aG ?_;refine q9 (id:=8) .false (pl:= .p 0 <| .p 1 <| .p 3 <| .p 4 <| .r 2 <| .r 5 <| .e true [(6,.p 7 <| .e true [(8,.p 9 <| .p 10 <| .done)])]) k.out)):P:=h ⟨k⟩
theorem d0h {F:List HP} {e:TEnt} {a:Option Addr} {k:Nat} {m:Msg} {w:Words} {bm bt:Nat} (hk:RdL F 1 (.slice a e.s.ps.length k) e.s.ps.length (aC ic e.s.ps)) (hm:c7 e.s=true) :
    FnF Tryz.prog 227 [f0b e a k m w bm bt] [b8x bm bt m []] F (fun r L'=>∃ a' k',r= .tuple [.agg (d0f (mI e m) a' k').toArray,.bool false,.int .i64 (if e.o=m.src then 7 else 0)].toArray
      ∧L'=[Own 3 1 (.slice a' (mI e m).s.ps.length k') (mI e m).s.ps.length (aC ic (mI e m).s.ps),b8x bm bt m (kA e m w)]):=by
  have hn:=(dB hm).2.2
  have hSh:=fun F (hk:RdL F 1 (.slice a e.s.ps.length k) e.s.ps.length (aC ic e.s.ps))=>b5e (F:=F) (e:=e) (a:=a) (k:=k) (m:=m) (w:=w) (bm:=bm) (bt:=bt) hk (om)
  have hT:=fun F (hk:RdL F 1 (.slice a e.s.ps.length k) e.s.ps.length (aC ic e.s.ps))=>vE (F:=F) (u:= .slice none 0 0) (but:=[]) hk hm pS (by simp)
  refine FnF.mk' Tryz.func227 rfl rfl Tryz.ntmps227 rfl ?_
  by_cases h1:e.o=m.src
  · have e1:mI e m= .no:=if_pos h1
    have e2:kA e m w=[]:=if_pos h1
    rw [e1,e2,if_pos h1]
    repeat first|refine go ?_|intro _|refine s4 ?_|refine cM ?_
    (apply aA rfl rfl bB)
    · exact ⟨none,0,rfl,rfl⟩
    · refine Ent.trans ?_ (aM Ent.refl)
      exact aB
  · rw [if_neg h1]
    by_cases h2:e.o= -1
    · by_cases h3:(i6 e.s [] e.s.cores.toNat).length=0
      · have e1:mI e m=⟨m.src,kV e.s⟩:=by unfold mI a3n;rw [if_neg h1,if_neg (om),if_pos h3]
        have e2:kA e m w=[fR m 7 m.src 0 0 2 w]:=by unfold kA a3n;rw [if_neg h1,if_neg (om),if_pos h3]
        have hD:=fun F=>a7c (F:=F) (e:=e) (a:=a) (k:=k) (m:=m) (w:=w) (bm:=bm) (bt:=bt) (own:=2) (acks:=0) (l:=[]) (by simp)
        simp only [List.nil_append] at hD
        rw [e1,e2]
        repeat' (first|refine go ?_|intro _|refine s4 ?_|refine cM ?_|refine aD @hT ?_|refine aD @hD ?_|refine aD @b1d ?_|refine mH ?_ ?_|fail)
        all_goals (apply aA rfl rfl bB)
        all_goals first
        |exact ⟨none,0,rfl,rfl⟩
        |(refine Ent.trans ?_ (aM Ent.refl);exact aB)
      · have e1:mI e m=⟨e.o,cT e.s m.src⟩:=by unfold mI a3n;rw [if_neg h1,if_neg (om),if_neg h3]
        have e2:kA e m w=[fR m 7 m.src 0 0 1 w]:=by unfold kA a3n;rw [if_neg h1,if_neg (om),if_neg h3]
        have hD:=fun F=>a7c (F:=F) (e:=e) (a:=a) (k:=k) (m:=m) (w:=w) (bm:=bm) (bt:=bt) (own:=1) (acks:=0) (l:=[]) (by simp)
        simp only [List.nil_append] at hD
        rw [e1,e2]
        repeat first|refine go ?_|intro _|refine s4 ?_|refine cM ?_|refine aD @hT ?_|refine aD @hD ?_|refine aD @hSh ?_
        (apply aA rfl rfl bB)
        · exact ⟨_,_,rfl,rfl⟩
        · exact aB
    · have e1:mI e m=⟨e.o,cT e.s m.src⟩:=by unfold mI a3n;rw [if_neg h1,if_pos (om)]
      have e2:kA e m w=[fR m 4 e.o m.src 0 0 .zero]:=by unfold kA a3n;rw [if_neg h1,if_pos (om)]
      have hS:=fun F=>oL (F:=F) (m:=m) (bm:=bm) (bt:=bt) (l:=[]) 4 e.o m.src 0 0 .zero (by simp)
      simp only [List.nil_append] at hS
      rw [e1,e2]
      repeat first|refine go ?_|intro _|refine s4 ?_|refine cM ?_|refine aD @hS ?_|refine aD @hSh ?_
      (apply aA rfl rfl bB)
      · exact ⟨_,_,rfl,rfl⟩
      · exact aB
theorem d8a {F:List HP} {e:TEnt} {a:Option Addr} {k:Nat} {m:Msg} {w:Words} {bm bt:Nat} :
    FnF Tryz.prog 229 [f0b e a k m w bm bt] [b8x bm bt m []] F (fun r L'=>r= .tuple [.agg (d0f (yY e m) a k).toArray,.bool (decide (e.o=m.src)),.int .i64 0].toArray∧L'=[b8x bm bt m [fR m 10 m.src 0 0 0 .zero]]):=by
  have hS:=fun F=>oL (F:=F) (m:=m) (bm:=bm) (bt:=bt) (l:=[]) 10 m.src 0 0 0 .zero (by simp)
  simp only [List.nil_append] at hS
  refine FnF.mk' Tryz.func229 rfl rfl Tryz.ntmps229 rfl ?_
  by_cases h1:e.o=m.src
  · have e1:yY e m=⟨-1,e.s⟩:=if_pos h1
    rw [e1]
    repeat first|refine gd ?_|intro _|refine aD @hS ?_
    (apply aA rfl rfl bB;(first|exact lW|exact ⟨by simp [h1]<;>omega,rfl⟩);exact iC)
  · have e1:yY e m=e:=if_neg h1
    rw [e1]
    repeat first|refine gd ?_|intro _|refine aD @hS ?_
    (apply aA rfl rfl bB;(first|exact lW|exact ⟨by simp [h1]<;>omega,rfl⟩);exact iC)
theorem mJ {Q P:Prop} (k:Q) (h:Hid Q→P:=by
  intro k
  first
  |(refine aG ?_;refine q9 (id:=14) .false (pl:= .p 0 <| .p 1 <| .p 3 <| .p 4 <| .r 2 <| .r 5 <| .e true [(6,.p 7 <| .e true [(8,.p 9 <| .p 10 <| .done)])]) k.out)):P:=h ⟨k⟩
theorem c5w {F:List HP} {e:TEnt} {a:Option Addr} {k:Nat} {m:Msg} {w:Words} {bm bt:Nat} (hk:RdL F 1 (.slice a e.s.ps.length k) e.s.ps.length (aC ic e.s.ps)) (hm:c7 e.s=true) :
    FnF Tryz.prog 228 [f0b e a k m w bm bt] [b8x bm bt m []] F (fun r L'=>r= .tuple [.agg (d0f ⟨m.src,kV e.s⟩ none 0).toArray,.bool false,.int .i64 0].toArray∧L'=[b8x bm bt m (uK e m w)]):=by
  have hc64:=(dB hm).2.1
  have htl:=c3f e.s [m.src,e.o] e.s.cores.toNat
  have hT:=fun F (hk:RdL F 1 (.slice a e.s.ps.length k) e.s.ps.length (aC ic e.s.ps)) u (hb:RdL F 1 u 2 [.int .i64 m.src,.int .i64 e.o])=>@vE F e.s a k u [m.src,e.o] hk hm hb (by simp)
  have ho:fE e m=i6 e.s [m.src,e.o] e.s.cores.toNat:=rfl
  have hw:uK e m w=qJ e m w::(fE e m).map (a3o m):=rfl
  have hf:qJ e m w=if e.o= -1 then fR m 7 m.src 0 (fE e m).length 4 w else if e.o=m.src then fR m 8 m.src 0 (fE e m).length 0 .zero else fR m 5 e.o m.src (fE e m).length 0 .zero:=rfl
  rw [hw]
  rw [ho] at hf ⊢
  generalize i6 e.s [m.src,e.o] e.s.cores.toNat=ot at hT htl hf ⊢
  have hD:=fun F=>a7c (F:=F) (e:=e) (a:=a) (k:=k) (m:=m) (w:=w) (bm:=bm) (bt:=bt) (own:=4) (acks:=ot.length) (l:=[]) (by simp)
  simp only [List.nil_append] at hD
  have hS8:=fun F=>oL (F:=F) (m:=m) (bm:=bm) (bt:=bt) (l:=[]) 8 m.src 0 ot.length 0 .zero (by simp)
  simp only [List.nil_append] at hS8
  have hS5:=fun F=>oL (F:=F) (m:=m) (bm:=bm) (bt:=bt) (l:=[]) 5 e.o m.src ot.length 0 .zero (by simp)
  simp only [List.nil_append] at hS5
  refine FnF.mk' Tryz.func228 rfl rfl Tryz.ntmps228 rfl ?_
  repeat first|refine go ?_|intro _|refine mJ ?_|refine cM ?_|refine aD @hT ?_
  rename_i b1 b2 bs p q
  apply b2r (P:=Tryz.prog) (fun _:Unit=>[(1,.pointer (some ⟨b1,0,none⟩)),(2,.pointer (some ⟨b2,0,none⟩)),(3,.bool false),(4,.int .i64 0),(54,.slice p ot.length q),(55,.int .i64 ot.length),(56,.int .i64 0)])
    (fun _=>b8x bm bt m [qJ e m w]::Own 3 1 (.slice p ot.length q) ot.length (aC ic ot)::Cells b2 135 [.int .i64 0,.int .i64 0,.int .i64 0,.slice none 0 0,.bool false]::Cells b1 288 (e9s e a k m w bm bt)::F) (fun _=>True)
  · intro join
    by_cases h1:e.o= -1
    · rw [if_pos h1] at hf
      repeat first|refine go ?_|intro _|refine mJ ?_|refine cM ?_|refine aD @hD ?_
      skip
      exact join () _ _ trivial (by exact nB) (by rw [hf];exact aB)
    · rw [if_neg h1] at hf
      by_cases h2:e.o=m.src
      · rw [if_pos h2] at hf
        repeat first|refine go ?_|intro _|refine mJ ?_|refine cM ?_|refine aD @hS8 ?_
        skip
        exact join () _ _ trivial (by exact nB) (by rw [hf];exact aB)
      · rw [if_neg h2] at hf
        repeat first|refine go ?_|intro _|refine mJ ?_|refine cM ?_|refine aD @hS5 ?_
        skip
        exact join () _ _ trivial (by exact nB) (by rw [hf];exact aB)
  · intro _ _
    clear hf hD hS8 hS5
    generalize qJ e m w=f1
    apply bC (E0:=[(1,_),(2,_),(54,_),(55,_)]) (fun E0 (i:Nat)=>(56,.int .i64 i)::E0) (fun i=>b8x bm bt m (f1::(ot.take i).map (a3o m))::Own 3 1 (.slice p ot.length q) ot.length (aC ic ot)::Cells b2 135 [.int .i64 0,.int .i64 0,.int .i64 0,.slice none 0 0,.bool false]::Cells b1 288 (e9s e a k m w bm bt)::F) (fun i=>i≤ot.length) (fun i=>ot.length-i) 0
    · exact nB
    · exact Nat.zero_le _
    · simp only [List.take_zero,List.map_nil];exact aB
    · intro i hi
      by_cases hlt:i<ot.length
      · have hS:=fun F=>oL (F:=F) (m:=m) (bm:=bm) (bt:=bt) (l:=f1::(ot.take i).map (a3o m)) 6 ot[i] m.src 0 0 .zero (by simp;omega)
        have et:f1::(ot.take (i+1)).map (a3o m)=(f1::(ot.take i).map (a3o m))++[fR m 6 ot[i] m.src 0 0 .zero]:=by
          rw [List.take_add_one,List.getElem?_eq_getElem hlt];simp only [List.map_append,List.cons_append,List.map_cons,List.map_nil,Option.toList_some];rfl
        repeat first|refine go ?_|intro _|refine mJ ?_|refine cM ?_|refine aD @hS ?_
        refine aS (i+1) (om) (om) ?_ ?_
        · exact nB
        · rw [et];exact aB
      · have hil:i=ot.length:=by omega
        subst hil
        rw [List.take_length]
        repeat first|refine go ?_|intro _|refine mJ ?_|refine cM ?_|refine aD @b1d ?_
        (apply aA rfl rfl bB)
        · exact ⟨rfl,rfl⟩
        · exact aB
theorem c5x {e:TEnt} {m:Msg} (h:c7 e.s=true):(mI e m).s.ps.length≤9:=by
  have h8:=dB h
  have ha:=d0e e.s m.src
  unfold mI
  split
  · simp
  · split
    · dsimp only;omega
    · split
      · simp [kV]
      · dsimp only;omega
theorem c5y {e:TEnt} {m:Msg} {w:Words}:(kA e m w).length≤1:=by
  unfold kA;split<;>(try split)<;>(try split)<;>simp
theorem d0i {F:List HP} {e:TEnt} {a:Option Addr} {k:Nat} {m:Msg} {w:Words} (hk:RdL F 1 (.slice a e.s.ps.length k) e.s.ps.length (aC ic e.s.ps)) (hn:e.s.ps.length≤1000) :
    FnF Tryz.prog 195 [.agg (d0f e a k).toArray,mv m,wv w] [] F (fun r L'=>∃ a' k' p c,r= .tuple [.agg (f1m (eF e m) a' k' p (bR e m w).length c (iH e m)).toArray,.int .i64 (fF e m)].toArray
      ∧L'=[Own 3 1 (.slice a' (eF e m).s.ps.length k') (eF e m).s.ps.length (aC ic (eF e m).s.ps),Own 99 15 (.slice p (bR e m w).length c) (bR e m w).length (aC mc (bR e m w))]):=by
  have hM:=fun F (hk:RdL F 1 (.slice a e.s.ps.length k) e.s.ps.length (aC ic e.s.ps))=>d7z (F:=F) hk hn
  refine FnF.mk' Tryz.func195 rfl rfl Tryz.ntmps195 rfl ?_
  cases hok:e7c e m with
  |false=>
   have e1:fF e m=1:=by simp [fF,hok]
   have e2:eF e m= .no:=by simp [eF,e1]
   have e3:bR e m w=[]:=by simp [bR,e1]
   have e4:iH e m=false:=by simp [iH,e1]
   rw [e1,e2,e3,e4]
   cases hm:rE e with
   |false=>
    simp only [hm] at hM
    repeat first|refine gd ?_|intro _|refine aD @hM ?_
    (apply aA rfl rfl bB)
    · exact ⟨none,0,none,0,rfl,rfl⟩
    · refine aM (aM ?_)
      exact aB
   |true=>
    simp only [hm] at hM
    have hb:¬(0≤m.src∧m.src<e.s.cores):=by
      intro hh;simp [e7c,hm,hh] at hok
    by_cases h0:m.src<0
    · repeat first|refine gd ?_|intro _|refine aD @hM ?_
      (apply aA rfl rfl bB)
      · exact ⟨none,0,none,0,rfl,rfl⟩
      · refine aM (aM ?_)
        exact aB
    · repeat first|refine gd ?_|intro _|refine aD @hM ?_
      (apply aA rfl rfl bB)
      · exact ⟨none,0,none,0,rfl,rfl⟩
      · refine aM (aM ?_)
        exact aB
  |true=>
   have hm:rE e=true:=by simp only [e7c,Bool.and_eq_true] at hok;exact hok.1.1
   have hs:c7 e.s=true:=by simp only [rE,Bool.and_eq_true] at hm;exact hm.1.1
   have hb:0≤m.src∧m.src<e.s.cores:=by simp only [e7c,Bool.and_eq_true,decide_eq_true_eq] at hok;exact ⟨hok.1.2,hok.2⟩
   have h8:=(dB hs).2.2
   simp only [hm] at hM
   obtain ⟨hb0,hb1⟩:=hb
   by_cases h1:m.kind=1
   · have hk3:¬m.kind=3:=by omega
     have hk2:¬m.kind=2:=by omega
     have hR:=fun F (hk:RdL F 1 (.slice a e.s.ps.length k) e.s.ps.length (aC ic e.s.ps)) bm bt=>d0h (F:=F) (e:=e) (a:=a) (k:=k) (m:=m) (w:=w) (bm:=bm) (bt:=bt) hk hs
     by_cases he:e.o=m.src
     · have e1:fF e m=7:=by simp [fF,hok,h1,he]
       have e2:eF e m= .no:=by simp [eF,e1]
       have e3:bR e m w=[]:=by simp [bR,e1]
       have e4:iH e m=false:=by simp [iH,e1]
       rw [e1,e2,e3,e4]
       simp only [if_pos he] at hR
       repeat first|refine gd ?_|intro _|refine aD @hM ?_
       rename_i b3 b4 b5 b6 b8 b9
       refine jR (L':=b8x b4 b8 m []::Cells b9 288 (e9s e a k m w b4 b8)::Cells b6 262 (tz none 0 0)::F) (b9k (p:=none) (n:=0) (c:=0) (xs:=[]) (Ent.trans (aM (e:=99) (sz:=15) (p:=none) Ent.refl) (by exact aB)) rfl rfl) ?_
       repeat first|refine gd ?_|intro _|refine aD @hR ?_
       (first|refine aW (b8x b4 b8 m (kA e m w)) ?_|refine aX (b8x b4 b8 m (kA e m w)) ?_|refine aY (b8x b4 b8 m (kA e m w)) ?_)
       refine zO fun p c=>?_
       repeat first|refine gd ?_|intro _
       (apply aA rfl rfl bB)
       · exact ⟨none,0,none,0,rfl,rfl⟩
       · refine aM (aM ?_)
         exact aB
     · have e1:fF e m=0:=by simp [fF,hok,h1,he]
       have e2:eF e m=mI e m:=by simp [eF,e1,h1]
       have e3:bR e m w=kA e m w:=by simp [bR,e1,h1]
       have e4:iH e m=false:=by simp [iH,e1,h1]
       have hl:(mI e m).s.ps.length≤9:=c5x hs
       have hl2:(kA e m w).length≤1:=c5y
       rw [e1,e2,e3,e4]
       simp only [if_neg he] at hR
       repeat first|refine gd ?_|intro _|refine aD @hM ?_
       rename_i b3 b4 b5 b6 b8 b9
       refine jR (L':=b8x b4 b8 m []::Cells b9 288 (e9s e a k m w b4 b8)::Cells b6 262 (tz none 0 0)::F) (b9k (p:=none) (n:=0) (c:=0) (xs:=[]) (Ent.trans (aM (e:=99) (sz:=15) (p:=none) Ent.refl) (by exact aB)) rfl rfl) ?_
       repeat first|refine gd ?_|intro _|refine aD @hR ?_
       (first|refine aW (b8x b4 b8 m (kA e m w)) ?_|refine aX (b8x b4 b8 m (kA e m w)) ?_|refine aY (b8x b4 b8 m (kA e m w)) ?_)
       refine zO fun p c=>?_
       repeat first|refine gd ?_|intro _
       refine jR (aM (e:=3) (sz:=1) (p:=none) Ent.refl) ?_
       repeat first|refine gd ?_|intro _
       simp only [Nat.zero_add,List.nil_append]
       (apply aA rfl rfl bB)
       · exact ⟨_,_,_,_,rfl,rfl⟩
       · exact aB
   · by_cases h2:m.kind=2
     · skip
       have hk3:¬m.kind=3:=by omega
       have hR:=fun F (hk:RdL F 1 (.slice a e.s.ps.length k) e.s.ps.length (aC ic e.s.ps)) bm bt=>c5w (F:=F) (e:=e) (a:=a) (k:=k) (m:=m) (w:=w) (bm:=bm) (bt:=bt) hk hs
       have e1:fF e m=0:=by simp [fF,hok,h2]
       have e2:eF e m=⟨m.src,kV e.s⟩:=by simp [eF,e1,h2]
       have e3:bR e m w=uK e m w:=by simp [bR,e1,h2]
       haveI hnil:∀ L,RdL L 1 (.slice none (⟨m.src,kV e.s⟩:TEnt).s.ps.length 0) 0 []:=fun L=>pS
       have e4:iH e m=false:=by simp [iH,e1,h2]
       rw [e1,e2,e3,e4]
       repeat first|refine gd ?_|intro _|refine aD @hM ?_
       rename_i b3 b4 b5 b6 b8 b9
       refine jR (L':=b8x b4 b8 m []::Cells b9 288 (e9s e a k m w b4 b8)::Cells b6 262 (tz none 0 0)::F) (b9k (p:=none) (n:=0) (c:=0) (xs:=[]) (Ent.trans (aM (e:=99) (sz:=15) (p:=none) Ent.refl) (by exact aB)) rfl rfl) ?_
       repeat first|refine gd ?_|intro _|refine aD @hR ?_
       (first|refine aW (b8x b4 b8 m (uK e m w)) ?_|refine aX (b8x b4 b8 m (uK e m w)) ?_|refine aY (b8x b4 b8 m (uK e m w)) ?_)
       refine zO fun p c=>?_
       repeat first|refine gd ?_|intro _
       refine jR (aM (e:=3) (sz:=1) (p:=none) Ent.refl) ?_
       repeat first|refine gd ?_|intro _
       simp only [Nat.zero_add,List.nil_append]
       (apply aA rfl rfl bB)
       · exact ⟨_,_,_,_,rfl,rfl⟩
       · simp only [kV,List.length_nil,d3j];exact aB
     · by_cases h3:m.kind=3
       · skip
         skip
         have hR:=fun F bm bt=>d8a (F:=F) (e:=e) (a:=a) (k:=k) (m:=m) (w:=w) (bm:=bm) (bt:=bt)
         have e1:fF e m=0:=by simp [fF,hok,h3]
         have e2:eF e m=yY e m:=by simp [eF,e1,h3]
         have e3:bR e m w=[fR m 10 m.src 0 0 0 .zero]:=by simp [bR,e1,h3]
         have e4:iH e m=decide (e.o=m.src):=by simp [iH,e1,h3]
         have e5:(yY e m).s=e.s:=by unfold yY;split<;>rfl
         haveI hk':RdL F 1 (.slice a (yY e m).s.ps.length k) (yY e m).s.ps.length (aC ic (yY e m).s.ps):=by rw [e5];exact hk
         have hl:(yY e m).s.ps.length≤8:=by rw [e5];omega
         rw [e1,e2,e3,e4]
         repeat first|refine gd ?_|intro _|refine aD @hM ?_
         rename_i b3 b4 b5 b6 b8 b9
         refine jR (L':=b8x b4 b8 m []::Cells b9 288 (e9s e a k m w b4 b8)::Cells b6 262 (tz none 0 0)::F) (b9k (p:=none) (n:=0) (c:=0) (xs:=[]) (Ent.trans (aM (e:=99) (sz:=15) (p:=none) Ent.refl) (by exact aB)) rfl rfl) ?_
         repeat first|refine gd ?_|intro _|refine aD @hR ?_
         (first|refine aW (b8x b4 b8 m ([fR m 10 m.src 0 0 0 .zero])) ?_|refine aX (b8x b4 b8 m ([fR m 10 m.src 0 0 0 .zero])) ?_|refine aY (b8x b4 b8 m ([fR m 10 m.src 0 0 0 .zero])) ?_)
         refine zO fun p c=>?_
         repeat first|refine gd ?_|intro _
         refine jR (aM (e:=3) (sz:=1) (p:=none) Ent.refl) ?_
         repeat first|refine gd ?_|intro _
         simp only [Nat.zero_add,List.nil_append]
         (apply aA rfl rfl bB)
         · exact ⟨_,_,_,_,rfl,rfl⟩
         · exact aB
       · have e1:fF e m=1:=by simp [fF,hok,h1,h2,h3]
         have e2:eF e m= .no:=by simp [eF,e1]
         have e3:bR e m w=[]:=by simp [bR,e1]
         have e4:iH e m=false:=by simp [iH,e1]
         rw [e1,e2,e3,e4]
         repeat first|refine gd ?_|intro _|refine aD @hM ?_
         (apply aA rfl rfl bB)
         · exact ⟨none,0,none,0,rfl,rfl⟩
         · refine aM (aM ?_)
           exact aB
end
section
attribute [local irreducible] Exit.then Exit.inBlock Code.wp WC WO WE WQ V bF tV d3 bW dF uH IntKind.wrap WR Code.rounds WT KO
theorem d8b {F:List HP} {cores most:Int}:FnF Tryz.prog 97 [.int .i64 cores,.int .i64 most] [] F
    (fun r L'=>r= .tuple [.agg (d0f (if c7 ⟨cores,most,[],false⟩ then ⟨-1,⟨cores,most,[],false⟩⟩ else .no) none 0).toArray,.int .i64 (if c7 ⟨cores,most,[],false⟩ then 0 else 1)].toArray∧L'=[]):=by
  have hN:=fun F=>e1k (F:=F) (cores:=cores) (most:=most)
  cases e:c7 ⟨cores,most,[],false⟩ with
  |true=>
   simp only [e,if_true] at hN ⊢
   refine FnF.mk' Tryz.func97 rfl rfl Tryz.ntmps97 rfl ?_
   repeat first|refine gd ?_|intro _|refine aD @hN ?_
   exact aU
  |false=>
   simp only [e,Bool.false_eq_true,if_false] at hN ⊢
   refine FnF.mk' Tryz.func97 rfl rfl Tryz.ntmps97 rfl ?_
   repeat first|refine gd ?_|intro _|refine aD @hN ?_
   exact aU
end
section
theorem a4t {s:SSet} (h1:1≤s.cores) (h2:s.cores≤64) (h3:0≤s.most) (h4:s.most≤8) (h5:(s.ps.length:Int)≤s.most) (h6:s.all=true→s.ps=[]) (h7:s.ps.Pairwise (· < ·)) (h8:∀ c∈s.ps,0≤c∧c<s.cores):c7 s=true:=by
  have h9:gY s.cores (-1) s.ps=true:=b1c h7 fun c hc=>by have:=h8 c hc;exact ⟨om,this.2⟩
  have h10:(!(s.all&& decide (0<s.ps.length)))=true:=by
    cases ha:s.all with
    |false=>rfl
    |true=>rw [h6 ha];rfl
  simp only [c7,h1,h2,h3,h4,h5,h9,h10,decide_true,Bool.and_true]
theorem b7e {s:SSet} {x:Int} (h:c7 s=true) (hx0:0≤x) (hx1:x<s.cores):c7 (cT s x)=true∧(cT s x).cores=s.cores∧(cT s x).most=s.most:=by
  obtain ⟨m1,m2,m3,m4,m5,m6,m7,m8⟩:=dB h
  have e1:oV s x=0:=by simp only [oV,h,if_true];rw [if_neg (om)]
  unfold cT
  rw [if_pos e1]
  cases hh:bN s x with
  |true=>exact ⟨h,rfl,rfl⟩
  |false=>
   rw [if_neg Bool.false_ne_true]
   by_cases hf:(s.ps.length:Int)=s.most
   · rw [if_pos hf]
     exact ⟨a4t m1 m2 m3 m4 (by simpa using m3) (fun _=>rfl) List.Pairwise.nil (fun c hc=>by cases hc),rfl,rfl⟩
   · rw [if_neg hf]
     have hal:=b6h hx0 hx1 hh
     have hx:¬x∈s.ps:=by simpa [bN,hal] using hh
     refine ⟨a4t m1 m2 m3 m4 ?_ ?_ (b6f m7 hx) ?_,rfl,rfl⟩
     · simp only [a7v];omega
     · intro h;dsimp only at h;rw [hal] at h;cases h
     · intro c hc
       rcases (d3f x c s.ps).1 hc with rfl|hc
       · exact ⟨hx0,hx1⟩
       · exact m8 c hc
theorem c3g {s:SSet} {c:Int} (h:c7 s=true) (hh:bN s c=true):0≤c∧c<s.cores:=by
  obtain ⟨_,_,_,_,_,_,_,m8⟩:=dB h
  unfold bN at hh
  cases ha:s.all with
  |true=>rw [ha,if_pos rfl] at hh;simpa using hh
  |false=>rw [ha,if_neg Bool.false_ne_true] at hh;exact m8 c (of_decide_eq_true hh)
theorem c3h {s:SSet} {but:List Int} {c:Int} (h:c7 s=true):c∈i6 s but s.cores.toNat↔bN s c=true∧¬c∈but:=by
  unfold i6
  rw [List.mem_filter,d3i]
  simp only [Bool.and_eq_true,Bool.not_eq_true',decide_eq_false_iff_not]
  constructor
  · exact fun h=>h.2
  · intro hh
    have:=c3g h hh.1
    exact ⟨om,hh⟩
theorem a4u (s:SSet) (but:List Int) (n:Nat):(i6 s but n).Pairwise (· < ·):=(b6g n).filter _
theorem l7 {e:TEnt} {m:Msg} (h:fF e m=0):e7c e m=true∧(m.kind=1∧¬e.o=m.src∨m.kind=2∨m.kind=3):=by
  unfold fF at h
  split at h
  · rename_i hk
    refine ⟨hk,?_⟩
    split at h
    · split at h
      · cases h
      · exact .inl ⟨by assumption,by assumption⟩
    · split at h
      · exact .inr (.inl (by assumption))
      · split at h
        · exact .inr (.inr (by assumption))
        · cases h
  · cases h
theorem m9 {e:TEnt} {m:Msg} (h:e7c e m=true):c7 e.s=true∧ -1≤e.o∧e.o<e.s.cores∧0≤m.src∧m.src<e.s.cores:=by
  simp only [e7c,rE,Bool.and_eq_true,decide_eq_true_eq] at h
  exact ⟨h.1.1.1.1,h.1.1.1.2,h.1.1.2,h.1.2,h.2⟩
theorem tZ {e:TEnt} (h1:c7 e.s=true) (h2: -1≤e.o) (h3:e.o<e.s.cores):rE e=true:=by simp [rE,h1,h2,h3]
theorem a9v {s:SSet} (h:c7 s=true):c7 (kV s)=true:=by
  obtain ⟨m1,m2,m3,m4,m5,m6,m7,m8⟩:=dB h
  exact a4t m1 m2 m3 m4 (by simpa [kV] using m3) (fun _=>rfl) List.Pairwise.nil (fun c hc=>by cases hc)
theorem d0j {e:TEnt} {m:Msg} (h:fF e m=0):rE (eF e m)=true:=by
  obtain ⟨hok,hk⟩:=l7 h
  obtain ⟨h1,h2,h3,h4,h5⟩:=m9 hok
  obtain ⟨a1,a2,_⟩:=b7e h1 h4 h5
  unfold eF
  rw [if_pos h]
  rcases hk with ⟨k,ho⟩|k|k
  · rw [if_pos k]
    unfold mI
    rw [if_neg ho]
    split
    · exact tZ a1 h2 (by rw [a2];exact h3)
    · split
      · exact tZ (a9v h1) (by dsimp only;omega) h5
      · exact tZ a1 h2 (by rw [a2];exact h3)
  · rw [if_neg (om),if_pos k]
    exact tZ (a9v h1) (by dsimp only;omega) h5
  · rw [if_neg (om),if_neg (om)]
    unfold yY
    split
    · exact tZ h1 (by simp) (by dsimp only;have:=(dB h1).1;omega)
    · exact tZ h1 h2 h3
theorem c5z {e:TEnt} {m:Msg} (w:Words) (h:fF e m=0):∃ f:Msg,∃ ot:List Int,bR e m w=f::ot.map (a3o m)∧f.kind≠6∧f.line=m.line∧f.src=m.dst∧f.acks=(ot.length:Nat)∧(f.dst=m.src∨f.who=m.src∧f.dst=e.o)∧
    ot.Pairwise (· < ·)∧ot.length≤64∧∀ c∈ot,0≤c∧c≠m.src∧c≠e.o∧bN e.s c=true:=by
  obtain ⟨hok,hk⟩:=l7 h
  obtain ⟨h1,h2,h3,h4,h5⟩:=m9 hok
  unfold bR
  rw [if_pos h]
  rcases hk with ⟨k,ho⟩|k|k
  · rw [if_pos k]
    unfold kA
    rw [if_neg ho]
    split
    · exact ⟨_,[],rfl,by simp [fR],rfl,rfl,rfl,.inr ⟨rfl,rfl⟩,List.Pairwise.nil,by simp,fun c hc=>by cases hc⟩
    · split
      · exact ⟨_,[],rfl,by simp [fR],rfl,rfl,rfl,.inl rfl,List.Pairwise.nil,by simp,fun c hc=>by cases hc⟩
      · exact ⟨_,[],rfl,by simp [fR],rfl,rfl,rfl,.inl rfl,List.Pairwise.nil,by simp,fun c hc=>by cases hc⟩
  · rw [if_neg (om),if_pos k]
    have hot:∀ c∈fE e m,0≤c∧c≠m.src∧c≠e.o∧bN e.s c=true:=fun c hc=>by
      obtain ⟨g1,g2⟩:=(c3h h1).1 hc
      simp only [List.mem_cons,List.not_mem_nil,or_false,not_or] at g2
      exact ⟨(c3g h1 g1).1,g2.1,g2.2,g1⟩
    refine ⟨qJ e m w,fE e m,rfl,?_,?_,?_,?_,?_,a4u _ _ _,(by have:=c3f e.s [m.src,e.o] e.s.cores.toNat;have h64:=(dB h1).2.1;have hd:fE e m=i6 e.s [m.src,e.o] e.s.cores.toNat:=rfl;rw [hd];omega),hot⟩
    all_goals (unfold qJ;split)
    all_goals first
    |(simp [fR];done)
    |rfl
    |exact .inl rfl
    |(split<;>first|(simp [fR];done)|rfl|exact .inl rfl|exact .inr ⟨rfl,rfl⟩)
  · rw [if_neg (om),if_neg (om)]
    exact ⟨_,[],rfl,by simp [fR],rfl,rfl,rfl,.inl rfl,List.Pairwise.nil,by simp,fun c hc=>by cases hc⟩
def d6i (S:List Msg) (i:Nat):Int:=if i≤1 then -1 else (S.getD (i-1) .zero).dst
theorem yB {e:TEnt} {m:Msg} {w:Words} (h:fF e m=0):0<(bR e m w).length∧(bR e m w).length≤1000∧
    (∀ i (hi:i<(bR e m w).length),(bR e m w)[i].line=m.line∧(bR e m w)[i].src=m.dst∧((bR e m w)[i].kind=6↔0<i))∧
    (∀ (hi:0<(bR e m w).length),(bR e m w)[0].acks=((bR e m w).length:Int)-1∧((bR e m w)[0].dst=m.src∨(bR e m w)[0].who=m.src∧(bR e m w)[0].dst=e.o))∧
    ∀ i (hi:i<(bR e m w).length),0<i→d6i (bR e m w) i<(bR e m w)[i].dst∧(bR e m w)[i].dst≠m.src∧(bR e m w)[i].dst≠e.o∧(bR e m w)[i].who=m.src∧bN e.s (bR e m w)[i].dst=true:=by
  obtain ⟨hok,_⟩:=l7 h
  obtain ⟨hm,_⟩:=m9 hok
  obtain ⟨f,ot,hS,f1,f2,f3,f4,f5,f6,hl,f7⟩:=c5z w h
  rw [hS]
  refine ⟨by simp,by simp;omega,?_,?_,?_⟩
  · intro i hi
    cases i with
    |zero=>exact ⟨f2,f3,by simpa using f1⟩
    |succ i=>simp [a3o,fR]
  · intro _
    exact ⟨by simp [f4],f5⟩
  · intro i hi hi0
    obtain ⟨j,rfl⟩:∃ j,i=j+1:=⟨i-1,om⟩
    have hj:j<ot.length:=by simpa using hi
    have h7:=f7 _ (List.getElem_mem hj)
    have e1:(f::ot.map (a3o m))[j+1]=a3o m ot[j]:=by simp
    rw [e1]
    refine ⟨?_,h7.2.1,h7.2.2.1,rfl,h7.2.2.2⟩
    show d6i _ _<ot[j]
    unfold d6i
    split
    · omega
    · obtain ⟨k,rfl⟩:∃ k,j=k+1:=⟨j-1,om⟩
      have e2:(f::ot.map (a3o m)).getD (k+1+1-1) .zero=a3o m ot[k]:=by
        simp [List.getD_eq_getElem?_getD,show k<ot.length by omega]
      rw [e2]
      exact List.pairwise_iff_getElem.1 f6 k (k+1) (om) hj (om)
end
end Go.Sx
