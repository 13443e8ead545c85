/- Tab, TabLaw, TabPl, CaInv, Vw, CaInv2: several of my texts as one. My own work. -/
import Derived.Test.YtjihlpjnebdiiaaGreatZr
import Derived.Test.YtjihlpjnebdiiaaGreatZai
import Derived.Test.YtjihlpjnebdiiaaGreatZad
set_option linter.unusedVariables false
set_option linter.unusedSectionVars false
set_option linter.unusedSimpArgs false
/- The table: what a home's entry becomes. The program's functions. My own work. -/
namespace Go.Sx
open Go Go.Proofs
structure TEnt where
  o:Int
  s:SSet
theorem TEnt.ext_iff' {a b:TEnt}:(a.o=b.o∧a.s=b.s)↔a=b:=by cases a;cases b;simp
instance:DecidableEq TEnt:=fun a b=>decidable_of_iff _ TEnt.ext_iff'
abbrev tec (e:TEnt) (a:Option Addr) (k:Nat):List Value:=[.int .i64 e.o,.int .i64 e.s.cores,.int .i64 e.s.most,.slice a e.s.ps.length k,.bool e.s.all]
abbrev TEnt.no:TEnt:=⟨0,.no⟩
abbrev tz (p:Option Addr) (n c:Nat):List Value:=[.int .i64 0,.int .i64 0,.int .i64 0,.slice none 0 0,.bool false,.slice p n c,.bool false]
abbrev tuc (e:TEnt) (a:Option Addr) (k:Nat) (p:Option Addr) (n c:Nat) (w:Bool):List Value:=[.int .i64 e.o,.int .i64 e.s.cores,.int .i64 e.s.most,.slice a e.s.ps.length k,.bool e.s.all,.slice p n c,.bool w]
def SB (T U:TypeId) (bm bt:Nat) (m:Msg) (l:List Msg):HP:=Ex fun q:Option Addr×Nat=>[Cells bm T (mc m),Cells bt U (tz q.1 l.length q.2),Own T 15 (.slice q.1 l.length q.2) l.length (flat mc l)]
theorem SB_in {T U:TypeId} {bm bt:Nat} {m:Msg} {l:List Msg} {p:Option Addr} {n c:Nat} {xs:List Value} {L M:List HP} (h:Ent L (Cells bm T (mc m)::Cells bt U (tz p n c)::Own T 15 (.slice p n c) n xs::M)) (hn:n=l.length) (hx:xs=flat mc l):Ent L (SB T U bm bt m l::M):=by
  subst hn hx
  exact Ent.trans h (ex_intro (p:=fun q:Option Addr×Nat=>[Cells bm T (mc m),Cells bt U (tz q.1 l.length q.2),Own T 15 (.slice q.1 l.length q.2) l.length (flat mc l)]) (p,c))
section
variable {T U:TypeId} {bm bt:Nat} {m:Msg} {l:List Msg} {P:Program} {N:Nat} {env:Env} {L:List HP} {Q:Exit→Act→World→Prop}
theorem SB_open {c:Code} (h:∀ p c0,WC P N c env (Cells bm T (mc m)::Cells bt U (tz p l.length c0)::Own T 15 (.slice p l.length c0) l.length (flat mc l)::L) Q):WC P N c env (SB T U bm bt m l::L) Q:=by
  intro a w ha hw
  obtain ⟨⟨p,c0⟩,hx⟩:=star_ex hw
  exact h p c0 a w ha hx
theorem SB_openO {all:Array Oper} {c:List Oper} (h:∀ p c0,WO P N all c env (Cells bm T (mc m)::Cells bt U (tz p l.length c0)::Own T 15 (.slice p l.length c0) l.length (flat mc l)::L) Q):WO P N all c env (SB T U bm bt m l::L) Q:=by
  intro a w ha hw
  obtain ⟨⟨p,c0⟩,hx⟩:=star_ex hw
  exact h p c0 a w ha hx
end
def mayT (e:TEnt):Bool:=shMay e.s&& decide (-1≤e.o)&& decide (e.o<e.s.cores)
def msgT (m:Msg) (kind to who acks own:Int) (w:Words):Msg:=⟨kind,m.line,m.dst,to,who,acks,own,w⟩
def clearS (s:SSet):SSet:=⟨s.cores,s.most,[],false⟩
def tgtT (e:TEnt) (but:List Int):List Int:=shTgt e.s but e.s.cores.toNat
def readT (e:TEnt) (m:Msg):TEnt:=if e.o=m.src then .no else if e.o≠ -1 then ⟨e.o,shAddS e.s m.src⟩ else if (tgtT e []).length=0 then ⟨m.src,clearS e.s⟩ else ⟨e.o,shAddS e.s m.src⟩
def readS (e:TEnt) (m:Msg) (w:Words):List Msg:=if e.o=m.src then [] else if e.o≠ -1 then [msgT m 4 e.o m.src 0 0 .zero] else if (tgtT e []).length=0 then [msgT m 7 m.src 0 0 2 w] else [msgT m 7 m.src 0 0 1 w]
def othersT (e:TEnt) (m:Msg):List Int:=tgtT e [m.src,e.o]
def firstT (e:TEnt) (m:Msg) (w:Words):Msg:=if e.o= -1 then msgT m 7 m.src 0 (othersT e m).length 4 w else if e.o=m.src then msgT m 8 m.src 0 (othersT e m).length 0 .zero else msgT m 5 e.o m.src (othersT e m).length 0 .zero
def invT (m:Msg) (c:Int):Msg:=msgT m 6 c m.src 0 0 .zero
def writeS (e:TEnt) (m:Msg) (w:Words):List Msg:=firstT e m w::(othersT e m).map (invT m)
def putT (e:TEnt) (m:Msg):TEnt:=if e.o=m.src then ⟨-1,e.s⟩ else e
def okT (e:TEnt) (m:Msg):Bool:=mayT e&& decide (0≤m.src)&& decide (m.src<e.s.cores)
def nextE (e:TEnt) (m:Msg):Int:=if okT e m then (if m.kind=1 then (if e.o=m.src then 7 else 0) else if m.kind=2 then 0 else if m.kind=3 then 0 else 1) else 1
def nextT (e:TEnt) (m:Msg):TEnt:=if nextE e m=0 then (if m.kind=1 then readT e m else if m.kind=2 then ⟨m.src,clearS e.s⟩ else putT e m) else .no
def nextS (e:TEnt) (m:Msg) (w:Words):List Msg:=if nextE e m=0 then (if m.kind=1 then readS e m w else if m.kind=2 then writeS e m w else [msgT m 10 m.src 0 0 0 .zero]) else []
def nextW (e:TEnt) (m:Msg):Bool:=decide (nextE e m=0)&& decide (m.kind=3)&& decide (e.o=m.src)
set_option maxRecDepth 100000
set_option maxHeartbeats 4000000
attribute [local irreducible] Go.Exit.then Go.Exit.inBlock Go.Code.wp WC WO WE WQ V LoopQ FnQ Sat Star band bor IntKind.wrap WR Code.rounds WT KO
instance:TU Tryz.prog 163 (.func #[99] #[] false):=⟨Tryz.underlying163⟩
abbrev SBt:=SB 99 262
abbrev akl (e:TEnt) (a:Option Addr) (k:Nat) (m:Msg) (w:Words) (bm bt:Nat):List Value:=[.int .i64 e.o,.int .i64 e.s.cores,.int .i64 e.s.most,.slice a e.s.ps.length k,.bool e.s.all,
  .int .i64 m.kind,.int .i64 m.line,.int .i64 m.src,.int .i64 m.dst,.int .i64 m.who,.int .i64 m.acks,.int .i64 m.own,.int .i64 m.words.w0,.int .i64 m.words.w1,.int .i64 m.words.w2,.int .i64 m.words.w3,.int .i64 m.words.w4,.int .i64 m.words.w5,.int .i64 m.words.w6,.int .i64 m.words.w7,
  .int .i64 w.w0,.int .i64 w.w1,.int .i64 w.w2,.int .i64 w.w3,.int .i64 w.w4,.int .i64 w.w5,.int .i64 w.w6,.int .i64 w.w7,.func (.func 226) #[] #[.pointer (some ⟨bm,0,none⟩),.pointer (some ⟨bt,0,none⟩)]]
abbrev akv (e:TEnt) (a:Option Addr) (k:Nat) (m:Msg) (w:Words) (bm bt:Nat):Value:= .agg (akl e a k m w bm bt).toArray
theorem dr_Tab_226 {Q P:Prop} (k:Q) (h:Hid Q→P:=by
  intro k
  first
  |(refine is_draw ?_;apply WC_mix (id:=1) .true _ (pl:= .p 0 <| .p 2 <| .r 1 <| .p 4 <| .e true [(3,.e true [(5,.p 6 <| .e false [(7,.done)])]),(5,.e false [(3,.p 6 <| .e false [(7,.done)])])]);exact mixed;kernel_rfl;kernel_rfl;exact Ent.refl;exact k.out)):P:=h ⟨k⟩
theorem tab_send {F:List HP} {x m:Msg} {bm bt:Nat} {l:List Msg} (hn:l.length≤1000):FnF Tryz.prog 226 [mv x,.pointer (some ⟨bm,0,none⟩),.pointer (some ⟨bt,0,none⟩)] [SBt bm bt m l] F
    (fun r L'=>r= .tuple [].toArray∧L'=[SBt bm bt m (l++[{ x with line:=m.line,src:=m.dst}])]):=by
  refine FnF.mk' Tryz.func226 rfl rfl Tryz.ntmps226 rfl ?_
  refine SB_open fun p c=>?_
  repeat' (first|refine go ?_|intro _|refine dr_Tab_226 ?_|refine drq ?_|refine spl ?_ ?_|fail)
  all_goals (apply WE_ret rfl rfl zqR)
  all_goals first|exact ⟨rfl,rfl⟩|(((repeat (first|(with_reducible exact Ent.refl)|exact Ent.nil|(apply ent_pickE;exact zqP)|(apply SB_in)|apply Ent.drop));all_goals (first|rfl|(with_reducible assumption)|(simp [flat_append,flat_one];done)|(simp [flat_append,flat_one];omega)|omega|(constructor<;>(simp [flat_append,flat_one])<;>omega))))
theorem tab_sendT {F:List HP} {m:Msg} {bm bt:Nat} {l:List Msg} (kind to who acks own:Int) (w:Words) (hn:l.length≤1000):FnF Tryz.prog 226 [mv ⟨kind,0,0,to,who,acks,own,w⟩,.pointer (some ⟨bm,0,none⟩),.pointer (some ⟨bt,0,none⟩)] [SBt bm bt m l] F
    (fun r L'=>r= .tuple [].toArray∧L'=[SBt bm bt m (l++[msgT m kind to who acks own w])]):=tab_send hn
theorem tab_May {F:List HP} {e:TEnt} {a:Option Addr} {k:Nat} (hk:RdL F 1 (.slice a e.s.ps.length k) e.s.ps.length (flat ic e.s.ps)) (hn:e.s.ps.length≤1000):FnF Tryz.prog 225 [.agg (tec e a k).toArray] [] F (fun r L'=>r= .bool (mayT e)∧L'=[]):=by
  have hM:=fun F (hk:RdL F 1 (.slice a e.s.ps.length k) e.s.ps.length (flat ic e.s.ps))=>shr_May (F:=F) hk hn
  refine FnF.mk' Tryz.func225 rfl rfl Tryz.ntmps225 rfl ?_
  cases hm:shMay e.s with
  |true=>
   simp only [hm] at hM
   by_cases h1: -1≤e.o
   · repeat (first|refine gd ?_|intro _|refine cal @hM ?_)
     (apply WE_ret rfl rfl zqR;(first|exact zqL|exact ⟨by simp [mayT,hm,h1]<;>omega,rfl⟩);exact zqN)
   · repeat (first|refine gd ?_|intro _|refine cal @hM ?_)
     (apply WE_ret rfl rfl zqR;(first|exact zqL|exact ⟨by simp [mayT,hm,h1]<;>omega,rfl⟩);exact zqN)
  |false=>
   simp only [hm] at hM
   repeat (first|refine gd ?_|intro _|refine cal @hM ?_)
   (apply WE_ret rfl rfl zqR;(first|exact zqL|exact ⟨by simp [mayT,hm]<;>omega,rfl⟩);exact zqN)
theorem tab_sharing {F:List HP} {e:TEnt} {a:Option Addr} {k:Nat} {m:Msg} {w:Words} {bm bt:Nat} (hk:RdL F 1 (.slice a e.s.ps.length k) e.s.ps.length (flat ic e.s.ps)) (hn:e.s.ps.length≤1000) :
    FnF Tryz.prog 243 [akv e a k m w bm bt] [] F (fun r L'=>∃ a' k',r= .agg (tec ⟨e.o,shAddS e.s m.src⟩ a' k').toArray∧L'=[Own 3 1 (.slice a' (shAddS e.s m.src).ps.length k') (shAddS e.s m.src).ps.length (flat ic (shAddS e.s m.src).ps)]):=by
  have hA:=fun F (hk:RdL F 1 (.slice a e.s.ps.length k) e.s.ps.length (flat ic e.s.ps))=>shr_Add (F:=F) (x:=m.src) hk hn
  refine FnF.mk' Tryz.func243 rfl rfl Tryz.ntmps243 rfl ?_
  repeat (first|refine gd ?_|intro _|refine cal @hA ?_)
  (apply WE_ret rfl rfl zqR)
  · exact ⟨_,_,rfl,rfl⟩
  · exact entu0
theorem tab_data {F:List HP} {e:TEnt} {a:Option Addr} {k:Nat} {m:Msg} {w:Words} {bm bt:Nat} {own acks:Int} {l:List Msg} (hn:l.length≤1000) :
    FnF Tryz.prog 244 [akv e a k m w bm bt,.int .i64 own,.int .i64 acks] [SBt bm bt m l] F (fun r L'=>r= .tuple [].toArray∧L'=[SBt bm bt m (l++[msgT m 7 m.src 0 acks own w])]):=by
  have hS:=fun F=>tab_sendT (F:=F) (m:=m) (bm:=bm) (bt:=bt) (l:=l) 7 m.src 0 acks own w hn
  refine FnF.mk' Tryz.func244 rfl rfl Tryz.ntmps244 rfl ?_
  repeat (first|refine gd ?_|intro _|refine cal @hS ?_)
  exact fin0
theorem dr_Tab_227 {Q P:Prop} (k:Q) (h:Hid Q→P:=by
  intro k
  first
  |(refine is_draw ?_;apply WC_mix (id:=8) .false _ (pl:= .p 0 <| .p 1 <| .p 3 <| .p 4 <| .r 2 <| .r 5 <| .e true [(6,.p 7 <| .e true [(8,.p 9 <| .p 10 <| .done)])]);exact mixed;kernel_rfl;kernel_rfl;exact Ent.refl;exact k.out)):P:=h ⟨k⟩
theorem tab_read {F:List HP} {e:TEnt} {a:Option Addr} {k:Nat} {m:Msg} {w:Words} {bm bt:Nat} (hk:RdL F 1 (.slice a e.s.ps.length k) e.s.ps.length (flat ic e.s.ps)) (hm:shMay e.s=true) :
    FnF Tryz.prog 227 [akv e a k m w bm bt] [SBt bm bt m []] F (fun r L'=>∃ a' k',r= .tuple [.agg (tec (readT e m) a' k').toArray,.bool false,.int .i64 (if e.o=m.src then 7 else 0)].toArray
      ∧L'=[Own 3 1 (.slice a' (readT e m).s.ps.length k') (readT e m).s.ps.length (flat ic (readT e m).s.ps),SBt bm bt m (readS e m w)]):=by
  have hn:=(may_facts' hm).2.2
  have hSh:=fun F (hk:RdL F 1 (.slice a e.s.ps.length k) e.s.ps.length (flat ic e.s.ps))=>tab_sharing (F:=F) (e:=e) (a:=a) (k:=k) (m:=m) (w:=w) (bm:=bm) (bt:=bt) hk (by omega)
  have hT:=fun F (hk:RdL F 1 (.slice a e.s.ps.length k) e.s.ps.length (flat ic e.s.ps))=>shr_Targets (F:=F) (u:= .slice none 0 0) (but:=[]) hk hm rd_empty (by simp)
  refine FnF.mk' Tryz.func227 rfl rfl Tryz.ntmps227 rfl ?_
  by_cases h1:e.o=m.src
  · have e1:readT e m= .no:=if_pos h1
    have e2:readS e m w=[]:=if_pos h1
    rw [e1,e2,if_pos h1]
    repeat (first|refine go ?_|intro _|refine dr_Tab_227 ?_|refine drq ?_)
    (apply WE_ret rfl rfl zqR)
    · exact ⟨none,0,rfl,rfl⟩
    · refine Ent.trans ?_ (own_empty Ent.refl)
      exact entu0
  · rw [if_neg h1]
    by_cases h2:e.o= -1
    · by_cases h3:(shTgt e.s [] e.s.cores.toNat).length=0
      · have e1:readT e m=⟨m.src,clearS e.s⟩:=by unfold readT tgtT;rw [if_neg h1,if_neg (by omega),if_pos h3]
        have e2:readS e m w=[msgT m 7 m.src 0 0 2 w]:=by unfold readS tgtT;rw [if_neg h1,if_neg (by omega),if_pos h3]
        have hD:=fun F=>tab_data (F:=F) (e:=e) (a:=a) (k:=k) (m:=m) (w:=w) (bm:=bm) (bt:=bt) (own:=2) (acks:=0) (l:=[]) (by simp)
        simp only [List.nil_append] at hD
        rw [e1,e2]
        repeat' (first|refine go ?_|intro _|refine dr_Tab_227 ?_|refine drq ?_|refine cal @hT ?_|refine cal @hD ?_|refine cal @shr_Clear ?_|refine spl ?_ ?_|fail)
        all_goals (apply WE_ret rfl rfl zqR)
        all_goals first
        |exact ⟨none,0,rfl,rfl⟩
        |(refine Ent.trans ?_ (own_empty Ent.refl);exact entu0)
      · have e1:readT e m=⟨e.o,shAddS e.s m.src⟩:=by unfold readT tgtT;rw [if_neg h1,if_neg (by omega),if_neg h3]
        have e2:readS e m w=[msgT m 7 m.src 0 0 1 w]:=by unfold readS tgtT;rw [if_neg h1,if_neg (by omega),if_neg h3]
        have hD:=fun F=>tab_data (F:=F) (e:=e) (a:=a) (k:=k) (m:=m) (w:=w) (bm:=bm) (bt:=bt) (own:=1) (acks:=0) (l:=[]) (by simp)
        simp only [List.nil_append] at hD
        rw [e1,e2]
        repeat (first|refine go ?_|intro _|refine dr_Tab_227 ?_|refine drq ?_|refine cal @hT ?_|refine cal @hD ?_|refine cal @hSh ?_)
        (apply WE_ret rfl rfl zqR)
        · exact ⟨_,_,rfl,rfl⟩
        · exact entu0
    · have e1:readT e m=⟨e.o,shAddS e.s m.src⟩:=by unfold readT tgtT;rw [if_neg h1,if_pos (by omega)]
      have e2:readS e m w=[msgT m 4 e.o m.src 0 0 .zero]:=by unfold readS tgtT;rw [if_neg h1,if_pos (by omega)]
      have hS:=fun F=>tab_sendT (F:=F) (m:=m) (bm:=bm) (bt:=bt) (l:=[]) 4 e.o m.src 0 0 .zero (by simp)
      simp only [List.nil_append] at hS
      rw [e1,e2]
      repeat (first|refine go ?_|intro _|refine dr_Tab_227 ?_|refine drq ?_|refine cal @hS ?_|refine cal @hSh ?_)
      (apply WE_ret rfl rfl zqR)
      · exact ⟨_,_,rfl,rfl⟩
      · exact entu0
theorem tab_put {F:List HP} {e:TEnt} {a:Option Addr} {k:Nat} {m:Msg} {w:Words} {bm bt:Nat} :
    FnF Tryz.prog 229 [akv e a k m w bm bt] [SBt bm bt m []] F (fun r L'=>r= .tuple [.agg (tec (putT e m) a k).toArray,.bool (decide (e.o=m.src)),.int .i64 0].toArray∧L'=[SBt bm bt m [msgT m 10 m.src 0 0 0 .zero]]):=by
  have hS:=fun F=>tab_sendT (F:=F) (m:=m) (bm:=bm) (bt:=bt) (l:=[]) 10 m.src 0 0 0 .zero (by simp)
  simp only [List.nil_append] at hS
  refine FnF.mk' Tryz.func229 rfl rfl Tryz.ntmps229 rfl ?_
  by_cases h1:e.o=m.src
  · have e1:putT e m=⟨-1,e.s⟩:=if_pos h1
    rw [e1]
    repeat (first|refine gd ?_|intro _|refine cal @hS ?_)
    (apply WE_ret rfl rfl zqR;(first|exact zqL|exact ⟨by simp [h1]<;>omega,rfl⟩);exact zqN)
  · have e1:putT e m=e:=if_neg h1
    rw [e1]
    repeat (first|refine gd ?_|intro _|refine cal @hS ?_)
    (apply WE_ret rfl rfl zqR;(first|exact zqL|exact ⟨by simp [h1]<;>omega,rfl⟩);exact zqN)
theorem dr_Tab_228 {Q P:Prop} (k:Q) (h:Hid Q→P:=by
  intro k
  first
  |(refine is_draw ?_;apply WC_mix (id:=14) .false _ (pl:= .p 0 <| .p 1 <| .p 3 <| .p 4 <| .r 2 <| .r 5 <| .e true [(6,.p 7 <| .e true [(8,.p 9 <| .p 10 <| .done)])]);exact mixed;kernel_rfl;kernel_rfl;exact Ent.refl;exact k.out)):P:=h ⟨k⟩
theorem tab_write {F:List HP} {e:TEnt} {a:Option Addr} {k:Nat} {m:Msg} {w:Words} {bm bt:Nat} (hk:RdL F 1 (.slice a e.s.ps.length k) e.s.ps.length (flat ic e.s.ps)) (hm:shMay e.s=true) :
    FnF Tryz.prog 228 [akv e a k m w bm bt] [SBt bm bt m []] F (fun r L'=>r= .tuple [.agg (tec ⟨m.src,clearS e.s⟩ none 0).toArray,.bool false,.int .i64 0].toArray∧L'=[SBt bm bt m (writeS e m w)]):=by
  have hc64:=(may_facts' hm).2.1
  have htl:=tgt_len e.s [m.src,e.o] e.s.cores.toNat
  have hT:=fun F (hk:RdL F 1 (.slice a e.s.ps.length k) e.s.ps.length (flat ic e.s.ps)) u (hb:RdL F 1 u 2 [.int .i64 m.src,.int .i64 e.o])=>@shr_Targets F e.s a k u [m.src,e.o] hk hm hb (by simp)
  have ho:othersT e m=shTgt e.s [m.src,e.o] e.s.cores.toNat:=rfl
  have hw:writeS e m w=firstT e m w::(othersT e m).map (invT m):=rfl
  have hf:firstT e m w=if e.o= -1 then msgT m 7 m.src 0 (othersT e m).length 4 w else if e.o=m.src then msgT m 8 m.src 0 (othersT e m).length 0 .zero else msgT m 5 e.o m.src (othersT e m).length 0 .zero:=rfl
  rw [hw]
  rw [ho] at hf ⊢
  generalize shTgt e.s [m.src,e.o] e.s.cores.toNat=ot at hT htl hf ⊢
  have hD:=fun F=>tab_data (F:=F) (e:=e) (a:=a) (k:=k) (m:=m) (w:=w) (bm:=bm) (bt:=bt) (own:=4) (acks:=ot.length) (l:=[]) (by simp)
  simp only [List.nil_append] at hD
  have hS8:=fun F=>tab_sendT (F:=F) (m:=m) (bm:=bm) (bt:=bt) (l:=[]) 8 m.src 0 ot.length 0 .zero (by simp)
  simp only [List.nil_append] at hS8
  have hS5:=fun F=>tab_sendT (F:=F) (m:=m) (bm:=bm) (bt:=bt) (l:=[]) 5 e.o m.src ot.length 0 .zero (by simp)
  simp only [List.nil_append] at hS5
  refine FnF.mk' Tryz.func228 rfl rfl Tryz.ntmps228 rfl ?_
  repeat (first|refine go ?_|intro _|refine dr_Tab_228 ?_|refine drq ?_|refine cal @hT ?_)
  rename_i b1 b2 bs p q
  apply WC_join (P:=Tryz.prog) (fun _:Unit=>[(1,.pointer (some ⟨b1,0,none⟩)),(2,.pointer (some ⟨b2,0,none⟩)),(3,.bool false),(4,.int .i64 0),(54,.slice p ot.length q),(55,.int .i64 ot.length),(56,.int .i64 0)])
    (fun _=>SBt bm bt m [firstT e m w]::Own 3 1 (.slice p ot.length q) ot.length (flat ic ot)::Cells b2 135 [.int .i64 0,.int .i64 0,.int .i64 0,.slice none 0 0,.bool false]::Cells b1 288 (akl e a k m w bm bt)::F) (fun _=>True)
  · intro join
    by_cases h1:e.o= -1
    · rw [if_pos h1] at hf
      repeat (first|refine go ?_|intro _|refine dr_Tab_228 ?_|refine drq ?_|refine cal @hD ?_)
      skip
      exact join () _ _ trivial (by exact zqU) (by rw [hf];exact entu0)
    · rw [if_neg h1] at hf
      by_cases h2:e.o=m.src
      · rw [if_pos h2] at hf
        repeat (first|refine go ?_|intro _|refine dr_Tab_228 ?_|refine drq ?_|refine cal @hS8 ?_)
        skip
        exact join () _ _ trivial (by exact zqU) (by rw [hf];exact entu0)
      · rw [if_neg h2] at hf
        repeat (first|refine go ?_|intro _|refine dr_Tab_228 ?_|refine drq ?_|refine cal @hS5 ?_)
        skip
        exact join () _ _ trivial (by exact zqU) (by rw [hf];exact entu0)
  · intro _ _
    clear hf hD hS8 hS5
    generalize firstT e m w=f1
    apply WC_loopE (E0:=[(1,_),(2,_),(54,_),(55,_)]) (fun E0 (i:Nat)=>(56,.int .i64 i)::E0) (fun i=>SBt bm bt m (f1::(ot.take i).map (invT m))::Own 3 1 (.slice p ot.length q) ot.length (flat ic ot)::Cells b2 135 [.int .i64 0,.int .i64 0,.int .i64 0,.slice none 0 0,.bool false]::Cells b1 288 (akl e a k m w bm bt)::F) (fun i=>i≤ot.length) (fun i=>ot.length-i) 0
    · exact zqU
    · exact Nat.zero_le _
    · simp only [List.take_zero,List.map_nil];exact entu0
    · intro i hi
      by_cases hlt:i<ot.length
      · have hS:=fun F=>tab_sendT (F:=F) (m:=m) (bm:=bm) (bt:=bt) (l:=f1::(ot.take i).map (invT m)) 6 ot[i] m.src 0 0 .zero (by simp;omega)
        have et:f1::(ot.take (i+1)).map (invT m)=(f1::(ot.take i).map (invT m))++[msgT m 6 ot[i] m.src 0 0 .zero]:=by
          rw [List.take_add_one,List.getElem?_eq_getElem hlt];simp only [List.map_append,List.cons_append,List.map_cons,List.map_nil,Option.toList_some];rfl
        repeat (first|refine go ?_|intro _|refine dr_Tab_228 ?_|refine drq ?_|refine cal @hS ?_)
        refine WE_loop (i+1) (by omega) (by omega) ?_ ?_
        · exact zqU
        · rw [et];exact entu0
      · have hil:i=ot.length:=by omega
        subst hil
        rw [List.take_length]
        repeat (first|refine go ?_|intro _|refine dr_Tab_228 ?_|refine drq ?_|refine cal @shr_Clear ?_)
        (apply WE_ret rfl rfl zqR)
        · exact ⟨rfl,rfl⟩
        · exact entu0
theorem readT_len {e:TEnt} {m:Msg} (h:shMay e.s=true):(readT e m).s.ps.length≤9:=by
  have h8:=may_facts' h
  have ha:=addS_len e.s m.src
  unfold readT
  split
  · simp
  · split
    · dsimp only;omega
    · split
      · simp [clearS]
      · dsimp only;omega
theorem readS_len {e:TEnt} {m:Msg} {w:Words}:(readS e m w).length≤1:=by
  unfold readS;split<;>(try split)<;>(try split)<;>simp
theorem tab_Next {F:List HP} {e:TEnt} {a:Option Addr} {k:Nat} {m:Msg} {w:Words} (hk:RdL F 1 (.slice a e.s.ps.length k) e.s.ps.length (flat ic e.s.ps)) (hn:e.s.ps.length≤1000) :
    FnF Tryz.prog 195 [.agg (tec e a k).toArray,mv m,wv w] [] F (fun r L'=>∃ a' k' p c,r= .tuple [.agg (tuc (nextT e m) a' k' p (nextS e m w).length c (nextW e m)).toArray,.int .i64 (nextE e m)].toArray
      ∧L'=[Own 3 1 (.slice a' (nextT e m).s.ps.length k') (nextT e m).s.ps.length (flat ic (nextT e m).s.ps),Own 99 15 (.slice p (nextS e m w).length c) (nextS e m w).length (flat mc (nextS e m w))]):=by
  have hM:=fun F (hk:RdL F 1 (.slice a e.s.ps.length k) e.s.ps.length (flat ic e.s.ps))=>tab_May (F:=F) hk hn
  refine FnF.mk' Tryz.func195 rfl rfl Tryz.ntmps195 rfl ?_
  cases hok:okT e m with
  |false=>
   have e1:nextE e m=1:=by simp [nextE,hok]
   have e2:nextT e m= .no:=by simp [nextT,e1]
   have e3:nextS e m w=[]:=by simp [nextS,e1]
   have e4:nextW e m=false:=by simp [nextW,e1]
   rw [e1,e2,e3,e4]
   cases hm:mayT e with
   |false=>
    simp only [hm] at hM
    repeat (first|refine gd ?_|intro _|refine cal @hM ?_)
    (apply WE_ret rfl rfl zqR)
    · exact ⟨none,0,none,0,rfl,rfl⟩
    · refine own_empty (own_empty ?_)
      exact entu0
   |true=>
    simp only [hm] at hM
    have hb:¬(0≤m.src∧m.src<e.s.cores):=by
      intro hh;simp [okT,hm,hh] at hok
    by_cases h0:m.src<0
    · repeat (first|refine gd ?_|intro _|refine cal @hM ?_)
      (apply WE_ret rfl rfl zqR)
      · exact ⟨none,0,none,0,rfl,rfl⟩
      · refine own_empty (own_empty ?_)
        exact entu0
    · repeat (first|refine gd ?_|intro _|refine cal @hM ?_)
      (apply WE_ret rfl rfl zqR)
      · exact ⟨none,0,none,0,rfl,rfl⟩
      · refine own_empty (own_empty ?_)
        exact entu0
  |true=>
   have hm:mayT e=true:=by simp only [okT,Bool.and_eq_true] at hok;exact hok.1.1
   have hs:shMay e.s=true:=by simp only [mayT,Bool.and_eq_true] at hm;exact hm.1.1
   have hb:0≤m.src∧m.src<e.s.cores:=by simp only [okT,Bool.and_eq_true,decide_eq_true_eq] at hok;exact ⟨hok.1.2,hok.2⟩
   have h8:=(may_facts' hs).2.2
   simp only [hm] at hM
   obtain ⟨hb0,hb1⟩:=hb
   by_cases h1:m.kind=1
   · have hk3:¬m.kind=3:=by omega
     have hk2:¬m.kind=2:=by omega
     have hR:=fun F (hk:RdL F 1 (.slice a e.s.ps.length k) e.s.ps.length (flat ic e.s.ps)) bm bt=>tab_read (F:=F) (e:=e) (a:=a) (k:=k) (m:=m) (w:=w) (bm:=bm) (bt:=bt) hk hs
     by_cases he:e.o=m.src
     · have e1:nextE e m=7:=by simp [nextE,hok,h1,he]
       have e2:nextT e m= .no:=by simp [nextT,e1]
       have e3:nextS e m w=[]:=by simp [nextS,e1]
       have e4:nextW e m=false:=by simp [nextW,e1]
       rw [e1,e2,e3,e4]
       simp only [if_pos he] at hR
       repeat (first|refine gd ?_|intro _|refine cal @hM ?_)
       rename_i b3 b4 b5 b6 b8 b9
       refine WO_ent (L':=SBt b4 b8 m []::Cells b9 288 (akl e a k m w b4 b8)::Cells b6 262 (tz none 0 0)::F) (SB_in (p:=none) (n:=0) (c:=0) (xs:=[]) (Ent.trans (own_empty (e:=99) (sz:=15) (p:=none) Ent.refl) (by exact entu0)) rfl rfl) ?_
       repeat (first|refine gd ?_|intro _|refine cal @hR ?_)
       (first|refine WO_front (SBt b4 b8 m (readS e m w)) ?_|refine WC_front (SBt b4 b8 m (readS e m w)) ?_|refine WE_front (SBt b4 b8 m (readS e m w)) ?_)
       refine SB_openO fun p c=>?_
       repeat (first|refine gd ?_|intro _)
       (apply WE_ret rfl rfl zqR)
       · exact ⟨none,0,none,0,rfl,rfl⟩
       · refine own_empty (own_empty ?_)
         exact entu0
     · have e1:nextE e m=0:=by simp [nextE,hok,h1,he]
       have e2:nextT e m=readT e m:=by simp [nextT,e1,h1]
       have e3:nextS e m w=readS e m w:=by simp [nextS,e1,h1]
       have e4:nextW e m=false:=by simp [nextW,e1,h1]
       have hl:(readT e m).s.ps.length≤9:=readT_len hs
       have hl2:(readS e m w).length≤1:=readS_len
       rw [e1,e2,e3,e4]
       simp only [if_neg he] at hR
       repeat (first|refine gd ?_|intro _|refine cal @hM ?_)
       rename_i b3 b4 b5 b6 b8 b9
       refine WO_ent (L':=SBt b4 b8 m []::Cells b9 288 (akl e a k m w b4 b8)::Cells b6 262 (tz none 0 0)::F) (SB_in (p:=none) (n:=0) (c:=0) (xs:=[]) (Ent.trans (own_empty (e:=99) (sz:=15) (p:=none) Ent.refl) (by exact entu0)) rfl rfl) ?_
       repeat (first|refine gd ?_|intro _|refine cal @hR ?_)
       (first|refine WO_front (SBt b4 b8 m (readS e m w)) ?_|refine WC_front (SBt b4 b8 m (readS e m w)) ?_|refine WE_front (SBt b4 b8 m (readS e m w)) ?_)
       refine SB_openO fun p c=>?_
       repeat (first|refine gd ?_|intro _)
       refine WO_ent (own_empty (e:=3) (sz:=1) (p:=none) Ent.refl) ?_
       repeat (first|refine gd ?_|intro _)
       simp only [Nat.zero_add,List.nil_append]
       (apply WE_ret rfl rfl zqR)
       · exact ⟨_,_,_,_,rfl,rfl⟩
       · exact entu0
   · by_cases h2:m.kind=2
     · skip
       have hk3:¬m.kind=3:=by omega
       have hR:=fun F (hk:RdL F 1 (.slice a e.s.ps.length k) e.s.ps.length (flat ic e.s.ps)) bm bt=>tab_write (F:=F) (e:=e) (a:=a) (k:=k) (m:=m) (w:=w) (bm:=bm) (bt:=bt) hk hs
       have e1:nextE e m=0:=by simp [nextE,hok,h2]
       have e2:nextT e m=⟨m.src,clearS e.s⟩:=by simp [nextT,e1,h2]
       have e3:nextS e m w=writeS e m w:=by simp [nextS,e1,h2]
       haveI hnil:∀ L,RdL L 1 (.slice none (⟨m.src,clearS e.s⟩:TEnt).s.ps.length 0) 0 []:=fun L=>rd_empty
       have e4:nextW e m=false:=by simp [nextW,e1,h2]
       rw [e1,e2,e3,e4]
       repeat (first|refine gd ?_|intro _|refine cal @hM ?_)
       rename_i b3 b4 b5 b6 b8 b9
       refine WO_ent (L':=SBt b4 b8 m []::Cells b9 288 (akl e a k m w b4 b8)::Cells b6 262 (tz none 0 0)::F) (SB_in (p:=none) (n:=0) (c:=0) (xs:=[]) (Ent.trans (own_empty (e:=99) (sz:=15) (p:=none) Ent.refl) (by exact entu0)) rfl rfl) ?_
       repeat (first|refine gd ?_|intro _|refine cal @hR ?_)
       (first|refine WO_front (SBt b4 b8 m (writeS e m w)) ?_|refine WC_front (SBt b4 b8 m (writeS e m w)) ?_|refine WE_front (SBt b4 b8 m (writeS e m w)) ?_)
       refine SB_openO fun p c=>?_
       repeat (first|refine gd ?_|intro _)
       refine WO_ent (own_empty (e:=3) (sz:=1) (p:=none) Ent.refl) ?_
       repeat (first|refine gd ?_|intro _)
       simp only [Nat.zero_add,List.nil_append]
       (apply WE_ret rfl rfl zqR)
       · exact ⟨_,_,_,_,rfl,rfl⟩
       · simp only [clearS,List.length_nil,flat_nil];exact entu0
     · by_cases h3:m.kind=3
       · skip
         skip
         have hR:=fun F bm bt=>tab_put (F:=F) (e:=e) (a:=a) (k:=k) (m:=m) (w:=w) (bm:=bm) (bt:=bt)
         have e1:nextE e m=0:=by simp [nextE,hok,h3]
         have e2:nextT e m=putT e m:=by simp [nextT,e1,h3]
         have e3:nextS e m w=[msgT m 10 m.src 0 0 0 .zero]:=by simp [nextS,e1,h3]
         have e4:nextW e m=decide (e.o=m.src):=by simp [nextW,e1,h3]
         have e5:(putT e m).s=e.s:=by unfold putT;split<;>rfl
         haveI hk':RdL F 1 (.slice a (putT e m).s.ps.length k) (putT e m).s.ps.length (flat ic (putT e m).s.ps):=by rw [e5];exact hk
         have hl:(putT e m).s.ps.length≤8:=by rw [e5];omega
         rw [e1,e2,e3,e4]
         repeat (first|refine gd ?_|intro _|refine cal @hM ?_)
         rename_i b3 b4 b5 b6 b8 b9
         refine WO_ent (L':=SBt b4 b8 m []::Cells b9 288 (akl e a k m w b4 b8)::Cells b6 262 (tz none 0 0)::F) (SB_in (p:=none) (n:=0) (c:=0) (xs:=[]) (Ent.trans (own_empty (e:=99) (sz:=15) (p:=none) Ent.refl) (by exact entu0)) rfl rfl) ?_
         repeat (first|refine gd ?_|intro _|refine cal @hR ?_)
         (first|refine WO_front (SBt b4 b8 m ([msgT m 10 m.src 0 0 0 .zero])) ?_|refine WC_front (SBt b4 b8 m ([msgT m 10 m.src 0 0 0 .zero])) ?_|refine WE_front (SBt b4 b8 m ([msgT m 10 m.src 0 0 0 .zero])) ?_)
         refine SB_openO fun p c=>?_
         repeat (first|refine gd ?_|intro _)
         refine WO_ent (own_empty (e:=3) (sz:=1) (p:=none) Ent.refl) ?_
         repeat (first|refine gd ?_|intro _)
         simp only [Nat.zero_add,List.nil_append]
         (apply WE_ret rfl rfl zqR)
         · exact ⟨_,_,_,_,rfl,rfl⟩
         · exact entu0
       · have e1:nextE e m=1:=by simp [nextE,hok,h1,h2,h3]
         have e2:nextT e m= .no:=by simp [nextT,e1]
         have e3:nextS e m w=[]:=by simp [nextS,e1]
         have e4:nextW e m=false:=by simp [nextW,e1]
         rw [e1,e2,e3,e4]
         repeat (first|refine gd ?_|intro _|refine cal @hM ?_)
         (apply WE_ret rfl rfl zqR)
         · exact ⟨none,0,none,0,rfl,rfl⟩
         · refine own_empty (own_empty ?_)
           exact entu0
end Go.Sx

/- The laws of the table. My own work. -/
namespace Go.Sx
open Go Go.Proofs
set_option maxRecDepth 100000
set_option maxHeartbeats 4000000
attribute [local irreducible] Go.Exit.then Go.Exit.inBlock Go.Code.wp WC WO WE WQ V LoopQ FnQ Sat Star band bor IntKind.wrap WR Code.rounds WT KO
theorem tab_New {F:List HP} {cores most:Int}:FnF Tryz.prog 97 [.int .i64 cores,.int .i64 most] [] F
    (fun r L'=>r= .tuple [.agg (tec (if shMay ⟨cores,most,[],false⟩ then ⟨-1,⟨cores,most,[],false⟩⟩ else .no) none 0).toArray,.int .i64 (if shMay ⟨cores,most,[],false⟩ then 0 else 1)].toArray∧L'=[]):=by
  have hN:=fun F=>shr_New (F:=F) (cores:=cores) (most:=most)
  cases e:shMay ⟨cores,most,[],false⟩ with
  |true=>
   simp only [e,if_true] at hN ⊢
   refine FnF.mk' Tryz.func97 rfl rfl Tryz.ntmps97 rfl ?_
   repeat (first|refine gd ?_|intro _|refine cal @hN ?_)
   exact fin0
  |false=>
   simp only [e,Bool.false_eq_true,if_false] at hN ⊢
   refine FnF.mk' Tryz.func97 rfl rfl Tryz.ntmps97 rfl ?_
   repeat (first|refine gd ?_|intro _|refine cal @hN ?_)
   exact fin0
end Go.Sx

/- The table, in plain words. My own work. -/
namespace Go.Sx
open Go Go.Proofs
theorem may_mk' {s:SSet} (h1:1≤s.cores) (h2:s.cores≤64) (h3:0≤s.most) (h4:s.most≤8) (h5:(s.ps.length:Int)≤s.most) (h6:s.all=true→s.ps=[]) (h7:s.ps.Pairwise (· < ·)) (h8:∀ c∈s.ps,0≤c∧c<s.cores):shMay s=true:=by
  have h9:risingB s.cores (-1) s.ps=true:=rising_of h7 fun c hc=>by have:=h8 c hc;exact ⟨by omega,this.2⟩
  have h10:(!(s.all&& decide (0<s.ps.length)))=true:=by
    cases ha:s.all with
    |false=>rfl
    |true=>rw [h6 ha];rfl
  simp only [shMay,h1,h2,h3,h4,h5,h9,h10,decide_true,Bool.and_true]
theorem may_add' {s:SSet} {x:Int} (h:shMay s=true) (hx0:0≤x) (hx1:x<s.cores):shMay (shAddS s x)=true∧(shAddS s x).cores=s.cores∧(shAddS s x).most=s.most:=by
  obtain ⟨m1,m2,m3,m4,m5,m6,m7,m8⟩:=may_facts' h
  have e1:shAddE s x=0:=by simp only [shAddE,h,if_true];rw [if_neg (by omega)]
  unfold shAddS
  rw [if_pos e1]
  cases hh:shHas s x with
  |true=>exact ⟨h,rfl,rfl⟩
  |false=>
   rw [if_neg Bool.false_ne_true]
   by_cases hf:(s.ps.length:Int)=s.most
   · rw [if_pos hf]
     exact ⟨may_mk' m1 m2 m3 m4 (by simpa using m3) (fun _=>rfl) List.Pairwise.nil (fun c hc=>by cases hc),rfl,rfl⟩
   · rw [if_neg hf]
     have hal:=not_has_all hx0 hx1 hh
     have hx:¬x∈s.ps:=by simpa [shHas,hal] using hh
     refine ⟨may_mk' m1 m2 m3 m4 ?_ ?_ (insL_sorted m7 hx) ?_,rfl,rfl⟩
     · simp only [insL_len];omega
     · intro h;dsimp only at h;rw [hal] at h;cases h
     · intro c hc
       rcases (insL_mem x c s.ps).1 hc with rfl|hc
       · exact ⟨hx0,hx1⟩
       · exact m8 c hc
theorem has_rng {s:SSet} {c:Int} (h:shMay s=true) (hh:shHas s c=true):0≤c∧c<s.cores:=by
  obtain ⟨_,_,_,_,_,_,_,m8⟩:=may_facts' h
  unfold shHas at hh
  cases ha:s.all with
  |true=>rw [ha,if_pos rfl] at hh;simpa using hh
  |false=>rw [ha,if_neg Bool.false_ne_true] at hh;exact m8 c (of_decide_eq_true hh)
theorem tgt_mem {s:SSet} {but:List Int} {c:Int} (h:shMay s=true):c∈shTgt s but s.cores.toNat↔shHas s c=true∧¬c∈but:=by
  unfold shTgt
  rw [List.mem_filter,upto_mem]
  simp only [Bool.and_eq_true,Bool.not_eq_true',decide_eq_false_iff_not]
  constructor
  · exact fun h=>h.2
  · intro hh
    have:=has_rng h hh.1
    exact ⟨by omega,hh⟩
theorem tgt_sorted (s:SSet) (but:List Int) (n:Nat):(shTgt s but n).Pairwise (· < ·):=(upto_sorted n).filter _
theorem nextE_ok {e:TEnt} {m:Msg} (h:nextE e m=0):okT e m=true∧(m.kind=1∧¬e.o=m.src∨m.kind=2∨m.kind=3):=by
  unfold nextE at h
  split at h
  · rename_i hk
    refine ⟨hk,?_⟩
    split at h
    · split at h
      · cases h
      · exact .inl ⟨by assumption,by assumption⟩
    · split at h
      · exact .inr (.inl (by assumption))
      · split at h
        · exact .inr (.inr (by assumption))
        · cases h
  · cases h
theorem okT_facts {e:TEnt} {m:Msg} (h:okT e m=true):shMay e.s=true∧ -1≤e.o∧e.o<e.s.cores∧0≤m.src∧m.src<e.s.cores:=by
  simp only [okT,mayT,Bool.and_eq_true,decide_eq_true_eq] at h
  exact ⟨h.1.1.1.1,h.1.1.1.2,h.1.1.2,h.1.2,h.2⟩
theorem mayT_mk {e:TEnt} (h1:shMay e.s=true) (h2: -1≤e.o) (h3:e.o<e.s.cores):mayT e=true:=by simp [mayT,h1,h2,h3]
theorem may_clear {s:SSet} (h:shMay s=true):shMay (clearS s)=true:=by
  obtain ⟨m1,m2,m3,m4,m5,m6,m7,m8⟩:=may_facts' h
  exact may_mk' m1 m2 m3 m4 (by simpa [clearS] using m3) (fun _=>rfl) List.Pairwise.nil (fun c hc=>by cases hc)
theorem next_may {e:TEnt} {m:Msg} (h:nextE e m=0):mayT (nextT e m)=true:=by
  obtain ⟨hok,hk⟩:=nextE_ok h
  obtain ⟨h1,h2,h3,h4,h5⟩:=okT_facts hok
  obtain ⟨a1,a2,_⟩:=may_add' h1 h4 h5
  unfold nextT
  rw [if_pos h]
  rcases hk with ⟨k,ho⟩|k|k
  · rw [if_pos k]
    unfold readT
    rw [if_neg ho]
    split
    · exact mayT_mk a1 h2 (by rw [a2];exact h3)
    · split
      · exact mayT_mk (may_clear h1) (by dsimp only;omega) h5
      · exact mayT_mk a1 h2 (by rw [a2];exact h3)
  · rw [if_neg (by omega),if_pos k]
    exact mayT_mk (may_clear h1) (by dsimp only;omega) h5
  · rw [if_neg (by omega),if_neg (by omega)]
    unfold putT
    split
    · exact mayT_mk h1 (by simp) (by dsimp only;have:=(may_facts' h1).1;omega)
    · exact mayT_mk h1 h2 h3
theorem next_sent {e:TEnt} {m:Msg} (w:Words) (h:nextE e m=0):∃ f:Msg,∃ ot:List Int,nextS e m w=f::ot.map (invT m)∧f.kind≠6∧f.line=m.line∧f.src=m.dst∧f.acks=(ot.length:Nat)∧(f.dst=m.src∨f.who=m.src∧f.dst=e.o)∧
    ot.Pairwise (· < ·)∧ot.length≤64∧∀ c∈ot,0≤c∧c≠m.src∧c≠e.o∧shHas e.s c=true:=by
  obtain ⟨hok,hk⟩:=nextE_ok h
  obtain ⟨h1,h2,h3,h4,h5⟩:=okT_facts hok
  unfold nextS
  rw [if_pos h]
  rcases hk with ⟨k,ho⟩|k|k
  · rw [if_pos k]
    unfold readS
    rw [if_neg ho]
    split
    · exact ⟨_,[],rfl,by simp [msgT],rfl,rfl,rfl,.inr ⟨rfl,rfl⟩,List.Pairwise.nil,by simp,fun c hc=>by cases hc⟩
    · split
      · exact ⟨_,[],rfl,by simp [msgT],rfl,rfl,rfl,.inl rfl,List.Pairwise.nil,by simp,fun c hc=>by cases hc⟩
      · exact ⟨_,[],rfl,by simp [msgT],rfl,rfl,rfl,.inl rfl,List.Pairwise.nil,by simp,fun c hc=>by cases hc⟩
  · rw [if_neg (by omega),if_pos k]
    have hot:∀ c∈othersT e m,0≤c∧c≠m.src∧c≠e.o∧shHas e.s c=true:=fun c hc=>by
      obtain ⟨g1,g2⟩:=(tgt_mem h1).1 hc
      simp only [List.mem_cons,List.not_mem_nil,or_false,not_or] at g2
      exact ⟨(has_rng h1 g1).1,g2.1,g2.2,g1⟩
    refine ⟨firstT e m w,othersT e m,rfl,?_,?_,?_,?_,?_,tgt_sorted _ _ _,(by have:=tgt_len e.s [m.src,e.o] e.s.cores.toNat;have h64:=(may_facts' h1).2.1;have hd:othersT e m=shTgt e.s [m.src,e.o] e.s.cores.toNat:=rfl;rw [hd];omega),hot⟩
    all_goals (unfold firstT;split)
    all_goals first
    |(simp [msgT];done)
    |rfl
    |exact .inl rfl
    |(split<;>first|(simp [msgT];done)|rfl|exact .inl rfl|exact .inr ⟨rfl,rfl⟩)
  · rw [if_neg (by omega),if_neg (by omega)]
    exact ⟨_,[],rfl,by simp [msgT],rfl,rfl,rfl,.inl rfl,List.Pairwise.nil,by simp,fun c hc=>by cases hc⟩
def lastN (S:List Msg) (i:Nat):Int:=if i≤1 then -1 else (S.getD (i-1) .zero).dst
theorem sent_facts {e:TEnt} {m:Msg} {w:Words} (h:nextE e m=0):0<(nextS e m w).length∧(nextS e m w).length≤1000∧
    (∀ i (hi:i<(nextS e m w).length),(nextS e m w)[i].line=m.line∧(nextS e m w)[i].src=m.dst∧((nextS e m w)[i].kind=6↔0<i))∧
    (∀ (hi:0<(nextS e m w).length),(nextS e m w)[0].acks=((nextS e m w).length:Int)-1∧((nextS e m w)[0].dst=m.src∨(nextS e m w)[0].who=m.src∧(nextS e m w)[0].dst=e.o))∧
    ∀ i (hi:i<(nextS e m w).length),0<i→lastN (nextS e m w) i<(nextS e m w)[i].dst∧(nextS e m w)[i].dst≠m.src∧(nextS e m w)[i].dst≠e.o∧(nextS e m w)[i].who=m.src∧shHas e.s (nextS e m w)[i].dst=true:=by
  obtain ⟨hok,_⟩:=nextE_ok h
  obtain ⟨hm,_⟩:=okT_facts hok
  obtain ⟨f,ot,hS,f1,f2,f3,f4,f5,f6,hl,f7⟩:=next_sent w h
  rw [hS]
  refine ⟨by simp,by simp;omega,?_,?_,?_⟩
  · intro i hi
    cases i with
    |zero=>exact ⟨f2,f3,by simpa using f1⟩
    |succ i=>simp [invT,msgT]
  · intro _
    exact ⟨by simp [f4],f5⟩
  · intro i hi hi0
    obtain ⟨j,rfl⟩:∃ j,i=j+1:=⟨i-1,by omega⟩
    have hj:j<ot.length:=by simpa using hi
    have h7:=f7 _ (List.getElem_mem hj)
    have e1:(f::ot.map (invT m))[j+1]=invT m ot[j]:=by simp
    rw [e1]
    refine ⟨?_,h7.2.1,h7.2.2.1,rfl,h7.2.2.2⟩
    show lastN _ _<ot[j]
    unfold lastN
    split
    · omega
    · obtain ⟨k,rfl⟩:∃ k,j=k+1:=⟨j-1,by omega⟩
      have e2:(f::ot.map (invT m)).getD (k+1+1-1) .zero=invT m ot[k]:=by
        simp [List.getD_eq_getElem?_getD,show k<ot.length by omega]
      rw [e2]
      exact List.pairwise_iff_getElem.1 f6 k (k+1) (by omega) hj (by omega)
end Go.Sx

/- Caches told of lists: what stays so, whatever is asked, evicted, taken and done. My own work. -/
namespace Go.Sx
open Go Go.Proofs
def StOk (x:Way):Prop:=0≤x.st∧x.st≤4
def MsOk (c:Cfg) (n:Nat) (m:Miss):Prop:=okLine c m.line=true∧MisOk m∧m.got≤n
def CaInv (c:Cfg) (n:Nat) (k:CaS):Prop:=ArrInv c k.ways∧(∀ x∈k.ways,StOk x)∧(∀ m∈k.mis,MsOk c n m)
theorem ms_mono {c:Cfg} {n n':Nat} {m:Miss} (hn:n≤n') (h:MsOk c n m):MsOk c n' m:=⟨h.1,h.2.1,by have:=h.2.2;omega⟩
theorem caInv_mono {c:Cfg} {n n':Nat} {k:CaS} (hn:n≤n') (h:CaInv c n k):CaInv c n' k:=⟨h.1,h.2.1,fun m hm=>ms_mono hn (h.2.2 m hm)⟩
theorem caInv_new (c:Cfg) (n:Nat) (w:Nat):CaInv c n ⟨List.replicate w .zero,[],[]⟩:=
  ⟨arr_inv_no c w,fun x hx=>by rw [(List.mem_replicate.1 hx).2];exact ⟨by decide,by decide⟩,fun m hm=>by cases hm⟩
theorem findW_all {P:Way→Prop} {c:Cfg} {l:List Way} {line:Int} (h:∀ x∈l,P x) (hz:P .zero):P (findW c l line):=by
  by_cases g:arrP c l line<0
  · unfold findW;rw [if_pos g];exact hz
  · obtain ⟨i,hi⟩:∃ i:Nat,arrP c l line=i:=⟨(arrP c l line).toNat,by omega⟩
    obtain ⟨h2,_⟩:=arrP_at hi
    rw [findW_at hi h2]
    exact h _ (List.getElem_mem h2)
theorem st_zero:StOk .zero:=⟨by decide,by decide⟩
theorem lay_st {c:Cfg} {l:List Way} {line way:Int} (h:∀ x∈l,StOk x):∀ x∈layL c l line way,StOk x:=by
  unfold layL
  split
  · exact set_all h st_zero
  · exact h
theorem lock_st {c:Cfg} {l:List Way} {line:Int} {lk:Bool} (h:∀ x∈l,StOk x):∀ x∈lockL c l line lk,StOk x:=by
  unfold lockL
  split
  · exact set_all h (findW_all (P:=StOk) h st_zero)
  · exact h
theorem set_st {c:Cfg} {l:List Way} {line st:Int} {w:Words} (h:∀ x∈l,StOk x):∀ x∈setL c l line st w,StOk x:=by
  unfold setL
  split
  · rename_i h0
    refine set_all h ?_
    unfold setE at h0
    split at h0
    · cases h0
    · split at h0
      · cases h0
      · rename_i h1 h2
        unfold StOk;dsimp only;omega
  · exact h
theorem misIn_mem {l:List Miss} {line:Int} (h:misIn l line=true):misAt l line∈l∧(misAt l line).line=line:=by
  obtain ⟨i,hi,_,e,el⟩:=misIn_t h
  rw [e];exact ⟨List.getElem_mem hi,el⟩
theorem open_ms {c:Cfg} {n:Nat} {room line kind:Int} {l:List Miss} (hl:okLine c line=true) (h:∀ m∈l,MsOk c n m):∀ m∈openL room l line kind,MsOk c n m:=by
  unfold openL
  split
  · rename_i h0
    intro m hm
    rcases List.mem_append.1 hm with g|g
    · exact h m g
    · simp only [List.mem_singleton] at g
      subst g
      have hk:kind=1∨kind=2:=by
        unfold openE at h0
        split at h0
        · cases h0
        · omega
      exact ⟨hl,⟨hk,by dsimp only;omega,by dsimp only;omega,fun g=>by dsimp only at g;omega⟩,by dsimp only;omega⟩
  · exact h
theorem dataE_in {l:List Miss} {line acks own:Int} (h:dataE l line acks own=0):misIn l line=true∧fitsM (misAt l line) acks own=true:=by
  unfold dataE at h
  split at h
  · rename_i h1
    split at h
    · rename_i h2;exact ⟨h1,h2⟩
    · cases h
  · cases h
theorem fits_needs {m:Miss} {acks own:Int} (h:fitsM m acks own=true):m.needs= -1∧m.got≤acks:=by
  unfold fitsM at h
  rw [Bool.and_eq_true,decide_eq_true_eq] at h
  exact h.1
theorem data_ms {c:Cfg} {n:Nat} {l:List Miss} {line acks own:Int} {w:Words} (h:∀ m∈l,MsOk c n m):∀ m∈dataL l line acks own w,MsOk c n m:=by
  unfold dataL
  split
  · rename_i h0
    obtain ⟨h1,h2⟩:=dataE_in h0
    obtain ⟨g1,g2⟩:=fits_needs h2
    obtain ⟨a1,a2,a3⟩:=h _ (misIn_mem h1).1
    obtain ⟨b1,b2,b3,b4⟩:=a2
    exact set_all h ⟨a1,⟨b1,by dsimp only;omega,b3,fun _=>by dsimp only;omega⟩,a3⟩
  · exact h
theorem grant_ms {c:Cfg} {n:Nat} {l:List Miss} {line acks:Int} (h:∀ m∈l,MsOk c n m):∀ m∈grantL l line acks,MsOk c n m:=by
  unfold grantL
  split
  · rename_i h0
    obtain ⟨h1,h2⟩:=dataE_in h0
    obtain ⟨g1,g2⟩:=fits_needs h2
    obtain ⟨a1,a2,a3⟩:=h _ (misIn_mem h1).1
    obtain ⟨b1,b2,b3,b4⟩:=a2
    exact set_all h ⟨a1,⟨b1,by dsimp only;omega,b3,fun _=>by dsimp only;omega⟩,a3⟩
  · exact h
theorem ackE_in {l:List Miss} {line:Int} (h:ackE l line=0):misIn l line=true∧(misAt l line).kind≠1∧(misAt l line).needs≠(misAt l line).got:=by
  unfold ackE at h
  split at h
  · rename_i h1
    split at h
    · cases h
    · rename_i h2;exact ⟨h1,fun g=>h2 (.inl g),fun g=>h2 (.inr g)⟩
  · cases h
theorem ack_ms {c:Cfg} {n:Nat} {l:List Miss} {line:Int} (h:∀ m∈l,MsOk c n m):∀ m∈ackL l line,MsOk c (n+1) m:=by
  unfold ackL
  split
  · rename_i h0
    obtain ⟨h1,h2,h3⟩:=ackE_in h0
    obtain ⟨a1,a2,a3⟩:=h _ (misIn_mem h1).1
    obtain ⟨b1,b2,b3,b4⟩:=a2
    exact set_all (fun m hm=>ms_mono (by omega) (h m hm)) ⟨a1,⟨b1,b2,by dsimp only;omega,fun g=>by have:=b4 g;dsimp only at g ⊢;omega⟩,by dsimp only;omega⟩
  · exact fun m hm=>ms_mono (by omega) (h m hm)
theorem owe_ms {c:Cfg} {n:Nat} {l:List Miss} {line:Int} (h:∀ m∈l,MsOk c n m):∀ m∈oweL l line,MsOk c n m:=by
  unfold oweL
  split
  · rename_i h0
    have h1:misIn l line=true:=by
      unfold oweB at h0;simp only [Bool.and_eq_true] at h0;exact h0.1.1
    obtain ⟨a1,a2,a3⟩:=h _ (misIn_mem h1).1
    exact set_all h ⟨a1,a2,a3⟩
  · exact h
theorem close_ms {c:Cfg} {n:Nat} {l:List Miss} {line:Int} (h:∀ m∈l,MsOk c n m):∀ m∈closeL l line,MsOk c n m:=by
  unfold closeL
  split
  · exact fun m hm=>h m (List.mem_of_mem_eraseIdx hm)
  · exact h
theorem fill_inv {c:Cfg} {n:Nat} {k:CaS} {line:Int} (h:CaInv c n k):CaInv c n (caFill c k line):=by
  unfold caFill
  split
  · exact ⟨setL_inv h.1,set_st h.2.1,owe_ms h.2.2⟩
  · exact h
theorem ask_ok {c:Cfg} {k:CaS} {line kind:Int} (h:caAskE c k line kind=0):okLine c line=true:=by
  unfold caAskE at h
  split at h
  · cases h
  · rename_i h1
    cases g:okLine c line with
    |true=>rfl
    |false=>exact absurd (.inl g) h1
theorem ask_inv {c:Cfg} {n:Nat} {k:CaS} {line kind:Int} (h:CaInv c n k):CaInv c n (caAskK c k line kind):=by
  unfold caAskK
  split
  · rename_i h0
    refine ⟨?_,?_,open_ms (ask_ok h0) h.2.2⟩
    · dsimp only;split
      · exact lockL_inv h.1
      · exact layL_inv h.1
    · dsimp only;split
      · exact lock_st h.2.1
      · exact lay_st h.2.1
  · exact h
theorem ev_inv {c:Cfg} {n:Nat} {k:CaS} {s w:Int} (h:CaInv c n k):CaInv c n (caEvK c k s w):=by
  unfold caEvK
  split
  · exact ⟨setL_inv h.1,set_st h.2.1,h.2.2⟩
  · exact h
theorem tell_inv {c:Cfg} {n:Nat} {k:CaS} {line st:Int} {g:Bool} (h:CaInv c n k):CaInv c n (caTellK c k line st g):=by
  unfold caTellK
  split
  · exact ⟨setL_inv h.1,set_st h.2.1,h.2.2⟩
  · split
    · exact ⟨h.1,h.2.1,h.2.2⟩
    · exact h
theorem take_inv {c:Cfg} {n:Nat} {core:Int} {k:CaS} {m:Msg} (h:CaInv c n k):CaInv c (n+1) (caTakeK c core k m):=by
  have h':CaInv c (n+1) k:=caInv_mono (by omega) h
  unfold caTakeK
  split
  · split
    · exact tell_inv h'
    · split
      · exact tell_inv h'
      · split
        · split
          · unfold caInvK
            split
            · exact ⟨setL_inv h'.1,set_st h'.2.1,h'.2.2⟩
            · exact h'
          · exact h'
        · split
          · unfold caDataK
            split
            · exact fill_inv ⟨h'.1,h'.2.1,data_ms h'.2.2⟩
            · exact h'
          · split
            · unfold caGrK
              split
              · exact fill_inv ⟨h'.1,h'.2.1,grant_ms h'.2.2⟩
              · exact h'
            · split
              · unfold caAckK
                split
                · exact fill_inv ⟨h'.1,h'.2.1,ack_ms h.2.2⟩
                · exact h'
              · exact ⟨h'.1,h'.2.1,h'.2.2⟩
  · exact h'
theorem fin_inv {c:Cfg} {n:Nat} {k:CaS} (h:CaInv c n k):CaInv c n (caFinK c k):=by
  unfold caFinK
  split
  · exact ⟨lockL_inv h.1,lock_st h.2.1,close_ms h.2.2⟩
  · exact h
theorem do_inv {c:Cfg} {n:Nat} {k:CaS} {x:Op3} (h:CaInv c n k):CaInv c n (caDoK c k x):=by
  unfold caDoK
  split
  · exact ⟨setL_inv h.1,set_st h.2.1,h.2.2⟩
  · exact h
end Go.Sx

/- An array of ways, seen line by line. My own work. -/
namespace Go.Sx
open Go Go.Proofs
def vw (c:Cfg) (l:List Way) (line:Int):Option Way:=if arrP c l line<0 then none else some (findW c l line)
theorem vw_none {c:Cfg} {l:List Way} {line:Int} (h:arrP c l line= -1):vw c l line=none:=by unfold vw;rw [h];rfl
theorem vw_at {c:Cfg} {l:List Way} {line:Int} {i:Nat} (h:arrP c l line=i):vw c l line=some (findW c l line):=by unfold vw;rw [if_neg (by omega)]
theorem arrP_or {c:Cfg} {l:List Way} {line:Int}:arrP c l line= -1∨∃ i:Nat,arrP c l line=i:=by
  have:=arrP_lt c l line
  by_cases h:arrP c l line= -1
  · exact .inl h
  · exact .inr ⟨(arrP c l line).toNat,by omega⟩
theorem vw_findB {c:Cfg} {l:List Way} {line:Int}:findB c l line=(vw c l line).isSome:=by
  rcases arrP_or (c:=c) (l:=l) (line:=line) with h|⟨i,h⟩
  · rw [(find_isnt h).1,vw_none h];rfl
  · rw [(find_is h).1,vw_at h];rfl
theorem vw_findW {c:Cfg} {l:List Way} {line:Int}:findW c l line=(vw c l line).getD .zero:=by
  rcases arrP_or (c:=c) (l:=l) (line:=line) with h|⟨i,h⟩
  · rw [(find_isnt h).2.2,vw_none h];rfl
  · rw [vw_at h];rfl
theorem vw_some {c:Cfg} {l:List Way} {line:Int} {w:Way} (h:vw c l line=some w):w.line=line∧thereB w=true∧w∈l∧okLine c line=true∧findW c l line=w:=by
  rcases arrP_or (c:=c) (l:=l) (line:=line) with g|⟨i,g⟩
  · rw [vw_none g] at h;cases h
  · rw [vw_at g] at h
    cases h
    obtain ⟨b1,b2,b3,_⟩:=arrP_at g
    have e:=findW_at g b1
    exact ⟨find_line g,by rw [e];exact (pHas_iff.1 b3).1,by rw [e];exact List.getElem_mem b1,b2,rfl⟩
theorem vw_mem {c:Cfg} {l:List Way} {w:Way} (hI:ArrInv c l) (hw:w∈l) (ht:thereB w=true):vw c l w.line=some w:=by
  obtain ⟨i,hi,rfl⟩:=List.getElem_of_mem hw
  obtain ⟨h1,h2⟩:=find_at (line:=l[i].line) hI hi (by simp [pHas,ht])
  rw [vw_at h2,findW_at h2 (by omega)]
  congr 2;omega
theorem setE_vw {c:Cfg} {l:List Way} {line st:Int} {w:Words}:setE c l line st w=if (vw c l line).isNone then 5 else if st<0∨st>4∨oddW c w=true then 1 else 0:=by
  unfold setE
  rcases arrP_or (c:=c) (l:=l) (line:=line) with h|⟨i,h⟩
  · rw [vw_none h,if_pos h];rfl
  · rw [vw_at h,if_neg (by omega)];rfl
theorem vw_set {c:Cfg} {l:List Way} {line st:Int} {w:Words} (hI:ArrInv c l) (x:Int):vw c (setL c l line st w) x =
    if x=line∧setE c l line st w=0 then (match vw c l line with|some y=>if y.lk=true∨st≠0 then some ⟨st,line,if st=0 then .zero else w,y.lk⟩ else none|none=>none) else vw c l x:=by
  by_cases hx:x=line
  · subst hx
    by_cases he:setE c l x st w=0
    · rw [if_pos ⟨rfl,he⟩]
      obtain ⟨h1,h2,h3⟩:=set_self hI he
      have e:=vw_findB (c:=c) (l:=l) (line:=x)
      rw [h1] at e
      cases hv:vw c l x with
      |none=>rw [hv] at e;cases e
      |some y=>
       have hy:=(vw_some hv).2.2.2.2
       rw [hy] at h2 h3
       dsimp only
       by_cases hlk:y.lk=true∨st≠0
       · rw [if_pos hlk]
         obtain ⟨g1,_,g3⟩:=h2 hlk
         have e2:=vw_findB (c:=c) (l:=setL c l x st w) (line:=x)
         rw [g1] at e2
         cases hv2:vw c (setL c l x st w) x with
         |none=>rw [hv2] at e2;cases e2
         |some z=>rw [←g3,(vw_some hv2).2.2.2.2]
       · rw [if_neg hlk]
         obtain ⟨g1,_,_⟩:=h3 ⟨by cases hl:y.lk with|false=>rfl|true=>exact absurd (.inl hl) hlk,Decidable.byContradiction fun g=>hlk (.inr g)⟩
         have e2:=vw_findB (c:=c) (l:=setL c l x st w) (line:=x)
         rw [g1] at e2
         cases hv2:vw c (setL c l x st w) x with
         |none=>rfl
         |some z=>rw [hv2] at e2;cases e2
    · rw [if_neg (fun h=>he h.2)]
      have:setL c l x st w=l:=if_neg he
      rw [this]
  · rw [if_neg (fun h=>hx h.1)]
    obtain ⟨h1,h2⟩:=set_other (st:=st) (w:=w) hI (Ne.symm hx)
    unfold vw;rw [h1,h2]
theorem vw_lock {c:Cfg} {l:List Way} {line:Int} {lk:Bool} (hI:ArrInv c l) (x:Int):vw c (lockL c l line lk) x =
    if x=line then (match vw c l line with|some y=>if lk=true∨y.st≠0 then some ⟨y.st,line,y.words,lk⟩ else none|none=>none) else vw c l x:=by
  by_cases hx:x=line
  · subst hx
    rw [if_pos rfl]
    rcases arrP_or (c:=c) (l:=l) (line:=x) with h|⟨i,h⟩
    · have:lockL c l x lk=l:=by unfold lockL lockE;rw [if_pos h];rfl
      rw [this,vw_none h]
    · have hl:=find_line h
      have he:lockE c l x=0:=if_neg (by omega)
      have e1:lockL c l x lk=l.set (arrF c x+i) { findW c l x with lk:=lk}:=by unfold lockL;rw [if_pos he,h,Int.toNat_natCast]
      obtain ⟨t1,t2⟩:=turn_self (w:={ findW c l x with lk:=lk}) hI h hl
      rw [e1,vw_at h]
      dsimp only
      by_cases hc:lk=true∨(findW c l x).st≠0
      · rw [if_pos hc]
        have ht:thereB { findW c l x with lk:=lk}=true:=by
          unfold thereB;dsimp only
          rcases hc with g|g
          · rw [g];simp
          · simp [g]
        obtain ⟨g1,g2⟩:=t1 ht
        rw [vw_at g1,g2]
        simp only [hl]
      · rw [if_neg hc]
        have ht:thereB { findW c l x with lk:=lk}=false:=by
          unfold thereB;dsimp only
          cases lk with
          |true=>exact absurd (.inl rfl) hc
          |false=>simp;exact Decidable.byContradiction fun g=>hc (.inr g)
        exact vw_none (t2 ht)
  · rw [if_neg hx]
    obtain ⟨h1,h2⟩:=lock_other (lk:=lk) hI (Ne.symm hx)
    unfold vw;rw [h1,h2]
theorem vw_lay {c:Cfg} {l:List Way} {line:Int} (hI:ArrInv c l) (hf:¬arrFree c l line<0) (hno:vw c l line=none) (x:Int):vw c (layL c l line (arrFree c l line)) x=if x=line then some ⟨0,line,.zero,true⟩ else vw c l x:=by
  by_cases hx:x=line
  · subst hx
    rw [if_pos rfl]
    obtain ⟨i,hi⟩:∃ i:Nat,arrFree c l x=i:=⟨(arrFree c l x).toNat,by omega⟩
    obtain ⟨_,_,_,h4,h5⟩:=lay_at hI hi (by rw [vw_findB,hno];rfl)
    rw [hi,vw_at h4,h5]
  · rw [if_neg hx]
    obtain ⟨h1,h2⟩:=lay_other (way:=arrFree c l line) hI (Ne.symm hx)
    unfold vw;rw [h1,h2]
end Go.Sx

/- Caches told of lists: locks, misses and what was evicted. My own work. -/
namespace Go.Sx
open Go Go.Proofs
def misLs (k:CaS):List Int:=k.mis.map (·.line)
def bufLs (k:CaS):List Int:=k.buf.map (·.line)
structure CaI2 (c:Cfg) (ways:List Way) (M B:List Int):Prop where
  wd:∀ x w,vw c ways x=some w→oddW c w.words=false∧(w.st=0→w.words= .zero)
  ml:∀ x∈M,∃ w,vw c ways x=some w∧w.lk=true
  lm:∀ x w,vw c ways x=some w→w.lk=true→x∈M
  bn:∀ x∈B,vw c ways x=none
  nd:M.Nodup
  bd:B.Nodup
theorem odd_zero (c:Cfg):oddW c .zero=false:=by
  unfold oddW
  rw [indexBy_none]
  · decide
  · intro j hj _
    have:(Words.zero.list.drop c.words.toNat)[j]=0:=by
      have hm:(Words.zero.list.drop c.words.toNat)[j]∈Words.zero.list:=List.mem_of_mem_drop (List.getElem_mem hj)
      have hz:∀ y∈Words.zero.list,y=0:=by decide
      exact hz _ hm
    rw [this];rfl
theorem setE_ok {c:Cfg} {l:List Way} {line st:Int} {w:Words} (h:setE c l line st w=0):(∃ y,vw c l line=some y)∧0≤st∧st≤4∧oddW c w=false:=by
  rw [setE_vw] at h
  cases hv:vw c l line with
  |none=>rw [hv] at h;cases h
  |some y=>
   rw [hv] at h
   simp only [Option.isNone_some,Bool.false_eq_true,if_false] at h
   split at h
   · cases h
   · rename_i h1
     refine ⟨⟨y,rfl⟩,by omega,by omega,?_⟩
     cases g:oddW c w with
     |false=>rfl
     |true=>exact absurd (.inr (.inr g)) h1
theorem i2_set {c:Cfg} {ways:List Way} {M B:List Int} {line st:Int} {w:Words} (hI:ArrInv c ways) (h:CaI2 c ways M B):CaI2 c (setL c ways line st w) M B:=by
  have hv:=vw_set (line:=line) (st:=st) (w:=w) hI
  by_cases he:setE c ways line st w=0
  · obtain ⟨⟨y,hy⟩,h0,h4,ho⟩:=setE_ok he
    have hl:vw c (setL c ways line st w) line=if y.lk=true∨st≠0 then some ⟨st,line,if st=0 then .zero else w,y.lk⟩ else none:=by rw [hv,if_pos ⟨rfl,he⟩,hy]
    have hx:∀ x,x≠line→vw c (setL c ways line st w) x=vw c ways x:=fun x g=>by rw [hv,if_neg (fun g2=>g g2.1)]
    refine ⟨fun x z hz=>?_,fun x hm=>?_,fun x z hz hk=>?_,fun x hb=>?_,h.nd,h.bd⟩
    · by_cases g:x=line
      · subst g
        rw [hl] at hz
        split at hz
        · cases hz
          dsimp only
          refine ⟨?_,fun g0=>by rw [if_pos g0]⟩
          split
          · exact odd_zero c
          · exact ho
        · cases hz
      · rw [hx x g] at hz;exact h.wd x z hz
    · by_cases g:x=line
      · subst g
        obtain ⟨z,hz,hk⟩:=h.ml x hm
        rw [hy] at hz;cases hz
        exact ⟨⟨st,x,if st=0 then .zero else w,y.lk⟩,by rw [hl,if_pos (.inl hk)],hk⟩
      · rw [hx x g];exact h.ml x hm
    · by_cases g:x=line
      · subst g
        rw [hl] at hz
        split at hz
        · cases hz;exact h.lm x y hy hk
        · cases hz
      · rw [hx x g] at hz;exact h.lm x z hz hk
    · by_cases g:x=line
      · subst g
        have:=h.bn x hb
        rw [hy] at this;cases this
      · rw [hx x g];exact h.bn x hb
  · have:setL c ways line st w=ways:=if_neg he
    rw [this];exact h
theorem misIn_iff {l:List Miss} {line:Int}:misIn l line=true↔line∈l.map (·.line):=by
  constructor
  · intro h
    obtain ⟨h1,h2⟩:=misIn_mem h
    exact List.mem_map.2 ⟨_,h1,h2⟩
  · intro h
    obtain ⟨m,hm,e⟩:=List.mem_map.1 h
    cases g:misIn l line with
    |true=>rfl
    |false=>
     have:=(indexBy_neg (of_decide_eq_false g)).2 m hm
     simp [e] at this
theorem wbIn_iff {l:List WbE} {line:Int}:wbIn l line=true↔line∈l.map (·.line):=by
  constructor
  · intro h
    obtain ⟨i,hi,_,_,e⟩:=wbIn_t h
    exact List.mem_map.2 ⟨_,List.getElem_mem hi,e⟩
  · intro h
    obtain ⟨m,hm,e⟩:=List.mem_map.1 h
    cases g:wbIn l line with
    |true=>rfl
    |false=>
     have:=(indexBy_neg (of_decide_eq_false g)).2 m hm
     simp [e] at this
theorem turn_ls {l:List Miss} {line:Int} {x:Miss} (h:misIn l line=true) (hx:x.line=(misAt l line).line):(l.set (misP l line).toNat x).map (·.line)=l.map (·.line):=by
  obtain ⟨i,hi,e0,ea,el⟩:=misIn_t h
  rw [e0,Int.toNat_natCast,List.map_set,hx,ea]
  have:(l.map (·.line)).set i l[i].line=l.map (·.line):=by
    have e:l[i].line=(l.map (·.line))[i]'(by simpa using hi):=by simp
    rw [e,List.set_getElem_self]
  exact this
theorem data_ls {l:List Miss} {line acks own:Int} {w:Words}:(dataL l line acks own w).map (·.line)=l.map (·.line):=by
  unfold dataL
  split
  · rename_i h;exact turn_ls (dataE_in h).1 rfl
  · rfl
theorem grant_ls {l:List Miss} {line acks:Int}:(grantL l line acks).map (·.line)=l.map (·.line):=by
  unfold grantL
  split
  · rename_i h;exact turn_ls (dataE_in h).1 rfl
  · rfl
theorem ack_ls {l:List Miss} {line:Int}:(ackL l line).map (·.line)=l.map (·.line):=by
  unfold ackL
  split
  · rename_i h;exact turn_ls (ackE_in h).1 rfl
  · rfl
theorem owe_in {l:List Miss} {line:Int} (h:oweB l line=true):misIn l line=true:=by
  unfold oweB at h;simp only [Bool.and_eq_true] at h;exact h.1.1
theorem owe_ls {l:List Miss} {line:Int}:(oweL l line).map (·.line)=l.map (·.line):=by
  unfold oweL
  split
  · rename_i h;exact turn_ls (owe_in h) rfl
  · rfl
abbrev CaJ (c:Cfg) (k:CaS):Prop:=CaI2 c k.ways (misLs k) (bufLs k)
theorem j_fill {c:Cfg} {k:CaS} {line:Int} (hI:ArrInv c k.ways) (h:CaJ c k):CaJ c (caFill c k line):=by
  unfold caFill
  split
  · unfold CaJ misLs bufLs
    rw [owe_ls]
    exact i2_set hI h
  · exact h
theorem j_ask {c:Cfg} {k:CaS} {line kind:Int} (hI:ArrInv c k.ways) (h:CaJ c k):CaJ c (caAskK c k line kind):=by
  unfold caAskK
  split
  · rename_i h0
    unfold caAskE at h0
    split at h0
    · cases h0
    · rename_i hb
      split at h0
      · cases h0
      · rename_i h6
        split at h0
        · cases h0
        · rename_i h4
          split at h0
          · cases h0
          · rename_i h5
            have hm:misIn k.mis line=false:=by cases g:misIn k.mis line with|false=>rfl|true=>exact absurd (.inl g) h6
            have hw:wbIn k.buf line=false:=by cases g:wbIn k.buf line with|false=>rfl|true=>exact absurd (.inr (.inl g)) h6
            have hM:line∉misLs k:=fun g=>by rw [misIn_iff.2 g] at hm;cases hm
            have hB:line∉bufLs k:=fun g=>by rw [wbIn_iff.2 g] at hw;cases hw
            have hkd:¬(kind≠1∧kind≠2):=fun g=>hb (.inr g)
            have hop:openL c.mshrs k.mis line kind=k.mis++[⟨line,kind,-1,0,0,.zero,false,false⟩]:=by
              have:openE c.mshrs k.mis line kind=0:=by
                unfold openE
                rw [if_neg hkd,hm,if_neg Bool.false_ne_true,if_neg h4]
              unfold openL;rw [if_pos this]
            have eM:misLs ⟨if findB c k.ways line then lockL c k.ways line true else layL c k.ways line (arrFree c k.ways line),openL c.mshrs k.mis line kind,k.buf⟩=misLs k++[line]:=by
              unfold misLs;dsimp only;rw [hop,List.map_append];rfl
            obtain ⟨y,hy,hyk,hyo⟩:∃ y:Way,(∀ x,vw c (if findB c k.ways line then lockL c k.ways line true else layL c k.ways line (arrFree c k.ways line)) x=if x=line then some y else vw c k.ways x)∧y.lk=true∧(oddW c y.words=false∧(y.st=0→y.words= .zero)):=by
              cases hf:vw c k.ways line with
              |none=>
               have hfb:findB c k.ways line=false:=by rw [vw_findB,hf];rfl
               rw [hfb,if_neg Bool.false_ne_true]
               exact ⟨⟨0,line,.zero,true⟩,vw_lay hI (fun g=>h5 ⟨hfb,g⟩) hf,rfl,odd_zero c,fun _=>rfl⟩
              |some z=>
               have hfb:findB c k.ways line=true:=by rw [vw_findB,hf];rfl
               rw [hfb,if_pos rfl]
               exact ⟨⟨z.st,line,z.words,true⟩,fun x=>by rw [vw_lock hI,hf];simp,rfl,h.wd line z hf⟩
            unfold CaJ
            rw [eM]
            refine ⟨fun x w hx=>?_,fun x hx=>?_,fun x w hx hk=>?_,fun x hx=>?_,?_,h.bd⟩
            · dsimp only at hx
              rw [hy] at hx
              split at hx
              · cases hx;exact hyo
              · exact h.wd x w hx
            · dsimp only
              rw [hy]
              split
              · exact ⟨y,rfl,hyk⟩
              · rename_i g
                rcases List.mem_append.1 hx with g2|g2
                · exact h.ml x g2
                · exact absurd (by simpa using g2) g
            · dsimp only at hx
              rw [hy] at hx
              split at hx
              · rename_i g;exact List.mem_append.2 (.inr (by simp [g]))
              · exact List.mem_append.2 (.inl (h.lm x w hx hk))
            · dsimp only
              have hne:x≠line:=fun g=>by subst g;exact hB hx
              rw [hy,if_neg hne]
              exact h.bn x hx
            · rw [List.nodup_append]
              exact ⟨h.nd,by simp,fun a ha b hb2=>by simp at hb2;subst hb2;exact fun g=>hM (g▸ha)⟩
  · exact h
theorem atW_mem {c:Cfg} {l:List Way} {s k:Int} (h:(atW c l s k).st≠0):atW c l s k∈l:=by
  unfold atW at h ⊢
  by_cases h1:inWay c s k=true
  · rw [if_pos h1] at h ⊢
    by_cases h2:s.toNat*c.ways.toNat+k.toNat<l.length
    · rw [←getD_at h2];exact List.getElem_mem h2
    · rw [List.getD_eq_getElem?_getD,List.getElem?_eq_none (by omega)] at h
      exact absurd rfl h
  · rw [if_neg h1] at h
    exact absurd rfl h
theorem j_ev {c:Cfg} {k:CaS} {s w:Int} (hI:ArrInv c k.ways) (h:CaJ c k):CaJ c (caEvK c k s w):=by
  unfold caEvK
  split
  · rename_i h0
    unfold caEvE at h0
    split at h0
    · cases h0
    · rename_i h1
      split at h0
      · cases h0
      · rename_i h2
        split at h0
        · cases h0
        · rename_i h3
          have hst:(atW c k.ways s w).st≠0:=fun g=>h1 (.inr g)
          have hmem:=atW_mem hst
          have hlk:(atW c k.ways s w).lk=false:=by cases g:(atW c k.ways s w).lk with|false=>rfl|true=>exact absurd g h2
          generalize atW c k.ways s w=x at *
          have hvx:=vw_mem hI hmem (by simp [thereB,hst])
          have hset:setE c k.ways x.line 0 .zero=0:=by rw [setE_vw,hvx];simp [odd_zero]
          have h':=i2_set (line:=x.line) (st:=0) (w:= .zero) hI h
          have hgone:vw c (setL c k.ways x.line 0 .zero) x.line=none:=by rw [vw_set hI,if_pos ⟨rfl,hset⟩,hvx];simp [hlk]
          refine ⟨h'.wd,h'.ml,h'.lm,fun z hz=>?_,h'.nd,?_⟩
          · unfold bufLs at hz
            dsimp only at hz ⊢
            split at hz
            · unfold wbPutL at hz
              split at hz
              · exact h'.bn z hz
              · split at hz
                · exact h'.bn z hz
                · rw [List.map_append] at hz
                  rcases List.mem_append.1 hz with g|g
                  · exact h'.bn z g
                  · simp at g;subst g;exact hgone
            · exact h'.bn z hz
          · unfold bufLs
            dsimp only
            split
            · unfold wbPutL
              split
              · exact h.bd
              · split
                · exact h.bd
                · rename_i g1 g2
                  rw [List.map_append,List.nodup_append]
                  exact ⟨h.bd,by simp,fun a ha b hb2=>by simp at hb2;subst hb2;exact fun g=>g1 (wbIn_iff.2 (g▸ha))⟩
            · exact h.bd
  · exact h
theorem give_ls {l:List WbE} {line:Int}:(wbGiveL l line).map (·.line)=l.map (·.line):=by
  unfold wbGiveL
  split
  · rename_i h
    simp only [Bool.and_eq_true] at h
    obtain ⟨i,hi,e0,ea,el⟩:=wbIn_t h.1
    rw [e0,Int.toNat_natCast,List.map_set,ea]
    have e:l[i].line=(l.map (·.line))[i]'(by simpa using hi):=by simp
    dsimp only
    rw [e,List.set_getElem_self]
  · rfl
theorem j_tell {c:Cfg} {k:CaS} {line st:Int} {g:Bool} (hI:ArrInv c k.ways) (h:CaJ c k):CaJ c (caTellK c k line st g):=by
  unfold caTellK
  split
  · exact i2_set hI h
  · split
    · unfold CaJ bufLs;dsimp only;rw [give_ls];exact h
    · exact h
theorem nodup_sub {α:Type} {l m:List α} (h:l.Sublist m) (hn:m.Nodup):l.Nodup:=List.Nodup.sublist h hn
theorem j_drop {c:Cfg} {k:CaS} {line:Int} (h:CaJ c k):CaJ c (caPaK k line):=by
  have hs:((wbDropL k.buf line).map (·.line)).Sublist (k.buf.map (·.line)):=by
    unfold wbDropL
    split
    · exact (List.eraseIdx_sublist _ _).map _
    · exact List.Sublist.refl _
  exact ⟨h.wd,h.ml,h.lm,fun x hx=>h.bn x (hs.mem hx),h.nd,nodup_sub hs h.bd⟩
theorem j_take {c:Cfg} {core:Int} {k:CaS} {m:Msg} (hI:ArrInv c k.ways) (h:CaJ c k):CaJ c (caTakeK c core k m):=by
  have ms:∀ mis':List Miss,mis'.map (·.line)=k.mis.map (·.line)→CaJ c ⟨k.ways,mis',k.buf⟩:=fun mis' e=>by
    unfold CaJ misLs;dsimp only;rw [e];exact h
  unfold caTakeK
  split
  · split
    · exact j_tell hI h
    · split
      · exact j_tell hI h
      · split
        · split
          · unfold caInvK
            split
            · exact i2_set hI h
            · exact h
          · exact h
        · split
          · unfold caDataK
            split
            · exact j_fill hI (ms _ data_ls)
            · exact h
          · split
            · unfold caGrK
              split
              · exact j_fill hI (ms _ grant_ls)
              · exact h
            · split
              · unfold caAckK
                split
                · exact j_fill hI (ms _ ack_ls)
                · exact h
              · exact j_drop h
  · exact h
theorem nodup_at {l:List Int} (hn:l.Nodup) {i j:Nat} (hi:i<l.length) (hj:j<l.length) (e:l[i]=l[j]):i=j:=by
  rw [List.nodup_iff_pairwise_ne,List.pairwise_iff_getElem] at hn
  rcases Nat.lt_trichotomy i j with g|g|g
  · exact absurd e (hn i j hi hj g)
  · exact g
  · exact absurd e.symm (hn j i hj hi g)
theorem nodup_erase {l:List Int} (hn:l.Nodup) {i:Nat} (hi:i<l.length) (x:Int):x∈l.eraseIdx i↔x∈l∧x≠l[i]:=by
  constructor
  · intro h
    obtain ⟨j,hj,hne,e⟩:=List.mem_eraseIdx_iff_getElem.1 h
    exact ⟨e▸List.getElem_mem hj,fun g=>hne (nodup_at hn hj hi (by rw [e,g]))⟩
  · rintro ⟨h,hne⟩
    obtain ⟨j,hj,e⟩:=List.getElem_of_mem h
    exact List.mem_eraseIdx_iff_getElem.2 ⟨j,hj,fun g=>hne (by subst g;exact e.symm),e⟩
theorem er_map {α β:Type} {f:α→β} {l:List α} {i:Nat}:(l.eraseIdx i).map f=(l.map f).eraseIdx i:=by
  simp [List.eraseIdx_eq_take_drop_succ,List.map_take,List.map_drop]
theorem fin_close {k:CaS} (hn:(misLs k).Nodup) (h:caFinB k=true):closeE k.mis (caFinL k)=0∧∃ i,∃ hi:i<k.mis.length,misP k.mis (caFinL k)=i∧caFinL k=k.mis[i].line∧k.mis[i].owes=true:=by
  have h':0≤owingP k.mis:=of_decide_eq_true h
  obtain ⟨i,hi,e0,ho,_⟩:=indexBy_nat h'
  have e0':owingP k.mis=i:=e0
  have el:caFinL k=k.mis[i].line:=by unfold caFinL;rw [if_pos h',e0',Int.toNat_natCast,←getD_at hi]
  have hin:misIn k.mis (caFinL k)=true:=misIn_iff.2 (List.mem_map.2 ⟨_,List.getElem_mem hi,el.symm⟩)
  obtain ⟨j,hj,e1,ea,ej⟩:=misIn_t hin
  have hij:j=i:=nodup_at hn (by simpa [misLs] using hj) (by simpa [misLs] using hi) (by simp [misLs,ej,el])
  subst hij
  refine ⟨?_,j,hi,e1,el,ho⟩
  unfold closeE
  rw [if_pos hin,ea,ho];rfl
theorem j_fin {c:Cfg} {k:CaS} (hI:ArrInv c k.ways) (h:CaJ c k):CaJ c (caFinK c k):=by
  unfold caFinK
  split
  · rename_i h0
    obtain ⟨he,i,hi,ep,el,_⟩:=fin_close h.nd h0
    have hcl:closeL k.mis (caFinL k)=k.mis.eraseIdx i:=by unfold closeL;rw [if_pos he,ep,Int.toNat_natCast]
    have eM:misLs ⟨lockL c k.ways (caFinL k) false,closeL k.mis (caFinL k),k.buf⟩=(misLs k).eraseIdx i:=by
      unfold misLs;dsimp only;rw [hcl,er_map]
    have hi':i<(misLs k).length:=by simpa [misLs] using hi
    have ei:(misLs k)[i]=caFinL k:=by rw [el];simp [misLs]
    have hmem:=nodup_erase h.nd hi'
    rw [ei] at hmem
    obtain ⟨y,hy,hyk⟩:=h.ml (caFinL k) (by rw [←ei];exact List.getElem_mem hi')
    have hv:=vw_lock (line:=caFinL k) (lk:=false) hI
    rw [hy] at hv
    unfold CaJ
    rw [eM]
    refine ⟨fun x w hx=>?_,fun x hx=>?_,fun x w hx hk=>?_,fun x hx=>?_,nodup_sub (List.eraseIdx_sublist _ _) h.nd,h.bd⟩
    · dsimp only at hx
      rw [hv] at hx
      split at hx
      · dsimp only at hx
        split at hx
        · cases hx;exact h.wd _ y hy
        · cases hx
      · exact h.wd x w hx
    · obtain ⟨g1,g2⟩:=(hmem x).1 hx
      dsimp only
      rw [hv,if_neg g2]
      exact h.ml x g1
    · dsimp only at hx
      rw [hv] at hx
      split at hx
      · dsimp only at hx
        split at hx
        · cases hx;cases hk
        · cases hx
      · rename_i g
        exact (hmem x).2 ⟨h.lm x w hx hk,g⟩
    · dsimp only
      rw [hv]
      have hb:=h.bn x hx
      split
      · rename_i g
        rw [g,hy] at hb;cases hb
      · exact hb
  · exact h
theorem j_do {c:Cfg} {k:CaS} {x:Op3} (hI:ArrInv c k.ways) (h:CaJ c k):CaJ c (caDoK c k x):=by
  unfold caDoK
  split
  · exact i2_set hI h
  · exact h
theorem j_new (c:Cfg) (n:Nat):CaJ c ⟨List.replicate n .zero,[],[]⟩:=by
  have hv:∀ x,vw c (List.replicate n .zero) x=none:=fun x=>vw_none (find_no fun k hk=>by
    rw [List.getElem_replicate];rfl)
  exact ⟨fun x w h=>(by dsimp only at h;rw [hv] at h;cases h),fun x h=>(by cases h),fun x w h=>(by dsimp only at h;rw [hv] at h;cases h),fun x h=>(by cases h),List.nodup_nil,List.nodup_nil⟩
end Go.Sx
