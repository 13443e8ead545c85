/- Ca, Shr, ShrR, ShrLaw, ShrTells, CaPl: several of my texts as one. My own work. -/
import Derived.Test.YtjihlpjnebdiiaaGreatZr
import Derived.Test.YtjihlpjnebdiiaaGreatZac
import Derived.Test.YtjihlpjnebdiiaaGreatZad
import Derived.Test.YtjihlpjnebdiiaaGreatZae
import Derived.Test.YtjihlpjnebdiiaaGreatZah
import Derived.Test.YtjihlpjnebdiiaaGreatZag
import Derived.Test.YtjihlpjnebdiiaaGreatZaa
import Derived.Test.YtjihlpjnebdiiaaGreatZaf
set_option linter.unusedVariables false
set_option linter.unusedSectionVars false
set_option linter.unusedSimpArgs false
/- What caches do, told of lists; what only looks. The program's. My own work. -/
namespace Go.Sx
open Go Go.Proofs
structure CaS where
  ways:List Way
  mis:List Miss
  buf:List WbE
def caCan (c:Cfg) (k:CaS) (line kind:Int):Bool:=if kind=1 then decide ((findW c k.ways line).st≠0) else decide ((findW c k.ways line).st=2∨(findW c k.ways line).st=4)
def homeMsg (c:Cfg) (core kind line:Int) (w:Words):Msg:=⟨kind,line,core,lineH c line,0,0,0,w⟩
def caAskE (c:Cfg) (k:CaS) (line kind:Int):Int:=
  if okLine c line=false∨(kind≠1∧kind≠2) then 1
  else if misIn k.mis line=true∨wbIn k.buf line=true∨caCan c k line kind=true then 6
  else if (k.mis.length:Int)=c.mshrs then 4
  else if findB c k.ways line=false∧arrFree c k.ways line<0 then 5
  else 0
def caAskK (c:Cfg) (k:CaS) (line kind:Int):CaS:=
  if caAskE c k line kind=0 then ⟨if findB c k.ways line then lockL c k.ways line true else layL c k.ways line (arrFree c k.ways line),openL c.mshrs k.mis line kind,k.buf⟩ else k
def caAskM (c:Cfg) (core:Int) (k:CaS) (line kind:Int):Msg:=if caAskE c k line kind=0 then homeMsg c core kind line .zero else .zero
def caEvE (c:Cfg) (k:CaS) (s w:Int):Int:=
  if inWay c s w=false∨(atW c k.ways s w).st=0 then 5
  else if (atW c k.ways s w).lk=true then 6
  else if 2≤(atW c k.ways s w).st∧wbPutE c.writebacks k.buf (atW c k.ways s w).line≠0 then 4
  else 0
def caEvB (c:Cfg) (k:CaS) (s w:Int):Bool:=decide (caEvE c k s w=0∧2≤(atW c k.ways s w).st)
def caEvM (c:Cfg) (core:Int) (k:CaS) (s w:Int):Msg:=if caEvB c k s w then homeMsg c core 3 (atW c k.ways s w).line (atW c k.ways s w).words else .zero
def caEvK (c:Cfg) (k:CaS) (s w:Int):CaS:=
  if caEvE c k s w=0 then ⟨setL c k.ways (atW c k.ways s w).line 0 .zero,k.mis,if 2≤(atW c k.ways s w).st then wbPutL c.writebacks k.buf (atW c k.ways s w).line (atW c k.ways s w).words else k.buf⟩ else k
def caTellE (c:Cfg) (k:CaS) (line:Int):Int:=if 2≤(findW c k.ways line).st then 0 else if wbTellE k.buf line=0 then 0 else 7
def caTellW (c:Cfg) (k:CaS) (line:Int):Words:=if 2≤(findW c k.ways line).st then (findW c k.ways line).words else wbTellW k.buf line
def caTellK (c:Cfg) (k:CaS) (line st:Int) (give:Bool):CaS:=
  if 2≤(findW c k.ways line).st then ⟨setL c k.ways line st (findW c k.ways line).words,k.mis,k.buf⟩ else if give then ⟨k.ways,k.mis,wbGiveL k.buf line⟩ else k
def caTellM (c:Cfg) (core:Int) (k:CaS) (m:Msg) (own:Int):Msg:=if caTellE c k m.line=0 then ⟨7,m.line,core,m.who,1,m.acks,own,caTellW c k m.line⟩ else .zero
def caInvE (c:Cfg) (k:CaS) (line:Int):Int:=if 2≤(findW c k.ways line).st then 7 else 0
def caInvK (c:Cfg) (k:CaS) (line:Int):CaS:=if (findW c k.ways line).st=1 then ⟨setL c k.ways line 0 .zero,k.mis,k.buf⟩ else k
def caInvM (c:Cfg) (core:Int) (k:CaS) (m:Msg):Msg:=if caInvE c k m.line=0 then ⟨9,m.line,core,m.who,0,0,0,.zero⟩ else .zero
def caFill (c:Cfg) (k:CaS) (line:Int):CaS:=
  if oweB k.mis line then ⟨setL c k.ways line (oweM k.mis line).own (if (oweM k.mis line).granted then (findW c k.ways line).words else (oweM k.mis line).words),oweL k.mis line,k.buf⟩ else k
def err7 (e:Int):Int:=if e=0 then 0 else 7
def caDataK (c:Cfg) (k:CaS) (m:Msg):CaS:=if dataE k.mis m.line m.acks m.own=0 then caFill c ⟨k.ways,dataL k.mis m.line m.acks m.own m.words,k.buf⟩ m.line else k
def caGrE (c:Cfg) (k:CaS) (m:Msg):Int:=if (findW c k.ways m.line).st=3 then err7 (dataE k.mis m.line m.acks 4) else 7
def caGrK (c:Cfg) (k:CaS) (m:Msg):CaS:=if caGrE c k m=0 then caFill c ⟨k.ways,grantL k.mis m.line m.acks,k.buf⟩ m.line else k
def caAckK (c:Cfg) (k:CaS) (m:Msg):CaS:=if ackE k.mis m.line=0 then caFill c ⟨k.ways,ackL k.mis m.line,k.buf⟩ m.line else k
def caPaK (k:CaS) (line:Int):CaS:=⟨k.ways,k.mis,wbDropL k.buf line⟩
def caTakeOk (c:Cfg) (core:Int) (m:Msg):Bool:=decide (MayP c m)&& !decide (HomeP m.kind)&& decide (m.dst=core)
def caTakeE (c:Cfg) (core:Int) (k:CaS) (m:Msg):Int:=
  if caTakeOk c core m then (if m.kind=4∨m.kind=5 then caTellE c k m.line else if m.kind=6 then caInvE c k m.line else if m.kind=7 then err7 (dataE k.mis m.line m.acks m.own) else if m.kind=8 then caGrE c k m
   else if m.kind=9 then err7 (ackE k.mis m.line) else err7 (wbDropE k.buf m.line)) else 1
def caTakeB (c:Cfg) (core:Int) (k:CaS) (m:Msg):Bool:=decide (caTakeE c core k m=0∧4≤m.kind∧m.kind≤6)
def caTakeM (c:Cfg) (core:Int) (k:CaS) (m:Msg):Msg:=
  if caTakeOk c core m then (if m.kind=4 then caTellM c core k m 1 else if m.kind=5 then caTellM c core k m 4 else if m.kind=6 then caInvM c core k m else .zero) else .zero
def caTakeK (c:Cfg) (core:Int) (k:CaS) (m:Msg):CaS:=
  if caTakeOk c core m then (if m.kind=4 then caTellK c k m.line 3 false else if m.kind=5 then caTellK c k m.line 0 true else if m.kind=6 then (if caInvE c k m.line=0 then caInvK c k m.line else k) else if m.kind=7 then caDataK c k m
   else if m.kind=8 then caGrK c k m else if m.kind=9 then caAckK c k m else caPaK k m.line) else k
def caFinB (k:CaS):Bool:=decide (0≤owingP k.mis)
def caFinL (k:CaS):Int:=if 0≤owingP k.mis then (k.mis.getD (owingP k.mis).toNat .zero).line else 0
def caFinM (c:Cfg) (core:Int) (k:CaS):Msg:=if caFinB k then homeMsg c core 11 (caFinL k) .zero else .zero
def caFinK (c:Cfg) (k:CaS):CaS:=if caFinB k then ⟨lockL c k.ways (caFinL k) false,closeL k.mis (caFinL k),k.buf⟩ else k
def kindOf (x:Op3):Int:=if x.kind=1 then 1 else 2
def caDoE (c:Cfg) (k:CaS) (x:Op3):Int:=if apE c x=0 then (if caCan c k (addrL c x.addr) (kindOf x) then 0 else 5) else apE c x
def caDoV (c:Cfg) (k:CaS) (x:Op3):Int:=if caDoE c k x=0 then apV c (findW c k.ways (addrL c x.addr)).words x else 0
def caDoK (c:Cfg) (k:CaS) (x:Op3):CaS:=if caDoE c k x=0∧x.kind≠1 then ⟨setL c k.ways (addrL c x.addr) 4 (apW c (findW c k.ways (addrL c x.addr)).words x),k.mis,k.buf⟩ else k
def CaG (T:TypeId) (A M W:Nat→HP) (b:Nat) (c:Cfg) (core:Int):HP:=
  Ex fun q:Nat×Nat×Nat=>[Cells b T (c.cells++[.int .i64 core,.pointer (some ⟨q.1,0,none⟩),.pointer (some ⟨q.2.1,0,none⟩),.pointer (some ⟨q.2.2,0,none⟩)]),A q.1,M q.2.1,W q.2.2,Fact (checkB c=true∧0≤core∧core<c.cores)]
theorem ca_in {T:TypeId} {A M W:Nat→HP} {b a f e:Nat} {c:Cfg} {core:Int} {L R:List HP}
    (h:Ent L (Cells b T (c.cells++[.int .i64 core,.pointer (some ⟨a,0,none⟩),.pointer (some ⟨f,0,none⟩),.pointer (some ⟨e,0,none⟩)])::A a::M f::W e::R)) (hf:checkB c=true∧0≤core∧core<c.cores):Ent L (CaG T A M W b c core::R):=by
  refine Ent.trans h (Ent.trans ?_ (ex_intro (p:=fun q:Nat×Nat×Nat=>[Cells b T (c.cells++[.int .i64 core,.pointer (some ⟨q.1,0,none⟩),.pointer (some ⟨q.2.1,0,none⟩),.pointer (some ⟨q.2.2,0,none⟩)]),A q.1,M q.2.1,W q.2.2,Fact (checkB c=true∧0≤core∧core<c.cores)]) (a,f,e)))
  exact Ent.cons (Ent.cons (Ent.cons (Ent.cons (star_fact_mk hf))))
theorem ca_sat {T:TypeId} {A M W:Nat→HP} {b:Nat} {c:Cfg} {core:Int} {L:List HP} {w:World} (h:Sat (CaG T A M W b c core::L) w):∃ a f e,(checkB c=true∧0≤core∧core<c.cores)∧
    Sat (Cells b T (c.cells++[.int .i64 core,.pointer (some ⟨a,0,none⟩),.pointer (some ⟨f,0,none⟩),.pointer (some ⟨e,0,none⟩)])::A a::M f::W e::L) w:=by
  obtain ⟨⟨a,f,e⟩,hx⟩:=star_ex h
  simp only [app] at hx
  exact ⟨a,f,e,fact_of (star_drop (star_drop (star_drop (star_drop hx)))),(Ent.cons (Ent.cons (Ent.cons (Ent.cons (Ent.drop Ent.refl))))) _ hx⟩
section
variable {T:TypeId} {A M W:Nat→HP} {b:Nat} {c:Cfg} {core:Int} {P:Program} {N:Nat} {env:Env} {L:List HP} {Q:Exit→Act→World→Prop}
theorem ca_open {co:Code} (h:∀ a f e,(checkB c=true∧0≤core∧core<c.cores)→WC P N co env (Cells b T (c.cells++[.int .i64 core,.pointer (some ⟨a,0,none⟩),.pointer (some ⟨f,0,none⟩),.pointer (some ⟨e,0,none⟩)])::A a::M f::W e::L) Q):WC P N co env (CaG T A M W b c core::L) Q:=by
  intro x w ha hw
  obtain ⟨a,f,e,hf,hx⟩:=ca_sat hw
  exact h a f e hf x w ha hx
end
theorem ca_close {T:TypeId} {A A' M M' W W':Nat→HP} {b:Nat} {c:Cfg} {core:Int} {P:Program} {fn:FuncId} {vs:List Value} {F:List HP} {u:Value}
    (h:∀ a f e,(checkB c=true∧0≤core∧core<c.cores)→FnF P fn vs [Cells b T (c.cells++[.int .i64 core,.pointer (some ⟨a,0,none⟩),.pointer (some ⟨f,0,none⟩),.pointer (some ⟨e,0,none⟩)]),A a,M f,W e] F
     (fun r L'=>r=u∧L'=[Cells b T (c.cells++[.int .i64 core,.pointer (some ⟨a,0,none⟩),.pointer (some ⟨f,0,none⟩),.pointer (some ⟨e,0,none⟩)]),A' a,M' f,W' e]))
    (en:Enters P fn):FnF P fn vs [CaG T A M W b c core] F (fun r L'=>r=u∧L'=[CaG T A' M' W' b c core]):=by
  refine ⟨en,fun w hw=>?_⟩
  obtain ⟨a,f,e,hf,hx⟩:=ca_sat hw
  refine ((h a f e hf).runs w hx).mono ?_
  rintro x w' ⟨v,L',he,⟨hv,hL⟩,hs⟩
  subst hL
  exact ⟨v,_,he,⟨hv,rfl⟩,(ca_in Ent.refl hf).sat hs⟩
theorem cfg_wf {c:Cfg} (h:checkB c=true):c.wf:=by
  simp only [checkB,fitsB,Bool.and_eq_true,decide_eq_true_eq] at h
  unfold Cfg.wf I64
  omega
theorem cfg_rooms {c:Cfg} (h:checkB c=true):(1≤c.mshrs∧c.mshrs≤8)∧(1≤c.buffer∧c.buffer≤16)∧(1≤c.writebacks∧c.writebacks≤8)∧(1≤c.r0∧c.r0≤64)∧(1≤c.r1∧c.r1≤64)∧(1≤c.r2∧c.r2≤64):=by
  simp only [checkB,fitsB,Bool.and_eq_true,decide_eq_true_eq] at h
  omega
theorem okLine_i64 {c:Cfg} {line:Int} (h:okLine c line=true):I64 line:=by
  obtain ⟨hc,h0,h1⟩:=line_big h
  have:=(check_words hc).2.2
  unfold I64;omega
set_option maxRecDepth 100000
set_option maxHeartbeats 4000000
attribute [local irreducible] Go.Exit.then Go.Exit.inBlock Go.Code.wp WC WO WE WQ V LoopQ FnQ Sat Star band bor IntKind.wrap WR Code.rounds WT KO
abbrev CaO (b a f e:Nat) (c:Cfg) (core:Int) (k:CaS):List HP:=[Cells b 105 (c.cells++[.int .i64 core,.pointer (some ⟨a,0,none⟩),.pointer (some ⟨f,0,none⟩),.pointer (some ⟨e,0,none⟩)]),ArrP a c k.ways,Msh f c.mshrs k.mis,Wb e c.writebacks k.buf]
abbrev CaP (b:Nat) (c:Cfg) (core:Int) (k:CaS):HP:=CaG 105 (fun a=>ArrP a c k.ways) (fun f=>Msh f c.mshrs k.mis) (fun e=>Wb e c.writebacks k.buf) b c core
theorem ca_New {F:List HP} {c:Cfg} {core:Int} (hw:c.wf) (h:checkB c=true∧0≤core∧core<c.cores) :
    FnF Tryz.prog 47 [c.val,.int .i64 core] [] F (fun r L'=>∃ b,r= .tuple [.pointer (some ⟨b,0,none⟩),.int .i64 0].toArray∧L'=[CaP b c core ⟨List.replicate (c.sets*c.ways).toNat .zero,[],[]⟩]):=by
  obtain ⟨hc,h0,h1⟩:=h
  have hr:=cfg_rooms hc
  have hA:=fun F=>arr_New (F:=F) hw hc
  have hM:=fun F=>msh_New (F:=F) (room:=c.mshrs) hr.1
  have hB:=fun F=>wb_New (F:=F) (room:=c.writebacks) hr.2.2.1
  refine FnF.mk' Tryz.func47 rfl rfl Tryz.ntmps47 rfl ?_
  repeat (first|refine gd ?_|intro _|refine cal @hA ?_|refine cal @hM ?_|refine cal @hB ?_)
  rename_i b0 a f e b1
  (apply WE_ret rfl rfl zqR)
  · exact ⟨_,rfl,rfl⟩
  · refine ca_in (a:=a) (f:=f) (e:=e) ?_ ⟨hc,h0,h1⟩
    change Ent (Cells _ _ (c.cells++[.int .i64 core,.pointer (some ⟨a,0,none⟩),.pointer (some ⟨f,0,none⟩),.pointer (some ⟨e,0,none⟩)])::_) _
    exact entu0
theorem ca_LookO {F:List HP} {b a f e:Nat} {c:Cfg} {core line:Int} {k:CaS} (hc:checkB c=true) (hli:I64 line) :
    FnF Tryz.prog 68 [.pointer (some ⟨b,0,none⟩),.int .i64 line] (CaO b a f e c core k) F (fun r L'=>r= .tuple [wyv (findW c k.ways line),.bool (findB c k.ways line)].toArray∧L'=CaO b a f e c core k):=by
  refine FnF.mk' Tryz.func68 rfl rfl Tryz.ntmps68 rfl ?_
  have hA:=fun F=>arr_Find (F:=F) (b:=a) (c:=c) (l:=k.ways) (line:=line) (cfg_wf hc) hli
  repeat (first|refine gd ?_|intro _|refine cal @hA ?_)
  (apply WE_ret rfl rfl zqR)
  · exact ⟨rfl,rfl⟩
  · exact entu0
theorem ca_Look {F:List HP} {b:Nat} {c:Cfg} {core line:Int} {k:CaS} (hli:I64 line) :
    FnF Tryz.prog 68 [.pointer (some ⟨b,0,none⟩),.int .i64 line] [CaP b c core k] F (fun r L'=>r= .tuple [wyv (findW c k.ways line),.bool (findB c k.ways line)].toArray∧L'=[CaP b c core k]):=
  ca_close (fun a f e hf=>ca_LookO hf.1 hli) (enters_of Tryz.func68 rfl rfl)
theorem ca_Misses {F:List HP} {b:Nat} {c:Cfg} {core:Int} {k:CaS} :
    FnF Tryz.prog 25 [.pointer (some ⟨b,0,none⟩)] [CaP b c core k] F (fun r L'=>∃ p q,r= .slice p k.mis.length q∧L'=[Own 182 15 (.slice p k.mis.length q) k.mis.length (flat msc' k.mis),CaP b c core k]):=by
  refine FnF.mk' Tryz.func25 rfl rfl Tryz.ntmps25 rfl ?_
  refine ca_open fun a f e hf=>?_
  repeat (first|refine gd ?_|intro _|refine cal @msh_List ?_)
  (apply WE_ret rfl rfl zqR)
  · exact ⟨_,_,rfl,rfl⟩
  · refine Ent.cons ?_
    (apply ca_in;(focus (exact entu0));all_goals exact zqS)
theorem ca_Written {F:List HP} {b:Nat} {c:Cfg} {core:Int} {k:CaS} :
    FnF Tryz.prog 26 [.pointer (some ⟨b,0,none⟩)] [CaP b c core k] F (fun r L'=>∃ p q,r= .slice p k.buf.length q∧L'=[Own 125 10 (.slice p k.buf.length q) k.buf.length (flat bc k.buf),CaP b c core k]):=by
  refine FnF.mk' Tryz.func26 rfl rfl Tryz.ntmps26 rfl ?_
  refine ca_open fun a f e hf=>?_
  repeat (first|refine gd ?_|intro _|refine cal @wb_List ?_)
  (apply WE_ret rfl rfl zqR)
  · exact ⟨_,_,rfl,rfl⟩
  · refine Ent.cons ?_
    (apply ca_in;(focus (exact entu0));all_goals exact zqS)
theorem ca_owns {F:List HP} {st:Int}:FnF Tryz.prog 165 [.int .i64 st] [] F (fun r L'=>r= .bool (decide (2≤st))∧L'=[]):=by
  refine FnF.mk' Tryz.func165 rfl rfl Tryz.ntmps165 rfl ?_
  repeat (first|refine gd ?_|intro _)
  exact fin0
theorem ca_homeO {F:List HP} {b a f e:Nat} {c:Cfg} {core kind line:Int} {k:CaS} (hc:checkB c=true) (hli:I64 line) :
    FnF Tryz.prog 156 [.pointer (some ⟨b,0,none⟩),.int .i64 kind,.int .i64 line] (CaO b a f e c core k) F (fun r L'=>r=mv (homeMsg c core kind line .zero)∧L'=CaO b a f e c core k):=by
  refine FnF.mk' Tryz.func156 rfl rfl Tryz.ntmps156 rfl ?_
  have hL:=fun F=>split_Line (F:=F) (c:=c) (a:=line) (cfg_wf hc) hli
  repeat (first|refine gd ?_|intro _|refine cal @hL ?_)
  (apply WE_ret rfl rfl zqR)
  · exact ⟨rfl,rfl⟩
  · exact entu0
theorem dr_Ca_220 {Q P:Prop} (k:Q) (h:Hid Q→P:=by
  intro k
  first
  |(refine is_draw ?_;apply WC_mix (id:=1) .true _ (pl:= .p 0 <| .p 1 <| .p 3 <| .p 4 <| .p 5 <| .p 7 <| .r 2 <| .r 6 <| .r 8 <| .p 9 <| .e true [(10,.done)]);exact mixed;kernel_rfl;kernel_rfl;exact Ent.refl;exact k.out)):P:=h ⟨k⟩
theorem ca_toO {F:List HP} {b a f e:Nat} {c:Cfg} {core kind:Int} {m:Msg} {k:CaS} :
    FnF Tryz.prog 220 [.pointer (some ⟨b,0,none⟩),mv m,.int .i64 kind] (CaO b a f e c core k) F (fun r L'=>r=mv ⟨kind,m.line,core,m.who,0,0,0,.zero⟩∧L'=CaO b a f e c core k):=by
  refine FnF.mk' Tryz.func220 rfl rfl Tryz.ntmps220 rfl ?_
  repeat (first|refine go ?_|intro _|refine dr_Ca_220 ?_|refine drq ?_)
  (apply WE_ret rfl rfl zqR)
  · exact ⟨rfl,rfl⟩
  · exact entu0
theorem ca_canO {F:List HP} {b a f e:Nat} {c:Cfg} {core line kind:Int} {k:CaS} (hc:checkB c=true) (hli:I64 line) :
    FnF Tryz.prog 161 [.pointer (some ⟨b,0,none⟩),.int .i64 line,.int .i64 kind] (CaO b a f e c core k) F (fun r L'=>r= .bool (caCan c k line kind)∧L'=CaO b a f e c core k):=by
  have hL:=fun F=>ca_LookO (F:=F) (b:=b) (a:=a) (f:=f) (e:=e) (c:=c) (core:=core) (k:=k) hc hli
  refine FnF.mk' Tryz.func161 rfl rfl Tryz.ntmps161 rfl ?_
  unfold caCan
  by_cases h1:kind=1
  · rw [if_pos h1]
    repeat (first|refine gd ?_|intro _|refine cal @hL ?_)
    (apply WE_ret rfl rfl zqR)
    · exact ⟨rfl,rfl⟩
    · exact entu0
  · rw [if_neg h1]
    by_cases h2:(findW c k.ways line).st=2
    · repeat (first|refine gd ?_|intro _|refine cal @hL ?_)
      (apply WE_ret rfl rfl zqR)
      · exact ⟨by simp [h2],rfl⟩
      · exact entu0
    · repeat (first|refine gd ?_|intro _|refine cal @hL ?_)
      (apply WE_ret rfl rfl zqR)
      · exact ⟨by simp [h2],rfl⟩
      · exact entu0
end Go.Sx

/- What package sharer does. My own work. -/
namespace Go.Sx
open Go Go.Proofs
structure SSet where
  cores:Int
  most:Int
  ps:List Int
  all:Bool
theorem SSet.ext_iff' {a b:SSet}:(a.cores=b.cores∧a.most=b.most∧a.all=b.all∧a.ps=b.ps)↔a=b:=by
  rcases a with ⟨a1,a2,a3,a4⟩
  rcases b with ⟨b1,b2,b3,b4⟩
  simp only [SSet.mk.injEq]
  constructor<;>(rintro ⟨h1,h2,h3,h4⟩;exact ⟨h1,h2,h4,h3⟩)
instance:DecidableEq SSet:=fun a b=>decidable_of_iff _ SSet.ext_iff'
abbrev scl (s:SSet) (a:Option Addr) (k:Nat):List Value:=[.int .i64 s.cores,.int .i64 s.most,.slice a s.ps.length k,.bool s.all]
abbrev scw (s:SSet) (a:Option Addr) (k:Nat):Value:= .agg (scl s a k).toArray
abbrev SSet.no:SSet:=⟨0,0,[],false⟩
def risingB (n:Int):Int→List Int→Bool
  |_,[]=>true
  |last,c::r=>decide (last<c)&& decide (c<n)&& risingB n c r
def shMay (s:SSet):Bool:=decide (1≤s.cores)&& decide (s.cores≤64)&& decide (0≤s.most)&& decide (s.most≤8)&& decide ((s.ps.length:Int)≤s.most)&& !(s.all&& decide (0<s.ps.length))&& risingB s.cores (-1) s.ps
def shHas (s:SSet) (c:Int):Bool:=if s.all then decide (0≤c)&& decide (c<s.cores) else decide (c∈s.ps)
def insL (c:Int) (l:List Int):List Int:=l.take (lowL l c)++c::l.drop (lowL l c)
def shAddE (s:SSet) (c:Int):Int:=if shMay s then (if c<0∨s.cores≤c then 5 else 0) else 1
def shAddS (s:SSet) (c:Int):SSet:=if shAddE s c=0 then (if shHas s c then s else if (s.ps.length:Int)=s.most then ⟨s.cores,s.most,[],true⟩ else ⟨s.cores,s.most,insL c s.ps,s.all⟩) else .no
def upto (n:Nat):List Int:=(List.range n).map fun (i:Nat)=>(i:Int)
def shTgt (s:SSet) (but:List Int) (n:Nat):List Int:=(upto n).filter fun c=>shHas s c&& !decide (c∈but)
theorem rising_pw {n:Int}:∀ {l:List Int} {last:Int},risingB n last l=true→l.Pairwise (· < ·)∧∀ c∈l,last<c∧c<n
  | [],_,_=>⟨List.Pairwise.nil,fun c h=>by cases h⟩
  |a::r,last,h=>by
   simp only [risingB,Bool.and_eq_true,decide_eq_true_eq] at h
   obtain ⟨⟨h1,h2⟩,h3⟩:=h
   obtain ⟨p,q⟩:=rising_pw h3
   refine ⟨List.pairwise_cons.2 ⟨fun c hc=>(q c hc).1,p⟩,fun c hc=>?_⟩
   rcases List.mem_cons.1 hc with rfl|hc
   · exact ⟨h1,h2⟩
   · have:=q c hc;exact ⟨by omega,this.2⟩
theorem rising_of {n:Int}:∀ {l:List Int} {last:Int},l.Pairwise (· < ·)→(∀ c∈l,last<c∧c<n)→risingB n last l=true
  | [],_,_,_=>rfl
  |a::r,last,p,q=>by
   have h:=q a (by simp)
   rw [List.pairwise_cons] at p
   simp only [risingB,h.1,h.2,decide_true,Bool.true_and]
   exact rising_of p.2 fun c hc=>⟨p.1 c hc,(q c (List.mem_cons_of_mem _ hc)).2⟩
theorem may_facts' {s:SSet} (h:shMay s=true):1≤s.cores∧s.cores≤64∧0≤s.most∧s.most≤8∧(s.ps.length:Int)≤s.most∧(s.all=true→s.ps=[])∧s.ps.Pairwise (· < ·)∧∀ c∈s.ps,0≤c∧c<s.cores:=by
  simp only [shMay,Bool.and_eq_true,decide_eq_true_eq,Bool.not_eq_true',Bool.and_eq_false_iff,decide_eq_false_iff_not] at h
  obtain ⟨⟨⟨⟨⟨⟨h1,h2⟩,h3⟩,h4⟩,h5⟩,h6⟩,h7⟩:=h
  obtain ⟨p,q⟩:=rising_pw h7
  refine ⟨h1,h2,h3,h4,h5,fun ha=>?_,p,fun c hc=>by have:=q c hc;exact ⟨by omega,this.2⟩⟩
  rcases h6 with h|h
  · rw [ha] at h;cases h
  · exact List.eq_nil_of_length_eq_zero (by omega)
theorem insL_len (c:Int) (l:List Int):(insL c l).length=l.length+1:=by
  have:=low_le l c
  unfold insL
  rw [List.length_append,List.length_cons,List.length_take,List.length_drop];omega
set_option maxRecDepth 100000
set_option maxHeartbeats 4000000
attribute [local irreducible] Go.Exit.then Go.Exit.inBlock Go.Code.wp WC WO WE WQ V LoopQ FnQ Sat Star band bor IntKind.wrap WR Code.rounds WT KO
theorem shr_May {F:List HP} {s:SSet} {a:Option Addr} {k:Nat} (hk:RdL F 1 (.slice a s.ps.length k) s.ps.length (flat ic s.ps)) (hn:s.ps.length≤1000) :
    FnF Tryz.prog 176 [scw s a k] [] F (fun r L'=>r= .bool (shMay s)∧L'=[]):=by
  refine FnF.mk' Tryz.func176 rfl rfl Tryz.ntmps176 rfl ?_
  by_cases a1:1≤s.cores
  · by_cases a2:s.cores≤64
    · by_cases a3:0≤s.most
      · by_cases a4:s.most≤8
        · by_cases a5:(s.ps.length:Int)≤s.most
          · by_cases a6:s.all=true∧0<s.ps.length
            · obtain ⟨b1,b2⟩:=a6
              repeat (first|refine gd ?_|intro _)
              (apply WE_ret rfl rfl zqR;(first|exact zqL|exact ⟨by simp [shMay,b1,b2]<;>omega,rfl⟩);exact zqN)
            · have hb:shMay s=risingB s.cores (-1) s.ps:=by
                have:(!(s.all&& decide (0<s.ps.length)))=true:=by
                  cases hc:s.all with
                  |false=>rfl
                  |true=>
                   have:¬0<s.ps.length:=fun h=>a6 ⟨hc,h⟩
                   simp [this]
                simp only [shMay,a1,a2,a3,a4,a5,decide_true,Bool.true_and,this]
              rw [hb]
              cases hc:s.all with
              |false=>
               repeat (first|refine gd ?_|intro _)
               rename_i bs
               apply WC_loopE (E0:=[(1,_),(43,_),(44,_)]) (fun E0 (q:Nat×Int)=>(45,.int .i64 q.1)::(3,.int .i64 q.2)::E0) (fun _=>Cells bs 133 (scl s a k)::F)
                 (fun q=>q.1≤s.ps.length∧risingB s.cores (-1) s.ps=risingB s.cores q.2 (s.ps.drop q.1)) (fun q=>s.ps.length-q.1) (0,-1)
               · exact zqU
               · exact ⟨Nat.zero_le _,rfl⟩
               · exact entu0
               · rintro ⟨j,last⟩ ⟨hj,hr⟩
                 dsimp only at hj hr ⊢
                 rw [hr]
                 by_cases hlt:j<s.ps.length
                 · rw [List.drop_eq_getElem_cons hlt] at hr ⊢
                   by_cases c1:last<s.ps[j]
                   · by_cases c2:s.ps[j]<s.cores
                     · repeat (first|refine gd ?_|intro _)
                       refine WE_loop (j+1,s.ps[j]) (by dsimp only;omega) ⟨by dsimp only;omega,by dsimp only;simp [risingB,c1,c2]⟩ ?_ ?_
                       · exact zqU
                       · exact entu0
                     · repeat (first|refine gd ?_|intro _)
                       (apply WE_ret rfl rfl zqR;(first|exact zqL|exact ⟨by simp [risingB,c1,c2]<;>omega,rfl⟩);exact zqN)
                   · repeat (first|refine gd ?_|intro _)
                     (apply WE_ret rfl rfl zqR;(first|exact zqL|exact ⟨by simp [risingB,c1]<;>omega,rfl⟩);exact zqN)
                 · have hjl:j=s.ps.length:=by omega
                   subst hjl
                   rw [List.drop_length]
                   repeat (first|refine gd ?_|intro _)
                   (apply WE_ret rfl rfl zqR;(first|exact zqL|exact ⟨by simp [risingB]<;>omega,rfl⟩);exact zqN)
              |true=>
               have b2:¬0<s.ps.length:=fun h=>a6 ⟨hc,h⟩
               repeat (first|refine gd ?_|intro _)
               rename_i bs
               apply WC_loopE (E0:=[(1,_),(43,_),(44,_)]) (fun E0 (q:Nat×Int)=>(45,.int .i64 q.1)::(3,.int .i64 q.2)::E0) (fun _=>Cells bs 133 (scl s a k)::F)
                 (fun q=>q.1≤s.ps.length∧risingB s.cores (-1) s.ps=risingB s.cores q.2 (s.ps.drop q.1)) (fun q=>s.ps.length-q.1) (0,-1)
               · exact zqU
               · exact ⟨Nat.zero_le _,rfl⟩
               · exact entu0
               · rintro ⟨j,last⟩ ⟨hj,hr⟩
                 dsimp only at hj hr ⊢
                 rw [hr]
                 by_cases hlt:j<s.ps.length
                 · omega
                 · have hjl:j=s.ps.length:=by omega
                   subst hjl
                   rw [List.drop_length]
                   repeat (first|refine gd ?_|intro _)
                   (apply WE_ret rfl rfl zqR;(first|exact zqL|exact ⟨by simp [risingB]<;>omega,rfl⟩);exact zqN)
          · repeat (first|refine gd ?_|intro _)
            (apply WE_ret rfl rfl zqR;(first|exact zqL|exact ⟨by simp [shMay,a5]<;>omega,rfl⟩);exact zqN)
        · repeat (first|refine gd ?_|intro _)
          (apply WE_ret rfl rfl zqR;(first|exact zqL|exact ⟨by simp [shMay,a4]<;>omega,rfl⟩);exact zqN)
      · repeat (first|refine gd ?_|intro _)
        (apply WE_ret rfl rfl zqR;(first|exact zqL|exact ⟨by simp [shMay,a3]<;>omega,rfl⟩);exact zqN)
    · repeat (first|refine gd ?_|intro _)
      (apply WE_ret rfl rfl zqR;(first|exact zqL|exact ⟨by simp [shMay,a2]<;>omega,rfl⟩);exact zqN)
  · repeat (first|refine gd ?_|intro _)
    (apply WE_ret rfl rfl zqR;(first|exact zqL|exact ⟨by simp [shMay,a1]<;>omega,rfl⟩);exact zqN)
theorem shr_Has {F:List HP} {s:SSet} {a:Option Addr} {k:Nat} {c:Int} (hk:RdL F 1 (.slice a s.ps.length k) s.ps.length (flat ic s.ps)) (hm:shMay s=true) :
    FnF Tryz.prog 84 [scw s a k,.int .i64 c] [] F (fun r L'=>r= .bool (shHas s c)∧L'=[]):=by
  obtain ⟨m1,m2,m3,m4,m5,m6,m7,m8⟩:=may_facts' hm
  refine FnF.mk' Tryz.func84 rfl rfl Tryz.ntmps84 rfl ?_
  cases ha:s.all with
  |true=>
   by_cases h0:0≤c
   · repeat (first|refine gd ?_|intro _)
     (apply WE_ret rfl rfl zqR;(first|exact zqL|exact ⟨by simp [shHas,ha,h0]<;>omega,rfl⟩);exact zqN)
   · repeat (first|refine gd ?_|intro _)
     (apply WE_ret rfl rfl zqR;(first|exact zqL|exact ⟨by simp [shHas,ha,h0]<;>omega,rfl⟩);exact zqN)
  |false=>
   repeat (first|refine gd ?_|intro _|refine cal @sl_BinarySearch_int ?_)
   (apply WE_ret rfl rfl zqR;(first|exact zqL|exact ⟨by simp [shHas,ha]<;>omega,rfl⟩);exact zqN)
theorem shr_Clear {F:List HP} {s:SSet} {a:Option Addr} {k:Nat}:FnF Tryz.prog 245 [scw s a k] [] F (fun r L'=>r=scw ⟨s.cores,s.most,[],false⟩ none 0∧L'=[]):=by
  refine FnF.mk' Tryz.func245 rfl rfl Tryz.ntmps245 rfl ?_
  repeat (first|refine gd ?_|intro _)
  exact fin0
theorem shr_New {F:List HP} {cores most:Int}:FnF Tryz.prog 137 [.int .i64 cores,.int .i64 most] [] F
    (fun r L'=>r= .tuple [scw (if shMay ⟨cores,most,[],false⟩ then ⟨cores,most,[],false⟩ else .no) none 0,.int .i64 (if shMay ⟨cores,most,[],false⟩ then 0 else 1)].toArray∧L'=[]):=by
  have hM:=fun F=>shr_May (F:=F) (s:=⟨cores,most,[],false⟩) (a:=none) (k:=0) rd_empty (by simp)
  cases e:shMay ⟨cores,most,[],false⟩ with
  |true=>
   simp only [e,List.length_nil] at hM
   refine FnF.mk' Tryz.func137 rfl rfl Tryz.ntmps137 rfl ?_
   repeat (first|refine gd ?_|intro _|refine cal @hM ?_)
   exact fin0
  |false=>
   simp only [e,List.length_nil] at hM
   refine FnF.mk' Tryz.func137 rfl rfl Tryz.ntmps137 rfl ?_
   repeat (first|refine gd ?_|intro _|refine cal @hM ?_)
   exact fin0
theorem shr_Targets {F:List HP} {s:SSet} {a:Option Addr} {k:Nat} {u:Value} {but:List Int} (hk:RdL F 1 (.slice a s.ps.length k) s.ps.length (flat ic s.ps)) (hm:shMay s=true) (hb:RdL F 1 u but.length (flat ic but)) (hbn:but.length≤1000) :
    FnF Tryz.prog 134 [scw s a k,u] [] F (fun r L'=>∃ p c,r= .slice p (shTgt s but s.cores.toNat).length c∧L'=[Own 3 1 (.slice p (shTgt s but s.cores.toNat).length c) (shTgt s but s.cores.toNat).length (flat ic (shTgt s but s.cores.toNat))]):=by
  obtain ⟨m1,m2,m3,m4,m5,m6,m7,m8⟩:=may_facts' hm
  obtain ⟨n,hn⟩:∃ n:Nat,s.cores=n:=⟨s.cores.toNat,by omega⟩
  refine FnF.mk' Tryz.func134 rfl rfl Tryz.ntmps134 rfl ?_
  repeat (first|refine gd ?_|intro _)
  rename_i bs
  apply WC_loopE (E0:=[(1,_),(2,_),(8,_)]) (fun E0 (q:Nat×Option Addr×Nat)=>(9,.int .i64 q.1)::(5,.slice q.2.1 (shTgt s but q.1).length q.2.2)::E0)
    (fun q=>Own 3 1 (.slice q.2.1 (shTgt s but q.1).length q.2.2) (shTgt s but q.1).length (flat ic (shTgt s but q.1))::Cells bs 133 (scl s a k)::F) (fun q=>q.1≤n) (fun q=>n-q.1) (0,none,0)
  · exact zqU
  · exact Nat.zero_le _
  · refine Ent.trans ?_ (own_empty Ent.refl)
    exact entu0
  · rintro ⟨j,p,c⟩ hj
    dsimp only at hj ⊢
    have hlen:(shTgt s but j).length≤j:=by
      have:=List.length_filter_le (fun c=>shHas s c&& !decide (c∈but)) (upto j)
      simp only [upto,List.length_map,List.length_range] at this
      exact this
    have hsu:shTgt s but (j+1)=if shHas s j&& !decide ((j:Int)∈but) then shTgt s but j++[(j:Int)] else shTgt s but j:=by
      unfold shTgt upto
      rw [List.range_succ,List.map_append,List.filter_append]
      by_cases h:(shHas s j&& !decide ((j:Int)∈but))=true
      · simp [h]
      · simp [h]
    by_cases hlt:j<n
    · cases hh:shHas s j with
      |false=>
       have hH:=fun F (hk:RdL F 1 (.slice a s.ps.length k) s.ps.length (flat ic s.ps))=>shr_Has (c:=(j:Int)) hk hm
       simp only [hh] at hH
       rw [hh] at hsu
       rw [Bool.false_and,if_neg Bool.false_ne_true] at hsu
       repeat (first|refine gd ?_|intro _|refine cal @hH ?_)
       refine WE_loop (j+1,p,c) (by dsimp only;omega) (by dsimp only;omega) ?_ ?_
       · dsimp only;rw [hsu];exact zqU
       · dsimp only;rw [hsu];exact entu0
      |true=>
       have hH:=fun F (hk:RdL F 1 (.slice a s.ps.length k) s.ps.length (flat ic s.ps))=>shr_Has (c:=(j:Int)) hk hm
       simp only [hh] at hH
       rw [hh] at hsu
       by_cases hc:(j:Int)∈but
       · have hc':¬¬((j:Int)∈but):=fun h=>h hc
         rw [if_neg (by simp [hc])] at hsu
         repeat (first|refine gd ?_|intro _|refine cal @hH ?_|refine cal @sl_Contains_int ?_)
         refine WE_loop (j+1,p,c) (by dsimp only;omega) (by dsimp only;omega) ?_ ?_
         · dsimp only;rw [hsu];exact zqU
         · dsimp only;rw [hsu];exact entu0
       · rw [if_pos (by simp [hc])] at hsu
         repeat (first|refine gd ?_|intro _|refine cal @hH ?_|refine cal @sl_Contains_int ?_)
         rename_i b2 p2 c2
         refine WE_loop (j+1,p2,c2) (by dsimp only;omega) (by dsimp only;omega) ?_ ?_
         · dsimp only;rw [hsu,List.length_append,List.length_singleton];exact zqU
         · dsimp only;rw [hsu,List.length_append,List.length_singleton,flat_append,flat_one];exact entu0
    · have hjn:j=s.cores.toNat:=by omega
      repeat (first|refine gd ?_|intro _)
      subst hjn
      (apply WE_ret rfl rfl zqR)
      · exact ⟨p,c,rfl,rfl⟩
      · exact entu0
theorem shr_Add {F:List HP} {s:SSet} {a:Option Addr} {k:Nat} {x:Int} (hk:RdL F 1 (.slice a s.ps.length k) s.ps.length (flat ic s.ps)) (hn:s.ps.length≤1000) :
    FnF Tryz.prog 247 [scw s a k,.int .i64 x] [] F (fun r L'=>∃ a' k',r= .tuple [scw (shAddS s x) a' k',.int .i64 (shAddE s x)].toArray∧L'=[Own 3 1 (.slice a' (shAddS s x).ps.length k') (shAddS s x).ps.length (flat ic (shAddS s x).ps)]):=by
  cases hm:shMay s with
  |false=>
   have e1:shAddE s x=1:=by simp [shAddE,hm]
   have e2:shAddS s x= .no:=by simp [shAddS,e1]
   rw [e1,e2]
   have hM:=fun F (hk:RdL F 1 (.slice a s.ps.length k) s.ps.length (flat ic s.ps))=>shr_May hk hn
   simp only [hm] at hM
   refine FnF.mk' Tryz.func247 rfl rfl Tryz.ntmps247 rfl ?_
   repeat (first|refine gd ?_|intro _|refine cal @hM ?_)
   (apply WE_ret rfl rfl zqR)
   · exact ⟨none,0,rfl,rfl⟩
   · refine Ent.trans ?_ (own_empty Ent.refl)
     exact entu0
  |true=>
   have hM:=fun F (hk:RdL F 1 (.slice a s.ps.length k) s.ps.length (flat ic s.ps))=>shr_May hk hn
   simp only [hm] at hM
   obtain ⟨m1,m2,m3,m4,m5,m6,m7,m8⟩:=may_facts' hm
   by_cases hr:x<0∨s.cores≤x
   · have e1:shAddE s x=5:=by simp only [shAddE,hm,if_true,if_pos hr]
     have e2:shAddS s x= .no:=by simp [shAddS,e1]
     rw [e1,e2]
     refine FnF.mk' Tryz.func247 rfl rfl Tryz.ntmps247 rfl ?_
     by_cases h0:x<0
     · repeat (first|refine gd ?_|intro _|refine cal @hM ?_)
       (apply WE_ret rfl rfl zqR)
       · exact ⟨none,0,rfl,rfl⟩
       · refine Ent.trans ?_ (own_empty Ent.refl)
         exact entu0
     · repeat (first|refine gd ?_|intro _|refine cal @hM ?_)
       (apply WE_ret rfl rfl zqR)
       · exact ⟨none,0,rfl,rfl⟩
       · refine Ent.trans ?_ (own_empty Ent.refl)
         exact entu0
   · have e1:shAddE s x=0:=by simp only [shAddE,hm,if_true,if_neg hr]
     have hx0:0≤x:=by omega
     have hx1:x<s.cores:=by omega
     have hH:=fun F a k (hk:RdL F 1 (.slice a s.ps.length k) s.ps.length (flat ic s.ps))=>shr_Has (c:=x) hk hm
     cases hh:shHas s x with
     |true=>
      have e2:shAddS s x=s:=by simp [shAddS,e1,hh]
      rw [e1,e2]
      simp only [hh] at hH
      refine FnF.mk' Tryz.func247 rfl rfl Tryz.ntmps247 rfl ?_
      repeat (first|refine gd ?_|intro _|refine cal @hM ?_|refine cal @sl_Clone_int ?_|refine cal @hH ?_)
      (apply WE_ret rfl rfl zqR)
      · exact ⟨_,_,rfl,rfl⟩
      · exact entu0
     |false=>
      simp only [hh] at hH
      by_cases hf:(s.ps.length:Int)=s.most
      · have e2:shAddS s x=⟨s.cores,s.most,[],true⟩:=by simp [shAddS,e1,hh,hf]
        rw [e1,e2]
        refine FnF.mk' Tryz.func247 rfl rfl Tryz.ntmps247 rfl ?_
        repeat (first|refine gd ?_|intro _|refine cal @hM ?_|refine cal @sl_Clone_int ?_|refine cal @hH ?_)
        (apply WE_ret rfl rfl zqR)
        · exact ⟨none,0,rfl,rfl⟩
        · refine Ent.trans ?_ (own_empty Ent.refl)
          exact entu0
      · have e2:shAddS s x=⟨s.cores,s.most,insL x s.ps,s.all⟩:=by simp [shAddS,e1,hh,hf]
        rw [e1,e2]
        have hlo:=low_le s.ps x
        have hI:=fun F p c vb=>sl_Insert_int (F:=F) (p:=p) (c:=c) (vb:=vb) (i:=lowL s.ps x) (l:=s.ps) (x:=x) hlo hn
        refine FnF.mk' Tryz.func247 rfl rfl Tryz.ntmps247 rfl ?_
        repeat (first|refine gd ?_|intro _|refine cal @hM ?_|refine cal @sl_Clone_int ?_|refine cal @hH ?_|refine cal @sl_BinarySearch_int ?_|refine cal @hI ?_)
        have hins:List.take (lowL s.ps x) s.ps++x::List.drop (lowL s.ps x) s.ps=insL x s.ps:=rfl
        rw [hins,←insL_len x s.ps]
        (apply WE_ret rfl rfl zqR)
        · exact ⟨_,_,rfl,rfl⟩
        · exact entu0
end Go.Sx

/- What the document's sharer does. My own work. -/
namespace Go.Sx
open Go Go.Proofs
theorem insL_mem (c x:Int) (l:List Int):x∈insL c l↔x=c∨x∈l:=by
  unfold insL
  rw [List.mem_append,List.mem_cons]
  have h:x∈l↔x∈l.take (lowL l c)∨x∈l.drop (lowL l c):=by rw [←List.mem_append,List.take_append_drop]
  rw [h]
  constructor
  · rintro (h|h|h)
    · exact .inr (.inl h)
    · exact .inl h
    · exact .inr (.inr h)
  · rintro (h|h|h)
    · exact .inr (.inl h)
    · exact .inl h
    · exact .inr (.inr h)
theorem take_low (l:List Int) (c:Int):l.take (lowL l c)=l.takeWhile fun x=>decide (x<c):=by
  unfold lowL
  induction l with
  |nil=>rfl
  |cons a r ih=>by_cases h:a<c<;>simp [h,ih]
theorem drop_low (l:List Int) (c:Int):l.drop (lowL l c)=l.dropWhile fun x=>decide (x<c):=by
  unfold lowL
  induction l with
  |nil=>rfl
  |cons a r ih=>by_cases h:a<c<;>simp [h,ih]
theorem insL_sorted {c:Int} {l:List Int} (h:l.Pairwise (· < ·)) (hc:¬c∈l):(insL c l).Pairwise (· < ·):=by
  have hp:∀ x∈l.takeWhile (fun x=>decide (x<c)),x<c:=by
    have:∀ (r:List Int),∀ x∈r.takeWhile (fun x=>decide (x<c)),x<c:=by
      intro r
      induction r with
      |nil=>intro x hx;simp at hx
      |cons a r ih=>
       intro x hx
       by_cases ha:a<c
       · simp [ha] at hx
         rcases hx with rfl|hx
         · exact ha
         · exact ih x hx
       · simp [ha] at hx
    exact this l
  have hq:∀ x∈l.dropWhile (fun x=>decide (x<c)),c<x:=by
    have:∀ (r:List Int),r.Pairwise (· < ·)→(¬c∈r)→∀ x∈r.dropWhile (fun x=>decide (x<c)),c<x:=by
      intro r
      induction r with
      |nil=>intro _ _ x hx;simp at hx
      |cons a r ih=>
       intro hr hn x hx
       rw [List.pairwise_cons] at hr
       by_cases ha:a<c
       · simp [ha] at hx
         exact ih hr.2 (fun h=>hn (List.mem_cons_of_mem _ h)) x hx
       · simp [ha] at hx
         have:c≠a:=fun e=>hn (by simp [e])
         rcases hx with rfl|hx
         · omega
         · have:=hr.1 x hx;omega
    exact this l h hc
  unfold insL
  rw [take_low,drop_low,List.pairwise_append,List.pairwise_cons]
  refine ⟨h.sublist (List.takeWhile_sublist _),⟨hq,h.sublist (List.dropWhile_sublist _)⟩,fun x hx y hy=>?_⟩
  rcases List.mem_cons.1 hy with rfl|hy
  · exact hp x hx
  · have:=hp x hx;have:=hq y hy;omega
theorem upto_sorted (n:Nat):(upto n).Pairwise (· < ·):=by
  unfold upto
  rw [List.pairwise_map]
  exact List.pairwise_lt_range.imp fun h=>by omega
theorem upto_mem {n:Nat} {c:Int}:c∈upto n↔0≤c∧c<n:=by
  unfold upto
  simp only [List.mem_map,List.mem_range]
  constructor
  · rintro ⟨i,hi,rfl⟩;omega
  · rintro ⟨h1,h2⟩;exact ⟨c.toNat,by omega,by omega⟩
theorem not_has_all {s:SSet} {x:Int} (h0:0≤x) (h1:x<s.cores) (hn:shHas s x=false):s.all=false:=by
  cases ha:s.all with
  |false=>rfl
  |true=>simp [shHas,ha] at hn;omega
set_option maxRecDepth 100000
set_option maxHeartbeats 4000000
attribute [local irreducible] Go.Exit.then Go.Exit.inBlock Go.Code.wp WC WO WE WQ V LoopQ FnQ Sat Star band bor IntKind.wrap WR Code.rounds WT KO
end Go.Sx

/- The laws of sharers. My own work. -/
namespace Go.Sx
open Go Go.Proofs
instance:MapT Tryz.prog 126 blv false:=⟨_,_,_,_,_,Tryz.underlying126,Tryz.underlying3,TZ.pf⟩
set_option maxRecDepth 100000
set_option maxHeartbeats 4000000
attribute [local irreducible] Go.Exit.then Go.Exit.inBlock Go.Code.wp WC WO WE WQ V LoopQ FnQ Sat Star band bor IntKind.wrap WR Code.rounds WT KO
end Go.Sx

/- What sharers do: the law against the document. My own work. -/
namespace Go.Sx
open Go Go.Proofs
theorem addS_len (s:SSet) (x:Int):(shAddS s x).ps.length≤s.ps.length+1:=by
  unfold shAddS
  split
  · split
    · omega
    · split
      · simp
      · simp only [insL_len];omega
  · simp
theorem tgt_len (s:SSet) (but:List Int) (n:Nat):(shTgt s but n).length≤n:=by
  have:=List.length_filter_le (fun c=>shHas s c&& !decide (c∈but)) (upto n)
  simp only [upto,List.length_map,List.length_range] at this
  exact this
set_option maxRecDepth 100000
set_option maxHeartbeats 4000000
attribute [local irreducible] Go.Exit.then Go.Exit.inBlock Go.Code.wp WC WO WE WQ V LoopQ FnQ Sat Star band bor IntKind.wrap WR Code.rounds WT KO
end Go.Sx

/- Caches told of lists: what is so of them, plain. My own work. -/
namespace Go.Sx
open Go Go.Proofs
theorem WT_ent' {P:Program} {N:Nat} {st:St} {ops:Array Oper} {LS L L':List HP} {pl:Plan} {env:Env} {Q:Exit→Act→World→Prop} (e:Ent L L') (h:WT st P N ops LS pl env L' Q):WT st P N ops LS pl env L Q:=fun a w ha hw=>h a w ha (e.sat hw)
theorem lay_at {c:Cfg} {l:List Way} {line:Int} {i:Nat} (hI:ArrInv c l) (hi:arrFree c l line=i) (hno:findB c l line=false) :
    ∃ h:arrF c line+i<l.length,layE c l line i=0∧layL c l line i=l.set (arrF c line+i) ⟨0,line,.zero,true⟩∧arrP c (layL c l line i) line=i∧findW c (layL c l line i) line=⟨0,line,.zero,true⟩:=by
  have hn:arrP c l line= -1:=by
    have:=arrP_lt c l line
    simp [findB] at hno;omega
  obtain ⟨j,hj,e,h1,h2⟩:=indexBy_nat (show 0≤indexBy (fun w=> !thereB w) (waysOf c l line) by unfold arrFree at hi;omega)
  have hji:j=i:=by unfold arrFree at hi;omega
  subst hji
  have hok:okLine c line=true:=by
    cases h:okLine c line with
    |true=>rfl
    |false=>rw [waysOf_no h] at hj;simp at hj
  obtain ⟨hb,eg⟩:=ways_get hok hj
  have hlw:j<c.ways.toNat:=by rw [waysOf_ok hok,List.length_take] at hj;omega
  have h3:thereB ((waysOf c l line).getD j .zero)=false:=by rw [←getD_at hj];simpa using h1
  have e1:layE c l line j=0:=by
    unfold layE
    rw [if_pos ⟨by omega,by omega⟩,if_pos hn,Int.toNat_natCast,h3];rfl
  have e2:layL c l line j=l.set (arrF c line+j) ⟨0,line,.zero,true⟩:=by unfold layL;rw [if_pos e1,Int.toNat_natCast]
  have hI2:ArrInv c (layL c l line j):=layL_inv hI
  have hb2:arrF c line+j<(layL c l line j).length:=by rw [layL_len];exact hb
  have e3:(layL c l line j)[arrF c line+j]=⟨0,line,.zero,true⟩:=by simp only [e2];rw [List.getElem_set_self]
  have h4:=find_at (line:=line) hI2 hb2 (by rw [e3];simp [pHas,thereB])
  have e4:arrP c (layL c l line j) line=j:=by rw [h4.2];omega
  exact ⟨hb,e1,e2,e4,by rw [findW_at e4 hb2,e3]⟩
theorem set_all {α:Type} {P:α→Prop} {l:List α} {i:Nat} {x:α} (h:∀ m∈l,P m) (hx:P x):∀ m∈l.set i x,P m:=fun m hm=>by
  rcases List.mem_or_eq_of_mem_set hm with g|g
  · exact h m g
  · rw [g];exact hx
end Go.Sx
