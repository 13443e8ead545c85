/- MaP2, Ca4, MaL, MaI, HomQ: several of my texts as one. My own work. -/
import Derived.Test.YtjihlpjnebdiiaaGreatZr
import Derived.Test.YtjihlpjnebdiiaaGreatZan
import Derived.Test.YtjihlpjnebdiiaaGreatZai
import Derived.Test.YtjihlpjnebdiiaaGreatZam
import Derived.Test.YtjihlpjnebdiiaaGreatZak
set_option linter.unusedVariables false
set_option linter.unusedSectionVars false
set_option linter.unusedSimpArgs false
/- A machine in memory: its caches, its homes. My own work. -/
namespace Go.Sx
open Go Go.Proofs
def MaQc (b:Nat) (c:Cfg) (s:MaS) (x:MaX) (i:Nat):HP:=All [Cells b 81 (mac c s.odd x.kb.length x.ab.length x.hb.length s.tr.length x.pk x.pa x.ph x.pt x.bn),
  Own 82 1 (.slice x.pk.1 x.kb.length x.pk.2) x.kb.length (flat pvc x.kb),Own 46 1 (.slice x.pa.1 x.ab.length x.pa.2) x.ab.length (flat pvc x.ab),Own 52 1 (.slice x.ph.1 x.hb.length x.ph.2) x.hb.length (flat pvc x.hb),
  NetP x.bn c s.n,Own 60 6 (.slice x.pt.1 s.tr.length x.pt.2) s.tr.length (flat cmc s.tr),All ((List.range x.kb.length).map (corH x s)),All (((List.range x.ab.length).eraseIdx i).map (cacH c x s)),All ((List.range x.hb.length).map (homH c x s)),Fact (MaF c s x)]
def MaQh (b:Nat) (c:Cfg) (s:MaS) (x:MaX) (i:Nat):HP:=All [Cells b 81 (mac c s.odd x.kb.length x.ab.length x.hb.length s.tr.length x.pk x.pa x.ph x.pt x.bn),
  Own 82 1 (.slice x.pk.1 x.kb.length x.pk.2) x.kb.length (flat pvc x.kb),Own 46 1 (.slice x.pa.1 x.ab.length x.pa.2) x.ab.length (flat pvc x.ab),Own 52 1 (.slice x.ph.1 x.hb.length x.ph.2) x.hb.length (flat pvc x.hb),
  NetP x.bn c s.n,Own 60 6 (.slice x.pt.1 s.tr.length x.pt.2) s.tr.length (flat cmc s.tr),All ((List.range x.kb.length).map (corH x s)),All ((List.range x.ab.length).map (cacH c x s)),All (((List.range x.hb.length).eraseIdx i).map (homH c x s)),Fact (MaF c s x)]
theorem getD_set {α:Type} {l:List α} {i j:Nat} {a d:α}:(l.set i a).getD j d=if j=i∧i<l.length then a else l.getD j d:=by
  rw [List.getD_eq_getElem?_getD,List.getElem?_set,List.getD_eq_getElem?_getD]
  by_cases h:i=j
  · subst h
    by_cases h2:i<l.length<;>simp [h2]
  · rw [if_neg h,if_neg (fun g=>h g.1.symm)]
theorem maqc_out {b:Nat} {c:Cfg} {s:MaS} {x:MaX} {i:Nat} {L:List HP} (hi:i<x.ab.length):Ent (MaQ b c s x::L) (cacH c x s i::MaQc b c s x i::L):=by
  refine Ent.trans all_open (Ent.trans ?_ (Ent.cons all_close))
  show Ent (_::_::_::_::_::_::_::All _::_::_::L) (_::_::_::_::_::_::_::_::All _::_::_::L)
  refine Ent.trans (Ent.cons (Ent.cons (Ent.cons (Ent.cons (Ent.cons (Ent.cons (Ent.cons (rng_take hi)))))))) ?_
  exact ent_perm (List.perm_middle (l₁:=[_,_,_,_,_,_,_]) (l₂:=All _::_::_::L)).symm.symm
theorem maqh_out {b:Nat} {c:Cfg} {s:MaS} {x:MaX} {i:Nat} {L:List HP} (hi:i<x.hb.length):Ent (MaQ b c s x::L) (homH c x s i::MaQh b c s x i::L):=by
  refine Ent.trans all_open (Ent.trans ?_ (Ent.cons all_close))
  refine Ent.trans (Ent.cons (Ent.cons (Ent.cons (Ent.cons (Ent.cons (Ent.cons (Ent.cons (Ent.cons (rng_take hi))))))))) ?_
  exact ent_perm (List.perm_middle (l₁:=[_,_,_,_,_,_,_,_]) (l₂:=All _::_::L)).symm.symm
theorem maqc_in {b:Nat} {c:Cfg} {s:MaS} {x:MaX} {i:Nat} {k:CaS} {L M:List HP} (h:Ent L (CaP (x.ab.getD i 0) c (i:Int) k::MaQc b c s x i::M)) (hi:i<x.ab.length) (hl:s.cs.length=x.ab.length):Ent L (MaQ b c (maAs s i k) x::M):=by
  refine Ent.trans h (Ent.trans (Ent.cons all_open) (Ent.trans ?_ all_close))
  refine Ent.trans (ent_perm (List.perm_middle (l₁:=[_,_,_,_,_,_,_]) (l₂:=All _::_::_::M)).symm) ?_
  refine Ent.cons (Ent.cons (Ent.cons (Ent.cons (Ent.cons (Ent.cons (Ent.cons ?_))))))
  have e:CaP (x.ab.getD i 0) c (i:Int) k=cacH c x (maAs s i k) i:=by
    unfold cacH maAs;dsimp only
    rw [Int.toNat_natCast,getD_set,if_pos ⟨rfl,by omega⟩]
  rw [e]
  refine Ent.trans (rng_put (g:=cacH c x (maAs s i k)) hi fun j hj hne=>?_) (Ent.cons (Ent.cons ?_))
  · unfold cacH maAs;dsimp only
    rw [Int.toNat_natCast,getD_set,if_neg (fun h=>hne h.1)]
  · intro w hw
    have hf:=fact_of hw
    exact star_fact_mk (by
      obtain ⟨⟨a1,a2,a3⟩,a4,a5⟩:=hf
      refine ⟨⟨a1,?_,a3⟩,a4,a5⟩
      unfold maAs;dsimp only;rw [List.length_set];exact a2) _ (star_drop hw)
theorem maqh_in {b:Nat} {c:Cfg} {s:MaS} {x:MaX} {i:Nat} {k:HomS} {L M:List HP} (h:Ent L (HomP (x.hb.getD i 0) c (i:Int) k::MaQh b c s x i::M)) (hi:i<x.hb.length) (hl:s.hs.length=x.hb.length):Ent L (MaQ b c (maHs s i k) x::M):=by
  refine Ent.trans h (Ent.trans (Ent.cons all_open) (Ent.trans ?_ all_close))
  refine Ent.trans (ent_perm (List.perm_middle (l₁:=[_,_,_,_,_,_,_,_]) (l₂:=All _::_::M)).symm) ?_
  refine Ent.cons (Ent.cons (Ent.cons (Ent.cons (Ent.cons (Ent.cons (Ent.cons (Ent.cons ?_)))))))
  have e:HomP (x.hb.getD i 0) c (i:Int) k=homH c x (maHs s i k) i:=by
    unfold homH maHs;dsimp only
    rw [Int.toNat_natCast,getD_set,if_pos ⟨rfl,by omega⟩]
  rw [e]
  refine Ent.trans (rng_put (g:=homH c x (maHs s i k)) hi fun j hj hne=>?_) (Ent.cons ?_)
  · unfold homH maHs;dsimp only
    rw [Int.toNat_natCast,getD_set,if_neg (fun h=>hne h.1)]
  · intro w hw
    have hf:=fact_of hw
    exact star_fact_mk (by
      obtain ⟨⟨a1,a2,a3⟩,a4,a5⟩:=hf
      refine ⟨⟨a1,a2,?_⟩,a4,a5⟩
      unfold maHs;dsimp only;rw [List.length_set];exact a3) _ (star_drop hw)
theorem maAs_self {s:MaS} {i:Nat}:maAs s i (s.cs.getD i caZ)=s:=by
  have:s.cs.set i (s.cs.getD i caZ)=s.cs:=by
    by_cases h:i<s.cs.length
    · rw [List.getD_eq_getElem?_getD,List.getElem?_eq_getElem h];simp
    · rw [List.set_eq_of_length_le (by omega)]
  unfold maAs;rw [Int.toNat_natCast,this]
theorem maHs_self {s:MaS} {i:Nat}:maHs s i (s.hs.getD i hmZ)=s:=by
  have:s.hs.set i (s.hs.getD i hmZ)=s.hs:=by
    by_cases h:i<s.hs.length
    · rw [List.getD_eq_getElem?_getD,List.getElem?_eq_getElem h];simp
    · rw [List.set_eq_of_length_le (by omega)]
  unfold maHs;rw [Int.toNat_natCast,this]
theorem maqc_back {b:Nat} {c:Cfg} {s:MaS} {x:MaX} {i:Nat} {L M:List HP} (h:Ent L (CaP (x.ab.getD i 0) c (i:Int) (s.cs.getD i caZ)::MaQc b c s x i::M)) (hi:i<x.ab.length) (hl:s.cs.length=x.ab.length):Ent L (MaQ b c s x::M):=by
  have:=maqc_in h hi hl;rwa [maAs_self] at this
theorem maqh_back {b:Nat} {c:Cfg} {s:MaS} {x:MaX} {i:Nat} {L M:List HP} (h:Ent L (HomP (x.hb.getD i 0) c (i:Int) (s.hs.getD i hmZ)::MaQh b c s x i::M)) (hi:i<x.hb.length) (hl:s.hs.length=x.hb.length):Ent L (MaQ b c s x::M):=by
  have:=maqh_in h hi hl;rwa [maHs_self] at this
section
variable {b:Nat} {c:Cfg} {s:MaS} {x:MaX} {P:Program} {N:Nat} {env:Env} {L:List HP} {Q:Exit→Act→World→Prop}
theorem maqc_openO {all:Array Oper} {o:List Oper} (i:Nat) (hi:i<x.ab.length) (h:WO P N all o env (CaP (x.ab.getD i 0) c (i:Int) (s.cs.getD i caZ)::MaQc b c s x i::L) Q):WO P N all o env (MaQ b c s x::L) Q:=fun a w ha hw=>h a w ha ((maqc_out hi).sat hw)
theorem maqh_openO {all:Array Oper} {o:List Oper} (i:Nat) (hi:i<x.hb.length) (h:WO P N all o env (HomP (x.hb.getD i 0) c (i:Int) (s.hs.getD i hmZ)::MaQh b c s x i::L) Q):WO P N all o env (MaQ b c s x::L) Q:=fun a w ha hw=>h a w ha ((maqh_out hi).sat hw)
theorem maq_fact {o:Code} (h:MaF c s x→WC P N o env (MaQ b c s x::L) Q):WC P N o env (MaQ b c s x::L) Q:=fun a w ha hw=>h (maq_out hw).1 a w ha hw
theorem maq_factO {all:Array Oper} {o:List Oper} (h:MaF c s x→WO P N all o env (MaQ b c s x::L) Q):WO P N all o env (MaQ b c s x::L) Q:=fun a w ha hw=>h (maq_out hw).1 a w ha hw
end
theorem pv_get {l:List Nat} {i:Nat} (hi:i<l.length):(flat pvc l)[0+i*1]? =some (.pointer (some ⟨l.getD i 0,0,none⟩)):=by
  rw [List.getD_eq_getElem?_getD,List.getElem?_eq_getElem hi]
  have:flat pvc l=l.map fun n=> .pointer (some ⟨n,0,none⟩):=by
    induction l with
    |nil=>rfl
    |cons a r ih=>
     by_cases h:i-1<r.length
     · show pvc a++flat pvc r=_
       have e:∀ r:List Nat,flat pvc r=r.map fun n=> .pointer (some ⟨n,0,none⟩):=fun r=>by
         induction r with
         |nil=>rfl
         |cons a r ih=>show pvc a++flat pvc r=_;rw [ih];rfl
       rw [e];rfl
     · show pvc a++flat pvc r=_
       have e:∀ r:List Nat,flat pvc r=r.map fun n=> .pointer (some ⟨n,0,none⟩):=fun r=>by
         induction r with
         |nil=>rfl
         |cons a r ih=>show pvc a++flat pvc r=_;rw [ih];rfl
       rw [e];rfl
  rw [this,Nat.zero_add,Nat.mul_one,List.getElem?_map,List.getElem?_eq_getElem hi]
  rfl
theorem maq_same {b:Nat} {c:Cfg} {s:MaS} {x:MaX} {L M:List HP} (h:Ent L (MaO b c s x M)) (hf:MaF c s x):Ent L (MaQ b c s x::M):=maq_in h hf ⟨rfl,rfl,rfl,rfl,rfl⟩ rfl rfl rfl rfl rfl rfl rfl rfl
set_option maxRecDepth 100000
set_option maxHeartbeats 4000000
attribute [local irreducible] Go.Exit.then Go.Exit.inBlock Go.Code.wp WC WO WE WQ V LoopQ FnQ Sat Star band bor IntKind.wrap WR Code.rounds WT KO
theorem ma_Cache {F:List HP} {b:Nat} {c:Cfg} {s:MaS} {x:MaX} {i:Nat} (hi:i<x.ab.length):FnF Tryz.prog 24 [.pointer (some ⟨b,0,none⟩),.int .i64 i] [MaQ b c s x] F
    (fun r L'=>r= .pointer (some ⟨x.ab.getD i 0,0,none⟩)∧L'=[MaQ b c s x]):=by
  have hg:=pv_get hi
  have h0:0≤(i:Int)∧(i:Int)<x.ab.length:=by omega
  have h1:¬¬(0≤(i:Int)∧(i:Int)<x.ab.length):=fun h=>h h0
  refine FnF.mk' Tryz.func24 rfl rfl Tryz.ntmps24 rfl ?_
  refine maq_open fun hf=>?_
  repeat (first|refine gd ?_|intro _|refine cal @ma_within ?_)
  (apply WE_ret rfl rfl zqR)
  · exact ⟨by simp [hi],rfl⟩
  · refine maq_same ?_ hf
    exact entu0
theorem ma_Home {F:List HP} {b:Nat} {c:Cfg} {s:MaS} {x:MaX} {i:Nat} (hi:i<x.hb.length):FnF Tryz.prog 27 [.pointer (some ⟨b,0,none⟩),.int .i64 i] [MaQ b c s x] F
    (fun r L'=>r= .pointer (some ⟨x.hb.getD i 0,0,none⟩)∧L'=[MaQ b c s x]):=by
  have hg:=pv_get hi
  have h0:0≤(i:Int)∧(i:Int)<x.hb.length:=by omega
  have h1:¬¬(0≤(i:Int)∧(i:Int)<x.hb.length):=fun h=>h h0
  refine FnF.mk' Tryz.func27 rfl rfl Tryz.ntmps27 rfl ?_
  refine maq_open fun hf=>?_
  repeat (first|refine gd ?_|intro _|refine cal @ma_within ?_)
  (apply WE_ret rfl rfl zqR)
  · exact ⟨by simp [hi],rfl⟩
  · refine maq_same ?_ hf
    exact entu0
end Go.Sx

/- What caches do: what becomes of each message. The program's. My own work. -/
namespace Go.Sx
open Go Go.Proofs
abbrev anc (m:Msg) (b:Bool):List Value:=[.int .i64 m.kind,.int .i64 m.line,.int .i64 m.src,.int .i64 m.dst,.int .i64 m.who,.int .i64 m.acks,.int .i64 m.own,.int .i64 m.words.w0,.int .i64 m.words.w1,.int .i64 m.words.w2,.int .i64 m.words.w3,.int .i64 m.words.w4,.int .i64 m.words.w5,.int .i64 m.words.w6,.int .i64 m.words.w7,.bool b]
abbrev anv (m:Msg) (b:Bool):Value:= .agg (anc m b).toArray
theorem may_line {c:Cfg} {m:Msg} (h:MayP c m):okLine c m.line=true:=by
  obtain ⟨h1,_,h2,_⟩:=h
  simp [okLine,h1,h2]
set_option maxRecDepth 100000
set_option maxHeartbeats 4000000
attribute [local irreducible] Go.Exit.then Go.Exit.inBlock Go.Code.wp WC WO WE WQ V LoopQ FnQ Sat Star band bor IntKind.wrap WR Code.rounds WT KO
theorem dr_Ca4_217 {Q P:Prop} (k:Q) (h:Hid Q→P:=by
  intro k
  first
  |(refine is_draw ?_;apply WC_mix (id:=4) .true _ (pl:= .p 0 <| .p 1 <| .p 2 <| .p 4 <| .p 6 <| .r 3 <| .r 5 <| .r 7 <| .e true [(8,.done)]);exact mixed;kernel_rfl;kernel_rfl;exact Ent.refl;exact k.out)
  |(refine is_draw ?_;apply WC_mix (id:=10) .true [] (pl:= .p 0 <| .p 1 <| .p 4 <| .e true [(2,.e true [(3,.e true [(5,.p 6 <| .e false [(7,.p 8 <| .e false [(9,.p 10 <| .e false [(11,.done)])])])]),(5,.p 6 <| .e false [(3,.e false [(7,.p 8 <| .e false [(9,.p 10 <| .e false [(11,.done)])])]),(7,.p 8 <| .e false [(3,.e false [(9,.p 10 <| .e false [(11,.done)])]),(9,.e false [(3,.p 10 <| .e false [(11,.done)])])])])]),(3,.e true [(2,.e true [(5,.p 6 <| .e false [(7,.p 8 <| .e false [(9,.p 10 <| .e false [(11,.done)])])])]),(5,.p 6 <| .e false [(2,.e false [(7,.p 8 <| .e false [(9,.p 10 <| .e false [(11,.done)])])]),(7,.e false [(2,.p 8 <| .e false [(9,.p 10 <| .e false [(11,.done)])])])])]),(5,.p 6 <| .e false [(2,.e false [(3,.e false [(7,.p 8 <| .e false [(9,.p 10 <| .e false [(11,.done)])])]),(7,.p 8 <| .e false [(3,.e false [(9,.p 10 <| .e false [(11,.done)])]),(9,.e false [(3,.p 10 <| .e false [(11,.done)])])])]),(3,.e false [(2,.e false [(7,.p 8 <| .e false [(9,.p 10 <| .e false [(11,.done)])])]),(7,.e false [(2,.p 8 <| .e false [(9,.p 10 <| .e false [(11,.done)])])])]),(7,.e false [(2,.p 8 <| .e false [(3,.e false [(9,.p 10 <| .e false [(11,.done)])]),(9,.e false [(3,.p 10 <| .e false [(11,.done)])])]),(3,.e false [(2,.p 8 <| .e false [(9,.p 10 <| .e false [(11,.done)])])])])])]);exact mixed;kernel_rfl;kernel_rfl;exact Ent.nil;exact k.out)):P:=h ⟨k⟩
theorem ca_tellO {F:List HP} {b a f e:Nat} {c:Cfg} {core own st:Int} {m:Msg} {k:CaS} {fk:FuncId} {give:Bool} (hc:checkB c=true) (hli:I64 m.line)
    (H:∀ F,FnF Tryz.prog fk [.pointer (some ⟨e,0,none⟩),.int .i64 m.line] [Wb e c.writebacks k.buf] F (fun r L'=>r= .tuple [wv (wbTellW k.buf m.line),.int .i64 (wbTellE k.buf m.line)].toArray∧L'=[Wb e c.writebacks (if give then wbGiveL k.buf m.line else k.buf)])) :
    FnF Tryz.prog 217 [.pointer (some ⟨b,0,none⟩),mv m,.int .i64 own,.int .i64 st,.func (.func fk) [.pointer (some ⟨e,0,none⟩)].toArray [].toArray] (CaO b a f e c core k) F
      (fun r L'=>r= .tuple [anv (caTellM c core k m own) (decide (caTellE c k m.line=0)),.int .i64 (caTellE c k m.line)].toArray∧L'=CaO b a f e c core (caTellK c k m.line st give)):=by
  have hLook:=fun F=>ca_LookO (F:=F) (b:=b) (a:=a) (f:=f) (e:=e) (core:=core) (k:=k) hc hli
  have hSet:=fun F=>arr_Set (F:=F) (b:=a) (c:=c) (l:=k.ways) (line:=m.line) (st:=st) (w:=(findW c k.ways m.line).words) (cfg_wf hc) hli
  have hTo:=fun F k'=>ca_toO (F:=F) (b:=b) (a:=a) (f:=f) (e:=e) (c:=c) (core:=core) (k:=k') (kind:=7) (m:=m)
  by_cases h2:2≤(findW c k.ways m.line).st
  · have e1:caTellE c k m.line=0:=if_pos h2
    have e2:caTellM c core k m own=⟨7,m.line,core,m.who,1,m.acks,own,(findW c k.ways m.line).words⟩:=by unfold caTellM caTellW;rw [if_pos e1,if_pos h2]
    have e3:caTellK c k m.line st give=⟨setL c k.ways m.line st (findW c k.ways m.line).words,k.mis,k.buf⟩:=if_pos h2
    rw [e1,e2,e3,decide_eq_true rfl]
    have hTo2:=fun F=>hTo F ⟨setL c k.ways m.line st (findW c k.ways m.line).words,k.mis,k.buf⟩
    refine FnF.mk' Tryz.func217 rfl rfl Tryz.ntmps217 rfl ?_
    repeat' (first|refine go ?_|intro _|refine dr_Ca4_217 ?_|refine drq ?_|refine cal @hLook ?_|refine cal @ca_owns ?_|refine cal @hSet ?_|refine cal @hTo2 ?_|refine spl ?_ ?_|fail)
    all_goals exact fin0
  · by_cases h3:wbTellE k.buf m.line=0
    · have e1:caTellE c k m.line=0:=by unfold caTellE;rw [if_neg h2,if_pos h3]
      have e2:caTellM c core k m own=⟨7,m.line,core,m.who,1,m.acks,own,wbTellW k.buf m.line⟩:=by unfold caTellM caTellW;rw [if_pos e1,if_neg h2]
      have e3:caTellK c k m.line st give=⟨k.ways,k.mis,if give then wbGiveL k.buf m.line else k.buf⟩:=by unfold caTellK;rw [if_neg h2];cases give<;>rfl
      rw [e1,e2,e3,decide_eq_true rfl]
      simp only [h3] at H
      have hTo2:=fun F=>hTo F ⟨k.ways,k.mis,if give then wbGiveL k.buf m.line else k.buf⟩
      refine FnF.mk' Tryz.func217 rfl rfl Tryz.ntmps217 rfl ?_
      repeat' (first|refine go ?_|intro _|refine dr_Ca4_217 ?_|refine drq ?_|refine cal @hLook ?_|refine cal @ca_owns ?_|refine cal @H ?_|refine cal @hTo2 ?_|refine spl ?_ ?_|fail)
      all_goals exact fin0
    · have e1:caTellE c k m.line=7:=by unfold caTellE;rw [if_neg h2,if_neg h3]
      have e2:caTellM c core k m own= .zero:=by unfold caTellM;rw [e1];rfl
      have e4:wbGiveL k.buf m.line=k.buf:=by
        unfold wbGiveL
        unfold wbTellE at h3
        cases g1:wbIn k.buf m.line with
        |false=>rfl
        |true=>
         cases g2:(wbAt k.buf m.line).live with
         |false=>rfl
         |true=>rw [g1,if_pos rfl,g2,if_pos rfl] at h3;exact absurd rfl h3
      have e3:caTellK c k m.line st give=k:=by unfold caTellK;rw [if_neg h2,e4];cases give<;>rfl
      rw [e4] at H
      have e5:(if give=true then k.buf else k.buf)=k.buf:=by split<;>rfl
      rw [e5] at H
      rw [e1,e2,e3,decide_eq_false (by decide)]
      refine FnF.mk' Tryz.func217 rfl rfl Tryz.ntmps217 rfl ?_
      repeat' (first|refine go ?_|intro _|refine dr_Ca4_217 ?_|refine drq ?_|refine cal @hLook ?_|refine cal @ca_owns ?_|refine cal @H ?_|refine spl ?_ ?_|fail)
      all_goals exact fin0
theorem dr_Ca4_182 {Q P:Prop} (k:Q) (h:Hid Q→P:=by
  intro k
  first
  |(refine is_draw ?_;apply WC_mix (id:=1) .true _ (pl:= .p 0 <| .p 2 <| .p 3 <| .p 4 <| .r 1 <| .r 5 <| .p 6 <| .e true [(7,.p 8 <| .p 9 <| .e false [(10,.p 11 <| .done)])]);exact mixed;kernel_rfl;kernel_rfl;exact Ent.refl;exact k.out)):P:=h ⟨k⟩
theorem ca_fwdSO {F:List HP} {b a f e:Nat} {c:Cfg} {core:Int} {m:Msg} {k:CaS} (hc:checkB c=true) (hli:I64 m.line) :
    FnF Tryz.prog 182 [.pointer (some ⟨b,0,none⟩),mv m] (CaO b a f e c core k) F
      (fun r L'=>r= .tuple [anv (caTellM c core k m 1) (decide (caTellE c k m.line=0)),.int .i64 (caTellE c k m.line)].toArray∧L'=CaO b a f e c core (caTellK c k m.line 3 false)):=by
  have hT:=fun F=>ca_tellO (F:=F) (b:=b) (a:=a) (f:=f) (e:=e) (core:=core) (own:=1) (st:=3) (m:=m) (k:=k) (give:=false) hc hli (fun F=>wb_Share)
  refine FnF.mk' Tryz.func182 rfl rfl Tryz.ntmps182 rfl ?_
  repeat (first|refine go ?_|intro _|refine dr_Ca4_182 ?_|refine drq ?_|refine cal @hT ?_)
  exact fin0
theorem dr_Ca4_183 {Q P:Prop} (k:Q) (h:Hid Q→P:=by
  intro k
  first
  |(refine is_draw ?_;apply WC_mix (id:=1) .true _ (pl:= .p 0 <| .p 2 <| .p 3 <| .p 4 <| .r 1 <| .r 5 <| .p 6 <| .e true [(7,.p 8 <| .p 9 <| .e false [(10,.p 11 <| .done)])]);exact mixed;kernel_rfl;kernel_rfl;exact Ent.refl;exact k.out)):P:=h ⟨k⟩
theorem ca_fwdMO {F:List HP} {b a f e:Nat} {c:Cfg} {core:Int} {m:Msg} {k:CaS} (hc:checkB c=true) (hli:I64 m.line) :
    FnF Tryz.prog 183 [.pointer (some ⟨b,0,none⟩),mv m] (CaO b a f e c core k) F
      (fun r L'=>r= .tuple [anv (caTellM c core k m 4) (decide (caTellE c k m.line=0)),.int .i64 (caTellE c k m.line)].toArray∧L'=CaO b a f e c core (caTellK c k m.line 0 true)):=by
  have hT:=fun F=>ca_tellO (F:=F) (b:=b) (a:=a) (f:=f) (e:=e) (core:=core) (own:=4) (st:=0) (m:=m) (k:=k) (give:=true) hc hli (fun F=>wb_Give)
  refine FnF.mk' Tryz.func183 rfl rfl Tryz.ntmps183 rfl ?_
  repeat (first|refine go ?_|intro _|refine dr_Ca4_183 ?_|refine drq ?_|refine cal @hT ?_)
  exact fin0
theorem dr_Ca4_184 {Q P:Prop} (k:Q) (h:Hid Q→P:=by
  intro k
  first
  |(refine is_draw ?_;apply WC_mix (id:=5) .true _ (pl:= .p 0 <| .p 1 <| .p 2 <| .p 4 <| .p 6 <| .r 3 <| .r 5 <| .e true [(7,.done)]);exact mixed;kernel_rfl;kernel_rfl;exact Ent.refl;exact k.out)):P:=h ⟨k⟩
theorem ca_invO {F:List HP} {b a f e:Nat} {c:Cfg} {core:Int} {m:Msg} {k:CaS} (hc:checkB c=true) (hli:I64 m.line) :
    FnF Tryz.prog 184 [.pointer (some ⟨b,0,none⟩),mv m] (CaO b a f e c core k) F
      (fun r L'=>r= .tuple [anv (caInvM c core k m) (decide (caInvE c k m.line=0)),.int .i64 (caInvE c k m.line)].toArray∧L'=CaO b a f e c core (if caInvE c k m.line=0 then caInvK c k m.line else k)):=by
  have hLook:=fun F=>ca_LookO (F:=F) (b:=b) (a:=a) (f:=f) (e:=e) (core:=core) (k:=k) hc hli
  have hSet:=fun F=>arr_Set (F:=F) (b:=a) (c:=c) (l:=k.ways) (line:=m.line) (st:=0) (w:= .zero) (cfg_wf hc) hli
  have hTo:=fun F k'=>ca_toO (F:=F) (b:=b) (a:=a) (f:=f) (e:=e) (c:=c) (core:=core) (k:=k') (kind:=9) (m:=m)
  by_cases h2:2≤(findW c k.ways m.line).st
  · have e1:caInvE c k m.line=7:=if_pos h2
    have e2:caInvM c core k m= .zero:=by unfold caInvM;rw [e1];rfl
    rw [e1,e2,decide_eq_false (by decide),if_neg (by decide)]
    refine FnF.mk' Tryz.func184 rfl rfl Tryz.ntmps184 rfl ?_
    repeat' (first|refine go ?_|intro _|refine dr_Ca4_184 ?_|refine drq ?_|refine cal @hLook ?_|refine cal @ca_owns ?_|refine spl ?_ ?_|fail)
    all_goals exact fin0
  · have e1:caInvE c k m.line=0:=if_neg h2
    have e2:caInvM c core k m=⟨9,m.line,core,m.who,0,0,0,.zero⟩:=if_pos e1
    rw [e1,e2,decide_eq_true rfl,if_pos rfl]
    by_cases h1:(findW c k.ways m.line).st=1
    · have e3:caInvK c k m.line=⟨setL c k.ways m.line 0 .zero,k.mis,k.buf⟩:=if_pos h1
      rw [e3]
      have hTo2:=fun F=>hTo F ⟨setL c k.ways m.line 0 .zero,k.mis,k.buf⟩
      refine FnF.mk' Tryz.func184 rfl rfl Tryz.ntmps184 rfl ?_
      repeat' (first|refine go ?_|intro _|refine dr_Ca4_184 ?_|refine drq ?_|refine cal @hLook ?_|refine cal @ca_owns ?_|refine cal @hSet ?_|refine cal @hTo2 ?_|refine spl ?_ ?_|fail)
      all_goals exact fin0
    · have e3:caInvK c k m.line=k:=if_neg h1
      rw [e3]
      have hTo2:=fun F=>hTo F k
      refine FnF.mk' Tryz.func184 rfl rfl Tryz.ntmps184 rfl ?_
      repeat' (first|refine go ?_|intro _|refine dr_Ca4_184 ?_|refine drq ?_|refine cal @hLook ?_|refine cal @ca_owns ?_|refine cal @hTo2 ?_|refine spl ?_ ?_|fail)
      all_goals exact fin0
theorem dr_Ca4_221 {Q P:Prop} (k:Q) (h:Hid Q→P:=by
  intro k
  first
  |(refine is_draw ?_;apply WC_mix (id:=10) .true _ (pl:= .p 0 <| .p 1 <| .p 2 <| .p 4 <| .p 5 <| .r 3 <| .r 6 <| .r 7 <| .e true [(8,.done)]);exact mixed;kernel_rfl;kernel_rfl;exact Ent.refl;exact k.out)):P:=h ⟨k⟩
theorem ca_filledO {F:List HP} {b a f e:Nat} {c:Cfg} {core line er:Int} {k:CaS} (hc:checkB c=true) (hli:I64 line) :
    FnF Tryz.prog 221 [.pointer (some ⟨b,0,none⟩),.int .i64 line,.int .i64 er] (CaO b a f e c core k) F
      (fun r L'=>r= .tuple [anv .zero false,.int .i64 (err7 er)].toArray∧L'=CaO b a f e c core (if er=0 then caFill c k line else k)):=by
  have hLook:=fun F k'=>ca_LookO (F:=F) (b:=b) (a:=a) (f:=f) (e:=e) (core:=core) (k:=k') hc hli
  have hOwe:=fun F=>msh_Owe (F:=F) (b:=f) (room:=c.mshrs) (l:=k.mis) (line:=line)
  by_cases h0:er=0
  · have e1:err7 er=0:=if_pos h0
    rw [e1,if_pos h0]
    cases h1:oweB k.mis line with
    |false=>
     have e2:caFill c k line=k:=by unfold caFill;rw [h1];rfl
     have e3:oweL k.mis line=k.mis:=by unfold oweL;rw [h1];rfl
     rw [e2]
     simp only [h1,e3] at hOwe
     refine FnF.mk' Tryz.func221 rfl rfl Tryz.ntmps221 rfl ?_
     repeat' (first|refine go ?_|intro _|refine dr_Ca4_221 ?_|refine drq ?_|refine cal @hOwe ?_|refine spl ?_ ?_|fail)
     all_goals exact fin0
    |true=>
     simp only [h1] at hOwe
     cases h2:(oweM k.mis line).granted with
     |false=>
      have e2:caFill c k line=⟨setL c k.ways line (oweM k.mis line).own (oweM k.mis line).words,oweL k.mis line,k.buf⟩:=by unfold caFill;rw [h1,if_pos rfl,h2];rfl
      rw [e2]
      have hSet:=fun F=>arr_Set (F:=F) (b:=a) (c:=c) (l:=k.ways) (line:=line) (st:=(oweM k.mis line).own) (w:=(oweM k.mis line).words) (cfg_wf hc) hli
      refine FnF.mk' Tryz.func221 rfl rfl Tryz.ntmps221 rfl ?_
      repeat' (first|refine go ?_|intro _|refine dr_Ca4_221 ?_|refine drq ?_|refine cal @hOwe ?_|refine cal @hSet ?_|refine spl ?_ ?_|fail)
      all_goals exact fin0
     |true=>
      have e2:caFill c k line=⟨setL c k.ways line (oweM k.mis line).own (findW c k.ways line).words,oweL k.mis line,k.buf⟩:=by unfold caFill;rw [h1,if_pos rfl,h2];rfl
      rw [e2]
      have hSet:=fun F=>arr_Set (F:=F) (b:=a) (c:=c) (l:=k.ways) (line:=line) (st:=(oweM k.mis line).own) (w:=(findW c k.ways line).words) (cfg_wf hc) hli
      have hLook2:=fun F=>hLook F ⟨k.ways,oweL k.mis line,k.buf⟩
      refine FnF.mk' Tryz.func221 rfl rfl Tryz.ntmps221 rfl ?_
      repeat' (first|refine go ?_|intro _|refine dr_Ca4_221 ?_|refine drq ?_|refine cal @hOwe ?_|refine cal @hLook2 ?_|refine cal @hSet ?_|refine spl ?_ ?_|fail)
      all_goals exact fin0
  · have e1:err7 er=7:=if_neg h0
    rw [e1,if_neg h0]
    refine FnF.mk' Tryz.func221 rfl rfl Tryz.ntmps221 rfl ?_
    repeat' (first|refine go ?_|intro _|refine dr_Ca4_221 ?_|refine drq ?_|refine spl ?_ ?_|fail)
    all_goals exact fin0
theorem dr_Ca4_185s {Q P:Prop} (k:Q) (h:Hid Q→P:=by
  intro k
  first
  |(refine is_draw ?_;apply WC_mix (id:=1) .true _ (pl:= .p 0 <| .p 1 <| .p 3 <| .p 4 <| .p 5 <| .p 7 <| .p 9 <| .p 11 <| .p 13 <| .r 6 <| .r 8 <| .r 10 <| .r 12 <| .r 14 <| .e true [(2,.e true [(15,.e false [(16,.p 17 <| .p 18 <| .e false [(19,.p 20 <| .done)])])]),(15,.e false [(2,.e false [(16,.p 17 <| .p 18 <| .e false [(19,.p 20 <| .done)])])])]);exact mixed;kernel_rfl;kernel_rfl;exact Ent.refl;exact k.out)):P:=h ⟨k⟩
theorem ca_dataO {F:List HP} {b a f e:Nat} {c:Cfg} {core:Int} {m:Msg} {k:CaS} (hc:checkB c=true) (hli:I64 m.line) :
    FnF Tryz.prog 185 [.pointer (some ⟨b,0,none⟩),mv m] (CaO b a f e c core k) F
      (fun r L'=>r= .tuple [anv .zero false,.int .i64 (err7 (dataE k.mis m.line m.acks m.own))].toArray∧L'=CaO b a f e c core (caDataK c k m)):=by
  have hD:=fun F=>msh_Data (F:=F) (b:=f) (room:=c.mshrs) (l:=k.mis) (line:=m.line) (acks:=m.acks) (own:=m.own) (w:=m.words)
  have hF:=fun F=>ca_filledO (F:=F) (b:=b) (a:=a) (f:=f) (e:=e) (core:=core) (er:=dataE k.mis m.line m.acks m.own) (k:=⟨k.ways,dataL k.mis m.line m.acks m.own m.words,k.buf⟩) hc hli
  have e1:caDataK c k m=if dataE k.mis m.line m.acks m.own=0 then caFill c ⟨k.ways,dataL k.mis m.line m.acks m.own m.words,k.buf⟩ m.line else ⟨k.ways,dataL k.mis m.line m.acks m.own m.words,k.buf⟩:=by
    unfold caDataK
    by_cases h:dataE k.mis m.line m.acks m.own=0
    · rw [if_pos h,if_pos h]
    · have:dataL k.mis m.line m.acks m.own m.words=k.mis:=if_neg h
      rw [if_neg h,if_neg h,this]
  rw [e1]
  refine FnF.mk' Tryz.func185 rfl rfl Tryz.ntmps185 rfl ?_
  repeat' (first|refine go ?_|intro _|refine dr_Ca4_185s ?_|refine drq ?_|refine cal @hD ?_|refine cal @hF ?_|refine spl ?_ ?_|fail)
  all_goals exact fin0
theorem dr_Ca4_186s {Q P:Prop} (k:Q) (h:Hid Q→P:=by
  intro k
  first
  |(refine is_draw ?_;apply WC_mix (id:=4) .true _ (pl:= .p 0 <| .p 1 <| .p 3 <| .p 4 <| .p 5 <| .p 7 <| .p 9 <| .r 6 <| .r 8 <| .r 10 <| .e true [(2,.e true [(11,.e false [(12,.p 13 <| .p 14 <| .e false [(15,.p 16 <| .done)])])]),(11,.e false [(2,.e false [(12,.p 13 <| .p 14 <| .e false [(15,.p 16 <| .done)])])])]);exact mixed;kernel_rfl;kernel_rfl;exact Ent.refl;exact k.out)):P:=h ⟨k⟩
theorem ca_grantO {F:List HP} {b a f e:Nat} {c:Cfg} {core:Int} {m:Msg} {k:CaS} (hc:checkB c=true) (hli:I64 m.line) :
    FnF Tryz.prog 186 [.pointer (some ⟨b,0,none⟩),mv m] (CaO b a f e c core k) F
      (fun r L'=>r= .tuple [anv .zero false,.int .i64 (caGrE c k m)].toArray∧L'=CaO b a f e c core (caGrK c k m)):=by
  have hLook:=fun F=>ca_LookO (F:=F) (b:=b) (a:=a) (f:=f) (e:=e) (core:=core) (k:=k) hc hli
  have hD:=fun F=>msh_Grant (F:=F) (b:=f) (room:=c.mshrs) (l:=k.mis) (line:=m.line) (acks:=m.acks)
  have hF:=fun F=>ca_filledO (F:=F) (b:=b) (a:=a) (f:=f) (e:=e) (core:=core) (er:=dataE k.mis m.line m.acks 4) (k:=⟨k.ways,grantL k.mis m.line m.acks,k.buf⟩) hc hli
  by_cases h3:(findW c k.ways m.line).st=3
  · have e0:caGrE c k m=err7 (dataE k.mis m.line m.acks 4):=if_pos h3
    have e1:caGrK c k m=if dataE k.mis m.line m.acks 4=0 then caFill c ⟨k.ways,grantL k.mis m.line m.acks,k.buf⟩ m.line else ⟨k.ways,grantL k.mis m.line m.acks,k.buf⟩:=by
      unfold caGrK
      rw [e0]
      by_cases h:dataE k.mis m.line m.acks 4=0
      · rw [if_pos h,h];rfl
      · have:grantL k.mis m.line m.acks=k.mis:=if_neg h
        rw [if_neg h,this,if_neg (by unfold err7;rw [if_neg h];decide)]
    rw [e0,e1]
    refine FnF.mk' Tryz.func186 rfl rfl Tryz.ntmps186 rfl ?_
    repeat' (first|refine go ?_|intro _|refine dr_Ca4_186s ?_|refine drq ?_|refine cal @hLook ?_|refine cal @hD ?_|refine cal @hF ?_|refine spl ?_ ?_|fail)
    all_goals exact fin0
  · have e0:caGrE c k m=7:=if_neg h3
    have e1:caGrK c k m=k:=by unfold caGrK;rw [e0];rfl
    rw [e0,e1]
    refine FnF.mk' Tryz.func186 rfl rfl Tryz.ntmps186 rfl ?_
    repeat' (first|refine go ?_|intro _|refine dr_Ca4_186s ?_|refine drq ?_|refine cal @hLook ?_|refine spl ?_ ?_|fail)
    all_goals exact fin0
theorem dr_Ca4_187s {Q P:Prop} (k:Q) (h:Hid Q→P:=by
  intro k
  first
  |(refine is_draw ?_;apply WC_mix (id:=1) .true _ (pl:= .p 0 <| .p 1 <| .p 3 <| .p 4 <| .p 5 <| .p 7 <| .r 6 <| .r 8 <| .e true [(2,.e true [(9,.e false [(10,.p 11 <| .p 12 <| .e false [(13,.p 14 <| .done)])])]),(9,.e false [(2,.e false [(10,.p 11 <| .p 12 <| .e false [(13,.p 14 <| .done)])])])]);exact mixed;kernel_rfl;kernel_rfl;exact Ent.refl;exact k.out)):P:=h ⟨k⟩
theorem ca_ackO {F:List HP} {b a f e:Nat} {c:Cfg} {core:Int} {m:Msg} {k:CaS} (hc:checkB c=true) (hli:I64 m.line) (hg:∀ m∈k.mis,-9223372036854775808≤m.got∧m.got≤9223372036854775806) :
    FnF Tryz.prog 187 [.pointer (some ⟨b,0,none⟩),mv m] (CaO b a f e c core k) F
      (fun r L'=>r= .tuple [anv .zero false,.int .i64 (err7 (ackE k.mis m.line))].toArray∧L'=CaO b a f e c core (caAckK c k m)):=by
  have hD:=fun F=>msh_Ack (F:=F) (b:=f) (room:=c.mshrs) (l:=k.mis) (line:=m.line) hg
  have hF:=fun F=>ca_filledO (F:=F) (b:=b) (a:=a) (f:=f) (e:=e) (core:=core) (er:=ackE k.mis m.line) (k:=⟨k.ways,ackL k.mis m.line,k.buf⟩) hc hli
  have e1:caAckK c k m=if ackE k.mis m.line=0 then caFill c ⟨k.ways,ackL k.mis m.line,k.buf⟩ m.line else ⟨k.ways,ackL k.mis m.line,k.buf⟩:=by
    unfold caAckK
    by_cases h:ackE k.mis m.line=0
    · rw [if_pos h,if_pos h]
    · have:ackL k.mis m.line=k.mis:=if_neg h
      rw [if_neg h,if_neg h,this]
  rw [e1]
  refine FnF.mk' Tryz.func187 rfl rfl Tryz.ntmps187 rfl ?_
  repeat' (first|refine go ?_|intro _|refine dr_Ca4_187s ?_|refine drq ?_|refine cal @hD ?_|refine cal @hF ?_|refine spl ?_ ?_|fail)
  all_goals exact fin0
theorem dr_Ca4_181 {Q P:Prop} (k:Q) (h:Hid Q→P:=by
  intro k
  first
  |(refine is_draw ?_;apply WC_mix (id:=1) .true _ (pl:= .p 0 <| .p 1 <| .p 2 <| .p 4 <| .r 3 <| .r 5 <| .e true [(6,.p 7 <| .done)]);exact mixed;kernel_rfl;kernel_rfl;exact Ent.refl;exact k.out)):P:=h ⟨k⟩
theorem ca_putAckO {F:List HP} {b a f e:Nat} {c:Cfg} {core:Int} {m:Msg} {k:CaS} (hc:checkB c=true) :
    FnF Tryz.prog 181 [.pointer (some ⟨b,0,none⟩),mv m] (CaO b a f e c core k) F
      (fun r L'=>r= .tuple [anv .zero false,.int .i64 (err7 (wbDropE k.buf m.line))].toArray∧L'=CaO b a f e c core (caPaK k m.line)):=by
  have hD:=fun F=>wb_Drop (F:=F) (b:=e) (room:=c.writebacks) (l:=k.buf) (line:=m.line)
  unfold caPaK
  by_cases h:wbDropE k.buf m.line=0
  · have e0:err7 (wbDropE k.buf m.line)=0:=if_pos h
    rw [e0]
    simp only [h] at hD
    refine FnF.mk' Tryz.func181 rfl rfl Tryz.ntmps181 rfl ?_
    repeat' (first|refine go ?_|intro _|refine dr_Ca4_181 ?_|refine drq ?_|refine cal @hD ?_|refine spl ?_ ?_|fail)
    all_goals exact fin0
  · have e0:err7 (wbDropE k.buf m.line)=7:=if_neg h
    rw [e0]
    refine FnF.mk' Tryz.func181 rfl rfl Tryz.ntmps181 rfl ?_
    repeat' (first|refine go ?_|intro _|refine dr_Ca4_181 ?_|refine drq ?_|refine cal @hD ?_|refine spl ?_ ?_|fail)
    all_goals exact fin0
end Go.Sx

/- What is so of a machine, whatever is picked: its parts are in order. My own work. -/
namespace Go.Sx
open Go Go.Proofs
structure MaL (c:Cfg) (n:Nat) (s:MaS):Prop where
  ok:checkB c=true
  lk:(s.ks.length:Int)=c.cores
  la:(s.cs.length:Int)=c.cores
  lh:(s.hs.length:Int)=c.homes
  kp:∀ k∈s.ks,progB c k.l=true∧k.rs.length≤k.l.length
  ca:∀ k∈s.cs,CaX3 c n k
  hm:∀ (i:Nat) x,s.hs[i]? =some x→HmI c (i:Int) x∧0≤x.odd∧x.odd≤n
  nt:∀ k,∀ m∈nget s.n k,MayP c m∧netK m.kind=k
  rm:∀ k,hasN k=true→((nget s.n k).length:Int)≤nroom c k
  od:0≤s.odd∧s.odd≤n
theorem getD_all {α:Type} {P:α→Prop} {l:List α} {i:Nat} {z:α} (h:∀ x∈l,P x) (hz:P z):P (l.getD i z):=by
  rw [List.getD_eq_getElem?_getD]
  cases e:l[i]? with
  |none=>exact hz
  |some x=>exact h x (List.mem_of_getElem? e)
theorem x3_z {c:Cfg} {n:Nat}:CaX3 c n caZ:=x3_new c n 0
section
variable {c:Cfg} {n:Nat} {s:MaS}
theorem MaL.mono (h:MaL c n s) {n':Nat} (hn:n≤n'):MaL c n' s:=
  ⟨h.ok,h.lk,h.la,h.lh,h.kp,fun k hk=>x3_mono hn (h.ca k hk),fun i x hx=>by obtain ⟨a,b,d⟩:=h.hm i x hx;exact ⟨a,b,by omega⟩,h.nt,h.rm,by have:=h.od;omega⟩
theorem MaL.cai (h:MaL c n s) (i:Int):CaX3 c n (maA s i):=getD_all (P:=CaX3 c n) h.ca x3_z
theorem MaL.hmi (h:MaL c n s) {i:Int} (h0:0≤i) (h1:i<c.homes):HmI c i (maH s i)∧0≤(maH s i).odd∧(maH s i).odd≤n:=by
  have hl:i.toNat<s.hs.length:=by have:=h.lh;omega
  have:=h.hm i.toNat _ (List.getElem?_eq_getElem hl)
  have e:((i.toNat:Nat):Int)=i:=by omega
  rw [e] at this
  unfold maH
  rw [List.getD_eq_getElem?_getD,List.getElem?_eq_getElem hl]
  exact this
theorem MaL.setA (h:MaL c n s) {i:Int} {k:CaS} (hk:CaX3 c n k):MaL c n (maAs s i k):=
  ⟨h.ok,h.lk,by show ((s.cs.set _ _).length:Int)=_;rw [List.length_set];exact h.la,h.lh,h.kp,set_all h.ca hk,h.hm,h.nt,h.rm,h.od⟩
theorem MaL.setH (h:MaL c n s) {i:Int} {k:HomS} (h0:0≤i) (hk:HmI c i k∧0≤k.odd∧k.odd≤n):MaL c n (maHs s i k):=
  ⟨h.ok,h.lk,h.la,by show ((s.hs.set _ _).length:Int)=_;rw [List.length_set];exact h.lh,h.kp,h.ca,fun j x hx=>by
    change (s.hs.set i.toNat k)[j]? =some x at hx
    rw [List.getElem?_set] at hx
    split at hx
    · rename_i e
      split at hx
      · cases hx
        have:(j:Int)=i:=by omega
        rw [this];exact hk
      · cases hx
    · exact h.hm j x hx,h.nt,h.rm,h.od⟩
theorem MaL.setK (h:MaL c n s) {i:Int} {k:CoS} (hk:progB c k.l=true∧k.rs.length≤k.l.length):MaL c n (maKs s i k):=
  ⟨h.ok,by show ((s.ks.set _ _).length:Int)=_;rw [List.length_set];exact h.lk,h.la,h.lh,set_all h.kp hk,h.ca,h.hm,h.nt,h.rm,h.od⟩
theorem nget_nset {x:Nets} {k j:Int} {l:List Msg} (hk:hasN k=true):nget (nset x k l) j=if j=k then l else nget x j:=by
  rcases hasN_case hk with rfl|rfl|rfl<;>simp only [nset,nget]<;>grind
theorem MaL.send (h:MaL c n s) (m:Msg):MaL c n (maSend c s m):=by
  unfold maSend nsendN
  by_cases hm:MayP c m
  · rw [if_pos hm]
    have hk:hasN (netK m.kind)=true:=by
      obtain ⟨_,h2,_⟩:=hm
      unfold netK hasN
      split<;>(try split)<;>(try split)<;>first|(simp;done)|omega
    refine ⟨h.ok,h.lk,h.la,h.lh,h.kp,h.ca,h.hm,fun k x hx=>?_,fun k hk'=>?_,h.od⟩
    · change x∈nget (nset s.n _ _) k at hx
      rw [nget_nset hk] at hx
      split at hx
      · rename_i e
        subst e
        unfold putL at hx
        split at hx
        · exact h.nt _ x hx
        · rcases List.mem_append.1 hx with g|g
          · exact h.nt _ x g
          · obtain rfl:=List.mem_singleton.1 g
            exact ⟨hm,rfl⟩
      · exact h.nt k x hx
    · show ((nget (nset s.n _ _) k).length:Int)≤_
      rw [nget_nset hk]
      split
      · rename_i e
        subst e
        exact putL_le (h.rm _ hk)
      · exact h.rm k hk'
  · rw [if_neg hm];exact h
theorem MaL.take (h:MaL c n s) (k i:Int):MaL c n (maNs s (ntakeN s.n k i)):=by
  have hsub:∀ {l:List Msg} {x:Msg},x∈takeL l i→x∈l:=fun {l x} hx=>by
    unfold takeL at hx
    split at hx
    · exact List.mem_of_mem_eraseIdx hx
    · exact hx
  have hlen:∀ {l:List Msg},(takeL l i).length≤l.length:=fun {l}=>by
    unfold takeL
    split
    · exact List.length_eraseIdx_le _ _
    · exact Nat.le_refl _
  by_cases hk:hasN k=true
  · refine ⟨h.ok,h.lk,h.la,h.lh,h.kp,h.ca,h.hm,fun j x hx=>?_,fun j hj=>?_,h.od⟩
    · change x∈nget (nset s.n k (takeL (nget s.n k) i)) j at hx
      rw [nget_nset hk] at hx
      split at hx
      · rename_i e;subst e;exact h.nt _ x (hsub hx)
      · exact h.nt j x hx
    · show ((nget (nset s.n k (takeL (nget s.n k) i)) j).length:Int)≤_
      rw [nget_nset hk]
      split
      · rename_i e;subst e
        have:=h.rm _ hk;have:=hlen (l:=nget s.n j);omega
      · exact h.rm j hj
  · have:ntakeN s.n k i=s.n:=by
      unfold ntakeN nset
      have hk':¬(0≤k∧k<3):=by simpa [hasN] using hk
      rw [if_neg (by omega),if_neg (by omega),if_neg (by omega)]
    rw [this];exact h
theorem MaL.odd (h:MaL c n s) (b:Bool):MaL c (n+1) (maOdd s b):=by
  have h':=h.mono (Nat.le_succ n)
  refine ⟨h'.ok,h'.lk,h'.la,h'.lh,h'.kp,h'.ca,h'.hm,h'.nt,h'.rm,?_⟩
  have:=h.od
  show 0≤(if b then s.odd+1 else s.odd)∧(if b then s.odd+1 else s.odd)≤_
  split<;>omega
theorem nat_mem {x:Nets} {k i:Int} (h:natB x k i=true):natM x k i∈nget x k:=by
  unfold natB at h
  unfold natM atL
  rw [h]
  unfold inL at h
  have h:=of_decide_eq_true h
  have hl:i.toNat<(nget x k).length:=by omega
  show (nget x k).getD i.toNat .zero∈_
  rw [List.getD_eq_getElem?_getD,List.getElem?_eq_getElem hl]
  exact List.getElem_mem hl
theorem homeN_rng {m:Msg} (hc:checkB c=true) (hl:0≤m.line∧m.line<c.lines):0≤homeN c m∧homeN c m<c.homes:=by
  have:=(cfg_bnd hc).2.1
  unfold homeN
  rw [Int.tmod_eq_emod_of_nonneg hl.1]
  exact ⟨Int.emod_nonneg _ (by omega),Int.emod_lt_of_pos _ (by omega)⟩
theorem may_home {m:Msg} (h:MayP c m) (hh:HomeP m.kind):0≤m.dst∧m.dst<c.homes:=by
  obtain ⟨g1,g2,g3,g4,g5⟩:=h
  unfold FormP at g4
  rw [if_pos hh] at g4
  rw [g4.2.1]
  exact homeN_rng g1 g3
theorem may_core {m:Msg} (h:MayP c m) (hh:¬HomeP m.kind):0≤m.dst∧m.dst<c.cores:=by
  obtain ⟨g1,g2,g3,g4,g5⟩:=h
  unfold FormP at g4
  rw [if_neg hh] at g4
  split at g4
  · exact g4.2.2.2.1
  · split at g4
    · exact g4.2.2.2.1
    · split at g4
      · exact g4.2.2.1
      · split at g4
        · exact g4.2.1
        · split at g4
          · exact g4.2.1
          · exact g4.2.1
theorem MaL.com (h:MaL c n s) {i:Int} {x:Op3} {v:Int} (hh:coHas (maK s i)=true):MaL c n (maCom s i x v):=by
  by_cases hi:i.toNat<s.ks.length
  · have e:maK s i=s.ks[i.toNat]:=by unfold maK;rw [List.getD_eq_getElem?_getD,List.getElem?_eq_getElem hi];rfl
    have hk:=h.kp _ (List.getElem_mem hi)
    rw [←e] at hk
    have hlt:(maK s i).rs.length≠(maK s i).l.length:=by simpa [coHas,headB] using hh
    have h2:=h.setK (i:=i) (k:=coCom (maK s i) v) ⟨hk.1,by show ((maK s i).rs++[v]).length≤_;rw [List.length_append];simp;show _≤(maK s i).l.length;omega⟩
    exact ⟨h2.ok,h2.lk,h2.la,h2.lh,h2.kp,h2.ca,h2.hm,h2.nt,h2.rm,h2.od⟩
  · have e:maK s i=coZ:=by unfold maK;rw [List.getD_eq_getElem?_getD,List.getElem?_eq_none (by omega)];rfl
    rw [e] at hh;cases hh
theorem MaL.does (h:MaL c n s) {i:Int} {x:Op3} (hh:coHas (maK s i)=true):MaL c n (maDoes c s i x):=by
  unfold maDoes
  split
  · exact (h.setA (x3_do (h.cai i))).com hh
  · exact h
theorem MaL.ev (h:MaL c n s) {i w:Int} {x:Op3}:MaL c n (maEv c s i x w):=by
  unfold maEv
  split
  · exact (h.setA (x3_ev (h.cai i))).send _
  · exact h.setA (x3_ev (h.cai i))
theorem MaL.act (h:MaL c n s) {i w:Int}:MaL c n (maActS c s i w):=by
  unfold maActS
  split
  · exact (h.setA (x3_fin (h.cai i))).send _
  · split
    · exact h
    · rename_i hh
      have hh:coHas (maK s i)=true:=by simpa using hh
      split
      · split
        · exact h.com hh
        · exact h
      · split
        · exact h.does hh
        · split
          · exact h
          · split
            · exact (h.setA (x3_ask (h.cai i))).send _
            · split
              · exact h.ev
              · exact h
theorem MaL.taken (h:MaL c n s) (m:Msg):MaL c (n+1) (maTake c s m):=by
  have h1:=(h.mono (Nat.le_succ n)).setA (i:=m.dst) (k:=caTakeK c m.dst (maA s m.dst) m) (x3_take (h.cai m.dst))
  have h2:∀ b:Bool,MaL c (n+1) (maOdd (maAs s m.dst (caTakeK c m.dst (maA s m.dst) m)) b):=fun b=>by
    refine ⟨h1.ok,h1.lk,h1.la,h1.lh,h1.kp,h1.ca,h1.hm,h1.nt,h1.rm,?_⟩
    have:=h.od
    show 0≤(if b then s.odd+1 else s.odd)∧(if b then s.odd+1 else s.odd)≤_
    split<;>omega
  unfold maTake
  split
  · exact (h2 _).send _
  · exact h2 _
theorem MaL.thn (h:MaL c n s) (m:Msg):MaL c n (maThen c s m):=by
  unfold maThen
  split
  · rename_i g;exact h.does g.1
  · exact h
theorem hm_acc_odd {i:Int} {k:HomS} {m:Msg}:(hmAccS c i k m).odd=k.odd:=by unfold hmAccS;split<;>rfl
theorem hm_done_odd {i:Int} {k:HomS} {m:Msg}:(hmDoneS c i k m).odd=k.odd:=by unfold hmDoneS;split<;>rfl
theorem MaL.del (h:MaL c n s) (k i:Int):MaL c (n+1) (maDelS c s k i):=by
  have hm:=h.mono (Nat.le_succ n)
  unfold maDelS
  split
  · exact hm
  · rename_i g
    have hb:natB s.n k i=true:=by cases e:natB s.n k i with|true=>rfl|false=>exact absurd (.inl e) g
    have hmem:=h.nt k _ (nat_mem hb)
    have ht:=h.take k i
    split
    · rename_i hk0
      subst hk0
      have hh:HomeP (natM s.n 0 i).kind:=by
        have:=hmem.2
        unfold netK at this
        unfold HomeP
        split at this
        · exact .inl (by assumption)
        · split at this
          · omega
          · split at this<;>omega
      have hr:=may_home hmem.1 hh
      split
      · have hI:=h.hmi hr.1 hr.2
        have:=h.setH (i:=(natM s.n 0 i).dst) (k:=hmAccS c (natM s.n 0 i).dst (maH s (natM s.n 0 i).dst) (natM s.n 0 i)) hr.1 ⟨hmI_acc hI.1 _,by rw [hm_acc_odd];exact hI.2⟩
        exact (this.take 0 i).mono (Nat.le_succ n)
      · exact hm
    · split
      · rename_i hk1;subst hk1;exact ht.taken _
      · split
        · rename_i h11
          have hr:=may_home hmem.1 (.inr h11)
          have hI:=ht.hmi hr.1 hr.2
          have:=ht.setH (i:=(natM s.n k i).dst) (k:=hmDoneS c (natM s.n k i).dst (maH (maNs s (ntakeN s.n k i)) (natM s.n k i).dst) (natM s.n k i)) hr.1 ⟨hmI_done hI.1 _,by rw [hm_done_odd];exact hI.2⟩
          exact this.odd _
        · exact (ht.taken _).thn _
theorem MaL.work (h:MaL c n s) {i j:Int} (h0:0≤i) (h1:i<c.homes):MaL c (n+1) (maWorkS c s i j):=by
  have hI:=h.hmi h0 h1
  have ho:=hm_odd (c:=c) (s:=maH s i) j (maL c s)
  have:=(h.mono (Nat.le_succ n)).setH (i:=i) (k:=hmWorkS c (maH s i) j (maL c s)) h0 ⟨hmI_work hI.1 _ _,by omega,by omega⟩
  unfold maWorkS
  split
  · exact this.send _
  · exact this
theorem MaL.look (h:MaL c n s) {i d:Int}:MaL c n (maLookS c s i d):=by
  unfold maLookS
  split
  · exact h
  · split
    · have hk:progB c (coTry (maK s i) d).l=true∧(coTry (maK s i) d).rs.length≤(coTry (maK s i) d).l.length∨¬i.toNat<s.ks.length:=by
        by_cases hi:i.toNat<s.ks.length
        · left
          have e:maK s i=s.ks[i.toNat]:=by unfold maK;rw [List.getD_eq_getElem?_getD,List.getElem?_eq_getElem hi];rfl
          have hk:=h.kp _ (List.getElem_mem hi)
          rw [←e] at hk
          exact hk
        · exact .inr hi
      have h2:MaL c n (maKs s i (coTry (maK s i) d)):=by
        rcases hk with hk|hk
        · exact h.setK hk
        · have:maKs s i (coTry (maK s i) d)=s:=by unfold maKs;rw [List.set_eq_of_length_le (by omega)]
          rw [this];exact h
      exact (h2.setA (x3_ask (h.cai i))).send _
    · exact h
theorem MaL.pick (h:MaL c n s) (p:Pk):MaL c (n+1) (maPick c s p):=by
  have hm:=h.mono (Nat.le_succ n)
  unfold maPick
  split
  · exact hm
  · rename_i g
    split
    · exact h.del _ _
    · split
      · rename_i g2
        have:=g2.2
        have hl:=h.lh
        simp only [inN,decide_eq_true_eq] at this
        exact h.work (by omega) (by omega)
      · split
        · exact h.act.mono (Nat.le_succ n)
        · split
          · exact h.look.mono (Nat.le_succ n)
          · exact hm
theorem MaL.new {ps:List (List Op3)} (h:maOk c ps=true):MaL c 0 (maNew c ps):=by
  simp only [maOk,Bool.and_eq_true,decide_eq_true_eq,List.all_eq_true] at h
  obtain ⟨⟨hc,hl⟩,hp⟩:=h
  have hb:=cfg_bnd hc
  refine ⟨hc,by show ((ps.map _).length:Int)=_;rw [List.length_map];exact hl,by show ((ps.map _).length:Int)=_;rw [List.length_map];exact hl,?_,?_,?_,?_,?_,?_,⟨by show (0:Int)≤0;omega,by show (0:Int)≤0;omega⟩⟩
  · show (((List.range c.homes.toNat).map _).length:Int)=_
    rw [List.length_map,List.length_range]
    have:=hb.2.1
    omega
  · intro k hk
    obtain ⟨l,hl,rfl⟩:=List.mem_map.1 hk
    exact ⟨hp l hl,Nat.zero_le _⟩
  · intro k hk
    obtain ⟨l,hl,rfl⟩:=List.mem_map.1 hk
    exact x3_new c 0 _
  · intro i x hx
    change ((List.range c.homes.toNat).map _)[i]? =some x at hx
    rw [List.getElem?_map] at hx
    cases e:(List.range c.homes.toNat)[i]? with
    |none=>rw [e] at hx;cases hx
    |some j=>
     rw [e] at hx
     cases hx
     obtain ⟨hi,e⟩:=List.getElem?_eq_some_iff.1 e
     rw [List.getElem_range] at e
     subst e
     rw [List.length_range] at hi
     exact ⟨hmI_new (by unfold newOk;rw [hc,decide_eq_true (by omega)];rfl),by show (0:Int)≤0;omega,by show (0:Int)≤0;omega⟩
  · intro k m hm
    simp only [maNew,nget] at hm
    split at hm<;>(try split at hm)<;>(try split at hm)<;>cases hm
  · intro k hk
    simp only [checkB,fitsB,Bool.and_eq_true,decide_eq_true_eq] at hc
    rcases hasN_case hk with rfl|rfl|rfl<;>simp only [maNew,nget,nroom]<;>simp<;>omega
def maPicks (c:Cfg) (s:MaS) (l:List Pk):MaS:=l.foldl (maPick c) s
theorem maPicks_succ {l:List Pk} {i:Nat} (hi:i<l.length):maPicks c s (l.take (i+1))=maPick c (maPicks c s (l.take i)) l[i]:=by
  unfold maPicks
  rw [List.take_add_one,List.getElem?_eq_getElem hi,Option.toList_some,List.foldl_append]
  rfl
theorem MaL.picks (h:MaL c n s) (l:List Pk):MaL c (n+l.length) (maPicks c s l):=by
  unfold maPicks
  induction l generalizing n s with
  |nil=>exact h
  |cons p l ih=>
   rw [List.foldl_cons,List.length_cons]
   have:=ih (h.pick p)
   rw [show n+(l.length+1)=n+1+l.length by omega]
   exact this
end
end Go.Sx

/- A pick that does nothing changes nothing; and traces have the programs' order. My own work. -/
namespace Go.Sx
open Go Go.Proofs
section
variable {c:Cfg} {n:Nat} {s:MaS}
theorem home_may {core kind line:Int} {w:Words} (hl:okLine c line=true) (hc:0≤core∧core<c.cores) (hk:(kind=1∨kind=2∨kind=11)∧w= .zero∨kind=3∧ValsP c w):MayP c (homeMsg c core kind line w):=by
  have hl':=hl
  unfold okLine at hl
  simp only [Bool.and_eq_true,decide_eq_true_eq] at hl
  have hh:HomeP kind:=by unfold HomeP;omega
  refine ⟨hl.1,by show 1≤kind∧kind≤11;omega,hl.2,?_,?_⟩
  · unfold FormP
    rw [if_pos (show HomeP (homeMsg c core kind line w).kind from hh)]
    refine ⟨hc,?_,rfl,rfl,by show (0:Int)≤0;omega,by show (0:Int)<_;simp⟩
    show lineH c line=homeN c (homeMsg c core kind line w)
    unfold lineH homeN
    rw [if_pos hl',Int.tmod_eq_emod_of_nonneg (show 0≤(homeMsg c core kind line w).line from hl.2.1)]
    rfl
  · unfold WordsP
    rcases hk with ⟨hk,hw⟩|⟨hk,hw⟩
    · rw [if_neg (by show ¬Wordy kind;unfold Wordy;omega)]
      exact hw
    · rw [if_pos (by show Wordy kind;unfold Wordy;omega)]
      exact hw
theorem way_ok {k:CaS} (h:CaX3 c n k) {sw w:Int} (hs:(atW c k.ways sw w).st≠0):okLine c (atW c k.ways sw w).line=true:=by
  obtain ⟨i,hi,e⟩:=List.getElem_of_mem (atW_mem hs)
  rw [←e] at hs ⊢
  exact (h.1.1 i hi (by unfold thereB;simp [hs])).1
theorem fin_ok {k:CaS} (h:CaX3 c n k) (hb:caFinB k=true):okLine c (caFinL k)=true:=by
  unfold caFinB at hb
  have hb:=of_decide_eq_true hb
  unfold caFinL
  rw [if_pos hb]
  obtain ⟨i,hi,e,_⟩:=indexBy_nat hb
  have e':owingP k.mis=i:=e
  rw [e',List.getD_eq_getElem?_getD,Int.toNat_natCast,List.getElem?_eq_getElem hi]
  exact (h.1.2.2 _ (List.getElem_mem hi)).1
theorem idle_sent {m:Msg} (hm:MayP c m) (hr:0<nleft c s.n (netK m.kind)):maSent c s m=true:=by
  unfold maSent nsendE
  rw [if_pos hm]
  unfold putE
  unfold nleft at hr
  rw [if_neg (by omega)]
  rfl
theorem MaL.caz (h:MaL c n s) (i:Int):CaX3 c n (maA s i):=h.cai i
theorem set_getD {α:Type} {l:List α} {i:Nat} {z:α}:l.set i (l.getD i z)=l:=by
  by_cases hi:i<l.length
  · rw [List.getD_eq_getElem?_getD,List.getElem?_eq_getElem hi]
    exact List.set_getElem_self hi
  · exact List.set_eq_of_length_le (by omega)
theorem as_same (i:Int):maAs s i (maA s i)=s:=by unfold maAs maA;rw [set_getD]
theorem hs_same (i:Int):maHs s i (maH s i)=s:=by unfold maHs maH;rw [set_getD]
theorem left_nn (h:MaL c n s) {k:Int} (hk:hasN k=true):0≤nleft c s.n k:=by unfold nleft;have:=h.rm k hk;omega
theorem ask_line {k:CaS} {line kind:Int} (h:caAskE c k line kind=0):okLine c line=true∧(kind=1∨kind=2):=by
  refine ⟨ask_ok h,?_⟩
  unfold caAskE at h
  split at h
  · cases h
  · rename_i g
    omega
theorem fin_sends (h:MaL c n s) {i:Int} (hi:0≤i∧i<c.cores) (h2:0<nleft c s.n 2) (hb:caFinB (maA s i)=true):maSent c s (caFinM c i (maA s i))=true:=by
  have e:caFinM c i (maA s i)=homeMsg c i 11 (caFinL (maA s i)) .zero:=by unfold caFinM;rw [if_pos hb]
  rw [e]
  exact idle_sent (home_may (fin_ok (h.caz i) hb) hi (.inl ⟨by omega,rfl⟩)) h2
theorem ask_sends (h:MaL c n s) {i line kind:Int} (hi:0≤i∧i<c.cores) (h2:nleft c s.n 0≠0) (he:caAskE c (maA s i) line kind=0):maSent c s (caAskM c i (maA s i) line kind)=true:=by
  have e:caAskM c i (maA s i) line kind=homeMsg c i kind line .zero:=by unfold caAskM;rw [if_pos he]
  obtain ⟨g1,g2⟩:=ask_line he
  rw [e]
  refine idle_sent (home_may g1 hi (.inl ⟨by omega,rfl⟩)) ?_
  have:=left_nn h (k:=0) rfl
  have e2:netK (homeMsg c i kind line .zero).kind=0:=by show netK kind=0;unfold netK;rw [if_pos (by omega)]
  rw [e2];omega
theorem ev_sends (h:MaL c n s) {i sw w:Int} (hi:0≤i∧i<c.cores) (h2:nleft c s.n 0≠0) (hb:caEvB c (maA s i) sw w=true):maSent c s (caEvM c i (maA s i) sw w)=true:=by
  have e:caEvM c i (maA s i) sw w=homeMsg c i 3 (atW c (maA s i).ways sw w).line (atW c (maA s i).ways sw w).words:=by unfold caEvM;rw [if_pos hb]
  rw [e]
  unfold caEvB at hb
  have hb:=of_decide_eq_true hb
  refine idle_sent (home_may (way_ok (h.caz i) (by omega)) hi (.inr ⟨rfl,v_atW (h.caz i).2.2.1 _ _⟩)) ?_
  have:=left_nn h (k:=0) rfl
  have e2:netK (homeMsg c i 3 (atW c (maA s i).ways sw w).line (atW c (maA s i).ways sw w).words).kind=0:=rfl
  rw [e2];omega
theorem act_idle (h:MaL c n s) {i w:Int} (hi:0≤i∧i<c.cores) (hb:maActB c s i w=false):maActS c s i w=s:=by
  unfold maActB at hb
  unfold maActS
  split at hb
  · rename_i g
    rw [fin_sends h hi g.1 g.2] at hb;cases hb
  · rename_i g0
    rw [if_neg g0]
    split at hb
    · rename_i g1;rw [if_pos g1]
    · rename_i g1
      rw [if_neg g1]
      split at hb
      · rename_i g2
        rw [if_pos g2,if_neg (of_decide_eq_false hb)]
      · rename_i g2
        rw [if_neg g2]
        split at hb
        · cases hb
        · rename_i g3
          rw [if_neg g3]
          split at hb
          · rename_i g4;rw [if_pos g4]
          · rename_i g4
            rw [if_neg g4]
            split at hb
            · rename_i g5
              unfold maAskE at g5
              rw [ask_sends h hi g4 g5] at hb;cases hb
            · rename_i g5
              rw [if_neg g5]
              split at hb
              · rename_i g6
                rw [if_pos g6]
                unfold maEv
                cases hev:caEvB c (maA s i) (maEvS c (coOp (maK s i))) (w.tmod c.ways) with
                |true=>
                 rw [hev,ev_sends h hi g4 hev] at hb
                 unfold caEvB at hev
                 rw [decide_eq_true (of_decide_eq_true hev).1] at hb
                 cases hb
                |false=>
                 rw [hev] at hb
                 simp only [Bool.not_false,Bool.true_or,Bool.and_true,decide_eq_false_iff_not] at hb
                 rw [if_neg (by simp)]
                 have:caEvK c (maA s i) (maEvS c (coOp (maK s i))) (w.tmod c.ways)=maA s i:=by unfold caEvK;rw [if_neg hb]
                 rw [this,as_same]
              · rename_i g6;rw [if_neg g6]
theorem work_idle {i j:Int} (hb:maWorkB c s i j=false):maWorkS c s i j=s:=by
  unfold maWorkB hmDid at hb
  unfold maWorkS hmWorkB hmWorkS
  split at hb
  · cases hb
  · rename_i g
    rw [if_neg g,if_neg g,hb]
    simp only [Bool.false_eq_true,if_false]
    exact hs_same i
theorem del_idle {k i:Int} (hb:maDelB c s k i=false):maDelS c s k i=s:=by
  unfold maDelB at hb
  unfold maDelS
  split at hb
  · rename_i g;rw [if_pos g]
  · rename_i g
    rw [if_neg g]
    split at hb
    · rename_i g2
      rw [if_pos g2,if_neg (of_decide_eq_false hb)]
    · cases hb
theorem look_idle (h:MaL c n s) {i d:Int} (hi:0≤i∧i<c.cores) (hb:maLookB c s i d=false):maLookS c s i d=s:=by
  unfold maLookB at hb
  unfold maLookS
  split at hb
  · rename_i g;rw [if_pos g]
  · rename_i g
    rw [if_neg g]
    split at hb
    · rename_i g2
      unfold maAskE at g2
      rw [ask_sends h hi (fun e=>g (.inr e)) g2] at hb;cases hb
    · rename_i g2
      rw [if_neg g2]
theorem pick_idle (h:MaL c n s) {p:Pk} (hb:maPickB c s p=false):maPick c s p=s:=by
  have hlk:=h.lk
  unfold maPickB at hb
  unfold maPick
  split at hb
  · rename_i g;rw [if_pos g]
  · rename_i g
    rw [if_neg g]
    split at hb
    · rename_i g1;rw [if_pos g1];exact del_idle hb
    · rename_i g1
      rw [if_neg g1]
      split at hb
      · rename_i g2;rw [if_pos g2];exact work_idle hb
      · rename_i g2
        rw [if_neg g2]
        split at hb
        · rename_i g3
          rw [if_pos g3]
          have:=g3.2
          simp only [inN,decide_eq_true_eq] at this
          exact act_idle h (by omega) hb
        · rename_i g3
          rw [if_neg g3]
          split at hb
          · rename_i g4
            rw [if_pos g4]
            have:=g4.2
            simp only [inN,decide_eq_true_eq] at this
            exact look_idle h (by omega) hb
          · rename_i g4;rw [if_neg g4]
end
end Go.Sx

/- What queues do, told of lists: of one line. My own work. -/
namespace Go.Sx
open Go Go.Proofs
def oC (line:Int) (q:List QE):List Msg:=(q.filter fun e=>decide (e.m.line=line)&& !e.st).map (·.m)
def oP (line:Int) (q:List QE):List Msg:=(q.filter fun e=>decide (e.m.line=line)).flatMap (·.sends)
theorem oC_app (line:Int) (a b:List QE):oC line (a++b)=oC line a++oC line b:=by simp [oC]
theorem oP_app (line:Int) (a b:List QE):oP line (a++b)=oP line a++oP line b:=by simp [oP]
theorem oC_cons (line:Int) (e:QE) (b:List QE):oC line (e::b)=(if e.m.line=line∧e.st=false then [e.m] else [])++oC line b:=by
  unfold oC
  rw [List.filter_cons]
  by_cases h:e.m.line=line<;>cases hs:e.st<;>simp [h,hs]
theorem oP_cons (line:Int) (e:QE) (b:List QE):oP line (e::b)=(if e.m.line=line then e.sends else [])++oP line b:=by
  unfold oP
  rw [List.filter_cons]
  by_cases h:e.m.line=line<;>simp [h]
theorem oP_none {line:Int} {q:List QE} (h:∀ e∈q,e.m.line=line→e.sends=[]):oP line q=[]:=by
  induction q with
  |nil=>rfl
  |cons e r ih=>
   rw [oP_cons,ih fun x hx=>h x (List.mem_cons_of_mem _ hx)]
   split
   · rename_i he;rw [h e (List.mem_cons_self ..) he];rfl
   · rfl
theorem oC_none {line:Int} {q:List QE} (h:∀ e∈q,e.m.line≠line):oC line q=[]:=by
  induction q with
  |nil=>rfl
  |cons e r ih=>rw [oC_cons,ih fun x hx=>h x (List.mem_cons_of_mem _ hx),if_neg (fun g=>h e (List.mem_cons_self ..) g.1)];rfl
theorem q_cut {q:List QE} {i:Nat} (hi:i<q.length):q=q.take i++q[i]::q.drop (i+1)∧(∀ x,q.set i x=q.take i++x::q.drop (i+1))∧q.eraseIdx i=q.take i++q.drop (i+1):=by
  refine ⟨?_,fun x=>?_,List.eraseIdx_eq_take_drop_succ q i⟩
  · rw [←List.drop_eq_getElem_cons hi,List.take_append_drop]
  · rw [List.set_eq_take_append_cons_drop,if_pos hi]
theorem q_tail {q:List QE} (h:QInv q) {i:Nat} (hi:i<q.length):∀ e∈q.drop (i+1),e.m.line=q[i].m.line→e.st=false∧e.sends=[]:=by
  intro e he hl
  obtain ⟨j,hj,rfl⟩:=List.getElem_of_mem he
  rw [List.getElem_drop] at hl ⊢
  have hj':i+1+j<q.length:=by simp at hj;omega
  have hs:=h.1 i (i+1+j) hi hj' (by omega) hl.symm
  exact ⟨hs,h.2 _ (List.getElem_mem _) hs⟩
theorem q_head {q:List QE} (h:QInv q) {i:Nat} (hi:i<q.length) (hs:q[i].st=true):∀ e∈q.take i,e.m.line≠q[i].m.line:=by
  intro e he hl
  obtain ⟨j,hj,rfl⟩:=List.getElem_of_mem he
  rw [List.getElem_take] at hl
  have hj':j<i:=by simp at hj;omega
  have:=h.1 j i (by omega) hi hj' hl
  rw [hs] at this;cases this
end Go.Sx
