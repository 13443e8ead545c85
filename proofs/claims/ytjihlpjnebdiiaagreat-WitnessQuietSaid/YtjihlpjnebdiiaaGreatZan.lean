/- MaP, WiRead: several of my texts as one. My own work. -/
import Derived.Test.YtjihlpjnebdiiaaGreatZr
import Derived.Test.YtjihlpjnebdiiaaGreatZam
import Derived.Test.YtjihlpjnebdiiaaGreatZaa
set_option linter.unusedVariables false
set_option linter.unusedSectionVars false
set_option linter.unusedSimpArgs false
/- A machine in memory. My own work. -/
namespace Go.Sx
open Go Go.Proofs
abbrev PrQ:=List Op3×(Option Addr×Nat)
abbrev prc (p:PrQ):List Value:=[.slice p.2.1 p.1.length p.2.2]
class RdPr (L:List HP) (ps:List PrQ):Prop where
  pf:∀ p∈ps,RdL L 3 (.slice p.2.1 p.1.length p.2.2) p.1.length (flat oc p.1)
instance RdPr.there {ps:List PrQ} {q:HP} {L:List HP} [k:RdPr L ps]:RdPr (q::L) ps:=⟨fun p hp=>by haveI:=k.pf p hp;exact RdL.there⟩
instance RdPr.left {ps:List PrQ} {L M:List HP} [k:RdPr L ps]:RdPr (app L M) ps:=⟨fun p hp=>by haveI:=k.pf p hp;exact RdL.left⟩
theorem rd_pr {L:List HP} {ps:List PrQ} (k:RdPr L ps) {i:Nat} (hi:i<ps.length):RdL L 3 (.slice ps[i].2.1 ps[i].1.length ps[i].2.2) ps[i].1.length (flat oc ps[i].1):=k.pf _ (List.getElem_mem hi)
structure MaX where
  kb:List Nat
  ab:List Nat
  hb:List Nat
  pk:Option Addr×Nat
  pa:Option Addr×Nat
  ph:Option Addr×Nat
  pt:Option Addr×Nat
  bn:Nat
abbrev pvc (n:Nat):List Value:=[.pointer (some ⟨n,0,none⟩)]
abbrev cmc (x:Com):List Value:=[.int .i64 x.core,.int .i64 x.pos,.int .i64 x.op.kind,.int .i64 x.op.addr,.int .i64 x.op.value,.int .i64 x.res]
abbrev mac (c:Cfg) (odd:Int) (nk na nh nt:Nat) (pk pa ph pt:Option Addr×Nat) (bn:Nat):List Value:=[.int .i64 c.cores,.int .i64 c.homes,.int .i64 c.sets,.int .i64 c.ways,.int .i64 c.words,.int .i64 c.lines,.int .i64 c.pointers,.int .i64 c.mshrs,.int .i64 c.buffer,.int .i64 c.writebacks,.int .i64 c.r0,.int .i64 c.r1,.int .i64 c.r2,
  .slice pk.1 nk pk.2,.slice pa.1 na pa.2,.slice ph.1 nh ph.2,.pointer (some ⟨bn,0,none⟩),.slice pt.1 nt pt.2,.int .i64 odd]
def MaF (c:Cfg) (s:MaS) (x:MaX):Prop:=(s.ks.length=x.kb.length∧s.cs.length=x.ab.length∧s.hs.length=x.hb.length)∧((x.kb.length:Int)=c.cores∧(x.ab.length:Int)=c.cores∧(x.hb.length:Int)=c.homes)∧checkB c=true
abbrev corK (b:Nat) (k:CoS):HP:=CoreB b k.l k.rs k.tr
abbrev corH (x:MaX) (s:MaS) (i:Nat):HP:=corK (x.kb.getD i 0) (s.ks.getD i coZ)
abbrev cacH (c:Cfg) (x:MaX) (s:MaS) (i:Nat):HP:=CaP (x.ab.getD i 0) c (i:Int) (s.cs.getD i caZ)
abbrev homH (c:Cfg) (x:MaX) (s:MaS) (i:Nat):HP:=HomP (x.hb.getD i 0) c (i:Int) (s.hs.getD i hmZ)
def MaQ (b:Nat) (c:Cfg) (s:MaS) (x:MaX):HP:=All [Cells b 81 (mac c s.odd x.kb.length x.ab.length x.hb.length s.tr.length x.pk x.pa x.ph x.pt x.bn),
  Own 82 1 (.slice x.pk.1 x.kb.length x.pk.2) x.kb.length (flat pvc x.kb),Own 46 1 (.slice x.pa.1 x.ab.length x.pa.2) x.ab.length (flat pvc x.ab),Own 52 1 (.slice x.ph.1 x.hb.length x.ph.2) x.hb.length (flat pvc x.hb),
  NetP x.bn c s.n,Own 60 6 (.slice x.pt.1 s.tr.length x.pt.2) s.tr.length (flat cmc s.tr),All ((List.range x.kb.length).map (corH x s)),All ((List.range x.ab.length).map (cacH c x s)),All ((List.range x.hb.length).map (homH c x s)),Fact (MaF c s x)]
def MaP (b:Nat) (c:Cfg) (s:MaS):HP:=Ex fun x:MaX=>[MaQ b c s x]
theorem ma_put {b:Nat} {c:Cfg} {s:MaS} {x:MaX} {L M:List HP} (h:Ent L (MaQ b c s x::M)):Ent L (MaP b c s::M):=Ent.trans h (ex_intro (p:=fun x:MaX=>[MaQ b c s x]) x)
abbrev MaO (b:Nat) (c:Cfg) (s:MaS) (x:MaX) (L:List HP):List HP:=Cells b 81 (mac c s.odd x.kb.length x.ab.length x.hb.length s.tr.length x.pk x.pa x.ph x.pt x.bn)::Own 82 1 (.slice x.pk.1 x.kb.length x.pk.2) x.kb.length (flat pvc x.kb)::Own 46 1 (.slice x.pa.1 x.ab.length x.pa.2) x.ab.length (flat pvc x.ab)
  ::Own 52 1 (.slice x.ph.1 x.hb.length x.ph.2) x.hb.length (flat pvc x.hb)::NetP x.bn c s.n::Own 60 6 (.slice x.pt.1 s.tr.length x.pt.2) s.tr.length (flat cmc s.tr)::All ((List.range x.kb.length).map (corH x s))::All ((List.range x.ab.length).map (cacH c x s))::All ((List.range x.hb.length).map (homH c x s))::L
theorem maq_in {b:Nat} {c:Cfg} {s:MaS} {x:MaX} {L M:List HP} {nk na nh nt:Nat} {vk va vh vt:List Value} {pk pa ph pt:Option Addr} {ck ca ch ct bn:Nat}
    (h:Ent L (Cells b 81 (mac c s.odd nk na nh nt (pk,ck) (pa,ca) (ph,ch) (pt,ct) bn)::Own 82 1 (.slice pk nk ck) nk vk::Own 46 1 (.slice pa na ca) na va::Own 52 1 (.slice ph nh ch) nh vh
     ::NetP bn c s.n::Own 60 6 (.slice pt nt ct) nt vt::All ((List.range x.kb.length).map (corH x s))::All ((List.range x.ab.length).map (cacH c x s))::All ((List.range x.hb.length).map (homH c x s))::M))
    (hf:MaF c s x) (hx:x.pk=(pk,ck)∧x.pa=(pa,ca)∧x.ph=(ph,ch)∧x.pt=(pt,ct)∧x.bn=bn) (h1:nk=x.kb.length) (h2:na=x.ab.length) (h3:nh=x.hb.length) (h4:nt=s.tr.length) (h5:vk=flat pvc x.kb) (h6:va=flat pvc x.ab) (h7:vh=flat pvc x.hb) (h8:vt=flat cmc s.tr):Ent L (MaQ b c s x::M):=by
  obtain ⟨kb,ab,hb,pk',pa',ph',pt',bn'⟩:=x
  obtain ⟨rfl,rfl,rfl,rfl,rfl⟩:=hx
  subst h1 h2 h3 h4 h5 h6 h7 h8
  refine Ent.trans h (Ent.trans ?_ all_close)
  exact Ent.cons (Ent.cons (Ent.cons (Ent.cons (Ent.cons (Ent.cons (Ent.cons (Ent.cons (Ent.cons (star_fact_mk hf)))))))))
theorem maq_out {b:Nat} {c:Cfg} {s:MaS} {x:MaX} {L:List HP} {w:World} (h:Sat (MaQ b c s x::L) w):MaF c s x∧Sat (MaO b c s x L) w:=by
  have hx:=all_open _ h
  exact ⟨fact_of (star_drop (star_drop (star_drop (star_drop (star_drop (star_drop (star_drop (star_drop (star_drop hx))))))))),(Ent.cons (Ent.cons (Ent.cons (Ent.cons (Ent.cons (Ent.cons (Ent.cons (Ent.cons (Ent.cons (Ent.drop Ent.refl)))))))))) _ hx⟩
section
variable {b:Nat} {c:Cfg} {s:MaS} {x:MaX} {P:Program} {N:Nat} {env:Env} {L:List HP} {Q:Exit→Act→World→Prop}
theorem maq_open {co:Code} (h:MaF c s x→WC P N co env (MaO b c s x L) Q):WC P N co env (MaQ b c s x::L) Q:=fun a w ha hw=>h (maq_out hw).1 a w ha (maq_out hw).2
theorem map_open {co:Code} (h:∀ x,WC P N co env (MaQ b c s x::L) Q):WC P N co env (MaP b c s::L) Q:=by
  intro a w ha hw
  obtain ⟨x,hx⟩:=star_ex hw
  exact h x a w ha hx
theorem map_openO {all:Array Oper} {o:List Oper} (h:∀ x,WO P N all o env (MaQ b c s x::L) Q):WO P N all o env (MaP b c s::L) Q:=by
  intro a w ha hw
  obtain ⟨x,hx⟩:=star_ex hw
  exact h x a w ha hx
end
theorem rng_take {f:Nat→HP} {n i:Nat} {L:List HP} (hi:i<n):Ent (All ((List.range n).map f)::L) (f i::All (((List.range n).eraseIdx i).map f)::L):=by
  have h:i<(List.range n).length:=by simpa using hi
  have:=all_take (f:=f) (L:=L) (qs:=List.range n) i h
  rwa [List.getElem_range] at this
theorem rng_put {f g:Nat→HP} {n i:Nat} {L:List HP} (hi:i<n) (hg:∀ j,j<n→j≠i→g j=f j):Ent (g i::All (((List.range n).eraseIdx i).map f)::L) (All ((List.range n).map g)::L):=by
  have h:i<(List.range n).length:=by simpa using hi
  have:=all_back (f:=g) (L:=L) (qs:=List.range n) i h
  rw [List.getElem_range] at this
  have e:((List.range n).eraseIdx i).map f=((List.range n).eraseIdx i).map g:=by
    refine List.map_congr_left fun j hj=>?_
    have h1:=List.mem_range.1 (List.mem_of_mem_eraseIdx hj)
    refine (hg j h1 fun e=>?_).symm
    subst e
    obtain ⟨k,hk,e2⟩:=List.getElem_of_mem hj
    rw [List.getElem_eraseIdx] at e2
    split at e2<;>(rw [List.getElem_range] at e2;omega)
  rw [e]
  exact this
abbrev corP (p:Nat×CoS):HP:=corK p.1 p.2
abbrev cacP (c:Cfg) (p:Nat×(Nat×CaS)):HP:=CaP p.1 c (p.2.1:Int) p.2.2
abbrev homP (c:Cfg) (p:Nat×(Nat×HomS)):HP:=HomP p.1 c (p.2.1:Int) p.2.2
theorem kq_add {kq:List (Nat×CoS)} {b:Nat} {k:CoS} {L M:List HP} (h:Ent L (CoreB b k.l k.rs k.tr::All (kq.map corP)::M)):Ent L (All (kq.map corP++[corP (b,k)])::M):=by
  have:=Ent.trans h (all_add (f:=corP) (b,k));rwa [List.map_append] at this
theorem aq_add {c:Cfg} {aq:List (Nat×(Nat×CaS))} {b i:Nat} {k:CaS} {L M:List HP} (h:Ent L (CaP b c (i:Int) k::All (aq.map (cacP c))::M)):Ent L (All (aq.map (cacP c)++[cacP c (b,(i,k))])::M):=by
  have:=Ent.trans h (all_add (f:=cacP c) (b,(i,k)));rwa [List.map_append] at this
theorem hq_add {c:Cfg} {hq:List (Nat×(Nat×HomS))} {b i:Nat} {k:HomS} {L M:List HP} (h:Ent L (HomP b c (i:Int) k::All (hq.map (homP c))::M)):Ent L (All (hq.map (homP c)++[homP c (b,(i,k))])::M):=by
  have:=Ent.trans h (all_add (f:=homP c) (b,(i,k)));rwa [List.map_append] at this
theorem idx_add {α:Type} {aq:List (Nat×(Nat×α))} {b i:Nat} {k:α} (hl:aq.length=i) (h:∀ j (hj:j<aq.length),aq[j].2.1=j):∀ j (hj:j<(aq++[(b,(i,k))]).length),(aq++[(b,(i,k))])[j].2.1=j:=by
  intro j hj
  by_cases h1:j<aq.length
  · rw [List.getElem_append_left h1];exact h j h1
  · rw [List.getElem_append_right (by omega)]
    have:j=i:=by simp at hj;omega
    simp [this]
theorem cfg_homes {c:Cfg} (h:checkB c=true):1≤c.homes∧c.homes≤16:=by
  obtain ⟨_,⟨k,hk,e⟩,_⟩:=check_facts h
  have:=pow_bd hk
  rw [e];simpa using this
set_option maxRecDepth 100000
set_option maxHeartbeats 4000000
attribute [local irreducible] Go.Exit.then Go.Exit.inBlock Go.Code.wp WC WO WE WQ V LoopQ FnQ Sat Star band bor IntKind.wrap WR Code.rounds WT KO
theorem ma_within {F:List HP} {n m:Int}:FnF Tryz.prog 50 [.int .i64 n,.int .i64 m] [] F (fun r L'=>r= .bool (decide (0≤n∧n<m))∧L'=[]):=by
  refine FnF.mk' Tryz.func50 rfl rfl Tryz.ntmps50 rfl ?_
  by_cases h0:0≤n
  · repeat (first|refine gd ?_|intro _)
    (apply WE_ret rfl rfl zqR;(first|exact zqL|exact ⟨by simp [h0]<;>omega,rfl⟩);exact zqN)
  · have:¬(0≤n∧n<m):=fun h=>h0 h.1
    repeat (first|refine gd ?_|intro _)
    (apply WE_ret rfl rfl zqR;(first|exact zqL|exact ⟨by simp [this]<;>omega,rfl⟩);exact zqN)
theorem dr_MaP_17M {Q P:Prop} (k:Q) (h:Hid Q→P:=by
  intro k
  first
  |(refine is_draw ?_;apply WC_mix (id:=12) .true _ (pl:= .p 0 <| .p 1 <| .p 2 <| .p 3 <| .p 4 <| .p 6 <| .p 9 <| .p 10 <| .p 11 <| .p 13 <| .r 5 <| .e true [(7,.e true [(8,.e false [(12,.e false [(14,.e false [(15,.p 16 <| .p 17 <| .e false [(18,.p 19 <| .p 20 <| .e false [(21,.done)])])])]),(14,.e false [(12,.e false [(15,.p 16 <| .p 17 <| .e false [(18,.p 19 <| .p 20 <| .e false [(21,.done)])])])])]),(12,.e true [(8,.e false [(14,.e false [(15,.p 16 <| .p 17 <| .e false [(18,.p 19 <| .p 20 <| .e false [(21,.done)])])])]),(14,.e true [(8,.e false [(15,.p 16 <| .p 17 <| .e false [(18,.p 19 <| .p 20 <| .e false [(21,.done)])])])])]),(14,.e true [(8,.e false [(12,.e false [(15,.p 16 <| .p 17 <| .e false [(18,.p 19 <| .p 20 <| .e false [(21,.done)])])])]),(12,.e true [(8,.e false [(15,.p 16 <| .p 17 <| .e false [(18,.p 19 <| .p 20 <| .e false [(21,.done)])])])])])]),(12,.e true [(7,.e true [(8,.e false [(14,.e false [(15,.p 16 <| .p 17 <| .e false [(18,.p 19 <| .p 20 <| .e false [(21,.done)])])])]),(14,.e true [(8,.e false [(15,.p 16 <| .p 17 <| .e false [(18,.p 19 <| .p 20 <| .e false [(21,.done)])])])])]),(14,.e true [(7,.e true [(8,.e false [(15,.p 16 <| .p 17 <| .e false [(18,.p 19 <| .p 20 <| .e false [(21,.done)])])])])])]),(14,.e true [(7,.e true [(8,.e false [(12,.e false [(15,.p 16 <| .p 17 <| .e false [(18,.p 19 <| .p 20 <| .e false [(21,.done)])])])]),(12,.e true [(8,.e false [(15,.p 16 <| .p 17 <| .e false [(18,.p 19 <| .p 20 <| .e false [(21,.done)])])])])]),(12,.e true [(7,.e true [(8,.e false [(15,.p 16 <| .p 17 <| .e false [(18,.p 19 <| .p 20 <| .e false [(21,.done)])])])])])])]);exact mixed;kernel_rfl;kernel_rfl;exact Ent.refl;exact k.out)):P:=h ⟨k⟩
theorem ma_New {F:List HP} {c:Cfg} {ps:List PrQ} {v:Value} (hc:c.wf) (k:RdL F 1 v ps.length (flat prc ps)) (kp:RdPr F ps) (h:maOk c (ps.map (·.1))=true) :
    FnF Tryz.prog 17 [c.val,v] [] F (fun r L'=>∃ b,r= .tuple [.pointer (some ⟨b,0,none⟩),.int .i64 0].toArray∧L'=[MaP b c (maNew c (ps.map (·.1)))]):=by
  simp only [maOk,Bool.and_eq_true,decide_eq_true_eq,List.all_eq_true,List.length_map] at h
  obtain ⟨⟨hck,hlen⟩,hall⟩:=h
  have hcf:=check_facts hck
  have hN:=fun F=>net_New (F:=F) hc hck
  refine FnF.mk' Tryz.func17 rfl rfl Tryz.ntmps17 rfl ?_
  repeat (first|refine go ?_|intro _|refine dr_MaP_17M ?_|refine drq ?_|refine cal @hN ?_)
  rename_i b2 bn bm
  apply WC_loopE (E0:=[(2,_),(8,_),(36,_),(37,_)]) (fun E0 (q:Nat×List (Nat×CoS)×List (Nat×(Nat×CaS))×(Option Addr×Nat)×(Option Addr×Nat))=>(38,.int .i64 q.1)::E0)
    (fun q=>Cells bm 81 (mac c 0 q.2.1.length q.2.2.1.length 0 0 q.2.2.2.1 q.2.2.2.2 (none,0) (none,0) bn)::Own 82 1 (.slice q.2.2.2.1.1 q.2.1.length q.2.2.2.1.2) q.2.1.length (flat pvc (q.2.1.map (·.1)))::Own 46 1 (.slice q.2.2.2.2.1 q.2.2.1.length q.2.2.2.2.2) q.2.2.1.length (flat pvc (q.2.2.1.map (·.1)))
      ::NetP bn c .no::All (q.2.1.map corP)::All (q.2.2.1.map (cacP c))::Cells b2 24 c.cells::F)
    (fun q=>q.1≤ps.length∧q.2.1.length=q.1∧q.2.2.1.length=q.1∧q.2.1.map (·.2)=(ps.take q.1).map (fun p=>⟨p.1,[],[]⟩)∧q.2.2.1.map (·.2.2)=List.replicate q.1 (caNew c)∧∀ j (hj:j<q.2.2.1.length),q.2.2.1[j].2.1=j) (fun q=>ps.length-q.1) (0,[],[],(none,0),(none,0))
  · exact zqU
  · exact ⟨Nat.zero_le _,rfl,rfl,rfl,rfl,fun j hj=>absurd hj (Nat.not_lt_zero _)⟩
  · dsimp only [List.length_nil]
    refine Ent.trans ?_ (Ent.cons (own_empty (own_empty (Ent.cons (Ent.trans all_nil (Ent.cons all_nil))))))
    exact entu0
  · rintro ⟨i,kq,aq,⟨pk,ck⟩,⟨pa,ca⟩⟩ ⟨hi,hkl,hal,hk1,ha1,ha2⟩
    dsimp only at hi hkl hal hk1 ha1 ha2 ⊢
    by_cases hlt:i<ps.length
    · have hp:=hall _ (List.mem_map_of_mem (List.getElem_mem hlt))
      have hpl:=prog_len hp
      haveI krF:=rd_pr kp hlt
      have hC:=fun F' (k':RdL F' 3 (.slice ps[i].2.1 ps[i].1.length ps[i].2.2) ps[i].1.length (flat oc ps[i].1))=>core_New (F:=F') (c:=c) hc (l:=ps[i].1) k' (by omega) hp
      have hA:=fun F'=>ca_New (F:=F') (c:=c) (core:=(i:Int)) hc ⟨hck,by omega,by omega⟩
      have key:∀ bk ba:Nat,i+1≤ps.length∧(kq++[(bk,(⟨ps[i].1,[],[]⟩:CoS))]).length=i+1∧(aq++[(ba,(i,caNew c))]).length=i+1∧(kq++[(bk,(⟨ps[i].1,[],[]⟩:CoS))]).map (·.2)=(ps.take (i+1)).map (fun p=>⟨p.1,[],[]⟩)
       ∧(aq++[(ba,(i,caNew c))]).map (·.2.2)=List.replicate (i+1) (caNew c)∧∀ j (hj:j<(aq++[(ba,(i,caNew c))]).length),(aq++[(ba,(i,caNew c))])[j].2.1=j:=fun bk ba=>by
        refine ⟨by omega,by simp [hkl],by simp [hal],?_,?_,idx_add hal ha2⟩
        · rw [List.take_add_one,List.getElem?_eq_getElem hlt,Option.toList_some,List.map_append,List.map_append,hk1];rfl
        · rw [List.map_append,ha1,List.replicate_succ'];rfl
      repeat' (first|refine go ?_|intro _|refine dr_MaP_17M ?_|refine drq ?_|refine cal @hC ?_|refine cal @hA ?_|refine spl ?_ ?_|fail)
      all_goals apply WE_loop (i+1,kq++[(_,(⟨ps[i].1,[],[]⟩:CoS))],aq++[(_,(i,caNew c))],(_,_),(_,_))
      all_goals first
      |(dsimp only;omega)
      |(exact zqU;done)
      |(dsimp only;simp only [List.length_append,List.length_singleton,List.map_append,List.map_cons,List.map_nil,flat_append,flat_one];((repeat (first|(with_reducible exact Ent.refl)|exact Ent.nil|(apply ent_pickE;exact zqP)|(apply kq_add)|(apply aq_add)|apply Ent.drop));all_goals exact zqS))
      |skip
      all_goals exact key _ _
    · have hil:i=ps.length:=by omega
      subst hil
      rw [List.take_length] at hk1
      repeat (first|refine go ?_|intro _|refine dr_MaP_17M ?_|refine drq ?_)
      have hh:=cfg_homes hck
      apply WC_loopE (E0:=[(2,_),(8,_),(79,_)]) (fun E0 (q:Nat×List (Nat×(Nat×HomS))×(Option Addr×Nat))=>(80,.int .i64 q.1)::E0)
        (fun q=>Cells bm 81 (mac c 0 kq.length aq.length q.2.1.length 0 (pk,ck) (pa,ca) q.2.2 (none,0) bn)::Own 82 1 (.slice pk kq.length ck) kq.length (flat pvc (kq.map (·.1)))::Own 46 1 (.slice pa aq.length ca) aq.length (flat pvc (aq.map (·.1)))
          ::Own 52 1 (.slice q.2.2.1 q.2.1.length q.2.2.2) q.2.1.length (flat pvc (q.2.1.map (·.1)))::NetP bn c .no::All (kq.map corP)::All (aq.map (cacP c))::All (q.2.1.map (homP c))::Cells b2 24 c.cells::F)
        (fun q=>(q.1:Int)≤c.homes∧q.2.1.length=q.1∧q.2.1.map (·.2.2)=(List.range q.1).map (fun (j:Nat)=>hmNew c (j:Int))∧∀ j (hj:j<q.2.1.length),q.2.1[j].2.1=j) (fun q=>c.homes.toNat-q.1) (0,[],(none,0))
      · exact zqU
      · exact ⟨by omega,rfl,rfl,fun j hj=>absurd hj (Nat.not_lt_zero _)⟩
      · dsimp only [List.length_nil]
        refine Ent.trans ?_ (Ent.cons (Ent.cons (Ent.cons (own_empty (Ent.cons (Ent.cons (Ent.cons all_nil)))))))
        exact entu0
      · rintro ⟨n,hq,⟨ph,ch⟩⟩ ⟨hn,hhl,hh1,hh2⟩
        dsimp only at hn hhl hh1 hh2 ⊢
        by_cases hlt:(n:Int)<c.homes
        · have hH:=fun F'=>hm_New (F:=F') (c:=c) (num:=(n:Int)) hc (by unfold newOk;rw [hck,decide_eq_true ⟨by omega,hlt⟩];rfl)
          have key:∀ bh:Nat,((n+1:Nat):Int)≤c.homes∧(hq++[(bh,(n,hmNew c (n:Int)))]).length=n+1∧(hq++[(bh,(n,hmNew c (n:Int)))]).map (·.2.2)=(List.range (n+1)).map (fun (j:Nat)=>hmNew c (j:Int))
           ∧∀ j (hj:j<(hq++[(bh,(n,hmNew c (n:Int)))]).length),(hq++[(bh,(n,hmNew c (n:Int)))])[j].2.1=j:=fun bh=>by
            refine ⟨by omega,by simp [hhl],?_,idx_add hhl hh2⟩
            rw [List.map_append,hh1,List.range_succ,List.map_append];rfl
          repeat' (first|refine go ?_|intro _|refine dr_MaP_17M ?_|refine drq ?_|refine cal @hH ?_|refine spl ?_ ?_|fail)
          all_goals apply WE_loop (n+1,hq++[(_,(n,hmNew c (n:Int)))],(_,_))
          all_goals first
          |(dsimp only;omega)
          |(exact zqU;done)
          |(dsimp only;simp only [List.length_append,List.length_singleton,List.map_append,List.map_cons,List.map_nil,flat_append,flat_one];exact enx @hq_add)
          |skip
          all_goals exact key _
        · have hnn:n=c.homes.toNat:=by omega
          repeat (first|refine go ?_|intro _|refine dr_MaP_17M ?_|refine drq ?_)
          (apply WE_ret rfl rfl zqR)
          · exact ⟨_,rfl,rfl⟩
          · have hkx:kq.map corP=(List.range (kq.map (·.1)).length).map (corH ⟨kq.map (·.1),aq.map (·.1),hq.map (·.1),(pk,ck),(pa,ca),(ph,ch),(none,0),bn⟩ (maNew c (ps.map (·.1)))):=by
              apply List.ext_getElem (by simp)
              intro j h1 h2
              have e1:(maNew c (ps.map (·.1))).ks=kq.map (·.2):=by rw [hk1];unfold maNew;rw [List.map_map];rfl
              have hj:j<kq.length:=by simpa using h1
              simp [corH,e1,hj]
            have hax:aq.map (cacP c)=(List.range (aq.map (·.1)).length).map (cacH c ⟨kq.map (·.1),aq.map (·.1),hq.map (·.1),(pk,ck),(pa,ca),(ph,ch),(none,0),bn⟩ (maNew c (ps.map (·.1)))):=by
              apply List.ext_getElem (by simp)
              intro j h1 h2
              have e1:(maNew c (ps.map (·.1))).cs=aq.map (·.2.2):=by
                rw [ha1]
                show (ps.map (·.1)).map (fun _=>caNew c)=_
                rw [List.map_const',List.length_map]
              have hj:j<aq.length:=by simpa using h1
              simp [cacH,cacP,e1,hj,ha2 j hj]
            have hhx:hq.map (homP c)=(List.range (hq.map (·.1)).length).map (homH c ⟨kq.map (·.1),aq.map (·.1),hq.map (·.1),(pk,ck),(pa,ca),(ph,ch),(none,0),bn⟩ (maNew c (ps.map (·.1)))):=by
              apply List.ext_getElem (by simp)
              intro j h1 h2
              have e1:(maNew c (ps.map (·.1))).hs=hq.map (·.2.2):=by rw [hh1,hnn];rfl
              have hj:j<hq.length:=by simpa using h1
              simp [homH,homP,e1,hj,hh2 j hj]
            refine ma_put (x:=⟨kq.map (·.1),aq.map (·.1),hq.map (·.1),(pk,ck),(pa,ca),(ph,ch),(none,0),bn⟩) (maq_in (nk:=kq.length) (na:=aq.length) (nh:=hq.length) (nt:=0) (vk:=flat pvc (kq.map (·.1))) (va:=flat pvc (aq.map (·.1))) (vh:=flat pvc (hq.map (·.1))) (vt:=[]) ?_ ⟨⟨?_,?_,?_⟩,⟨?_,?_,?_⟩,hck⟩ ⟨rfl,rfl,rfl,rfl,rfl⟩ (by simp) (by simp) (by simp) rfl rfl rfl rfl rfl)
            · rw [←hkx,←hax,←hhx]
              dsimp only [maNew]
              refine Ent.trans ?_ (Ent.cons (Ent.cons (Ent.cons (Ent.cons (Ent.cons (own_empty Ent.refl))))))
              exact entu0
            · unfold maNew;simp [hkl]
            · unfold maNew;simp [hal]
            · unfold maNew;simp [hhl,hnn]
            · simp only [List.length_map];omega
            · simp only [List.length_map];omega
            · simp only [List.length_map];omega
theorem ma_New_no {F:List HP} {c:Cfg} {ps:List PrQ} {v:Value} (hc:c.wf) (k:RdL F 1 v ps.length (flat prc ps)) (kp:RdPr F ps) (hn:∀ p∈ps,p.1.length≤1099511627776) (h:maOk c (ps.map (·.1))=false) :
    FnF Tryz.prog 17 [c.val,v] [] F (fun r L'=>r= .tuple [.pointer none,.int .i64 1].toArray∧L'=[]):=by
  cases hck:checkB c with
  |false=>
   have hN:=fun F=>net_New_no (F:=F) hc hck
   refine FnF.mk' Tryz.func17 rfl rfl Tryz.ntmps17 rfl ?_
   repeat (first|refine go ?_|intro _|refine dr_MaP_17M ?_|refine drq ?_|refine cal @hN ?_)
   exact fin0
  |true=>
   have hN:=fun F=>net_New (F:=F) hc hck
   by_cases hlen:(ps.length:Int)=c.cores
   · have hcf:=check_facts hck
     obtain ⟨n,hnl,hnp⟩:∃ n,∃ h:n<ps.length,progB c ps[n].1=false:=by
       have h1:¬∀ x∈ps.map (·.1),progB c x=true:=fun h2=>by
         rw [maOk,hck,List.length_map,decide_eq_true hlen,List.all_eq_true.2 h2] at h;cases h
       refine Classical.byContradiction fun h3=>h1 fun x hx=>?_
       obtain ⟨p,hp,rfl⟩:=List.mem_map.1 hx
       obtain ⟨i,hi,rfl⟩:=List.getElem_of_mem hp
       cases e:progB c ps[i].1 with
       |true=>rfl
       |false=>exact absurd ⟨i,hi,e⟩ h3
     refine FnF.mk' Tryz.func17 rfl rfl Tryz.ntmps17 rfl ?_
     repeat (first|refine go ?_|intro _|refine dr_MaP_17M ?_|refine drq ?_|refine cal @hN ?_)
     rename_i b2 bn bm
     apply WC_loopE (E0:=[(2,_),(8,_),(36,_),(37,_)]) (fun E0 (q:Nat×List (Nat×CoS)×List (Nat×(Nat×CaS))×(Option Addr×Nat)×(Option Addr×Nat))=>(38,.int .i64 q.1)::E0)
       (fun q=>Cells bm 81 (mac c 0 q.2.1.length q.2.2.1.length 0 0 q.2.2.2.1 q.2.2.2.2 (none,0) (none,0) bn)::Own 82 1 (.slice q.2.2.2.1.1 q.2.1.length q.2.2.2.1.2) q.2.1.length (flat pvc (q.2.1.map (·.1)))::Own 46 1 (.slice q.2.2.2.2.1 q.2.2.1.length q.2.2.2.2.2) q.2.2.1.length (flat pvc (q.2.2.1.map (·.1)))
         ::Cells b2 24 c.cells::F)
       (fun q=>q.1≤n∧q.2.1.length=q.1∧q.2.2.1.length=q.1) (fun q=>ps.length-q.1) (0,[],[],(none,0),(none,0))
     · exact zqU
     · exact ⟨Nat.zero_le _,rfl,rfl⟩
     · dsimp only [List.length_nil]
       refine Ent.trans ?_ (Ent.cons (own_empty (own_empty Ent.refl)))
       exact entu0
     · rintro ⟨i,kq,aq,⟨pk,ck⟩,⟨pa,ca⟩⟩ ⟨hi,hkl,hal⟩
       dsimp only at hi hkl hal ⊢
       have hlt:i<ps.length:=by omega
       have hpl:=hn _ (List.getElem_mem hlt)
       haveI krF:=rd_pr kp hlt
       cases hp:progB c ps[i].1 with
       |true=>
        have hne:i≠n:=fun e=>by subst e;rw [hp] at hnp;cases hnp
        have hC:=fun F' (k':RdL F' 3 (.slice ps[i].2.1 ps[i].1.length ps[i].2.2) ps[i].1.length (flat oc ps[i].1))=>core_New (F:=F') (c:=c) hc (l:=ps[i].1) k' (by omega) hp
        have hA:=fun F'=>ca_New (F:=F') (c:=c) (core:=(i:Int)) hc ⟨hck,by omega,by omega⟩
        repeat' (first|refine go ?_|intro _|refine dr_MaP_17M ?_|refine drq ?_|refine cal @hC ?_|refine cal @hA ?_|refine spl ?_ ?_|fail)
        all_goals apply WE_loop (i+1,kq++[(_,(⟨ps[i].1,[],[]⟩:CoS))],aq++[(_,(i,caNew c))],(_,_),(_,_))
        all_goals first
        |(dsimp only;omega)
        |(exact zqU;done)
        |(refine Ent.trans Ent.refl ?_;dsimp only;simp only [List.length_append,List.length_singleton,List.map_append,List.map_cons,List.map_nil,flat_append,flat_one];exact entu0)
        |skip
        all_goals exact ⟨by dsimp only;omega,by simp [hkl],by simp [hal]⟩
       |false=>
        have hC:=fun F' (k':RdL F' 3 (.slice ps[i].2.1 ps[i].1.length ps[i].2.2) ps[i].1.length (flat oc ps[i].1))=>core_New_no (F:=F') (c:=c) hc (l:=ps[i].1) k' (by omega) hp
        repeat (first|refine go ?_|intro _|refine dr_MaP_17M ?_|refine drq ?_|refine cal @hC ?_)
        exact fin0
   · refine FnF.mk' Tryz.func17 rfl rfl Tryz.ntmps17 rfl ?_
     repeat (first|refine go ?_|intro _|refine dr_MaP_17M ?_|refine drq ?_|refine cal @hN ?_)
     exact fin0
end Go.Sx

/- Programs and commits, read. My own work. -/
namespace Go.Sx
open Go Go.Proofs Go.ChangeShapes Go.WideShapes
theorem slice_shape {W:World} {sz:Nat} {v:Value} {n:Nat} {xs:List Value} (k:ROld W sz v n xs):∃ a c,v= .slice a n c:=by
  rcases k.pf with ⟨q,c,h1,h2⟩|⟨b,o,c,h1,_⟩
  · exact ⟨q,c,by rw [h1,h2]⟩
  · exact ⟨_,c,h1⟩
def PrQ.ok (W:World) (p:PrQ):Prop:=ROld W 3 (.slice p.2.1 p.1.length p.2.2) p.1.length (flat oc p.1)∧(∀ x∈p.1,x.wf)∧p.1.length≤1000000000000000
theorem rd_PrQ {H:Type} (enc:TypeId×Value→H) (W:World) {cs:List Value} (h:LeafsOkS enc Tryz.prog W [.other 61] cs):∃ x:PrQ,x.ok W∧cs=prc x∧(prc x).all one=true:=by
  obtain ⟨c,cs,rfl,hc,h⟩:=leafsS_cons enc _ W h
  obtain rfl:=leafsS_nil enc _ W h
  obtain ⟨a,m,e,x,p,rfl,ht,hsm⟩:=leafS_slice enc _ W (e:=58) Tryz.underlying61 hc
  obtain ⟨xs,hx,kx,lx,bx⟩:=read_listS enc Tryz.prog W (d:=6) (encA:=oc) (wf:=Op3.wf) (ks:=List.replicate 3 (.int .i64)) Tryz.underlying61 (by kernel_rfl) (by kernel_rfl) (by decide) (fun cs h=>rd_Op3 enc _ W (leafsS_plain enc _ W h)) ⟨a,m,e,rfl⟩ ht hsm
  have hb:Tryz.prog.bytesOf 58=24:=by kernel_rfl
  have hr:reachBytes=140737488351232:=rfl
  rw [hb,hr] at bx
  obtain ⟨a',c',hv⟩:=slice_shape kx
  rw [hv] at kx ⊢
  exact ⟨(xs,a',c'),⟨kx,hx,by dsimp only;omega⟩,rfl,rfl⟩
end Go.Sx
