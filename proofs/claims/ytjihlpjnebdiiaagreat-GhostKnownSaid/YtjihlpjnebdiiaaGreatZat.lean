/- MaP: several of my texts as one. My own work. -/
import Derived.Test.YtjihlpjnebdiiaaGreatZan
set_option linter.unusedVariables false
set_option linter.unusedSectionVars false
set_option linter.unusedSimpArgs false
set_option maxRecDepth 100000
set_option maxHeartbeats 4000000
namespace Go.Sx
open Go Go.Proofs
section
abbrev PrQ:=List Op3×(Option Addr×Nat)
abbrev c8m (p:PrQ):List Value:=[.slice p.2.1 p.1.length p.2.2]
class RdPr (L:List HP) (ps:List PrQ):Prop where
  pf:∀ p∈ps,RdL L 3 (.slice p.2.1 p.1.length p.2.2) p.1.length (aC oc p.1)
instance RdPr.there {ps:List PrQ} {q:HP} {L:List HP} [k:RdPr L ps]:RdPr (q::L) ps:=⟨fun p hp=>by haveI:=k.pf p hp;exact RdL.there⟩
instance RdPr.left {ps:List PrQ} {L M:List HP} [k:RdPr L ps]:RdPr (oI L M) ps:=⟨fun p hp=>by haveI:=k.pf p hp;exact RdL.left⟩
theorem d6j {L:List HP} {ps:List PrQ} (k:RdPr L ps) {i:Nat} (hi:i<ps.length):RdL L 3 (.slice ps[i].2.1 ps[i].1.length ps[i].2.2) ps[i].1.length (aC oc ps[i].1):=k.pf _ (List.getElem_mem hi)
structure MaX where
  kb:List Nat
  ab:List Nat
  hb:List Nat
  pk:Option Addr×Nat
  pa:Option Addr×Nat
  ph:Option Addr×Nat
  pt:Option Addr×Nat
  bn:Nat
abbrev a7d (n:Nat):List Value:=[.pointer (some ⟨n,0,none⟩)]
abbrev e7d (x:Com):List Value:=[.int .i64 x.core,.int .i64 x.pos,.int .i64 x.op.kind,.int .i64 x.op.addr,.int .i64 x.op.value,.int .i64 x.res]
abbrev e7m (c:Cfg) (odd:Int) (nk na nh nt:Nat) (pk pa ph pt:Option Addr×Nat) (bn:Nat):List Value:=[.int .i64 c.cores,.int .i64 c.homes,.int .i64 c.sets,.int .i64 c.ways,.int .i64 c.words,.int .i64 c.lines,.int .i64 c.pointers,.int .i64 c.mshrs,.int .i64 c.buffer,.int .i64 c.writebacks,.int .i64 c.r0,.int .i64 c.r1,.int .i64 c.r2,
  .slice pk.1 nk pk.2,.slice pa.1 na pa.2,.slice ph.1 nh ph.2,.pointer (some ⟨bn,0,none⟩),.slice pt.1 nt pt.2,.int .i64 odd]
def yS (c:Cfg) (s:MaS) (x:MaX):Prop:=(s.ks.length=x.kb.length∧s.cs.length=x.ab.length∧s.hs.length=x.hb.length)∧((x.kb.length:Int)=c.cores∧(x.ab.length:Int)=c.cores∧(x.hb.length:Int)=c.homes)∧aF c=true
abbrev a8c (b:Nat) (k:CoS):HP:=jE b k.l k.rs k.tr
abbrev yC (x:MaX) (s:MaS) (i:Nat):HP:=a8c (x.kb.getD i 0) (s.ks.getD i coZ)
abbrev s5 (c:Cfg) (x:MaX) (s:MaS) (i:Nat):HP:=a8y (x.ab.getD i 0) c (i:Int) (s.cs.getD i caZ)
abbrev s6 (c:Cfg) (x:MaX) (s:MaS) (i:Nat):HP:=iV (x.hb.getD i 0) c (i:Int) (s.hs.getD i zA)
def i7 (b:Nat) (c:Cfg) (s:MaS) (x:MaX):HP:=All [Cells b 81 (e7m c s.odd x.kb.length x.ab.length x.hb.length s.tr.length x.pk x.pa x.ph x.pt x.bn),
  Own 82 1 (.slice x.pk.1 x.kb.length x.pk.2) x.kb.length (aC a7d x.kb),Own 46 1 (.slice x.pa.1 x.ab.length x.pa.2) x.ab.length (aC a7d x.ab),Own 52 1 (.slice x.ph.1 x.hb.length x.ph.2) x.hb.length (aC a7d x.hb),
  oB x.bn c s.n,Own 60 6 (.slice x.pt.1 s.tr.length x.pt.2) s.tr.length (aC e7d s.tr),All ((List.range x.kb.length).map (yC x s)),All ((List.range x.ab.length).map (s5 c x s)),All ((List.range x.hb.length).map (s6 c x s)),Fact (yS c s x)]
def e6y (b:Nat) (c:Cfg) (s:MaS):HP:=Ex fun x:MaX=>[i7 b c s x]
theorem e4c {b:Nat} {c:Cfg} {s:MaS} {x:MaX} {L M:List HP} (h:Ent L (i7 b c s x::M)):Ent L (e6y b c s::M):=Ent.trans h (i0 (p:=fun x:MaX=>[i7 b c s x]) x)
abbrev e9t (b:Nat) (c:Cfg) (s:MaS) (x:MaX) (L:List HP):List HP:=Cells b 81 (e7m c s.odd x.kb.length x.ab.length x.hb.length s.tr.length x.pk x.pa x.ph x.pt x.bn)::Own 82 1 (.slice x.pk.1 x.kb.length x.pk.2) x.kb.length (aC a7d x.kb)::Own 46 1 (.slice x.pa.1 x.ab.length x.pa.2) x.ab.length (aC a7d x.ab)
  ::Own 52 1 (.slice x.ph.1 x.hb.length x.ph.2) x.hb.length (aC a7d x.hb)::oB x.bn c s.n::Own 60 6 (.slice x.pt.1 s.tr.length x.pt.2) s.tr.length (aC e7d s.tr)::All ((List.range x.kb.length).map (yC x s))::All ((List.range x.ab.length).map (s5 c x s))::All ((List.range x.hb.length).map (s6 c x s))::L
theorem d4l {b:Nat} {c:Cfg} {s:MaS} {x:MaX} {L M:List HP} {nk na nh nt:Nat} {vk va vh vt:List Value} {pk pa ph pt:Option Addr} {ck ca ch ct bn:Nat}
    (h:Ent L (Cells b 81 (e7m c s.odd nk na nh nt (pk,ck) (pa,ca) (ph,ch) (pt,ct) bn)::Own 82 1 (.slice pk nk ck) nk vk::Own 46 1 (.slice pa na ca) na va::Own 52 1 (.slice ph nh ch) nh vh
     ::oB bn c s.n::Own 60 6 (.slice pt nt ct) nt vt::All ((List.range x.kb.length).map (yC x s))::All ((List.range x.ab.length).map (s5 c x s))::All ((List.range x.hb.length).map (s6 c x s))::M))
    (hf:yS c s x) (hx:x.pk=(pk,ck)∧x.pa=(pa,ca)∧x.ph=(ph,ch)∧x.pt=(pt,ct)∧x.bn=bn) (h1:nk=x.kb.length) (h2:na=x.ab.length) (h3:nh=x.hb.length) (h4:nt=s.tr.length) (h5:vk=aC a7d x.kb) (h6:va=aC a7d x.ab) (h7:vh=aC a7d x.hb) (h8:vt=aC e7d s.tr):Ent L (i7 b c s x::M):=by
  obtain ⟨kb,ab,hb,pk',pa',ph',pt',bn'⟩:=x
  obtain ⟨rfl,rfl,rfl,rfl,rfl⟩:=hx
  subst h1 h2 h3 h4 h5 h6 h7 h8
  refine Ent.trans h (Ent.trans ?_ gF)
  exact Ent.cons (Ent.cons (Ent.cons (Ent.cons (Ent.cons (Ent.cons (Ent.cons (Ent.cons (Ent.cons (cY hf)))))))))
theorem a4v {b:Nat} {c:Cfg} {s:MaS} {x:MaX} {L:List HP} {w:World} (h:d3 (i7 b c s x::L) w):yS c s x∧d3 (e9t b c s x L) w:=by
  have hx:=i4 _ h
  exact ⟨iW (aR (aR (aR (aR (aR (aR (aR (aR (aR hx))))))))),(Ent.cons (Ent.cons (Ent.cons (Ent.cons (Ent.cons (Ent.cons (Ent.cons (Ent.cons (Ent.cons (Ent.drop Ent.refl)))))))))) _ hx⟩
section
variable {b:Nat} {c:Cfg} {s:MaS} {x:MaX} {P:Program} {N:Nat} {env:Env} {L:List HP} {Q:Exit→Act→World→Prop}
theorem j0 {co:Code} (h:yS c s x→WC P N co env (e9t b c s x L) Q):WC P N co env (i7 b c s x::L) Q:=fun a w ha hw=>h (a4v hw).1 a w ha (a4v hw).2
theorem d0k {co:Code} (h:∀ x,WC P N co env (i7 b c s x::L) Q):WC P N co env (e6y b c s::L) Q:=by
  intro a w ha hw
  obtain ⟨x,hx⟩:=gW hw
  exact h x a w ha hx
theorem a9w {all:Array Oper} {o:List Oper} (h:∀ x,WO P N all o env (i7 b c s x::L) Q):WO P N all o env (e6y b c s::L) Q:=by
  intro a w ha hw
  obtain ⟨x,hx⟩:=gW hw
  exact h x a w ha hx
end
theorem vK {f:Nat→HP} {n i:Nat} {L:List HP} (hi:i<n):Ent (All ((List.range n).map f)::L) (f i::All (((List.range n).eraseIdx i).map f)::L):=by
  have h:i<(List.range n).length:=by simpa using hi
  have:=vT (f:=f) (L:=L) (qs:=List.range n) i h
  rwa [List.getElem_range] at this
theorem a0b {f g:Nat→HP} {n i:Nat} {L:List HP} (hi:i<n) (hg:∀ j,j<n→j≠i→g j=f j):Ent (g i::All (((List.range n).eraseIdx i).map f)::L) (All ((List.range n).map g)::L):=by
  have h:i<(List.range n).length:=by simpa using hi
  have:=d3o (f:=g) (L:=L) (qs:=List.range n) i h
  rw [List.getElem_range] at this
  have e:((List.range n).eraseIdx i).map f=((List.range n).eraseIdx i).map g:=by
    refine List.map_congr_left fun j hj=>?_
    have h1:=List.mem_range.1 (List.mem_of_mem_eraseIdx hj)
    refine (hg j h1 fun e=>?_).symm
    subst e
    obtain ⟨k,hk,e2⟩:=List.getElem_of_mem hj
    rw [List.getElem_eraseIdx] at e2
    split at e2<;>(rw [List.getElem_range] at e2;omega)
  rw [e]
  exact this
abbrev c8t (p:Nat×CoS):HP:=a8c p.1 p.2
abbrev c3i (c:Cfg) (p:Nat×(Nat×CaS)):HP:=a8y p.1 c (p.2.1:Int) p.2.2
abbrev c8u (c:Cfg) (p:Nat×(Nat×HomS)):HP:=iV p.1 c (p.2.1:Int) p.2.2
theorem e4d {kq:List (Nat×CoS)} {b:Nat} {k:CoS} {L M:List HP} (h:Ent L (jE b k.l k.rs k.tr::All (kq.map c8t)::M)):Ent L (All (kq.map c8t++[c8t (b,k)])::M):=by
  have:=Ent.trans h (a0r (f:=c8t) (b,k));rwa [List.map_append] at this
theorem e4e {c:Cfg} {aq:List (Nat×(Nat×CaS))} {b i:Nat} {k:CaS} {L M:List HP} (h:Ent L (a8y b c (i:Int) k::All (aq.map (c3i c))::M)):Ent L (All (aq.map (c3i c)++[c3i c (b,(i,k))])::M):=by
  have:=Ent.trans h (a0r (f:=c3i c) (b,(i,k)));rwa [List.map_append] at this
theorem e4f {c:Cfg} {hq:List (Nat×(Nat×HomS))} {b i:Nat} {k:HomS} {L M:List HP} (h:Ent L (iV b c (i:Int) k::All (hq.map (c8u c))::M)):Ent L (All (hq.map (c8u c)++[c8u c (b,(i,k))])::M):=by
  have:=Ent.trans h (a0r (f:=c8u c) (b,(i,k)));rwa [List.map_append] at this
theorem c3j {α:Type} {aq:List (Nat×(Nat×α))} {b i:Nat} {k:α} (hl:aq.length=i) (h:∀ j (hj:j<aq.length),aq[j].2.1=j):∀ j (hj:j<(aq++[(b,(i,k))]).length),(aq++[(b,(i,k))])[j].2.1=j:=by
  intro j hj
  by_cases h1:j<aq.length
  · rw [List.getElem_append_left h1];exact h j h1
  · rw [List.getElem_append_right (om)]
    have:j=i:=by simp at hj;omega
    simp [this]
theorem rF {c:Cfg} (h:aF c=true):1≤c.homes∧c.homes≤16:=by
  obtain ⟨_,⟨k,hk,e⟩,_⟩:=cK h
  have:=r9 hk
  rw [e];simpa using this
attribute [local irreducible] Exit.then Exit.inBlock Code.wp WC WO WE WQ V bF tV d3 bW dF uH IntKind.wrap WR Code.rounds WT KO
theorem a1a {F:List HP} {n m:Int}:FnF Tryz.prog 50 [.int .i64 n,.int .i64 m] [] F (fun r L'=>r= .bool (decide (0≤n∧n<m))∧L'=[]):=by
  refine FnF.mk' Tryz.func50 rfl rfl Tryz.ntmps50 rfl ?_
  by_cases h0:0≤n
  · repeat first|refine gd ?_|intro _
    (apply aA rfl rfl bB;(first|exact lW|exact ⟨by simp [h0]<;>omega,rfl⟩);exact iC)
  · have:¬(0≤n∧n<m):=fun h=>h0 h.1
    repeat first|refine gd ?_|intro _
    (apply aA rfl rfl bB;(first|exact lW|exact ⟨by simp [this]<;>omega,rfl⟩);exact iC)
theorem gO {Q P:Prop} (k:Q) (h:Hid Q→P:=by
  intro k
  first
  |(refine aG ?_;apply mT (id:=12) .true _ (pl:= .p 0 <| .p 1 <| .p 2 <| .p 3 <| .p 4 <| .p 6 <| .p 9 <| .p 10 <| .p 11 <| .p 13 <| .r 5 <| .e true [(7,.e true [(8,.e false [(12,.e false [(14,.e false [(15,.p 16 <| .p 17 <| .e false [(18,.p 19 <| .p 20 <| .e false [(21,.done)])])])]),(14,.e false [(12,.e false [(15,.p 16 <| .p 17 <| .e false [(18,.p 19 <| .p 20 <| .e false [(21,.done)])])])])]),(12,.e true [(8,.e false [(14,.e false [(15,.p 16 <| .p 17 <| .e false [(18,.p 19 <| .p 20 <| .e false [(21,.done)])])])]),(14,.e true [(8,.e false [(15,.p 16 <| .p 17 <| .e false [(18,.p 19 <| .p 20 <| .e false [(21,.done)])])])])]),(14,.e true [(8,.e false [(12,.e false [(15,.p 16 <| .p 17 <| .e false [(18,.p 19 <| .p 20 <| .e false [(21,.done)])])])]),(12,.e true [(8,.e false [(15,.p 16 <| .p 17 <| .e false [(18,.p 19 <| .p 20 <| .e false [(21,.done)])])])])])]),(12,.e true [(7,.e true [(8,.e false [(14,.e false [(15,.p 16 <| .p 17 <| .e false [(18,.p 19 <| .p 20 <| .e false [(21,.done)])])])]),(14,.e true [(8,.e false [(15,.p 16 <| .p 17 <| .e false [(18,.p 19 <| .p 20 <| .e false [(21,.done)])])])])]),(14,.e true [(7,.e true [(8,.e false [(15,.p 16 <| .p 17 <| .e false [(18,.p 19 <| .p 20 <| .e false [(21,.done)])])])])])]),(14,.e true [(7,.e true [(8,.e false [(12,.e false [(15,.p 16 <| .p 17 <| .e false [(18,.p 19 <| .p 20 <| .e false [(21,.done)])])])]),(12,.e true [(8,.e false [(15,.p 16 <| .p 17 <| .e false [(18,.p 19 <| .p 20 <| .e false [(21,.done)])])])])]),(12,.e true [(7,.e true [(8,.e false [(15,.p 16 <| .p 17 <| .e false [(18,.p 19 <| .p 20 <| .e false [(21,.done)])])])])])])]);exact pN;kernel_rfl;kernel_rfl;exact Ent.refl;exact k.out)):P:=h ⟨k⟩
theorem d4m {F:List HP} {c:Cfg} {ps:List PrQ} {v:Value} (hc:c.wf) (k:RdL F 1 v ps.length (aC c8m ps)) (kp:RdPr F ps) (h:a6v c (ps.map (·.1))=true) :
    FnF Tryz.prog 17 [c.val,v] [] F (fun r L'=>∃ b,r= .tuple [.pointer (some ⟨b,0,none⟩),.int .i64 0].toArray∧L'=[e6y b c (cW c (ps.map (·.1)))]):=by
  simp only [a6v,Bool.and_eq_true,decide_eq_true_eq,List.all_eq_true,List.length_map] at h
  obtain ⟨⟨hck,hlen⟩,hall⟩:=h
  have hcf:=cK hck
  have hN:=fun F=>c5c (F:=F) hc hck
  refine FnF.mk' Tryz.func17 rfl rfl Tryz.ntmps17 rfl ?_
  repeat first|refine go ?_|intro _|refine gO ?_|refine cM ?_|refine aD @hN ?_
  rename_i b2 bn bm
  apply bC (E0:=[(2,_),(8,_),(36,_),(37,_)]) (fun E0 (q:Nat×List (Nat×CoS)×List (Nat×(Nat×CaS))×(Option Addr×Nat)×(Option Addr×Nat))=>(38,.int .i64 q.1)::E0)
    (fun q=>Cells bm 81 (e7m c 0 q.2.1.length q.2.2.1.length 0 0 q.2.2.2.1 q.2.2.2.2 (none,0) (none,0) bn)::Own 82 1 (.slice q.2.2.2.1.1 q.2.1.length q.2.2.2.1.2) q.2.1.length (aC a7d (q.2.1.map (·.1)))::Own 46 1 (.slice q.2.2.2.2.1 q.2.2.1.length q.2.2.2.2.2) q.2.2.1.length (aC a7d (q.2.2.1.map (·.1)))
      ::oB bn c .no::All (q.2.1.map c8t)::All (q.2.2.1.map (c3i c))::Cells b2 24 c.cells::F)
    (fun q=>q.1≤ps.length∧q.2.1.length=q.1∧q.2.2.1.length=q.1∧q.2.1.map (·.2)=(ps.take q.1).map (fun p=>⟨p.1,[],[]⟩)∧q.2.2.1.map (·.2.2)=List.replicate q.1 (uO c)∧∀ j (hj:j<q.2.2.1.length),q.2.2.1[j].2.1=j) (fun q=>ps.length-q.1) (0,[],[],(none,0),(none,0))
  · exact nB
  · exact ⟨Nat.zero_le _,rfl,rfl,rfl,rfl,fun j hj=>absurd hj (Nat.not_lt_zero _)⟩
  · dsimp only [List.length_nil]
    refine Ent.trans ?_ (Ent.cons (aM (aM (Ent.cons (Ent.trans fZ (Ent.cons fZ))))))
    exact aB
  · rintro ⟨i,kq,aq,⟨pk,ck⟩,⟨pa,ca⟩⟩ ⟨hi,hkl,hal,hk1,ha1,ha2⟩
    dsimp only at hi hkl hal hk1 ha1 ha2 ⊢
    by_cases hlt:i<ps.length
    · have hp:=hall _ (List.mem_map_of_mem (List.getElem_mem hlt))
      have hpl:=b6s hp
      haveI krF:=d6j kp hlt
      have hC:=fun F' (k':RdL F' 3 (.slice ps[i].2.1 ps[i].1.length ps[i].2.2) ps[i].1.length (aC oc ps[i].1))=>b6t (F:=F') (c:=c) hc (l:=ps[i].1) k' (om) hp
      have hA:=fun F'=>d4t (F:=F') (c:=c) (core:=(i:Int)) hc ⟨hck,om,om⟩
      have key:∀ bk ba:Nat,i+1≤ps.length∧(kq++[(bk,(⟨ps[i].1,[],[]⟩:CoS))]).length=i+1∧(aq++[(ba,(i,uO c))]).length=i+1∧(kq++[(bk,(⟨ps[i].1,[],[]⟩:CoS))]).map (·.2)=(ps.take (i+1)).map (fun p=>⟨p.1,[],[]⟩)
       ∧(aq++[(ba,(i,uO c))]).map (·.2.2)=List.replicate (i+1) (uO c)∧∀ j (hj:j<(aq++[(ba,(i,uO c))]).length),(aq++[(ba,(i,uO c))])[j].2.1=j:=fun bk ba=>by
        refine ⟨om,by simp [hkl],by simp [hal],?_,?_,c3j hal ha2⟩
        · rw [List.take_add_one,List.getElem?_eq_getElem hlt,Option.toList_some,List.map_append,List.map_append,hk1];rfl
        · rw [List.map_append,ha1,List.replicate_succ'];rfl
      repeat' (first|refine go ?_|intro _|refine gO ?_|refine cM ?_|refine aD @hC ?_|refine aD @hA ?_|refine mH ?_ ?_|fail)
      all_goals apply aS (i+1,kq++[(_,(⟨ps[i].1,[],[]⟩:CoS))],aq++[(_,(i,uO c))],(_,_),(_,_))
      all_goals first
      |(dsimp only;omega)
      |(exact nB;done)
      |(dsimp only;simp only [List.length_append,List.length_singleton,List.map_append,List.map_cons,List.map_nil,aZ,cG];((repeat (first|(with_reducible exact Ent.refl)|exact Ent.nil|(apply dQ;exact e6z)|(apply e4d)|(apply e4e)|apply Ent.drop));all_goals exact mG))
      |skip
      all_goals exact key _ _
    · have hil:i=ps.length:=by omega
      subst hil
      rw [List.take_length] at hk1
      repeat first|refine go ?_|intro _|refine gO ?_|refine cM ?_
      have hh:=rF hck
      apply bC (E0:=[(2,_),(8,_),(79,_)]) (fun E0 (q:Nat×List (Nat×(Nat×HomS))×(Option Addr×Nat))=>(80,.int .i64 q.1)::E0)
        (fun q=>Cells bm 81 (e7m c 0 kq.length aq.length q.2.1.length 0 (pk,ck) (pa,ca) q.2.2 (none,0) bn)::Own 82 1 (.slice pk kq.length ck) kq.length (aC a7d (kq.map (·.1)))::Own 46 1 (.slice pa aq.length ca) aq.length (aC a7d (aq.map (·.1)))
          ::Own 52 1 (.slice q.2.2.1 q.2.1.length q.2.2.2) q.2.1.length (aC a7d (q.2.1.map (·.1)))::oB bn c .no::All (kq.map c8t)::All (aq.map (c3i c))::All (q.2.1.map (c8u c))::Cells b2 24 c.cells::F)
        (fun q=>(q.1:Int)≤c.homes∧q.2.1.length=q.1∧q.2.1.map (·.2.2)=(List.range q.1).map (fun (j:Nat)=>qB c (j:Int))∧∀ j (hj:j<q.2.1.length),q.2.1[j].2.1=j) (fun q=>c.homes.toNat-q.1) (0,[],(none,0))
      · exact nB
      · exact ⟨om,rfl,rfl,fun j hj=>absurd hj (Nat.not_lt_zero _)⟩
      · dsimp only [List.length_nil]
        refine Ent.trans ?_ (Ent.cons (Ent.cons (Ent.cons (aM (Ent.cons (Ent.cons (Ent.cons fZ)))))))
        exact aB
      · rintro ⟨n,hq,⟨ph,ch⟩⟩ ⟨hn,hhl,hh1,hh2⟩
        dsimp only at hn hhl hh1 hh2 ⊢
        by_cases hlt:(n:Int)<c.homes
        · have hH:=fun F'=>e6u (F:=F') (c:=c) (num:=(n:Int)) hc (by unfold zY;rw [hck,decide_eq_true ⟨om,hlt⟩];rfl)
          have key:∀ bh:Nat,((n+1:Nat):Int)≤c.homes∧(hq++[(bh,(n,qB c (n:Int)))]).length=n+1∧(hq++[(bh,(n,qB c (n:Int)))]).map (·.2.2)=(List.range (n+1)).map (fun (j:Nat)=>qB c (j:Int))
           ∧∀ j (hj:j<(hq++[(bh,(n,qB c (n:Int)))]).length),(hq++[(bh,(n,qB c (n:Int)))])[j].2.1=j:=fun bh=>by
            refine ⟨om,by simp [hhl],?_,c3j hhl hh2⟩
            rw [List.map_append,hh1,List.range_succ,List.map_append];rfl
          repeat' (first|refine go ?_|intro _|refine gO ?_|refine cM ?_|refine aD @hH ?_|refine mH ?_ ?_|fail)
          all_goals apply aS (n+1,hq++[(_,(n,qB c (n:Int)))],(_,_))
          all_goals first
          |(dsimp only;omega)
          |(exact nB;done)
          |(dsimp only;simp only [List.length_append,List.length_singleton,List.map_append,List.map_cons,List.map_nil,aZ,cG];exact xW @e4f)
          |skip
          all_goals exact key _
        · have hnn:n=c.homes.toNat:=by omega
          repeat first|refine go ?_|intro _|refine gO ?_|refine cM ?_
          (apply aA rfl rfl bB)
          · exact ⟨_,rfl,rfl⟩
          · have hkx:kq.map c8t=(List.range (kq.map (·.1)).length).map (yC ⟨kq.map (·.1),aq.map (·.1),hq.map (·.1),(pk,ck),(pa,ca),(ph,ch),(none,0),bn⟩ (cW c (ps.map (·.1)))):=by
              apply List.ext_getElem (by simp)
              intro j h1 h2
              have e1:(cW c (ps.map (·.1))).ks=kq.map (·.2):=by rw [hk1];unfold cW;rw [List.map_map];rfl
              have hj:j<kq.length:=by simpa using h1
              simp [yC,e1,hj]
            have hax:aq.map (c3i c)=(List.range (aq.map (·.1)).length).map (s5 c ⟨kq.map (·.1),aq.map (·.1),hq.map (·.1),(pk,ck),(pa,ca),(ph,ch),(none,0),bn⟩ (cW c (ps.map (·.1)))):=by
              apply List.ext_getElem (by simp)
              intro j h1 h2
              have e1:(cW c (ps.map (·.1))).cs=aq.map (·.2.2):=by
                rw [ha1]
                show (ps.map (·.1)).map (fun _=>uO c)=_
                rw [List.map_const',List.length_map]
              have hj:j<aq.length:=by simpa using h1
              simp [s5,c3i,e1,hj,ha2 j hj]
            have hhx:hq.map (c8u c)=(List.range (hq.map (·.1)).length).map (s6 c ⟨kq.map (·.1),aq.map (·.1),hq.map (·.1),(pk,ck),(pa,ca),(ph,ch),(none,0),bn⟩ (cW c (ps.map (·.1)))):=by
              apply List.ext_getElem (by simp)
              intro j h1 h2
              have e1:(cW c (ps.map (·.1))).hs=hq.map (·.2.2):=by rw [hh1,hnn];rfl
              have hj:j<hq.length:=by simpa using h1
              simp [s6,c8u,e1,hj,hh2 j hj]
            refine e4c (x:=⟨kq.map (·.1),aq.map (·.1),hq.map (·.1),(pk,ck),(pa,ca),(ph,ch),(none,0),bn⟩) (d4l (nk:=kq.length) (na:=aq.length) (nh:=hq.length) (nt:=0) (vk:=aC a7d (kq.map (·.1))) (va:=aC a7d (aq.map (·.1))) (vh:=aC a7d (hq.map (·.1))) (vt:=[]) ?_ ⟨⟨?_,?_,?_⟩,⟨?_,?_,?_⟩,hck⟩ ⟨rfl,rfl,rfl,rfl,rfl⟩ (by simp) (by simp) (by simp) rfl rfl rfl rfl rfl)
            · rw [←hkx,←hax,←hhx]
              dsimp only [cW]
              refine Ent.trans ?_ (Ent.cons (Ent.cons (Ent.cons (Ent.cons (Ent.cons (aM Ent.refl))))))
              exact aB
            · unfold cW;simp [hkl]
            · unfold cW;simp [hal]
            · unfold cW;simp [hhl,hnn]
            · simp only [List.length_map];omega
            · simp only [List.length_map];omega
            · simp only [List.length_map];omega
theorem c6a {F:List HP} {c:Cfg} {ps:List PrQ} {v:Value} (hc:c.wf) (k:RdL F 1 v ps.length (aC c8m ps)) (kp:RdPr F ps) (hn:∀ p∈ps,p.1.length≤1099511627776) (h:a6v c (ps.map (·.1))=false) :
    FnF Tryz.prog 17 [c.val,v] [] F (fun r L'=>r= .tuple [.pointer none,.int .i64 1].toArray∧L'=[]):=by
  cases hck:aF c with
  |false=>
   have hN:=fun F=>c1p (F:=F) hc hck
   refine FnF.mk' Tryz.func17 rfl rfl Tryz.ntmps17 rfl ?_
   repeat first|refine go ?_|intro _|refine gO ?_|refine cM ?_|refine aD @hN ?_
   exact aU
  |true=>
   have hN:=fun F=>c5c (F:=F) hc hck
   by_cases hlen:(ps.length:Int)=c.cores
   · have hcf:=cK hck
     obtain ⟨n,hnl,hnp⟩:∃ n,∃ h:n<ps.length,kS c ps[n].1=false:=by
       have h1:¬∀ x∈ps.map (·.1),kS c x=true:=fun h2=>by
         rw [a6v,hck,List.length_map,decide_eq_true hlen,List.all_eq_true.2 h2] at h;cases h
       refine Classical.byContradiction fun h3=>h1 fun x hx=>?_
       obtain ⟨p,hp,rfl⟩:=List.mem_map.1 hx
       obtain ⟨i,hi,rfl⟩:=List.getElem_of_mem hp
       cases e:kS c ps[i].1 with
       |true=>rfl
       |false=>exact absurd ⟨i,hi,e⟩ h3
     refine FnF.mk' Tryz.func17 rfl rfl Tryz.ntmps17 rfl ?_
     repeat first|refine go ?_|intro _|refine gO ?_|refine cM ?_|refine aD @hN ?_
     rename_i b2 bn bm
     apply bC (E0:=[(2,_),(8,_),(36,_),(37,_)]) (fun E0 (q:Nat×List (Nat×CoS)×List (Nat×(Nat×CaS))×(Option Addr×Nat)×(Option Addr×Nat))=>(38,.int .i64 q.1)::E0)
       (fun q=>Cells bm 81 (e7m c 0 q.2.1.length q.2.2.1.length 0 0 q.2.2.2.1 q.2.2.2.2 (none,0) (none,0) bn)::Own 82 1 (.slice q.2.2.2.1.1 q.2.1.length q.2.2.2.1.2) q.2.1.length (aC a7d (q.2.1.map (·.1)))::Own 46 1 (.slice q.2.2.2.2.1 q.2.2.1.length q.2.2.2.2.2) q.2.2.1.length (aC a7d (q.2.2.1.map (·.1)))
         ::Cells b2 24 c.cells::F)
       (fun q=>q.1≤n∧q.2.1.length=q.1∧q.2.2.1.length=q.1) (fun q=>ps.length-q.1) (0,[],[],(none,0),(none,0))
     · exact nB
     · exact ⟨Nat.zero_le _,rfl,rfl⟩
     · dsimp only [List.length_nil]
       refine Ent.trans ?_ (Ent.cons (aM (aM Ent.refl)))
       exact aB
     · rintro ⟨i,kq,aq,⟨pk,ck⟩,⟨pa,ca⟩⟩ ⟨hi,hkl,hal⟩
       dsimp only at hi hkl hal ⊢
       have hlt:i<ps.length:=by omega
       have hpl:=hn _ (List.getElem_mem hlt)
       haveI krF:=d6j kp hlt
       cases hp:kS c ps[i].1 with
       |true=>
        have hne:i≠n:=fun e=>by subst e;rw [hp] at hnp;cases hnp
        have hC:=fun F' (k':RdL F' 3 (.slice ps[i].2.1 ps[i].1.length ps[i].2.2) ps[i].1.length (aC oc ps[i].1))=>b6t (F:=F') (c:=c) hc (l:=ps[i].1) k' (om) hp
        have hA:=fun F'=>d4t (F:=F') (c:=c) (core:=(i:Int)) hc ⟨hck,om,om⟩
        repeat' (first|refine go ?_|intro _|refine gO ?_|refine cM ?_|refine aD @hC ?_|refine aD @hA ?_|refine mH ?_ ?_|fail)
        all_goals apply aS (i+1,kq++[(_,(⟨ps[i].1,[],[]⟩:CoS))],aq++[(_,(i,uO c))],(_,_),(_,_))
        all_goals first
        |(dsimp only;omega)
        |(exact nB;done)
        |(refine Ent.trans Ent.refl ?_;dsimp only;simp only [List.length_append,List.length_singleton,List.map_append,List.map_cons,List.map_nil,aZ,cG];exact aB)
        |skip
        all_goals exact ⟨by dsimp only;omega,by simp [hkl],by simp [hal]⟩
       |false=>
        have hC:=fun F' (k':RdL F' 3 (.slice ps[i].2.1 ps[i].1.length ps[i].2.2) ps[i].1.length (aC oc ps[i].1))=>b4z (F:=F') (c:=c) hc (l:=ps[i].1) k' (om) hp
        repeat first|refine go ?_|intro _|refine gO ?_|refine cM ?_|refine aD @hC ?_
        exact aU
   · refine FnF.mk' Tryz.func17 rfl rfl Tryz.ntmps17 rfl ?_
     repeat first|refine go ?_|intro _|refine gO ?_|refine cM ?_|refine aD @hN ?_
     exact aU
end
end Go.Sx
