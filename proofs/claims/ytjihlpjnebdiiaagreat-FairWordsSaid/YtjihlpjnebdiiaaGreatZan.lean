/- MaP, WiRead: several of my texts as one. My own work. -/
import Derived.Test.YtjihlpjnebdiiaaGreatZam
set_option linter.unusedVariables false
set_option linter.unusedSectionVars false
set_option linter.unusedSimpArgs false
set_option maxRecDepth 100000
set_option maxHeartbeats 4000000
namespace Go.Sx
open Go Go.Proofs
section
abbrev PrQ:=List Op3×(Option Addr×Nat)
abbrev b6n (p:PrQ):List Value:=[.slice p.2.1 p.1.length p.2.2]
class RdPr (L:List HP) (ps:List PrQ):Prop where
  pf:∀ p∈ps,RdL L 3 (.slice p.2.1 p.1.length p.2.2) p.1.length (aC oc p.1)
instance RdPr.there {ps:List PrQ} {q:HP} {L:List HP} [k:RdPr L ps]:RdPr (q::L) ps:=⟨fun p hp=>by haveI:=k.pf p hp;exact RdL.there⟩
instance RdPr.left {ps:List PrQ} {L M:List HP} [k:RdPr L ps]:RdPr (pO L M) ps:=⟨fun p hp=>by haveI:=k.pf p hp;exact RdL.left⟩
theorem c4s {L:List HP} {ps:List PrQ} (k:RdPr L ps) {i:Nat} (hi:i<ps.length):RdL L 3 (.slice ps[i].2.1 ps[i].1.length ps[i].2.2) ps[i].1.length (aC oc ps[i].1):=k.pf _ (List.getElem_mem hi)
structure MaX where
  kb:List Nat
  ab:List Nat
  hb:List Nat
  pk:Option Addr×Nat
  pa:Option Addr×Nat
  ph:Option Addr×Nat
  pt:Option Addr×Nat
  bn:Nat
abbrev b1d (n:Nat):List Value:=[.pointer (some ⟨n,0,none⟩)]
abbrev e0q (x:Com):List Value:=[.int .i64 x.core,.int .i64 x.pos,.int .i64 x.op.kind,.int .i64 x.op.addr,.int .i64 x.op.value,.int .i64 x.res]
abbrev f1w (c:Cfg) (odd:Int) (nk na nh nt:Nat) (pk pa ph pt:Option Addr×Nat) (bn:Nat):List Value:=[.int .i64 c.cores,.int .i64 c.homes,.int .i64 c.sets,.int .i64 c.ways,.int .i64 c.words,.int .i64 c.lines,.int .i64 c.pointers,.int .i64 c.mshrs,.int .i64 c.buffer,.int .i64 c.writebacks,.int .i64 c.r0,.int .i64 c.r1,.int .i64 c.r2,
  .slice pk.1 nk pk.2,.slice pa.1 na pa.2,.slice ph.1 nh ph.2,.pointer (some ⟨bn,0,none⟩),.slice pt.1 nt pt.2,.int .i64 odd]
def a2v (c:Cfg) (s:MaS) (x:MaX):Prop:=(s.ks.length=x.kb.length∧s.cs.length=x.ab.length∧s.hs.length=x.hb.length)∧((x.kb.length:Int)=c.cores∧(x.ab.length:Int)=c.cores∧(x.hb.length:Int)=c.homes)∧aF c=true
abbrev b2d (b:Nat) (k:CoS):HP:=jZ b k.l k.rs k.tr
abbrev a0i (x:MaX) (s:MaS) (i:Nat):HP:=b2d (x.kb.getD i 0) (s.ks.getD i coZ)
abbrev uS (c:Cfg) (x:MaX) (s:MaS) (i:Nat):HP:=b2h (x.ab.getD i 0) c (i:Int) (s.cs.getD i caZ)
abbrev uT (c:Cfg) (x:MaX) (s:MaS) (i:Nat):HP:=jD (x.hb.getD i 0) c (i:Int) (s.hs.getD i a5e)
def i9 (b:Nat) (c:Cfg) (s:MaS) (x:MaX):HP:=All [Cells b 81 (f1w c s.odd x.kb.length x.ab.length x.hb.length s.tr.length x.pk x.pa x.ph x.pt x.bn),
  Own 82 1 (.slice x.pk.1 x.kb.length x.pk.2) x.kb.length (aC b1d x.kb),Own 46 1 (.slice x.pa.1 x.ab.length x.pa.2) x.ab.length (aC b1d x.ab),Own 52 1 (.slice x.ph.1 x.hb.length x.ph.2) x.hb.length (aC b1d x.hb),
  nQ x.bn c s.n,Own 60 6 (.slice x.pt.1 s.tr.length x.pt.2) s.tr.length (aC e0q s.tr),All ((List.range x.kb.length).map (a0i x s)),All ((List.range x.ab.length).map (uS c x s)),All ((List.range x.hb.length).map (uT c x s)),Fact (a2v c s x)]
def e0r (b:Nat) (c:Cfg) (s:MaS):HP:=Ex fun x:MaX=>[i9 b c s x]
theorem f1a {b:Nat} {c:Cfg} {s:MaS} {x:MaX} {L M:List HP} (h:Ent L (i9 b c s x::M)):Ent L (e0r b c s::M):=Ent.trans h (kW (p:=fun x:MaX=>[i9 b c s x]) x)
abbrev e6m (b:Nat) (c:Cfg) (s:MaS) (x:MaX) (L:List HP):List HP:=Cells b 81 (f1w c s.odd x.kb.length x.ab.length x.hb.length s.tr.length x.pk x.pa x.ph x.pt x.bn)::Own 82 1 (.slice x.pk.1 x.kb.length x.pk.2) x.kb.length (aC b1d x.kb)::Own 46 1 (.slice x.pa.1 x.ab.length x.pa.2) x.ab.length (aC b1d x.ab)
  ::Own 52 1 (.slice x.ph.1 x.hb.length x.ph.2) x.hb.length (aC b1d x.hb)::nQ x.bn c s.n::Own 60 6 (.slice x.pt.1 s.tr.length x.pt.2) s.tr.length (aC e0q s.tr)::All ((List.range x.kb.length).map (a0i x s))::All ((List.range x.ab.length).map (uS c x s))::All ((List.range x.hb.length).map (uT c x s))::L
theorem d9z {b:Nat} {c:Cfg} {s:MaS} {x:MaX} {L M:List HP} {nk na nh nt:Nat} {vk va vh vt:List Value} {pk pa ph pt:Option Addr} {ck ca ch ct bn:Nat}
    (h:Ent L (Cells b 81 (f1w c s.odd nk na nh nt (pk,ck) (pa,ca) (ph,ch) (pt,ct) bn)::Own 82 1 (.slice pk nk ck) nk vk::Own 46 1 (.slice pa na ca) na va::Own 52 1 (.slice ph nh ch) nh vh
     ::nQ bn c s.n::Own 60 6 (.slice pt nt ct) nt vt::All ((List.range x.kb.length).map (a0i x s))::All ((List.range x.ab.length).map (uS c x s))::All ((List.range x.hb.length).map (uT c x s))::M))
    (hf:a2v c s x) (hx:x.pk=(pk,ck)∧x.pa=(pa,ca)∧x.ph=(ph,ch)∧x.pt=(pt,ct)∧x.bn=bn) (h1:nk=x.kb.length) (h2:na=x.ab.length) (h3:nh=x.hb.length) (h4:nt=s.tr.length) (h5:vk=aC b1d x.kb) (h6:va=aC b1d x.ab) (h7:vh=aC b1d x.hb) (h8:vt=aC e0q s.tr):Ent L (i9 b c s x::M):=by
  obtain ⟨kb,ab,hb,pk',pa',ph',pt',bn'⟩:=x
  obtain ⟨rfl,rfl,rfl,rfl,rfl⟩:=hx
  subst h1 h2 h3 h4 h5 h6 h7 h8
  refine Ent.trans h (Ent.trans ?_ iQ)
  exact Ent.cons (Ent.cons (Ent.cons (Ent.cons (Ent.cons (Ent.cons (Ent.cons (Ent.cons (Ent.cons (dS hf)))))))))
theorem a9l {b:Nat} {c:Cfg} {s:MaS} {x:MaX} {L:List HP} {w:World} (h:fP (i9 b c s x::L) w):a2v c s x∧fP (e6m b c s x L) w:=by
  have hx:=kU _ h
  exact ⟨jK (aU (aU (aU (aU (aU (aU (aU (aU (aU hx))))))))),(Ent.cons (Ent.cons (Ent.cons (Ent.cons (Ent.cons (Ent.cons (Ent.cons (Ent.cons (Ent.cons (Ent.drop Ent.refl)))))))))) _ hx⟩
section
variable {b:Nat} {c:Cfg} {s:MaS} {x:MaX} {P:Program} {N:Nat} {env:Env} {L:List HP} {Q:Exit→Act→World→Prop}
theorem i6 {co:Code} (h:a2v c s x→WC P N co env (e6m b c s x L) Q):WC P N co env (i9 b c s x::L) Q:=fun a w ha hw=>h (a9l hw).1 a w ha (a9l hw).2
theorem b1e {co:Code} (h:∀ x,WC P N co env (i9 b c s x::L) Q):WC P N co env (e0r b c s::L) Q:=by
  intro a w ha hw
  obtain ⟨x,hx⟩:=kD hw
  exact h x a w ha hx
theorem x9 {all:Array Oper} {o:List Oper} (h:∀ x,WO P N all o env (i9 b c s x::L) Q):WO P N all o env (e0r b c s::L) Q:=by
  intro a w ha hw
  obtain ⟨x,hx⟩:=kD hw
  exact h x a w ha hx
end
theorem xM {f:Nat→HP} {n i:Nat} {L:List HP} (hi:i<n):Ent (All ((List.range n).map f)::L) (f i::All (((List.range n).eraseIdx i).map f)::L):=by
  have h:i<(List.range n).length:=by simpa using hi
  have:=wR (f:=f) (L:=L) (qs:=List.range n) i h
  rwa [List.getElem_range] at this
theorem a2w {f g:Nat→HP} {n i:Nat} {L:List HP} (hi:i<n) (hg:∀ j,j<n→j≠i→g j=f j):Ent (g i::All (((List.range n).eraseIdx i).map f)::L) (All ((List.range n).map g)::L):=by
  have h:i<(List.range n).length:=by simpa using hi
  have:=d2m (f:=g) (L:=L) (qs:=List.range n) i h
  rw [List.getElem_range] at this
  have e:((List.range n).eraseIdx i).map f=((List.range n).eraseIdx i).map g:=by
    refine List.map_congr_left fun j hj=>?_
    have h1:=List.mem_range.1 (List.mem_of_mem_eraseIdx hj)
    refine (hg j h1 fun e=>?_).symm
    subst e
    obtain ⟨k,hk,e2⟩:=List.getElem_of_mem hj
    rw [List.getElem_eraseIdx] at e2
    split at e2<;>(rw [List.getElem_range] at e2;omega)
  rw [e]
  exact this
abbrev d2g (p:Nat×CoS):HP:=b2d p.1 p.2
abbrev c8q (c:Cfg) (p:Nat×(Nat×CaS)):HP:=b2h p.1 c (p.2.1:Int) p.2.2
abbrev d2h (c:Cfg) (p:Nat×(Nat×HomS)):HP:=jD p.1 c (p.2.1:Int) p.2.2
theorem f1b {kq:List (Nat×CoS)} {b:Nat} {k:CoS} {L M:List HP} (h:Ent L (jZ b k.l k.rs k.tr::All (kq.map d2g)::M)):Ent L (All (kq.map d2g++[d2g (b,k)])::M):=by
  have:=Ent.trans h (a2h (f:=d2g) (b,k));rwa [List.map_append] at this
theorem f1c {c:Cfg} {aq:List (Nat×(Nat×CaS))} {b i:Nat} {k:CaS} {L M:List HP} (h:Ent L (b2h b c (i:Int) k::All (aq.map (c8q c))::M)):Ent L (All (aq.map (c8q c)++[c8q c (b,(i,k))])::M):=by
  have:=Ent.trans h (a2h (f:=c8q c) (b,(i,k)));rwa [List.map_append] at this
theorem f1d {c:Cfg} {hq:List (Nat×(Nat×HomS))} {b i:Nat} {k:HomS} {L M:List HP} (h:Ent L (jD b c (i:Int) k::All (hq.map (d2h c))::M)):Ent L (All (hq.map (d2h c)++[d2h c (b,(i,k))])::M):=by
  have:=Ent.trans h (a2h (f:=d2h c) (b,(i,k)));rwa [List.map_append] at this
theorem c8r {α:Type} {aq:List (Nat×(Nat×α))} {b i:Nat} {k:α} (hl:aq.length=i) (h:∀ j (hj:j<aq.length),aq[j].2.1=j):∀ j (hj:j<(aq++[(b,(i,k))]).length),(aq++[(b,(i,k))])[j].2.1=j:=by
  intro j hj
  by_cases h1:j<aq.length
  · rw [List.getElem_append_left h1];exact h j h1
  · rw [List.getElem_append_right (om)]
    have:j=i:=by simp at hj;omega
    simp [this]
theorem p4 {c:Cfg} (h:aF c=true):1≤c.homes∧c.homes≤16:=by
  obtain ⟨_,⟨k,hk,e⟩,_⟩:=bG h
  have:=s7 hk
  rw [e];simpa using this
attribute [local irreducible] Exit.then Exit.inBlock Code.wp WC WO WE WQ V bT vL fP cY eI v8 IntKind.wrap WR Code.rounds WT KO
theorem yA {F:List HP} {n m:Int}:FnF Tryz.prog 50 [.int .i64 n,.int .i64 m] [] F (fun r L'=>r= .bool (decide (0≤n∧n<m))∧L'=[]):=by
  refine FnF.mk' Tryz.func50 rfl rfl Tryz.ntmps50 rfl ?_
  by_cases h0:0≤n
  · repeat first|refine gd ?_|intro _
    (apply aA rfl rfl bH;(first|exact oO|exact ⟨by simp [h0]<;>omega,rfl⟩);exact jM)
  · have:¬(0≤n∧n<m):=fun h=>h0 h.1
    repeat first|refine gd ?_|intro _
    (apply aA rfl rfl bH;(first|exact oO|exact ⟨by simp [this]<;>omega,rfl⟩);exact jM)
theorem iJ {Q P:Prop} (k:Q) (h:Hid Q→P:=by
  intro k
  first
  |(refine aI ?_;apply pV (id:=12) .true _ (pl:= .p 0 <| .p 1 <| .p 2 <| .p 3 <| .p 4 <| .p 6 <| .p 9 <| .p 10 <| .p 11 <| .p 13 <| .r 5 <| .e true [(7,.e true [(8,.e false [(12,.e false [(14,.e false [(15,.p 16 <| .p 17 <| .e false [(18,.p 19 <| .p 20 <| .e false [(21,.done)])])])]),(14,.e false [(12,.e false [(15,.p 16 <| .p 17 <| .e false [(18,.p 19 <| .p 20 <| .e false [(21,.done)])])])])]),(12,.e true [(8,.e false [(14,.e false [(15,.p 16 <| .p 17 <| .e false [(18,.p 19 <| .p 20 <| .e false [(21,.done)])])])]),(14,.e true [(8,.e false [(15,.p 16 <| .p 17 <| .e false [(18,.p 19 <| .p 20 <| .e false [(21,.done)])])])])]),(14,.e true [(8,.e false [(12,.e false [(15,.p 16 <| .p 17 <| .e false [(18,.p 19 <| .p 20 <| .e false [(21,.done)])])])]),(12,.e true [(8,.e false [(15,.p 16 <| .p 17 <| .e false [(18,.p 19 <| .p 20 <| .e false [(21,.done)])])])])])]),(12,.e true [(7,.e true [(8,.e false [(14,.e false [(15,.p 16 <| .p 17 <| .e false [(18,.p 19 <| .p 20 <| .e false [(21,.done)])])])]),(14,.e true [(8,.e false [(15,.p 16 <| .p 17 <| .e false [(18,.p 19 <| .p 20 <| .e false [(21,.done)])])])])]),(14,.e true [(7,.e true [(8,.e false [(15,.p 16 <| .p 17 <| .e false [(18,.p 19 <| .p 20 <| .e false [(21,.done)])])])])])]),(14,.e true [(7,.e true [(8,.e false [(12,.e false [(15,.p 16 <| .p 17 <| .e false [(18,.p 19 <| .p 20 <| .e false [(21,.done)])])])]),(12,.e true [(8,.e false [(15,.p 16 <| .p 17 <| .e false [(18,.p 19 <| .p 20 <| .e false [(21,.done)])])])])]),(12,.e true [(7,.e true [(8,.e false [(15,.p 16 <| .p 17 <| .e false [(18,.p 19 <| .p 20 <| .e false [(21,.done)])])])])])])]);exact sD;kernel_rfl;kernel_rfl;exact Ent.refl;exact k.out)):P:=h ⟨k⟩
theorem b7t {F:List HP} {c:Cfg} {ps:List PrQ} {v:Value} (hc:c.wf) (k:RdL F 1 v ps.length (aC b6n ps)) (kp:RdPr F ps) (h:nE c (ps.map (·.1))=true) :
    FnF Tryz.prog 17 [c.val,v] [] F (fun r L'=>∃ b,r= .tuple [.pointer (some ⟨b,0,none⟩),.int .i64 0].toArray∧L'=[e0r b c (bK c (ps.map (·.1)))]):=by
  simp only [nE,Bool.and_eq_true,decide_eq_true_eq,List.all_eq_true,List.length_map] at h
  obtain ⟨⟨hck,hlen⟩,hall⟩:=h
  have hcf:=bG hck
  have hN:=fun F=>c6r (F:=F) hc hck
  refine FnF.mk' Tryz.func17 rfl rfl Tryz.ntmps17 rfl ?_
  repeat first|refine go ?_|intro _|refine iJ ?_|refine dM ?_|refine aD @hN ?_
  rename_i b2 bn bm
  apply aW (E0:=[(2,_),(8,_),(36,_),(37,_)]) (fun E0 (q:Nat×List (Nat×CoS)×List (Nat×(Nat×CaS))×(Option Addr×Nat)×(Option Addr×Nat))=>(38,.int .i64 q.1)::E0)
    (fun q=>Cells bm 81 (f1w c 0 q.2.1.length q.2.2.1.length 0 0 q.2.2.2.1 q.2.2.2.2 (none,0) (none,0) bn)::Own 82 1 (.slice q.2.2.2.1.1 q.2.1.length q.2.2.2.1.2) q.2.1.length (aC b1d (q.2.1.map (·.1)))::Own 46 1 (.slice q.2.2.2.2.1 q.2.2.1.length q.2.2.2.2.2) q.2.2.1.length (aC b1d (q.2.2.1.map (·.1)))
      ::nQ bn c .no::All (q.2.1.map d2g)::All (q.2.2.1.map (c8q c))::Cells b2 24 c.cells::F)
    (fun q=>q.1≤ps.length∧q.2.1.length=q.1∧q.2.2.1.length=q.1∧q.2.1.map (·.2)=(ps.take q.1).map (fun p=>⟨p.1,[],[]⟩)∧q.2.2.1.map (·.2.2)=List.replicate q.1 (qE c)∧∀ j (hj:j<q.2.2.1.length),q.2.2.1[j].2.1=j) (fun q=>ps.length-q.1) (0,[],[],(none,0),(none,0))
  · exact m9
  · exact ⟨Nat.zero_le _,rfl,rfl,rfl,rfl,fun j hj=>absurd hj (Nat.not_lt_zero _)⟩
  · dsimp only [List.length_nil]
    refine Ent.trans ?_ (Ent.cons (aO (aO (Ent.cons (Ent.trans yD (Ent.cons yD))))))
    exact aB
  · rintro ⟨i,kq,aq,⟨pk,ck⟩,⟨pa,ca⟩⟩ ⟨hi,hkl,hal,hk1,ha1,ha2⟩
    dsimp only at hi hkl hal hk1 ha1 ha2 ⊢
    by_cases hlt:i<ps.length
    · have hp:=hall _ (List.mem_map_of_mem (List.getElem_mem hlt))
      have hpl:=a1i hp
      haveI krF:=c4s kp hlt
      have hC:=fun F' (k':RdL F' 3 (.slice ps[i].2.1 ps[i].1.length ps[i].2.2) ps[i].1.length (aC oc ps[i].1))=>b9o (F:=F') (c:=c) hc (l:=ps[i].1) k' (om) hp
      have hA:=fun F'=>d8q (F:=F') (c:=c) (core:=(i:Int)) hc ⟨hck,om,om⟩
      have key:∀ bk ba:Nat,i+1≤ps.length∧(kq++[(bk,(⟨ps[i].1,[],[]⟩:CoS))]).length=i+1∧(aq++[(ba,(i,qE c))]).length=i+1∧(kq++[(bk,(⟨ps[i].1,[],[]⟩:CoS))]).map (·.2)=(ps.take (i+1)).map (fun p=>⟨p.1,[],[]⟩)
       ∧(aq++[(ba,(i,qE c))]).map (·.2.2)=List.replicate (i+1) (qE c)∧∀ j (hj:j<(aq++[(ba,(i,qE c))]).length),(aq++[(ba,(i,qE c))])[j].2.1=j:=fun bk ba=>by
        refine ⟨om,by simp [hkl],by simp [hal],?_,?_,c8r hal ha2⟩
        · rw [List.take_add_one,List.getElem?_eq_getElem hlt,Option.toList_some,List.map_append,List.map_append,hk1];rfl
        · rw [List.map_append,ha1,List.replicate_succ'];rfl
      repeat' (first|refine go ?_|intro _|refine iJ ?_|refine dM ?_|refine aD @hC ?_|refine aD @hA ?_|refine nV ?_ ?_|fail)
      all_goals apply aT (i+1,kq++[(_,(⟨ps[i].1,[],[]⟩:CoS))],aq++[(_,(i,qE c))],(_,_),(_,_))
      all_goals first
      |(dsimp only;omega)
      |(exact m9;done)
      |(dsimp only;simp only [List.length_append,List.length_singleton,List.map_append,List.map_cons,List.map_nil,bJ,dW];((repeat (first|(with_reducible exact Ent.refl)|exact Ent.nil|(apply iS;exact f1n)|(apply f1b)|(apply f1c)|apply Ent.drop));all_goals exact mZ))
      |skip
      all_goals exact key _ _
    · have hil:i=ps.length:=by omega
      subst hil
      rw [List.take_length] at hk1
      repeat first|refine go ?_|intro _|refine iJ ?_|refine dM ?_
      have hh:=p4 hck
      apply aW (E0:=[(2,_),(8,_),(79,_)]) (fun E0 (q:Nat×List (Nat×(Nat×HomS))×(Option Addr×Nat))=>(80,.int .i64 q.1)::E0)
        (fun q=>Cells bm 81 (f1w c 0 kq.length aq.length q.2.1.length 0 (pk,ck) (pa,ca) q.2.2 (none,0) bn)::Own 82 1 (.slice pk kq.length ck) kq.length (aC b1d (kq.map (·.1)))::Own 46 1 (.slice pa aq.length ca) aq.length (aC b1d (aq.map (·.1)))
          ::Own 52 1 (.slice q.2.2.1 q.2.1.length q.2.2.2) q.2.1.length (aC b1d (q.2.1.map (·.1)))::nQ bn c .no::All (kq.map d2g)::All (aq.map (c8q c))::All (q.2.1.map (d2h c))::Cells b2 24 c.cells::F)
        (fun q=>(q.1:Int)≤c.homes∧q.2.1.length=q.1∧q.2.1.map (·.2.2)=(List.range q.1).map (fun (j:Nat)=>qZ c (j:Int))∧∀ j (hj:j<q.2.1.length),q.2.1[j].2.1=j) (fun q=>c.homes.toNat-q.1) (0,[],(none,0))
      · exact m9
      · exact ⟨om,rfl,rfl,fun j hj=>absurd hj (Nat.not_lt_zero _)⟩
      · dsimp only [List.length_nil]
        refine Ent.trans ?_ (Ent.cons (Ent.cons (Ent.cons (aO (Ent.cons (Ent.cons (Ent.cons yD)))))))
        exact aB
      · rintro ⟨n,hq,⟨ph,ch⟩⟩ ⟨hn,hhl,hh1,hh2⟩
        dsimp only at hn hhl hh1 hh2 ⊢
        by_cases hlt:(n:Int)<c.homes
        · have hH:=fun F'=>e8m (F:=F') (c:=c) (num:=(n:Int)) hc (by unfold a1k;rw [hck,decide_eq_true ⟨om,hlt⟩];rfl)
          have key:∀ bh:Nat,((n+1:Nat):Int)≤c.homes∧(hq++[(bh,(n,qZ c (n:Int)))]).length=n+1∧(hq++[(bh,(n,qZ c (n:Int)))]).map (·.2.2)=(List.range (n+1)).map (fun (j:Nat)=>qZ c (j:Int))
           ∧∀ j (hj:j<(hq++[(bh,(n,qZ c (n:Int)))]).length),(hq++[(bh,(n,qZ c (n:Int)))])[j].2.1=j:=fun bh=>by
            refine ⟨om,by simp [hhl],?_,c8r hhl hh2⟩
            rw [List.map_append,hh1,List.range_succ,List.map_append];rfl
          repeat' (first|refine go ?_|intro _|refine iJ ?_|refine dM ?_|refine aD @hH ?_|refine nV ?_ ?_|fail)
          all_goals apply aT (n+1,hq++[(_,(n,qZ c (n:Int)))],(_,_))
          all_goals first
          |(dsimp only;omega)
          |(exact m9;done)
          |(dsimp only;simp only [List.length_append,List.length_singleton,List.map_append,List.map_cons,List.map_nil,bJ,dW];exact zR @f1d)
          |skip
          all_goals exact key _
        · have hnn:n=c.homes.toNat:=by omega
          repeat first|refine go ?_|intro _|refine iJ ?_|refine dM ?_
          (apply aA rfl rfl bH)
          · exact ⟨_,rfl,rfl⟩
          · have hkx:kq.map d2g=(List.range (kq.map (·.1)).length).map (a0i ⟨kq.map (·.1),aq.map (·.1),hq.map (·.1),(pk,ck),(pa,ca),(ph,ch),(none,0),bn⟩ (bK c (ps.map (·.1)))):=by
              apply List.ext_getElem (by simp)
              intro j h1 h2
              have e1:(bK c (ps.map (·.1))).ks=kq.map (·.2):=by rw [hk1];unfold bK;rw [List.map_map];rfl
              have hj:j<kq.length:=by simpa using h1
              simp [a0i,e1,hj]
            have hax:aq.map (c8q c)=(List.range (aq.map (·.1)).length).map (uS c ⟨kq.map (·.1),aq.map (·.1),hq.map (·.1),(pk,ck),(pa,ca),(ph,ch),(none,0),bn⟩ (bK c (ps.map (·.1)))):=by
              apply List.ext_getElem (by simp)
              intro j h1 h2
              have e1:(bK c (ps.map (·.1))).cs=aq.map (·.2.2):=by
                rw [ha1]
                show (ps.map (·.1)).map (fun _=>qE c)=_
                rw [List.map_const',List.length_map]
              have hj:j<aq.length:=by simpa using h1
              simp [uS,c8q,e1,hj,ha2 j hj]
            have hhx:hq.map (d2h c)=(List.range (hq.map (·.1)).length).map (uT c ⟨kq.map (·.1),aq.map (·.1),hq.map (·.1),(pk,ck),(pa,ca),(ph,ch),(none,0),bn⟩ (bK c (ps.map (·.1)))):=by
              apply List.ext_getElem (by simp)
              intro j h1 h2
              have e1:(bK c (ps.map (·.1))).hs=hq.map (·.2.2):=by rw [hh1,hnn];rfl
              have hj:j<hq.length:=by simpa using h1
              simp [uT,d2h,e1,hj,hh2 j hj]
            refine f1a (x:=⟨kq.map (·.1),aq.map (·.1),hq.map (·.1),(pk,ck),(pa,ca),(ph,ch),(none,0),bn⟩) (d9z (nk:=kq.length) (na:=aq.length) (nh:=hq.length) (nt:=0) (vk:=aC b1d (kq.map (·.1))) (va:=aC b1d (aq.map (·.1))) (vh:=aC b1d (hq.map (·.1))) (vt:=[]) ?_ ⟨⟨?_,?_,?_⟩,⟨?_,?_,?_⟩,hck⟩ ⟨rfl,rfl,rfl,rfl,rfl⟩ (by simp) (by simp) (by simp) rfl rfl rfl rfl rfl)
            · rw [←hkx,←hax,←hhx]
              dsimp only [bK]
              refine Ent.trans ?_ (Ent.cons (Ent.cons (Ent.cons (Ent.cons (Ent.cons (aO Ent.refl))))))
              exact aB
            · unfold bK;simp [hkl]
            · unfold bK;simp [hal]
            · unfold bK;simp [hhl,hnn]
            · simp only [List.length_map];omega
            · simp only [List.length_map];omega
            · simp only [List.length_map];omega
theorem a3v {F:List HP} {c:Cfg} {ps:List PrQ} {v:Value} (hc:c.wf) (k:RdL F 1 v ps.length (aC b6n ps)) (kp:RdPr F ps) (hn:∀ p∈ps,p.1.length≤1099511627776) (h:nE c (ps.map (·.1))=false) :
    FnF Tryz.prog 17 [c.val,v] [] F (fun r L'=>r= .tuple [.pointer none,.int .i64 1].toArray∧L'=[]):=by
  cases hck:aF c with
  |false=>
   have hN:=fun F=>c2u (F:=F) hc hck
   refine FnF.mk' Tryz.func17 rfl rfl Tryz.ntmps17 rfl ?_
   repeat first|refine go ?_|intro _|refine iJ ?_|refine dM ?_|refine aD @hN ?_
   exact bF
  |true=>
   have hN:=fun F=>c6r (F:=F) hc hck
   by_cases hlen:(ps.length:Int)=c.cores
   · have hcf:=bG hck
     obtain ⟨n,hnl,hnp⟩:∃ n,∃ h:n<ps.length,lW c ps[n].1=false:=by
       have h1:¬∀ x∈ps.map (·.1),lW c x=true:=fun h2=>by
         rw [nE,hck,List.length_map,decide_eq_true hlen,List.all_eq_true.2 h2] at h;cases h
       refine Classical.byContradiction fun h3=>h1 fun x hx=>?_
       obtain ⟨p,hp,rfl⟩:=List.mem_map.1 hx
       obtain ⟨i,hi,rfl⟩:=List.getElem_of_mem hp
       cases e:lW c ps[i].1 with
       |true=>rfl
       |false=>exact absurd ⟨i,hi,e⟩ h3
     refine FnF.mk' Tryz.func17 rfl rfl Tryz.ntmps17 rfl ?_
     repeat first|refine go ?_|intro _|refine iJ ?_|refine dM ?_|refine aD @hN ?_
     rename_i b2 bn bm
     apply aW (E0:=[(2,_),(8,_),(36,_),(37,_)]) (fun E0 (q:Nat×List (Nat×CoS)×List (Nat×(Nat×CaS))×(Option Addr×Nat)×(Option Addr×Nat))=>(38,.int .i64 q.1)::E0)
       (fun q=>Cells bm 81 (f1w c 0 q.2.1.length q.2.2.1.length 0 0 q.2.2.2.1 q.2.2.2.2 (none,0) (none,0) bn)::Own 82 1 (.slice q.2.2.2.1.1 q.2.1.length q.2.2.2.1.2) q.2.1.length (aC b1d (q.2.1.map (·.1)))::Own 46 1 (.slice q.2.2.2.2.1 q.2.2.1.length q.2.2.2.2.2) q.2.2.1.length (aC b1d (q.2.2.1.map (·.1)))
         ::Cells b2 24 c.cells::F)
       (fun q=>q.1≤n∧q.2.1.length=q.1∧q.2.2.1.length=q.1) (fun q=>ps.length-q.1) (0,[],[],(none,0),(none,0))
     · exact m9
     · exact ⟨Nat.zero_le _,rfl,rfl⟩
     · dsimp only [List.length_nil]
       refine Ent.trans ?_ (Ent.cons (aO (aO Ent.refl)))
       exact aB
     · rintro ⟨i,kq,aq,⟨pk,ck⟩,⟨pa,ca⟩⟩ ⟨hi,hkl,hal⟩
       dsimp only at hi hkl hal ⊢
       have hlt:i<ps.length:=by omega
       have hpl:=hn _ (List.getElem_mem hlt)
       haveI krF:=c4s kp hlt
       cases hp:lW c ps[i].1 with
       |true=>
        have hne:i≠n:=fun e=>by subst e;rw [hp] at hnp;cases hnp
        have hC:=fun F' (k':RdL F' 3 (.slice ps[i].2.1 ps[i].1.length ps[i].2.2) ps[i].1.length (aC oc ps[i].1))=>b9o (F:=F') (c:=c) hc (l:=ps[i].1) k' (om) hp
        have hA:=fun F'=>d8q (F:=F') (c:=c) (core:=(i:Int)) hc ⟨hck,om,om⟩
        repeat' (first|refine go ?_|intro _|refine iJ ?_|refine dM ?_|refine aD @hC ?_|refine aD @hA ?_|refine nV ?_ ?_|fail)
        all_goals apply aT (i+1,kq++[(_,(⟨ps[i].1,[],[]⟩:CoS))],aq++[(_,(i,qE c))],(_,_),(_,_))
        all_goals first
        |(dsimp only;omega)
        |(exact m9;done)
        |(refine Ent.trans Ent.refl ?_;dsimp only;simp only [List.length_append,List.length_singleton,List.map_append,List.map_cons,List.map_nil,bJ,dW];exact aB)
        |skip
        all_goals exact ⟨by dsimp only;omega,by simp [hkl],by simp [hal]⟩
       |false=>
        have hC:=fun F' (k':RdL F' 3 (.slice ps[i].2.1 ps[i].1.length ps[i].2.2) ps[i].1.length (aC oc ps[i].1))=>b7v (F:=F') (c:=c) hc (l:=ps[i].1) k' (om) hp
        repeat first|refine go ?_|intro _|refine iJ ?_|refine dM ?_|refine aD @hC ?_
        exact bF
   · refine FnF.mk' Tryz.func17 rfl rfl Tryz.ntmps17 rfl ?_
     repeat first|refine go ?_|intro _|refine iJ ?_|refine dM ?_|refine aD @hN ?_
     exact bF
end
section
open Go Go.Proofs Go.ChangeShapes Go.WideShapes
theorem oN {W:World} {sz:Nat} {v:Value} {n:Nat} {xs:List Value} (k:ROld W sz v n xs):∃ a c,v= .slice a n c:=by
  rcases k.pf with ⟨q,c,h1,h2⟩|⟨b,o,c,h1,_⟩
  · exact ⟨q,c,by rw [h1,h2]⟩
  · exact ⟨_,c,h1⟩
def PrQ.ok (W:World) (p:PrQ):Prop:=ROld W 3 (.slice p.2.1 p.1.length p.2.2) p.1.length (aC oc p.1)∧(∀ x∈p.1,x.wf)∧p.1.length≤1000000000000000
theorem c5t {H:Type} (enc:TypeId×Value→H) (W:World) {cs:List Value} (h:LeafsOkS enc Tryz.prog W [.other 61] cs):∃ x:PrQ,x.ok W∧cs=b6n x∧(b6n x).all one=true:=by
  obtain ⟨c,cs,rfl,hc,h⟩:=a4n enc _ W h
  obtain rfl:=a7v enc _ W h
  obtain ⟨a,m,e,x,p,rfl,ht,hsm⟩:=b8g enc _ W (e:=58) Tryz.underlying61 hc
  obtain ⟨xs,hx,kx,lx,bx⟩:=lU enc Tryz.prog W (d:=6) (encA:=oc) (wf:=Op3.wf) (ks:=List.replicate 3 (.int .i64)) Tryz.underlying61 (by kernel_rfl) (by kernel_rfl) (by decide) (fun cs h=>e8x enc _ W (b4p enc _ W h)) ⟨a,m,e,rfl⟩ ht hsm
  have hb:Tryz.prog.bytesOf 58=24:=by kernel_rfl
  have hr:reachBytes=140737488351232:=rfl
  rw [hb,hr] at bx
  obtain ⟨a',c',hv⟩:=oN kx
  rw [hv] at kx ⊢
  exact ⟨(xs,a',c'),⟨kx,hx,by dsimp only;omega⟩,rfl,rfl⟩
end
end Go.Sx
