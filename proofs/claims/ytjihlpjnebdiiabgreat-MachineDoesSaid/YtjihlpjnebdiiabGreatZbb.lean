/- MaP, MaP2, MaC: several of my texts as one. My own work. -/
import Derived.Test.YtjihlpjnebdiiabGreatZau
import Derived.Test.YtjihlpjnebdiiabGreatZav
import Derived.Test.YtjihlpjnebdiiabGreatZaw
set_option linter.unusedVariables false
set_option linter.unusedSectionVars false
set_option linter.unusedSimpArgs false
set_option maxRecDepth 100000
set_option maxHeartbeats 4000000
namespace Go.Sx
open Go Go.Proofs Tryz
section
abbrev tP:=List c5×(Option Addr×Nat)
abbrev Am (p:tP):List Value:=[.slice p.2.1 p.1.length p.2.2]
class sN (L:List HP) (ps:List tP):Prop where
  pf:∀ p∈ps,bN L 3 (.slice p.2.1 p.1.length p.2.2) p.1.length (aj oc p.1)
instance sN.there {ps:List tP} {q:HP} {L:List HP} [k:sN L ps]:sN (q::L) ps:=⟨fun p hp=>by haveI:=k.pf p hp;exact bN.there⟩
instance sN.left {ps:List tP} {L M:List HP} [k:sN L ps]:sN (eX L M) ps:=⟨fun p hp=>by haveI:=k.pf p hp;exact bN.left⟩
theorem HD {L:List HP} {ps:List tP} (k:sN L ps) {i:Nat} (hi:i<ps.length):bN L 3 (.slice ps[i].2.1 ps[i].1.length ps[i].2.2) ps[i].1.length (aj oc ps[i].1):=k.pf _ (List.getElem_mem hi)
structure fP where
  kb:List Nat
  ab:List Nat
  hb:List Nat
  pk:Option Addr×Nat
  pa:Option Addr×Nat
  ph:Option Addr×Nat
  pt:Option Addr×Nat
  bn:Nat
abbrev jA (n:Nat):List Value:=[.pointer (some ⟨n,0,none⟩)]
abbrev Hb (x:Aq):List Value:=[.int .i64 x.ap,.int .i64 x.pos,.int .i64 x.op.ah,.int .i64 x.op.addr,.int .i64 x.op.value,.int .i64 x.pR]
abbrev BP (c:au) (aR:Int) (nk na nh nt:Nat) (pk pa ph pt:Option Addr×Nat) (bn:Nat):List Value:=[.int .i64 c.ax,.int .i64 c.bY,.int .i64 c.cl,.int .i64 c.al,.int .i64 c.ag,.int .i64 c.aZ,.int .i64 c.ef,.int .i64 c.aS,.int .i64 c.aQ,.int .i64 c.aw,.int .i64 c.r0,.int .i64 c.r1,.int .i64 c.r2,
  .slice pk.1 nk pk.2,.slice pa.1 na pa.2,.slice ph.1 nh ph.2,.pointer (some ⟨bn,0,none⟩),.slice pt.1 nt pt.2,.int .i64 aR]
def gG (c:au) (s:cg) (x:fP):Prop:=(s.ks.length=x.kb.length∧s.cs.length=x.ab.length∧s.hs.length=x.hb.length)∧((x.kb.length:Int)=c.ax∧(x.ab.length:Int)=c.ax∧(x.hb.length:Int)=c.bY)∧aB c=true
abbrev wC (b:Nat) (k:l7):HP:=jF b k.l k.rs k.tr
abbrev rf (x:fP) (s:cg) (i:Nat):HP:=wC (x.kb.getD i 0) (s.ks.getD i bQ)
abbrev nL (c:au) (x:fP) (s:cg) (i:Nat):HP:=oL (x.ab.getD i 0) c (i:Int) (s.cs.getD i aL)
abbrev nM (c:au) (x:fP) (s:cg) (i:Nat):HP:=gQ (x.hb.getD i 0) c (i:Int) (s.hs.getD i dl)
def dj (b:Nat) (c:au) (s:cg) (x:fP):HP:=bZ [ao b 102 (BP c s.aR x.kb.length x.ab.length x.hb.length s.tr.length x.pk x.pa x.ph x.pt x.bn),
  aT 103 1 (.slice x.pk.1 x.kb.length x.pk.2) x.kb.length (aj jA x.kb),aT 106 1 (.slice x.pa.1 x.ab.length x.pa.2) x.ab.length (aj jA x.ab),aT 109 1 (.slice x.ph.1 x.hb.length x.ph.2) x.hb.length (aj jA x.hb),
  j0 x.bn c s.n,aT 76 6 (.slice x.pt.1 s.tr.length x.pt.2) s.tr.length (aj Hb s.tr),bZ ((List.range x.kb.length).map (rf x s)),bZ ((List.range x.ab.length).map (nL c x s)),bZ ((List.range x.hb.length).map (nM c x s)),ja (gG c s x)]
def I8 (b:Nat) (c:au) (s:cg):HP:=Ex fun x:fP=>[dj b c s x]
theorem TN {b:Nat} {c:au} {s:cg} {x:fP} {L M:List HP} (h:ai L (dj b c s x::M)):ai L (I8 b c s::M):=ai.trans h (fU (p:=fun x:fP=>[dj b c s x]) x)
abbrev Cw (b:Nat) (c:au) (s:cg) (x:fP) (L:List HP):List HP:=ao b 102 (BP c s.aR x.kb.length x.ab.length x.hb.length s.tr.length x.pk x.pa x.ph x.pt x.bn)::aT 103 1 (.slice x.pk.1 x.kb.length x.pk.2) x.kb.length (aj jA x.kb)::aT 106 1 (.slice x.pa.1 x.ab.length x.pa.2) x.ab.length (aj jA x.ab)
  ::aT 109 1 (.slice x.ph.1 x.hb.length x.ph.2) x.hb.length (aj jA x.hb)::j0 x.bn c s.n::aT 76 6 (.slice x.pt.1 s.tr.length x.pt.2) s.tr.length (aj Hb s.tr)::bZ ((List.range x.kb.length).map (rf x s))::bZ ((List.range x.ab.length).map (nL c x s))::bZ ((List.range x.hb.length).map (nM c x s))::L
theorem MY {b:Nat} {c:au} {s:cg} {x:fP} {L M:List HP} {nk na nh nt:Nat} {vk va vh vt:List Value} {pk pa ph pt:Option Addr} {ck ca ch ct bn:Nat}
    (h:ai L (ao b 102 (BP c s.aR nk na nh nt (pk,ck) (pa,ca) (ph,ch) (pt,ct) bn)::aT 103 1 (.slice pk nk ck) nk vk::aT 106 1 (.slice pa na ca) na va::aT 109 1 (.slice ph nh ch) nh vh
     ::j0 bn c s.n::aT 76 6 (.slice pt nt ct) nt vt::bZ ((List.range x.kb.length).map (rf x s))::bZ ((List.range x.ab.length).map (nL c x s))::bZ ((List.range x.hb.length).map (nM c x s))::M))
    (hf:gG c s x) (hx:x.pk=(pk,ck)∧x.pa=(pa,ca)∧x.ph=(ph,ch)∧x.pt=(pt,ct)∧x.bn=bn) (h1:nk=x.kb.length) (h2:na=x.ab.length) (h3:nh=x.hb.length) (h4:nt=s.tr.length) (h5:vk=aj jA x.kb) (h6:va=aj jA x.ab) (h7:vh=aj jA x.hb) (h8:vt=aj Hb s.tr):ai L (dj b c s x::M):=by
  obtain ⟨kb,ab,hb,pk',pa',ph',rr,bn'⟩:=x;obtain ⟨rfl,rfl,rfl,rfl,rfl⟩:=hx;subst h1 h2 h3 h4 h5 h6 h7 h8;refine ai.trans h (ai.trans ?_ jN);exact ai.cons (ai.cons (ai.cons (ai.cons (ai.cons (ai.cons (ai.cons (ai.cons (ai.cons (cX hf)))))))))
theorem z8 {b:Nat} {c:au} {s:cg} {x:fP} {L:List HP} {w:World} (h:Sat (dj b c s x::L) w):gG c s x∧Sat (Cw b c s x L) w:=by
  have hx:=km _ h;exact ⟨fc (aG (aG (aG (aG (aG (aG (aG (aG (aG hx))))))))),(ai.cons (ai.cons (ai.cons (ai.cons (ai.cons (ai.cons (ai.cons (ai.cons (ai.cons (ai.drop ai.refl)))))))))) _ hx⟩
section
variable {b:Nat} {c:au} {s:cg} {x:fP} {P:Program} {N:Nat} {env:Env} {L:List HP} {Q:Exit→Act→World→Prop}
theorem gZ {co:Code} (h:gG c s x→WC P N co env (Cw b c s x L) Q):WC P N co env (dj b c s x::L) Q:=fun a w ha hw=>h (z8 hw).1 a w ha (z8 hw).2
theorem Ow {co:Code} (h:∀ x,WC P N co env (dj b c s x::L) Q):WC P N co env (I8 b c s::L) Q:=by
  intro a w ha hw;obtain ⟨x,hx⟩:=eN hw;exact h x a w ha hx
theorem Dt {all:Array Oper} {o:List Oper} (h:∀ x,WO P N all o env (dj b c s x::L) Q):WO P N all o env (I8 b c s::L) Q:=by
  intro a w ha hw;obtain ⟨x,hx⟩:=eN hw;exact h x a w ha hx
end
theorem oA {f:Nat→HP} {n i:Nat} {L:List HP} (hi:i<n):ai (bZ ((List.range n).map f)::L) (f i::bZ (((List.range n).eraseIdx i).map f)::L):=by
  have h:i<(List.range n).length:=by simpa using hi
  have:=nj (f:=f) (L:=L) (qs:=List.range n) i h;rwa [List.getElem_range] at this
theorem qU {f g:Nat→HP} {n i:Nat} {L:List HP} (hi:i<n) (hg:∀ j,j<n→j≠i→g j=f j):ai (g i::bZ (((List.range n).eraseIdx i).map f)::L) (bZ ((List.range n).map g)::L):=by
  have h:i<(List.range n).length:=by simpa using hi
  have:=Ns (f:=g) (L:=L) (qs:=List.range n) i h;rw [List.getElem_range] at this;have e:((List.range n).eraseIdx i).map f=((List.range n).eraseIdx i).map g:=by
    refine List.map_congr_left fun j hj=>?_;have h1:=List.mem_range.1 (List.mem_of_mem_eraseIdx hj);refine (hg j h1 fun e=>?_).symm;subst e;obtain ⟨k,hk,e2⟩:=List.getElem_of_mem hj;rw [List.getElem_eraseIdx] at e2;split at e2<;>(rw [List.getElem_range] at e2;omega)
  rw [e];exact this
abbrev F7 (p:Nat×l7):HP:=wC p.1 p.2
abbrev Eh (c:au) (p:Nat×(Nat×cT)):HP:=oL p.1 c (p.2.1:Int) p.2.2
abbrev F8 (c:au) (p:Nat×(Nat×di)):HP:=gQ p.1 c (p.2.1:Int) p.2.2
theorem TO {kq:List (Nat×l7)} {b:Nat} {k:l7} {L M:List HP} (h:ai L (jF b k.l k.rs k.tr::bZ (kq.map F7)::M)):ai L (bZ (kq.map F7++[F7 (b,k)])::M):=by
  have:=ai.trans h (o7 (f:=F7) (b,k));rwa [List.map_append] at this
theorem TP {c:au} {aq:List (Nat×(Nat×cT))} {b i:Nat} {k:cT} {L M:List HP} (h:ai L (oL b c (i:Int) k::bZ (aq.map (Eh c))::M)):ai L (bZ (aq.map (Eh c)++[Eh c (b,(i,k))])::M):=by
  have:=ai.trans h (o7 (f:=Eh c) (b,(i,k)));rwa [List.map_append] at this
theorem TQ {c:au} {hq:List (Nat×(Nat×di))} {b i:Nat} {k:di} {L M:List HP} (h:ai L (gQ b c (i:Int) k::bZ (hq.map (F8 c))::M)):ai L (bZ (hq.map (F8 c)++[F8 c (b,(i,k))])::M):=by
  have:=ai.trans h (o7 (f:=F8 c) (b,(i,k)));rwa [List.map_append] at this
theorem z9 {α:Type} {aq:List (Nat×(Nat×α))} {b i:Nat} {k:α} (hl:aq.length=i) (h:∀ j (hj:j<aq.length),aq[j].2.1=j):∀ j (hj:j<(aq++[(b,(i,k))]).length),(aq++[(b,(i,k))])[j].2.1=j:=by
  intro j hj;by_cases h1:j<aq.length
  ·rw [List.getElem_append_left h1];exact h j h1
  ·rw [List.getElem_append_right (om)];have:j=i:=by simp at hj;omega
   simp [this]
theorem mB {c:au} (h:aB c=true):1≤c.bY∧c.bY≤16:=by
  obtain ⟨_,⟨k,hk,e⟩,_⟩:=cp h;have:=mE hk;rw [e];simpa using this
attribute [local irreducible] Exit.then Exit.inBlock Code.wp WC WO WE WQ V aW dL Sat bz bK dU IntKind.wrap WR Code.rounds WT KO
theorem pQ {F:List HP} {n m:Int}:az prog 57 [.int .i64 n,.int .i64 m] [] F (fun r L'=>r= .bool (decide (0≤n∧n<m))∧L'=[]):=by
  refine ay func57 ntmps57 ?_;by_cases h0:0≤n
  ·repeat first|refine gd ?_|intro _
   (apply ad rfl rfl ar;(first|exact cS|exact ⟨by simp [h0]<;>omega,rfl⟩);exact bM)
  ·have:¬(0≤n∧n<m):=fun h=>h0 h.1;repeat first|refine gd ?_|intro _
   (apply ad rfl rfl ar;(first|exact cS|exact ⟨by simp [this]<;>omega,rfl⟩);exact bM)
theorem jx {Q P:Prop} (k:Q) (h:Hid Q→P:=by
  intro k
  first
  |(refine an ?_;apply nC (id:=12) .true _ (pl:= .p 0 <| .p 1 <| .p 2 <| .p 3 <| .p 4 <| .p 6 <| .p 9 <| .p 10 <| .p 11 <| .p 13 <| .r 5 <| .e true [(7,.e true [(8,.e false [(12,.e false [(14,.e false [(15,.p 16 <| .p 17 <| .e false [(18,.p 19 <| .p 20 <| .e false [(21,.done)])])])]),(14,.e false [(12,.e false [(15,.p 16 <| .p 17 <| .e false [(18,.p 19 <| .p 20 <| .e false [(21,.done)])])])])]),(12,.e true [(8,.e false [(14,.e false [(15,.p 16 <| .p 17 <| .e false [(18,.p 19 <| .p 20 <| .e false [(21,.done)])])])]),(14,.e true [(8,.e false [(15,.p 16 <| .p 17 <| .e false [(18,.p 19 <| .p 20 <| .e false [(21,.done)])])])])]),(14,.e true [(8,.e false [(12,.e false [(15,.p 16 <| .p 17 <| .e false [(18,.p 19 <| .p 20 <| .e false [(21,.done)])])])]),(12,.e true [(8,.e false [(15,.p 16 <| .p 17 <| .e false [(18,.p 19 <| .p 20 <| .e false [(21,.done)])])])])])]),(12,.e true [(7,.e true [(8,.e false [(14,.e false [(15,.p 16 <| .p 17 <| .e false [(18,.p 19 <| .p 20 <| .e false [(21,.done)])])])]),(14,.e true [(8,.e false [(15,.p 16 <| .p 17 <| .e false [(18,.p 19 <| .p 20 <| .e false [(21,.done)])])])])]),(14,.e true [(7,.e true [(8,.e false [(15,.p 16 <| .p 17 <| .e false [(18,.p 19 <| .p 20 <| .e false [(21,.done)])])])])])]),(14,.e true [(7,.e true [(8,.e false [(12,.e false [(15,.p 16 <| .p 17 <| .e false [(18,.p 19 <| .p 20 <| .e false [(21,.done)])])])]),(12,.e true [(8,.e false [(15,.p 16 <| .p 17 <| .e false [(18,.p 19 <| .p 20 <| .e false [(21,.done)])])])])]),(12,.e true [(7,.e true [(8,.e false [(15,.p 16 <| .p 17 <| .e false [(18,.p 19 <| .p 20 <| .e false [(21,.done)])])])])])])]);exact mixed;kernel_rfl;kernel_rfl;exact ai.refl;exact k.out)):P:=h ⟨k⟩
theorem MZ {F:List HP} {c:au} {ps:List tP} {v:Value} (hc:c.wf) (k:bN F 1 v ps.length (aj Am ps)) (kp:sN F ps) (h:sM c (ps.map (·.1))=true) :
    az prog 12 [c.val,v] [] F (fun r L'=>∃ b,r= .tuple [.pointer (some ⟨b,0,none⟩),.int .i64 0].toArray∧L'=[I8 b c (cx c (ps.map (·.1)))]):=by
  simp only [sM,Bool.and_eq_true,decide_eq_true_eq,List.all_eq_true,List.length_map] at h;obtain ⟨⟨rH,hlen⟩,kQ⟩:=h;have Hc:=cp rH;have hN:=fun F=>JF (F:=F) hc rH;refine ay func12 ntmps12 ?_;repeat first|refine go ?_|intro _|refine jx ?_|refine av ?_|refine ae @hN ?_
  rename_i b2 bn bm
  apply aO (E0:=[(2,_),(8,_),(36,_),(37,_)]) (fun E0 (q:Nat×List (Nat×l7)×List (Nat×(Nat×cT))×(Option Addr×Nat)×(Option Addr×Nat))=>(38,.int .i64 q.1)::E0)
    (fun q=>ao bm 102 (BP c 0 q.2.1.length q.2.2.1.length 0 0 q.2.2.2.1 q.2.2.2.2 (none,0) (none,0) bn)::aT 103 1 (.slice q.2.2.2.1.1 q.2.1.length q.2.2.2.1.2) q.2.1.length (aj jA (q.2.1.map (·.1)))::aT 106 1 (.slice q.2.2.2.2.1 q.2.2.1.length q.2.2.2.2.2) q.2.2.1.length (aj jA (q.2.2.1.map (·.1)))
      ::j0 bn c .no::bZ (q.2.1.map F7)::bZ (q.2.2.1.map (Eh c))::ao b2 25 c.cells::F)
    (fun q=>q.1≤ps.length∧q.2.1.length=q.1∧q.2.2.1.length=q.1∧q.2.1.map (·.2)=(ps.take q.1).map (fun p=>⟨p.1,[],[]⟩)∧q.2.2.1.map (·.2.2)=List.replicate q.1 (mi c)∧∀ j (hj:j<q.2.2.1.length),q.2.2.1[j].2.1=j) (fun q=>ps.length-q.1) (0,[],[],(none,0),(none,0))
  ·exact bH
  ·exact ⟨Nat.zero_le _,rfl,rfl,rfl,rfl,fun j hj=>absurd hj (Nat.not_lt_zero _)⟩
  ·dsimp only [List.length_nil];refine ai.trans ?_ (ai.cons (aI (aI (ai.cons (ai.trans all_nil (ai.cons all_nil))))));exact af
  ·rintro ⟨i,kq,aq,⟨pk,ck⟩,⟨pa,ca⟩⟩ ⟨hi,xY,vM,BN,L4,O2⟩;dsimp only at hi xY vM BN L4 O2 ⊢;by_cases bB:i<ps.length
   ·have hp:=kQ _ (List.mem_map_of_mem (List.getElem_mem bB));have Pw:=tW hp;haveI W8:=HD kp bB;have hC:=fun F' (k':bN F' 3 (.slice ps[i].2.1 ps[i].1.length ps[i].2.2) ps[i].1.length (aj oc ps[i].1))=>FB (F:=F') (c:=c) hc (l:=ps[i].1) k' (om) hp;have hA:=fun F'=>ML (F:=F') (c:=c) (ap:=(i:Int)) hc ⟨rH,om,om⟩
    have key:∀ bk ba:Nat,i+1≤ps.length∧(kq++[(bk,(⟨ps[i].1,[],[]⟩:l7))]).length=i+1∧(aq++[(ba,(i,mi c))]).length=i+1∧(kq++[(bk,(⟨ps[i].1,[],[]⟩:l7))]).map (·.2)=(ps.take (i+1)).map (fun p=>⟨p.1,[],[]⟩)
     ∧(aq++[(ba,(i,mi c))]).map (·.2.2)=List.replicate (i+1) (mi c)∧∀ j (hj:j<(aq++[(ba,(i,mi c))]).length),(aq++[(ba,(i,mi c))])[j].2.1=j:=fun bk ba=>by
      refine ⟨om,by simp [xY],by simp [vM],?_,?_,z9 vM O2⟩
      ·rw [List.take_add_one,List.getElem?_eq_getElem bB,Option.toList_some,List.map_append,List.map_append,BN];rfl
      ·rw [List.map_append,L4,List.replicate_succ'];rfl
    repeat' (first|refine go ?_|intro _|refine jx ?_|refine av ?_|refine ae @hC ?_|refine ae @hA ?_|refine bj ?_ ?_|fail)
    all_goals apply aC (i+1,kq++[(_,(⟨ps[i].1,[],[]⟩:l7))],aq++[(_,(i,mi c))],(_,_),(_,_))
    all_goals first
    |(dsimp only;omega)
    |(exact bH;done)
    |(dsimp only;simp only [List.length_append,List.length_singleton,List.map_append,List.map_cons,List.map_nil,aJ,bi];((repeat (first|(with_reducible exact ai.refl)|exact ai.nil|(apply iX;exact G4)|(apply TO)|(apply TP)|apply ai.drop));all_goals exact bu))
    |skip
    all_goals exact key _ _
   ·have kM:i=ps.length:=by omega
    subst kM;rw [List.take_length] at BN;repeat first|refine go ?_|intro _|refine jx ?_|refine av ?_
    have hh:=mB rH
    apply aO (E0:=[(2,_),(8,_),(79,_)]) (fun E0 (q:Nat×List (Nat×(Nat×di))×(Option Addr×Nat))=>(80,.int .i64 q.1)::E0)
      (fun q=>ao bm 102 (BP c 0 kq.length aq.length q.2.1.length 0 (pk,ck) (pa,ca) q.2.2 (none,0) bn)::aT 103 1 (.slice pk kq.length ck) kq.length (aj jA (kq.map (·.1)))::aT 106 1 (.slice pa aq.length ca) aq.length (aj jA (aq.map (·.1)))
        ::aT 109 1 (.slice q.2.2.1 q.2.1.length q.2.2.2) q.2.1.length (aj jA (q.2.1.map (·.1)))::j0 bn c .no::bZ (kq.map F7)::bZ (aq.map (Eh c))::bZ (q.2.1.map (F8 c))::ao b2 25 c.cells::F)
      (fun q=>(q.1:Int)≤c.bY∧q.2.1.length=q.1∧q.2.1.map (·.2.2)=(List.range q.1).map (fun (j:Nat)=>lT c (j:Int))∧∀ j (hj:j<q.2.1.length),q.2.1[j].2.1=j) (fun q=>c.bY.toNat-q.1) (0,[],(none,0))
    ·exact bH
    ·exact ⟨om,rfl,rfl,fun j hj=>absurd hj (Nat.not_lt_zero _)⟩
    ·dsimp only [List.length_nil];refine ai.trans ?_ (ai.cons (ai.cons (ai.cons (aI (ai.cons (ai.cons (ai.cons all_nil)))))));exact af
    ·rintro ⟨n,hq,⟨ph,ch⟩⟩ ⟨hn,I9,PK,L0⟩;dsimp only at hn I9 PK L0 ⊢;by_cases bB:(n:Int)<c.bY
     ·have hH:=fun F'=>Tm (F:=F') (c:=c) (num:=(n:Int)) hc (by unfold tA;rw [rH,decide_eq_true ⟨om,bB⟩];rfl)
      have key:∀ bh:Nat,((n+1:Nat):Int)≤c.bY∧(hq++[(bh,(n,lT c (n:Int)))]).length=n+1∧(hq++[(bh,(n,lT c (n:Int)))]).map (·.2.2)=(List.range (n+1)).map (fun (j:Nat)=>lT c (j:Int))
       ∧∀ j (hj:j<(hq++[(bh,(n,lT c (n:Int)))]).length),(hq++[(bh,(n,lT c (n:Int)))])[j].2.1=j:=fun bh=>by
        refine ⟨om,by simp [I9],?_,z9 I9 L0⟩;rw [List.map_append,PK,List.range_succ,List.map_append];rfl
      repeat' (first|refine go ?_|intro _|refine jx ?_|refine av ?_|refine ae @hH ?_|refine bj ?_ ?_|fail)
      all_goals apply aC (n+1,hq++[(_,(n,lT c (n:Int)))],(_,_))
      all_goals first
      |(dsimp only;omega)
      |(exact bH;done)
      |(dsimp only;simp only [List.length_append,List.length_singleton,List.map_append,List.map_cons,List.map_nil,aJ,bi];exact eb @TQ)
      |skip
      all_goals exact key _
     ·have UJ:n=c.bY.toNat:=by omega
      repeat first|refine go ?_|intro _|refine jx ?_|refine av ?_
      (apply ad rfl rfl ar)
      ·exact ⟨_,rfl,rfl⟩
      ·have W9:kq.map F7=(List.range (kq.map (·.1)).length).map (rf ⟨kq.map (·.1),aq.map (·.1),hq.map (·.1),(pk,ck),(pa,ca),(ph,ch),(none,0),bn⟩ (cx c (ps.map (·.1)))):=by
         apply List.ext_getElem (by simp);intro j h1 h2;have e1:(cx c (ps.map (·.1))).ks=kq.map (·.2):=by rw [BN];unfold cx;rw [List.map_map];rfl
         have hj:j<kq.length:=by simpa using h1
         simp [rf,e1,hj]
       have Xa:aq.map (Eh c)=(List.range (aq.map (·.1)).length).map (nL c ⟨kq.map (·.1),aq.map (·.1),hq.map (·.1),(pk,ck),(pa,ca),(ph,ch),(none,0),bn⟩ (cx c (ps.map (·.1)))):=by
         apply List.ext_getElem (by simp);intro j h1 h2;have e1:(cx c (ps.map (·.1))).cs=aq.map (·.2.2):=by
           rw [L4]
           show (ps.map (·.1)).map (fun _=>mi c)=_;rw [List.map_const',List.length_map]
         have hj:j<aq.length:=by simpa using h1
         simp [nL,Eh,e1,hj,O2 j hj]
       have Xb:hq.map (F8 c)=(List.range (hq.map (·.1)).length).map (nM c ⟨kq.map (·.1),aq.map (·.1),hq.map (·.1),(pk,ck),(pa,ca),(ph,ch),(none,0),bn⟩ (cx c (ps.map (·.1)))):=by
         apply List.ext_getElem (by simp);intro j h1 h2;have e1:(cx c (ps.map (·.1))).hs=hq.map (·.2.2):=by rw [PK,UJ];rfl
         have hj:j<hq.length:=by simpa using h1
         simp [nM,F8,e1,hj,L0 j hj]
       refine TN (x:=⟨kq.map (·.1),aq.map (·.1),hq.map (·.1),(pk,ck),(pa,ca),(ph,ch),(none,0),bn⟩) (MY (nk:=kq.length) (na:=aq.length) (nh:=hq.length) (nt:=0) (vk:=aj jA (kq.map (·.1))) (va:=aj jA (aq.map (·.1))) (vh:=aj jA (hq.map (·.1))) (vt:=[]) ?_ ⟨⟨?_,?_,?_⟩,⟨?_,?_,?_⟩,rH⟩ ⟨rfl,rfl,rfl,rfl,rfl⟩ (by simp) (by simp) (by simp) rfl rfl rfl rfl rfl)
       ·rw [←W9,←Xa,←Xb];dsimp only [cx];refine ai.trans ?_ (ai.cons (ai.cons (ai.cons (ai.cons (ai.cons (aI ai.refl))))));exact af
       ·unfold cx;simp [xY]
       ·unfold cx;simp [vM]
       ·unfold cx;simp [I9,UJ]
       ·simp only [List.length_map];omega
       ·simp only [List.length_map];omega
       ·simp only [List.length_map];omega
theorem Du {F:List HP} {c:au} {ps:List tP} {v:Value} (hc:c.wf) (k:bN F 1 v ps.length (aj Am ps)) (kp:sN F ps) (hn:∀ p∈ps,p.1.length≤1099511627776) (h:sM c (ps.map (·.1))=false) :
    az prog 12 [c.val,v] [] F (fun r L'=>r= .tuple [.pointer none,.int .i64 1].toArray∧L'=[]):=by
  cases rH:aB c with
  |false=>
   have hN:=fun F=>Iy (F:=F) hc rH;refine ay func12 ntmps12 ?_;repeat first|refine go ?_|intro _|refine jx ?_|refine av ?_|refine ae @hN ?_
   exact aM
  |true=>
   have hN:=fun F=>JF (F:=F) hc rH;by_cases hlen:(ps.length:Int)=c.ax
   ·have Hc:=cp rH;obtain ⟨n,hnl,UK⟩:∃ n,∃ h:n<ps.length,fl c ps[n].1=false:=by
      have h1:¬∀ x∈ps.map (·.1),fl c x=true:=fun h2=>by
        rw [sM,rH,List.length_map,decide_eq_true hlen,List.all_eq_true.2 h2] at h;cases h
      refine Classical.byContradiction fun h3=>h1 fun x hx=>?_;obtain ⟨p,hp,rfl⟩:=List.mem_map.1 hx;obtain ⟨i,hi,rfl⟩:=List.getElem_of_mem hp;cases e:fl c ps[i].1 with
      |true=>rfl
      |false=>exact absurd ⟨i,hi,e⟩ h3
    refine ay func12 ntmps12 ?_;repeat first|refine go ?_|intro _|refine jx ?_|refine av ?_|refine ae @hN ?_
    rename_i b2 bn bm
    apply aO (E0:=[(2,_),(8,_),(36,_),(37,_)]) (fun E0 (q:Nat×List (Nat×l7)×List (Nat×(Nat×cT))×(Option Addr×Nat)×(Option Addr×Nat))=>(38,.int .i64 q.1)::E0)
      (fun q=>ao bm 102 (BP c 0 q.2.1.length q.2.2.1.length 0 0 q.2.2.2.1 q.2.2.2.2 (none,0) (none,0) bn)::aT 103 1 (.slice q.2.2.2.1.1 q.2.1.length q.2.2.2.1.2) q.2.1.length (aj jA (q.2.1.map (·.1)))::aT 106 1 (.slice q.2.2.2.2.1 q.2.2.1.length q.2.2.2.2.2) q.2.2.1.length (aj jA (q.2.2.1.map (·.1)))
        ::ao b2 25 c.cells::F)
      (fun q=>q.1≤n∧q.2.1.length=q.1∧q.2.2.1.length=q.1) (fun q=>ps.length-q.1) (0,[],[],(none,0),(none,0))
    ·exact bH
    ·exact ⟨Nat.zero_le _,rfl,rfl⟩
    ·dsimp only [List.length_nil];refine ai.trans ?_ (ai.cons (aI (aI ai.refl)));exact af
    ·rintro ⟨i,kq,aq,⟨pk,ck⟩,⟨pa,ca⟩⟩ ⟨hi,xY,vM⟩;dsimp only at hi xY vM ⊢;have bB:i<ps.length:=by omega
     have Pw:=hn _ (List.getElem_mem bB);haveI W8:=HD kp bB;cases hp:fl c ps[i].1 with
     |true=>
      have kz:i≠n:=fun e=>by subst e;rw [hp] at UK;cases UK
      have hC:=fun F' (k':bN F' 3 (.slice ps[i].2.1 ps[i].1.length ps[i].2.2) ps[i].1.length (aj oc ps[i].1))=>FB (F:=F') (c:=c) hc (l:=ps[i].1) k' (om) hp;have hA:=fun F'=>ML (F:=F') (c:=c) (ap:=(i:Int)) hc ⟨rH,om,om⟩;repeat' (first|refine go ?_|intro _|refine jx ?_|refine av ?_|refine ae @hC ?_|refine ae @hA ?_|refine bj ?_ ?_|fail)
      all_goals apply aC (i+1,kq++[(_,(⟨ps[i].1,[],[]⟩:l7))],aq++[(_,(i,mi c))],(_,_),(_,_))
      all_goals first
      |(dsimp only;omega)
      |(exact bH;done)
      |(refine ai.trans ai.refl ?_;dsimp only;simp only [List.length_append,List.length_singleton,List.map_append,List.map_cons,List.map_nil,aJ,bi];exact af)
      |skip
      all_goals exact ⟨by dsimp only;omega,by simp [xY],by simp [vM]⟩
     |false=>
      have hC:=fun F' (k':bN F' 3 (.slice ps[i].2.1 ps[i].1.length ps[i].2.2) ps[i].1.length (aj oc ps[i].1))=>Gz (F:=F') (c:=c) hc (l:=ps[i].1) k' (om) hp;repeat first|refine go ?_|intro _|refine jx ?_|refine av ?_|refine ae @hC ?_
      exact aM
   ·refine ay func12 ntmps12 ?_;repeat first|refine go ?_|intro _|refine jx ?_|refine av ?_|refine ae @hN ?_
    exact aM
end
section
def LQ (b:Nat) (c:au) (s:cg) (x:fP) (i:Nat):HP:=bZ [ao b 102 (BP c s.aR x.kb.length x.ab.length x.hb.length s.tr.length x.pk x.pa x.ph x.pt x.bn),
  aT 103 1 (.slice x.pk.1 x.kb.length x.pk.2) x.kb.length (aj jA x.kb),aT 106 1 (.slice x.pa.1 x.ab.length x.pa.2) x.ab.length (aj jA x.ab),aT 109 1 (.slice x.ph.1 x.hb.length x.ph.2) x.hb.length (aj jA x.hb),
  j0 x.bn c s.n,aT 76 6 (.slice x.pt.1 s.tr.length x.pt.2) s.tr.length (aj Hb s.tr),bZ ((List.range x.kb.length).map (rf x s)),bZ (((List.range x.ab.length).eraseIdx i).map (nL c x s)),bZ ((List.range x.hb.length).map (nM c x s)),ja (gG c s x)]
def LR (b:Nat) (c:au) (s:cg) (x:fP) (i:Nat):HP:=bZ [ao b 102 (BP c s.aR x.kb.length x.ab.length x.hb.length s.tr.length x.pk x.pa x.ph x.pt x.bn),
  aT 103 1 (.slice x.pk.1 x.kb.length x.pk.2) x.kb.length (aj jA x.kb),aT 106 1 (.slice x.pa.1 x.ab.length x.pa.2) x.ab.length (aj jA x.ab),aT 109 1 (.slice x.ph.1 x.hb.length x.ph.2) x.hb.length (aj jA x.hb),
  j0 x.bn c s.n,aT 76 6 (.slice x.pt.1 s.tr.length x.pt.2) s.tr.length (aj Hb s.tr),bZ ((List.range x.kb.length).map (rf x s)),bZ ((List.range x.ab.length).map (nL c x s)),bZ (((List.range x.hb.length).eraseIdx i).map (nM c x s)),ja (gG c s x)]
theorem fV {α:Type} {l:List α} {i j:Nat} {a d:α}:(l.set i a).getD j d=if j=i∧i<l.length then a else l.getD j d:=by
  rw [List.getD_eq_getElem?_getD,List.getElem?_set,List.getD_eq_getElem?_getD];by_cases h:i=j
  ·subst h;by_cases h2:i<l.length<;>simp [h2]
  ·rw [if_neg h,if_neg (fun g=>h g.1.symm)]
theorem FO {b:Nat} {c:au} {s:cg} {x:fP} {i:Nat} {L:List HP} (hi:i<x.ab.length):ai (dj b c s x::L) (nL c x s i::LQ b c s x i::L):=by
  refine ai.trans km (ai.trans ?_ (ai.cons jN))
  show ai (_::_::_::_::_::_::_::bZ _::_::_::L) (_::_::_::_::_::_::_::_::bZ _::_::_::L);refine ai.trans (ai.cons (ai.cons (ai.cons (ai.cons (ai.cons (ai.cons (ai.cons (oA hi)))))))) ?_;exact fD (List.perm_middle (l₁:=[_,_,_,_,_,_,_]) (l₂:=bZ _::_::_::L)).symm.symm
theorem FP {b:Nat} {c:au} {s:cg} {x:fP} {i:Nat} {L:List HP} (hi:i<x.hb.length):ai (dj b c s x::L) (nM c x s i::LR b c s x i::L):=by
  refine ai.trans km (ai.trans ?_ (ai.cons jN));refine ai.trans (ai.cons (ai.cons (ai.cons (ai.cons (ai.cons (ai.cons (ai.cons (ai.cons (oA hi))))))))) ?_;exact fD (List.perm_middle (l₁:=[_,_,_,_,_,_,_,_]) (l₂:=bZ _::_::L)).symm.symm
theorem Rh {b:Nat} {c:au} {s:cg} {x:fP} {i:Nat} {k:cT} {L M:List HP} (h:ai L (oL (x.ab.getD i 0) c (i:Int) k::LQ b c s x i::M)) (hi:i<x.ab.length) (hl:s.cs.length=x.ab.length):ai L (dj b c (re s i k) x::M):=by
  refine ai.trans h (ai.trans (ai.cons km) (ai.trans ?_ jN));refine ai.trans (fD (List.perm_middle (l₁:=[_,_,_,_,_,_,_]) (l₂:=bZ _::_::_::M)).symm) ?_;refine ai.cons (ai.cons (ai.cons (ai.cons (ai.cons (ai.cons (ai.cons ?_))))));have e:oL (x.ab.getD i 0) c (i:Int) k=nL c x (re s i k) i:=by
    unfold nL re;dsimp only;rw [Int.toNat_natCast,fV,if_pos ⟨rfl,om⟩]
  rw [e];refine ai.trans (qU (g:=nL c x (re s i k)) hi fun j hj kz=>?_) (ai.cons (ai.cons ?_))
  ·unfold nL re;dsimp only;rw [Int.toNat_natCast,fV,if_neg (fun h=>kz h.1)]
  ·intro w hw;have hf:=fc hw
   exact cX (by
     obtain ⟨⟨a1,a2,a3⟩,a4,a5⟩:=hf;refine ⟨⟨a1,?_,a3⟩,a4,a5⟩;unfold re;dsimp only;rw [List.length_set];exact a2) _ (aG hw)
theorem Ri {b:Nat} {c:au} {s:cg} {x:fP} {i:Nat} {k:di} {L M:List HP} (h:ai L (gQ (x.hb.getD i 0) c (i:Int) k::LR b c s x i::M)) (hi:i<x.hb.length) (hl:s.hs.length=x.hb.length):ai L (dj b c (wy s i k) x::M):=by
  refine ai.trans h (ai.trans (ai.cons km) (ai.trans ?_ jN));refine ai.trans (fD (List.perm_middle (l₁:=[_,_,_,_,_,_,_,_]) (l₂:=bZ _::_::M)).symm) ?_;refine ai.cons (ai.cons (ai.cons (ai.cons (ai.cons (ai.cons (ai.cons (ai.cons ?_)))))));have e:gQ (x.hb.getD i 0) c (i:Int) k=nM c x (wy s i k) i:=by
    unfold nM wy;dsimp only;rw [Int.toNat_natCast,fV,if_pos ⟨rfl,om⟩]
  rw [e];refine ai.trans (qU (g:=nM c x (wy s i k)) hi fun j hj kz=>?_) (ai.cons ?_)
  ·unfold nM wy;dsimp only;rw [Int.toNat_natCast,fV,if_neg (fun h=>kz h.1)]
  ·intro w hw;have hf:=fc hw
   exact cX (by
     obtain ⟨⟨a1,a2,a3⟩,a4,a5⟩:=hf;refine ⟨⟨a1,a2,?_⟩,a4,a5⟩;unfold wy;dsimp only;rw [List.length_set];exact a3) _ (aG hw)
theorem Ls {s:cg} {i:Nat}:re s i (s.cs.getD i aL)=s:=by
  have:s.cs.set i (s.cs.getD i aL)=s.cs:=by
    by_cases h:i<s.cs.length
    ·rw [List.getD_eq_getElem?_getD,List.getElem?_eq_getElem h];simp
    ·rw [List.set_eq_of_length_le (om)]
  unfold re;rw [Int.toNat_natCast,this]
theorem Lt {s:cg} {i:Nat}:wy s i (s.hs.getD i dl)=s:=by
  have:s.hs.set i (s.hs.getD i dl)=s.hs:=by
    by_cases h:i<s.hs.length
    ·rw [List.getD_eq_getElem?_getD,List.getElem?_eq_getElem h];simp
    ·rw [List.set_eq_of_length_le (om)]
  unfold wy;rw [Int.toNat_natCast,this]
theorem Dv {b:Nat} {c:au} {s:cg} {x:fP} {i:Nat} {L M:List HP} (h:ai L (oL (x.ab.getD i 0) c (i:Int) (s.cs.getD i aL)::LQ b c s x i::M)) (hi:i<x.ab.length) (hl:s.cs.length=x.ab.length):ai L (dj b c s x::M):=by
  have:=Rh h hi hl;rwa [Ls] at this
theorem Dw {b:Nat} {c:au} {s:cg} {x:fP} {i:Nat} {L M:List HP} (h:ai L (gQ (x.hb.getD i 0) c (i:Int) (s.hs.getD i dl)::LR b c s x i::M)) (hi:i<x.hb.length) (hl:s.hs.length=x.hb.length):ai L (dj b c s x::M):=by
  have:=Ri h hi hl;rwa [Lt] at this
section
variable {b:Nat} {c:au} {s:cg} {x:fP} {P:Program} {N:Nat} {env:Env} {L:List HP} {Q:Exit→Act→World→Prop}
theorem AZ {o:Code} (h:gG c s x→WC P N o env (dj b c s x::L) Q):WC P N o env (dj b c s x::L) Q:=fun a w ha hw=>h (z8 hw).1 a w ha hw
theorem Dx {all:Array Oper} {o:List Oper} (h:gG c s x→WO P N all o env (dj b c s x::L) Q):WO P N all o env (dj b c s x::L) Q:=fun a w ha hw=>h (z8 hw).1 a w ha hw
end
theorem dB {l:List Nat} {i:Nat} (hi:i<l.length):(aj jA l)[0+i*1]? =some (.pointer (some ⟨l.getD i 0,0,none⟩)):=by
  rw [List.getD_eq_getElem?_getD,List.getElem?_eq_getElem hi];have:aj jA l=l.map fun n=> .pointer (some ⟨n,0,none⟩):=by
    induction l with
    |nil=>rfl
    |cons a r ih=>
     by_cases h:i-1<r.length
     ·show jA a++aj jA r=_;have e:∀ r:List Nat,aj jA r=r.map fun n=> .pointer (some ⟨n,0,none⟩):=fun r=>by
        induction r with
        |nil=>rfl
        |cons a r ih=>show jA a++aj jA r=_;rw [ih];rfl
      rw [e];rfl
     ·show jA a++aj jA r=_;have e:∀ r:List Nat,aj jA r=r.map fun n=> .pointer (some ⟨n,0,none⟩):=fun r=>by
        induction r with
        |nil=>rfl
        |cons a r ih=>show jA a++aj jA r=_;rw [ih];rfl
      rw [e];rfl
  rw [this,Nat.zero_add,Nat.mul_one,List.getElem?_map,List.getElem?_eq_getElem hi];rfl
theorem eI {b:Nat} {c:au} {s:cg} {x:fP} {L M:List HP} (h:ai L (Cw b c s x M)) (hf:gG c s x):ai L (dj b c s x::M):=MY h hf ⟨rfl,rfl,rfl,rfl,rfl⟩ rfl rfl rfl rfl rfl rfl rfl rfl
attribute [local irreducible] Exit.then Exit.inBlock Code.wp WC WO WE WQ V aW dL Sat bz bK dU IntKind.wrap WR Code.rounds WT KO
theorem FQ {F:List HP} {b:Nat} {c:au} {s:cg} {x:fP} {i:Nat} (hi:i<x.ab.length):az prog 82 [.pointer (some ⟨b,0,none⟩),.int .i64 i] [dj b c s x] F
    (fun r L'=>r= .pointer (some ⟨x.ab.getD i 0,0,none⟩)∧L'=[dj b c s x]):=by
  have hg:=dB hi;have h0:0≤(i:Int)∧(i:Int)<x.ab.length:=by omega
  have h1:¬¬(0≤(i:Int)∧(i:Int)<x.ab.length):=fun h=>h h0;refine ay func82 ntmps82 ?_;refine gZ fun hf=>?_;repeat first|refine gd ?_|intro _|refine ae @pQ ?_
  (apply ad rfl rfl ar)
  ·exact ⟨by simp [hi],rfl⟩
  ·refine eI ?_ hf;exact af
theorem JI {F:List HP} {b:Nat} {c:au} {s:cg} {x:fP} {i:Nat} (hi:i<x.hb.length):az prog 75 [.pointer (some ⟨b,0,none⟩),.int .i64 i] [dj b c s x] F
    (fun r L'=>r= .pointer (some ⟨x.hb.getD i 0,0,none⟩)∧L'=[dj b c s x]):=by
  have hg:=dB hi;have h0:0≤(i:Int)∧(i:Int)<x.hb.length:=by omega
  have h1:¬¬(0≤(i:Int)∧(i:Int)<x.hb.length):=fun h=>h h0;refine ay func75 ntmps75 ?_;refine gZ fun hf=>?_;repeat first|refine gd ?_|intro _|refine ae @pQ ?_
  (apply ad rfl rfl ar)
  ·exact ⟨by simp [hi],rfl⟩
  ·refine eI ?_ hf;exact af
end
section
def BQ (c:au) (a:cT) (k:l7) (x:c5):l7:=if kf c a x=0 then u6 k (nJ c a x) else k
def Ar (c:au) (a:cT) (k:l7) (i:Int) (x:c5) (l:List Aq):List Aq:=if kf c a x=0 then l++[⟨i,k.rs.length,x,nJ c a x⟩] else l
attribute [local irreducible] Exit.then Exit.inBlock Code.wp WC WO WE WQ V aW dL Sat bz bK dU IntKind.wrap WR Code.rounds WT KO
abbrev MC (b:Nat) (c:au) (aR:Int) (nk na nh nt:Nat) (pk pa ph pt:Option Addr×Nat) (bn:Nat):HP:=ao b 102 (BP c aR nk na nh nt pk pa ph pt bn)
abbrev Mb (p:Option Addr×Nat) (l:List Nat):HP:=aT 103 1 (.slice p.1 l.length p.2) l.length (aj jA l)
abbrev Ja (p:Option Addr×Nat) (l:List Nat):HP:=aT 106 1 (.slice p.1 l.length p.2) l.length (aj jA l)
abbrev UL (p:Option Addr×Nat) (l:List Nat):HP:=aT 109 1 (.slice p.1 l.length p.2) l.length (aj jA l)
abbrev J8 (p:Option Addr×Nat) (l:List Aq):HP:=aT 76 6 (.slice p.1 l.length p.2) l.length (aj Hb l)
section
variable {F:List HP} {b:Nat} {c:au} {aR:Int} {nk na nh nt:Nat} {pk pa ph pt:Option Addr×Nat} {bn:Nat}
theorem II {Q P:Prop} (k:Q) (h:Hid Q→P:=by
  intro k
  first
  |(refine an ?_;refine bF (id:=1) .true (pl:= .p 0 <| .p 1 <| .p 2 <| .p 4 <| .r 3 <| .r 5 <| .e true [(6,.p 7 <| .p 8 <| .p 9 <| .p 10 <| .p 11 <| .p 12 <| .p 13 <| .done)]) k.out)):P:=h ⟨k⟩
theorem Aa {x:c5} (hw:c.wf) (hx:x.wf):az prog 149 [.pointer (some ⟨b,0,none⟩),ov x] [MC b c aR nk na nh nt pk pa ph pt bn] F (fun r L'=>r= .int .i64 (bT c x)∧L'=[MC b c aR nk na nh nt pk pa ph pt bn]):=by
  have hS:=fun F=>wq (F:=F) (c:=c) (a:=x.addr) hw hx.2.1;refine ay func149 ntmps149 ?_;repeat first|refine go ?_|intro _|refine II ?_|refine av ?_|refine ae @hS ?_
  (apply ad rfl rfl ar)
  ·exact ⟨rfl,rfl⟩
  ·exact af
theorem JJ {x:c5}:az prog 156 [ov x] [] F (fun r L'=>r= .int .i64 (bJ x)∧L'=[]):=by
  refine ay func156 ntmps156 ?_;by_cases h:x.ah=1
  ·repeat first|refine gd ?_|intro _
   (apply ad rfl rfl ar;(first|exact cS|exact ⟨by simp [bJ,h]<;>omega,rfl⟩);exact bM)
  ·repeat first|refine gd ?_|intro _
   (apply ad rfl rfl ar;(first|exact cS|exact ⟨by simp [bJ,h]<;>omega,rfl⟩);exact bM)
theorem IJ {Q P:Prop} (k:Q) (h:Hid Q→P:=by
  intro k
  first
  |(refine an ?_;refine bF (id:=1) .true (pl:= .p 0 <| .p 1 <| .p 2 <| .r 3 <| .r 4 <| .e true [(5,.p 6 <| .p 7 <| .done)]) k.out)):P:=h ⟨k⟩
theorem Ab {n:fK} {m:bA} (hw:c.wf):az prog 152 [.pointer (some ⟨b,0,none⟩),mv m] [MC b c aR nk na nh nt pk pa ph pt bn,j0 bn c n] F
    (fun r L'=>r= .bool (decide (lq c n m=0))∧L'=[MC b c aR nk na nh nt pk pa ph pt bn,j0 bn c (fG c n m)]):=by
  have hS:=fun F=>Of (F:=F) (b:=bn) (c:=c) (n:=n) (m:=m) hw;refine ay func152 ntmps152 ?_;repeat first|refine go ?_|intro _|refine IJ ?_|refine av ?_|refine ae @hS ?_
  (apply ad rfl rfl ar)
  ·exact ⟨rfl,rfl⟩
  ·exact af
theorem IK {Q P:Prop} (k:Q) (h:Hid Q→P:=by
  intro k
  first
  |(refine an ?_;refine bF (id:=2) .true (pl:= .p 0 <| .p 1 <| .p 2 <| .p 3 <| .p 5 <| .p 6 <| .p 8 <| .r 4 <| .r 7 <| .p 9 <| .e true [(10,.e true [(11,.p 12 <| .p 13 <| .e false [(14,.done)])])]) k.out)):P:=h ⟨k⟩
theorem Dy {kb:List Nat} {i:Nat} {k:l7} {tr:List Aq} {x:c5} {n:Int} (hi:i<kb.length) (hh:¬k.rs.length=k.l.length) (ht:tr.length≤1000000000000) :
    az prog 154 [.pointer (some ⟨b,0,none⟩),.int .i64 i,ov x,.int .i64 n] [MC b c aR kb.length na nh tr.length pk pa ph pt bn,Mb pk kb,wC kb[i] k,J8 pt tr] F
    (fun r L'=>∃ rr:Option Addr×Nat,r= .bool true∧L'=[MC b c aR kb.length na nh (tr++[(⟨i,k.rs.length,x,n⟩:Aq)]).length pk pa ph rr bn,Mb pk kb,wC kb[i] (u6 k n),J8 rr (tr++[(⟨i,k.rs.length,x,n⟩:Aq)])]):=by
  have hg:=dB hi;have hC:=fun F=>GA (F:=F) (b:=kb[i]) (l:=k.l) (rs:=k.rs) (tr:=k.tr) (n:=n) hh;refine ay func154 ntmps154 ?_;repeat first|refine go ?_|intro _|refine IK ?_|refine av ?_|refine ae @hC ?_
  rename_i b1 b2 p1 c1;(apply ad rfl rfl ar)
  ·exact ⟨(p1,c1),rfl,rfl⟩
  ·simp only [List.length_append,List.length_singleton,J8,aJ,bi,u6];exact af
theorem wD {Q P:Prop} (k:Q) (h:Hid Q→P:=by
  intro k
  first
  |(refine an ?_;refine bF (id:=1) .true (pl:= .p 0 <| .p 1 <| .p 2 <| .p 4 <| .r 3 <| .p 5 <| .r 6 <| .r 7 <| .e true [(8,.p 9 <| .p 10 <| .p 11 <| .p 12 <| .p 13 <| .done)]) k.out)):P:=h ⟨k⟩
theorem JK {kb ab:List Nat} {i:Nat} {k:l7} {a:cT} {tr:List Aq} {x:c5} (hi:i<kb.length) (hj:i<ab.length) (hh:¬k.rs.length=k.l.length) (ht:tr.length≤1000000000000) (hx:x.wf) :
    az prog 150 [.pointer (some ⟨b,0,none⟩),.int .i64 i,ov x] [MC b c aR kb.length ab.length nh tr.length pk pa ph pt bn,Mb pk kb,wC kb[i] k,Ja pa ab,oL ab[i] c (i:Int) a,J8 pt tr] F
    (fun r L'=>∃ rr:Option Addr×Nat,r= .bool (decide (kf c a x=0))∧L'=[MC b c aR kb.length ab.length nh (Ar c a k i x tr).length pk pa ph rr bn,Mb pk kb,wC kb[i] (BQ c a k x),Ja pa ab,oL ab[i] c (i:Int) (ff c a x),J8 rr (Ar c a k i x tr)]):=by
  have hg:=dB hj;have hD:=fun F=>RY (F:=F) (b:=ab[i]) (c:=c) (ap:=(i:Int)) (x:=x) (k:=a) hx;have hC:=fun F n=>Dy (F:=F) (b:=b) (c:=c) (aR:=aR) (na:=ab.length) (nh:=nh) (pk:=pk) (pa:=pa) (ph:=ph) (pt:=pt) (bn:=bn) (kb:=kb) (k:=k) (tr:=tr) (x:=x) (n:=n) hi hh ht;refine ay func150 ntmps150 ?_;(first|(refine aX (.slice pa.1 ab.length pa.2) inferInstance (om) ?_;intro _)|(refine aY (.slice pa.1 ab.length pa.2) inferInstance (om) ?_;intro _));by_cases he:kf c a x=0
  ·repeat first|refine go ?_|intro _|refine wD ?_|refine av ?_|refine ae @hD ?_|refine ae @hC ?_
   rename_i p1;(apply ad rfl rfl ar)
   ·exact ⟨p1,by simp [he],rfl⟩
   ·unfold Ar BQ;rw [if_pos he,if_pos he];exact af
  ·repeat first|refine go ?_|intro _|refine wD ?_|refine av ?_|refine ae @hD ?_|refine ae @hC ?_
   (apply ad rfl rfl ar)
   ·exact ⟨pt,by simp [he],rfl⟩
   ·unfold Ar BQ;rw [if_neg he,if_neg he];exact af
theorem IL {ab:List Nat} {i:Nat} {a:cT} {x:c5} (hj:i<ab.length) (hx:x.wf) (he:¬kf c a x=0) :
    az prog 150 [.pointer (some ⟨b,0,none⟩),.int .i64 i,ov x] [MC b c aR nk ab.length nh nt pk pa ph pt bn,Ja pa ab,oL ab[i] c (i:Int) a] F
    (fun r L'=>r= .bool false∧L'=[MC b c aR nk ab.length nh nt pk pa ph pt bn,Ja pa ab,oL ab[i] c (i:Int) a]):=by
  have hg:=dB hj;have hD:=fun F=>RY (F:=F) (b:=ab[i]) (c:=c) (ap:=(i:Int)) (x:=x) (k:=a) hx;have eK:ff c a x=a:=by unfold ff;rw [if_neg (fun g=>he g.1)]
  simp only [eK] at hD;refine ay func150 ntmps150 ?_;(first|(refine aX (.slice pa.1 ab.length pa.2) inferInstance (om) ?_;intro _)|(refine aY (.slice pa.1 ab.length pa.2) inferInstance (om) ?_;intro _));repeat first|refine go ?_|intro _|refine wD ?_|refine av ?_|refine ae @hD ?_
  (apply ad rfl rfl ar)
  ·exact ⟨rfl,rfl⟩
  ·exact af
theorem s8 {Q P:Prop} (k:Q) (h:Hid Q→P:=by
  intro k
  first
  |(refine an ?_;refine bF (id:=1) .true (pl:= .p 0 <| .p 1 <| .p 2 <| .p 4 <| .r 3 <| .r 5 <| .p 6 <| .r 7 <| .r 8 <| .e true [(9,.p 10 <| .p 11 <| .p 12 <| .p 13 <| .e false [(14,.e false [(15,.p 16 <| .p 17 <| .done)])]),(14,.e true [(9,.p 10 <| .p 11 <| .p 12 <| .p 13 <| .e false [(15,.p 16 <| .p 17 <| .done)])])]) k.out)):P:=h ⟨k⟩
theorem zC {ab:List Nat} {i:Nat} {a:cT} {n:fK} {m:bA} (hw:c.wf) (hj:i<ab.length) (hd:m.dst=i) (ho:0≤aR∧aR≤1000000000000) (hg:∀ m∈a.aP,-9223372036854775808≤m.gY∧m.gY≤9223372036854775806) :
    az prog 146 [.pointer (some ⟨b,0,none⟩),mv m] [MC b c aR nk ab.length nh nt pk pa ph pt bn,Ja pa ab,oL ab[i] c (i:Int) a,j0 bn c n] F
    (fun r L'=>r= .tuple [].toArray∧L'=[MC b c (if c4 c i a m=0 then aR else aR+1) nk ab.length nh nt pk pa ph pt bn,Ja pa ab,oL ab[i] c (i:Int) (cw c i a m),j0 bn c (if cJ c i a m then fG c n (dg c i a m) else n)]):=by
  have hgv:=dB hj;have hT:=fun F=>Q5 (F:=F) (b:=ab[i]) (c:=c) (ap:=(i:Int)) (m:=m) (k:=a) hg;have hS:=fun F n aR=>Ab (F:=F) (b:=b) (c:=c) (aR:=aR) (nk:=nk) (na:=ab.length) (nh:=nh) (nt:=nt) (pk:=pk) (pa:=pa) (ph:=ph) (pt:=pt) (bn:=bn) (n:=n) (m:=dg c i a m) hw;obtain ⟨mk,ml,ms,md,mw,nB,mo,vB⟩:=m;dsimp only at hd;subst hd;refine ay func146 ntmps146 ?_;(first|(refine aX (.slice pa.1 ab.length pa.2) inferInstance (om) ?_;intro _)|(refine aY (.slice pa.1 ab.length pa.2) inferInstance (om) ?_;intro _));by_cases he:c4 c i a ⟨mk,ml,ms,i,mw,nB,mo,vB⟩=0
  ·cases hb:cJ c i a ⟨mk,ml,ms,i,mw,nB,mo,vB⟩ with
   |true=>
    simp only [he,hb] at hT;repeat' (first|refine go ?_|intro _|refine s8 ?_|refine av ?_|refine ae @hT ?_|refine ae @hS ?_|refine bj ?_ ?_|fail)
    all_goals (apply ad rfl rfl ar)
    all_goals first|exact ⟨rfl,rfl⟩|(simp only [he,hb,if_true];exact af)
   |false=>
    simp only [he,hb] at hT;repeat' (first|refine go ?_|intro _|refine s8 ?_|refine av ?_|refine ae @hT ?_|refine ae @hS ?_|refine bj ?_ ?_|fail)
    all_goals (apply ad rfl rfl ar)
    all_goals first|exact ⟨rfl,rfl⟩|(simp only [he,hb,if_true,Bool.false_eq_true,if_false];exact af)
  ·cases hb:cJ c i a ⟨mk,ml,ms,i,mw,nB,mo,vB⟩ with
   |true=>
    simp only [hb] at hT;repeat' (first|refine go ?_|intro _|refine s8 ?_|refine av ?_|refine ae @hT ?_|refine ae @hS ?_|refine bj ?_ ?_|fail)
    all_goals (apply ad rfl rfl ar)
    all_goals first|exact ⟨rfl,rfl⟩|(simp only [he,hb,if_true,if_false];exact af)
   |false=>
    simp only [hb] at hT;repeat' (first|refine go ?_|intro _|refine s8 ?_|refine av ?_|refine ae @hT ?_|refine ae @hS ?_|refine bj ?_ ?_|fail)
    all_goals (apply ad rfl rfl ar)
    all_goals first|exact ⟨rfl,rfl⟩|(simp only [he,hb,if_false,Bool.false_eq_true];exact af)
end
end
end Go.Sx
