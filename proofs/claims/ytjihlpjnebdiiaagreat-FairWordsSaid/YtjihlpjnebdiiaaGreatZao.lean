/- MaP2, Ca4, MaL, MaI, HomQ: several of my texts as one. My own work. -/
import Derived.Test.YtjihlpjnebdiiaaGreatZan
set_option linter.unusedVariables false
set_option linter.unusedSectionVars false
set_option linter.unusedSimpArgs false
set_option maxRecDepth 100000
set_option maxHeartbeats 4000000
namespace Go.Sx
open Go Go.Proofs
section
def e5i (b:Nat) (c:Cfg) (s:MaS) (x:MaX) (i:Nat):HP:=All [Cells b 81 (f1w c s.odd x.kb.length x.ab.length x.hb.length s.tr.length x.pk x.pa x.ph x.pt x.bn),
  Own 82 1 (.slice x.pk.1 x.kb.length x.pk.2) x.kb.length (aC b1d x.kb),Own 46 1 (.slice x.pa.1 x.ab.length x.pa.2) x.ab.length (aC b1d x.ab),Own 52 1 (.slice x.ph.1 x.hb.length x.ph.2) x.hb.length (aC b1d x.hb),
  nQ x.bn c s.n,Own 60 6 (.slice x.pt.1 s.tr.length x.pt.2) s.tr.length (aC e0q s.tr),All ((List.range x.kb.length).map (a0i x s)),All (((List.range x.ab.length).eraseIdx i).map (uS c x s)),All ((List.range x.hb.length).map (uT c x s)),Fact (a2v c s x)]
def d9k (b:Nat) (c:Cfg) (s:MaS) (x:MaX) (i:Nat):HP:=All [Cells b 81 (f1w c s.odd x.kb.length x.ab.length x.hb.length s.tr.length x.pk x.pa x.ph x.pt x.bn),
  Own 82 1 (.slice x.pk.1 x.kb.length x.pk.2) x.kb.length (aC b1d x.kb),Own 46 1 (.slice x.pa.1 x.ab.length x.pa.2) x.ab.length (aC b1d x.ab),Own 52 1 (.slice x.ph.1 x.hb.length x.ph.2) x.hb.length (aC b1d x.hb),
  nQ x.bn c s.n,Own 60 6 (.slice x.pt.1 s.tr.length x.pt.2) s.tr.length (aC e0q s.tr),All ((List.range x.kb.length).map (a0i x s)),All ((List.range x.ab.length).map (uS c x s)),All (((List.range x.hb.length).eraseIdx i).map (uT c x s)),Fact (a2v c s x)]
theorem kX {α:Type} {l:List α} {i j:Nat} {a d:α}:(l.set i a).getD j d=if j=i∧i<l.length then a else l.getD j d:=by
  rw [List.getD_eq_getElem?_getD,List.getElem?_set,List.getD_eq_getElem?_getD]
  by_cases h:i=j
  · subst h
    by_cases h2:i<l.length<;>simp [h2]
  · rw [if_neg h,if_neg (fun g=>h g.1.symm)]
theorem c1d {b:Nat} {c:Cfg} {s:MaS} {x:MaX} {i:Nat} {L:List HP} (hi:i<x.ab.length):Ent (i9 b c s x::L) (uS c x s i::e5i b c s x i::L):=by
  refine Ent.trans kU (Ent.trans ?_ (Ent.cons iQ))
  show Ent (_::_::_::_::_::_::_::All _::_::_::L) (_::_::_::_::_::_::_::_::All _::_::_::L)
  refine Ent.trans (Ent.cons (Ent.cons (Ent.cons (Ent.cons (Ent.cons (Ent.cons (Ent.cons (xM hi)))))))) ?_
  exact iA (List.perm_middle (l₁:=[_,_,_,_,_,_,_]) (l₂:=All _::_::_::L)).symm.symm
theorem b0x {b:Nat} {c:Cfg} {s:MaS} {x:MaX} {i:Nat} {L:List HP} (hi:i<x.hb.length):Ent (i9 b c s x::L) (uT c x s i::d9k b c s x i::L):=by
  refine Ent.trans kU (Ent.trans ?_ (Ent.cons iQ))
  refine Ent.trans (Ent.cons (Ent.cons (Ent.cons (Ent.cons (Ent.cons (Ent.cons (Ent.cons (Ent.cons (xM hi))))))))) ?_
  exact iA (List.perm_middle (l₁:=[_,_,_,_,_,_,_,_]) (l₂:=All _::_::L)).symm.symm
theorem e5j {b:Nat} {c:Cfg} {s:MaS} {x:MaX} {i:Nat} {k:CaS} {L M:List HP} (h:Ent L (b2h (x.ab.getD i 0) c (i:Int) k::e5i b c s x i::M)) (hi:i<x.ab.length) (hl:s.cs.length=x.ab.length):Ent L (i9 b c (dN s i k) x::M):=by
  refine Ent.trans h (Ent.trans (Ent.cons kU) (Ent.trans ?_ iQ))
  refine Ent.trans (iA (List.perm_middle (l₁:=[_,_,_,_,_,_,_]) (l₂:=All _::_::_::M)).symm) ?_
  refine Ent.cons (Ent.cons (Ent.cons (Ent.cons (Ent.cons (Ent.cons (Ent.cons ?_))))))
  have e:b2h (x.ab.getD i 0) c (i:Int) k=uS c x (dN s i k) i:=by
    unfold uS dN;dsimp only
    rw [Int.toNat_natCast,kX,if_pos ⟨rfl,om⟩]
  rw [e]
  refine Ent.trans (a2w (g:=uS c x (dN s i k)) hi fun j hj hne=>?_) (Ent.cons (Ent.cons ?_))
  · unfold uS dN;dsimp only
    rw [Int.toNat_natCast,kX,if_neg (fun h=>hne h.1)]
  · intro w hw
    have hf:=jK hw
    exact dS (by
      obtain ⟨⟨a1,a2,a3⟩,a4,a5⟩:=hf
      refine ⟨⟨a1,?_,a3⟩,a4,a5⟩
      unfold dN;dsimp only;rw [List.length_set];exact a2) _ (aU hw)
theorem e5k {b:Nat} {c:Cfg} {s:MaS} {x:MaX} {i:Nat} {k:HomS} {L M:List HP} (h:Ent L (jD (x.hb.getD i 0) c (i:Int) k::d9k b c s x i::M)) (hi:i<x.hb.length) (hl:s.hs.length=x.hb.length):Ent L (i9 b c (dU s i k) x::M):=by
  refine Ent.trans h (Ent.trans (Ent.cons kU) (Ent.trans ?_ iQ))
  refine Ent.trans (iA (List.perm_middle (l₁:=[_,_,_,_,_,_,_,_]) (l₂:=All _::_::M)).symm) ?_
  refine Ent.cons (Ent.cons (Ent.cons (Ent.cons (Ent.cons (Ent.cons (Ent.cons (Ent.cons ?_)))))))
  have e:jD (x.hb.getD i 0) c (i:Int) k=uT c x (dU s i k) i:=by
    unfold uT dU;dsimp only
    rw [Int.toNat_natCast,kX,if_pos ⟨rfl,om⟩]
  rw [e]
  refine Ent.trans (a2w (g:=uT c x (dU s i k)) hi fun j hj hne=>?_) (Ent.cons ?_)
  · unfold uT dU;dsimp only
    rw [Int.toNat_natCast,kX,if_neg (fun h=>hne h.1)]
  · intro w hw
    have hf:=jK hw
    exact dS (by
      obtain ⟨⟨a1,a2,a3⟩,a4,a5⟩:=hf
      refine ⟨⟨a1,a2,?_⟩,a4,a5⟩
      unfold dU;dsimp only;rw [List.length_set];exact a3) _ (aU hw)
theorem d1b {s:MaS} {i:Nat}:dN s i (s.cs.getD i caZ)=s:=by
  have:s.cs.set i (s.cs.getD i caZ)=s.cs:=by
    by_cases h:i<s.cs.length
    · rw [List.getD_eq_getElem?_getD,List.getElem?_eq_getElem h];simp
    · rw [List.set_eq_of_length_le (om)]
  unfold dN;rw [Int.toNat_natCast,this]
theorem d1c {s:MaS} {i:Nat}:dU s i (s.hs.getD i a5e)=s:=by
  have:s.hs.set i (s.hs.getD i a5e)=s.hs:=by
    by_cases h:i<s.hs.length
    · rw [List.getD_eq_getElem?_getD,List.getElem?_eq_getElem h];simp
    · rw [List.set_eq_of_length_le (om)]
  unfold dU;rw [Int.toNat_natCast,this]
theorem x6 {b:Nat} {c:Cfg} {s:MaS} {x:MaX} {i:Nat} {L M:List HP} (h:Ent L (b2h (x.ab.getD i 0) c (i:Int) (s.cs.getD i caZ)::e5i b c s x i::M)) (hi:i<x.ab.length) (hl:s.cs.length=x.ab.length):Ent L (i9 b c s x::M):=by
  have:=e5j h hi hl;rwa [d1b] at this
theorem a3p {b:Nat} {c:Cfg} {s:MaS} {x:MaX} {i:Nat} {L M:List HP} (h:Ent L (jD (x.hb.getD i 0) c (i:Int) (s.hs.getD i a5e)::d9k b c s x i::M)) (hi:i<x.hb.length) (hl:s.hs.length=x.hb.length):Ent L (i9 b c s x::M):=by
  have:=e5k h hi hl;rwa [d1c] at this
section
variable {b:Nat} {c:Cfg} {s:MaS} {x:MaX} {P:Program} {N:Nat} {env:Env} {L:List HP} {Q:Exit→Act→World→Prop}
theorem a8y {all:Array Oper} {o:List Oper} (i:Nat) (hi:i<x.ab.length) (h:WO P N all o env (b2h (x.ab.getD i 0) c (i:Int) (s.cs.getD i caZ)::e5i b c s x i::L) Q):WO P N all o env (i9 b c s x::L) Q:=fun a w ha hw=>h a w ha ((c1d hi).sat hw)
theorem c4e {all:Array Oper} {o:List Oper} (i:Nat) (hi:i<x.hb.length) (h:WO P N all o env (jD (x.hb.getD i 0) c (i:Int) (s.hs.getD i a5e)::d9k b c s x i::L) Q):WO P N all o env (i9 b c s x::L) Q:=fun a w ha hw=>h a w ha ((b0x hi).sat hw)
theorem a1y {o:Code} (h:a2v c s x→WC P N o env (i9 b c s x::L) Q):WC P N o env (i9 b c s x::L) Q:=fun a w ha hw=>h (a9l hw).1 a w ha hw
theorem d1d {all:Array Oper} {o:List Oper} (h:a2v c s x→WO P N all o env (i9 b c s x::L) Q):WO P N all o env (i9 b c s x::L) Q:=fun a w ha hw=>h (a9l hw).1 a w ha hw
end
theorem jT {l:List Nat} {i:Nat} (hi:i<l.length):(aC b1d l)[0+i*1]? =some (.pointer (some ⟨l.getD i 0,0,none⟩)):=by
  rw [List.getD_eq_getElem?_getD,List.getElem?_eq_getElem hi]
  have:aC b1d l=l.map fun n=> .pointer (some ⟨n,0,none⟩):=by
    induction l with
    |nil=>rfl
    |cons a r ih=>
     by_cases h:i-1<r.length
     · show b1d a++aC b1d r=_
       have e:∀ r:List Nat,aC b1d r=r.map fun n=> .pointer (some ⟨n,0,none⟩):=fun r=>by
         induction r with
         |nil=>rfl
         |cons a r ih=>show b1d a++aC b1d r=_;rw [ih];rfl
       rw [e];rfl
     · show b1d a++aC b1d r=_
       have e:∀ r:List Nat,aC b1d r=r.map fun n=> .pointer (some ⟨n,0,none⟩):=fun r=>by
         induction r with
         |nil=>rfl
         |cons a r ih=>show b1d a++aC b1d r=_;rw [ih];rfl
       rw [e];rfl
  rw [this,Nat.zero_add,Nat.mul_one,List.getElem?_map,List.getElem?_eq_getElem hi]
  rfl
theorem eV {b:Nat} {c:Cfg} {s:MaS} {x:MaX} {L M:List HP} (h:Ent L (e6m b c s x M)) (hf:a2v c s x):Ent L (i9 b c s x::M):=d9z h hf ⟨rfl,rfl,rfl,rfl,rfl⟩ rfl rfl rfl rfl rfl rfl rfl rfl
attribute [local irreducible] Exit.then Exit.inBlock Code.wp WC WO WE WQ V bT vL fP cY eI v8 IntKind.wrap WR Code.rounds WT KO
theorem c1e {F:List HP} {b:Nat} {c:Cfg} {s:MaS} {x:MaX} {i:Nat} (hi:i<x.ab.length):FnF Tryz.prog 24 [.pointer (some ⟨b,0,none⟩),.int .i64 i] [i9 b c s x] F
    (fun r L'=>r= .pointer (some ⟨x.ab.getD i 0,0,none⟩)∧L'=[i9 b c s x]):=by
  have hg:=jT hi
  have h0:0≤(i:Int)∧(i:Int)<x.ab.length:=by omega
  have h1:¬¬(0≤(i:Int)∧(i:Int)<x.ab.length):=fun h=>h h0
  refine FnF.mk' Tryz.func24 rfl rfl Tryz.ntmps24 rfl ?_
  refine i6 fun hf=>?_
  repeat first|refine gd ?_|intro _|refine aD @yA ?_
  (apply aA rfl rfl bH)
  · exact ⟨by simp [hi],rfl⟩
  · refine eV ?_ hf
    exact aB
theorem c8c {F:List HP} {b:Nat} {c:Cfg} {s:MaS} {x:MaX} {i:Nat} (hi:i<x.hb.length):FnF Tryz.prog 27 [.pointer (some ⟨b,0,none⟩),.int .i64 i] [i9 b c s x] F
    (fun r L'=>r= .pointer (some ⟨x.hb.getD i 0,0,none⟩)∧L'=[i9 b c s x]):=by
  have hg:=jT hi
  have h0:0≤(i:Int)∧(i:Int)<x.hb.length:=by omega
  have h1:¬¬(0≤(i:Int)∧(i:Int)<x.hb.length):=fun h=>h h0
  refine FnF.mk' Tryz.func27 rfl rfl Tryz.ntmps27 rfl ?_
  refine i6 fun hf=>?_
  repeat first|refine gd ?_|intro _|refine aD @yA ?_
  (apply aA rfl rfl bH)
  · exact ⟨by simp [hi],rfl⟩
  · refine eV ?_ hf
    exact aB
end
section
abbrev f6d (m:Msg) (b:Bool):List Value:=[.int .i64 m.kind,.int .i64 m.line,.int .i64 m.src,.int .i64 m.dst,.int .i64 m.who,.int .i64 m.acks,.int .i64 m.own,.int .i64 m.words.w0,.int .i64 m.words.w1,.int .i64 m.words.w2,.int .i64 m.words.w3,.int .i64 m.words.w4,.int .i64 m.words.w5,.int .i64 m.words.w6,.int .i64 m.words.w7,.bool b]
abbrev f3p (m:Msg) (b:Bool):Value:= .agg (f6d m b).toArray
theorem d6q {c:Cfg} {m:Msg} (h:fG c m):aL c m.line=true:=by
  obtain ⟨h1,_,h2,_⟩:=h
  simp [aL,h1,h2]
attribute [local irreducible] Exit.then Exit.inBlock Code.wp WC WO WE WQ V bT vL fP cY eI v8 IntKind.wrap WR Code.rounds WT KO
theorem a0e {Q P:Prop} (k:Q) (h:Hid Q→P:=by
  intro k
  first
  |(refine aI ?_;refine uU (id:=4) .true (pl:= .p 0 <| .p 1 <| .p 2 <| .p 4 <| .p 6 <| .r 3 <| .r 5 <| .r 7 <| .e true [(8,.done)]) k.out)
  |(refine aI ?_;apply pV (id:=10) .true [] (pl:= .p 0 <| .p 1 <| .p 4 <| .e true [(2,.e true [(3,.e true [(5,.p 6 <| .e false [(7,.p 8 <| .e false [(9,.p 10 <| .e false [(11,.done)])])])]),(5,.p 6 <| .e false [(3,.e false [(7,.p 8 <| .e false [(9,.p 10 <| .e false [(11,.done)])])]),(7,.p 8 <| .e false [(3,.e false [(9,.p 10 <| .e false [(11,.done)])]),(9,.e false [(3,.p 10 <| .e false [(11,.done)])])])])]),(3,.e true [(2,.e true [(5,.p 6 <| .e false [(7,.p 8 <| .e false [(9,.p 10 <| .e false [(11,.done)])])])]),(5,.p 6 <| .e false [(2,.e false [(7,.p 8 <| .e false [(9,.p 10 <| .e false [(11,.done)])])]),(7,.e false [(2,.p 8 <| .e false [(9,.p 10 <| .e false [(11,.done)])])])])]),(5,.p 6 <| .e false [(2,.e false [(3,.e false [(7,.p 8 <| .e false [(9,.p 10 <| .e false [(11,.done)])])]),(7,.p 8 <| .e false [(3,.e false [(9,.p 10 <| .e false [(11,.done)])]),(9,.e false [(3,.p 10 <| .e false [(11,.done)])])])]),(3,.e false [(2,.e false [(7,.p 8 <| .e false [(9,.p 10 <| .e false [(11,.done)])])]),(7,.e false [(2,.p 8 <| .e false [(9,.p 10 <| .e false [(11,.done)])])])]),(7,.e false [(2,.p 8 <| .e false [(3,.e false [(9,.p 10 <| .e false [(11,.done)])]),(9,.e false [(3,.p 10 <| .e false [(11,.done)])])]),(3,.e false [(2,.p 8 <| .e false [(9,.p 10 <| .e false [(11,.done)])])])])])]);exact sD;kernel_rfl;kernel_rfl;exact Ent.nil;exact k.out)):P:=h ⟨k⟩
theorem c1f {F:List HP} {b a f e:Nat} {c:Cfg} {core own st:Int} {m:Msg} {k:CaS} {fk:FuncId} {give:Bool} (hc:aF c=true) (hli:nA m.line)
    (H:∀ F,FnF Tryz.prog fk [.pointer (some ⟨e,0,none⟩),.int .i64 m.line] [Wb e c.writebacks k.buf] F (fun r L'=>r= .tuple [wv (mQ k.buf m.line),.int .i64 (lK k.buf m.line)].toArray∧L'=[Wb e c.writebacks (if give then kH k.buf m.line else k.buf)])) :
    FnF Tryz.prog 217 [.pointer (some ⟨b,0,none⟩),mv m,.int .i64 own,.int .i64 st,.func (.func fk) [.pointer (some ⟨e,0,none⟩)].toArray [].toArray] (b5a b a f e c core k) F
      (fun r L'=>r= .tuple [f3p (jJ c core k m own) (decide (iM c k m.line=0)),.int .i64 (iM c k m.line)].toArray∧L'=b5a b a f e c core (cQ c k m.line st give)):=by
  have hLook:=fun F=>oW (F:=F) (b:=b) (a:=a) (f:=f) (e:=e) (core:=core) (k:=k) hc hli
  have hSet:=fun F=>yC (F:=F) (b:=a) (c:=c) (l:=k.ways) (line:=m.line) (st:=st) (w:=(aP c k.ways m.line).words) (l3 hc) hli
  have hTo:=fun F k'=>d8r (F:=F) (b:=b) (a:=a) (f:=f) (e:=e) (c:=c) (core:=core) (k:=k') (kind:=7) (m:=m)
  by_cases h2:2≤(aP c k.ways m.line).st
  · have e1:iM c k m.line=0:=if_pos h2
    have e2:jJ c core k m own=⟨7,m.line,core,m.who,1,m.acks,own,(aP c k.ways m.line).words⟩:=by unfold jJ mM;rw [if_pos e1,if_pos h2]
    have e3:cQ c k m.line st give=⟨fD c k.ways m.line st (aP c k.ways m.line).words,k.mis,k.buf⟩:=if_pos h2
    rw [e1,e2,e3,decide_eq_true rfl]
    have hTo2:=fun F=>hTo F ⟨fD c k.ways m.line st (aP c k.ways m.line).words,k.mis,k.buf⟩
    refine FnF.mk' Tryz.func217 rfl rfl Tryz.ntmps217 rfl ?_
    repeat' (first|refine go ?_|intro _|refine a0e ?_|refine dM ?_|refine aD @hLook ?_|refine aD @qK ?_|refine aD @hSet ?_|refine aD @hTo2 ?_|refine nV ?_ ?_|fail)
    all_goals exact bF
  · by_cases h3:lK k.buf m.line=0
    · have e1:iM c k m.line=0:=by unfold iM;rw [if_neg h2,if_pos h3]
      have e2:jJ c core k m own=⟨7,m.line,core,m.who,1,m.acks,own,mQ k.buf m.line⟩:=by unfold jJ mM;rw [if_pos e1,if_neg h2]
      have e3:cQ c k m.line st give=⟨k.ways,k.mis,if give then kH k.buf m.line else k.buf⟩:=by unfold cQ;rw [if_neg h2];cases give<;>rfl
      rw [e1,e2,e3,decide_eq_true rfl]
      simp only [h3] at H
      have hTo2:=fun F=>hTo F ⟨k.ways,k.mis,if give then kH k.buf m.line else k.buf⟩
      refine FnF.mk' Tryz.func217 rfl rfl Tryz.ntmps217 rfl ?_
      repeat' (first|refine go ?_|intro _|refine a0e ?_|refine dM ?_|refine aD @hLook ?_|refine aD @qK ?_|refine aD @H ?_|refine aD @hTo2 ?_|refine nV ?_ ?_|fail)
      all_goals exact bF
    · have e1:iM c k m.line=7:=by unfold iM;rw [if_neg h2,if_neg h3]
      have e2:jJ c core k m own= .zero:=by unfold jJ;rw [e1];rfl
      have e4:kH k.buf m.line=k.buf:=by
        unfold kH
        unfold lK at h3
        cases g1:lJ k.buf m.line with
        |false=>rfl
        |true=>
         cases g2:(uO k.buf m.line).live with
         |false=>rfl
         |true=>rw [g1,if_pos rfl,g2,if_pos rfl] at h3;exact absurd rfl h3
      have e3:cQ c k m.line st give=k:=by unfold cQ;rw [if_neg h2,e4];cases give<;>rfl
      rw [e4] at H
      have e5:(if give=true then k.buf else k.buf)=k.buf:=by split<;>rfl
      rw [e5] at H
      rw [e1,e2,e3,decide_eq_false (by decide)]
      refine FnF.mk' Tryz.func217 rfl rfl Tryz.ntmps217 rfl ?_
      repeat' (first|refine go ?_|intro _|refine a0e ?_|refine dM ?_|refine aD @hLook ?_|refine aD @qK ?_|refine aD @H ?_|refine nV ?_ ?_|fail)
      all_goals exact bF
theorem c4f {Q P:Prop} (k:Q) (h:Hid Q→P:=by
  intro k
  first
  |(refine aI ?_;refine uU (id:=1) .true (pl:= .p 0 <| .p 2 <| .p 3 <| .p 4 <| .r 1 <| .r 5 <| .p 6 <| .e true [(7,.p 8 <| .p 9 <| .e false [(10,.p 11 <| .done)])]) k.out)):P:=h ⟨k⟩
theorem d6r {F:List HP} {b a f e:Nat} {c:Cfg} {core:Int} {m:Msg} {k:CaS} (hc:aF c=true) (hli:nA m.line) :
    FnF Tryz.prog 182 [.pointer (some ⟨b,0,none⟩),mv m] (b5a b a f e c core k) F
      (fun r L'=>r= .tuple [f3p (jJ c core k m 1) (decide (iM c k m.line=0)),.int .i64 (iM c k m.line)].toArray∧L'=b5a b a f e c core (cQ c k m.line 3 false)):=by
  have hT:=fun F=>c1f (F:=F) (b:=b) (a:=a) (f:=f) (e:=e) (core:=core) (own:=1) (st:=3) (m:=m) (k:=k) (give:=false) hc hli (fun F=>d7e)
  refine FnF.mk' Tryz.func182 rfl rfl Tryz.ntmps182 rfl ?_
  repeat first|refine go ?_|intro _|refine c4f ?_|refine dM ?_|refine aD @hT ?_
  exact bF
theorem c4g {Q P:Prop} (k:Q) (h:Hid Q→P:=by
  intro k
  first
  |(refine aI ?_;refine uU (id:=1) .true (pl:= .p 0 <| .p 2 <| .p 3 <| .p 4 <| .r 1 <| .r 5 <| .p 6 <| .e true [(7,.p 8 <| .p 9 <| .e false [(10,.p 11 <| .done)])]) k.out)):P:=h ⟨k⟩
theorem d6s {F:List HP} {b a f e:Nat} {c:Cfg} {core:Int} {m:Msg} {k:CaS} (hc:aF c=true) (hli:nA m.line) :
    FnF Tryz.prog 183 [.pointer (some ⟨b,0,none⟩),mv m] (b5a b a f e c core k) F
      (fun r L'=>r= .tuple [f3p (jJ c core k m 4) (decide (iM c k m.line=0)),.int .i64 (iM c k m.line)].toArray∧L'=b5a b a f e c core (cQ c k m.line 0 true)):=by
  have hT:=fun F=>c1f (F:=F) (b:=b) (a:=a) (f:=f) (e:=e) (core:=core) (own:=4) (st:=0) (m:=m) (k:=k) (give:=true) hc hli (fun F=>e5y)
  refine FnF.mk' Tryz.func183 rfl rfl Tryz.ntmps183 rfl ?_
  repeat first|refine go ?_|intro _|refine c4g ?_|refine dM ?_|refine aD @hT ?_
  exact bF
theorem a0f {Q P:Prop} (k:Q) (h:Hid Q→P:=by
  intro k
  first
  |(refine aI ?_;refine uU (id:=5) .true (pl:= .p 0 <| .p 1 <| .p 2 <| .p 4 <| .p 6 <| .r 3 <| .r 5 <| .e true [(7,.done)]) k.out)):P:=h ⟨k⟩
theorem e5l {F:List HP} {b a f e:Nat} {c:Cfg} {core:Int} {m:Msg} {k:CaS} (hc:aF c=true) (hli:nA m.line) :
    FnF Tryz.prog 184 [.pointer (some ⟨b,0,none⟩),mv m] (b5a b a f e c core k) F
      (fun r L'=>r= .tuple [f3p (a1a c core k m) (decide (s9 c k m.line=0)),.int .i64 (s9 c k m.line)].toArray∧L'=b5a b a f e c core (if s9 c k m.line=0 then i5 c k m.line else k)):=by
  have hLook:=fun F=>oW (F:=F) (b:=b) (a:=a) (f:=f) (e:=e) (core:=core) (k:=k) hc hli
  have hSet:=fun F=>yC (F:=F) (b:=a) (c:=c) (l:=k.ways) (line:=m.line) (st:=0) (w:= .zero) (l3 hc) hli
  have hTo:=fun F k'=>d8r (F:=F) (b:=b) (a:=a) (f:=f) (e:=e) (c:=c) (core:=core) (k:=k') (kind:=9) (m:=m)
  by_cases h2:2≤(aP c k.ways m.line).st
  · have e1:s9 c k m.line=7:=if_pos h2
    have e2:a1a c core k m= .zero:=by unfold a1a;rw [e1];rfl
    rw [e1,e2,decide_eq_false (by decide),if_neg (by decide)]
    refine FnF.mk' Tryz.func184 rfl rfl Tryz.ntmps184 rfl ?_
    repeat' (first|refine go ?_|intro _|refine a0f ?_|refine dM ?_|refine aD @hLook ?_|refine aD @qK ?_|refine nV ?_ ?_|fail)
    all_goals exact bF
  · have e1:s9 c k m.line=0:=if_neg h2
    have e2:a1a c core k m=⟨9,m.line,core,m.who,0,0,0,.zero⟩:=if_pos e1
    rw [e1,e2,decide_eq_true rfl,if_pos rfl]
    by_cases h1:(aP c k.ways m.line).st=1
    · have e3:i5 c k m.line=⟨fD c k.ways m.line 0 .zero,k.mis,k.buf⟩:=if_pos h1
      rw [e3]
      have hTo2:=fun F=>hTo F ⟨fD c k.ways m.line 0 .zero,k.mis,k.buf⟩
      refine FnF.mk' Tryz.func184 rfl rfl Tryz.ntmps184 rfl ?_
      repeat' (first|refine go ?_|intro _|refine a0f ?_|refine dM ?_|refine aD @hLook ?_|refine aD @qK ?_|refine aD @hSet ?_|refine aD @hTo2 ?_|refine nV ?_ ?_|fail)
      all_goals exact bF
    · have e3:i5 c k m.line=k:=if_neg h1
      rw [e3]
      have hTo2:=fun F=>hTo F k
      refine FnF.mk' Tryz.func184 rfl rfl Tryz.ntmps184 rfl ?_
      repeat' (first|refine go ?_|intro _|refine a0f ?_|refine dM ?_|refine aD @hLook ?_|refine aD @qK ?_|refine aD @hTo2 ?_|refine nV ?_ ?_|fail)
      all_goals exact bF
theorem uL {Q P:Prop} (k:Q) (h:Hid Q→P:=by
  intro k
  first
  |(refine aI ?_;refine uU (id:=10) .true (pl:= .p 0 <| .p 1 <| .p 2 <| .p 4 <| .p 5 <| .r 3 <| .r 6 <| .r 7 <| .e true [(8,.done)]) k.out)):P:=h ⟨k⟩
theorem a0g {F:List HP} {b a f e:Nat} {c:Cfg} {core line er:Int} {k:CaS} (hc:aF c=true) (hli:nA line) :
    FnF Tryz.prog 221 [.pointer (some ⟨b,0,none⟩),.int .i64 line,.int .i64 er] (b5a b a f e c core k) F
      (fun r L'=>r= .tuple [f3p .zero false,.int .i64 (a6b er)].toArray∧L'=b5a b a f e c core (if er=0 then cC c k line else k)):=by
  have hLook:=fun F k'=>oW (F:=F) (b:=b) (a:=a) (f:=f) (e:=e) (core:=core) (k:=k') hc hli
  have hOwe:=fun F=>e3s (F:=F) (b:=f) (room:=c.mshrs) (l:=k.mis) (line:=line)
  by_cases h0:er=0
  · have e1:a6b er=0:=if_pos h0
    rw [e1,if_pos h0]
    cases h1:yT k.mis line with
    |false=>
     have e2:cC c k line=k:=by unfold cC;rw [h1];rfl
     have e3:sO k.mis line=k.mis:=by unfold sO;rw [h1];rfl
     rw [e2]
     simp only [h1,e3] at hOwe
     refine FnF.mk' Tryz.func221 rfl rfl Tryz.ntmps221 rfl ?_
     repeat' (first|refine go ?_|intro _|refine uL ?_|refine dM ?_|refine aD @hOwe ?_|refine nV ?_ ?_|fail)
     all_goals exact bF
    |true=>
     simp only [h1] at hOwe
     cases h2:(vU k.mis line).granted with
     |false=>
      have e2:cC c k line=⟨fD c k.ways line (vU k.mis line).own (vU k.mis line).words,sO k.mis line,k.buf⟩:=by unfold cC;rw [h1,if_pos rfl,h2];rfl
      rw [e2]
      have hSet:=fun F=>yC (F:=F) (b:=a) (c:=c) (l:=k.ways) (line:=line) (st:=(vU k.mis line).own) (w:=(vU k.mis line).words) (l3 hc) hli
      refine FnF.mk' Tryz.func221 rfl rfl Tryz.ntmps221 rfl ?_
      repeat' (first|refine go ?_|intro _|refine uL ?_|refine dM ?_|refine aD @hOwe ?_|refine aD @hSet ?_|refine nV ?_ ?_|fail)
      all_goals exact bF
     |true=>
      have e2:cC c k line=⟨fD c k.ways line (vU k.mis line).own (aP c k.ways line).words,sO k.mis line,k.buf⟩:=by unfold cC;rw [h1,if_pos rfl,h2];rfl
      rw [e2]
      have hSet:=fun F=>yC (F:=F) (b:=a) (c:=c) (l:=k.ways) (line:=line) (st:=(vU k.mis line).own) (w:=(aP c k.ways line).words) (l3 hc) hli
      have hLook2:=fun F=>hLook F ⟨k.ways,sO k.mis line,k.buf⟩
      refine FnF.mk' Tryz.func221 rfl rfl Tryz.ntmps221 rfl ?_
      repeat' (first|refine go ?_|intro _|refine uL ?_|refine dM ?_|refine aD @hOwe ?_|refine aD @hLook2 ?_|refine aD @hSet ?_|refine nV ?_ ?_|fail)
      all_goals exact bF
  · have e1:a6b er=7:=if_neg h0
    rw [e1,if_neg h0]
    refine FnF.mk' Tryz.func221 rfl rfl Tryz.ntmps221 rfl ?_
    repeat' (first|refine go ?_|intro _|refine uL ?_|refine dM ?_|refine nV ?_ ?_|fail)
    all_goals exact bF
theorem b9b {Q P:Prop} (k:Q) (h:Hid Q→P:=by
  intro k
  first
  |(refine aI ?_;refine uU (id:=1) .true (pl:= .p 0 <| .p 1 <| .p 3 <| .p 4 <| .p 5 <| .p 7 <| .p 9 <| .p 11 <| .p 13 <| .r 6 <| .r 8 <| .r 10 <| .r 12 <| .r 14 <| .e true [(2,.e true [(15,.e false [(16,.p 17 <| .p 18 <| .e false [(19,.p 20 <| .done)])])]),(15,.e false [(2,.e false [(16,.p 17 <| .p 18 <| .e false [(19,.p 20 <| .done)])])])]) k.out)):P:=h ⟨k⟩
theorem d6t {F:List HP} {b a f e:Nat} {c:Cfg} {core:Int} {m:Msg} {k:CaS} (hc:aF c=true) (hli:nA m.line) :
    FnF Tryz.prog 185 [.pointer (some ⟨b,0,none⟩),mv m] (b5a b a f e c core k) F
      (fun r L'=>r= .tuple [f3p .zero false,.int .i64 (a6b (iV k.mis m.line m.acks m.own))].toArray∧L'=b5a b a f e c core (lH c k m)):=by
  have hD:=fun F=>c0o (F:=F) (b:=f) (room:=c.mshrs) (l:=k.mis) (line:=m.line) (acks:=m.acks) (own:=m.own) (w:=m.words)
  have hF:=fun F=>a0g (F:=F) (b:=b) (a:=a) (f:=f) (e:=e) (core:=core) (er:=iV k.mis m.line m.acks m.own) (k:=⟨k.ways,iW k.mis m.line m.acks m.own m.words,k.buf⟩) hc hli
  have e1:lH c k m=if iV k.mis m.line m.acks m.own=0 then cC c ⟨k.ways,iW k.mis m.line m.acks m.own m.words,k.buf⟩ m.line else ⟨k.ways,iW k.mis m.line m.acks m.own m.words,k.buf⟩:=by
    unfold lH
    by_cases h:iV k.mis m.line m.acks m.own=0
    · rw [if_pos h,if_pos h]
    · have:iW k.mis m.line m.acks m.own m.words=k.mis:=if_neg h
      rw [if_neg h,if_neg h,this]
  rw [e1]
  refine FnF.mk' Tryz.func185 rfl rfl Tryz.ntmps185 rfl ?_
  repeat' (first|refine go ?_|intro _|refine b9b ?_|refine dM ?_|refine aD @hD ?_|refine aD @hF ?_|refine nV ?_ ?_|fail)
  all_goals exact bF
theorem a4x {Q P:Prop} (k:Q) (h:Hid Q→P:=by
  intro k
  first
  |(refine aI ?_;refine uU (id:=4) .true (pl:= .p 0 <| .p 1 <| .p 3 <| .p 4 <| .p 5 <| .p 7 <| .p 9 <| .r 6 <| .r 8 <| .r 10 <| .e true [(2,.e true [(11,.e false [(12,.p 13 <| .p 14 <| .e false [(15,.p 16 <| .done)])])]),(11,.e false [(2,.e false [(12,.p 13 <| .p 14 <| .e false [(15,.p 16 <| .done)])])])]) k.out)):P:=h ⟨k⟩
theorem d1e {F:List HP} {b a f e:Nat} {c:Cfg} {core:Int} {m:Msg} {k:CaS} (hc:aF c=true) (hli:nA m.line) :
    FnF Tryz.prog 186 [.pointer (some ⟨b,0,none⟩),mv m] (b5a b a f e c core k) F
      (fun r L'=>r= .tuple [f3p .zero false,.int .i64 (a5i c k m)].toArray∧L'=b5a b a f e c core (sC c k m)):=by
  have hLook:=fun F=>oW (F:=F) (b:=b) (a:=a) (f:=f) (e:=e) (core:=core) (k:=k) hc hli
  have hD:=fun F=>c9y (F:=F) (b:=f) (room:=c.mshrs) (l:=k.mis) (line:=m.line) (acks:=m.acks)
  have hF:=fun F=>a0g (F:=F) (b:=b) (a:=a) (f:=f) (e:=e) (core:=core) (er:=iV k.mis m.line m.acks 4) (k:=⟨k.ways,gL k.mis m.line m.acks,k.buf⟩) hc hli
  by_cases h3:(aP c k.ways m.line).st=3
  · have e0:a5i c k m=a6b (iV k.mis m.line m.acks 4):=if_pos h3
    have e1:sC c k m=if iV k.mis m.line m.acks 4=0 then cC c ⟨k.ways,gL k.mis m.line m.acks,k.buf⟩ m.line else ⟨k.ways,gL k.mis m.line m.acks,k.buf⟩:=by
      unfold sC
      rw [e0]
      by_cases h:iV k.mis m.line m.acks 4=0
      · rw [if_pos h,h];rfl
      · have:gL k.mis m.line m.acks=k.mis:=if_neg h
        rw [if_neg h,this,if_neg (by unfold a6b;rw [if_neg h];decide)]
    rw [e0,e1]
    refine FnF.mk' Tryz.func186 rfl rfl Tryz.ntmps186 rfl ?_
    repeat' (first|refine go ?_|intro _|refine a4x ?_|refine dM ?_|refine aD @hLook ?_|refine aD @hD ?_|refine aD @hF ?_|refine nV ?_ ?_|fail)
    all_goals exact bF
  · have e0:a5i c k m=7:=if_neg h3
    have e1:sC c k m=k:=by unfold sC;rw [e0];rfl
    rw [e0,e1]
    refine FnF.mk' Tryz.func186 rfl rfl Tryz.ntmps186 rfl ?_
    repeat' (first|refine go ?_|intro _|refine a4x ?_|refine dM ?_|refine aD @hLook ?_|refine nV ?_ ?_|fail)
    all_goals exact bF
theorem b9c {Q P:Prop} (k:Q) (h:Hid Q→P:=by
  intro k
  first
  |(refine aI ?_;refine uU (id:=1) .true (pl:= .p 0 <| .p 1 <| .p 3 <| .p 4 <| .p 5 <| .p 7 <| .r 6 <| .r 8 <| .e true [(2,.e true [(9,.e false [(10,.p 11 <| .p 12 <| .e false [(13,.p 14 <| .done)])])]),(9,.e false [(2,.e false [(10,.p 11 <| .p 12 <| .e false [(13,.p 14 <| .done)])])])]) k.out)):P:=h ⟨k⟩
theorem e5m {F:List HP} {b a f e:Nat} {c:Cfg} {core:Int} {m:Msg} {k:CaS} (hc:aF c=true) (hli:nA m.line) (hg:∀ m∈k.mis,-9223372036854775808≤m.got∧m.got≤9223372036854775806) :
    FnF Tryz.prog 187 [.pointer (some ⟨b,0,none⟩),mv m] (b5a b a f e c core k) F
      (fun r L'=>r= .tuple [f3p .zero false,.int .i64 (a6b (xD k.mis m.line))].toArray∧L'=b5a b a f e c core (pB c k m)):=by
  have hD:=fun F=>e3r (F:=F) (b:=f) (room:=c.mshrs) (l:=k.mis) (line:=m.line) hg
  have hF:=fun F=>a0g (F:=F) (b:=b) (a:=a) (f:=f) (e:=e) (core:=core) (er:=xD k.mis m.line) (k:=⟨k.ways,nS k.mis m.line,k.buf⟩) hc hli
  have e1:pB c k m=if xD k.mis m.line=0 then cC c ⟨k.ways,nS k.mis m.line,k.buf⟩ m.line else ⟨k.ways,nS k.mis m.line,k.buf⟩:=by
    unfold pB
    by_cases h:xD k.mis m.line=0
    · rw [if_pos h,if_pos h]
    · have:nS k.mis m.line=k.mis:=if_neg h
      rw [if_neg h,if_neg h,this]
  rw [e1]
  refine FnF.mk' Tryz.func187 rfl rfl Tryz.ntmps187 rfl ?_
  repeat' (first|refine go ?_|intro _|refine b9c ?_|refine dM ?_|refine aD @hD ?_|refine aD @hF ?_|refine nV ?_ ?_|fail)
  all_goals exact bF
theorem a8z {Q P:Prop} (k:Q) (h:Hid Q→P:=by
  intro k
  first
  |(refine aI ?_;refine uU (id:=1) .true (pl:= .p 0 <| .p 1 <| .p 2 <| .p 4 <| .r 3 <| .r 5 <| .e true [(6,.p 7 <| .done)]) k.out)):P:=h ⟨k⟩
theorem c4h {F:List HP} {b a f e:Nat} {c:Cfg} {core:Int} {m:Msg} {k:CaS} (hc:aF c=true) :
    FnF Tryz.prog 181 [.pointer (some ⟨b,0,none⟩),mv m] (b5a b a f e c core k) F
      (fun r L'=>r= .tuple [f3p .zero false,.int .i64 (a6b (qQ k.buf m.line))].toArray∧L'=b5a b a f e c core (b2g k m.line)):=by
  have hD:=fun F=>e5z (F:=F) (b:=e) (room:=c.writebacks) (l:=k.buf) (line:=m.line)
  unfold b2g
  by_cases h:qQ k.buf m.line=0
  · have e0:a6b (qQ k.buf m.line)=0:=if_pos h
    rw [e0]
    simp only [h] at hD
    refine FnF.mk' Tryz.func181 rfl rfl Tryz.ntmps181 rfl ?_
    repeat' (first|refine go ?_|intro _|refine a8z ?_|refine dM ?_|refine aD @hD ?_|refine nV ?_ ?_|fail)
    all_goals exact bF
  · have e0:a6b (qQ k.buf m.line)=7:=if_neg h
    rw [e0]
    refine FnF.mk' Tryz.func181 rfl rfl Tryz.ntmps181 rfl ?_
    repeat' (first|refine go ?_|intro _|refine a8z ?_|refine dM ?_|refine aD @hD ?_|refine nV ?_ ?_|fail)
    all_goals exact bF
end
section
structure MaL (c:Cfg) (n:Nat) (s:MaS):Prop where
  ok:aF c=true
  lk:(s.ks.length:Int)=c.cores
  la:(s.cs.length:Int)=c.cores
  lh:(s.hs.length:Int)=c.homes
  kp:∀ k∈s.ks,lW c k.l=true∧k.rs.length≤k.l.length
  ca:∀ k∈s.cs,lD c n k
  hm:∀ (i:Nat) x,s.hs[i]? =some x→HmI c (i:Int) x∧0≤x.odd∧x.odd≤n
  nt:∀ k,∀ m∈eY s.n k,fG c m∧c6 m.kind=k
  rm:∀ k,rS k=true→((eY s.n k).length:Int)≤q6 c k
  od:0≤s.odd∧s.odd≤n
theorem nN {α:Type} {P:α→Prop} {l:List α} {i:Nat} {z:α} (h:∀ x∈l,P x) (hz:P z):P (l.getD i z):=by
  rw [List.getD_eq_getElem?_getD]
  cases e:l[i]? with
  |none=>exact hz
  |some x=>exact h x (List.mem_of_getElem? e)
theorem f4z {c:Cfg} {n:Nat}:lD c n caZ:=d8e c n 0
section
variable {c:Cfg} {n:Nat} {s:MaS}
theorem MaL.mono (h:MaL c n s) {n':Nat} (hn:n≤n'):MaL c n' s:=
  ⟨h.ok,h.lk,h.la,h.lh,h.kp,fun k hk=>e1s hn (h.ca k hk),fun i x hx=>by obtain ⟨a,b,d⟩:=h.hm i x hx;exact ⟨a,b,om⟩,h.nt,h.rm,by have:=h.od;omega⟩
theorem MaL.cai (h:MaL c n s) (i:Int):lD c n (bI s i):=nN (P:=lD c n) h.ca f4z
theorem MaL.hmi (h:MaL c n s) {i:Int} (h0:0≤i) (h1:i<c.homes):HmI c i (bU s i)∧0≤(bU s i).odd∧(bU s i).odd≤n:=by
  have hl:i.toNat<s.hs.length:=by have:=h.lh;omega
  have:=h.hm i.toNat _ (List.getElem?_eq_getElem hl)
  have e:((i.toNat:Nat):Int)=i:=by omega
  rw [e] at this
  unfold bU
  rw [List.getD_eq_getElem?_getD,List.getElem?_eq_getElem hl]
  exact this
theorem MaL.setA (h:MaL c n s) {i:Int} {k:CaS} (hk:lD c n k):MaL c n (dN s i k):=
  ⟨h.ok,h.lk,by show ((s.cs.set _ _).length:Int)=_;rw [List.length_set];exact h.la,h.lh,h.kp,gO h.ca hk,h.hm,h.nt,h.rm,h.od⟩
theorem MaL.setH (h:MaL c n s) {i:Int} {k:HomS} (h0:0≤i) (hk:HmI c i k∧0≤k.odd∧k.odd≤n):MaL c n (dU s i k):=
  ⟨h.ok,h.lk,h.la,by show ((s.hs.set _ _).length:Int)=_;rw [List.length_set];exact h.lh,h.kp,h.ca,fun j x hx=>by
    change (s.hs.set i.toNat k)[j]? =some x at hx
    rw [List.getElem?_set] at hx
    split at hx
    · rename_i e
      split at hx
      · cases hx
        have:(j:Int)=i:=by omega
        rw [this];exact hk
      · cases hx
    · exact h.hm j x hx,h.nt,h.rm,h.od⟩
theorem MaL.setK (h:MaL c n s) {i:Int} {k:CoS} (hk:lW c k.l=true∧k.rs.length≤k.l.length):MaL c n (a6a s i k):=
  ⟨h.ok,by show ((s.ks.set _ _).length:Int)=_;rw [List.length_set];exact h.lk,h.la,h.lh,gO h.kp hk,h.ca,h.hm,h.nt,h.rm,h.od⟩
theorem x7 {x:Nets} {k j:Int} {l:List Msg} (hk:rS k=true):eY (a4h x k l) j=if j=k then l else eY x j:=by
  rcases mJ hk with rfl|rfl|rfl<;>simp only [a4h,eY]<;>grind
theorem MaL.send (h:MaL c n s) (m:Msg):MaL c n (dX c s m):=by
  unfold dX eJ
  by_cases hm:fG c m
  · rw [if_pos hm]
    have hk:rS (c6 m.kind)=true:=by
      obtain ⟨_,h2,_⟩:=hm
      unfold c6 rS
      split<;>(try split)<;>(try split)<;>first|(simp;done)|omega
    refine ⟨h.ok,h.lk,h.la,h.lh,h.kp,h.ca,h.hm,fun k x hx=>?_,fun k hk'=>?_,h.od⟩
    · change x∈eY (a4h s.n _ _) k at hx
      rw [x7 hk] at hx
      split at hx
      · rename_i e
        subst e
        unfold a4o at hx
        split at hx
        · exact h.nt _ x hx
        · rcases List.mem_append.1 hx with g|g
          · exact h.nt _ x g
          · obtain rfl:=List.mem_singleton.1 g
            exact ⟨hm,rfl⟩
      · exact h.nt k x hx
    · show ((eY (a4h s.n _ _) k).length:Int)≤_
      rw [x7 hk]
      split
      · rename_i e
        subst e
        exact e2z (h.rm _ hk)
      · exact h.rm k hk'
  · rw [if_neg hm];exact h
theorem MaL.take (h:MaL c n s) (k i:Int):MaL c n (dZ s (aH s.n k i)):=by
  have hsub:∀ {l:List Msg} {x:Msg},x∈oQ l i→x∈l:=fun {l x} hx=>by
    unfold oQ at hx
    split at hx
    · exact List.mem_of_mem_eraseIdx hx
    · exact hx
  have hlen:∀ {l:List Msg},(oQ l i).length≤l.length:=fun {l}=>by
    unfold oQ
    split
    · exact List.length_eraseIdx_le _ _
    · exact Nat.le_refl _
  by_cases hk:rS k=true
  · refine ⟨h.ok,h.lk,h.la,h.lh,h.kp,h.ca,h.hm,fun j x hx=>?_,fun j hj=>?_,h.od⟩
    · change x∈eY (a4h s.n k (oQ (eY s.n k) i)) j at hx
      rw [x7 hk] at hx
      split at hx
      · rename_i e;subst e;exact h.nt _ x (hsub hx)
      · exact h.nt j x hx
    · show ((eY (a4h s.n k (oQ (eY s.n k) i)) j).length:Int)≤_
      rw [x7 hk]
      split
      · rename_i e;subst e
        have:=h.rm _ hk;have:=hlen (l:=eY s.n j);omega
      · exact h.rm j hj
  · have:aH s.n k i=s.n:=by
      unfold aH a4h
      have hk':¬(0≤k∧k<3):=by simpa [rS] using hk
      rw [if_neg (om),if_neg (om),if_neg (om)]
    rw [this];exact h
theorem MaL.odd (h:MaL c n s) (b:Bool):MaL c (n+1) (j9 s b):=by
  have h':=h.mono (Nat.le_succ n)
  refine ⟨h'.ok,h'.lk,h'.la,h'.lh,h'.kp,h'.ca,h'.hm,h'.nt,h'.rm,?_⟩
  have:=h.od
  show 0≤(if b then s.odd+1 else s.odd)∧(if b then s.odd+1 else s.odd)≤_
  split<;>omega
theorem dQ {x:Nets} {k i:Int} (h:gN x k i=true):aG x k i∈eY x k:=by
  unfold gN at h
  unfold aG e6z
  rw [h]
  unfold d4w at h
  have h:=of_decide_eq_true h
  have hl:i.toNat<(eY x k).length:=by omega
  show (eY x k).getD i.toNat .zero∈_
  rw [List.getD_eq_getElem?_getD,List.getElem?_eq_getElem hl]
  exact List.getElem_mem hl
theorem d1f {m:Msg} (hc:aF c=true) (hl:0≤m.line∧m.line<c.lines):0≤r9 c m∧r9 c m<c.homes:=by
  have:=(gP hc).2.1
  unfold r9
  rw [Int.tmod_eq_emod_of_nonneg hl.1]
  exact ⟨Int.emod_nonneg _ (om),Int.emod_lt_of_pos _ (om)⟩
theorem lO {m:Msg} (h:fG c m) (hh:cK m.kind):0≤m.dst∧m.dst<c.homes:=by
  obtain ⟨g1,g2,g3,g4,g5⟩:=h
  unfold jY at g4
  rw [if_pos hh] at g4
  rw [g4.2.1]
  exact d1f g1 g3
theorem kY {m:Msg} (h:fG c m) (hh:¬cK m.kind):0≤m.dst∧m.dst<c.cores:=by
  obtain ⟨g1,g2,g3,g4,g5⟩:=h
  unfold jY at g4
  rw [if_neg hh] at g4
  split at g4
  · exact g4.2.2.2.1
  · split at g4
    · exact g4.2.2.2.1
    · split at g4
      · exact g4.2.2.1
      · split at g4
        · exact g4.2.1
        · split at g4
          · exact g4.2.1
          · exact g4.2.1
theorem MaL.com (h:MaL c n s) {i:Int} {x:Op3} {v:Int} (hh:gH (cO s i)=true):MaL c n (nZ s i x v):=by
  by_cases hi:i.toNat<s.ks.length
  · have e:cO s i=s.ks[i.toNat]:=by unfold cO;rw [List.getD_eq_getElem?_getD,List.getElem?_eq_getElem hi];rfl
    have hk:=h.kp _ (List.getElem_mem hi)
    rw [←e] at hk
    have hlt:(cO s i).rs.length≠(cO s i).l.length:=by simpa [gH,qA] using hh
    have h2:=h.setK (i:=i) (k:=sB (cO s i) v) ⟨hk.1,by show ((cO s i).rs++[v]).length≤_;rw [List.length_append];simp;show _≤(cO s i).l.length;omega⟩
    exact ⟨h2.ok,h2.lk,h2.la,h2.lh,h2.kp,h2.ca,h2.hm,h2.nt,h2.rm,h2.od⟩
  · have e:cO s i=coZ:=by unfold cO;rw [List.getD_eq_getElem?_getD,List.getElem?_eq_none (om)];rfl
    rw [e] at hh;cases hh
theorem MaL.does (h:MaL c n s) {i:Int} {x:Op3} (hh:gH (cO s i)=true):MaL c n (jE c s i x):=by
  unfold jE
  split
  · exact (h.setA (f2f (h.cai i))).com hh
  · exact h
theorem MaL.ev (h:MaL c n s) {i w:Int} {x:Op3}:MaL c n (a7f c s i x w):=by
  unfold a7f
  split
  · exact (h.setA (e6t (h.cai i))).send _
  · exact h.setA (e6t (h.cai i))
theorem MaL.act (h:MaL c n s) {i w:Int}:MaL c n (c8 c s i w):=by
  unfold c8
  split
  · exact (h.setA (e8g (h.cai i))).send _
  · split
    · exact h
    · rename_i hh
      have hh:gH (cO s i)=true:=by simpa using hh
      split
      · split
        · exact h.com hh
        · exact h
      · split
        · exact h.does hh
        · split
          · exact h
          · split
            · exact (h.setA (d8d (h.cai i))).send _
            · split
              · exact h.ev
              · exact h
theorem MaL.taken (h:MaL c n s) (m:Msg):MaL c (n+1) (dD c s m):=by
  have h1:=(h.mono (Nat.le_succ n)).setA (i:=m.dst) (k:=aS c m.dst (bI s m.dst) m) (e1t (h.cai m.dst))
  have h2:∀ b:Bool,MaL c (n+1) (j9 (dN s m.dst (aS c m.dst (bI s m.dst) m)) b):=fun b=>by
    refine ⟨h1.ok,h1.lk,h1.la,h1.lh,h1.kp,h1.ca,h1.hm,h1.nt,h1.rm,?_⟩
    have:=h.od
    show 0≤(if b then s.odd+1 else s.odd)∧(if b then s.odd+1 else s.odd)≤_
    split<;>omega
  unfold dD
  split
  · exact (h2 _).send _
  · exact h2 _
theorem MaL.thn (h:MaL c n s) (m:Msg):MaL c n (i3 c s m):=by
  unfold i3
  split
  · rename_i g;exact h.does g.1
  · exact h
theorem c4i {i:Int} {k:HomS} {m:Msg}:(iZ c i k m).odd=k.odd:=by unfold iZ;split<;>rfl
theorem b9d {i:Int} {k:HomS} {m:Msg}:(fI c i k m).odd=k.odd:=by unfold fI;split<;>rfl
theorem MaL.del (h:MaL c n s) (k i:Int):MaL c (n+1) (d8 c s k i):=by
  have hm:=h.mono (Nat.le_succ n)
  unfold d8
  split
  · exact hm
  · rename_i g
    have hb:gN s.n k i=true:=by cases e:gN s.n k i with|true=>rfl|false=>exact absurd (.inl e) g
    have hmem:=h.nt k _ (dQ hb)
    have ht:=h.take k i
    split
    · rename_i hk0
      subst hk0
      have hh:cK (aG s.n 0 i).kind:=by
        have:=hmem.2
        unfold c6 at this
        unfold cK
        split at this
        · exact .inl (by assumption)
        · split at this
          · omega
          · split at this<;>omega
      have hr:=lO hmem.1 hh
      split
      · have hI:=h.hmi hr.1 hr.2
        have:=h.setH (i:=(aG s.n 0 i).dst) (k:=iZ c (aG s.n 0 i).dst (bU s (aG s.n 0 i).dst) (aG s.n 0 i)) hr.1 ⟨e2e hI.1 _,by rw [c4i];exact hI.2⟩
        exact (this.take 0 i).mono (Nat.le_succ n)
      · exact hm
    · split
      · rename_i hk1;subst hk1;exact ht.taken _
      · split
        · rename_i h11
          have hr:=lO hmem.1 (.inr h11)
          have hI:=ht.hmi hr.1 hr.2
          have:=ht.setH (i:=(aG s.n k i).dst) (k:=fI c (aG s.n k i).dst (bU (dZ s (aH s.n k i)) (aG s.n k i).dst) (aG s.n k i)) hr.1 ⟨d3u hI.1 _,by rw [b9d];exact hI.2⟩
          exact this.odd _
        · exact (ht.taken _).thn _
theorem MaL.work (h:MaL c n s) {i j:Int} (h0:0≤i) (h1:i<c.homes):MaL c (n+1) (c7 c s i j):=by
  have hI:=h.hmi h0 h1
  have ho:=e8n (c:=c) (s:=bU s i) j (d1v c s)
  have:=(h.mono (Nat.le_succ n)).setH (i:=i) (k:=cE c (bU s i) j (d1v c s)) h0 ⟨d3x hI.1 _ _,om,om⟩
  unfold c7
  split
  · exact this.send _
  · exact this
theorem MaL.look (h:MaL c n s) {i d:Int}:MaL c n (eE c s i d):=by
  unfold eE
  split
  · exact h
  · split
    · have hk:lW c (iO (cO s i) d).l=true∧(iO (cO s i) d).rs.length≤(iO (cO s i) d).l.length∨¬i.toNat<s.ks.length:=by
        by_cases hi:i.toNat<s.ks.length
        · left
          have e:cO s i=s.ks[i.toNat]:=by unfold cO;rw [List.getD_eq_getElem?_getD,List.getElem?_eq_getElem hi];rfl
          have hk:=h.kp _ (List.getElem_mem hi)
          rw [←e] at hk
          exact hk
        · exact .inr hi
      have h2:MaL c n (a6a s i (iO (cO s i) d)):=by
        rcases hk with hk|hk
        · exact h.setK hk
        · have:a6a s i (iO (cO s i) d)=s:=by unfold a6a;rw [List.set_eq_of_length_le (om)]
          rw [this];exact h
      exact (h2.setA (d8d (h.cai i))).send _
    · exact h
theorem MaL.pick (h:MaL c n s) (p:Pk):MaL c (n+1) (bY c s p):=by
  have hm:=h.mono (Nat.le_succ n)
  unfold bY
  split
  · exact hm
  · rename_i g
    split
    · exact h.del _ _
    · split
      · rename_i g2
        have:=g2.2
        have hl:=h.lh
        simp only [inN,decide_eq_true_eq] at this
        exact h.work (om) (om)
      · split
        · exact h.act.mono (Nat.le_succ n)
        · split
          · exact h.look.mono (Nat.le_succ n)
          · exact hm
theorem MaL.new {ps:List (List Op3)} (h:nE c ps=true):MaL c 0 (bK c ps):=by
  simp only [nE,Bool.and_eq_true,decide_eq_true_eq,List.all_eq_true] at h
  obtain ⟨⟨hc,hl⟩,hp⟩:=h
  have hb:=gP hc
  refine ⟨hc,by show ((ps.map _).length:Int)=_;rw [List.length_map];exact hl,by show ((ps.map _).length:Int)=_;rw [List.length_map];exact hl,?_,?_,?_,?_,?_,?_,⟨by show (0:Int)≤0;omega,by show (0:Int)≤0;omega⟩⟩
  · show (((List.range c.homes.toNat).map _).length:Int)=_
    rw [List.length_map,List.length_range]
    have:=hb.2.1
    omega
  · intro k hk
    obtain ⟨l,hl,rfl⟩:=List.mem_map.1 hk
    exact ⟨hp l hl,Nat.zero_le _⟩
  · intro k hk
    obtain ⟨l,hl,rfl⟩:=List.mem_map.1 hk
    exact d8e c 0 _
  · intro i x hx
    change ((List.range c.homes.toNat).map _)[i]? =some x at hx
    rw [List.getElem?_map] at hx
    cases e:(List.range c.homes.toNat)[i]? with
    |none=>rw [e] at hx;cases hx
    |some j=>
     rw [e] at hx
     cases hx
     obtain ⟨hi,e⟩:=List.getElem?_eq_some_iff.1 e
     rw [List.getElem_range] at e
     subst e
     rw [List.length_range] at hi
     exact ⟨e2d (by unfold a1k;rw [hc,decide_eq_true (om)];rfl),by show (0:Int)≤0;omega,by show (0:Int)≤0;omega⟩
  · intro k m hm
    simp only [bK,eY] at hm
    split at hm<;>(try split at hm)<;>(try split at hm)<;>cases hm
  · intro k hk
    simp only [aF,gI,Bool.and_eq_true,decide_eq_true_eq] at hc
    rcases mJ hk with rfl|rfl|rfl<;>simp only [bK,eY,q6]<;>simp<;>omega
def cM (c:Cfg) (s:MaS) (l:List Pk):MaS:=l.foldl (bY c) s
theorem b4x {l:List Pk} {i:Nat} (hi:i<l.length):cM c s (l.take (i+1))=bY c (cM c s (l.take i)) l[i]:=by
  unfold cM
  rw [List.take_add_one,List.getElem?_eq_getElem hi,Option.toList_some,List.foldl_append]
  rfl
end
end
section
section
variable {c:Cfg} {n:Nat} {s:MaS}
theorem tF {core kind line:Int} {w:Words} (hl:aL c line=true) (hc:0≤core∧core<c.cores) (hk:(kind=1∨kind=2∨kind=11)∧w= .zero∨kind=3∧bX c w):fG c (cP c core kind line w):=by
  have hl':=hl
  unfold aL at hl
  simp only [Bool.and_eq_true,decide_eq_true_eq] at hl
  have hh:cK kind:=by unfold cK;omega
  refine ⟨hl.1,by show 1≤kind∧kind≤11;omega,hl.2,?_,?_⟩
  · unfold jY
    rw [if_pos (show cK (cP c core kind line w).kind from hh)]
    refine ⟨hc,?_,rfl,rfl,by show (0:Int)≤0;omega,by show (0:Int)<_;simp⟩
    show cU c line=r9 c (cP c core kind line w)
    unfold cU r9
    rw [if_pos hl',Int.tmod_eq_emod_of_nonneg (show 0≤(cP c core kind line w).line from hl.2.1)]
    rfl
  · unfold iX
    rcases hk with ⟨hk,hw⟩|⟨hk,hw⟩
    · rw [if_neg (by show ¬iB kind;unfold iB;omega)]
      exact hw
    · rw [if_pos (by show iB kind;unfold iB;omega)]
      exact hw
theorem d9l {k:CaS} (h:lD c n k) {sw w:Int} (hs:(oH c k.ways sw w).st≠0):aL c (oH c k.ways sw w).line=true:=by
  obtain ⟨i,hi,e⟩:=List.getElem_of_mem (vH hs)
  rw [←e] at hs ⊢
  exact (h.1.1 i hi (by unfold bC;simp [hs])).1
theorem d9m {k:CaS} (h:lD c n k) (hb:gD k=true):aL c (cG k)=true:=by
  unfold gD at hb
  have hb:=of_decide_eq_true hb
  unfold cG
  rw [if_pos hb]
  obtain ⟨i,hi,e,_⟩:=cR hb
  have e':jH k.mis=i:=e
  rw [e',List.getD_eq_getElem?_getD,Int.toNat_natCast,List.getElem?_eq_getElem hi]
  exact (h.1.2.2 _ (List.getElem_mem hi)).1
theorem a3q {m:Msg} (hm:fG c m) (hr:0<cB c s.n (c6 m.kind)):s4 c s m=true:=by
  unfold s4 vK
  rw [if_pos hm]
  unfold d8o
  unfold cB at hr
  rw [if_neg (om)]
  rfl
theorem MaL.caz (h:MaL c n s) (i:Int):lD c n (bI s i):=h.cai i
theorem bP {α:Type} {l:List α} {i:Nat} {z:α}:l.set i (l.getD i z)=l:=by
  by_cases hi:i<l.length
  · rw [List.getD_eq_getElem?_getD,List.getElem?_eq_getElem hi]
    exact List.set_getElem_self hi
  · exact List.set_eq_of_length_le (om)
theorem a9a (i:Int):dN s i (bI s i)=s:=by unfold dN bI;rw [bP]
theorem e5n (i:Int):dU s i (bU s i)=s:=by unfold dU bU;rw [bP]
theorem a2r (h:MaL c n s) {k:Int} (hk:rS k=true):0≤cB c s.n k:=by unfold cB;have:=h.rm k hk;omega
theorem c1g {k:CaS} {line kind:Int} (h:dV c k line kind=0):aL c line=true∧(kind=1∨kind=2):=by
  refine ⟨d9o h,?_⟩
  unfold dV at h
  split at h
  · cases h
  · rename_i g
    omega
theorem b3w (h:MaL c n s) {i:Int} (hi:0≤i∧i<c.cores) (h2:0<cB c s.n 2) (hb:gD (bI s i)=true):s4 c s (jG c i (bI s i))=true:=by
  have e:jG c i (bI s i)=cP c i 11 (cG (bI s i)) .zero:=by unfold jG;rw [if_pos hb]
  rw [e]
  exact a3q (tF (d9m (h.caz i) hb) hi (.inl ⟨om,rfl⟩)) h2
theorem a3r (h:MaL c n s) {i line kind:Int} (hi:0≤i∧i<c.cores) (h2:cB c s.n 0≠0) (he:dV c (bI s i) line kind=0):s4 c s (d9 c i (bI s i) line kind)=true:=by
  have e:d9 c i (bI s i) line kind=cP c i kind line .zero:=by unfold d9;rw [if_pos he]
  obtain ⟨g1,g2⟩:=c1g he
  rw [e]
  refine a3q (tF g1 hi (.inl ⟨om,rfl⟩)) ?_
  have:=a2r h (k:=0) rfl
  have e2:c6 (cP c i kind line .zero).kind=0:=by show c6 kind=0;unfold c6;rw [if_pos (om)]
  rw [e2];omega
theorem c1h (h:MaL c n s) {i sw w:Int} (hi:0≤i∧i<c.cores) (h2:cB c s.n 0≠0) (hb:kZ c (bI s i) sw w=true):s4 c s (mV c i (bI s i) sw w)=true:=by
  have e:mV c i (bI s i) sw w=cP c i 3 (oH c (bI s i).ways sw w).line (oH c (bI s i).ways sw w).words:=by unfold mV;rw [if_pos hb]
  rw [e]
  unfold kZ at hb
  have hb:=of_decide_eq_true hb
  refine a3q (tF (d9l (h.caz i) (om)) hi (.inr ⟨rfl,e0b (h.caz i).2.2.1 _ _⟩)) ?_
  have:=a2r h (k:=0) rfl
  have e2:c6 (cP c i 3 (oH c (bI s i).ways sw w).line (oH c (bI s i).ways sw w).words).kind=0:=rfl
  rw [e2];omega
theorem d6u (h:MaL c n s) {i w:Int} (hi:0≤i∧i<c.cores) (hb:dO c s i w=false):c8 c s i w=s:=by
  unfold dO at hb
  unfold c8
  split at hb
  · rename_i g
    rw [b3w h hi g.1 g.2] at hb;cases hb
  · rename_i g0
    rw [if_neg g0]
    split at hb
    · rename_i g1;rw [if_pos g1]
    · rename_i g1
      rw [if_neg g1]
      split at hb
      · rename_i g2
        rw [if_pos g2,if_neg (of_decide_eq_false hb)]
      · rename_i g2
        rw [if_neg g2]
        split at hb
        · cases hb
        · rename_i g3
          rw [if_neg g3]
          split at hb
          · rename_i g4;rw [if_pos g4]
          · rename_i g4
            rw [if_neg g4]
            split at hb
            · rename_i g5
              unfold nC at g5
              rw [a3r h hi g4 g5] at hb;cases hb
            · rename_i g5
              rw [if_neg g5]
              split at hb
              · rename_i g6
                rw [if_pos g6]
                unfold a7f
                cases hev:kZ c (bI s i) (eU c (bV (cO s i))) (w.tmod c.ways) with
                |true=>
                 rw [hev,c1h h hi g4 hev] at hb
                 unfold kZ at hev
                 rw [decide_eq_true (of_decide_eq_true hev).1] at hb
                 cases hb
                |false=>
                 rw [hev] at hb
                 simp only [Bool.not_false,Bool.true_or,Bool.and_true,decide_eq_false_iff_not] at hb
                 rw [if_neg (by simp)]
                 have:d5 c (bI s i) (eU c (bV (cO s i))) (w.tmod c.ways)=bI s i:=by unfold d5;rw [if_neg hb]
                 rw [this,a9a]
              · rename_i g6;rw [if_neg g6]
theorem b3x {i j:Int} (hb:kA c s i j=false):c7 c s i j=s:=by
  unfold kA mT at hb
  unfold c7 e7 cE
  split at hb
  · cases hb
  · rename_i g
    rw [if_neg g,if_neg g,hb]
    simp only [Bool.false_eq_true,if_false]
    exact e5n i
theorem d6v {k i:Int} (hb:fQ c s k i=false):d8 c s k i=s:=by
  unfold fQ at hb
  unfold d8
  split at hb
  · rename_i g;rw [if_pos g]
  · rename_i g
    rw [if_neg g]
    split at hb
    · rename_i g2
      rw [if_pos g2,if_neg (of_decide_eq_false hb)]
    · cases hb
theorem d1g (h:MaL c n s) {i d:Int} (hi:0≤i∧i<c.cores) (hb:jI c s i d=false):eE c s i d=s:=by
  unfold jI at hb
  unfold eE
  split at hb
  · rename_i g;rw [if_pos g]
  · rename_i g
    rw [if_neg g]
    split at hb
    · rename_i g2
      unfold nC at g2
      rw [a3r h hi (fun e=>g (.inr e)) g2] at hb;cases hb
    · rename_i g2
      rw [if_neg g2]
theorem b3y (h:MaL c n s) {p:Pk} (hb:bN c s p=false):bY c s p=s:=by
  have hlk:=h.lk
  unfold bN at hb
  unfold bY
  split at hb
  · rename_i g;rw [if_pos g]
  · rename_i g
    rw [if_neg g]
    split at hb
    · rename_i g1;rw [if_pos g1];exact d6v hb
    · rename_i g1
      rw [if_neg g1]
      split at hb
      · rename_i g2;rw [if_pos g2];exact b3x hb
      · rename_i g2
        rw [if_neg g2]
        split at hb
        · rename_i g3
          rw [if_pos g3]
          have:=g3.2
          simp only [inN,decide_eq_true_eq] at this
          exact d6u h (om) hb
        · rename_i g3
          rw [if_neg g3]
          split at hb
          · rename_i g4
            rw [if_pos g4]
            have:=g4.2
            simp only [inN,decide_eq_true_eq] at this
            exact d1g h (om) hb
          · rename_i g4;rw [if_neg g4]
end
end
section
def oC (line:Int) (q:List QE):List Msg:=(q.filter fun e=>decide (e.m.line=line)&& !e.st).map (·.m)
def oP (line:Int) (q:List QE):List Msg:=(q.filter fun e=>decide (e.m.line=line)).flatMap (·.sends)
theorem rO (line:Int) (a b:List QE):oC line (a++b)=oC line a++oC line b:=by simp [oC]
theorem b1z (line:Int) (a b:List QE):oP line (a++b)=oP line a++oP line b:=by simp [oP]
theorem o7 (line:Int) (e:QE) (b:List QE):oC line (e::b)=(if e.m.line=line∧e.st=false then [e.m] else [])++oC line b:=by
  unfold oC
  rw [List.filter_cons]
  by_cases h:e.m.line=line<;>cases hs:e.st<;>simp [h,hs]
theorem a9b (line:Int) (e:QE) (b:List QE):oP line (e::b)=(if e.m.line=line then e.sends else [])++oP line b:=by
  unfold oP
  rw [List.filter_cons]
  by_cases h:e.m.line=line<;>simp [h]
theorem a2s {line:Int} {q:List QE} (h:∀ e∈q,e.m.line=line→e.sends=[]):oP line q=[]:=by
  induction q with
  |nil=>rfl
  |cons e r ih=>
   rw [a9b,ih fun x hx=>h x (List.mem_cons_of_mem _ hx)]
   split
   · rename_i he;rw [h e (List.mem_cons_self ..) he];rfl
   · rfl
theorem e5o {line:Int} {q:List QE} (h:∀ e∈q,e.m.line≠line):oC line q=[]:=by
  induction q with
  |nil=>rfl
  |cons e r ih=>rw [o7,ih fun x hx=>h x (List.mem_cons_of_mem _ hx),if_neg (fun g=>h e (List.mem_cons_self ..) g.1)];rfl
theorem e0l {q:List QE} {i:Nat} (hi:i<q.length):q=q.take i++q[i]::q.drop (i+1)∧(∀ x,q.set i x=q.take i++x::q.drop (i+1))∧q.eraseIdx i=q.take i++q.drop (i+1):=by
  refine ⟨?_,fun x=>?_,List.eraseIdx_eq_take_drop_succ q i⟩
  · rw [←List.drop_eq_getElem_cons hi,List.take_append_drop]
  · rw [List.set_eq_take_append_cons_drop,if_pos hi]
theorem d9n {q:List QE} (h:a5c q) {i:Nat} (hi:i<q.length):∀ e∈q.drop (i+1),e.m.line=q[i].m.line→e.st=false∧e.sends=[]:=by
  intro e he hl
  obtain ⟨j,hj,rfl⟩:=List.getElem_of_mem he
  rw [List.getElem_drop] at hl ⊢
  have hj':i+1+j<q.length:=by simp at hj;omega
  have hs:=h.1 i (i+1+j) hi hj' (om) hl.symm
  exact ⟨hs,h.2 _ (List.getElem_mem _) hs⟩
theorem f0m {q:List QE} (h:a5c q) {i:Nat} (hi:i<q.length) (hs:q[i].st=true):∀ e∈q.take i,e.m.line≠q[i].m.line:=by
  intro e he hl
  obtain ⟨j,hj,rfl⟩:=List.getElem_of_mem he
  rw [List.getElem_take] at hl
  have hj':j<i:=by simp at hj;omega
  have:=h.1 j i (om) hi hj' hl
  rw [hs] at this;cases this
end
end Go.Sx
