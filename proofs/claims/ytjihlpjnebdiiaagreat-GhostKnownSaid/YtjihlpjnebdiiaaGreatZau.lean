/- MaP2, Ca5, Net2, Wi, Read3, WiRead: several of my texts as one. My own work. -/
import Derived.Test.YtjihlpjnebdiiaaGreatZat
import Derived.Test.YtjihlpjnebdiiaaGreatZas
import Derived.ScopeJumps
import Derived.SizedLaws
set_option linter.unusedVariables false
set_option linter.unusedSectionVars false
set_option linter.unusedSimpArgs false
set_option maxRecDepth 100000
set_option maxHeartbeats 4000000
namespace Go.Sx
open Go Go.Proofs
section
def d7j (b:Nat) (c:Cfg) (s:MaS) (x:MaX) (i:Nat):HP:=All [Cells b 81 (e7m c s.odd x.kb.length x.ab.length x.hb.length s.tr.length x.pk x.pa x.ph x.pt x.bn),
  Own 82 1 (.slice x.pk.1 x.kb.length x.pk.2) x.kb.length (aC a7d x.kb),Own 46 1 (.slice x.pa.1 x.ab.length x.pa.2) x.ab.length (aC a7d x.ab),Own 52 1 (.slice x.ph.1 x.hb.length x.ph.2) x.hb.length (aC a7d x.hb),
  oB x.bn c s.n,Own 60 6 (.slice x.pt.1 s.tr.length x.pt.2) s.tr.length (aC e7d s.tr),All ((List.range x.kb.length).map (yC x s)),All (((List.range x.ab.length).eraseIdx i).map (s5 c x s)),All ((List.range x.hb.length).map (s6 c x s)),Fact (yS c s x)]
def d7k (b:Nat) (c:Cfg) (s:MaS) (x:MaX) (i:Nat):HP:=All [Cells b 81 (e7m c s.odd x.kb.length x.ab.length x.hb.length s.tr.length x.pk x.pa x.ph x.pt x.bn),
  Own 82 1 (.slice x.pk.1 x.kb.length x.pk.2) x.kb.length (aC a7d x.kb),Own 46 1 (.slice x.pa.1 x.ab.length x.pa.2) x.ab.length (aC a7d x.ab),Own 52 1 (.slice x.ph.1 x.hb.length x.ph.2) x.hb.length (aC a7d x.hb),
  oB x.bn c s.n,Own 60 6 (.slice x.pt.1 s.tr.length x.pt.2) s.tr.length (aC e7d s.tr),All ((List.range x.kb.length).map (yC x s)),All ((List.range x.ab.length).map (s5 c x s)),All (((List.range x.hb.length).eraseIdx i).map (s6 c x s)),Fact (yS c s x)]
theorem jZ {α:Type} {l:List α} {i j:Nat} {a d:α}:(l.set i a).getD j d=if j=i∧i<l.length then a else l.getD j d:=by
  rw [List.getD_eq_getElem?_getD,List.getElem?_set,List.getD_eq_getElem?_getD]
  by_cases h:i=j
  · subst h
    by_cases h2:i<l.length<;>simp [h2]
  · rw [if_neg h,if_neg (fun g=>h g.1.symm)]
theorem b6y {b:Nat} {c:Cfg} {s:MaS} {x:MaX} {i:Nat} {L:List HP} (hi:i<x.ab.length):Ent (i7 b c s x::L) (s5 c x s i::d7j b c s x i::L):=by
  refine Ent.trans i4 (Ent.trans ?_ (Ent.cons gF))
  show Ent (_::_::_::_::_::_::_::All _::_::_::L) (_::_::_::_::_::_::_::_::All _::_::_::L)
  refine Ent.trans (Ent.cons (Ent.cons (Ent.cons (Ent.cons (Ent.cons (Ent.cons (Ent.cons (vK hi)))))))) ?_
  exact gR (List.perm_middle (l₁:=[_,_,_,_,_,_,_]) (l₂:=All _::_::_::L)).symm.symm
theorem b6z {b:Nat} {c:Cfg} {s:MaS} {x:MaX} {i:Nat} {L:List HP} (hi:i<x.hb.length):Ent (i7 b c s x::L) (s6 c x s i::d7k b c s x i::L):=by
  refine Ent.trans i4 (Ent.trans ?_ (Ent.cons gF))
  refine Ent.trans (Ent.cons (Ent.cons (Ent.cons (Ent.cons (Ent.cons (Ent.cons (Ent.cons (Ent.cons (vK hi))))))))) ?_
  exact gR (List.perm_middle (l₁:=[_,_,_,_,_,_,_,_]) (l₂:=All _::_::L)).symm.symm
theorem d7l {b:Nat} {c:Cfg} {s:MaS} {x:MaX} {i:Nat} {k:CaS} {L M:List HP} (h:Ent L (a8y (x.ab.getD i 0) c (i:Int) k::d7j b c s x i::M)) (hi:i<x.ab.length) (hl:s.cs.length=x.ab.length):Ent L (i7 b c (dW s i k) x::M):=by
  refine Ent.trans h (Ent.trans (Ent.cons i4) (Ent.trans ?_ gF))
  refine Ent.trans (gR (List.perm_middle (l₁:=[_,_,_,_,_,_,_]) (l₂:=All _::_::_::M)).symm) ?_
  refine Ent.cons (Ent.cons (Ent.cons (Ent.cons (Ent.cons (Ent.cons (Ent.cons ?_))))))
  have e:a8y (x.ab.getD i 0) c (i:Int) k=s5 c x (dW s i k) i:=by
    unfold s5 dW;dsimp only
    rw [Int.toNat_natCast,jZ,if_pos ⟨rfl,om⟩]
  rw [e]
  refine Ent.trans (a0b (g:=s5 c x (dW s i k)) hi fun j hj hne=>?_) (Ent.cons (Ent.cons ?_))
  · unfold s5 dW;dsimp only
    rw [Int.toNat_natCast,jZ,if_neg (fun h=>hne h.1)]
  · intro w hw
    have hf:=iW hw
    exact cY (by
      obtain ⟨⟨a1,a2,a3⟩,a4,a5⟩:=hf
      refine ⟨⟨a1,?_,a3⟩,a4,a5⟩
      unfold dW;dsimp only;rw [List.length_set];exact a2) _ (aR hw)
theorem d7m {b:Nat} {c:Cfg} {s:MaS} {x:MaX} {i:Nat} {k:HomS} {L M:List HP} (h:Ent L (iV (x.hb.getD i 0) c (i:Int) k::d7k b c s x i::M)) (hi:i<x.hb.length) (hl:s.hs.length=x.hb.length):Ent L (i7 b c (dI s i k) x::M):=by
  refine Ent.trans h (Ent.trans (Ent.cons i4) (Ent.trans ?_ gF))
  refine Ent.trans (gR (List.perm_middle (l₁:=[_,_,_,_,_,_,_,_]) (l₂:=All _::_::M)).symm) ?_
  refine Ent.cons (Ent.cons (Ent.cons (Ent.cons (Ent.cons (Ent.cons (Ent.cons (Ent.cons ?_)))))))
  have e:iV (x.hb.getD i 0) c (i:Int) k=s6 c x (dI s i k) i:=by
    unfold s6 dI;dsimp only
    rw [Int.toNat_natCast,jZ,if_pos ⟨rfl,om⟩]
  rw [e]
  refine Ent.trans (a0b (g:=s6 c x (dI s i k)) hi fun j hj hne=>?_) (Ent.cons ?_)
  · unfold s6 dI;dsimp only
    rw [Int.toNat_natCast,jZ,if_neg (fun h=>hne h.1)]
  · intro w hw
    have hf:=iW hw
    exact cY (by
      obtain ⟨⟨a1,a2,a3⟩,a4,a5⟩:=hf
      refine ⟨⟨a1,a2,?_⟩,a4,a5⟩
      unfold dI;dsimp only;rw [List.length_set];exact a3) _ (aR hw)
theorem c5o {s:MaS} {i:Nat}:dW s i (s.cs.getD i caZ)=s:=by
  have:s.cs.set i (s.cs.getD i caZ)=s.cs:=by
    by_cases h:i<s.cs.length
    · rw [List.getD_eq_getElem?_getD,List.getElem?_eq_getElem h];simp
    · rw [List.set_eq_of_length_le (om)]
  unfold dW;rw [Int.toNat_natCast,this]
theorem c5p {s:MaS} {i:Nat}:dI s i (s.hs.getD i zA)=s:=by
  have:s.hs.set i (s.hs.getD i zA)=s.hs:=by
    by_cases h:i<s.hs.length
    · rw [List.getD_eq_getElem?_getD,List.getElem?_eq_getElem h];simp
    · rw [List.set_eq_of_length_le (om)]
  unfold dI;rw [Int.toNat_natCast,this]
theorem a9s {b:Nat} {c:Cfg} {s:MaS} {x:MaX} {i:Nat} {L M:List HP} (h:Ent L (a8y (x.ab.getD i 0) c (i:Int) (s.cs.getD i caZ)::d7j b c s x i::M)) (hi:i<x.ab.length) (hl:s.cs.length=x.ab.length):Ent L (i7 b c s x::M):=by
  have:=d7l h hi hl;rwa [c5o] at this
theorem a9t {b:Nat} {c:Cfg} {s:MaS} {x:MaX} {i:Nat} {L M:List HP} (h:Ent L (iV (x.hb.getD i 0) c (i:Int) (s.hs.getD i zA)::d7k b c s x i::M)) (hi:i<x.hb.length) (hl:s.hs.length=x.hb.length):Ent L (i7 b c s x::M):=by
  have:=d7m h hi hl;rwa [c5p] at this
section
variable {b:Nat} {c:Cfg} {s:MaS} {x:MaX} {P:Program} {N:Nat} {env:Env} {L:List HP} {Q:Exit→Act→World→Prop}
theorem b7a {o:Code} (h:yS c s x→WC P N o env (i7 b c s x::L) Q):WC P N o env (i7 b c s x::L) Q:=fun a w ha hw=>h (a4v hw).1 a w ha hw
theorem c5q {all:Array Oper} {o:List Oper} (h:yS c s x→WO P N all o env (i7 b c s x::L) Q):WO P N all o env (i7 b c s x::L) Q:=fun a w ha hw=>h (a4v hw).1 a w ha hw
end
theorem lZ {l:List Nat} {i:Nat} (hi:i<l.length):(aC a7d l)[0+i*1]? =some (.pointer (some ⟨l.getD i 0,0,none⟩)):=by
  rw [List.getD_eq_getElem?_getD,List.getElem?_eq_getElem hi]
  have:aC a7d l=l.map fun n=> .pointer (some ⟨n,0,none⟩):=by
    induction l with
    |nil=>rfl
    |cons a r ih=>
     by_cases h:i-1<r.length
     · show a7d a++aC a7d r=_
       have e:∀ r:List Nat,aC a7d r=r.map fun n=> .pointer (some ⟨n,0,none⟩):=fun r=>by
         induction r with
         |nil=>rfl
         |cons a r ih=>show a7d a++aC a7d r=_;rw [ih];rfl
       rw [e];rfl
     · show a7d a++aC a7d r=_
       have e:∀ r:List Nat,aC a7d r=r.map fun n=> .pointer (some ⟨n,0,none⟩):=fun r=>by
         induction r with
         |nil=>rfl
         |cons a r ih=>show a7d a++aC a7d r=_;rw [ih];rfl
       rw [e];rfl
  rw [this,Nat.zero_add,Nat.mul_one,List.getElem?_map,List.getElem?_eq_getElem hi]
  rfl
theorem gM {b:Nat} {c:Cfg} {s:MaS} {x:MaX} {L M:List HP} (h:Ent L (e9t b c s x M)) (hf:yS c s x):Ent L (i7 b c s x::M):=d4l h hf ⟨rfl,rfl,rfl,rfl,rfl⟩ rfl rfl rfl rfl rfl rfl rfl rfl
attribute [local irreducible] Exit.then Exit.inBlock Code.wp WC WO WE WQ V bF tV d3 bW dF uH IntKind.wrap WR Code.rounds WT KO
theorem c9r {F:List HP} {b:Nat} {c:Cfg} {s:MaS} {x:MaX} {i:Nat} (hi:i<x.ab.length):FnF Tryz.prog 24 [.pointer (some ⟨b,0,none⟩),.int .i64 i] [i7 b c s x] F
    (fun r L'=>r= .pointer (some ⟨x.ab.getD i 0,0,none⟩)∧L'=[i7 b c s x]):=by
  have hg:=lZ hi
  have h0:0≤(i:Int)∧(i:Int)<x.ab.length:=by omega
  have h1:¬¬(0≤(i:Int)∧(i:Int)<x.ab.length):=fun h=>h h0
  refine FnF.mk' Tryz.func24 rfl rfl Tryz.ntmps24 rfl ?_
  refine j0 fun hf=>?_
  repeat first|refine gd ?_|intro _|refine aD @a1a ?_
  (apply aA rfl rfl bB)
  · exact ⟨by simp [hi],rfl⟩
  · refine gM ?_ hf
    exact aB
theorem b2l {F:List HP} {b:Nat} {c:Cfg} {s:MaS} {x:MaX} {i:Nat} (hi:i<x.hb.length):FnF Tryz.prog 27 [.pointer (some ⟨b,0,none⟩),.int .i64 i] [i7 b c s x] F
    (fun r L'=>r= .pointer (some ⟨x.hb.getD i 0,0,none⟩)∧L'=[i7 b c s x]):=by
  have hg:=lZ hi
  have h0:0≤(i:Int)∧(i:Int)<x.hb.length:=by omega
  have h1:¬¬(0≤(i:Int)∧(i:Int)<x.hb.length):=fun h=>h h0
  refine FnF.mk' Tryz.func27 rfl rfl Tryz.ntmps27 rfl ?_
  refine j0 fun hf=>?_
  repeat first|refine gd ?_|intro _|refine aD @a1a ?_
  (apply aA rfl rfl bB)
  · exact ⟨by simp [hi],rfl⟩
  · refine gM ?_ hf
    exact aB
end
section
attribute [local irreducible] Exit.then Exit.inBlock Code.wp WC WO WE WQ V bF tV d3 bW dF uH IntKind.wrap WR Code.rounds WT KO
theorem gN {Q P:Prop} (k:Q) (h:Hid Q→P:=by
  intro k
  first
  |(refine aG ?_;refine q9 (id:=18) .true (pl:= .p 0 <| .p 2 <| .p 4 <| .r 1 <| .e true [(3,.e true [(5,.p 6 <| .p 7 <| .done)]),(5,.e false [(3,.p 6 <| .p 7 <| .done)])]) k.out)):P:=h ⟨k⟩
theorem c9s {F:List HP} {b a f e:Nat} {c:Cfg} {core:Int} {m:Msg} {k:CaS} (hc:aF c=true) (hg:∀ m∈k.mis,-9223372036854775808≤m.got∧m.got≤9223372036854775806) :
    FnF Tryz.prog 143 [.pointer (some ⟨b,0,none⟩),mv m] (b2e b a f e c core k) F
      (fun r L'=>r= .tuple [mv (gT c core k m),.bool (dK c core k m),.int .i64 (bI c core k m)].toArray∧L'=b2e b a f e c core (bH c core k m)):=by
  have hMay:=fun F=>b2y (F:=F) (m:=m) (kY hc)
  by_cases h:l9 c core m=true
  · have h':=h
    simp only [l9,Bool.and_eq_true,decide_eq_true_eq,Bool.not_eq_true',decide_eq_false_iff_not] at h'
    obtain ⟨⟨h1,h2⟩,h3⟩:=h'
    have hli:kP m.line:=yF (d2b h1)
    have hk:=h1.2.1
    have hkk:m.kind=4∨m.kind=5∨m.kind=6∨m.kind=7∨m.kind=8∨m.kind=9∨m.kind=10:=by
      unfold cE at h2;omega
    simp only [decide_eq_true h1] at hMay
    have hHome:=fun F=>zL (F:=F) (k:=m.kind)
    simp only [decide_eq_false h2] at hHome
    have hS:=fun F=>d2c (F:=F) (b:=b) (a:=a) (f:=f) (e:=e) (core:=core) (m:=m) (k:=k) hc hli
    have hM:=fun F=>d2d (F:=F) (b:=b) (a:=a) (f:=f) (e:=e) (core:=core) (m:=m) (k:=k) hc hli
    have hI:=fun F=>d9t (F:=F) (b:=b) (a:=a) (f:=f) (e:=e) (core:=core) (m:=m) (k:=k) hc hli
    have hD:=fun F=>d2e (F:=F) (b:=b) (a:=a) (f:=f) (e:=e) (core:=core) (m:=m) (k:=k) hc hli
    have hG:=fun F=>c7g (F:=F) (b:=b) (a:=a) (f:=f) (e:=e) (core:=core) (m:=m) (k:=k) hc hli
    have hA:=fun F=>d9u (F:=F) (b:=b) (a:=a) (f:=f) (e:=e) (core:=core) (m:=m) (k:=k) hc hli hg
    have hP:=fun F=>c0r (F:=F) (b:=b) (a:=a) (f:=f) (e:=e) (c:=c) (core:=core) (m:=m) (k:=k) hc
    unfold gT dK bI bH
    rcases hkk with g|g|g|g|g|g|g<;>simp only [h,g,if_true,Int.reduceEq,if_false,or_true,or_false,Int.reduceLE,and_true,and_false,decide_false,true_or,false_or]
    · refine FnF.mk' Tryz.func143 rfl rfl Tryz.ntmps143 rfl ?_
      repeat' (first|refine go ?_|intro _|refine gN ?_|refine cM ?_|refine aD @hMay ?_|refine aD @hHome ?_|refine aD @hS ?_|refine mH ?_ ?_|fail)
      all_goals exact aU
    · refine FnF.mk' Tryz.func143 rfl rfl Tryz.ntmps143 rfl ?_
      repeat' (first|refine go ?_|intro _|refine gN ?_|refine cM ?_|refine aD @hMay ?_|refine aD @hHome ?_|refine aD @hM ?_|refine mH ?_ ?_|fail)
      all_goals exact aU
    · refine FnF.mk' Tryz.func143 rfl rfl Tryz.ntmps143 rfl ?_
      repeat' (first|refine go ?_|intro _|refine gN ?_|refine cM ?_|refine aD @hMay ?_|refine aD @hHome ?_|refine aD @hI ?_|refine mH ?_ ?_|fail)
      all_goals exact aU
    · refine FnF.mk' Tryz.func143 rfl rfl Tryz.ntmps143 rfl ?_
      repeat' (first|refine go ?_|intro _|refine gN ?_|refine cM ?_|refine aD @hMay ?_|refine aD @hHome ?_|refine aD @hD ?_|refine mH ?_ ?_|fail)
      all_goals exact aU
    · refine FnF.mk' Tryz.func143 rfl rfl Tryz.ntmps143 rfl ?_
      repeat' (first|refine go ?_|intro _|refine gN ?_|refine cM ?_|refine aD @hMay ?_|refine aD @hHome ?_|refine aD @hG ?_|refine mH ?_ ?_|fail)
      all_goals exact aU
    · refine FnF.mk' Tryz.func143 rfl rfl Tryz.ntmps143 rfl ?_
      repeat' (first|refine go ?_|intro _|refine gN ?_|refine cM ?_|refine aD @hMay ?_|refine aD @hHome ?_|refine aD @hA ?_|refine mH ?_ ?_|fail)
      all_goals exact aU
    · refine FnF.mk' Tryz.func143 rfl rfl Tryz.ntmps143 rfl ?_
      repeat' (first|refine go ?_|intro _|refine gN ?_|refine cM ?_|refine aD @hMay ?_|refine aD @hHome ?_|refine aD @hP ?_|refine mH ?_ ?_|fail)
      all_goals exact aU
  · have e1:bI c core k m=1:=if_neg h
    have e2:dK c core k m=false:=by unfold dK;rw [e1];simp
    have e3:gT c core k m= .zero:=if_neg h
    have e4:bH c core k m=k:=if_neg h
    rw [e1,e2,e3,e4]
    by_cases h1:d6 c m
    · simp only [decide_eq_true h1] at hMay
      by_cases h2:cE m.kind
      · have hHome:=fun F=>zL (F:=F) (k:=m.kind)
        simp only [decide_eq_true h2] at hHome
        refine FnF.mk' Tryz.func143 rfl rfl Tryz.ntmps143 rfl ?_
        repeat' (first|refine go ?_|intro _|refine gN ?_|refine cM ?_|refine aD @hMay ?_|refine aD @hHome ?_|refine mH ?_ ?_|fail)
        all_goals exact aU
      · have hHome:=fun F=>zL (F:=F) (k:=m.kind)
        simp only [decide_eq_false h2] at hHome
        have h3:¬m.dst=core:=fun h3=>h (by simp [l9,h1,h2,h3])
        refine FnF.mk' Tryz.func143 rfl rfl Tryz.ntmps143 rfl ?_
        repeat' (first|refine go ?_|intro _|refine gN ?_|refine cM ?_|refine aD @hMay ?_|refine aD @hHome ?_|refine mH ?_ ?_|fail)
        all_goals exact aU
    · simp only [decide_eq_false h1] at hMay
      refine FnF.mk' Tryz.func143 rfl rfl Tryz.ntmps143 rfl ?_
      repeat' (first|refine go ?_|intro _|refine gN ?_|refine cM ?_|refine aD @hMay ?_|refine mH ?_ ?_|fail)
      all_goals exact aU
theorem d7n {F:List HP} {b:Nat} {c:Cfg} {core:Int} {m:Msg} {k:CaS} (hg:∀ m∈k.mis,-9223372036854775808≤m.got∧m.got≤9223372036854775806) :
    FnF Tryz.prog 143 [.pointer (some ⟨b,0,none⟩),mv m] [a8y b c core k] F
      (fun r L'=>r= .tuple [mv (gT c core k m),.bool (dK c core k m),.int .i64 (bI c core k m)].toArray∧L'=[a8y b c core (bH c core k m)]):=
  sC (fun a f e hf=>c9s hf.1 hg) (kB Tryz.func143 rfl rfl)
end
section
attribute [local irreducible] Exit.then Exit.inBlock Code.wp WC WO WE WQ V bF tV d3 bW dF uH IntKind.wrap WR Code.rounds WT KO
theorem d7o {F:List HP} {b:Nat}:FnF Tryz.prog 120 [.pointer (some ⟨b,0,none⟩)] [] F (fun r L'=>∃ bx,r= .func (.func 168) #[] #[.pointer (some ⟨bx,0,none⟩)]∧L'=[Cells bx 38 [.pointer (some ⟨b,0,none⟩)]]):=by
  refine FnF.mk' Tryz.func120 rfl rfl Tryz.ntmps120 rfl ?_
  repeat first|refine gd ?_|intro _
  (apply aA rfl rfl bB)
  · exact ⟨_,rfl,rfl⟩
  · exact aB
theorem d7p {b bx b0 b1 b2:Nat} {c:Cfg} {n:Nets} (hn0:n.l0.length≤4096) (hn1:n.l1.length≤4096) (hn2:n.l2.length≤4096):Seq Tryz.prog 168 [.pointer (some ⟨bx,0,none⟩)] [Cells b 94 (mX c b0 b1 b2),bG b0 c.r0 n.l0,bG b1 c.r1 n.l1,bG b2 c.r2 n.l2,Cells bx 38 [.pointer (some ⟨b,0,none⟩)]] ((lV n).map mv):=by
  refine Seq.mk Tryz.func168 rfl Tryz.ntmps168 rfl ?_
  intro l A C hy
  simp only [oI] at hy ⊢
  repeat first|refine gd ?_|intro _
  refine b0x 4 ?_
  repeat first|refine gd ?_|intro _|refine aD @sR ?_
  rename_i p0 q0
  apply bC (E0:=[(0,_),(10,_),(11,_),(15,_),(16,_)]) (fun E0 (i:Nat)=>(17,.int .i64 i)::E0) (fun i=>Own 99 15 (.slice p0 n.l0.length q0) n.l0.length (aC mc n.l0)::Cells b 94 (mX c b0 b1 b2)::bG b0 c.r0 n.l0::bG b1 c.r1 n.l1::bG b2 c.r2 n.l2::Cells bx 38 [.pointer (some ⟨b,0,none⟩)]::A (i)) (fun i=>i≤n.l0.length) (fun i=>n.l0.length-i) 0
  · exact nB
  · exact Nat.zero_le _
  · exact aB
  · intro i hi
    by_cases hlt:i<n.l0.length
    · have hx:i<((lV n).map mv).length:=by simp [lV];omega
      have hxs:((lV n).map mv)[i]=mv n.l0[i]:=by simp [lV,List.getElem_append,hlt]
      have hy1:=hy i hx
      rw [hxs] at hy1
      repeat first|rintro _ _ ⟨rfl,rfl⟩|intro _|refine e7x ?_
      refine i3 ?_
      repeat first|rintro _ _ ⟨rfl,rfl⟩|intro _|refine e7x ?_
      refine i3 ?_
      repeat first|rintro _ _ ⟨rfl,rfl⟩|intro _|refine e7x ?_
      refine x7 ?_
      repeat (refine e7w ?_)
      apply a0z (F:=[Own 99 15 (.slice p0 n.l0.length q0) n.l0.length (aC mc n.l0)]) rfl rfl rfl hy1
      · refine Ent.drop (Ent.trans ?_ l6)
        exact Ent.refl
      · refine wL (M:=Own 99 15 (.slice p0 n.l0.length q0) n.l0.length (aC mc n.l0)::Cells b 94 (mX c b0 b1 b2)::bG b0 c.r0 n.l0::bG b1 c.r1 n.l1::bG b2 c.r2 n.l2::Cells bx 38 [.pointer (some ⟨b,0,none⟩)]::A (i+1)) l6 ?_
        repeat (refine e7w ?_)
        refine qQ (wM ?_)
        repeat first|refine gd ?_|intro _
        refine aS (i+1) (om) (om) ?_ Ent.refl
        exact nB
      · refine wL (M:=Own 99 15 (.slice p0 n.l0.length q0) n.l0.length (aC mc n.l0)::C) l6 ?_
        repeat (refine e7w ?_)
        refine qQ (wM ?_)
        repeat first|refine gd ?_|intro _
        exact uX rfl rfl (om) (Ent.drop Ent.refl)
    · have hil:i=n.l0.length:=by omega
      subst hil
      repeat first|refine gd ?_|intro _|refine aD @sR ?_
      rename_i p1 q1
      apply bC (E0:=[(0,_),(10,_),(11,_),(15,_),(16,_)]) (fun E0 (i:Nat)=>(17,.int .i64 i)::E0) (fun i=>Own 99 15 (.slice p1 n.l1.length q1) n.l1.length (aC mc n.l1)::Cells b 94 (mX c b0 b1 b2)::bG b0 c.r0 n.l0::bG b1 c.r1 n.l1::bG b2 c.r2 n.l2::Cells bx 38 [.pointer (some ⟨b,0,none⟩)]::A (n.l0.length+i)) (fun i=>i≤n.l1.length) (fun i=>n.l1.length-i) 0
      · exact nB
      · exact Nat.zero_le _
      · simp only [Nat.add_zero];exact aB
      · intro i hi
        by_cases hlt:i<n.l1.length
        · have hx:(n.l0.length+i)<((lV n).map mv).length:=by simp [lV];omega
          have hxs:((lV n).map mv)[n.l0.length+i]=mv n.l1[i]:=by simp [lV,List.getElem_append,hlt,show ¬n.l0.length+i<n.l0.length by omega]
          have hy1:=hy (n.l0.length+i) hx
          rw [hxs] at hy1
          repeat first|rintro _ _ ⟨rfl,rfl⟩|intro _|refine e7x ?_
          refine i3 ?_
          repeat first|rintro _ _ ⟨rfl,rfl⟩|intro _|refine e7x ?_
          refine i3 ?_
          repeat first|rintro _ _ ⟨rfl,rfl⟩|intro _|refine e7x ?_
          refine x7 ?_
          repeat (refine e7w ?_)
          apply a0z (F:=[Own 99 15 (.slice p1 n.l1.length q1) n.l1.length (aC mc n.l1)]) rfl rfl rfl hy1
          · refine Ent.drop (Ent.trans ?_ l6)
            exact Ent.refl
          · refine wL (M:=Own 99 15 (.slice p1 n.l1.length q1) n.l1.length (aC mc n.l1)::Cells b 94 (mX c b0 b1 b2)::bG b0 c.r0 n.l0::bG b1 c.r1 n.l1::bG b2 c.r2 n.l2::Cells bx 38 [.pointer (some ⟨b,0,none⟩)]::A (n.l0.length+i+1)) l6 ?_
            repeat (refine e7w ?_)
            refine qQ (wM ?_)
            repeat first|refine gd ?_|intro _
            refine aS (i+1) (om) (om) ?_ Ent.refl
            exact nB
          · refine wL (M:=Own 99 15 (.slice p1 n.l1.length q1) n.l1.length (aC mc n.l1)::C) l6 ?_
            repeat (refine e7w ?_)
            refine qQ (wM ?_)
            repeat first|refine gd ?_|intro _
            exact uX rfl rfl (om) (Ent.drop Ent.refl)
        · have hil:i=n.l1.length:=by omega
          subst hil
          repeat first|refine gd ?_|intro _|refine aD @sR ?_
          rename_i p2 q2
          apply bC (E0:=[(0,_),(10,_),(11,_),(15,_),(16,_)]) (fun E0 (i:Nat)=>(17,.int .i64 i)::E0) (fun i=>Own 99 15 (.slice p2 n.l2.length q2) n.l2.length (aC mc n.l2)::Cells b 94 (mX c b0 b1 b2)::bG b0 c.r0 n.l0::bG b1 c.r1 n.l1::bG b2 c.r2 n.l2::Cells bx 38 [.pointer (some ⟨b,0,none⟩)]::A (n.l0.length+n.l1.length+i)) (fun i=>i≤n.l2.length) (fun i=>n.l2.length-i) 0
          · exact nB
          · exact Nat.zero_le _
          · simp only [Nat.add_zero];exact aB
          · intro i hi
            by_cases hlt:i<n.l2.length
            · have hx:(n.l0.length+n.l1.length+i)<((lV n).map mv).length:=by simp [lV];omega
              have hxs:((lV n).map mv)[n.l0.length+n.l1.length+i]=mv n.l2[i]:=by simp [lV,List.getElem_append,hlt,show ¬n.l0.length+n.l1.length+i<n.l0.length by omega,show ¬n.l0.length+n.l1.length+i-n.l0.length<n.l1.length by omega,show n.l0.length+n.l1.length+i-n.l0.length-n.l1.length=i by omega]
              have hy1:=hy (n.l0.length+n.l1.length+i) hx
              rw [hxs] at hy1
              repeat first|rintro _ _ ⟨rfl,rfl⟩|intro _|refine e7x ?_
              refine i3 ?_
              repeat first|rintro _ _ ⟨rfl,rfl⟩|intro _|refine e7x ?_
              refine i3 ?_
              repeat first|rintro _ _ ⟨rfl,rfl⟩|intro _|refine e7x ?_
              refine x7 ?_
              repeat (refine e7w ?_)
              apply a0z (F:=[Own 99 15 (.slice p2 n.l2.length q2) n.l2.length (aC mc n.l2)]) rfl rfl rfl hy1
              · refine Ent.drop (Ent.trans ?_ l6)
                exact Ent.refl
              · refine wL (M:=Own 99 15 (.slice p2 n.l2.length q2) n.l2.length (aC mc n.l2)::Cells b 94 (mX c b0 b1 b2)::bG b0 c.r0 n.l0::bG b1 c.r1 n.l1::bG b2 c.r2 n.l2::Cells bx 38 [.pointer (some ⟨b,0,none⟩)]::A (n.l0.length+n.l1.length+i+1)) l6 ?_
                repeat (refine e7w ?_)
                refine qQ (wM ?_)
                repeat first|refine gd ?_|intro _
                refine aS (i+1) (om) (om) ?_ Ent.refl
                exact nB
              · refine wL (M:=Own 99 15 (.slice p2 n.l2.length q2) n.l2.length (aC mc n.l2)::C) l6 ?_
                repeat (refine e7w ?_)
                refine qQ (wM ?_)
                repeat first|refine gd ?_|intro _
                exact uX rfl rfl (om) (Ent.drop Ent.refl)
            · have hil:i=n.l2.length:=by omega
              subst hil
              repeat first|refine gd ?_|intro _
              refine b5c rfl rfl ?_
              have hlen:((lV n).map mv).length=n.l0.length+n.l1.length+n.l2.length:=by simp [lV];omega
              rw [hlen]
              exact Ent.drop Ent.refl
theorem a4p {c:Cfg} (h:aF c=true):c.r0≤64∧c.r1≤64∧c.r2≤64:=by
  simp only [aF,fI,Bool.and_eq_true,decide_eq_true_eq] at h
  omega
attribute [local irreducible] WM c8s e3m c1x a7a e7b Code.wpIn
def f0r (TS TM:TypeId) (b:Nat) (l:List Msg):HP:=Ex fun q:Option Addr×Nat=>[Cells b TS [.slice q.1 l.length q.2],Own TM 15 (.slice q.1 l.length q.2) l.length (aC mc l)]
theorem e2n {TS TM:TypeId} {b n:Nat} {l:List Msg} {p:Option Addr} {q:Nat} {xs:List Value} {L M:List HP} (h:Ent L (Cells b TS [.slice p n q]::Own TM 15 (.slice p n q) n xs::M)) (hn:n=l.length) (hx:xs=aC mc l):Ent L (f0r TS TM b l::M):=by
  subst hn hx
  exact Ent.trans h (i0 (p:=fun q:Option Addr×Nat=>[Cells b TS [.slice q.1 l.length q.2],Own TM 15 (.slice q.1 l.length q.2) l.length (aC mc l)]) (p,q))
theorem e3w {F:List HP} {b:Nat} {c:Cfg} {n:Nets} {line:Int}:FnF Tryz.prog 130 [.pointer (some ⟨b,0,none⟩),.int .i64 line] [oB b c n] F (fun r L'=>∃ p q,r= .slice p (vU n line).length q∧L'=[Own 99 15 (.slice p (vU n line).length q) (vU n line).length (aC mc (vU n line)),oB b c n]):=by
  refine FnF.mkM Tryz.func130 rfl rfl Tryz.ntmps130 rfl ?_
  refine vV fun b0 b1 b2 ⟨hc,hn0,hn1,hn2⟩=>?_
  obtain ⟨r0,r1,r2⟩:=a4p hc
  have hall:(lV n).length≤192:=by simp [lV];omega
  have hlen:∀ i,(((lV n).take i).filter fun m=>decide (m.line=line)).length≤192:=fun i=>Nat.le_trans (List.length_filter_le _ _) (by rw [List.length_take];omega)
  repeat first|refine gd ?_|intro _|refine aD @d7o ?_
  rename_i b3 b5 bx
  apply b1l (J:=fun i=>Cells b3 3 [.int .i64 line]::f0r 40 99 b5 (((lV n).take i).filter fun m=>decide (m.line=line))::F) [Fact False] rfl (kB Tryz.func168 rfl rfl) (d7p (b:=b) (c:=c) (n:=n) (b0:=b0) (b1:=b1) (b2:=b2) (om) (om) (om))
  · dsimp only [oI]
    simp only [List.take_zero,List.filter_nil]
    refine Ent.trans (aM (e:=99) (sz:=15) (p:=none) Ent.refl) ?_
    exact xW @e2n
  · rfl
  · intro l r D F' i hi hr
    have hi':i<(lV n).length:=by simpa using hi
    have hxi:((lV n).map mv)[i]=mv (lV n)[i]:=by simp
    have hli:=hlen i
    rw [hxi]
    dsimp only [oI]
    repeat first|intro _|refine f0a ?_
    refine b2j (show Ent _ (ObjAt l (.loop (r .ready none))::_) from dQ (iZ lM) Ent.refl) ?_
    refine c5n hr ?_
    repeat first|intro _|refine f0a ?_
    apply d7b rfl
    · intro ht
      have et:(((lV n).take (i+1)).filter fun m=>decide (m.line=line))=(((lV n).take i).filter fun m=>decide (m.line=line))++[(lV n)[i]]:=by
        rw [List.take_add_one,List.getElem?_eq_getElem hi',List.filter_append];simp [of_decide_eq_true ht]
      refine e3n (show Ent _ (f0r 40 99 b5 (((lV n).take i).filter fun m=>decide (m.line=line))::_) from dQ (by (repeat (first|exact lM|(apply iZ)))) Ent.refl) ?_
      refine e7v fun q=>?_
      dsimp only [oI]
      repeat first|intro _|refine f0a ?_
      refine c2z ?_
      rw [et]
      ((repeat (first|(with_reducible exact Ent.refl)|exact Ent.nil|(apply dQ;exact e6z)|(apply e2n)|apply Ent.drop));all_goals (first|rfl|(with_reducible assumption)|(simp [aZ,cG];done)|(simp [aZ,cG];omega)|omega|(constructor<;>(simp [aZ,cG])<;>omega)))
    · intro hf
      have et:(((lV n).take (i+1)).filter fun m=>decide (m.line=line))=(((lV n).take i).filter fun m=>decide (m.line=line)):=by
        rw [List.take_add_one,List.getElem?_eq_getElem hi',List.filter_append];simp [of_decide_eq_false hf]
      repeat first|intro _|refine f0a ?_
      refine c2z ?_
      rw [et]
      exact aB
  · intro D
    have e0:((lV n).map mv).length=(lV n).length:=by simp
    rw [e0,List.take_length]
    dsimp only [oI]
    refine b2j (show Ent _ (f0r 40 99 b5 (vU n line)::_) from dQ (by (repeat (first|exact lM|(apply iZ)))) Ent.refl) ?_
    refine e3o fun q=>?_
    dsimp only [oI]
    repeat first|intro _|refine f0a ?_
    refine b2j (show Ent _ (ObjAt D (.deferred (some []))::_) from dQ (by (repeat (first|exact lM|(apply iZ)))) Ent.refl) ?_
    apply c9n rfl rfl bB
    · exact ⟨_,_,rfl,rfl⟩
    · exact xW @jV
  · intro D h0
    exact b9i (M:=[]) (by exact aB)
end
section
theorem rD {e:TypeId} {sz n:Nat} {v:Value} {xs:List Value} {P:Program} {N:Nat} {env:Env} {L:List HP} {Q:Exit→Act→World→Prop} {co:Code} (h:n≤9223372036854775807→WC P N co env (Own e sz v n xs::L) Q):WC P N co env (Own e sz v n xs::L) Q:=fun a w ha hw=>h (by
  rcases (zP hw).2.2 with ⟨_,_,hn,_⟩|⟨g,cap,spare,hv,hnc,hm,_⟩
  · omega
  · simp only [maxLen] at hm;omega) a w ha hw
attribute [local irreducible] Exit.then Exit.inBlock Code.wp WC WO WE WQ V bF tV d3 bW dF uH IntKind.wrap WR Code.rounds WT KO
end
section
open Go Go.ChangeShapes Go.WideShapes
section
variable {H:Type} (enc:TypeId×Value→H) (P:Program) (W:World)
def Sm (t:TypeId) (d:DataW H):Prop:=(d.weights P t).all (· ≤reachBytes)=true
def b2m:Leaf→Value→Prop
  | .int k,v=>∃ n,v= .int k n∧(Lit.int k n).wf=true
  | .bool,v=>∃ b,v= .bool b
  | .other t,v=>∃ fuel x,DataW.trod enc P W 0 (fun _=>true) true fuel t [v]=some x∧Sm P t x.1
inductive LeafsOkS:List Leaf→List Value→Prop
  |nil:LeafsOkS [] []
  |cons {k:Leaf} {c:Value} {ks:List Leaf} {cs:List Value}:b2m enc P W k c→LeafsOkS ks cs→LeafsOkS (k::ks) (c::cs)
theorem s3 {ks ks':List Leaf} {cs cs':List Value} (h:LeafsOkS enc P W ks cs) (h':LeafsOkS enc P W ks' cs'):LeafsOkS enc P W (ks++ks') (cs++cs'):=by
  induction h with
  |nil=>exact h'
  |cons a _ ih=>exact .cons a ih
theorem kF {t:TypeId} {ts:List TypeId} {d:DataW H} {r:List (DataW H)} (h:(DataW.weightsEach P (t::ts) (d::r)).all (· ≤reachBytes)=true):Sm P t d∧(DataW.weightsEach P ts r).all (· ≤reachBytes)=true:=by
  rw [DataW.weightsEach,List.all_append,Bool.and_eq_true] at h
  exact h
theorem d4j {e:TypeId}:∀ {l:List (DataW H)} {d:DataW H},d∈l→(DataW.weightsAll P e l).all (· ≤reachBytes)=true→Sm P e d
  | [],_,h,_=>by cases h
  |a::r,d,h,hw=>by
   rw [DataW.weightsAll,List.all_append,Bool.and_eq_true] at hw
   rcases List.mem_cons.1 h with h|h
   · subst h;exact hw.1
   · exact d4j h hw.2
theorem a4q {d:Nat} (ih:∀ t ks,oE P d t=some ks→∀ fuel cs x,DataW.trod enc P W 0 (fun _=>true) true fuel t cs=some x→Sm P t x.1→LeafsOkS enc P W ks cs) (fuel:Nat) (cs:List Value) :
    ∀ (fs:List Field) (off:Nat) (ks:List Leaf) (xs:List (DataW H×List MemPlace)),sA P (oE P d) fs off=some ks→
      (fs.mapM fun f=>DataW.trod enc P W 0 (fun _=>true) true fuel f.type ((cs.drop f.offset).take (P.cellsOf f.type)))=some xs→(DataW.weightsEach P (fs.map (·.type)) (xs.map (·.1))).all (· ≤reachBytes)=true→LeafsOkS enc P W ks ((cs.drop off).take ks.length)
  | [],off,ks,xs,h,_,_=>by simp [sA] at h;subst h;simp;exact .nil
  |fd::r,off,ks,xs,h,hm,hw=>by
   obtain ⟨x,xs',h1,h2,rfl⟩:=jA hm
   rw [List.map_cons,List.map_cons] at hw
   obtain ⟨hw1,hw2⟩:=kF P hw
   simp only [sA] at h
   cases hk:oE P d fd.type with
   |none=>simp [hk] at h
   |some k0=>
    simp only [hk] at h
    split at h
    · rename_i hc
      obtain ⟨c1,c2⟩:=hc
      cases hr:sA P (oE P d) r (off+k0.length) with
      |none=>simp [hr] at h
      |some k1=>
       simp [hr] at h
       subst h
       have a:=ih _ _ hk _ _ _ h1 hw1
       have b:=a4q ih fuel cs r _ _ _ hr h2 hw2
       rw [c1,c2] at a
       have e:(cs.drop off).take (k0++k1).length=(cs.drop off).take k0.length++(cs.drop (off+k0.length)).take k1.length:=by
         rw [List.length_append,List.take_add,List.drop_drop]
       rw [e]
       exact s3 enc P W a b
    · simp at h
theorem a4r {e:Nat} {ks:List Leaf} {fuel:Nat} {cs:List Value} (ih:∀ fuel cs x,DataW.trod enc P W 0 (fun _=>true) true fuel e cs=some x→Sm P e x.1→LeafsOkS enc P W ks cs) (he:ks.length=P.cellsOf e) :
    ∀ (n k:Nat) (xs:List (DataW H×List MemPlace)),(((List.range n).map (k+ ·)).mapM fun i=>DataW.trod enc P W 0 (fun _=>true) true fuel e ((cs.drop (i*P.cellsOf e)).take (P.cellsOf e)))=some xs→
      (DataW.weightsAll P e (xs.map (·.1))).all (· ≤reachBytes)=true→
      LeafsOkS enc P W (List.replicate n ks).flatten ((cs.drop (k*P.cellsOf e)).take (n*P.cellsOf e))
  |0,k,xs,_,_=>by simp;exact .nil
  |n+1,k,xs,h,hw=>by
   have e1:(List.range (n+1)).map (k+ ·)=k::(List.range n).map (k+1+ ·):=by
     rw [List.range_succ_eq_map]
     simp [Function.comp_def,Nat.add_assoc,Nat.add_comm 1]
   rw [e1] at h
   obtain ⟨x,xs',h1,h2,rfl⟩:=jA h
   rw [List.map_cons,DataW.weightsAll,List.all_append,Bool.and_eq_true] at hw
   have a:=ih _ _ _ h1 hw.1
   have b:=a4r ih he n (k+1) xs' h2 hw.2
   have e2:(cs.drop (k*P.cellsOf e)).take ((n+1)*P.cellsOf e)=(cs.drop (k*P.cellsOf e)).take (P.cellsOf e)++(cs.drop ((k+1)*P.cellsOf e)).take (n*P.cellsOf e):=by
     rw [Nat.succ_mul,Nat.add_comm,List.take_add,List.drop_drop,Nat.succ_mul]
   rw [e2,List.replicate_succ,List.flatten_cons]
   exact s3 enc P W a b
theorem a9u:∀ (d:Nat) (t:TypeId) (ks:List Leaf),oE P d t=some ks→∀ fuel cs x,DataW.trod enc P W 0 (fun _=>true) true fuel t cs=some x→Sm P t x.1→LeafsOkS enc P W ks cs
  |0,_,_,h=>by simp [oE] at h
  |d+1,t,ks,h=>by
   intro fuel cs x hx hw
   have ih:=a9u d
   simp only [oE] at h
   cases fuel with
   |zero=>simp [DataW.trod] at hx
   |succ fuel=>
    have hx0:=hx
    cases hu:P.underlying t with
    |none=>simp [hu] at h
    |some u=>
     cases u<;>simp only [hu] at h<;>try (simp at h;done)
     case bool=>
       simp at h;subst h
       have:∃ b,cs=[.bool b]:=by
         unfold DataW.trod at hx;rw [hu] at hx
         split at hx<;>simp_all
       obtain ⟨b,rfl⟩:=this
       exact .cons ⟨b,rfl⟩ .nil
     case int k=>
       simp at h;subst h
       obtain ⟨n,h1,_,h3⟩:=DataW.trod_int hu hx0
       subst h1
       exact .cons ⟨n,rfl,h3⟩ .nil
     case string=>
       simp at h;subst h
       have:∃ v,cs=[v]:=by
         unfold DataW.trod at hx;rw [hu] at hx
         split at hx<;>simp_all
       obtain ⟨v,rfl⟩:=this
       exact .cons ⟨_,_,hx0,hw⟩ .nil
     case slice e=>
       simp at h;subst h
       have:∃ v,cs=[v]:=by
         unfold DataW.trod at hx;rw [hu] at hx
         split at hx<;>simp_all
       obtain ⟨v,rfl⟩:=this
       exact .cons ⟨_,_,hx0,hw⟩ .nil
     case array n e=>
       simp only [Option.bind_eq_some_iff] at h
       obtain ⟨k0,h1,h2⟩:=h
       split at h2
       · rename_i hc
         simp at h2;subst h2
         unfold DataW.trod at hx;rw [hu] at hx
         have hx':(if cs.length=P.cellsOf t then ((List.range n).mapM fun i=>DataW.trod enc P W 0 (fun _=>true) true fuel e ((cs.drop (i*P.cellsOf e)).take (P.cellsOf e))).map fun xs=>(DataW.agg (xs.map (·.1)),xs.flatMap (·.2)) else none)=some x:=by
           split at hx<;>simp_all
         split at hx'
         · rename_i hl
           simp only [Option.map_eq_some_iff] at hx'
           obtain ⟨xs,hm,rfl⟩:=hx'
           have hw':(DataW.weightsAll P e (xs.map (·.1))).all (· ≤reachBytes)=true:=by simpa [Sm,DataW.weights,hu] using hw
           have:=a4r enc P W (fun fuel cs x hx hw=>ih e k0 h1 fuel cs x hx hw) hc.1 n 0 xs (by simpa using hm) hw'
           simp only [Nat.zero_mul,List.drop_zero] at this
           rw [←hc.1,hc.2,←hl,List.take_length] at this
           exact this
         · simp at hx'
       · simp at h2
     case struct fs=>
       simp only [Option.bind_eq_some_iff] at h
       obtain ⟨k0,h1,h2⟩:=h
       split at h2
       · rename_i hc
         simp at h2;subst h2
         unfold DataW.trod at hx;rw [hu] at hx
         have hx':∃ xs,cs.length=P.cellsOf t∧(fs.toList.mapM fun f=>DataW.trod enc P W 0 (fun _=>true) true fuel f.type ((cs.drop f.offset).take (P.cellsOf f.type)))=some xs∧x.1=DataW.agg (xs.map (·.1)):=by
           have hx2:(if cs.length=P.cellsOf t then (fs.toList.mapM fun f=>DataW.trod enc P W 0 (fun _=>true) true fuel f.type ((cs.drop f.offset).take (P.cellsOf f.type))).map fun xs=>(DataW.agg (xs.map (·.1)),xs.flatMap (·.2)) else none)=some x:=by
             split at hx<;>simp_all
           split at hx2
           · rename_i hl
             simp only [Option.map_eq_some_iff] at hx2
             obtain ⟨xs,hm,rfl⟩:=hx2
             exact ⟨xs,hl,hm,rfl⟩
           · simp at hx2
         obtain ⟨xs,hl,hm,hx1⟩:=hx'
         rw [hx1] at hw
         have hw':(DataW.weightsEach P (fs.toList.map (·.type)) (xs.map (·.1))).all (· ≤reachBytes)=true:=by simpa [Sm,DataW.weights,hu] using hw
         have:=a4q enc P W ih fuel cs fs.toList 0 k0 xs h1 hm hw'
         rw [hc,List.drop_zero,←hl,List.take_length] at this
         exact this
       · simp at h2
theorem iG {α:Type} {encA:α→List Value} {wf:α→Prop} {d e t:Nat} {ks:List Leaf} {v:Value} {dt:DataW H} {p:List MemPlace} (hu:P.underlying t=some (.slice e)) (hk:oE P d e=some ks) (hc:P.cellsOf e=ks.length) (h0:0<ks.length)
    (hA:∀ cs,LeafsOkS enc P W ks cs→∃ x,wf x∧cs=encA x∧(encA x).all one=true) (hv0:∃ a n c,v= .slice a n c) (h:DataW.Trod enc P W 0 (fun _=>true) true t v dt p) (hs:Sm P t dt) :
    ∃ xs:List α,(∀ x∈xs,wf x)∧ROld W ks.length v xs.length (aC encA xs)∧xs.length≤9223372036854775807∧xs.length*P.bytesOf e≤reachBytes:=by
  obtain ⟨a0,n0,c0,rfl⟩:=hv0
  obtain ⟨fuel,hf⟩:=h
  cases fuel with
  |zero=>simp [DataW.trod] at hf
  |succ fuel=>
   unfold DataW.trod at hf
   rw [hu] at hf
   split at hf<;>try (simp_all;done)
   · rename_i h1 h2
     simp only [Value.cells,List.cons.injEq,Value.slice.injEq,and_true] at h2
     obtain ⟨rfl,rfl,rfl⟩:=h2
     exact ⟨[],by simp,⟨by simp,rfl,.inl ⟨none,0,rfl,rfl⟩⟩,by simp,by simp⟩
   · rename_i e' a len cap h1 h2
     have he:e'=e:=by simp_all
     subst he
     simp only [Value.cells,List.cons.injEq,Value.slice.injEq,and_true] at h2
     obtain ⟨rfl,rfl,rfl⟩:=h2
     simp only at hf
     split at hf
     · rename_i hb
       simp only [Option.bind_eq_some_iff] at hf
       obtain ⟨elems,hm,hrest⟩:=hf
       simp only [if_true,Option.map_eq_some_iff] at hrest
       obtain ⟨rest,_,hdt⟩:=hrest
       have hdt1:dt= .slice (elems.map (·.1)) (rest.map (·.1)):=by injection hdt with h _;exact h.symm
       subst hdt1
       have hw:(elems.length+rest.length)*P.bytesOf e'≤reachBytes∧(DataW.weightsAll P e' (elems.map (·.1))).all (· ≤reachBytes)=true:=by
         unfold Sm at hs
         rw [DataW.weights,hu] at hs
         simp only [List.all_cons,List.all_append,Bool.and_eq_true,List.length_map,decide_eq_true_eq] at hs
         exact ⟨hs.1,hs.2.1⟩
       obtain ⟨hl,hg⟩:=tE hm
       have key:∀ i,i<n0→∃ x:α,wf x∧(encA x).all one=true∧(encA x).length=ks.length∧∀ j u,(encA x)[j]? =some u→W.cell? ((a.add (i*ks.length)).add j)=some u:=by
         intro i hi
         have:=hg i hi
         rw [List.getElem?_eq_getElem (om)] at this
         simp only [Option.bind_eq_some_iff] at this
         obtain ⟨cs,hc1,hc2⟩:=this
         rw [hc] at hc1
         obtain ⟨q1,q2⟩:=c0g hc1
         have hmem:elems[i].1∈elems.map (·.1):=List.mem_map_of_mem (List.getElem_mem _)
         obtain ⟨x,hx,rfl,ho⟩:=hA cs (a9u enc P W d e' ks hk _ _ _ hc2 (d4j P hmem hw.2))
         refine ⟨x,hx,ho,q1,fun j u hj=>?_⟩
         have hlt:=(List.getElem?_eq_some_iff.1 hj).1
         rw [q2 j (om),hj]
       have pick:∀ n,n≤n0→∃ xs:List α,xs.length=n∧(∀ x∈xs,wf x)∧(aC encA xs).all one=true∧(aC encA xs).length=n*ks.length∧∀ j u,(aC encA xs)[j]? =some u→W.cell? (a.add j)=some u:=by
         intro n
         induction n with
         |zero=>intro _;exact ⟨[],rfl,by simp,rfl,by simp,by simp⟩
         |succ n ih=>
          intro hn
          obtain ⟨xs,x1,x2,x3,x4,x5⟩:=ih (om)
          obtain ⟨x,y1,y2,y3,y4⟩:=key n (om)
          refine ⟨xs++[x],by simp [x1],?_,?_,?_,?_⟩
          · intro z hz;rcases List.mem_append.1 hz with h|h
            · exact x2 z h
            · rw [List.mem_singleton.1 h];exact y1
          · rw [aZ,cG,List.all_append,x3,y2];rfl
          · rw [aZ,cG,List.length_append,x4,y3,Nat.succ_mul]
          · intro j u hj
            rw [aZ,cG] at hj
            by_cases hlt:j<(aC encA xs).length
            · rw [List.getElem?_append_left hlt] at hj
              exact x5 j u hj
            · rw [List.getElem?_append_right (om)] at hj
              have:=y4 _ u hj
              have e3:(a.add (n*ks.length)).add (j-(aC encA xs).length)=a.add j:=by
                rw [d1g];congr 1;omega
              rwa [e3] at this
       obtain ⟨xs,x1,x2,x3,x4,x5⟩:=pick n0 (Nat.le_refl _)
       have hmx:maxLen=9223372036854775807:=by decide
       have hbx:xs.length*P.bytesOf e'≤reachBytes:=Nat.le_trans (Nat.mul_le_mul_right _ (om)) hw.1
       refine ⟨xs,x2,?_,om,hbx⟩
       refine ⟨by rw [x4,x1],x3,?_⟩
       by_cases hz:n0=0
       · subst hz
         exact .inl ⟨some a,c0,rfl,x1⟩
       · right
         have h00:∃ u,(aC encA xs)[0]? =some u:=by
           have:0<(aC encA xs).length:=by
             rw [x4];exact Nat.mul_pos (om) h0
           exact ⟨_,List.getElem?_eq_getElem this⟩
         obtain ⟨u0,hu0⟩:=h00
         have hc0:=x5 0 u0 hu0
         have ha0:a.add 0=a:=by simp [Addr.add]
         rw [ha0] at hc0
         obtain ⟨s1,s2⟩:=c6v hc0
         obtain ⟨b,o,sp⟩:=a
         simp only at s1 s2
         subst s1
         refine ⟨b,o,c0,by rw [x1],s2,fun j u hj=>?_⟩
         have:=x5 j u hj
         have e4:(Addr.add ⟨b,o,none⟩ j)=⟨b,o+j,none⟩:=by unfold Addr.add;split<;>simp_all
         rwa [e4] at this
     · simp at hf
theorem b1m {ks:List Leaf} {cs:List Value} (h:LeafsOkS enc P W ks cs):LeafsOk enc P W ks cs:=by
  induction h with
  |nil=>exact .nil
  | @cons k c ks cs a _ ih=>
    refine .cons ?_ ih
    cases k with
    |int k=>exact a
    |bool=>exact a
    |other t=>obtain ⟨f,x,h,_⟩:=a;exact ⟨f,x,h⟩
theorem a1t {k:Leaf} {ks:List Leaf} {cs:List Value} (h:LeafsOkS enc P W (k::ks) cs):∃ c cs',cs=c::cs'∧b2m enc P W k c∧LeafsOkS enc P W ks cs':=by
  cases h with
  |cons a b=>exact ⟨_,_,rfl,a,b⟩
theorem yA {ks:List Leaf} {cs:List Value} (h:LeafsOkS enc P W (.int .i64::ks) cs):∃ n cs',cs= .int .i64 n::cs'∧kP n∧LeafsOkS enc P W ks cs':=by
  obtain ⟨c,cs',rfl,h1,h2⟩:=a1t enc P W h
  obtain ⟨n,rfl,hn⟩:=b7m enc P W (show b4e enc P W (.int .i64) c from h1)
  exact ⟨n,cs',rfl,hn,h2⟩
theorem a4s {cs:List Value} (h:LeafsOkS enc P W [] cs):cs=[]:=by cases h;rfl
theorem b5d {t e:TypeId} {c:Value} (hu:P.underlying t=some (.slice e)) (h:b2m enc P W (.other t) c):∃ a n k x p,c= .slice a n k∧DataW.Trod enc P W 0 (fun _=>true) true t c x p∧Sm P t x:=by
  obtain ⟨fuel,x,h1,h2⟩:=h
  have hsh:∃ a n k,c= .slice a n k:=by
    cases fuel with
    |zero=>simp [DataW.trod] at h1
    |succ fuel=>
     have h3:=h1
     unfold DataW.trod at h3;rw [hu] at h3
     split at h3<;>simp_all
  obtain ⟨a,n,k,rfl⟩:=hsh
  exact ⟨a,n,k,x.1,x.2,rfl,⟨fuel,by simpa [Value.cells] using h1⟩,h2⟩
end
end
section
open Go Go.Proofs Go.ChangeShapes Go.WideShapes
theorem uZ {W:World} {sz:Nat} {v:Value} {n:Nat} {xs:List Value} (k:ROld W sz v n xs):∃ a c,v= .slice a n c:=by
  rcases k.pf with ⟨q,c,h1,h2⟩|⟨b,o,c,h1,_⟩
  · exact ⟨q,c,by rw [h1,h2]⟩
  · exact ⟨_,c,h1⟩
def PrQ.ok (W:World) (p:PrQ):Prop:=ROld W 3 (.slice p.2.1 p.1.length p.2.2) p.1.length (aC oc p.1)∧(∀ x∈p.1,x.wf)∧p.1.length≤1000000000000000
theorem b3y {H:Type} (enc:TypeId×Value→H) (W:World) {cs:List Value} (h:LeafsOkS enc Tryz.prog W [.other 61] cs):∃ x:PrQ,x.ok W∧cs=c8m x∧(c8m x).all one=true:=by
  obtain ⟨c,cs,rfl,hc,h⟩:=a1t enc _ W h
  obtain rfl:=a4s enc _ W h
  obtain ⟨a,m,e,x,p,rfl,ht,hsm⟩:=b5d enc _ W (e:=58) Tryz.underlying61 hc
  obtain ⟨xs,hx,kx,lx,bx⟩:=iG enc Tryz.prog W (d:=6) (encA:=oc) (wf:=Op3.wf) (ks:=List.replicate 3 (.int .i64)) Tryz.underlying61 (by kernel_rfl) (by kernel_rfl) (by decide) (fun cs h=>e4m enc _ W (b1m enc _ W h)) ⟨a,m,e,rfl⟩ ht hsm
  have hb:Tryz.prog.bytesOf 58=24:=by kernel_rfl
  have hr:reachBytes=140737488351232:=rfl
  rw [hb,hr] at bx
  obtain ⟨a',c',hv⟩:=uZ kx
  rw [hv] at kx ⊢
  exact ⟨(xs,a',c'),⟨kx,hx,by dsimp only;omega⟩,rfl,rfl⟩
end
end Go.Sx
