/- Mw5, Mw6, GhW, GhW1: several of my texts as one. My own work. -/
import Derived.Test.YtjihlpjnebdiiaaGreatZba
import Derived.Test.YtjihlpjnebdiiaaGreatZbb
set_option linter.unusedVariables false
set_option linter.unusedSectionVars false
set_option linter.unusedSimpArgs false
set_option maxRecDepth 100000
set_option maxHeartbeats 4000000
namespace Go.Sx
open Go Go.Proofs
section
abbrev f0z (p:Pk):Value:= .agg [.int .i64 p.kind,.int .i64 p.a,.int .i64 p.b].toArray
theorem FnF.ent {P:Program} {f:FuncId} {vs:List Value} {pre pre' F:List HP} {post:Value→List HP→Prop} (C:FnF P f vs pre F post) (h:Ent (oI pre' F) (oI pre F)):FnF P f vs pre' F post:=⟨C.enters,fun w hw=>C.runs w (h.sat hw)⟩
theorem FnF.opened {P:Program} {f:FuncId} {vs:List Value} {F:List HP} {post:Value→List HP→Prop} {b:Nat} {c:Cfg} {s:MaS} {x:MaX} (C:FnF P f vs [i7 b c s x] F post) (hf:yS c s x):FnF P f vs (e9t b c s x []) F post:=C.ent (gM Ent.refl hf)
attribute [local irreducible] Exit.then Exit.inBlock Code.wp WC WO WE WQ V bF tV d3 bW dF uH IntKind.wrap WR Code.rounds WT KO
theorem b9m {F:List HP} {b:Nat} {c:Cfg} {s:MaS} {x:MaX} {n:Nat} {k j:Int} (hw:c.wf) (hl:MaL c n s) (hn:n≤1000000000000) (ht:s.tr.length≤1000000000000) (hx:yS c s x) :
    FnF Tryz.prog 49 [.pointer (some ⟨b,0,none⟩),.int .i64 k,.int .i64 j] [i7 b c s x] F (fun r L'=>∃ pt:Option Addr×Nat,r= .bool (jW c s k j)∧L'=[i7 b c (eX c s k j) { x with pt:=pt}]):=by
  by_cases h0:jN s.n k j=false∨k=1∧cA c s.n 2=0
  · exact (e0m hw hl hx h0).mono fun r L h=>⟨x.pt,h⟩
  · have hb:jN s.n k j=true:=by cases e:jN s.n k j with|true=>rfl|false=>exact absurd (.inl e) h0
    have hm:=d8 hb
    have hk:k=0∨k=1∨k=2:=by
      unfold l4 at hm
      by_cases g0:k=0
      · exact .inl g0
      · rw [if_neg g0] at hm
        by_cases g1:k=1
        · exact .inr (.inl g1)
        · rw [if_neg g1] at hm
          by_cases g2:k=2
          · exact .inr (.inr g2)
          · rw [if_neg g2] at hm;cases hm
    rcases hk with rfl|rfl|rfl
    · exact (e0n hw hl hx hb).mono fun r L h=>⟨x.pt,h⟩
    · exact (e0o hw hl hn hx hb (fun e=>h0 (.inr ⟨rfl,e⟩))).mono fun r L h=>⟨x.pt,h⟩
    · by_cases h11:(bD s.n 2 j).kind=11
      · exact (e0b hw hl hn hx hb h11).mono fun r L h=>⟨x.pt,h⟩
      · exact e0c hw hl hn ht hx hb h11
theorem gP {Q P:Prop} (k:Q) (h:Hid Q→P:=by
  intro k
  first
  |(refine aG ?_;refine q9 (id:=5) (.only []) (pl:= .p 0 <| .r 1 <| .p 2 <| .p 3 <| .p 4 <| .p 6 <| .p 7 <| .p 8 <| .r 5 <| .r 9 <| .p 10 <| .e true [(11,.p 12 <| .p 13 <| .done)]) k.out)
  |(refine aG ?_;refine q9 (id:=7) (.only []) (pl:= .p 0 <| .r 1 <| .p 2 <| .p 3 <| .p 4 <| .p 6 <| .p 7 <| .p 8 <| .r 5 <| .r 9 <| .p 10 <| .e true [(11,.p 12 <| .p 13 <| .done)]) k.out)
  |(refine aG ?_;refine q9 (id:=9) (.only []) (pl:= .p 0 <| .r 1 <| .p 2 <| .p 3 <| .p 4 <| .p 6 <| .p 7 <| .p 8 <| .r 5 <| .r 9 <| .p 10 <| .e true [(11,.p 12 <| .p 13 <| .done)]) k.out)):P:=h ⟨k⟩
theorem c3k {F:List HP} {b:Nat} {c:Cfg} {s:MaS} {x:MaX} {n:Nat} {p:Pk} (hw:c.wf) (hl:MaL c n s) (hn:n≤1000000000000) (ht:s.tr.length≤1000000000000) (hp:kP p.kind∧kP p.a∧kP p.b) (hx:yS c s x) :
    FnF Tryz.prog 18 [.pointer (some ⟨b,0,none⟩),f0z p] [i7 b c s x] F (fun r L'=>∃ pt:Option Addr×Nat,r= .bool (iX c s p)∧L'=[i7 b c (d5 c s p) { x with pt:=pt}]):=by
  obtain ⟨⟨f1,f2,f3⟩,⟨f4,f5,f6⟩,f7⟩:=id hx
  obtain ⟨pk,pa,pb⟩:=p
  have hIW:=fun F n m=>a1a (F:=F) (n:=n) (m:=m)
  dsimp only at hp
  change FnF _ _ [_,.agg [.int .i64 pk,.int .i64 pa,.int .i64 pb].toArray] _ _ _
  by_cases h0:pa<0∨pb<0
  · have eB:iX c s ⟨pk,pa,pb⟩=false:=by unfold iX;rw [if_pos h0]
    have eS:d5 c s ⟨pk,pa,pb⟩=s:=by unfold d5;rw [if_pos h0]
    rw [eB,eS]
    refine FnF.mk' Tryz.func18 rfl rfl Tryz.ntmps18 rfl ?_
    by_cases ha:pa<0
    · repeat first|refine go ?_|intro _|refine gP ?_|refine cM ?_|refine aD @hIW ?_
      (apply aA rfl rfl bB)
      · exact ⟨x.pt,rfl,rfl⟩
      · exact aB
    · have hb:pb<0:=by omega
      repeat first|refine go ?_|intro _|refine gP ?_|refine cM ?_|refine aD @hIW ?_
      (apply aA rfl rfl bB)
      · exact ⟨x.pt,rfl,rfl⟩
      · exact aB
  · have ha:¬pa<0:=fun g=>h0 (.inl g)
    have hb:¬pb<0:=fun g=>h0 (.inr g)
    by_cases h1:pk=1
    · have eB:iX c s ⟨pk,pa,pb⟩=jW c s pa pb:=by unfold iX;rw [if_neg h0,if_pos h1]
      have eS:d5 c s ⟨pk,pa,pb⟩=eX c s pa pb:=by unfold d5;rw [if_neg h0,if_pos h1]
      rw [eB,eS]
      have hD:=fun F=>b9m (F:=F) (b:=b) (k:=pa) (j:=pb) hw hl hn ht hx
      refine FnF.mk' Tryz.func18 rfl rfl Tryz.ntmps18 rfl ?_
      repeat first|refine go ?_|intro _|refine gP ?_|refine cM ?_|refine aD @hD ?_
      rename_i pt'
      (apply aA rfl rfl bB)
      · exact ⟨pt',rfl,rfl⟩
      · exact aB
    · have hkl:(x.kb.length:Int)=s.ks.length:=by omega
      have hhl:(x.hb.length:Int)=s.hs.length:=by omega
      by_cases h2:pk=2∧(0≤pa∧pa<(x.hb.length:Int))
      · obtain ⟨rfl,h2a,h2b⟩:=h2
        obtain ⟨d,rfl⟩:∃ d:Nat,pa=d:=⟨pa.toNat,om⟩
        have hin:c8z (d:Int) s.hs.length=true:=by unfold c8z;exact decide_eq_true (om)
        have eB:iX c s ⟨2,d,pb⟩=xV c s d pb:=by unfold iX;dsimp only;rw [if_neg h0,if_neg (by decide),if_pos ⟨rfl,hin⟩]
        have eS:d5 c s ⟨2,d,pb⟩=dG c s d pb:=by unfold d5;dsimp only;rw [if_neg h0,if_neg (by decide),if_pos ⟨rfl,hin⟩]
        rw [eB,eS]
        have hW:=fun F=>(e0l (F:=F) (b:=b) (j:=pb) hw hl hn (d:=d) (om) hx).opened hx
        have hin2:(0:Int)≤d∧(d:Int)<x.hb.length:=by omega
        refine FnF.mk' Tryz.func18 rfl rfl Tryz.ntmps18 rfl ?_
        refine j0 fun hf=>?_
        repeat first|refine go ?_|intro _|refine gP ?_|refine cM ?_|refine aD @hIW ?_|refine aD @hW ?_
        (apply aA rfl rfl bB)
        · exact ⟨x.pt,rfl,rfl⟩
        · exact aB
      · by_cases h3:pk=0∧(0≤pa∧pa<(x.kb.length:Int))
        · obtain ⟨rfl,h3a,h3b⟩:=h3
          obtain ⟨d,rfl⟩:∃ d:Nat,pa=d:=⟨pa.toNat,om⟩
          have hin:c8z (d:Int) s.ks.length=true:=by unfold c8z;exact decide_eq_true (om)
          have eB:iX c s ⟨0,d,pb⟩=fC c s d pb:=by unfold iX;dsimp only;rw [if_neg h0,if_neg (by decide),if_neg (fun e=>absurd e.1 (by decide)),if_pos ⟨rfl,hin⟩]
          have eS:d5 c s ⟨0,d,pb⟩=c9 c s d pb:=by unfold d5;dsimp only;rw [if_neg h0,if_neg (by decide),if_neg (fun e=>absurd e.1 (by decide)),if_pos ⟨rfl,hin⟩]
          rw [eB,eS]
          have hA:=fun F=>(e6b (F:=F) (b:=b) (w:=pb) (i:=d) hw hl hn ht (om) hp.2.2 hx).opened hx
          have hin2:(0:Int)≤d∧(d:Int)<x.kb.length:=by omega
          refine FnF.mk' Tryz.func18 rfl rfl Tryz.ntmps18 rfl ?_
          refine j0 fun hf=>?_
          repeat first|refine go ?_|intro _|refine gP ?_|refine cM ?_|refine aD @hIW ?_|refine aD @hA ?_
          rename_i pt'
          (apply aA rfl rfl bB)
          · exact ⟨pt',rfl,rfl⟩
          · exact aB
        · by_cases h4:pk=3∧(0≤pa∧pa<(x.kb.length:Int))
          · obtain ⟨rfl,h4a,h4b⟩:=h4
            obtain ⟨d,rfl⟩:∃ d:Nat,pa=d:=⟨pa.toNat,om⟩
            have hin:c8z (d:Int) s.ks.length=true:=by unfold c8z;exact decide_eq_true (om)
            have eB:iX c s ⟨3,d,pb⟩=mF c s d (1+pb.tmod 4):=by unfold iX;dsimp only;rw [if_neg h0,if_neg (by decide),if_neg (fun e=>absurd e.1 (by decide)),if_neg (fun e=>absurd e.1 (by decide)),if_pos ⟨rfl,hin⟩]
            have eS:d5 c s ⟨3,d,pb⟩=fM c s d (1+pb.tmod 4):=by unfold d5;dsimp only;rw [if_neg h0,if_neg (by decide),if_neg (fun e=>absurd e.1 (by decide)),if_neg (fun e=>absurd e.1 (by decide)),if_pos ⟨rfl,hin⟩]
            rw [eB,eS]
            have hA:=fun F=>(e1z (F:=F) (b:=b) (d:=1+pb.tmod 4) (i:=d) hw hl (om) hx).opened hx
            have hin2:(0:Int)≤d∧(d:Int)<x.kb.length:=by omega
            have hm0:0≤pb.tmod 4∧pb.tmod 4<4:=by rw [Int.tmod_eq_emod_of_nonneg (om)];omega
            refine FnF.mk' Tryz.func18 rfl rfl Tryz.ntmps18 rfl ?_
            refine j0 fun hf=>?_
            repeat first|refine go ?_|intro _|refine gP ?_|refine cM ?_|refine aD @hIW ?_|refine aD @hA ?_
            (apply aA rfl rfl bB)
            · exact ⟨x.pt,rfl,rfl⟩
            · exact aB
          · have hi2:¬(pk=2∧c8z pa s.hs.length=true):=fun g=>h2 ⟨g.1,by have:=g.2;unfold c8z at this;have:=of_decide_eq_true this;omega⟩
            have hi3:¬(pk=0∧c8z pa s.ks.length=true):=fun g=>h3 ⟨g.1,by have:=g.2;unfold c8z at this;have:=of_decide_eq_true this;omega⟩
            have hi4:¬(pk=3∧c8z pa s.ks.length=true):=fun g=>h4 ⟨g.1,by have:=g.2;unfold c8z at this;have:=of_decide_eq_true this;omega⟩
            have eB:iX c s ⟨pk,pa,pb⟩=false:=by unfold iX;dsimp only;rw [if_neg h0,if_neg h1,if_neg hi2,if_neg hi3,if_neg hi4]
            have eS:d5 c s ⟨pk,pa,pb⟩=s:=by unfold d5;dsimp only;rw [if_neg h0,if_neg h1,if_neg hi2,if_neg hi3,if_neg hi4]
            rw [eB,eS]
            refine FnF.mk' Tryz.func18 rfl rfl Tryz.ntmps18 rfl ?_
            refine j0 fun hf=>?_
            by_cases k2:pk=2
            · have n2:¬(0≤pa∧pa<(x.hb.length:Int)):=fun g=>h2 ⟨k2,g⟩
              have k0:¬pk=0:=by omega
              have k3:¬pk=3:=by omega
              repeat first|refine go ?_|intro _|refine gP ?_|refine cM ?_|refine aD @hIW ?_
              (apply aA rfl rfl bB)
              · exact ⟨x.pt,rfl,rfl⟩
              · refine gM ?_ hf
                exact aB
            · by_cases k0:pk=0
              · have n2:¬(0≤pa∧pa<(x.kb.length:Int)):=fun g=>h3 ⟨k0,g⟩
                have k3:¬pk=3:=by omega
                repeat first|refine go ?_|intro _|refine gP ?_|refine cM ?_|refine aD @hIW ?_
                (apply aA rfl rfl bB)
                · exact ⟨x.pt,rfl,rfl⟩
                · refine gM ?_ hf
                  exact aB
              · by_cases k3:pk=3
                · have n2:¬(0≤pa∧pa<(x.kb.length:Int)):=fun g=>h4 ⟨k3,g⟩
                  repeat first|refine go ?_|intro _|refine gP ?_|refine cM ?_|refine aD @hIW ?_
                  (apply aA rfl rfl bB)
                  · exact ⟨x.pt,rfl,rfl⟩
                  · refine gM ?_ hf
                    exact aB
                · repeat first|refine go ?_|intro _|refine gP ?_|refine cM ?_|refine aD @hIW ?_
                  (apply aA rfl rfl bB)
                  · exact ⟨x.pt,rfl,rfl⟩
                  · refine gM ?_ hf
                    exact aB
end
section
theorem FnF.lift {P:Program} {f:FuncId} {vs:List Value} {pre pre' F R:List HP} {post post':Value→List HP→Prop} (C:FnF P f vs pre (oI R F) post) (hin:Ent (oI pre' F) (oI pre (oI R F)))
    (hout:∀ v L,post v L→∃ L',post' v L'∧Ent (oI L (oI R F)) (oI L' F)):FnF P f vs pre' F post':=
  ⟨C.enters,fun w hw=>(C.runs w (hin.sat hw)).mono fun e w' ⟨v,L,he,hp,hs⟩=>by
    obtain ⟨L',h1,h2⟩:=hout v L hp
    exact ⟨v,L',he,h1,h2.sat hs⟩⟩
section
variable {P:Program} {f:FuncId} {vs:List Value} {F:List HP} {b:Nat} {c:Cfg} {s:MaS} {x:MaX}
theorem FnF.inC {i:Nat} {u:Value} (hi:i<x.ab.length) (hx:yS c s x) (C:∀ F,FnF P f vs [a8y (x.ab.getD i 0) c (i:Int) (s.cs.getD i caZ)] F (fun r L'=>r=u∧L'=[a8y (x.ab.getD i 0) c (i:Int) (s.cs.getD i caZ)])):FnF P f vs [i7 b c s x] F (fun r L'=>r=u∧L'=[i7 b c s x]):=by
  refine FnF.lift (R:=[d7j b c s x i]) (C _) (b6y hi) ?_
  rintro v L ⟨rfl,rfl⟩
  exact ⟨_,⟨rfl,rfl⟩,a9s Ent.refl hi hx.1.2.1⟩
theorem FnF.inC2 {α:Type} {i:Nat} {u:α→Value} {X:α→HP} (hi:i<x.ab.length) (hx:yS c s x) (C:∀ F,FnF P f vs [a8y (x.ab.getD i 0) c (i:Int) (s.cs.getD i caZ)] F (fun r L'=>∃ q,r=u q∧L'=[X q,a8y (x.ab.getD i 0) c (i:Int) (s.cs.getD i caZ)])):FnF P f vs [i7 b c s x] F (fun r L'=>∃ q,r=u q∧L'=[X q,i7 b c s x]):=by
  refine FnF.lift (R:=[d7j b c s x i]) (C _) (b6y hi) ?_
  rintro v L ⟨q,rfl,rfl⟩
  exact ⟨_,⟨q,rfl,rfl⟩,Ent.cons (a9s Ent.refl hi hx.1.2.1)⟩
theorem FnF.inH {i:Nat} {u:Value} (hi:i<x.hb.length) (hx:yS c s x) (C:∀ F,FnF P f vs [iV (x.hb.getD i 0) c (i:Int) (s.hs.getD i zA)] F (fun r L'=>r=u∧L'=[iV (x.hb.getD i 0) c (i:Int) (s.hs.getD i zA)])):FnF P f vs [i7 b c s x] F (fun r L'=>r=u∧L'=[i7 b c s x]):=by
  refine FnF.lift (R:=[d7k b c s x i]) (C _) (b6z hi) ?_
  rintro v L ⟨rfl,rfl⟩
  exact ⟨_,⟨rfl,rfl⟩,a9t Ent.refl hi hx.1.2.2⟩
theorem FnF.inH2 {α:Type} {i:Nat} {u:α→Value} {X:α→HP} (hi:i<x.hb.length) (hx:yS c s x) (C:∀ F,FnF P f vs [iV (x.hb.getD i 0) c (i:Int) (s.hs.getD i zA)] F (fun r L'=>∃ q,r=u q∧L'=[X q,iV (x.hb.getD i 0) c (i:Int) (s.hs.getD i zA)])):FnF P f vs [i7 b c s x] F (fun r L'=>∃ q,r=u q∧L'=[X q,i7 b c s x]):=by
  refine FnF.lift (R:=[d7k b c s x i]) (C _) (b6z hi) ?_
  rintro v L ⟨q,rfl,rfl⟩
  exact ⟨_,⟨q,rfl,rfl⟩,Ent.cons (a9t Ent.refl hi hx.1.2.2)⟩
theorem d8c {L:List HP}:Ent (i7 b c s x::L) (e9t b c s x L):=
  Ent.trans i4 (Ent.cons (Ent.cons (Ent.cons (Ent.cons (Ent.cons (Ent.cons (Ent.cons (Ent.cons (Ent.cons (Ent.drop Ent.refl))))))))))
theorem d0l {A B C D N:HP} {L:List HP}:Ent (A::B::C::D::N::L) (N::A::B::C::D::L):=gR (List.perm_middle (a:=N) (l₁:=[A,B,C,D]) (l₂:=L))
theorem c6b {A B C D N:HP} {L:List HP}:Ent (N::A::B::C::D::L) (A::B::C::D::N::L):=gR (List.perm_middle (a:=N) (l₁:=[A,B,C,D]) (l₂:=L)).symm
def e7e (b:Nat) (c:Cfg) (s:MaS) (x:MaX):List HP:=[Cells b 81 (e7m c s.odd x.kb.length x.ab.length x.hb.length s.tr.length x.pk x.pa x.ph x.pt x.bn),
  Own 82 1 (.slice x.pk.1 x.kb.length x.pk.2) x.kb.length (aC a7d x.kb),Own 46 1 (.slice x.pa.1 x.ab.length x.pa.2) x.ab.length (aC a7d x.ab),Own 52 1 (.slice x.ph.1 x.hb.length x.ph.2) x.hb.length (aC a7d x.hb),
  Own 60 6 (.slice x.pt.1 s.tr.length x.pt.2) s.tr.length (aC e7d s.tr),All ((List.range x.kb.length).map (yC x s)),All ((List.range x.ab.length).map (s5 c x s)),All ((List.range x.hb.length).map (s6 c x s))]
theorem d0m {L:List HP}:Ent (i7 b c s x::L) (oB x.bn c s.n::oI (e7e b c s x) L):=by
  refine Ent.trans d8c ?_
  exact d0l
theorem d8d {L M:List HP} (h:Ent L (oB x.bn c s.n::oI (e7e b c s x) M)) (hf:yS c s x):Ent L (i7 b c s x::M):=gM (Ent.trans h c6b) hf
theorem FnF.inN2 {α:Type} {u:α→Value} {X:α→HP} (hx:yS c s x) (C:∀ F,FnF P f vs [oB x.bn c s.n] F (fun r L'=>∃ q,r=u q∧L'=[X q,oB x.bn c s.n])):FnF P f vs [i7 b c s x] F (fun r L'=>∃ q,r=u q∧L'=[X q,i7 b c s x]):=by
  refine FnF.lift (R:=e7e b c s x) (C _) d0m ?_
  rintro v L ⟨q,rfl,rfl⟩
  exact ⟨_,⟨q,rfl,rfl⟩,Ent.cons (d8d Ent.refl hx)⟩
end
attribute [local irreducible] Exit.then Exit.inBlock Code.wp WC WO WE WQ V bF tV d3 bW dF uH IntKind.wrap WR Code.rounds WT KO
section
variable {F:List HP} {b:Nat} {c:Cfg} {s:MaS} {x:MaX}
theorem c3l {i:Nat} {line:Int} (hi:i<x.ab.length) (hx:yS c s x) (hli:kP line):FnF Tryz.prog 68 [.pointer (some ⟨x.ab.getD i 0,0,none⟩),.int .i64 line] [i7 b c s x] F (fun r L'=>r= .tuple [e2g (aT c (s.cs.getD i caZ).ways line),.bool (iQ c (s.cs.getD i caZ).ways line)].toArray∧L'=[i7 b c s x]):=FnF.inC hi hx fun F=>d8u hli
theorem a9x {i:Nat} (hi:i<x.ab.length) (hx:yS c s x):FnF Tryz.prog 25 [.pointer (some ⟨x.ab.getD i 0,0,none⟩)] [i7 b c s x] F (fun r L'=>∃ q:Option Addr×Nat,r= .slice q.1 (s.cs.getD i caZ).mis.length q.2∧L'=[Own 182 15 (.slice q.1 (s.cs.getD i caZ).mis.length q.2) (s.cs.getD i caZ).mis.length (aC jF (s.cs.getD i caZ).mis),i7 b c s x]):=
  FnF.inC2 (α:=Option Addr×Nat) hi hx fun F=>(a1e).mono fun r L ⟨p,q,h⟩=>⟨(p,q),h⟩
theorem b9n {i:Nat} (hi:i<x.ab.length) (hx:yS c s x):FnF Tryz.prog 26 [.pointer (some ⟨x.ab.getD i 0,0,none⟩)] [i7 b c s x] F (fun r L'=>∃ q:Option Addr×Nat,r= .slice q.1 (s.cs.getD i caZ).buf.length q.2∧L'=[Own 125 10 (.slice q.1 (s.cs.getD i caZ).buf.length q.2) (s.cs.getD i caZ).buf.length (aC bc (s.cs.getD i caZ).buf),i7 b c s x]):=
  FnF.inC2 (α:=Option Addr×Nat) hi hx fun F=>(c0j).mono fun r L ⟨p,q,h⟩=>⟨(p,q),h⟩
theorem d0n {i:Nat} (hi:i<x.hb.length) (hx:yS c s x):FnF Tryz.prog 28 [.pointer (some ⟨x.hb.getD i 0,0,none⟩)] [i7 b c s x] F (fun r L'=>∃ q:Option Addr×Nat,r= .slice q.1 (s.hs.getD i zA).q.length q.2∧L'=[e8r 191 (.slice q.1 (s.hs.getD i zA).q.length q.2) (s.hs.getD i zA).q,i7 b c s x]):=
  FnF.inH2 (α:=Option Addr×Nat) hi hx fun F=>(d2m).mono fun r L ⟨p,q,h⟩=>⟨(p,q),h⟩
theorem d8e {i:Nat} {line:Int} (hi:i<x.hb.length) (hx:yS c s x) (hc:c.wf) (hli:kP line):FnF Tryz.prog 67 [.pointer (some ⟨x.hb.getD i 0,0,none⟩),.int .i64 line] [i7 b c s x] F (fun r L'=>r= .tuple [wv (sE c (s.hs.getD i zA) line),.bool (pO (s.hs.getD i zA) line)].toArray∧L'=[i7 b c s x]):=FnF.inH hi hx fun F=>e0i hc hli
theorem d0o {i:Nat} {line:Int} (hi:i<x.hb.length) (hx:yS c s x) (hE:∀ e,fQ (s.hs.getD i zA).es line=some e→rE e=true):FnF Tryz.prog 81 [.pointer (some ⟨x.hb.getD i 0,0,none⟩),.int .i64 line] [i7 b c s x] F
    (fun r L'=>∃ q:Option Addr×Nat,r= .tuple [.agg (d0f (aJ (s.hs.getD i zA) line) q.1 q.2).toArray,.bool (pO (s.hs.getD i zA) line)].toArray∧L'=[Own 3 1 (.slice q.1 (aJ (s.hs.getD i zA) line).s.ps.length q.2) (aJ (s.hs.getD i zA) line).s.ps.length (aC ic (aJ (s.hs.getD i zA) line).s.ps),i7 b c s x]):=
  FnF.inH2 (α:=Option Addr×Nat) hi hx fun F=>(d2n hE).mono fun r L ⟨p,q,h⟩=>⟨(p,q),h⟩
theorem e2p {line:Int} (hx:yS c s x):FnF Tryz.prog 130 [.pointer (some ⟨x.bn,0,none⟩),.int .i64 line] [i7 b c s x] F (fun r L'=>∃ q:Option Addr×Nat,r= .slice q.1 (vU s.n line).length q.2∧L'=[Own 99 15 (.slice q.1 (vU s.n line).length q.2) (vU s.n line).length (aC mc (vU s.n line)),i7 b c s x]):=
  FnF.inN2 (α:=Option Addr×Nat) hx fun F=>(e3w).mono fun r L ⟨p,q,h⟩=>⟨(p,q),h⟩
theorem d4n (hx:yS c s x):FnF Tryz.prog 20 [.pointer (some ⟨b,0,none⟩)] [i7 b c s x] F (fun r L'=>r= .pointer (some ⟨x.bn,0,none⟩)∧L'=[i7 b c s x]):=by
  refine FnF.mk' Tryz.func20 rfl rfl Tryz.ntmps20 rfl ?_
  refine j0 fun hf=>?_
  repeat first|refine gd ?_|intro _
  (apply aA rfl rfl bB)
  · exact ⟨rfl,rfl⟩
  · refine gM ?_ hf
    exact aB
theorem b1n {F:List HP} {v:Value} {n:Nat} {xs:List Value} (k:RdL F 6 v n xs) (hn:n≤1099511627776):FnF Tryz.prog 57 [v] [] F (fun r L'=>∃ p c,r= .slice p n c∧L'=[Own 60 6 (.slice p n c) n xs]):=by
  refine FnF.mk' Tryz.func57 rfl rfl Tryz.ntmps57 rfl ?_
  refine b3z (v:=v) k fun q1 q2 p c0 e q3=>?_
  subst e
  cases p with
  |none=>
   obtain rfl:=q3 rfl
   obtain rfl:xs=[]:=List.eq_nil_of_length_eq_zero (by simpa using q1)
   repeat first|refine gd ?_|intro _
   (apply aA rfl rfl bB)
   · exact ⟨_,_,rfl,rfl⟩
   · exact aM Ent.refl
  |some a=>
   repeat first|refine gd ?_|intro _
   simp only [Nat.zero_add,List.nil_append]
   (apply aA rfl rfl bB)
   · exact ⟨_,_,rfl,rfl⟩
   · exact Ent.refl
theorem d0p (hx:yS c s x) (ht:s.tr.length≤1000000000000):FnF Tryz.prog 22 [.pointer (some ⟨b,0,none⟩)] [i7 b c s x] F (fun r L'=>∃ q:Option Addr×Nat,r= .slice q.1 s.tr.length q.2∧L'=[Own 60 6 (.slice q.1 s.tr.length q.2) s.tr.length (aC e7d s.tr),i7 b c s x]):=by
  refine FnF.mk' Tryz.func22 rfl rfl Tryz.ntmps22 rfl ?_
  refine j0 fun hf=>?_
  repeat first|refine gd ?_|intro _|refine aD @b1n ?_
  rename_i p1 c1
  (apply aA rfl rfl bB)
  · exact ⟨(p1,c1),rfl,rfl⟩
  · refine Ent.cons (gM ?_ hf)
    exact aB
end
end
section
abbrev e2q (q:Nat×Nat) (line:Int) (fv:Value) (R:HP):HP:=All [Cells q.1 3 [.int .i64 line],Cells q.2 130 [fv],R]
theorem rY {q:Nat×Nat} {line:Int} {fv:Value} {R:HP} {L:List HP}:Ent (e2q q line fv R::L) (Cells q.1 3 [.int .i64 line]::Cells q.2 130 [fv]::R::L):=i4
theorem a9y {q:Nat×Nat} {line:Int} {fv:Value} {R:HP} {L:List HP}:Ent (Cells q.1 3 [.int .i64 line]::Cells q.2 130 [fv]::R::L) (e2q q line fv R::L):=gF (ps:=[Cells q.1 3 [.int .i64 line],Cells q.2 130 [fv],R])
theorem d0q {c:Cfg} {p:Nat→Bool} {n:Nat}:(List.range (n+1)).countP p=(List.range n).countP p+if p n then 1 else 0:=by
  rw [List.range_succ,List.countP_append,List.countP_singleton]
theorem FnF.more {P:Program} {f:FuncId} {vs:List Value} {u:Value} {R:HP} (C:∀ F,FnF P f vs [] F (fun r L'=>r=u∧L'=[])) (F:List HP):FnF P f vs [R] F (fun r L'=>r=u∧L'=[R]):=
  ⟨(C (R::F)).enters,fun w hw=>((C (R::F)).runs w hw).mono fun e w' ⟨v,L,he,hp,hs⟩=>by
    obtain ⟨h1,rfl⟩:=hp
    exact ⟨v,[R],he,⟨h1,rfl⟩,hs⟩⟩
attribute [local irreducible] Exit.then Exit.inBlock Code.wp WC WO WE WQ V bF tV d3 bW dF uH IntKind.wrap WR Code.rounds WT KO
theorem a0c {F:List HP} {c:Cfg} {line:Int} {b:Nat}:FnF Tryz.prog 71 [.pointer (some ⟨b,0,none⟩),c.val,.int .i64 line] [] F (fun r L'=>r= .bool (rJ c line)∧L'=[]):=by
  refine FnF.mk' Tryz.func71 rfl rfl Tryz.ntmps71 rfl ?_
  by_cases h0:line<0
  · repeat first|refine gd ?_|intro _
    (apply aA rfl rfl bB;(first|exact lW|exact ⟨by simp [rJ,h0]<;>omega,rfl⟩);exact iC)
  · by_cases h1:line≥c.lines
    · repeat first|refine gd ?_|intro _
      (apply aA rfl rfl bB;(first|exact lW|exact ⟨by simp [rJ,h0,h1]<;>omega,rfl⟩);exact iC)
    · repeat first|refine gd ?_|intro _
      (apply aA rfl rfl bB;(first|exact lW|exact ⟨by simp [rJ,h0,h1]<;>omega,rfl⟩);exact iC)
theorem vL {F:List HP} {c:Cfg} {line:Int}:FnF Tryz.prog 71 [.pointer none,c.val,.int .i64 line] [] F (fun r L'=>r= .bool true∧L'=[]):=by
  refine FnF.mk' Tryz.func71 rfl rfl Tryz.ntmps71 rfl ?_
  repeat first|refine gd ?_|intro _
  exact aU
theorem b5f {F:List HP} {w:Way}:FnF Tryz.prog 74 [e2g w] [] F (fun r L'=>r= .bool (e9x w)∧L'=[]):=by
  refine FnF.mk' Tryz.func74 rfl rfl Tryz.ntmps74 rfl ?_
  by_cases h0:w.st=2
  · repeat first|refine gd ?_|intro _
    (apply aA rfl rfl bB;(first|exact lW|exact ⟨by simp [e9x,h0]<;>omega,rfl⟩);exact iC)
  · repeat first|refine gd ?_|intro _
    (apply aA rfl rfl bB;(first|exact lW|exact ⟨by simp [e9x,h0]<;>omega,rfl⟩);exact iC)
theorem u5 {F:List HP} {w:Way}:FnF Tryz.prog 75 [e2g w] [] F (fun r L'=>r= .bool (c8o w)∧L'=[]):=by
  refine FnF.mk' Tryz.func75 rfl rfl Tryz.ntmps75 rfl ?_
  repeat first|refine gd ?_|intro _
  (apply aA rfl rfl bB;(first|exact lW|exact ⟨by simp [c8o]<;>omega,rfl⟩);exact iC)
theorem b7f {F:List HP} {w:Way}:FnF Tryz.prog 83 [e2g w] [] F (fun r L'=>r= .bool (d6q w)∧L'=[]):=by
  refine FnF.mk' Tryz.func83 rfl rfl Tryz.ntmps83 rfl ?_
  repeat first|refine gd ?_|intro _
  (apply aA rfl rfl bB;(first|exact lW|exact ⟨by simp [d6q]<;>omega,rfl⟩);exact iC)
theorem a9z {F:List HP} {w:Int}:FnF Tryz.prog 131 [.int .i64 w] [] F (fun r L'=>r= .bool (rK w)∧L'=[]):=by
  refine FnF.mk' Tryz.func131 rfl rfl Tryz.ntmps131 rfl ?_
  by_cases h0:w=2
  · repeat first|refine gd ?_|intro _
    (apply aA rfl rfl bB;(first|exact lW|exact ⟨by simp [rK,h0]<;>omega,rfl⟩);exact iC)
  · repeat first|refine gd ?_|intro _
    (apply aA rfl rfl bB;(first|exact lW|exact ⟨by simp [rK,h0]<;>omega,rfl⟩);exact iC)
instance:TU Tryz.prog 130 (.func #[121] #[4] false):=⟨Tryz.underlying130⟩
theorem yD {F:List HP} {line:Int} {fk:FuncId} {fi ca:Array Value} {R:HP}:FnF Tryz.prog 73 [.int .i64 line,.func (.func fk) fi ca] [R] F (fun r L'=>∃ q:Nat×Nat,r= .func (.func 129) #[] #[.pointer (some ⟨q.1,0,none⟩),.pointer (some ⟨q.2,0,none⟩)]∧L'=[e2q q line (.func (.func fk) fi ca) R]):=by
  refine FnF.mk' Tryz.func73 rfl rfl Tryz.ntmps73 rfl ?_
  repeat first|refine gd ?_|intro _
  rename_i b2 b3
  (apply aA rfl rfl bB)
  · exact ⟨(b2,b3),rfl,rfl⟩
  · refine Ent.trans ?_ a9y
    exact aB
section
variable {b:Nat} {c:Cfg} {s:MaS} {x:MaX} {F:List HP}
theorem a1u {i:Nat} {q:Nat×Nat} {line:Int} {fk:FuncId} {first cap:List Value} {R:HP} {p:Way→Bool} (hli:kP line) (hi:i<x.ab.length) (hx:yS c s x) (H:∀ F w,FnF Tryz.prog fk (first++[e2g w]++cap) [R] F (fun r L'=>r= .bool (p w)∧L'=[R])) :
    FnF Tryz.prog 129 [.int .i64 i,.pointer (some ⟨x.ab.getD i 0,0,none⟩),.pointer (some ⟨q.1,0,none⟩),.pointer (some ⟨q.2,0,none⟩)] [e2q q line (.func (.func fk) first.toArray cap.toArray) R,i7 b c s x] F (fun r L'=>r= .bool (p (iU c s line i))∧L'=[e2q q line (.func (.func fk) first.toArray cap.toArray) R,i7 b c s x]):=by
  have hL:=fun F=>c3l (F:=F) (b:=b) hi hx hli
  have hH:=fun F=>H F (iU c s line i)
  unfold iU at hH ⊢
  refine FnF.mk' Tryz.func129 rfl rfl Tryz.ntmps129 rfl ?_
  (first|refine jR (rY) ?_|refine nT (rY) ?_|refine nU (rY) ?_)
  repeat first|refine gd ?_|intro _|refine aD @hL ?_|refine aD @hH ?_
  (apply aA rfl rfl bB)
  · exact ⟨rfl,rfl⟩
  · refine Ent.trans ?_ a9y
    exact aB
theorem rZ {fk:FuncId} {first cap:List Value} {R:HP} {p:Nat→Bool} (hx:yS c s x) (H:∀ F (i:Nat),i<x.ab.length→FnF Tryz.prog fk (first++[.int .i64 i,.pointer (some ⟨x.ab.getD i 0,0,none⟩)]++cap) [R,i7 b c s x] F (fun r L'=>r= .bool (p i)∧L'=[R,i7 b c s x])) :
    FnF Tryz.prog 72 [.pointer (some ⟨b,0,none⟩),c.val,.func (.func fk) first.toArray cap.toArray] [R,i7 b c s x] F (fun r L'=>r= .int .i64 (a8z c p)∧L'=[R,i7 b c s x]):=by
  have hn:(x.ab.length:Int)=c.cores:=hx.2.1.2.1
  have hcc:=(cK hx.2.2).1
  have hcn:c.cores.toNat=x.ab.length:=by omega
  unfold a8z
  rw [hcn]
  refine FnF.mk' Tryz.func72 rfl rfl Tryz.ntmps72 rfl ?_
  repeat first|refine gd ?_|intro _
  apply bC (E0:=[(0,_),(2,_),(10,_)]) (fun E0 (i:Nat)=>(11,.int .i64 i)::(7,.int .i64 ((List.range i).countP p))::E0) (fun _=>R::i7 b c s x::F) (fun i=>i≤x.ab.length) (fun i=>x.ab.length-i) 0
  · exact nB
  · exact Nat.zero_le _
  · exact aB
  · rintro i hi
    by_cases hlt:i<x.ab.length
    · have hC:=fun F=>c9r (F:=F) (b:=b) (c:=c) (s:=s) (x:=x) (i:=i) hlt
      have hH:=fun F=>H F i hlt
      have hle:(List.range i).countP p≤i:=by have:=List.countP_le_length (p:=p) (l:=List.range i);rwa [List.length_range] at this
      have hsu:=d0q (c:=c) (p:=p) (n:=i)
      cases hp:p i with
      |true=>
       rw [hp] at hH hsu
       repeat first|refine gd ?_|intro _|refine aD @hC ?_|refine aD @hH ?_
       refine aS (i+1) (om) (om) ?_ ?_
       · rw [hsu]
         exact nB
       · exact aB
      |false=>
       rw [hp] at hH hsu
       repeat first|refine gd ?_|intro _|refine aD @hC ?_|refine aD @hH ?_
       refine aS (i+1) (om) (om) ?_ ?_
       · rw [hsu]
         exact nB
       · exact aB
    · have hil:i=x.ab.length:=by omega
      subst hil
      repeat first|refine gd ?_|intro _
      exact aU
end
end
section
attribute [local irreducible] Exit.then Exit.inBlock Code.wp WC WO WE WQ V bF tV d3 bW dF uH IntKind.wrap WR Code.rounds WT KO
section
variable {b:Nat} {c:Cfg} {s:MaS} {x:MaX} {F:List HP} {line:Int}
abbrev f1a (k:FuncId):Value:= .func (.func k) #[] #[]
theorem a1b {k:FuncId} {p:Way→Bool} {q:Nat×Nat} (hli:kP line) (hx:yS c s x) (C:∀ F w,FnF Tryz.prog k [e2g w] [] F (fun r L'=>r= .bool (p w)∧L'=[])) :
    FnF Tryz.prog 72 [.pointer (some ⟨b,0,none⟩),c.val,.func (.func 129) #[] #[.pointer (some ⟨q.1,0,none⟩),.pointer (some ⟨q.2,0,none⟩)]] [e2q q line (f1a k) (All []),i7 b c s x] F (fun r L'=>r= .int .i64 (a8z c fun i=>p (iU c s line i))∧L'=[e2q q line (f1a k) (All []),i7 b c s x]):=
  rZ (first:=[]) (cap:=[.pointer (some ⟨q.1,0,none⟩),.pointer (some ⟨q.2,0,none⟩)]) (R:=e2q q line (f1a k) (All [])) (p:=fun i=>p (iU c s line i)) hx fun F i hi=>
    a1u (first:=[]) (cap:=[]) (fk:=k) (R:=All []) (p:=p) hli hi hx fun F w=>FnF.more (fun F=>C F w) F
theorem u6 {Q P:Prop} (k:Q) (h:Hid Q→P:=by
  intro k
  first
  |(refine aG ?_;apply mT (id:=1) (.only [3,8,9,16,17]) _ (pl:= .p 0 <| .p 2 <| .r 1 <| .e true [(3,.n [8,9,16,17] <| .p 4 <| .p 5 <| .p 7 <| .e true [(6,.e true [(8,.n [9,16,17] <| .e true [(9,.n [16,17] <| .p 10 <| .p 11 <| .p 12 <| .p 13 <| .p 15 <| .e true [(14,.e true [(16,.n [17] <| .e true [(17,.n [] <| .p 18 <| .p 19 <| .p 20 <| .done)])]),(16,.n [17] <| .r 14 <| .e true [(17,.n [] <| .p 18 <| .p 19 <| .p 20 <| .done)])])])]),(8,.n [9,16,17] <| .r 6 <| .e true [(9,.n [16,17] <| .p 10 <| .p 11 <| .p 12 <| .p 13 <| .p 15 <| .e true [(14,.e true [(16,.n [17] <| .e true [(17,.n [] <| .p 18 <| .p 19 <| .p 20 <| .done)])]),(16,.n [17] <| .r 14 <| .e true [(17,.n [] <| .p 18 <| .p 19 <| .p 20 <| .done)])])])])]);exact pN;kernel_rfl;kernel_rfl;exact Ent.refl;exact k.out)):P:=h ⟨k⟩
theorem b0a (hli:kP line) (hx:yS c s x):FnF Tryz.prog 36 [.pointer (some ⟨b,0,none⟩),c.val,.int .i64 line] [i7 b c s x] F (fun r L'=>r= .bool (a0n c s line)∧L'=[i7 b c s x]):=by
  have hN:=fun F=>a0c (F:=F) (c:=c) (line:=line) (b:=b)
  have hS:=fun F k=>yD (F:=F) (line:=line) (fk:=k) (fi:= #[]) (ca:= #[]) (R:=All [])
  have hW:=fun F q=>a1b (F:=F) (b:=b) (c:=c) (s:=s) (x:=x) (line:=line) (q:=q) hli hx (fun F w=>b5f (F:=F) (w:=w))
  have hR:=fun F q=>a1b (F:=F) (b:=b) (c:=c) (s:=s) (x:=x) (line:=line) (q:=q) hli hx (fun F w=>u5 (F:=F) (w:=w))
  unfold a0n
  refine FnF.mk' Tryz.func36 rfl rfl Tryz.ntmps36 rfl ?_
  cases h0:rJ c line with
  |true=>
   rw [h0] at hN
   repeat' (first|refine go ?_|intro _|refine u6 ?_|refine cM ?_|refine aD @hN ?_|apply mU|fail)
   all_goals exact aU
  |false=>
   rw [h0] at hN
   generalize a8z c (fun i=>e9x (iU c s line i))=a1 at hW ⊢
   generalize a8z c (fun i=>c8o (iU c s line i))=a2 at hR ⊢
   by_cases h1:a1=0
   · subst h1
     (first|refine jR (Ent.trans fZ (Ent.cons Ent.refl)) ?_|refine nT (Ent.trans fZ (Ent.cons Ent.refl)) ?_|refine nU (Ent.trans fZ (Ent.cons Ent.refl)) ?_)
     repeat' (first|refine go ?_|intro _|refine u6 ?_|refine cM ?_|refine aD @hN ?_|refine aD @hS ?_|refine aD @hW ?_|refine aD @hR ?_|apply mU|fail)
     all_goals exact aU
   · have h1':¬((a1:Int)=0):=by omega
     (first|refine jR (Ent.trans fZ (Ent.trans fZ (Ent.cons (Ent.cons Ent.refl)))) ?_|refine nT (Ent.trans fZ (Ent.trans fZ (Ent.cons (Ent.cons Ent.refl)))) ?_|refine nU (Ent.trans fZ (Ent.trans fZ (Ent.cons (Ent.cons Ent.refl)))) ?_)
     repeat' (first|refine go ?_|intro _|refine u6 ?_|refine cM ?_|refine aD @hN ?_|refine aD @hS ?_|refine aD @hW ?_|refine aD @hR ?_|apply mU|fail)
     all_goals (apply aA rfl rfl bB;(first|exact lW|exact ⟨by simp [h1,h1']<;>omega,rfl⟩);exact iC)
end
end
end Go.Sx
