/- Mw5, Mw6, MaAw, GhP: several of my texts as one. My own work. -/
import Derived.Test.YtjihlpjnebdiiaaGreatZax
set_option linter.unusedVariables false
set_option linter.unusedSectionVars false
set_option linter.unusedSimpArgs false
set_option maxRecDepth 100000
set_option maxHeartbeats 4000000
namespace Go.Sx
open Go Go.Proofs
section
abbrev f5z (p:Pk):Value:= .agg [.int .i64 p.kind,.int .i64 p.a,.int .i64 p.b].toArray
theorem FnF.ent {P:Program} {f:FuncId} {vs:List Value} {pre pre' F:List HP} {post:Value→List HP→Prop} (C:FnF P f vs pre F post) (h:Ent (pO pre' F) (pO pre F)):FnF P f vs pre' F post:=⟨C.enters,fun w hw=>C.runs w (h.sat hw)⟩
theorem FnF.opened {P:Program} {f:FuncId} {vs:List Value} {F:List HP} {post:Value→List HP→Prop} {b:Nat} {c:Cfg} {s:MaS} {x:MaX} (C:FnF P f vs [i9 b c s x] F post) (hf:a2v c s x):FnF P f vs (e6m b c s x []) F post:=C.ent (eV Ent.refl hf)
attribute [local irreducible] Exit.then Exit.inBlock Code.wp WC WO WE WQ V bT vL fP cY eI v8 IntKind.wrap WR Code.rounds WT KO
theorem c4a {F:List HP} {b:Nat} {c:Cfg} {s:MaS} {x:MaX} {n:Nat} {k j:Int} (hw:c.wf) (hl:MaL c n s) (hn:n≤1000000000000) (ht:s.tr.length≤1000000000000) (hx:a2v c s x) :
    FnF Tryz.prog 49 [.pointer (some ⟨b,0,none⟩),.int .i64 k,.int .i64 j] [i9 b c s x] F (fun r L'=>∃ pt:Option Addr×Nat,r= .bool (fQ c s k j)∧L'=[i9 b c (d8 c s k j) { x with pt:=pt}]):=by
  by_cases h0:gN s.n k j=false∨k=1∧cB c s.n 2=0
  · exact (e2s hw hl hx h0).mono fun r L h=>⟨x.pt,h⟩
  · have hb:gN s.n k j=true:=by cases e:gN s.n k j with|true=>rfl|false=>exact absurd (.inl e) h0
    have hm:=dQ hb
    have hk:k=0∨k=1∨k=2:=by
      unfold eY at hm
      by_cases g0:k=0
      · exact .inl g0
      · rw [if_neg g0] at hm
        by_cases g1:k=1
        · exact .inr (.inl g1)
        · rw [if_neg g1] at hm
          by_cases g2:k=2
          · exact .inr (.inr g2)
          · rw [if_neg g2] at hm;cases hm
    rcases hk with rfl|rfl|rfl
    · exact (e2t hw hl hx hb).mono fun r L h=>⟨x.pt,h⟩
    · exact (e2u hw hl hn hx hb (fun e=>h0 (.inr ⟨rfl,e⟩))).mono fun r L h=>⟨x.pt,h⟩
    · by_cases h11:(aG s.n 2 j).kind=11
      · exact (e1a hw hl hn hx hb h11).mono fun r L h=>⟨x.pt,h⟩
      · exact e1b hw hl hn ht hx hb h11
theorem iH {Q P:Prop} (k:Q) (h:Hid Q→P:=by
  intro k
  first
  |(refine aI ?_;refine uU (id:=5) (.only []) (pl:= .p 0 <| .r 1 <| .p 2 <| .p 3 <| .p 4 <| .p 6 <| .p 7 <| .p 8 <| .r 5 <| .r 9 <| .p 10 <| .e true [(11,.p 12 <| .p 13 <| .done)]) k.out)
  |(refine aI ?_;refine uU (id:=7) (.only []) (pl:= .p 0 <| .r 1 <| .p 2 <| .p 3 <| .p 4 <| .p 6 <| .p 7 <| .p 8 <| .r 5 <| .r 9 <| .p 10 <| .e true [(11,.p 12 <| .p 13 <| .done)]) k.out)
  |(refine aI ?_;refine uU (id:=9) (.only []) (pl:= .p 0 <| .r 1 <| .p 2 <| .p 3 <| .p 4 <| .p 6 <| .p 7 <| .p 8 <| .r 5 <| .r 9 <| .p 10 <| .e true [(11,.p 12 <| .p 13 <| .done)]) k.out)):P:=h ⟨k⟩
theorem b6g {F:List HP} {b:Nat} {c:Cfg} {s:MaS} {x:MaX} {n:Nat} {p:Pk} (hw:c.wf) (hl:MaL c n s) (hn:n≤1000000000000) (ht:s.tr.length≤1000000000000) (hp:nA p.kind∧nA p.a∧nA p.b) (hx:a2v c s x) :
    FnF Tryz.prog 18 [.pointer (some ⟨b,0,none⟩),f5z p] [i9 b c s x] F (fun r L'=>∃ pt:Option Addr×Nat,r= .bool (bN c s p)∧L'=[i9 b c (bY c s p) { x with pt:=pt}]):=by
  obtain ⟨⟨f1,f2,f3⟩,⟨f4,f5,f6⟩,f7⟩:=id hx
  obtain ⟨pk,pa,pb⟩:=p
  have hIW:=fun F n m=>yA (F:=F) (n:=n) (m:=m)
  dsimp only at hp
  change FnF _ _ [_,.agg [.int .i64 pk,.int .i64 pa,.int .i64 pb].toArray] _ _ _
  by_cases h0:pa<0∨pb<0
  · have eB:bN c s ⟨pk,pa,pb⟩=false:=by unfold bN;rw [if_pos h0]
    have eS:bY c s ⟨pk,pa,pb⟩=s:=by unfold bY;rw [if_pos h0]
    rw [eB,eS]
    refine FnF.mk' Tryz.func18 rfl rfl Tryz.ntmps18 rfl ?_
    by_cases ha:pa<0
    · repeat first|refine go ?_|intro _|refine iH ?_|refine dM ?_|refine aD @hIW ?_
      (apply aA rfl rfl bH)
      · exact ⟨x.pt,rfl,rfl⟩
      · exact aB
    · have hb:pb<0:=by omega
      repeat first|refine go ?_|intro _|refine iH ?_|refine dM ?_|refine aD @hIW ?_
      (apply aA rfl rfl bH)
      · exact ⟨x.pt,rfl,rfl⟩
      · exact aB
  · have ha:¬pa<0:=fun g=>h0 (.inl g)
    have hb:¬pb<0:=fun g=>h0 (.inr g)
    by_cases h1:pk=1
    · have eB:bN c s ⟨pk,pa,pb⟩=fQ c s pa pb:=by unfold bN;rw [if_neg h0,if_pos h1]
      have eS:bY c s ⟨pk,pa,pb⟩=d8 c s pa pb:=by unfold bY;rw [if_neg h0,if_pos h1]
      rw [eB,eS]
      have hD:=fun F=>c4a (F:=F) (b:=b) (k:=pa) (j:=pb) hw hl hn ht hx
      refine FnF.mk' Tryz.func18 rfl rfl Tryz.ntmps18 rfl ?_
      repeat first|refine go ?_|intro _|refine iH ?_|refine dM ?_|refine aD @hD ?_
      rename_i pt'
      (apply aA rfl rfl bH)
      · exact ⟨pt',rfl,rfl⟩
      · exact aB
    · have hkl:(x.kb.length:Int)=s.ks.length:=by omega
      have hhl:(x.hb.length:Int)=s.hs.length:=by omega
      by_cases h2:pk=2∧(0≤pa∧pa<(x.hb.length:Int))
      · obtain ⟨rfl,h2a,h2b⟩:=h2
        obtain ⟨d,rfl⟩:∃ d:Nat,pa=d:=⟨pa.toNat,om⟩
        have hin:inN (d:Int) s.hs.length=true:=by unfold inN;exact decide_eq_true (om)
        have eB:bN c s ⟨2,d,pb⟩=kA c s d pb:=by unfold bN;dsimp only;rw [if_neg h0,if_neg (by decide),if_pos ⟨rfl,hin⟩]
        have eS:bY c s ⟨2,d,pb⟩=c7 c s d pb:=by unfold bY;dsimp only;rw [if_neg h0,if_neg (by decide),if_pos ⟨rfl,hin⟩]
        rw [eB,eS]
        have hW:=fun F=>(e2r (F:=F) (b:=b) (j:=pb) hw hl hn (d:=d) (om) hx).opened hx
        have hin2:(0:Int)≤d∧(d:Int)<x.hb.length:=by omega
        refine FnF.mk' Tryz.func18 rfl rfl Tryz.ntmps18 rfl ?_
        refine i6 fun hf=>?_
        repeat first|refine go ?_|intro _|refine iH ?_|refine dM ?_|refine aD @hIW ?_|refine aD @hW ?_
        (apply aA rfl rfl bH)
        · exact ⟨x.pt,rfl,rfl⟩
        · exact aB
      · by_cases h3:pk=0∧(0≤pa∧pa<(x.kb.length:Int))
        · obtain ⟨rfl,h3a,h3b⟩:=h3
          obtain ⟨d,rfl⟩:∃ d:Nat,pa=d:=⟨pa.toNat,om⟩
          have hin:inN (d:Int) s.ks.length=true:=by unfold inN;exact decide_eq_true (om)
          have eB:bN c s ⟨0,d,pb⟩=dO c s d pb:=by unfold bN;dsimp only;rw [if_neg h0,if_neg (by decide),if_neg (fun e=>absurd e.1 (by decide)),if_pos ⟨rfl,hin⟩]
          have eS:bY c s ⟨0,d,pb⟩=c8 c s d pb:=by unfold bY;dsimp only;rw [if_neg h0,if_neg (by decide),if_neg (fun e=>absurd e.1 (by decide)),if_pos ⟨rfl,hin⟩]
          rw [eB,eS]
          have hA:=fun F=>(e7x (F:=F) (b:=b) (w:=pb) (i:=d) hw hl hn ht (om) hp.2.2 hx).opened hx
          have hin2:(0:Int)≤d∧(d:Int)<x.kb.length:=by omega
          refine FnF.mk' Tryz.func18 rfl rfl Tryz.ntmps18 rfl ?_
          refine i6 fun hf=>?_
          repeat first|refine go ?_|intro _|refine iH ?_|refine dM ?_|refine aD @hIW ?_|refine aD @hA ?_
          rename_i pt'
          (apply aA rfl rfl bH)
          · exact ⟨pt',rfl,rfl⟩
          · exact aB
        · by_cases h4:pk=3∧(0≤pa∧pa<(x.kb.length:Int))
          · obtain ⟨rfl,h4a,h4b⟩:=h4
            obtain ⟨d,rfl⟩:∃ d:Nat,pa=d:=⟨pa.toNat,om⟩
            have hin:inN (d:Int) s.ks.length=true:=by unfold inN;exact decide_eq_true (om)
            have eB:bN c s ⟨3,d,pb⟩=jI c s d (1+pb.tmod 4):=by unfold bN;dsimp only;rw [if_neg h0,if_neg (by decide),if_neg (fun e=>absurd e.1 (by decide)),if_neg (fun e=>absurd e.1 (by decide)),if_pos ⟨rfl,hin⟩]
            have eS:bY c s ⟨3,d,pb⟩=eE c s d (1+pb.tmod 4):=by unfold bY;dsimp only;rw [if_neg h0,if_neg (by decide),if_neg (fun e=>absurd e.1 (by decide)),if_neg (fun e=>absurd e.1 (by decide)),if_pos ⟨rfl,hin⟩]
            rw [eB,eS]
            have hA:=fun F=>(e4g (F:=F) (b:=b) (d:=1+pb.tmod 4) (i:=d) hw hl (om) hx).opened hx
            have hin2:(0:Int)≤d∧(d:Int)<x.kb.length:=by omega
            have hm0:0≤pb.tmod 4∧pb.tmod 4<4:=by rw [Int.tmod_eq_emod_of_nonneg (om)];omega
            refine FnF.mk' Tryz.func18 rfl rfl Tryz.ntmps18 rfl ?_
            refine i6 fun hf=>?_
            repeat first|refine go ?_|intro _|refine iH ?_|refine dM ?_|refine aD @hIW ?_|refine aD @hA ?_
            (apply aA rfl rfl bH)
            · exact ⟨x.pt,rfl,rfl⟩
            · exact aB
          · have hi2:¬(pk=2∧inN pa s.hs.length=true):=fun g=>h2 ⟨g.1,by have:=g.2;unfold inN at this;have:=of_decide_eq_true this;omega⟩
            have hi3:¬(pk=0∧inN pa s.ks.length=true):=fun g=>h3 ⟨g.1,by have:=g.2;unfold inN at this;have:=of_decide_eq_true this;omega⟩
            have hi4:¬(pk=3∧inN pa s.ks.length=true):=fun g=>h4 ⟨g.1,by have:=g.2;unfold inN at this;have:=of_decide_eq_true this;omega⟩
            have eB:bN c s ⟨pk,pa,pb⟩=false:=by unfold bN;dsimp only;rw [if_neg h0,if_neg h1,if_neg hi2,if_neg hi3,if_neg hi4]
            have eS:bY c s ⟨pk,pa,pb⟩=s:=by unfold bY;dsimp only;rw [if_neg h0,if_neg h1,if_neg hi2,if_neg hi3,if_neg hi4]
            rw [eB,eS]
            refine FnF.mk' Tryz.func18 rfl rfl Tryz.ntmps18 rfl ?_
            refine i6 fun hf=>?_
            by_cases k2:pk=2
            · have n2:¬(0≤pa∧pa<(x.hb.length:Int)):=fun g=>h2 ⟨k2,g⟩
              have k0:¬pk=0:=by omega
              have k3:¬pk=3:=by omega
              repeat first|refine go ?_|intro _|refine iH ?_|refine dM ?_|refine aD @hIW ?_
              (apply aA rfl rfl bH)
              · exact ⟨x.pt,rfl,rfl⟩
              · refine eV ?_ hf
                exact aB
            · by_cases k0:pk=0
              · have n2:¬(0≤pa∧pa<(x.kb.length:Int)):=fun g=>h3 ⟨k0,g⟩
                have k3:¬pk=3:=by omega
                repeat first|refine go ?_|intro _|refine iH ?_|refine dM ?_|refine aD @hIW ?_
                (apply aA rfl rfl bH)
                · exact ⟨x.pt,rfl,rfl⟩
                · refine eV ?_ hf
                  exact aB
              · by_cases k3:pk=3
                · have n2:¬(0≤pa∧pa<(x.kb.length:Int)):=fun g=>h4 ⟨k3,g⟩
                  repeat first|refine go ?_|intro _|refine iH ?_|refine dM ?_|refine aD @hIW ?_
                  (apply aA rfl rfl bH)
                  · exact ⟨x.pt,rfl,rfl⟩
                  · refine eV ?_ hf
                    exact aB
                · repeat first|refine go ?_|intro _|refine iH ?_|refine dM ?_|refine aD @hIW ?_
                  (apply aA rfl rfl bH)
                  · exact ⟨x.pt,rfl,rfl⟩
                  · refine eV ?_ hf
                    exact aB
end
section
theorem pW {s:MaS}:bR s=true↔nY s.n=[]∧(∀ i (h:i<s.ks.length),lF s.ks[i]=0)∧(∀ i (h:i<s.cs.length),s.cs[i].mis=[]∧s.cs[i].buf=[])∧∀ i (h:i<s.hs.length),s.hs[i].q.length=0:=by
  unfold bR
  simp only [Bool.and_eq_true,decide_eq_true_eq,List.all_eq_true]
  constructor
  · rintro ⟨⟨⟨a,b⟩,c⟩,d⟩
    exact ⟨a,fun i h=>b _ (List.getElem_mem h),fun i h=>c _ (List.getElem_mem h),fun i h=>d _ (List.getElem_mem h)⟩
  · rintro ⟨a,b,c,d⟩
    refine ⟨⟨⟨a,fun k hk=>?_⟩,fun k hk=>?_⟩,fun k hk=>?_⟩
    · obtain ⟨i,hi,rfl⟩:=List.getElem_of_mem hk;exact b i hi
    · obtain ⟨i,hi,rfl⟩:=List.getElem_of_mem hk;exact c i hi
    · obtain ⟨i,hi,rfl⟩:=List.getElem_of_mem hk;exact d i hi
theorem xI {s:MaS} (h:¬bR s=true):bR s=false:=by cases e:bR s with|false=>rfl|true=>exact absurd e h
theorem FnF.lift {P:Program} {f:FuncId} {vs:List Value} {pre pre' F R:List HP} {post post':Value→List HP→Prop} (C:FnF P f vs pre (pO R F) post) (hin:Ent (pO pre' F) (pO pre (pO R F)))
    (hout:∀ v L,post v L→∃ L',post' v L'∧Ent (pO L (pO R F)) (pO L' F)):FnF P f vs pre' F post':=
  ⟨C.enters,fun w hw=>(C.runs w (hin.sat hw)).mono fun e w' ⟨v,L,he,hp,hs⟩=>by
    obtain ⟨L',h1,h2⟩:=hout v L hp
    exact ⟨v,L',he,h1,h2.sat hs⟩⟩
section
variable {P:Program} {f:FuncId} {vs:List Value} {F:List HP} {b:Nat} {c:Cfg} {s:MaS} {x:MaX}
theorem FnF.inC2 {α:Type} {i:Nat} {u:α→Value} {X:α→HP} (hi:i<x.ab.length) (hx:a2v c s x) (C:∀ F,FnF P f vs [b2h (x.ab.getD i 0) c (i:Int) (s.cs.getD i caZ)] F (fun r L'=>∃ q,r=u q∧L'=[X q,b2h (x.ab.getD i 0) c (i:Int) (s.cs.getD i caZ)])):FnF P f vs [i9 b c s x] F (fun r L'=>∃ q,r=u q∧L'=[X q,i9 b c s x]):=by
  refine FnF.lift (R:=[e5i b c s x i]) (C _) (c1d hi) ?_
  rintro v L ⟨q,rfl,rfl⟩
  exact ⟨_,⟨q,rfl,rfl⟩,Ent.cons (x6 Ent.refl hi hx.1.2.1)⟩
theorem FnF.inH {i:Nat} {u:Value} (hi:i<x.hb.length) (hx:a2v c s x) (C:∀ F,FnF P f vs [jD (x.hb.getD i 0) c (i:Int) (s.hs.getD i a5e)] F (fun r L'=>r=u∧L'=[jD (x.hb.getD i 0) c (i:Int) (s.hs.getD i a5e)])):FnF P f vs [i9 b c s x] F (fun r L'=>r=u∧L'=[i9 b c s x]):=by
  refine FnF.lift (R:=[d9k b c s x i]) (C _) (b0x hi) ?_
  rintro v L ⟨rfl,rfl⟩
  exact ⟨_,⟨rfl,rfl⟩,a3p Ent.refl hi hx.1.2.2⟩
theorem FnF.inH2 {α:Type} {i:Nat} {u:α→Value} {X:α→HP} (hi:i<x.hb.length) (hx:a2v c s x) (C:∀ F,FnF P f vs [jD (x.hb.getD i 0) c (i:Int) (s.hs.getD i a5e)] F (fun r L'=>∃ q,r=u q∧L'=[X q,jD (x.hb.getD i 0) c (i:Int) (s.hs.getD i a5e)])):FnF P f vs [i9 b c s x] F (fun r L'=>∃ q,r=u q∧L'=[X q,i9 b c s x]):=by
  refine FnF.lift (R:=[d9k b c s x i]) (C _) (b0x hi) ?_
  rintro v L ⟨q,rfl,rfl⟩
  exact ⟨_,⟨q,rfl,rfl⟩,Ent.cons (a3p Ent.refl hi hx.1.2.2)⟩
theorem b6h {L:List HP}:Ent (i9 b c s x::L) (e6m b c s x L):=
  Ent.trans kU (Ent.cons (Ent.cons (Ent.cons (Ent.cons (Ent.cons (Ent.cons (Ent.cons (Ent.cons (Ent.cons (Ent.drop Ent.refl))))))))))
theorem d6k {A B C D N:HP} {L:List HP}:Ent (A::B::C::D::N::L) (N::A::B::C::D::L):=iA (List.perm_middle (a:=N) (l₁:=[A,B,C,D]) (l₂:=L))
theorem d0z {A B C D N:HP} {L:List HP}:Ent (N::A::B::C::D::L) (A::B::C::D::N::L):=iA (List.perm_middle (a:=N) (l₁:=[A,B,C,D]) (l₂:=L)).symm
def e7h (b:Nat) (c:Cfg) (s:MaS) (x:MaX):List HP:=[Cells b 81 (f1w c s.odd x.kb.length x.ab.length x.hb.length s.tr.length x.pk x.pa x.ph x.pt x.bn),
  Own 82 1 (.slice x.pk.1 x.kb.length x.pk.2) x.kb.length (aC b1d x.kb),Own 46 1 (.slice x.pa.1 x.ab.length x.pa.2) x.ab.length (aC b1d x.ab),Own 52 1 (.slice x.ph.1 x.hb.length x.ph.2) x.hb.length (aC b1d x.hb),
  Own 60 6 (.slice x.pt.1 s.tr.length x.pt.2) s.tr.length (aC e0q s.tr),All ((List.range x.kb.length).map (a0i x s)),All ((List.range x.ab.length).map (uS c x s)),All ((List.range x.hb.length).map (uT c x s))]
theorem c1a {L:List HP}:Ent (i9 b c s x::L) (nQ x.bn c s.n::pO (e7h b c s x) L):=by
  refine Ent.trans b6h ?_
  exact d6k
theorem c7z {L M:List HP} (h:Ent L (nQ x.bn c s.n::pO (e7h b c s x) M)) (hf:a2v c s x):Ent L (i9 b c s x::M):=eV (Ent.trans h d0z) hf
theorem FnF.inN {u:Value} (hx:a2v c s x) (C:∀ F,FnF P f vs [nQ x.bn c s.n] F (fun r L'=>r=u∧L'=[nQ x.bn c s.n])):FnF P f vs [i9 b c s x] F (fun r L'=>r=u∧L'=[i9 b c s x]):=by
  refine FnF.lift (R:=e7h b c s x) (C _) c1a ?_
  rintro v L ⟨rfl,rfl⟩
  exact ⟨_,⟨rfl,rfl⟩,c7z Ent.refl hx⟩
theorem FnF.inN2 {α:Type} {u:α→Value} {X:α→HP} (hx:a2v c s x) (C:∀ F,FnF P f vs [nQ x.bn c s.n] F (fun r L'=>∃ q,r=u q∧L'=[X q,nQ x.bn c s.n])):FnF P f vs [i9 b c s x] F (fun r L'=>∃ q,r=u q∧L'=[X q,i9 b c s x]):=by
  refine FnF.lift (R:=e7h b c s x) (C _) c1a ?_
  rintro v L ⟨q,rfl,rfl⟩
  exact ⟨_,⟨q,rfl,rfl⟩,Ent.cons (c7z Ent.refl hx)⟩
theorem FnF.opn {u:Value} (hx:a2v c s x) (C:∀ F,FnF P f vs [i9 b c s x] F (fun r L'=>r=u∧L'=[i9 b c s x])):FnF P f vs (e6m b c s x []) F (fun r L'=>r=u∧L'=e6m b c s x []):=by
  refine FnF.lift (R:=[]) (C _) (eV Ent.refl hx) ?_
  rintro v L ⟨rfl,rfl⟩
  exact ⟨_,⟨rfl,rfl⟩,b6h⟩
theorem FnF.opn2 {α:Type} {u:α→Value} {X:α→HP} (hx:a2v c s x) (C:∀ F,FnF P f vs [i9 b c s x] F (fun r L'=>∃ q,r=u q∧L'=[X q,i9 b c s x])):FnF P f vs (e6m b c s x []) F (fun r L'=>∃ q,r=u q∧L'=X q::e6m b c s x []):=by
  refine FnF.lift (R:=[]) (C _) (eV Ent.refl hx) ?_
  rintro v L ⟨q,rfl,rfl⟩
  exact ⟨_,⟨q,rfl,rfl⟩,Ent.cons b6h⟩
end
attribute [local irreducible] Exit.then Exit.inBlock Code.wp WC WO WE WQ V bT vL fP cY eI v8 IntKind.wrap WR Code.rounds WT KO
section
variable {F:List HP} {b:Nat} {c:Cfg} {s:MaS} {x:MaX}
theorem d1a {i:Nat} (hi:i<x.ab.length) (hx:a2v c s x):FnF Tryz.prog 25 [.pointer (some ⟨x.ab.getD i 0,0,none⟩)] [i9 b c s x] F (fun r L'=>∃ q:Option Addr×Nat,r= .slice q.1 (s.cs.getD i caZ).mis.length q.2∧L'=[Own 182 15 (.slice q.1 (s.cs.getD i caZ).mis.length q.2) (s.cs.getD i caZ).mis.length (aC k9 (s.cs.getD i caZ).mis),i9 b c s x]):=
  FnF.inC2 (α:=Option Addr×Nat) hi hx fun F=>(a3k).mono fun r L ⟨p,q,h⟩=>⟨(p,q),h⟩
theorem c4b {i:Nat} (hi:i<x.ab.length) (hx:a2v c s x):FnF Tryz.prog 26 [.pointer (some ⟨x.ab.getD i 0,0,none⟩)] [i9 b c s x] F (fun r L'=>∃ q:Option Addr×Nat,r= .slice q.1 (s.cs.getD i caZ).buf.length q.2∧L'=[Own 125 10 (.slice q.1 (s.cs.getD i caZ).buf.length q.2) (s.cs.getD i caZ).buf.length (aC bc (s.cs.getD i caZ).buf),i9 b c s x]):=
  FnF.inC2 (α:=Option Addr×Nat) hi hx fun F=>(a7x).mono fun r L ⟨p,q,h⟩=>⟨(p,q),h⟩
theorem c1b {i:Nat} (hi:i<x.hb.length) (hx:a2v c s x):FnF Tryz.prog 28 [.pointer (some ⟨x.hb.getD i 0,0,none⟩)] [i9 b c s x] F (fun r L'=>∃ q:Option Addr×Nat,r= .slice q.1 (s.hs.getD i a5e).q.length q.2∧L'=[f5g 191 (.slice q.1 (s.hs.getD i a5e).q.length q.2) (s.hs.getD i a5e).q,i9 b c s x]):=
  FnF.inH2 (α:=Option Addr×Nat) hi hx fun F=>(d3h).mono fun r L ⟨p,q,h⟩=>⟨(p,q),h⟩
theorem e5g {i:Nat} (hi:i<x.hb.length) (hx:a2v c s x):FnF Tryz.prog 54 [.pointer (some ⟨x.hb.getD i 0,0,none⟩)] [i9 b c s x] F (fun r L'=>r= .int .i64 (s.hs.getD i a5e).odd∧L'=[i9 b c s x]):=FnF.inH hi hx fun F=>e8d
theorem e5h {k:Int} (hx:a2v c s x):FnF Tryz.prog 21 [.pointer (some ⟨x.bn,0,none⟩),.int .i64 k] [i9 b c s x] F (fun r L'=>∃ q:Option Addr×Nat,r= .slice q.1 (eY s.n k).length q.2∧L'=[Own 99 15 (.slice q.1 (eY s.n k).length q.2) (eY s.n k).length (aC mc (eY s.n k)),i9 b c s x]):=
  FnF.inN2 (α:=Option Addr×Nat) hx fun F=>(d3z).mono fun r L ⟨p,q,h⟩=>⟨(p,q),h⟩
theorem d6l (hx:a2v c s x):FnF Tryz.prog 62 [.pointer (some ⟨x.bn,0,none⟩)] [i9 b c s x] F (fun r L'=>r= .bool (decide (nY s.n=[]))∧L'=[i9 b c s x]):=FnF.inN hx fun F=>d0j
theorem f0i (hx:a2v c s x):FnF Tryz.prog 20 [.pointer (some ⟨b,0,none⟩)] [i9 b c s x] F (fun r L'=>r= .pointer (some ⟨x.bn,0,none⟩)∧L'=[i9 b c s x]):=by
  refine FnF.mk' Tryz.func20 rfl rfl Tryz.ntmps20 rfl ?_
  refine i6 fun hf=>?_
  repeat first|refine gd ?_|intro _
  (apply aA rfl rfl bH)
  · exact ⟨rfl,rfl⟩
  · refine eV ?_ hf
    exact aB
theorem c8a {i:Nat} (hi:i<x.kb.length) (hx:a2v c s x):FnF Tryz.prog 29 [.pointer (some ⟨b,0,none⟩),.int .i64 i] [i9 b c s x] F (fun r L'=>r= .int .i64 (lF (s.ks.getD i coZ))∧L'=[i9 b c s { x with pt:=x.pt}]):=by
  obtain ⟨⟨f1,f2,f3⟩,⟨f4,f5,f6⟩,f7⟩:=id hx
  have hg:=jT hi
  have h0:0≤(i:Int)∧(i:Int)<x.kb.length:=by omega
  have h1:¬¬(0≤(i:Int)∧(i:Int)<x.kb.length):=fun h=>h h0
  have hL:=fun F=>xP (F:=F) (b:=x.kb[i]) (l:=(s.ks.getD i coZ).l) (rs:=(s.ks.getD i coZ).rs) (tr:=(s.ks.getD i coZ).tr)
  have eS:s=⟨s.ks.set i (s.ks.getD i coZ),s.cs.set i (s.cs.getD i caZ),s.hs,s.n,s.tr,s.odd⟩:=by rw [bP,bP]
  have hE:∀ L M,Ent L (i9 b c ⟨s.ks.set i (s.ks.getD i coZ),s.cs.set i (s.cs.getD i caZ),s.hs,s.n,s.tr,s.odd⟩ { x with pt:=x.pt}::M)→Ent L (i9 b c s { x with pt:=x.pt}::M):=fun L M h=>by rw [←eS] at h;exact h
  refine FnF.mk' Tryz.func29 rfl rfl Tryz.ntmps29 rfl ?_
  refine mI hi (om) fun hf=>?_
  repeat first|refine gd ?_|intro _|refine aD @yA ?_|refine aD @hL ?_
  (apply aA rfl rfl bH)
  · exact ⟨rfl,rfl⟩
  · refine hE _ _ ?_
    (apply fH;(focus (exact aB));all_goals exact mZ)
theorem b4w {F:List HP} {v:Value} {n:Nat} {xs:List Value} (k:RdL F 6 v n xs) (hn:n≤1099511627776):FnF Tryz.prog 57 [v] [] F (fun r L'=>∃ p c,r= .slice p n c∧L'=[Own 60 6 (.slice p n c) n xs]):=by
  refine FnF.mk' Tryz.func57 rfl rfl Tryz.ntmps57 rfl ?_
  refine b6w (v:=v) k fun q1 q2 p c0 e q3=>?_
  subst e
  cases p with
  |none=>
   obtain rfl:=q3 rfl
   obtain rfl:xs=[]:=List.eq_nil_of_length_eq_zero (by simpa using q1)
   repeat first|refine gd ?_|intro _
   (apply aA rfl rfl bH)
   · exact ⟨_,_,rfl,rfl⟩
   · exact aO Ent.refl
  |some a=>
   repeat first|refine gd ?_|intro _
   simp only [Nat.zero_add,List.nil_append]
   (apply aA rfl rfl bH)
   · exact ⟨_,_,rfl,rfl⟩
   · exact Ent.refl
theorem c1c (hx:a2v c s x) (ht:s.tr.length≤1000000000000):FnF Tryz.prog 22 [.pointer (some ⟨b,0,none⟩)] [i9 b c s x] F (fun r L'=>∃ q:Option Addr×Nat,r= .slice q.1 s.tr.length q.2∧L'=[Own 60 6 (.slice q.1 s.tr.length q.2) s.tr.length (aC e0q s.tr),i9 b c s x]):=by
  refine FnF.mk' Tryz.func22 rfl rfl Tryz.ntmps22 rfl ?_
  refine i6 fun hf=>?_
  repeat first|refine gd ?_|intro _|refine aD @b4w ?_
  rename_i p1 c1
  (apply aA rfl rfl bH)
  · exact ⟨(p1,c1),rfl,rfl⟩
  · refine Ent.cons (eV ?_ hf)
    exact aB
theorem f0j (hx:a2v c s x) (h0:s.odd=0) (h1:∀ y∈s.hs,y.odd=0):FnF Tryz.prog 19 [.pointer (some ⟨b,0,none⟩)] [i9 b c s x] F (fun r L'=>r= .int .i64 0∧L'=[i9 b c s x]):=by
  obtain ⟨⟨f1,f2,f3⟩,⟨f4,f5,f6⟩,f7⟩:=id hx
  have hh:=p4 f7
  refine FnF.mk' Tryz.func19 rfl rfl Tryz.ntmps19 rfl ?_
  refine i6 fun hf=>?_
  repeat first|refine gd ?_|intro _
  apply aW (E0:=[(13,_),(14,_)]) (fun E0 (i:Nat)=>(15,.int .i64 i)::(3,.int .i64 s.odd)::E0) (fun _=>e6m b c s x F) (fun i=>i≤x.hb.length) (fun i=>x.hb.length-i) 0
  · exact m9
  · exact Nat.zero_le _
  · exact aB
  · rintro i hi
    by_cases hlt:i<x.hb.length
    · have hg:=jT hlt
      have ho:(s.hs.getD i a5e).odd=0:=nN (P:=fun y:HomS=>y.odd=0) h1 rfl
      have hO:=fun F=>FnF.opn (F:=F) hx fun F=>e5g (F:=F) (b:=b) (c:=c) (s:=s) (x:=x) hlt hx
      simp only [ho,nI hlt] at hO
      repeat first|refine gd ?_|intro _|refine aD @hO ?_
      simp only [Int.add_zero]
      refine aT (i+1) (om) (om) ?_ ?_
      · exact m9
      · exact aB
    · repeat first|refine gd ?_|intro _
      (apply aA rfl rfl bH)
      · exact ⟨congrArg (Value.int .i64) h0,rfl⟩
      · refine eV ?_ hf
        exact aB
theorem b0v (hx:a2v c s x) (hk0:∀ k∈s.ks,k.rs.length≤k.l.length∧k.l.length≤64):FnF Tryz.prog 30 [.pointer (some ⟨b,0,none⟩)] [i9 b c s x] F (fun r L'=>r= .bool (bR s)∧L'=[i9 b c s x]):=by
  obtain ⟨⟨f1,f2,f3⟩,⟨f4,f5,f6⟩,f7⟩:=id hx
  have hh:=p4 f7
  have hcc:=(bG f7).1
  have hEm:=fun F=>FnF.opn (F:=F) hx fun F=>d6l (F:=F) (b:=b) (c:=c) (s:=s) (x:=x) hx
  refine FnF.mk' Tryz.func30 rfl rfl Tryz.ntmps30 rfl ?_
  refine i6 fun hf=>?_
  repeat first|refine gd ?_|intro _
  apply b0d (P:=Tryz.prog) (l:=0) (fun _:Unit=>[]) (fun _=>[]) (fun _=>False) (by rfl)
  · repeat first|refine gd ?_|intro _|refine aD @hEm ?_
    refine c0h ?_
    repeat first|refine gd ?_|intro _
    have hq0:(if decide (nY s.n=[])=true then nY s.n=[] else bR s=false):=by
      by_cases h:nY s.n=[]
      · rw [decide_eq_true h];exact h
      · rw [decide_eq_false h];exact xI fun g=>h (pW.1 g).1
    generalize decide (nY s.n=[])=q0 at hq0 ⊢
    apply aW (E0:=[(0,_)]) (fun E0 (q:Bool)=>(3,.bool q)::E0) (fun _=>e6m b c s x F) (fun q=>if q=true then nY s.n=[] else bR s=false) (fun q=>if q=true then 1 else 0) q0
    · exact m9
    · exact hq0
    · exact aB
    · intro q hq
      cases q with
      |false=>
       have hq':bR s=false:=by simpa using hq
       repeat first|refine gd ?_|intro _
       refine oK ?_
       rw [hq']
       repeat first|refine gd ?_|intro _
       (apply aA rfl rfl bH)
       · exact ⟨rfl,rfl⟩
       · refine eV ?_ hf
         exact aB
      |true=>
       have hq':nY s.n=[]:=by simpa using hq
       repeat first|refine gd ?_|intro _
       apply aW (E0:=[(0,_),(3,_),(17,_),(18,_)]) (fun E0 (i:Nat)=>(19,.int .i64 i)::E0) (fun _=>e6m b c s x F) (fun i=>i≤x.ab.length∧∀ j (h1:j<s.ks.length) (h2:j<s.cs.length),j<i→lF s.ks[j]=0∧s.cs[j].mis=[]∧s.cs[j].buf=[]) (fun i=>x.ab.length-i) 0
       · exact m9
       · exact ⟨Nat.zero_le _,fun j _ _ h=>absurd h (Nat.not_lt_zero _)⟩
       · exact aB
       · rintro i ⟨hi,hno⟩
         by_cases hlt:i<x.ab.length
         · have hlk:i<x.kb.length:=by omega
           have hg:=jT hlt
           have gk:s.ks.getD i coZ=s.ks[i]:=by rw [List.getD_eq_getElem?_getD,List.getElem?_eq_getElem (om)];rfl
           have ga:s.cs.getD i caZ=s.cs[i]:=by rw [List.getD_eq_getElem?_getD,List.getElem?_eq_getElem (om)];rfl
           have hLf:=fun F=>FnF.opn (F:=F) hx fun F=>c8a (F:=F) (b:=b) (c:=c) (s:=s) (x:=x) hlk hx
           have hMi:=fun F=>FnF.opn2 (F:=F) hx fun F=>d1a (F:=F) (b:=b) (c:=c) (s:=s) (x:=x) hlt hx
           have hWr:=fun F=>FnF.opn2 (F:=F) hx fun F=>c4b (F:=F) (b:=b) (c:=c) (s:=s) (x:=x) hlt hx
           simp only [nI hlt] at hMi hWr
           have hkb:=hk0 s.ks[i] (List.getElem_mem (om))
           have hcl:0≤lF (s.ks.getD i coZ):=by rw [gk];unfold lF;omega
           by_cases hA:lF (s.ks.getD i coZ)>0
           · have hqf:bR s=false:=xI fun g=>by have:=(pW.1 g).2.1 i (om);rw [←gk] at this;omega
             repeat first|refine gd ?_|intro _|refine aD @hLf ?_|refine aD @hMi ?_|refine aD @hWr ?_
             refine aT false (by decide) (by simpa using hqf) ?_ ?_
             · exact m9
             · exact aB
           · by_cases hB:(s.cs.getD i caZ).mis.length>0
             · have hqf:bR s=false:=xI fun g=>by have:=((pW.1 g).2.2.1 i (om)).1;rw [←ga] at this;rw [this] at hB;exact absurd hB (by decide)
               have hB':(((s.cs.getD i caZ).mis.length:Nat):Int)>0:=by omega
               repeat first|refine gd ?_|intro _|refine aD @hLf ?_|refine aD @hMi ?_|refine aD @hWr ?_
               refine aT false (by decide) (by simpa using hqf) ?_ ?_
               · exact m9
               · exact aB
             · have hB':¬(((s.cs.getD i caZ).mis.length:Nat):Int)>0:=by omega
               by_cases hC:(s.cs.getD i caZ).buf.length>0
               · have hqf:bR s=false:=xI fun g=>by have:=((pW.1 g).2.2.1 i (om)).2;rw [←ga] at this;rw [this] at hC;exact absurd hC (by decide)
                 have hC':(((s.cs.getD i caZ).buf.length:Nat):Int)>0:=by omega
                 repeat first|refine gd ?_|intro _|refine aD @hLf ?_|refine aD @hMi ?_|refine aD @hWr ?_
                 refine aT false (by decide) (by simpa using hqf) ?_ ?_
                 · exact m9
                 · exact aB
               · have hC':¬(((s.cs.getD i caZ).buf.length:Nat):Int)>0:=by omega
                 have hno2:i+1≤x.ab.length∧∀ j (h1:j<s.ks.length) (h2:j<s.cs.length),j<i+1→lF s.ks[j]=0∧s.cs[j].mis=[]∧s.cs[j].buf=[]:=by
                   refine ⟨om,fun j h1 h2 hji=>?_⟩
                   by_cases e:j=i
                   · subst e
                     rw [←gk,←ga]
                     exact ⟨om,List.length_eq_zero_iff.1 (om),List.length_eq_zero_iff.1 (om)⟩
                   · exact hno j h1 h2 (om)
                 repeat first|refine gd ?_|intro _|refine aD @hLf ?_|refine aD @hMi ?_|refine aD @hWr ?_
                 refine aT (i+1) (om) hno2 ?_ ?_
                 · exact m9
                 · exact aB
         · repeat first|refine gd ?_|intro _
           apply aW (E0:=[(0,_),(3,_),(44,_),(45,_)]) (fun E0 (i:Nat)=>(46,.int .i64 i)::E0) (fun _=>e6m b c s x F) (fun i=>i≤x.hb.length∧∀ j (h1:j<s.hs.length),j<i→s.hs[j].q.length=0) (fun i=>x.hb.length-i) 0
           · exact m9
           · exact ⟨Nat.zero_le _,fun j _ h=>absurd h (Nat.not_lt_zero _)⟩
           · exact aB
           · rintro k ⟨hk,hnh⟩
             by_cases hlh:k<x.hb.length
             · have hg:=jT hlh
               have gh:s.hs.getD k a5e=s.hs[k]:=by rw [List.getD_eq_getElem?_getD,List.getElem?_eq_getElem (om)];rfl
               have hQu:=fun F=>FnF.opn2 (F:=F) hx fun F=>c1b (F:=F) (b:=b) (c:=c) (s:=s) (x:=x) hlh hx
               simp only [nI hlh] at hQu
               by_cases hD:(((s.hs.getD k a5e).q.length:Nat):Int)>0
               · have hqf:bR s=false:=xI fun g=>by have:=(pW.1 g).2.2.2 k (om);rw [←gh] at this;omega
                 repeat first|refine gd ?_|intro _|refine aD @hQu ?_
                 refine aT false (by decide) (by simpa using hqf) ?_ ?_
                 · exact m9
                 · exact aB
               · have hnh2:k+1≤x.hb.length∧∀ j (h1:j<s.hs.length),j<k+1→s.hs[j].q.length=0:=by
                   refine ⟨om,fun j h1 hji=>?_⟩
                   by_cases e:j=k
                   · subst e;rw [←gh];omega
                   · exact hnh j h1 (om)
                 repeat first|refine gd ?_|intro _|refine aD @hQu ?_
                 refine aT (k+1) (om) hnh2 ?_ ?_
                 · exact m9
                 · exact aB
             · have hqt:bR s=true:=pW.2 ⟨hq',fun j h=>(hno j h (om) (om)).1,fun j h=>(hno j (om) h (om)).2,fun j h=>hnh j h (om)⟩
               repeat first|refine gd ?_|intro _
               refine oK ?_
               rw [hqt]
               repeat first|refine gd ?_|intro _
               (apply aA rfl rfl bH)
               · exact ⟨rfl,rfl⟩
               · refine eV ?_ hf
                 exact aB
  · intro _ h
    exact absurd h id
end
end
section
abbrev e6l (p:Pk):List Value:=[.int .i64 p.kind,.int .i64 p.a,.int .i64 p.b]
def Pk.wf (p:Pk):Prop:=nA p.kind∧nA p.a∧nA p.b
abbrev c18:Cfg:=⟨1,1,1,1,1,2,0,1,1,1,1,1,1⟩
theorem e7i {c:Cfg} {n:Nat} {s:MaS} (h:MaL c n s) (p:Pk):(bY c s p).tr.length≤s.tr.length+1:=by
  rcases c7i h p with g|⟨i,v,_,_,_,g⟩
  · have:(bY c s p).tr=s.tr:=congrArg Prod.snd g
    rw [this];omega
  · have:(bY c s p).tr=(nZ s i (bV (cO s i)) v).tr:=congrArg Prod.snd g
    rw [this]
    show (s.tr++[_]).length≤_
    rw [List.length_append,List.length_singleton];omega
theorem d6m {c:Cfg} {n:Nat} {s:MaS} (h:MaL c n s) (l:List Pk):(cM c s l).tr.length≤s.tr.length+l.length:=by
  unfold cM
  induction l generalizing n s with
  |nil=>exact Nat.le_refl _
  |cons p l ih=>
   rw [List.foldl_cons,List.length_cons]
   have:=ih (h.pick p)
   have:=e7i h p
   omega
theorem zM {g n c sz:Nat} {T:TypeId} {l:List Value} {L:List HP} (hl:l.length=n*sz) (h1:l.all one=true):Ent (Cells g T l::L) (Rds sz (.slice (some ⟨g,0,none⟩) n c) n l::L):=fun h ⟨S,U,d,hp,hL⟩=>
  ⟨S,U,d,⟨hl,h1,.inr ⟨g,0,c,l.toArray,T,rfl,hp.pf,fun j u hu=>by simpa using hu⟩⟩,hL⟩
attribute [local irreducible] Exit.then Exit.inBlock Code.wp WC WO WE WQ V bT vL fP cY eI v8 IntKind.wrap WR Code.rounds WT KO
section
variable {F:List HP} {b:Nat} {c:Cfg} {s:MaS} {x:MaX}
end
end
section
def f4m (c:Cfg) (p:Nat→Bool):Nat:=(List.range c.cores.toNat).countP p
def c4c (c:Cfg) (s:MaS) (line:Int) (i:Nat):Way:=aP c (s.cs.getD i caZ).ways line
def f3z (w:Way):Bool:=decide (2≤w.st)
def a5j (s:MaS) (line:Int) (i:Nat):Bool:=(s.cs.getD i caZ).buf.any fun b=>decide (b.line=line)&& b.live
def f0k (c:Cfg) (p:Nat→Bool):Option Nat:=(List.range c.cores.toNat).find? p
def f4y (s:MaS) (line:Int) (i:Nat):Words:=(((s.cs.getD i caZ).buf.find? fun b=>decide (b.line=line)&& b.live).map (·.words)).getD .zero
def c4d (c:Cfg) (s:MaS) (line:Int):Words:=match f0k c (fun i=>f3z (c4c c s line i)) with
  |some i=>(c4c c s line i).words
  |none=>match f0k c (a5j s line) with
   |some i=>f4y s line i
   |none=>sX c (s.hs.getD (cU c line).toNat a5e) line
def e0j (c:Cfg) (s:MaS) (addr:Int):Int:=if fR c addr then (c4d c s (bS c addr)).list.getD (lL c addr).toNat 0 else 0
theorem b0w {c:Cfg} {p:Nat→Bool}:f4m c p=0↔∀ i:Nat,(i:Int)<c.cores→p i=false:=by
  unfold f4m
  rw [List.countP_eq_zero]
  constructor
  · intro h i hi
    have:=h i (List.mem_range.2 (om))
    simpa using this
  · intro h i hi
    have:=h i (by have:=List.mem_range.1 hi;omega)
    simp [this]
section
variable {c:Cfg} {ps:List (List Op3)} {n:Nat} {s:MaS} {line:Int}
theorem e7j (i:Nat):(fA c s line).st i=(c4c c s line i).st∧(fA c s line).wd i=(c4c c s line i).words:=by
  have e:fE s (i:Int)=s.cs.getD i caZ:=by
    unfold fE bI
    rw [if_pos (om),Int.toNat_natCast]
  constructor
  · show a0o c (fE s (i:Int)) line=_;rw [e];rfl
  · show b6v c (fE s (i:Int)) line=_;rw [e];rfl
theorem e0k (i:Nat):fE s (i:Int)=s.cs.getD i caZ:=by
  unfold fE bI
  rw [if_pos (om),Int.toNat_natCast]
theorem f0l {m:Msg} (hk:m.kind=7):qM m= .data m.dst m.own m.acks m.words:=by
  unfold qM
  rw [if_neg (om),if_neg (om),if_neg (om),if_neg (om),if_neg (om),if_pos hk]
theorem f3o (i:Nat):(fA c s line).ms i=((fk c9w (s.cs.getD i caZ).mis line).map f2i):=by
  show yB (fE s (i:Int)) line=_
  rw [e0k];rfl
theorem d6n (h:MaI c ps n s) (i:Nat) {m:Miss} (hm:m∈(s.cs.getD i caZ).mis) (hl:m.line=line):(fA c s line).ms i=some (f2i m):=by
  rw [f3o]
  have hx:=h.l.cai (i:Int)
  have e:bI s (i:Int)=s.cs.getD i caZ:=by unfold bI;rw [Int.toNat_natCast]
  rw [e] at hx
  obtain ⟨j,hj,rfl⟩:=List.getElem_of_mem hm
  have hnd:((s.cs.getD i caZ).mis.map c9w).Nodup:=hx.2.1.nd
  have:=b7d (f:=c9w) hj fun k hk hkj e=>by
    exact (List.pairwise_iff_getElem.1 hnd) k j (by simpa using hk) (by simpa using hj) hkj (by simpa using e)
  rw [←hl]
  have e2:c9w (s.cs.getD i caZ).mis[j]=(s.cs.getD i caZ).mis[j].line:=rfl
  rw [e2] at this
  rw [this];rfl
theorem e7k (hl:MaL c n s) {r:Int} (h:(fA c s line).st r≠0∨(fA c s line).bf r≠none):0≤r∧r<c.cores:=by
  have h0:∀ k:CaS,k=caZ→a0o c k line=0∧b4j k line=none:=fun k e=>by
    subst e
    refine ⟨?_,rfl⟩
    unfold a0o
    have:caZ.ways=List.replicate 0 .zero:=rfl
    rw [this,rK,c5i];rfl
  have key:fE s r≠caZ:=fun e=>by
    rcases h with h|h
    · exact h (h0 _ e).1
    · exact h (h0 _ e).2
  have h1:0≤r:=Decidable.byContradiction fun g=>key (if_neg g)
  refine ⟨h1,Decidable.byContradiction fun g=>key ?_⟩
  have:=hl.la
  unfold fE bI
  rw [if_pos h1,List.getD_eq_getElem?_getD,List.getElem?_eq_none (om)];rfl
theorem d6o (i:Nat) {w:Words} (h:(fA c s line).bf i=some (w,true)):a5j s line i=true:=by
  have e:(fA c s line).bf i=(fk d4b (s.cs.getD i caZ).buf line).map fun e=>(e.words,e.live):=by
    show b4j (fE s (i:Int)) line=_
    rw [e0k];rfl
  rw [e] at h
  cases g:fk d4b (s.cs.getD i caZ).buf line with
  |none=>rw [g] at h;cases h
  |some b=>
   rw [g] at h
   obtain ⟨g1,g2⟩:=b5x g
   simp at h
   refine List.any_eq_true.2 ⟨b,g1,?_⟩
   have:b.line=line:=g2
   simp [this,h.2]
theorem d6p (h:MaI c ps n s) (hl:aL c line=true) (ha:(fA c s line).act=none) (h1:f4m c (fun i=>f3z (c4c c s line i))=0) (h2:f4m c (a5j s line)=0):sX c (aN c s line) line=aJ c (iL c s.tr) line:=by
  have hLI:=(h.t.1 _ hl).1
  have ho:(fA c s line).o= -1:=Decidable.byContradiction fun g=>by
    rcases sV hLI ha g with g1|⟨w,g1,g2⟩
    · obtain ⟨r0,r1⟩:=e7k h.l (.inl (show (fA c s line).st (fA c s line).o≠0 by omega))
      obtain ⟨i,hi⟩:∃ i:Nat,(fA c s line).o=i:=⟨(fA c s line).o.toNat,om⟩
      rw [hi] at g1 r1
      rw [(e7j (c:=c) (s:=s) (line:=line) i).1] at g1
      have:=b0w.1 h1 i r1
      unfold f3z at this
      exact absurd g1 (of_decide_eq_false this)
    · obtain ⟨r0,r1⟩:=e7k h.l (.inr (show (fA c s line).bf (fA c s line).o≠none by rw [g1];simp))
      obtain ⟨i,hi⟩:∃ i:Nat,(fA c s line).o=i:=⟨(fA c s line).o.toNat,om⟩
      rw [hi] at g1 r1
      have:=b0w.1 h2 i r1
      rw [d6o i g1] at this;cases this
  have hm:=hLI.mn ho
  have hm':aJ c (aN c s line).ms line=aJ c (iL c s.tr) line:=hm
  have hl':=hl
  unfold aL at hl'
  simp only [Bool.and_eq_true,decide_eq_true_eq] at hl'
  have hb:=(gP h.l.ok).2.1
  have eH:cU c line=line % c.homes:=by unfold cU;rw [if_pos hl]
  have r0:=Int.emod_nonneg line (show c.homes≠0 by omega)
  have r1:=Int.emod_lt_of_pos line (show 0<c.homes by omega)
  rw [←eH] at r0 r1
  have hI:=(h.l.hmi r0 r1).1
  have hown:a1j (aN c s line) line=true:=by
    show a1j (bU s (cU c line)) line=true
    rw [hI.own]
    exact decide_eq_true ⟨hl'.2.1,hl'.2.2,eH.symm⟩
  unfold sX
  rw [if_pos hown];exact hm'
theorem c8b {p:Nat→Bool} {i:Nat} (h:f0k c p=some i):(i:Int)<c.cores∧p i=true:=by
  unfold f0k at h
  exact ⟨by have:=List.mem_range.1 (List.mem_of_find?_eq_some h);omega,List.find?_some h⟩
theorem b6i {p:Nat→Bool} (h:f0k c p=none):f4m c p=0:=by
  unfold f0k at h
  unfold f4m
  rw [List.countP_eq_zero]
  exact List.find?_eq_none.1 h
theorem oM (h:bR s=true):nY s.n=[]∧(∀ k∈s.ks,lF k=0)∧(∀ a∈s.cs,a.mis=[]∧a.buf=[])∧∀ x∈s.hs,x.q=[]:=by
  unfold bR at h
  simp only [Bool.and_eq_true,decide_eq_true_eq,List.all_eq_true] at h
  exact ⟨h.1.1.1,h.1.1.2,h.1.2,fun x hx=>List.length_eq_zero_iff.1 (h.2 x hx)⟩
theorem b9a (h:MaI c ps n s) (hq:bR s=true) {addr:Int} (ha:fR c addr=true):e0j c s addr=d1w c s.tr addr:=by
  obtain ⟨q1,q2,q3,q4⟩:=oM hq
  have hap:xJ c ⟨1,addr,0⟩=true:=by
    unfold xJ
    have ha':=ha
    simp only [fR,Bool.and_eq_true,decide_eq_true_eq] at ha'
    have hw:=dF h.l.ok
    have:c.words*c.lines≤8*1024:=Int.mul_le_mul (om) (om) (om) (om)
    have hm:sQ ⟨1,addr,0⟩=true:=by
      unfold sQ
      simp;omega
    rw [hm]
    show (fR c addr&& true&& !decide ((1:Int)=4))=true
    rw [ha];rfl
  have hn:=xS h.l.ok s.tr
  obtain ⟨b1,_,_,_,_,b6,_⟩:=uP hn hap
  have b6':(aJ c (iL c s.tr) (bS c addr)).list.getD (lL c addr).toNat 0=zP (iL c s.tr) addr:=b6
  have hl:aL c (bS c addr)=true:=by
    have b1':fF c (bS c addr) 0=true:=b1
    simp only [fF,Bool.and_eq_true,decide_eq_true_eq] at b1'
    unfold aL
    rw [h.l.ok,decide_eq_true (om)];rfl
  have key:c4d c s (bS c addr)=aJ c (iL c s.tr) (bS c addr):=by
    have hLI:=(h.t.1 _ hl).1
    have hact:(fA c s (bS c addr)).act=none:=by
      show gZ (bS c addr) (aN c s (bS c addr)).q=none
      have:(aN c s (bS c addr)).q=[]:=by
        unfold aN bU
        rw [List.getD_eq_getElem?_getD]
        cases e:s.hs[(cU c (bS c addr)).toNat]? with
        |none=>rfl
        |some x=>exact q4 x (List.mem_of_getElem? e)
      rw [this];rfl
    unfold c4d
    cases e1:f0k c (fun i=>f3z (c4c c s (bS c addr) i)) with
    |some i=>
     obtain ⟨_,hp⟩:=c8b e1
     have hp':=of_decide_eq_true hp
     have e2:=e7j (c:=c) (s:=s) (line:=bS c addr) i
     have:=hLI.wn i (by rw [e2.1];omega)
     rw [e2.2] at this
     exact this
    |none=>
     have hlive:∀ i,a5j s (bS c addr) i=false:=fun i=>by
       have:(s.cs.getD i caZ).buf=[]:=by
         rw [List.getD_eq_getElem?_getD]
         cases e:s.cs[i]? with
         |none=>rfl
         |some x=>exact (q3 x (List.mem_of_getElem? e)).2
       unfold a5j;rw [this];rfl
     have e3:f0k c (a5j s (bS c addr))=none:=by
       unfold f0k
       rw [List.find?_eq_none]
       intro i _
       rw [hlive i];simp
     rw [e3]
     have:=d6p h hl hact (b6i e1) (b6i e3)
     exact this
  unfold e0j d1w
  rw [if_pos ha,key,b6',if_pos h.l.ok]
end
end
end Go.Sx
