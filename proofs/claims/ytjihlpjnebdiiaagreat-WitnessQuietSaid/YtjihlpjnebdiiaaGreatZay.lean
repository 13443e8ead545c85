/- Mw5, Mw6, MaAw: several of my texts as one. My own work. -/
import Derived.Test.YtjihlpjnebdiiaaGreatZr
import Derived.Test.YtjihlpjnebdiiaaGreatZaw
import Derived.Test.YtjihlpjnebdiiaaGreatZax
import Derived.Test.YtjihlpjnebdiiaaGreatZac
import Derived.Test.YtjihlpjnebdiiaaGreatZar
import Derived.Test.YtjihlpjnebdiiaaGreatZak
set_option linter.unusedVariables false
set_option linter.unusedSectionVars false
set_option linter.unusedSimpArgs false
/- What a machine does: picks. My own work. -/
namespace Go.Sx
open Go Go.Proofs
abbrev pkv (p:Pk):Value:= .agg [.int .i64 p.kind,.int .i64 p.a,.int .i64 p.b].toArray
theorem FnF.ent {P:Program} {f:FuncId} {vs:List Value} {pre pre' F:List HP} {post:Value→List HP→Prop} (C:FnF P f vs pre F post) (h:Ent (app pre' F) (app pre F)):FnF P f vs pre' F post:=⟨C.enters,fun w hw=>C.runs w (h.sat hw)⟩
theorem FnF.opened {P:Program} {f:FuncId} {vs:List Value} {F:List HP} {post:Value→List HP→Prop} {b:Nat} {c:Cfg} {s:MaS} {x:MaX} (C:FnF P f vs [MaQ b c s x] F post) (hf:MaF c s x):FnF P f vs (MaO b c s x []) F post:=C.ent (maq_same Ent.refl hf)
set_option maxRecDepth 100000
set_option maxHeartbeats 4000000
attribute [local irreducible] Go.Exit.then Go.Exit.inBlock Go.Code.wp WC WO WE WQ V LoopQ FnQ Sat Star band bor IntKind.wrap WR Code.rounds WT KO
theorem ma_deliver {F:List HP} {b:Nat} {c:Cfg} {s:MaS} {x:MaX} {n:Nat} {k j:Int} (hw:c.wf) (hl:MaL c n s) (hn:n≤1000000000000) (ht:s.tr.length≤1000000000000) (hx:MaF c s x) :
    FnF Tryz.prog 49 [.pointer (some ⟨b,0,none⟩),.int .i64 k,.int .i64 j] [MaQ b c s x] F (fun r L'=>∃ pt:Option Addr×Nat,r= .bool (maDelB c s k j)∧L'=[MaQ b c (maDelS c s k j) { x with pt:=pt}]):=by
  by_cases h0:natB s.n k j=false∨k=1∧nleft c s.n 2=0
  · exact (ma_del0 hw hl hx h0).mono fun r L h=>⟨x.pt,h⟩
  · have hb:natB s.n k j=true:=by cases e:natB s.n k j with|true=>rfl|false=>exact absurd (.inl e) h0
    have hm:=nat_mem hb
    have hk:k=0∨k=1∨k=2:=by
      unfold nget at hm
      by_cases g0:k=0
      · exact .inl g0
      · rw [if_neg g0] at hm
        by_cases g1:k=1
        · exact .inr (.inl g1)
        · rw [if_neg g1] at hm
          by_cases g2:k=2
          · exact .inr (.inr g2)
          · rw [if_neg g2] at hm;cases hm
    rcases hk with rfl|rfl|rfl
    · exact (ma_del1 hw hl hx hb).mono fun r L h=>⟨x.pt,h⟩
    · exact (ma_del2 hw hl hn hx hb (fun e=>h0 (.inr ⟨rfl,e⟩))).mono fun r L h=>⟨x.pt,h⟩
    · by_cases h11:(natM s.n 2 j).kind=11
      · exact (ma_del3 hw hl hn hx hb h11).mono fun r L h=>⟨x.pt,h⟩
      · exact ma_del4 hw hl hn ht hx hb h11
theorem dr_Mw5_18m {Q P:Prop} (k:Q) (h:Hid Q→P:=by
  intro k
  first
  |(refine is_draw ?_;apply WC_mix (id:=5) (.only []) _ (pl:= .p 0 <| .r 1 <| .p 2 <| .p 3 <| .p 4 <| .p 6 <| .p 7 <| .p 8 <| .r 5 <| .r 9 <| .p 10 <| .e true [(11,.p 12 <| .p 13 <| .done)]);exact mixed;kernel_rfl;kernel_rfl;exact Ent.refl;exact k.out)
  |(refine is_draw ?_;apply WC_mix (id:=7) (.only []) _ (pl:= .p 0 <| .r 1 <| .p 2 <| .p 3 <| .p 4 <| .p 6 <| .p 7 <| .p 8 <| .r 5 <| .r 9 <| .p 10 <| .e true [(11,.p 12 <| .p 13 <| .done)]);exact mixed;kernel_rfl;kernel_rfl;exact Ent.refl;exact k.out)
  |(refine is_draw ?_;apply WC_mix (id:=9) (.only []) _ (pl:= .p 0 <| .r 1 <| .p 2 <| .p 3 <| .p 4 <| .p 6 <| .p 7 <| .p 8 <| .r 5 <| .r 9 <| .p 10 <| .e true [(11,.p 12 <| .p 13 <| .done)]);exact mixed;kernel_rfl;kernel_rfl;exact Ent.refl;exact k.out)):P:=h ⟨k⟩
theorem ma_Pick {F:List HP} {b:Nat} {c:Cfg} {s:MaS} {x:MaX} {n:Nat} {p:Pk} (hw:c.wf) (hl:MaL c n s) (hn:n≤1000000000000) (ht:s.tr.length≤1000000000000) (hp:I64 p.kind∧I64 p.a∧I64 p.b) (hx:MaF c s x) :
    FnF Tryz.prog 18 [.pointer (some ⟨b,0,none⟩),pkv p] [MaQ b c s x] F (fun r L'=>∃ pt:Option Addr×Nat,r= .bool (maPickB c s p)∧L'=[MaQ b c (maPick c s p) { x with pt:=pt}]):=by
  obtain ⟨⟨f1,f2,f3⟩,⟨f4,f5,f6⟩,f7⟩:=id hx
  obtain ⟨pk,pa,pb⟩:=p
  have hIW:=fun F n m=>ma_within (F:=F) (n:=n) (m:=m)
  dsimp only at hp
  change FnF _ _ [_,.agg [.int .i64 pk,.int .i64 pa,.int .i64 pb].toArray] _ _ _
  by_cases h0:pa<0∨pb<0
  · have eB:maPickB c s ⟨pk,pa,pb⟩=false:=by unfold maPickB;rw [if_pos h0]
    have eS:maPick c s ⟨pk,pa,pb⟩=s:=by unfold maPick;rw [if_pos h0]
    rw [eB,eS]
    refine FnF.mk' Tryz.func18 rfl rfl Tryz.ntmps18 rfl ?_
    by_cases ha:pa<0
    · repeat (first|refine go ?_|intro _|refine dr_Mw5_18m ?_|refine drq ?_|refine cal @hIW ?_)
      (apply WE_ret rfl rfl zqR)
      · exact ⟨x.pt,rfl,rfl⟩
      · exact entu0
    · have hb:pb<0:=by omega
      repeat (first|refine go ?_|intro _|refine dr_Mw5_18m ?_|refine drq ?_|refine cal @hIW ?_)
      (apply WE_ret rfl rfl zqR)
      · exact ⟨x.pt,rfl,rfl⟩
      · exact entu0
  · have ha:¬pa<0:=fun g=>h0 (.inl g)
    have hb:¬pb<0:=fun g=>h0 (.inr g)
    by_cases h1:pk=1
    · have eB:maPickB c s ⟨pk,pa,pb⟩=maDelB c s pa pb:=by unfold maPickB;rw [if_neg h0,if_pos h1]
      have eS:maPick c s ⟨pk,pa,pb⟩=maDelS c s pa pb:=by unfold maPick;rw [if_neg h0,if_pos h1]
      rw [eB,eS]
      have hD:=fun F=>ma_deliver (F:=F) (b:=b) (k:=pa) (j:=pb) hw hl hn ht hx
      refine FnF.mk' Tryz.func18 rfl rfl Tryz.ntmps18 rfl ?_
      repeat (first|refine go ?_|intro _|refine dr_Mw5_18m ?_|refine drq ?_|refine cal @hD ?_)
      rename_i pt'
      (apply WE_ret rfl rfl zqR)
      · exact ⟨pt',rfl,rfl⟩
      · exact entu0
    · have hkl:(x.kb.length:Int)=s.ks.length:=by omega
      have hhl:(x.hb.length:Int)=s.hs.length:=by omega
      by_cases h2:pk=2∧(0≤pa∧pa<(x.hb.length:Int))
      · obtain ⟨rfl,h2a,h2b⟩:=h2
        obtain ⟨d,rfl⟩:∃ d:Nat,pa=d:=⟨pa.toNat,by omega⟩
        have hin:inN (d:Int) s.hs.length=true:=by unfold inN;exact decide_eq_true (by omega)
        have eB:maPickB c s ⟨2,d,pb⟩=maWorkB c s d pb:=by unfold maPickB;dsimp only;rw [if_neg h0,if_neg (by decide),if_pos ⟨rfl,hin⟩]
        have eS:maPick c s ⟨2,d,pb⟩=maWorkS c s d pb:=by unfold maPick;dsimp only;rw [if_neg h0,if_neg (by decide),if_pos ⟨rfl,hin⟩]
        rw [eB,eS]
        have hW:=fun F=>(ma_work (F:=F) (b:=b) (j:=pb) hw hl hn (d:=d) (by omega) hx).opened hx
        have hin2:(0:Int)≤d∧(d:Int)<x.hb.length:=by omega
        refine FnF.mk' Tryz.func18 rfl rfl Tryz.ntmps18 rfl ?_
        refine maq_open fun hf=>?_
        repeat (first|refine go ?_|intro _|refine dr_Mw5_18m ?_|refine drq ?_|refine cal @hIW ?_|refine cal @hW ?_)
        (apply WE_ret rfl rfl zqR)
        · exact ⟨x.pt,rfl,rfl⟩
        · exact entu0
      · by_cases h3:pk=0∧(0≤pa∧pa<(x.kb.length:Int))
        · obtain ⟨rfl,h3a,h3b⟩:=h3
          obtain ⟨d,rfl⟩:∃ d:Nat,pa=d:=⟨pa.toNat,by omega⟩
          have hin:inN (d:Int) s.ks.length=true:=by unfold inN;exact decide_eq_true (by omega)
          have eB:maPickB c s ⟨0,d,pb⟩=maActB c s d pb:=by unfold maPickB;dsimp only;rw [if_neg h0,if_neg (by decide),if_neg (fun e=>absurd e.1 (by decide)),if_pos ⟨rfl,hin⟩]
          have eS:maPick c s ⟨0,d,pb⟩=maActS c s d pb:=by unfold maPick;dsimp only;rw [if_neg h0,if_neg (by decide),if_neg (fun e=>absurd e.1 (by decide)),if_pos ⟨rfl,hin⟩]
          rw [eB,eS]
          have hA:=fun F=>(ma_act (F:=F) (b:=b) (w:=pb) (i:=d) hw hl hn ht (by omega) hp.2.2 hx).opened hx
          have hin2:(0:Int)≤d∧(d:Int)<x.kb.length:=by omega
          refine FnF.mk' Tryz.func18 rfl rfl Tryz.ntmps18 rfl ?_
          refine maq_open fun hf=>?_
          repeat (first|refine go ?_|intro _|refine dr_Mw5_18m ?_|refine drq ?_|refine cal @hIW ?_|refine cal @hA ?_)
          rename_i pt'
          (apply WE_ret rfl rfl zqR)
          · exact ⟨pt',rfl,rfl⟩
          · exact entu0
        · by_cases h4:pk=3∧(0≤pa∧pa<(x.kb.length:Int))
          · obtain ⟨rfl,h4a,h4b⟩:=h4
            obtain ⟨d,rfl⟩:∃ d:Nat,pa=d:=⟨pa.toNat,by omega⟩
            have hin:inN (d:Int) s.ks.length=true:=by unfold inN;exact decide_eq_true (by omega)
            have eB:maPickB c s ⟨3,d,pb⟩=maLookB c s d (1+pb.tmod 4):=by unfold maPickB;dsimp only;rw [if_neg h0,if_neg (by decide),if_neg (fun e=>absurd e.1 (by decide)),if_neg (fun e=>absurd e.1 (by decide)),if_pos ⟨rfl,hin⟩]
            have eS:maPick c s ⟨3,d,pb⟩=maLookS c s d (1+pb.tmod 4):=by unfold maPick;dsimp only;rw [if_neg h0,if_neg (by decide),if_neg (fun e=>absurd e.1 (by decide)),if_neg (fun e=>absurd e.1 (by decide)),if_pos ⟨rfl,hin⟩]
            rw [eB,eS]
            have hA:=fun F=>(ma_look (F:=F) (b:=b) (d:=1+pb.tmod 4) (i:=d) hw hl (by omega) hx).opened hx
            have hin2:(0:Int)≤d∧(d:Int)<x.kb.length:=by omega
            have hm0:0≤pb.tmod 4∧pb.tmod 4<4:=by rw [Int.tmod_eq_emod_of_nonneg (by omega)];omega
            refine FnF.mk' Tryz.func18 rfl rfl Tryz.ntmps18 rfl ?_
            refine maq_open fun hf=>?_
            repeat (first|refine go ?_|intro _|refine dr_Mw5_18m ?_|refine drq ?_|refine cal @hIW ?_|refine cal @hA ?_)
            (apply WE_ret rfl rfl zqR)
            · exact ⟨x.pt,rfl,rfl⟩
            · exact entu0
          · have hi2:¬(pk=2∧inN pa s.hs.length=true):=fun g=>h2 ⟨g.1,by have:=g.2;unfold inN at this;have:=of_decide_eq_true this;omega⟩
            have hi3:¬(pk=0∧inN pa s.ks.length=true):=fun g=>h3 ⟨g.1,by have:=g.2;unfold inN at this;have:=of_decide_eq_true this;omega⟩
            have hi4:¬(pk=3∧inN pa s.ks.length=true):=fun g=>h4 ⟨g.1,by have:=g.2;unfold inN at this;have:=of_decide_eq_true this;omega⟩
            have eB:maPickB c s ⟨pk,pa,pb⟩=false:=by unfold maPickB;dsimp only;rw [if_neg h0,if_neg h1,if_neg hi2,if_neg hi3,if_neg hi4]
            have eS:maPick c s ⟨pk,pa,pb⟩=s:=by unfold maPick;dsimp only;rw [if_neg h0,if_neg h1,if_neg hi2,if_neg hi3,if_neg hi4]
            rw [eB,eS]
            refine FnF.mk' Tryz.func18 rfl rfl Tryz.ntmps18 rfl ?_
            refine maq_open fun hf=>?_
            by_cases k2:pk=2
            · have n2:¬(0≤pa∧pa<(x.hb.length:Int)):=fun g=>h2 ⟨k2,g⟩
              have k0:¬pk=0:=by omega
              have k3:¬pk=3:=by omega
              repeat (first|refine go ?_|intro _|refine dr_Mw5_18m ?_|refine drq ?_|refine cal @hIW ?_)
              (apply WE_ret rfl rfl zqR)
              · exact ⟨x.pt,rfl,rfl⟩
              · refine maq_same ?_ hf
                exact entu0
            · by_cases k0:pk=0
              · have n2:¬(0≤pa∧pa<(x.kb.length:Int)):=fun g=>h3 ⟨k0,g⟩
                have k3:¬pk=3:=by omega
                repeat (first|refine go ?_|intro _|refine dr_Mw5_18m ?_|refine drq ?_|refine cal @hIW ?_)
                (apply WE_ret rfl rfl zqR)
                · exact ⟨x.pt,rfl,rfl⟩
                · refine maq_same ?_ hf
                  exact entu0
              · by_cases k3:pk=3
                · have n2:¬(0≤pa∧pa<(x.kb.length:Int)):=fun g=>h4 ⟨k3,g⟩
                  repeat (first|refine go ?_|intro _|refine dr_Mw5_18m ?_|refine drq ?_|refine cal @hIW ?_)
                  (apply WE_ret rfl rfl zqR)
                  · exact ⟨x.pt,rfl,rfl⟩
                  · refine maq_same ?_ hf
                    exact entu0
                · repeat (first|refine go ?_|intro _|refine dr_Mw5_18m ?_|refine drq ?_|refine cal @hIW ?_)
                  (apply WE_ret rfl rfl zqR)
                  · exact ⟨x.pt,rfl,rfl⟩
                  · refine maq_same ?_ hf
                    exact entu0
end Go.Sx

/- What a machine tells. My own work. -/
namespace Go.Sx
open Go Go.Proofs
theorem quiet_iff {s:MaS}:maQuiet s=true↔nall s.n=[]∧(∀ i (h:i<s.ks.length),coLeft s.ks[i]=0)∧(∀ i (h:i<s.cs.length),s.cs[i].mis=[]∧s.cs[i].buf=[])∧∀ i (h:i<s.hs.length),s.hs[i].q.length=0:=by
  unfold maQuiet
  simp only [Bool.and_eq_true,decide_eq_true_eq,List.all_eq_true]
  constructor
  · rintro ⟨⟨⟨a,b⟩,c⟩,d⟩
    exact ⟨a,fun i h=>b _ (List.getElem_mem h),fun i h=>c _ (List.getElem_mem h),fun i h=>d _ (List.getElem_mem h)⟩
  · rintro ⟨a,b,c,d⟩
    refine ⟨⟨⟨a,fun k hk=>?_⟩,fun k hk=>?_⟩,fun k hk=>?_⟩
    · obtain ⟨i,hi,rfl⟩:=List.getElem_of_mem hk;exact b i hi
    · obtain ⟨i,hi,rfl⟩:=List.getElem_of_mem hk;exact c i hi
    · obtain ⟨i,hi,rfl⟩:=List.getElem_of_mem hk;exact d i hi
theorem quiet_no {s:MaS} (h:¬maQuiet s=true):maQuiet s=false:=by cases e:maQuiet s with|false=>rfl|true=>exact absurd e h
theorem FnF.lift {P:Program} {f:FuncId} {vs:List Value} {pre pre' F R:List HP} {post post':Value→List HP→Prop} (C:FnF P f vs pre (app R F) post) (hin:Ent (app pre' F) (app pre (app R F)))
    (hout:∀ v L,post v L→∃ L',post' v L'∧Ent (app L (app R F)) (app L' F)):FnF P f vs pre' F post':=
  ⟨C.enters,fun w hw=>(C.runs w (hin.sat hw)).mono fun e w' ⟨v,L,he,hp,hs⟩=>by
    obtain ⟨L',h1,h2⟩:=hout v L hp
    exact ⟨v,L',he,h1,h2.sat hs⟩⟩
section
variable {P:Program} {f:FuncId} {vs:List Value} {F:List HP} {b:Nat} {c:Cfg} {s:MaS} {x:MaX}
theorem FnF.inC2 {α:Type} {i:Nat} {u:α→Value} {X:α→HP} (hi:i<x.ab.length) (hx:MaF c s x) (C:∀ F,FnF P f vs [CaP (x.ab.getD i 0) c (i:Int) (s.cs.getD i caZ)] F (fun r L'=>∃ q,r=u q∧L'=[X q,CaP (x.ab.getD i 0) c (i:Int) (s.cs.getD i caZ)])):FnF P f vs [MaQ b c s x] F (fun r L'=>∃ q,r=u q∧L'=[X q,MaQ b c s x]):=by
  refine FnF.lift (R:=[MaQc b c s x i]) (C _) (maqc_out hi) ?_
  rintro v L ⟨q,rfl,rfl⟩
  exact ⟨_,⟨q,rfl,rfl⟩,Ent.cons (maqc_back Ent.refl hi hx.1.2.1)⟩
theorem FnF.inH {i:Nat} {u:Value} (hi:i<x.hb.length) (hx:MaF c s x) (C:∀ F,FnF P f vs [HomP (x.hb.getD i 0) c (i:Int) (s.hs.getD i hmZ)] F (fun r L'=>r=u∧L'=[HomP (x.hb.getD i 0) c (i:Int) (s.hs.getD i hmZ)])):FnF P f vs [MaQ b c s x] F (fun r L'=>r=u∧L'=[MaQ b c s x]):=by
  refine FnF.lift (R:=[MaQh b c s x i]) (C _) (maqh_out hi) ?_
  rintro v L ⟨rfl,rfl⟩
  exact ⟨_,⟨rfl,rfl⟩,maqh_back Ent.refl hi hx.1.2.2⟩
theorem FnF.inH2 {α:Type} {i:Nat} {u:α→Value} {X:α→HP} (hi:i<x.hb.length) (hx:MaF c s x) (C:∀ F,FnF P f vs [HomP (x.hb.getD i 0) c (i:Int) (s.hs.getD i hmZ)] F (fun r L'=>∃ q,r=u q∧L'=[X q,HomP (x.hb.getD i 0) c (i:Int) (s.hs.getD i hmZ)])):FnF P f vs [MaQ b c s x] F (fun r L'=>∃ q,r=u q∧L'=[X q,MaQ b c s x]):=by
  refine FnF.lift (R:=[MaQh b c s x i]) (C _) (maqh_out hi) ?_
  rintro v L ⟨q,rfl,rfl⟩
  exact ⟨_,⟨q,rfl,rfl⟩,Ent.cons (maqh_back Ent.refl hi hx.1.2.2)⟩
theorem maq_ent {L:List HP}:Ent (MaQ b c s x::L) (MaO b c s x L):=
  Ent.trans all_open (Ent.cons (Ent.cons (Ent.cons (Ent.cons (Ent.cons (Ent.cons (Ent.cons (Ent.cons (Ent.cons (Ent.drop Ent.refl))))))))))
theorem net_perm {A B C D N:HP} {L:List HP}:Ent (A::B::C::D::N::L) (N::A::B::C::D::L):=ent_perm (List.perm_middle (a:=N) (l₁:=[A,B,C,D]) (l₂:=L))
theorem net_perm' {A B C D N:HP} {L:List HP}:Ent (N::A::B::C::D::L) (A::B::C::D::N::L):=ent_perm (List.perm_middle (a:=N) (l₁:=[A,B,C,D]) (l₂:=L)).symm
def MaQn (b:Nat) (c:Cfg) (s:MaS) (x:MaX):List HP:=[Cells b 81 (mac c s.odd x.kb.length x.ab.length x.hb.length s.tr.length x.pk x.pa x.ph x.pt x.bn),
  Own 82 1 (.slice x.pk.1 x.kb.length x.pk.2) x.kb.length (flat pvc x.kb),Own 46 1 (.slice x.pa.1 x.ab.length x.pa.2) x.ab.length (flat pvc x.ab),Own 52 1 (.slice x.ph.1 x.hb.length x.ph.2) x.hb.length (flat pvc x.hb),
  Own 60 6 (.slice x.pt.1 s.tr.length x.pt.2) s.tr.length (flat cmc s.tr),All ((List.range x.kb.length).map (corH x s)),All ((List.range x.ab.length).map (cacH c x s)),All ((List.range x.hb.length).map (homH c x s))]
theorem maqn_out {L:List HP}:Ent (MaQ b c s x::L) (NetP x.bn c s.n::app (MaQn b c s x) L):=by
  refine Ent.trans maq_ent ?_
  exact net_perm
theorem maqn_in {L M:List HP} (h:Ent L (NetP x.bn c s.n::app (MaQn b c s x) M)) (hf:MaF c s x):Ent L (MaQ b c s x::M):=maq_same (Ent.trans h net_perm') hf
theorem FnF.inN {u:Value} (hx:MaF c s x) (C:∀ F,FnF P f vs [NetP x.bn c s.n] F (fun r L'=>r=u∧L'=[NetP x.bn c s.n])):FnF P f vs [MaQ b c s x] F (fun r L'=>r=u∧L'=[MaQ b c s x]):=by
  refine FnF.lift (R:=MaQn b c s x) (C _) maqn_out ?_
  rintro v L ⟨rfl,rfl⟩
  exact ⟨_,⟨rfl,rfl⟩,maqn_in Ent.refl hx⟩
theorem FnF.inN2 {α:Type} {u:α→Value} {X:α→HP} (hx:MaF c s x) (C:∀ F,FnF P f vs [NetP x.bn c s.n] F (fun r L'=>∃ q,r=u q∧L'=[X q,NetP x.bn c s.n])):FnF P f vs [MaQ b c s x] F (fun r L'=>∃ q,r=u q∧L'=[X q,MaQ b c s x]):=by
  refine FnF.lift (R:=MaQn b c s x) (C _) maqn_out ?_
  rintro v L ⟨q,rfl,rfl⟩
  exact ⟨_,⟨q,rfl,rfl⟩,Ent.cons (maqn_in Ent.refl hx)⟩
theorem FnF.opn {u:Value} (hx:MaF c s x) (C:∀ F,FnF P f vs [MaQ b c s x] F (fun r L'=>r=u∧L'=[MaQ b c s x])):FnF P f vs (MaO b c s x []) F (fun r L'=>r=u∧L'=MaO b c s x []):=by
  refine FnF.lift (R:=[]) (C _) (maq_same Ent.refl hx) ?_
  rintro v L ⟨rfl,rfl⟩
  exact ⟨_,⟨rfl,rfl⟩,maq_ent⟩
theorem FnF.opn2 {α:Type} {u:α→Value} {X:α→HP} (hx:MaF c s x) (C:∀ F,FnF P f vs [MaQ b c s x] F (fun r L'=>∃ q,r=u q∧L'=[X q,MaQ b c s x])):FnF P f vs (MaO b c s x []) F (fun r L'=>∃ q,r=u q∧L'=X q::MaO b c s x []):=by
  refine FnF.lift (R:=[]) (C _) (maq_same Ent.refl hx) ?_
  rintro v L ⟨q,rfl,rfl⟩
  exact ⟨_,⟨q,rfl,rfl⟩,Ent.cons maq_ent⟩
end
set_option maxRecDepth 100000
set_option maxHeartbeats 4000000
attribute [local irreducible] Go.Exit.then Go.Exit.inBlock Go.Code.wp WC WO WE WQ V LoopQ FnQ Sat Star band bor IntKind.wrap WR Code.rounds WT KO
section
variable {F:List HP} {b:Nat} {c:Cfg} {s:MaS} {x:MaX}
theorem mq_Misses {i:Nat} (hi:i<x.ab.length) (hx:MaF c s x):FnF Tryz.prog 25 [.pointer (some ⟨x.ab.getD i 0,0,none⟩)] [MaQ b c s x] F (fun r L'=>∃ q:Option Addr×Nat,r= .slice q.1 (s.cs.getD i caZ).mis.length q.2∧L'=[Own 182 15 (.slice q.1 (s.cs.getD i caZ).mis.length q.2) (s.cs.getD i caZ).mis.length (flat msc' (s.cs.getD i caZ).mis),MaQ b c s x]):=
  FnF.inC2 (α:=Option Addr×Nat) hi hx fun F=>(ca_Misses).mono fun r L ⟨p,q,h⟩=>⟨(p,q),h⟩
theorem mq_Written {i:Nat} (hi:i<x.ab.length) (hx:MaF c s x):FnF Tryz.prog 26 [.pointer (some ⟨x.ab.getD i 0,0,none⟩)] [MaQ b c s x] F (fun r L'=>∃ q:Option Addr×Nat,r= .slice q.1 (s.cs.getD i caZ).buf.length q.2∧L'=[Own 125 10 (.slice q.1 (s.cs.getD i caZ).buf.length q.2) (s.cs.getD i caZ).buf.length (flat bc (s.cs.getD i caZ).buf),MaQ b c s x]):=
  FnF.inC2 (α:=Option Addr×Nat) hi hx fun F=>(ca_Written).mono fun r L ⟨p,q,h⟩=>⟨(p,q),h⟩
theorem mq_Queue {i:Nat} (hi:i<x.hb.length) (hx:MaF c s x):FnF Tryz.prog 28 [.pointer (some ⟨x.hb.getD i 0,0,none⟩)] [MaQ b c s x] F (fun r L'=>∃ q:Option Addr×Nat,r= .slice q.1 (s.hs.getD i hmZ).q.length q.2∧L'=[QuL 191 (.slice q.1 (s.hs.getD i hmZ).q.length q.2) (s.hs.getD i hmZ).q,MaQ b c s x]):=
  FnF.inH2 (α:=Option Addr×Nat) hi hx fun F=>(hm_Queue).mono fun r L ⟨p,q,h⟩=>⟨(p,q),h⟩
theorem mq_HOdd {i:Nat} (hi:i<x.hb.length) (hx:MaF c s x):FnF Tryz.prog 54 [.pointer (some ⟨x.hb.getD i 0,0,none⟩)] [MaQ b c s x] F (fun r L'=>r= .int .i64 (s.hs.getD i hmZ).odd∧L'=[MaQ b c s x]):=FnF.inH hi hx fun F=>hm_Odd
theorem mq_List {k:Int} (hx:MaF c s x):FnF Tryz.prog 21 [.pointer (some ⟨x.bn,0,none⟩),.int .i64 k] [MaQ b c s x] F (fun r L'=>∃ q:Option Addr×Nat,r= .slice q.1 (nget s.n k).length q.2∧L'=[Own 99 15 (.slice q.1 (nget s.n k).length q.2) (nget s.n k).length (flat mc (nget s.n k)),MaQ b c s x]):=
  FnF.inN2 (α:=Option Addr×Nat) hx fun F=>(net_List).mono fun r L ⟨p,q,h⟩=>⟨(p,q),h⟩
theorem mq_Empty (hx:MaF c s x):FnF Tryz.prog 62 [.pointer (some ⟨x.bn,0,none⟩)] [MaQ b c s x] F (fun r L'=>r= .bool (decide (nall s.n=[]))∧L'=[MaQ b c s x]):=FnF.inN hx fun F=>net_Empty
theorem ma_Net (hx:MaF c s x):FnF Tryz.prog 20 [.pointer (some ⟨b,0,none⟩)] [MaQ b c s x] F (fun r L'=>r= .pointer (some ⟨x.bn,0,none⟩)∧L'=[MaQ b c s x]):=by
  refine FnF.mk' Tryz.func20 rfl rfl Tryz.ntmps20 rfl ?_
  refine maq_open fun hf=>?_
  repeat (first|refine gd ?_|intro _)
  (apply WE_ret rfl rfl zqR)
  · exact ⟨rfl,rfl⟩
  · refine maq_same ?_ hf
    exact entu0
theorem ma_Left {i:Nat} (hi:i<x.kb.length) (hx:MaF c s x):FnF Tryz.prog 29 [.pointer (some ⟨b,0,none⟩),.int .i64 i] [MaQ b c s x] F (fun r L'=>r= .int .i64 (coLeft (s.ks.getD i coZ))∧L'=[MaQ b c s { x with pt:=x.pt}]):=by
  obtain ⟨⟨f1,f2,f3⟩,⟨f4,f5,f6⟩,f7⟩:=id hx
  have hg:=pv_get hi
  have h0:0≤(i:Int)∧(i:Int)<x.kb.length:=by omega
  have h1:¬¬(0≤(i:Int)∧(i:Int)<x.kb.length):=fun h=>h h0
  have hL:=fun F=>core_Left (F:=F) (b:=x.kb[i]) (l:=(s.ks.getD i coZ).l) (rs:=(s.ks.getD i coZ).rs) (tr:=(s.ks.getD i coZ).tr)
  have eS:s=⟨s.ks.set i (s.ks.getD i coZ),s.cs.set i (s.cs.getD i caZ),s.hs,s.n,s.tr,s.odd⟩:=by rw [set_getD,set_getD]
  have hE:∀ L M,Ent L (MaQ b c ⟨s.ks.set i (s.ks.getD i coZ),s.cs.set i (s.cs.getD i caZ),s.hs,s.n,s.tr,s.odd⟩ { x with pt:=x.pt}::M)→Ent L (MaQ b c s { x with pt:=x.pt}::M):=fun L M h=>by rw [←eS] at h;exact h
  refine FnF.mk' Tryz.func29 rfl rfl Tryz.ntmps29 rfl ?_
  refine maoi_open hi (by omega) fun hf=>?_
  repeat (first|refine gd ?_|intro _|refine cal @ma_within ?_|refine cal @hL ?_)
  (apply WE_ret rfl rfl zqR)
  · exact ⟨rfl,rfl⟩
  · refine hE _ _ ?_
    (apply maoi_in;(focus (exact entu0));all_goals exact zqS)
theorem sl_Clone_com {F:List HP} {v:Value} {n:Nat} {xs:List Value} (k:RdL F 6 v n xs) (hn:n≤1099511627776):FnF Tryz.prog 57 [v] [] F (fun r L'=>∃ p c,r= .slice p n c∧L'=[Own 60 6 (.slice p n c) n xs]):=by
  refine FnF.mk' Tryz.func57 rfl rfl Tryz.ntmps57 rfl ?_
  refine WC_rd (v:=v) k fun q1 q2 p c0 e q3=>?_
  subst e
  cases p with
  |none=>
   obtain rfl:=q3 rfl
   obtain rfl:xs=[]:=List.eq_nil_of_length_eq_zero (by simpa using q1)
   repeat (first|refine gd ?_|intro _)
   (apply WE_ret rfl rfl zqR)
   · exact ⟨_,_,rfl,rfl⟩
   · exact own_empty Ent.refl
  |some a=>
   repeat (first|refine gd ?_|intro _)
   simp only [Nat.zero_add,List.nil_append]
   (apply WE_ret rfl rfl zqR)
   · exact ⟨_,_,rfl,rfl⟩
   · exact Ent.refl
theorem ma_Trace (hx:MaF c s x) (ht:s.tr.length≤1000000000000):FnF Tryz.prog 22 [.pointer (some ⟨b,0,none⟩)] [MaQ b c s x] F (fun r L'=>∃ q:Option Addr×Nat,r= .slice q.1 s.tr.length q.2∧L'=[Own 60 6 (.slice q.1 s.tr.length q.2) s.tr.length (flat cmc s.tr),MaQ b c s x]):=by
  refine FnF.mk' Tryz.func22 rfl rfl Tryz.ntmps22 rfl ?_
  refine maq_open fun hf=>?_
  repeat (first|refine gd ?_|intro _|refine cal @sl_Clone_com ?_)
  rename_i p1 c1
  (apply WE_ret rfl rfl zqR)
  · exact ⟨(p1,c1),rfl,rfl⟩
  · refine Ent.cons (maq_same ?_ hf)
    exact entu0
theorem ma_Odd (hx:MaF c s x) (h0:s.odd=0) (h1:∀ y∈s.hs,y.odd=0):FnF Tryz.prog 19 [.pointer (some ⟨b,0,none⟩)] [MaQ b c s x] F (fun r L'=>r= .int .i64 0∧L'=[MaQ b c s x]):=by
  obtain ⟨⟨f1,f2,f3⟩,⟨f4,f5,f6⟩,f7⟩:=id hx
  have hh:=cfg_homes f7
  refine FnF.mk' Tryz.func19 rfl rfl Tryz.ntmps19 rfl ?_
  refine maq_open fun hf=>?_
  repeat (first|refine gd ?_|intro _)
  apply WC_loopE (E0:=[(13,_),(14,_)]) (fun E0 (i:Nat)=>(15,.int .i64 i)::(3,.int .i64 s.odd)::E0) (fun _=>MaO b c s x F) (fun i=>i≤x.hb.length) (fun i=>x.hb.length-i) 0
  · exact zqU
  · exact Nat.zero_le _
  · exact entu0
  · rintro i hi
    by_cases hlt:i<x.hb.length
    · have hg:=pv_get hlt
      have ho:(s.hs.getD i hmZ).odd=0:=getD_all (P:=fun y:HomS=>y.odd=0) h1 rfl
      have hO:=fun F=>FnF.opn (F:=F) hx fun F=>mq_HOdd (F:=F) (b:=b) (c:=c) (s:=s) (x:=x) hlt hx
      simp only [ho,getD_nat hlt] at hO
      repeat (first|refine gd ?_|intro _|refine cal @hO ?_)
      simp only [Int.add_zero]
      refine WE_loop (i+1) (by omega) (by omega) ?_ ?_
      · exact zqU
      · exact entu0
    · repeat (first|refine gd ?_|intro _)
      (apply WE_ret rfl rfl zqR)
      · exact ⟨congrArg (Value.int .i64) h0,rfl⟩
      · refine maq_same ?_ hf
        exact entu0
theorem ma_Quiet (hx:MaF c s x) (hk0:∀ k∈s.ks,k.rs.length≤k.l.length∧k.l.length≤64):FnF Tryz.prog 30 [.pointer (some ⟨b,0,none⟩)] [MaQ b c s x] F (fun r L'=>r= .bool (maQuiet s)∧L'=[MaQ b c s x]):=by
  obtain ⟨⟨f1,f2,f3⟩,⟨f4,f5,f6⟩,f7⟩:=id hx
  have hh:=cfg_homes f7
  have hcc:=(check_facts f7).1
  have hEm:=fun F=>FnF.opn (F:=F) hx fun F=>mq_Empty (F:=F) (b:=b) (c:=c) (s:=s) (x:=x) hx
  refine FnF.mk' Tryz.func30 rfl rfl Tryz.ntmps30 rfl ?_
  refine maq_open fun hf=>?_
  repeat (first|refine gd ?_|intro _)
  apply WC_scope (P:=Tryz.prog) (l:=0) (fun _:Unit=>[]) (fun _=>[]) (fun _=>False) (by rfl)
  · repeat (first|refine gd ?_|intro _|refine cal @hEm ?_)
    refine WC_label ?_
    repeat (first|refine gd ?_|intro _)
    have hq0:(if decide (nall s.n=[])=true then nall s.n=[] else maQuiet s=false):=by
      by_cases h:nall s.n=[]
      · rw [decide_eq_true h];exact h
      · rw [decide_eq_false h];exact quiet_no fun g=>h (quiet_iff.1 g).1
    generalize decide (nall s.n=[])=q0 at hq0 ⊢
    apply WC_loopE (E0:=[(0,_)]) (fun E0 (q:Bool)=>(3,.bool q)::E0) (fun _=>MaO b c s x F) (fun q=>if q=true then nall s.n=[] else maQuiet s=false) (fun q=>if q=true then 1 else 0) q0
    · exact zqU
    · exact hq0
    · exact entu0
    · intro q hq
      cases q with
      |false=>
       have hq':maQuiet s=false:=by simpa using hq
       repeat (first|refine gd ?_|intro _)
       refine WE_jump_ret ?_
       rw [hq']
       repeat (first|refine gd ?_|intro _)
       (apply WE_ret rfl rfl zqR)
       · exact ⟨rfl,rfl⟩
       · refine maq_same ?_ hf
         exact entu0
      |true=>
       have hq':nall s.n=[]:=by simpa using hq
       repeat (first|refine gd ?_|intro _)
       apply WC_loopE (E0:=[(0,_),(3,_),(17,_),(18,_)]) (fun E0 (i:Nat)=>(19,.int .i64 i)::E0) (fun _=>MaO b c s x F) (fun i=>i≤x.ab.length∧∀ j (h1:j<s.ks.length) (h2:j<s.cs.length),j<i→coLeft s.ks[j]=0∧s.cs[j].mis=[]∧s.cs[j].buf=[]) (fun i=>x.ab.length-i) 0
       · exact zqU
       · exact ⟨Nat.zero_le _,fun j _ _ h=>absurd h (Nat.not_lt_zero _)⟩
       · exact entu0
       · rintro i ⟨hi,hno⟩
         by_cases hlt:i<x.ab.length
         · have hlk:i<x.kb.length:=by omega
           have hg:=pv_get hlt
           have gk:s.ks.getD i coZ=s.ks[i]:=by rw [List.getD_eq_getElem?_getD,List.getElem?_eq_getElem (by omega)];rfl
           have ga:s.cs.getD i caZ=s.cs[i]:=by rw [List.getD_eq_getElem?_getD,List.getElem?_eq_getElem (by omega)];rfl
           have hLf:=fun F=>FnF.opn (F:=F) hx fun F=>ma_Left (F:=F) (b:=b) (c:=c) (s:=s) (x:=x) hlk hx
           have hMi:=fun F=>FnF.opn2 (F:=F) hx fun F=>mq_Misses (F:=F) (b:=b) (c:=c) (s:=s) (x:=x) hlt hx
           have hWr:=fun F=>FnF.opn2 (F:=F) hx fun F=>mq_Written (F:=F) (b:=b) (c:=c) (s:=s) (x:=x) hlt hx
           simp only [getD_nat hlt] at hMi hWr
           have hkb:=hk0 s.ks[i] (List.getElem_mem (by omega))
           have hcl:0≤coLeft (s.ks.getD i coZ):=by rw [gk];unfold coLeft;omega
           by_cases hA:coLeft (s.ks.getD i coZ)>0
           · have hqf:maQuiet s=false:=quiet_no fun g=>by have:=(quiet_iff.1 g).2.1 i (by omega);rw [←gk] at this;omega
             repeat (first|refine gd ?_|intro _|refine cal @hLf ?_|refine cal @hMi ?_|refine cal @hWr ?_)
             refine WE_loop false (by decide) (by simpa using hqf) ?_ ?_
             · exact zqU
             · exact entu0
           · by_cases hB:(s.cs.getD i caZ).mis.length>0
             · have hqf:maQuiet s=false:=quiet_no fun g=>by have:=((quiet_iff.1 g).2.2.1 i (by omega)).1;rw [←ga] at this;rw [this] at hB;exact absurd hB (by decide)
               have hB':(((s.cs.getD i caZ).mis.length:Nat):Int)>0:=by omega
               repeat (first|refine gd ?_|intro _|refine cal @hLf ?_|refine cal @hMi ?_|refine cal @hWr ?_)
               refine WE_loop false (by decide) (by simpa using hqf) ?_ ?_
               · exact zqU
               · exact entu0
             · have hB':¬(((s.cs.getD i caZ).mis.length:Nat):Int)>0:=by omega
               by_cases hC:(s.cs.getD i caZ).buf.length>0
               · have hqf:maQuiet s=false:=quiet_no fun g=>by have:=((quiet_iff.1 g).2.2.1 i (by omega)).2;rw [←ga] at this;rw [this] at hC;exact absurd hC (by decide)
                 have hC':(((s.cs.getD i caZ).buf.length:Nat):Int)>0:=by omega
                 repeat (first|refine gd ?_|intro _|refine cal @hLf ?_|refine cal @hMi ?_|refine cal @hWr ?_)
                 refine WE_loop false (by decide) (by simpa using hqf) ?_ ?_
                 · exact zqU
                 · exact entu0
               · have hC':¬(((s.cs.getD i caZ).buf.length:Nat):Int)>0:=by omega
                 have hno2:i+1≤x.ab.length∧∀ j (h1:j<s.ks.length) (h2:j<s.cs.length),j<i+1→coLeft s.ks[j]=0∧s.cs[j].mis=[]∧s.cs[j].buf=[]:=by
                   refine ⟨by omega,fun j h1 h2 hji=>?_⟩
                   by_cases e:j=i
                   · subst e
                     rw [←gk,←ga]
                     exact ⟨by omega,List.length_eq_zero_iff.1 (by omega),List.length_eq_zero_iff.1 (by omega)⟩
                   · exact hno j h1 h2 (by omega)
                 repeat (first|refine gd ?_|intro _|refine cal @hLf ?_|refine cal @hMi ?_|refine cal @hWr ?_)
                 refine WE_loop (i+1) (by omega) hno2 ?_ ?_
                 · exact zqU
                 · exact entu0
         · repeat (first|refine gd ?_|intro _)
           apply WC_loopE (E0:=[(0,_),(3,_),(44,_),(45,_)]) (fun E0 (i:Nat)=>(46,.int .i64 i)::E0) (fun _=>MaO b c s x F) (fun i=>i≤x.hb.length∧∀ j (h1:j<s.hs.length),j<i→s.hs[j].q.length=0) (fun i=>x.hb.length-i) 0
           · exact zqU
           · exact ⟨Nat.zero_le _,fun j _ h=>absurd h (Nat.not_lt_zero _)⟩
           · exact entu0
           · rintro k ⟨hk,hnh⟩
             by_cases hlh:k<x.hb.length
             · have hg:=pv_get hlh
               have gh:s.hs.getD k hmZ=s.hs[k]:=by rw [List.getD_eq_getElem?_getD,List.getElem?_eq_getElem (by omega)];rfl
               have hQu:=fun F=>FnF.opn2 (F:=F) hx fun F=>mq_Queue (F:=F) (b:=b) (c:=c) (s:=s) (x:=x) hlh hx
               simp only [getD_nat hlh] at hQu
               by_cases hD:(((s.hs.getD k hmZ).q.length:Nat):Int)>0
               · have hqf:maQuiet s=false:=quiet_no fun g=>by have:=(quiet_iff.1 g).2.2.2 k (by omega);rw [←gh] at this;omega
                 repeat (first|refine gd ?_|intro _|refine cal @hQu ?_)
                 refine WE_loop false (by decide) (by simpa using hqf) ?_ ?_
                 · exact zqU
                 · exact entu0
               · have hnh2:k+1≤x.hb.length∧∀ j (h1:j<s.hs.length),j<k+1→s.hs[j].q.length=0:=by
                   refine ⟨by omega,fun j h1 hji=>?_⟩
                   by_cases e:j=k
                   · subst e;rw [←gh];omega
                   · exact hnh j h1 (by omega)
                 repeat (first|refine gd ?_|intro _|refine cal @hQu ?_)
                 refine WE_loop (k+1) (by omega) hnh2 ?_ ?_
                 · exact zqU
                 · exact entu0
             · have hqt:maQuiet s=true:=quiet_iff.2 ⟨hq',fun j h=>(hno j h (by omega) (by omega)).1,fun j h=>(hno j (by omega) h (by omega)).2,fun j h=>hnh j h (by omega)⟩
               repeat (first|refine gd ?_|intro _)
               refine WE_jump_ret ?_
               rw [hqt]
               repeat (first|refine gd ?_|intro _)
               (apply WE_ret rfl rfl zqR)
               · exact ⟨rfl,rfl⟩
               · refine maq_same ?_ hf
                 exact entu0
  · intro _ h
    exact absurd h id
end
end Go.Sx

/- The laws of machines: what they ask first. My own work. -/
namespace Go.Sx
open Go Go.Proofs
abbrev pkc (p:Pk):List Value:=[.int .i64 p.kind,.int .i64 p.a,.int .i64 p.b]
def Pk.wf (p:Pk):Prop:=I64 p.kind∧I64 p.a∧I64 p.b
abbrev c18:Cfg:=⟨1,1,1,1,1,2,0,1,1,1,1,1,1⟩
abbrev oW5:Op3:=⟨3,1,5⟩
abbrev oR1:Op3:=⟨1,1,0⟩
abbrev s18:MaS:=maNew c18 [[oW5,oR1]]
abbrev l18:List Pk:=[⟨0,0,0⟩,⟨1,0,0⟩,⟨2,0,0⟩,⟨2,0,0⟩,⟨1,2,0⟩,⟨0,0,0⟩,⟨1,2,0⟩,⟨0,0,0⟩,⟨0,0,0⟩]
def s18n (i:Nat):MaS:=maPicks c18 s18 (l18.take i)
theorem ms_tr {c:Cfg} {n:Nat} {s:MaS} (h:MaL c n s) (p:Pk):(maPick c s p).tr.length≤s.tr.length+1:=by
  rcases ms_pick h p with g|⟨i,v,_,_,_,g⟩
  · have:(maPick c s p).tr=s.tr:=congrArg Prod.snd g
    rw [this];omega
  · have:(maPick c s p).tr=(maCom s i (coOp (maK s i)) v).tr:=congrArg Prod.snd g
    rw [this]
    show (s.tr++[_]).length≤_
    rw [List.length_append,List.length_singleton];omega
theorem picks_tr {c:Cfg} {n:Nat} {s:MaS} (h:MaL c n s) (l:List Pk):(maPicks c s l).tr.length≤s.tr.length+l.length:=by
  unfold maPicks
  induction l generalizing n s with
  |nil=>exact Nat.le_refl _
  |cons p l ih=>
   rw [List.foldl_cons,List.length_cons]
   have:=ih (h.pick p)
   have:=ms_tr h p
   omega
theorem ok18:maOk c18 [[oW5,oR1]]=true:=by decide +kernel
theorem l18n (i:Nat):MaL c18 (0+(l18.take i).length) (s18n i):=(MaL.new ok18).picks _
theorem take18 (i:Nat):(l18.take i).length≤9:=by rw [List.length_take];exact Nat.min_le_right _ _
theorem t18n (i:Nat):(s18n i).tr.length≤9:=by
  have:(maPicks c18 s18 (l18.take i)).tr.length≤s18.tr.length+(l18.take i).length:=picks_tr (MaL.new ok18) (l18.take i)
  have h2:=take18 i
  have e:s18.tr.length=0:=rfl
  show (maPicks c18 s18 (l18.take i)).tr.length≤9
  omega
theorem b18:∀ i,i<9→maPickB c18 (s18n i) (l18.getD i ⟨0,0,0⟩)=decide (i≠8):=by decide +kernel
theorem n18 (i:Nat) (hi:i<9):maPick c18 (s18n i) (l18.getD i ⟨0,0,0⟩)=s18n (i+1):=by
  unfold s18n
  have e:l18.getD i ⟨0,0,0⟩=l18[i]'hi:=by rw [List.getD_eq_getElem?_getD,List.getElem?_eq_getElem hi];rfl
  rw [maPicks_succ hi,e]
theorem tr18a:(s18n 5).tr=[⟨0,0,oW5,0⟩]:=by kernel_rfl
theorem tr18b:(s18n 9).tr=[⟨0,0,oW5,0⟩,⟨0,1,oR1,5⟩]:=by kernel_rfl
theorem w18 (i:Nat) (hi:i<9):I64 (l18.getD i ⟨0,0,0⟩).kind∧I64 (l18.getD i ⟨0,0,0⟩).a∧I64 (l18.getD i ⟨0,0,0⟩).b:=by
  have:i=0∨i=1∨i=2∨i=3∨i=4∨i=5∨i=6∨i=7∨i=8:=by omega
  rcases this with rfl|rfl|rfl|rfl|rfl|rfl|rfl|rfl|rfl<;>(unfold I64;decide)
theorem cel_rds {g n c sz:Nat} {T:TypeId} {l:List Value} {L:List HP} (hl:l.length=n*sz) (h1:l.all one=true):Ent (Cells g T l::L) (Rds sz (.slice (some ⟨g,0,none⟩) n c) n l::L):=fun h ⟨S,U,d,hp,hL⟩=>
  ⟨S,U,d,⟨hl,h1,.inr ⟨g,0,c,l.toArray,T,rfl,hp.pf,fun j u hu=>by simpa using hu⟩⟩,hL⟩
abbrev p18 (g1:Nat):List PrQ:=[([oW5,oR1],(some ⟨g1,0,none⟩,2))]
theorem rdpr18 {L:List HP} {g1:Nat} [k1:RdL L 3 (.slice (some ⟨g1,0,none⟩) 2 2) 2 (flat oc [oW5,oR1])]:RdPr L (p18 g1):=⟨fun p hp=>by
  rcases List.mem_cons.1 hp with rfl|hp
  · exact k1
  · cases hp⟩
theorem no18:maOk c18 []=false:=by decide
theorem q18:maQuiet (s18n 5)=false∧maQuiet (s18n 9)=true:=by decide +kernel
theorem o18:(s18n 9).odd=0∧∀ y∈(s18n 9).hs,y.odd=0:=by decide +kernel
theorem e18:coLeft ((s18n 9).ks.getD 0 coZ)=0:=by decide +kernel
theorem k18 (i:Nat):∀ k∈(s18n i).ks,k.rs.length≤k.l.length∧k.l.length≤64:=fun k hk=>⟨((l18n i).kp k hk).2,prog_len ((l18n i).kp k hk).1⟩
set_option maxRecDepth 100000
set_option maxHeartbeats 4000000
attribute [local irreducible] Go.Exit.then Go.Exit.inBlock Go.Code.wp WC WO WE WQ V LoopQ FnQ Sat Star band bor IntKind.wrap WR Code.rounds WT KO
section
variable {F:List HP} {b:Nat} {c:Cfg} {s:MaS} {x:MaX}
theorem ma_Cache_no {i:Int} (hi:¬(0≤i∧i<(x.ab.length:Int))):FnF Tryz.prog 24 [.pointer (some ⟨b,0,none⟩),.int .i64 i] [MaQ b c s x] F (fun r L'=>r= .pointer none∧L'=[MaQ b c s x]):=by
  refine FnF.mk' Tryz.func24 rfl rfl Tryz.ntmps24 rfl ?_
  refine maq_open fun hf=>?_
  repeat (first|refine gd ?_|intro _|refine cal @ma_within ?_)
  (apply WE_ret rfl rfl zqR)
  · exact ⟨rfl,rfl⟩
  · refine maq_same ?_ hf
    exact entu0
theorem ma_Home_no {i:Int} (hi:¬(0≤i∧i<(x.hb.length:Int))):FnF Tryz.prog 27 [.pointer (some ⟨b,0,none⟩),.int .i64 i] [MaQ b c s x] F (fun r L'=>r= .pointer none∧L'=[MaQ b c s x]):=by
  refine FnF.mk' Tryz.func27 rfl rfl Tryz.ntmps27 rfl ?_
  refine maq_open fun hf=>?_
  repeat (first|refine gd ?_|intro _|refine cal @ma_within ?_)
  (apply WE_ret rfl rfl zqR)
  · exact ⟨rfl,rfl⟩
  · refine maq_same ?_ hf
    exact entu0
end
theorem pick18 {F:List HP} {b:Nat} {x:MaX} {i:Nat} (hi:i<9) (hx:MaF c18 (s18n i) x):FnF Tryz.prog 18 [.pointer (some ⟨b,0,none⟩),pkv (l18.getD i ⟨0,0,0⟩)] [MaQ b c18 (s18n i) x] F
    (fun r L'=>∃ pt:Option Addr×Nat,r= .bool (decide (i≠8))∧L'=[MaQ b c18 (s18n (i+1)) { x with pt:=pt}]):=by
  have h:=ma_Pick (F:=F) (b:=b) (c:=c18) (s:=s18n i) (x:=x) (p:=l18.getD i ⟨0,0,0⟩) (cfg_wf' (by decide)) (l18n i) (by have:=take18 i;omega) (by have:=t18n i;omega) (w18 i hi) hx
  rw [b18 i hi,n18 i hi] at h
  exact h
theorem law18_awake {F:List HP}:FnF Tryz.prog 15 [] [] F (fun r L'=>r= .bool true∧L'=[]):=by
  have hw:c18.wf:=cfg_wf' (by decide)
  refine FnF.mk' Tryz.func15 rfl rfl Tryz.ntmps15 rfl ?_
  repeat (first|refine gd ?_|intro _)
  rename_i b1 g1 g2
  (first|refine WO_ent (Ent.trans (cel_rds (n:=1) (c:=1) (sz:=1) rfl rfl) (Ent.cons (cel_rds (n:=2) (c:=2) (sz:=3) rfl rfl))) ?_|refine WC_ent' (Ent.trans (cel_rds (n:=1) (c:=1) (sz:=1) rfl rfl) (Ent.cons (cel_rds (n:=2) (c:=2) (sz:=3) rfl rfl))) ?_|refine WE_ent' (Ent.trans (cel_rds (n:=1) (c:=1) (sz:=1) rfl rfl) (Ent.cons (cel_rds (n:=2) (c:=2) (sz:=3) rfl rfl))) ?_)
  have hN:∀ F,RdL F 1 (.slice (some ⟨g2,0,none⟩) 1 1) 1 (flat prc (p18 g1))→RdL F 3 (.slice (some ⟨g1,0,none⟩) 2 2) 2 (flat oc [oW5,oR1])→FnF Tryz.prog 17 [c18.val,.slice (some ⟨g2,0,none⟩) 1 1] [] F (fun r L'=>∃ b,r= .tuple [.pointer (some ⟨b,0,none⟩),.int .i64 0].toArray∧L'=[MaP b c18 (s18n 0)]):=fun F k2 k1=>ma_New (F:=F) (ps:=p18 g1) hw k2 rdpr18 ok18
  have hN0:=fun F=>ma_New_no (F:=F) (v:= .slice none 0 0) (ps:=[]) hw rd_empty ⟨fun p hp=>by cases hp⟩ (fun p hp=>by cases hp) no18
  repeat (first|refine gd ?_|intro _|refine cal @hN ?_|refine cal @hN0 ?_)
  rename_i bm
  (first|refine WO_front (MaP bm c18 (s18n 0)) ?_|refine WC_front (MaP bm c18 (s18n 0)) ?_|refine WE_front (MaP bm c18 (s18n 0)) ?_)
  refine map_openO fun x=>?_
  refine maq_factO fun hx=>?_
  have hab:x.ab.length=1:=by have:=hx.2.1.2.1;have e:c18.cores=1:=rfl;omega
  have hkb:x.kb.length=1:=by have:=hx.2.1.1;have e:c18.cores=1:=rfl;omega
  have hhb:x.hb.length=1:=by have:=hx.2.1.2.2;have e:c18.homes=1:=rfl;omega
  have hNe:=fun F=>ma_Net (F:=F) (b:=bm) hx
  have hC0:∀ F,FnF Tryz.prog 24 [.pointer (some ⟨bm,0,none⟩),.int .i64 0] [MaQ bm c18 (s18n 0) x] F (fun r L'=>r= .pointer (some ⟨x.ab.getD 0 0,0,none⟩)∧L'=[MaQ bm c18 (s18n 0) x]):=fun F=>ma_Cache (F:=F) (i:=0) (by omega)
  have hH0:∀ F,FnF Tryz.prog 27 [.pointer (some ⟨bm,0,none⟩),.int .i64 0] [MaQ bm c18 (s18n 0) x] F (fun r L'=>r= .pointer (some ⟨x.hb.getD 0 0,0,none⟩)∧L'=[MaQ bm c18 (s18n 0) x]):=fun F=>ma_Home (F:=F) (i:=0) (by omega)
  repeat (first|refine gd ?_|intro _|refine cal @hNe ?_|refine cal @hC0 ?_|refine cal @hH0 ?_)
  apply WC_loopE (E0:=[(2,_),(3,_),(5,_),(53,_)]) (fun E0 (q:Nat×(Option Addr×Nat))=>(54,.int .i64 q.1)::E0) (fun q=>MaQ bm c18 (s18n q.1) { x with pt:=q.2}::F) (fun q=>q.1≤5) (fun q=>5-q.1) (0,x.pt)
  · exact zqU
  · exact Nat.zero_le _
  · exact entu0
  · rintro ⟨i,pt⟩ hi
    dsimp only at hi ⊢
    by_cases hlt:i<5
    · (first|refine WO_front (MaQ bm c18 (s18n i) { x with pt:=pt}) ?_|refine WC_front (MaQ bm c18 (s18n i) { x with pt:=pt}) ?_|refine WE_front (MaQ bm c18 (s18n i) { x with pt:=pt}) ?_)
      refine maq_fact fun hx2=>?_
      have hP:=fun F=>pick18 (F:=F) (b:=bm) (i:=i) (by omega) hx2
      rw [decide_eq_true (show i≠8 by omega)] at hP
      have hcase:i=0∨i=1∨i=2∨i=3∨i=4:=by omega
      rcases hcase with rfl|rfl|rfl|rfl|rfl
      · repeat (first|refine gd ?_|intro _|refine cal @hP ?_)
        rename_i pt2
        refine WE_loop (1,pt2) (by dsimp only;omega) (by dsimp only;omega) ?_ ?_
        · exact zqU
        · exact entu0
      · repeat (first|refine gd ?_|intro _|refine cal @hP ?_)
        rename_i pt2
        refine WE_loop (2,pt2) (by dsimp only;omega) (by dsimp only;omega) ?_ ?_
        · exact zqU
        · exact entu0
      · repeat (first|refine gd ?_|intro _|refine cal @hP ?_)
        rename_i pt2
        refine WE_loop (3,pt2) (by dsimp only;omega) (by dsimp only;omega) ?_ ?_
        · exact zqU
        · exact entu0
      · repeat (first|refine gd ?_|intro _|refine cal @hP ?_)
        rename_i pt2
        refine WE_loop (4,pt2) (by dsimp only;omega) (by dsimp only;omega) ?_ ?_
        · exact zqU
        · exact entu0
      · repeat (first|refine gd ?_|intro _|refine cal @hP ?_)
        rename_i pt2
        refine WE_loop (5,pt2) (by dsimp only;omega) (by dsimp only;omega) ?_ ?_
        · exact zqU
        · exact entu0
    · have hi5:i=5:=by omega
      subst hi5
      have hF:∀ k pt,MaF c18 (s18n k) { x with pt:=pt}:=fun k pt=>by
        have h1:=(l18n k).lk
        have h2:=(l18n k).la
        have h3:=(l18n k).lh
        have e:c18.cores=1:=rfl
        have e2:c18.homes=1:=rfl
        exact ⟨⟨by show _=x.kb.length;omega,by show _=x.ab.length;omega,by show _=x.hb.length;omega⟩,hx.2⟩
      have hT5:=fun F pt=>ma_Trace (F:=F) (b:=bm) (hF 5 pt) (by have:=t18n 5;omega)
      have hT9:=fun F pt=>ma_Trace (F:=F) (b:=bm) (hF 9 pt) (by have:=t18n 9;omega)
      have hQ5:=fun F pt=>ma_Quiet (F:=F) (b:=bm) (hF 5 pt) (k18 5)
      have hQ9:=fun F pt=>ma_Quiet (F:=F) (b:=bm) (hF 9 pt) (k18 9)
      have hP5:=fun F pt=>pick18 (F:=F) (b:=bm) (i:=5) (by decide) (hF 5 pt)
      have hP6:=fun F pt=>pick18 (F:=F) (b:=bm) (i:=6) (by decide) (hF 6 pt)
      have hP7:=fun F pt=>pick18 (F:=F) (b:=bm) (i:=7) (by decide) (hF 7 pt)
      have hP8:=fun F pt=>pick18 (F:=F) (b:=bm) (i:=8) (by decide) (hF 8 pt)
      have hO9:=fun F pt=>ma_Odd (F:=F) (b:=bm) (hF 9 pt) o18.1 o18.2
      have hL9:∀ F pt,FnF Tryz.prog 29 [.pointer (some ⟨bm,0,none⟩),.int .i64 0] [MaQ bm c18 (s18n 9) { x with pt:=pt}] F (fun r L'=>r= .int .i64 0∧L'=[MaQ bm c18 (s18n 9) { x with pt:=pt}]):=fun F pt=>by
        have:=ma_Left (F:=F) (b:=bm) (i:=0) (x:={ x with pt:=pt}) (s:=s18n 9) (c:=c18) (by show 0<x.kb.length;omega) (hF 9 pt)
        rw [e18] at this
        exact this
      have hC1:=fun F pt=>ma_Cache_no (F:=F) (b:=bm) (c:=c18) (s:=s18n 9) (x:={ x with pt:=pt}) (i:=1) (by show ¬(_∧(1:Int)<(x.ab.length:Int));omega)
      have hH1:=fun F pt=>ma_Home_no (F:=F) (b:=bm) (c:=c18) (s:=s18n 9) (x:={ x with pt:=pt}) (i:= -1) (by omega)
      have h5:([⟨0,0,oW5,0⟩]:List Com)[Int.toNat 0]? =some ⟨0,0,oW5,0⟩:=rfl
      have h9:([⟨0,0,oW5,0⟩,⟨0,1,oR1,5⟩]:List Com)[Int.toNat 1]? =some ⟨0,1,oR1,5⟩:=rfl
      simp only [tr18a,List.length_cons,List.length_nil,Nat.zero_add,Nat.reduceAdd] at hT5
      simp only [tr18b,List.length_cons,List.length_nil,Nat.zero_add,Nat.reduceAdd] at hT9
      simp only [q18] at hQ5 hQ9
      repeat (first|refine gd ?_|intro _|refine cal @hT5 ?_|refine cal @hQ5 ?_|refine cal @hP5 ?_|refine cal @hP6 ?_|refine cal @hP7 ?_|refine cal @hP8 ?_|refine cal @hT9 ?_|refine cal @hQ9 ?_|refine cal @hO9 ?_|refine cal @hL9 ?_|refine cal @hC1 ?_|refine cal @hH1 ?_)
      exact fin0
end Go.Sx
