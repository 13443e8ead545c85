/- Hom3, Hom4, Fk, Fw: several of my texts as one. My own work. -/
import Derived.Test.YtjihlpjnebdiiaaGreatZr
import Derived.Test.YtjihlpjnebdiiaaGreatZak
import Derived.Test.YtjihlpjnebdiiaaGreatZaj
set_option linter.unusedVariables false
set_option linter.unusedSectionVars false
set_option linter.unusedSimpArgs false
/- What homes do: a request's start, and what can be done for one. The program's functions. My own work. -/
namespace Go.Sx
open Go Go.Proofs
set_option maxRecDepth 100000
set_option maxHeartbeats 4000000
attribute [local irreducible] Go.Exit.then Go.Exit.inBlock Go.Code.wp WC WO WE WQ V LoopQ FnQ Sat Star band bor IntKind.wrap WR Code.rounds WT KO
theorem dr_Hom3_148m {Q P:Prop} (k:Q) (h:Hid Q→P:=by
  intro k
  first
  |(refine is_draw ?_;apply WC_mix (id:=1) (.only [11]) _ (pl:= .p 0 <| .p 1 <| .p 2 <| .p 4 <| .r 3 <| .r 5 <| .e true [(6,.p 7 <| .p 8 <| .p 9 <| .e true [(10,.e true [(11,.n [] <| .p 12 <| .done)])]),(10,.e true [(6,.p 7 <| .p 8 <| .p 9 <| .e true [(11,.n [] <| .p 12 <| .done)])])]);exact mixed;kernel_rfl;kernel_rfl;exact Ent.refl;exact k.out)
  |(refine is_draw ?_;apply WC_mix (id:=2) (.only [14]) _ (pl:= .p 0 <| .p 1 <| .p 2 <| .p 4 <| .r 3 <| .r 5 <| .r 6 <| .r 7 <| .r 8 <| .e true [(9,.p 10 <| .p 11 <| .p 12 <| .e true [(13,.e true [(14,.n [] <| .p 15 <| .done)])]),(13,.e true [(9,.p 10 <| .p 11 <| .p 12 <| .e true [(14,.n [] <| .p 15 <| .done)])])]);exact mixed;kernel_rfl;kernel_rfl;exact Ent.refl;exact k.out)
  |(refine is_draw ?_;apply WC_mix (id:=5) (.only [7]) _ (pl:= .p 0 <| .p 1 <| .p 2 <| .p 4 <| .r 3 <| .r 5 <| .e true [(6,.e true [(7,.n [] <| .done)])]);exact mixed;kernel_rfl;kernel_rfl;exact Ent.refl;exact k.out)
  |(refine is_draw ?_;apply WC_mix (id:=7) (.only [8]) _ (pl:= .p 0 <| .p 1 <| .p 2 <| .p 4 <| .p 6 <| .r 3 <| .r 5 <| .r 7 <| .e true [(8,.n [] <| .done)]);exact mixed;kernel_rfl;kernel_rfl;exact Ent.refl;exact k.out)
  |(refine is_draw ?_;apply WC_mix (id:=8) (.only [7]) _ (pl:= .p 0 <| .p 1 <| .p 2 <| .p 4 <| .p 5 <| .r 3 <| .r 6 <| .e true [(7,.n [] <| .done)]);exact mixed;kernel_rfl;kernel_rfl;exact Ent.refl;exact k.out)
  |(refine is_draw ?_;apply WC_mix (id:=11) (.only [8]) _ (pl:= .p 0 <| .p 1 <| .p 2 <| .p 4 <| .p 6 <| .r 3 <| .r 5 <| .r 7 <| .e true [(8,.n [] <| .done)]);exact mixed;kernel_rfl;kernel_rfl;exact Ent.refl;exact k.out)
  |(refine is_draw ?_;apply WC_mix (id:=9) .true _ (pl:= .p 0 <| .p 1 <| .p 2 <| .p 4 <| .p 6 <| .r 3 <| .r 5 <| .r 7 <| .e true [(8,.done)]);exact mixed;kernel_rfl;kernel_rfl;exact Ent.refl;exact k.out)):P:=h ⟨k⟩
theorem hm_start {F:List HP} {b:Nat} {c:Cfg} {num:Int} {s:HomS} {n:Int} (h:HmI c num s) (hr:qready s.q n=true) (ho:0≤s.odd∧s.odd≤1000000000000) :
    FnF Tryz.prog 148 [.pointer (some ⟨b,0,none⟩),.int .i64 n,mv (hmX s n)] [HomP b c num s] F (fun r L'=>r= .tuple [].toArray∧L'=[HomP b c num (hmStartS c s n)]):=by
  have hc:=cfg_wf' h.ok
  obtain ⟨i,hi,en,ea,es0,_⟩:=qready_t hr
  have hmine:mineB c num (hmX s n) 0=true:=by
    unfold hmX;rw [ea];exact h.req _ (List.getElem_mem hi)
  obtain ⟨f1,f2,f3,f4,f5⟩:=mine_facts h.ok hmine
  obtain ⟨g1,g2,g3,_⟩:=hmEnt_own h f3
  have hs:shMay (hmEnt s (hmX s n).line).s=true:=by simp only [mayT,Bool.and_eq_true] at g2;exact g2.1.1
  have hb9:(hmEnt s (hmX s n).line).s.ps.length≤1000:=by have:=may_facts' hs;omega
  have hlb:=(cfg_bnd h.ok).2.2.2
  have hl:I64 (hmX s n).line:=by have:=f3.2.1;have:=f3.1;unfold I64;omega
  have hcs:=nextE_cases h hmine
  have hodd:=fun hk=>odd_out (m:=hmX s n) hr rfl hk
  obtain ⟨es,ms,q,odd⟩:=s
  generalize hX:hmX ⟨es,ms,q,odd⟩ n=m at *
  generalize hEn:hmEnt ⟨es,ms,q,odd⟩ m.line=en at *
  have hL:=fun F b=>mem_Line (F:=F) (b:=b) (c:=c) (ms:=ms) hc hl
  have hW:=fun F b=>mem_Write (F:=F) (b:=b) (c:=c) (ms:=ms) (w:=m.words) hc hl
  refine FnF.mk' Tryz.func148 rfl rfl Tryz.ntmps148 rfl ?_
  refine hm_open fun bm be bq ps he=>?_
  dsimp only at he g1 ho hr hodd ⊢
  subst he
  obtain ⟨⟨en',a,k⟩,hp,rfl⟩:∃ x:HRd,mget ps m.line=some x∧x.1=en:=by
    rw [hes_get] at g1
    cases e:mget ps m.line with
    |none=>rw [e] at g1;cases g1
    |some x=>rw [e] at g1;exact ⟨x,rfl,by cases g1;rfl⟩
  dsimp only at *
  haveI kr:=fun L=>rd_hrs_some hp L
  have hN:=fun F (hk:RdL F 1 (.slice a en'.s.ps.length k) en'.s.ps.length (flat ic en'.s.ps))=>tab_Next (F:=F) (e:=en') (a:=a) (k:=k) (m:=m) (w:=lineWo c ms m.line) hk hb9
  rcases hcs with ⟨c1,c2,c3⟩|c1
  · have e1:hmStartS c ⟨hes ps,ms,q,odd⟩ n=⟨hes ps,ms,q.eraseIdx n.toNat,odd+1⟩:=by
      unfold hmStartS;rw [hX,hEn,if_neg (by omega)];rfl
    rw [e1,←hodd (by omega)]
    simp only [c1] at hN
    have hS:=fun F u (k:RdL F 15 u 1 (mc m))=>qu_Start (F:=F) (b:=bq) (room:=c.buffer) (l:=q) (n:=n) (u:=u) (s:=[m]) k (by simp)
    repeat' (first|refine go ?_|intro _|refine dr_Hom3_148m ?_|refine drq ?_|refine cal @hL ?_|refine spl ?_ ?_|fail)
    all_goals (simp only [hp,Option.getD_some])
    all_goals (repeat' (first|refine go ?_|intro _|refine dr_Hom3_148m ?_|refine drq ?_|refine cal @hN ?_|refine cal @hS ?_|refine cal @qu_Sent ?_|refine cal @qu_Finish ?_|refine spl ?_ ?_|fail))
    all_goals (apply WE_ret rfl rfl zqR)
    all_goals first
    |exact ⟨rfl,rfl⟩
    |exact enx @hm_in
  · have e1:hmStartS c ⟨hes ps,ms,q,odd⟩ n=⟨mset (hes ps) m.line (nextT en' m),if nextW en' m then wrL c ms m.line m.words else ms,qstartL q n (nextS en' m (lineWo c ms m.line)),odd⟩:=by
      unfold hmStartS hmTurnS;rw [hX,hEn,if_pos c1]
    have hsl:=(sent_facts (w:=lineWo c ms m.line) c1).2.1
    rw [e1]
    simp only [c1] at hN
    have hS:=fun F u (k:RdL F 15 u (nextS en' m (lineWo c ms m.line)).length (flat mc (nextS en' m (lineWo c ms m.line))))=>qu_Start (F:=F) (b:=bq) (room:=c.buffer) (l:=q) (n:=n) (u:=u) k hsl
    cases hw:nextW en' m with
    |true=>
     simp only [hw] at hN
     rw [if_pos rfl]
     repeat' (first|refine go ?_|intro _|refine dr_Hom3_148m ?_|refine drq ?_|refine cal @hL ?_|refine spl ?_ ?_|fail)
     all_goals (simp only [hp,Option.getD_some])
     all_goals (repeat' (first|refine go ?_|intro _|refine dr_Hom3_148m ?_|refine drq ?_|refine cal @hN ?_|refine cal @hS ?_|refine spl ?_ ?_|fail))
     all_goals (apply WT_k;rfl;exact zqI;exact K_mapUpdateT (xv:=(nextT en' m,_,_)) rfl rfl rfl inferInstance rfl;refine same_intro ?_)
     all_goals (repeat' (first|refine go ?_|intro _|refine dr_Hom3_148m ?_|refine drq ?_|refine cal @hW ?_|refine spl ?_ ?_|fail))
     all_goals (apply WE_ret rfl rfl zqR)
     all_goals first
     |exact ⟨rfl,rfl⟩
     |(((repeat (first|(with_reducible exact Ent.refl)|exact Ent.nil|(apply ent_pickE;exact zqP)|(apply hm_in)|(apply hrs_put)|apply Ent.drop));all_goals (first|rfl|(with_reducible assumption)|(simp [hes_mset];done)|(simp [hes_mset];omega)|omega|(constructor<;>(simp [hes_mset])<;>omega))))
    |false=>
     simp only [hw] at hN
     rw [if_neg (by simp)]
     repeat' (first|refine go ?_|intro _|refine dr_Hom3_148m ?_|refine drq ?_|refine cal @hL ?_|refine spl ?_ ?_|fail)
     all_goals (simp only [hp,Option.getD_some])
     all_goals (repeat' (first|refine go ?_|intro _|refine dr_Hom3_148m ?_|refine drq ?_|refine cal @hN ?_|refine cal @hS ?_|refine spl ?_ ?_|fail))
     all_goals (apply WT_k;rfl;exact zqI;exact K_mapUpdateT (xv:=(nextT en' m,_,_)) rfl rfl rfl inferInstance rfl;refine same_intro ?_)
     all_goals (repeat' (first|refine go ?_|intro _|refine dr_Hom3_148m ?_|refine drq ?_|refine cal @hW ?_|refine spl ?_ ?_|fail))
     all_goals (apply WE_ret rfl rfl zqR)
     all_goals first
     |exact ⟨rfl,rfl⟩
     |(((repeat (first|(with_reducible exact Ent.refl)|exact Ent.nil|(apply ent_pickE;exact zqP)|(apply hm_in)|(apply hrs_put)|apply Ent.drop));all_goals (first|rfl|(with_reducible assumption)|(simp [hes_mset];done)|(simp [hes_mset];omega)|omega|(constructor<;>(simp [hes_mset])<;>omega))))
end Go.Sx

/- What homes do: what can be done for one. The program's. My own work. -/
namespace Go.Sx
open Go Go.Proofs
theorem hm_quf {b:Nat} {c:Cfg} {num:Int} {s:HomS} {L:List HP} {w:World} (h:Sat (HomP b c num s::L) w):(s.q.length:Int)≤c.buffer∧c.buffer≤16∧∀ x∈s.q,x.sends.length≤1000:=by
  obtain ⟨bm,be,bq,ps,he,hx⟩:=hm_sat h
  obtain ⟨p,c0,qs,⟨h0,h1,h2,h3,_⟩,_⟩:=qu_sat (sat_tail (sat_tail (sat_tail (sat_tail hx))))
  rw [←h0]
  refine ⟨by simpa using h1,h2,fun x hx=>?_⟩
  obtain ⟨y,hy,rfl⟩:=List.mem_map.1 hx
  exact (h3 y hy).2
theorem WC_hmf {b:Nat} {c:Cfg} {num:Int} {s:HomS} {P:Program} {N:Nat} {co:Code} {env:Env} {L:List HP} {Q:Exit→Act→World→Prop}
    (h:(s.q.length:Int)≤c.buffer∧c.buffer≤16∧(∀ x∈s.q,x.sends.length≤1000)→WC P N co env (HomP b c num s::L) Q):WC P N co env (HomP b c num s::L) Q:=fun a w ha hw=>h (hm_quf hw) a w ha hw
theorem qready_in {q:List QE} {n:Int} (h:qready q n=true):qin q n=true:=by
  simp only [qready,Bool.and_eq_true] at h;exact h.1.1
theorem qat_mem {q:List QE} {n:Int} (h:qin q n=true):qat q n∈q:=by
  obtain ⟨i,hi,_,e⟩:=qin_t h
  rw [e];exact List.getElem_mem hi
theorem next_kind {c:Cfg} {num:Int} {s:HomS} {n:Int} (h:HmI c num s) (hn:qnextB s.q n=true):qnextM s.q n∈(qat s.q n).sends∧(4≤(qnextM s.q n).kind∧(qnextM s.q n).kind≤10)∧(qnextM s.q n).line=(qat s.q n).m.line∧(qnextM s.q n).src=num:=by
  have hb:=hn
  simp only [qnextB,Bool.and_eq_true,decide_eq_true_eq] at hb
  have hm:=qat_mem hb.1
  have e:qnextM s.q n=(qat s.q n).sends.headD .zero:=by unfold qnextM;rw [if_pos hn]
  have hmem:qnextM s.q n∈(qat s.q n).sends:=by
    rw [e]
    cases hs:(qat s.q n).sends with
    |nil=>rw [hs] at hb;exact absurd rfl hb.2
    |cons a r=>simp
  exact ⟨hmem,h.snd _ hm _ hmem⟩
theorem net_12 {k:Int} (h:4≤k∧k≤10):netK k=1∨netK k=2:=by
  unfold netK
  rw [if_neg (by omega)]
  split
  · exact .inl rfl
  · rw [if_pos (by omega)];exact .inr rfl
set_option maxRecDepth 100000
set_option maxHeartbeats 4000000
attribute [local irreducible] Go.Exit.then Go.Exit.inBlock Go.Code.wp WC WO WE WQ V LoopQ FnQ Sat Star band bor IntKind.wrap WR Code.rounds WT KO
theorem hm_Work {F:List HP} {b:Nat} {c:Cfg} {num:Int} {s:HomS} {n:Int} {l:L3} (h:HmI c num s) (ho:0≤s.odd∧s.odd≤1000000000000) :
    FnF Tryz.prog 107 [.pointer (some ⟨b,0,none⟩),.int .i64 n,.agg (l3c l).toArray] [HomP b c num s] F
      (fun r L'=>r= .tuple [mv (hmWorkM s n l),.bool (hmWorkB s n l),.bool (hmDid s n l)].toArray∧L'=[HomP b c num (hmWorkS c s n l)]):=by
  refine FnF.mk' Tryz.func107 rfl rfl Tryz.ntmps107 rfl ?_
  refine WC_hmf fun hf=>?_
  obtain ⟨_,_,hf⟩:=hf
  cases hr:qready s.q n with
  |true=>
   have hin:=qready_in hr
   have hG:=fun F bq=>qu_Get (F:=F) (b:=bq) (room:=c.buffer) hin (by have:=hf _ (qat_mem hin);omega)
   have hR:=fun F bq=>qu_Ready (F:=F) (b:=bq) (room:=c.buffer) (l:=s.q) (n:=n)
   simp only [hr] at hR
   have hS:=fun F=>hm_start (F:=F) (b:=b) h hr ho
   have e1:hmWorkM s n l= .zero:=by simp [hmWorkM,hr]
   have e2:hmWorkB s n l=false:=by simp [hmWorkB,hr]
   have e3:hmDid s n l=true:=by simp [hmDid,hr]
   have e4:hmWorkS c s n l=hmStartS c s n:=by simp [hmWorkS,hr]
   rw [e1,e2,e3,e4]
   simp only [hmX] at hS
   obtain ⟨es,ms,q,odd⟩:=s
   refine hm_open fun bm be bq ps he=>?_
   dsimp only at *
   subst he
   repeat (first|refine gd ?_|intro _|refine cal @hG ?_|refine cal @hR ?_)
   ((first|apply WO_ent (L':=(HomP b c num ⟨hes ps,ms,q,odd⟩)::_)|apply WC_ent' (L':=(HomP b c num ⟨hes ps,ms,q,odd⟩)::_)|apply WE_ent' (L':=(HomP b c num ⟨hes ps,ms,q,odd⟩)::_)|apply WT_ent' (L':=(HomP b c num ⟨hes ps,ms,q,odd⟩)::_));(focus (apply hm_in;(focus (exact entu0));all_goals exact zqS)))
   repeat (first|refine gd ?_|intro _|refine cal @hS ?_)
   exact fin0
  |false=>
   have hR:=fun F bq=>qu_Ready (F:=F) (b:=bq) (room:=c.buffer) (l:=s.q) (n:=n)
   simp only [hr] at hR
   have hX:=fun F bq=>qu_Next (F:=F) (b:=bq) (room:=c.buffer) (l:=s.q) (n:=n)
   cases hin:qin s.q n with
   |false=>
    have hG:=fun F bq=>qu_Get_no (F:=F) (b:=bq) (room:=c.buffer) hin
    have hb:qnextB s.q n=false:=by simp [qnextB,hin]
    have hg:hmGoes s n l=false:=by simp [hmGoes,hb]
    have e1:hmWorkM s n l= .zero:=by simp [hmWorkM,hr,hg]
    have e2:hmWorkB s n l=false:=by simp [hmWorkB,hr,hg]
    have e3:hmDid s n l=false:=by simp [hmDid,hr,hg]
    have e4:hmWorkS c s n l=s:=by simp [hmWorkS,hr,hg]
    rw [e1,e2,e3,e4]
    simp only [hb] at hX
    obtain ⟨es,ms,q,odd⟩:=s
    refine hm_open fun bm be bq ps he=>?_
    dsimp only at *
    repeat (first|refine gd ?_|intro _|refine cal @hG ?_|refine cal @hR ?_|refine cal @hX ?_)
    (apply WE_ret rfl rfl zqR)
    · exact ⟨rfl,rfl⟩
    · exact enx @hm_in
   |true=>
    have hG:=fun F bq=>qu_Get (F:=F) (b:=bq) (room:=c.buffer) hin (by have:=hf _ (qat_mem hin);omega)
    cases hb:qnextB s.q n with
    |false=>
     have hg:hmGoes s n l=false:=by simp [hmGoes,hb]
     have e1:hmWorkM s n l= .zero:=by simp [hmWorkM,hr,hg]
     have e2:hmWorkB s n l=false:=by simp [hmWorkB,hr,hg]
     have e3:hmDid s n l=false:=by simp [hmDid,hr,hg]
     have e4:hmWorkS c s n l=s:=by simp [hmWorkS,hr,hg]
     rw [e1,e2,e3,e4]
     simp only [hb] at hX
     obtain ⟨es,ms,q,odd⟩:=s
     refine hm_open fun bm be bq ps he=>?_
     dsimp only at *
     repeat (first|refine gd ?_|intro _|refine cal @hG ?_|refine cal @hR ?_|refine cal @hX ?_)
     (apply WE_ret rfl rfl zqR)
     · exact ⟨rfl,rfl⟩
     · exact enx @hm_in
    |true=>
     have hk:=next_kind h hb
     have hSe:=fun F bq=>qu_Sent (F:=F) (b:=bq) (room:=c.buffer) (l:=s.q) (n:=n)
     have hN:=fun F=>msg_Net (F:=F) (k:=(qnextM s.q n).kind)
     rcases net_12 hk.2.1 with hn|hn
     · simp only [hn] at hN
       have hgd:hmGoes s n l=decide (0<l.2.1):=by simp [hmGoes,hb,hn,l3at]
       by_cases hl:0<l.2.1
       · have hg:hmGoes s n l=true:=by rw [hgd];exact decide_eq_true hl
         have e1:hmWorkM s n l=qnextM s.q n:=by simp [hmWorkM,hr,hg]
         have e2:hmWorkB s n l=true:=by simp [hmWorkB,hr,hg]
         have e3:hmDid s n l=true:=by simp [hmDid,hr,hg]
         have e4:hmWorkS c s n l={ s with q:=qsentL s.q n}:=by simp [hmWorkS,hr,hg]
         rw [e1,e2,e3,e4]
         simp only [hb] at hX
         obtain ⟨es,ms,q,odd⟩:=s
         refine hm_open fun bm be bq ps he=>?_
         dsimp only at *
         repeat (first|refine gd ?_|intro _|refine cal @hG ?_|refine cal @hR ?_|refine cal @hX ?_|refine cal @hN ?_|refine cal @hSe ?_)
         (apply WE_ret rfl rfl zqR)
         · exact ⟨rfl,rfl⟩
         · exact enx @hm_in
       · have hg:hmGoes s n l=false:=by rw [hgd];exact decide_eq_false hl
         have e1:hmWorkM s n l= .zero:=by simp [hmWorkM,hr,hg]
         have e2:hmWorkB s n l=false:=by simp [hmWorkB,hr,hg]
         have e3:hmDid s n l=false:=by simp [hmDid,hr,hg]
         have e4:hmWorkS c s n l=s:=by simp [hmWorkS,hr,hg]
         rw [e1,e2,e3,e4]
         simp only [hb] at hX
         obtain ⟨es,ms,q,odd⟩:=s
         refine hm_open fun bm be bq ps he=>?_
         dsimp only at *
         repeat (first|refine gd ?_|intro _|refine cal @hG ?_|refine cal @hR ?_|refine cal @hX ?_|refine cal @hN ?_)
         (apply WE_ret rfl rfl zqR)
         · exact ⟨rfl,rfl⟩
         · exact enx @hm_in
     · simp only [hn] at hN
       have hgd:hmGoes s n l=decide (0<l.2.2):=by simp [hmGoes,hb,hn,l3at]
       by_cases hl:0<l.2.2
       · have hg:hmGoes s n l=true:=by rw [hgd];exact decide_eq_true hl
         have e1:hmWorkM s n l=qnextM s.q n:=by simp [hmWorkM,hr,hg]
         have e2:hmWorkB s n l=true:=by simp [hmWorkB,hr,hg]
         have e3:hmDid s n l=true:=by simp [hmDid,hr,hg]
         have e4:hmWorkS c s n l={ s with q:=qsentL s.q n}:=by simp [hmWorkS,hr,hg]
         rw [e1,e2,e3,e4]
         simp only [hb] at hX
         obtain ⟨es,ms,q,odd⟩:=s
         refine hm_open fun bm be bq ps he=>?_
         dsimp only at *
         repeat (first|refine gd ?_|intro _|refine cal @hG ?_|refine cal @hR ?_|refine cal @hX ?_|refine cal @hN ?_|refine cal @hSe ?_)
         (apply WE_ret rfl rfl zqR)
         · exact ⟨rfl,rfl⟩
         · exact enx @hm_in
       · have hg:hmGoes s n l=false:=by rw [hgd];exact decide_eq_false hl
         have e1:hmWorkM s n l= .zero:=by simp [hmWorkM,hr,hg]
         have e2:hmWorkB s n l=false:=by simp [hmWorkB,hr,hg]
         have e3:hmDid s n l=false:=by simp [hmDid,hr,hg]
         have e4:hmWorkS c s n l=s:=by simp [hmWorkS,hr,hg]
         rw [e1,e2,e3,e4]
         simp only [hb] at hX
         obtain ⟨es,ms,q,odd⟩:=s
         refine hm_open fun bm be bq ps he=>?_
         dsimp only at *
         repeat (first|refine gd ?_|intro _|refine cal @hG ?_|refine cal @hR ?_|refine cal @hX ?_|refine cal @hN ?_)
         (apply WE_ret rfl rfl zqR)
         · exact ⟨rfl,rfl⟩
         · exact enx @hm_in
end Go.Sx

/- Lists, looked up by a key. My own work. -/
namespace Go.Sx
open Go Go.Proofs
section
variable {α:Type}
def fk (f:α→Int) (l:List α) (x:Int):Option α:=l.find? fun a=>decide (f a=x)
theorem fk_nil (f:α→Int) (x:Int):fk f [] x=none:=rfl
theorem fk_cons (f:α→Int) (a:α) (l:List α) (x:Int):fk f (a::l) x=if f a=x then some a else fk f l x:=by
  unfold fk;rw [List.find?_cons];split<;>simp_all
theorem fk_app (f:α→Int) (l m:List α) (x:Int):fk f (l++m) x=(fk f l x).or (fk f m x):=by unfold fk;exact List.find?_append
theorem fk_none {f:α→Int} {l:List α} {x:Int}:fk f l x=none↔∀ a∈l,f a≠x:=by unfold fk;simp
theorem fk_some {f:α→Int} {l:List α} {x:Int} {a:α} (h:fk f l x=some a):a∈l∧f a=x:=by
  unfold fk at h
  exact ⟨List.mem_of_find?_eq_some h,by simpa using List.find?_some h⟩
theorem l_cut {l:List α} {i:Nat} (hi:i<l.length):l=l.take i++l[i]::l.drop (i+1)∧(∀ x,l.set i x=l.take i++x::l.drop (i+1))∧l.eraseIdx i=l.take i++l.drop (i+1):=by
  refine ⟨?_,fun x=>?_,List.eraseIdx_eq_take_drop_succ l i⟩
  · rw [←List.drop_eq_getElem_cons hi,List.take_append_drop]
  · rw [List.set_eq_take_append_cons_drop,if_pos hi]
theorem fk_first {f:α→Int} {l:List α} {i:Nat} (hi:i<l.length) (h:∀ j (hj:j<l.length),j<i→f l[j]≠f l[i]):fk f (l.take i) (f l[i])=none:=by
  rw [fk_none]
  intro a ha
  obtain ⟨j,hj,rfl⟩:=List.getElem_of_mem ha
  rw [List.getElem_take]
  exact h j (by simp at hj;omega) (by simp at hj;omega)
theorem fk_get {f:α→Int} {l:List α} {i:Nat} (hi:i<l.length) (h:∀ j (hj:j<l.length),j<i→f l[j]≠f l[i]):fk f l (f l[i])=some l[i]:=by
  have e:=congrArg (fun m=>fk f m (f l[i])) (l_cut hi).1
  rw [e,fk_app,fk_cons,fk_first hi h,if_pos rfl]
  rfl
theorem fk_set {f:α→Int} {l:List α} {i:Nat} {a:α} (hi:i<l.length) (ha:f a=f l[i]) (h:∀ j (hj:j<l.length),j<i→f l[j]≠f l[i]) (x:Int):fk f (l.set i a) x=if x=f l[i] then some a else fk f l x:=by
  obtain ⟨e,e2,_⟩:=l_cut hi
  have h1:=fk_first hi h
  rw [e2,fk_app,fk_cons]
  by_cases hx:x=f l[i]
  · rw [if_pos hx,hx,h1,if_pos ha];rfl
  · rw [if_neg hx,if_neg (fun g=>hx (by rw [←g,ha]))]
    have h3:fk f l x=fk f (l.take i++l[i]::l.drop (i+1)) x:=congrArg (fun m=>fk f m x) e
    rw [h3,fk_app,fk_cons,if_neg (Ne.symm hx)]
theorem fk_erase {f:α→Int} {l:List α} {i:Nat} (hi:i<l.length) (hn:(l.map f).Nodup) (x:Int):fk f (l.eraseIdx i) x=if x=f l[i] then none else fk f l x:=by
  obtain ⟨e,_,e3⟩:=l_cut hi
  rw [e3,fk_app]
  by_cases hx:x=f l[i]
  · rw [if_pos hx,←fk_app,←e3,fk_none]
    intro a ha g
    have h1:x∈(l.eraseIdx i).map f:=List.mem_map.2 ⟨a,ha,g⟩
    rw [er_map] at h1
    have h2:=(nodup_erase hn (i:=i) (by simpa using hi) x).1 h1
    rw [List.getElem_map] at h2
    exact h2.2 hx
  · rw [if_neg hx]
    have h3:fk f l x=fk f (l.take i++l[i]::l.drop (i+1)) x:=congrArg (fun m=>fk f m x) e
    rw [h3,fk_app,fk_cons,if_neg (Ne.symm hx)]
theorem fk_pos {f:α→Int} {l:List α} {x:Int} (h:0≤indexBy (fun a=>decide (f a=x)) l):∃ i,∃ hi:i<l.length,indexBy (fun a=>decide (f a=x)) l=i∧f l[i]=x∧∀ j (hj:j<l.length),j<i→f l[j]≠f l[i]:=by
  obtain ⟨i,hi,e,h1,h2⟩:=indexBy_nat h
  have h1':f l[i]=x:=by simpa using h1
  exact ⟨i,hi,e,h1',fun j hj hji=>by rw [h1'];simpa using h2 j hj hji⟩
theorem fk_neg {f:α→Int} {l:List α} {x:Int} (h:¬0≤indexBy (fun a=>decide (f a=x)) l):fk f l x=none:=by
  rw [fk_none]
  intro a ha
  have:=(indexBy_neg (p:=fun a=>decide (f a=x)) (l:=l) (by omega)).2 a ha
  simpa using this
end
end Go.Sx

/- What each thing that a cache does makes of a line's state, miss and buffer. My own work. -/
namespace Go.Sx
open Go Go.Proofs
section
variable {c:Cfg} {l:List Way} {line:Int}
def fst' (c:Cfg) (l:List Way) (x:Int):Int:=(findW c l x).st
def fwd' (c:Cfg) (l:List Way) (x:Int):Words:=(findW c l x).words
theorem fst_vw (x:Int):fst' c l x=((vw c l x).map (·.st)).getD 0:=by unfold fst';rw [vw_findW];cases vw c l x<;>rfl
theorem fwd_vw (x:Int):fwd' c l x=((vw c l x).map (·.words)).getD .zero:=by unfold fwd';rw [vw_findW];cases vw c l x<;>rfl
theorem fw_lock {lk:Bool} (hI:ArrInv c l) (x:Int):fst' c (lockL c l line lk) x=fst' c l x∧(fst' c l x≠0→fwd' c (lockL c l line lk) x=fwd' c l x):=by
  rw [fst_vw,fst_vw,fwd_vw,fwd_vw,vw_lock hI]
  by_cases hx:x=line
  · subst hx
    rw [if_pos rfl]
    cases e:vw c l x with
    |none=>exact ⟨rfl,fun _=>rfl⟩
    |some y=>
     dsimp only
     split
     · exact ⟨rfl,fun _=>rfl⟩
     · rename_i g
       have:y.st=0:=Decidable.byContradiction fun h=>g (.inr h)
       exact ⟨this.symm,fun h=>absurd this h⟩
  · rw [if_neg hx];exact ⟨rfl,fun _=>rfl⟩
theorem fw_lay (hI:ArrInv c l) (hf:¬arrFree c l line<0) (hno:vw c l line=none) (x:Int):fst' c (layL c l line (arrFree c l line)) x=fst' c l x∧fwd' c (layL c l line (arrFree c l line)) x=fwd' c l x:=by
  rw [fst_vw,fst_vw,fwd_vw,fwd_vw,vw_lay hI hf hno]
  by_cases hx:x=line
  · subst hx;rw [if_pos rfl,hno];exact ⟨rfl,rfl⟩
  · rw [if_neg hx];exact ⟨rfl,rfl⟩
theorem fw_set {st:Int} {w:Words} (hI:ArrInv c l) (h:setE c l line st w=0) (x:Int):fst' c (setL c l line st w) x=(if x=line then st else fst' c l x)∧(fst' c (setL c l line st w) x≠0→fwd' c (setL c l line st w) x=if x=line then w else fwd' c l x):=by
  rw [fst_vw,fst_vw,fwd_vw,fwd_vw,vw_set hI]
  by_cases hx:x=line
  · subst hx
    rw [if_pos ⟨rfl,h⟩,if_pos rfl]
    obtain ⟨⟨y,hy⟩,_⟩:=setE_ok h
    rw [hy]
    dsimp only
    split
    · refine ⟨rfl,fun g=>?_⟩
      have:st≠0:=g
      show (if st=0 then Words.zero else w)=_
      rw [if_neg this,if_pos rfl]
    · rename_i g
      have:st=0:=Decidable.byContradiction fun h=>g (.inr h)
      exact ⟨this.symm,fun h=>absurd rfl h⟩
  · rw [if_neg (fun h=>hx h.1),if_neg hx];exact ⟨rfl,fun _=>by rw [if_neg hx]⟩
theorem fst_there (h:fst' c l line≠0):∃ y,vw c l line=some y∧y.st=fst' c l line∧y.words=fwd' c l line:=by
  rw [fst_vw] at h ⊢
  rw [fwd_vw]
  cases e:vw c l line with
  |none=>rw [e] at h;exact absurd rfl h
  |some y=>exact ⟨y,rfl,rfl,rfl⟩
theorem setE_mk {st:Int} {w:Words} (h1:(vw c l line).isSome=true) (h2:0≤st∧st≤4) (h3:oddW c w=false):setE c l line st w=0:=by
  rw [setE_vw]
  cases e:vw c l line with
  |none=>rw [e] at h1;cases h1
  |some y=>
   rw [if_neg (by simp),if_neg]
   rintro (g|g|g)
   · omega
   · omega
   · rw [h3] at g;cases g
theorem vals_odd {w:Words} (h:ValsP c w):oddW c w=false:=by
  unfold oddW
  refine decide_eq_false ?_
  intro g
  obtain ⟨i,hi,e,h1,h2⟩:=indexBy_nat g
  rw [List.getElem_drop] at h1
  have hl:c.words.toNat+i<8:=by
    rw [List.length_drop] at hi
    have:w.list.length=8:=rfl
    omega
  have:=h (c.words.toNat+i) hl
  unfold OkAt Words.at at this
  have hg:w.list.getD (c.words.toNat+i) 0=w.list[c.words.toNat+i]'(by show _<8;exact hl):=by
    rw [List.getD_eq_getElem?_getD,List.getElem?_eq_getElem (by show _<8;exact hl)];rfl
  rw [hg] at this
  have h3:=this.2.2 (by omega)
  simp [h3] at h1
end
end Go.Sx
