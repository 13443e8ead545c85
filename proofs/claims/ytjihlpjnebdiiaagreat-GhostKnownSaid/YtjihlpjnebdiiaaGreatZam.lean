/- Hom3, Hom4: several of my texts as one. My own work. -/
import Derived.Test.YtjihlpjnebdiiaaGreatZal
set_option linter.unusedVariables false
set_option linter.unusedSectionVars false
set_option linter.unusedSimpArgs false
set_option maxRecDepth 100000
set_option maxHeartbeats 4000000
namespace Go.Sx
open Go Go.Proofs
section
attribute [local irreducible] Exit.then Exit.inBlock Code.wp WC WO WE WQ V bF tV d3 bW dF uH IntKind.wrap WR Code.rounds WT KO
theorem fS {Q P:Prop} (k:Q) (h:Hid Q→P:=by
  intro k
  first
  |(refine aG ?_;refine q9 (id:=1) (.only [11]) (pl:= .p 0 <| .p 1 <| .p 2 <| .p 4 <| .r 3 <| .r 5 <| .e true [(6,.p 7 <| .p 8 <| .p 9 <| .e true [(10,.e true [(11,.n [] <| .p 12 <| .done)])]),(10,.e true [(6,.p 7 <| .p 8 <| .p 9 <| .e true [(11,.n [] <| .p 12 <| .done)])])]) k.out)
  |(refine aG ?_;refine q9 (id:=2) (.only [14]) (pl:= .p 0 <| .p 1 <| .p 2 <| .p 4 <| .r 3 <| .r 5 <| .r 6 <| .r 7 <| .r 8 <| .e true [(9,.p 10 <| .p 11 <| .p 12 <| .e true [(13,.e true [(14,.n [] <| .p 15 <| .done)])]),(13,.e true [(9,.p 10 <| .p 11 <| .p 12 <| .e true [(14,.n [] <| .p 15 <| .done)])])]) k.out)
  |(refine aG ?_;refine q9 (id:=5) (.only [7]) (pl:= .p 0 <| .p 1 <| .p 2 <| .p 4 <| .r 3 <| .r 5 <| .e true [(6,.e true [(7,.n [] <| .done)])]) k.out)
  |(refine aG ?_;refine q9 (id:=7) (.only [8]) (pl:= .p 0 <| .p 1 <| .p 2 <| .p 4 <| .p 6 <| .r 3 <| .r 5 <| .r 7 <| .e true [(8,.n [] <| .done)]) k.out)
  |(refine aG ?_;refine q9 (id:=8) (.only [7]) (pl:= .p 0 <| .p 1 <| .p 2 <| .p 4 <| .p 5 <| .r 3 <| .r 6 <| .e true [(7,.n [] <| .done)]) k.out)
  |(refine aG ?_;refine q9 (id:=11) (.only [8]) (pl:= .p 0 <| .p 1 <| .p 2 <| .p 4 <| .p 6 <| .r 3 <| .r 5 <| .r 7 <| .e true [(8,.n [] <| .done)]) k.out)
  |(refine aG ?_;refine q9 (id:=9) .true (pl:= .p 0 <| .p 1 <| .p 2 <| .p 4 <| .p 6 <| .r 3 <| .r 5 <| .r 7 <| .e true [(8,.done)]) k.out)):P:=h ⟨k⟩
theorem d0w {F:List HP} {b:Nat} {c:Cfg} {num:Int} {s:HomS} {n:Int} (h:HmI c num s) (hr:eJ s.q n=true) (ho:0≤s.odd∧s.odd≤1000000000000) :
    FnF Tryz.prog 148 [.pointer (some ⟨b,0,none⟩),.int .i64 n,mv (a1f s n)] [iV b c num s] F (fun r L'=>r= .tuple [].toArray∧L'=[iV b c num (kO c s n)]):=by
  have hc:=b3d h.ok
  obtain ⟨i,hi,en,ea,es0,_⟩:=zM hr
  have hmine:mB c num (a1f s n) 0=true:=by
    unfold a1f;rw [ea];exact h.req _ (List.getElem_mem hi)
  obtain ⟨f1,f2,f3,f4,f5⟩:=jI h.ok hmine
  obtain ⟨g1,g2,g3,_⟩:=rN h f3
  have hs:c7 (aJ s (a1f s n).line).s=true:=by simp only [rE,Bool.and_eq_true] at g2;exact g2.1.1
  have hb9:(aJ s (a1f s n).line).s.ps.length≤1000:=by have:=dB hs;omega
  have hlb:=(iE h.ok).2.2.2
  have hl:kP (a1f s n).line:=by have:=f3.2.1;have:=f3.1;unfold kP;omega
  have hcs:=a2j h hmine
  have hodd:=fun hk=>e0j (m:=a1f s n) hr rfl hk
  obtain ⟨es,ms,q,odd⟩:=s
  generalize hX:a1f ⟨es,ms,q,odd⟩ n=m at *
  generalize hEn:aJ ⟨es,ms,q,odd⟩ m.line=en at *
  have hL:=fun F b=>b8s (F:=F) (b:=b) (c:=c) (ms:=ms) hc hl
  have hW:=fun F b=>c8f (F:=F) (b:=b) (c:=c) (ms:=ms) (w:=m.words) hc hl
  refine FnF.mk' Tryz.func148 rfl rfl Tryz.ntmps148 rfl ?_
  refine jH fun bm be bq ps he=>?_
  dsimp only at he g1 ho hr hodd ⊢
  subst he
  obtain ⟨⟨en',a,k⟩,hp,rfl⟩:∃ x:c2i,fQ ps m.line=some x∧x.1=en:=by
    rw [b3c] at g1
    cases e:fQ ps m.line with
    |none=>rw [e] at g1;cases g1
    |some x=>rw [e] at g1;exact ⟨x,rfl,by cases g1;rfl⟩
  dsimp only at *
  haveI kr:=fun L=>a2i hp L
  have hN:=fun F (hk:RdL F 1 (.slice a en'.s.ps.length k) en'.s.ps.length (aC ic en'.s.ps))=>d0i (F:=F) (e:=en') (a:=a) (k:=k) (m:=m) (w:=aI c ms m.line) hk hb9
  rcases hcs with ⟨c1,c2,c3⟩|c1
  · have e1:kO c ⟨b8h ps,ms,q,odd⟩ n=⟨b8h ps,ms,q.eraseIdx n.toNat,odd+1⟩:=by
      unfold kO;rw [hX,hEn,if_neg (om)];rfl
    rw [e1,←hodd (om)]
    simp only [c1] at hN
    have hS:=fun F u (k:RdL F 15 u 1 (mc m))=>b8f (F:=F) (b:=bq) (room:=c.buffer) (l:=q) (n:=n) (u:=u) (s:=[m]) k (by simp)
    repeat' (first|refine go ?_|intro _|refine fS ?_|refine cM ?_|refine aD @hL ?_|refine mH ?_ ?_|fail)
    all_goals (simp only [hp,Option.getD_some])
    all_goals (repeat' (first|refine go ?_|intro _|refine fS ?_|refine cM ?_|refine aD @hN ?_|refine aD @hS ?_|refine aD @c4e ?_|refine aD @b0s ?_|refine mH ?_ ?_|fail))
    all_goals (apply aA rfl rfl bB)
    all_goals first
    |exact ⟨rfl,rfl⟩
    |exact xW @kR
  · have e1:kO c ⟨b8h ps,ms,q,odd⟩ n=⟨kC (b8h ps) m.line (eF en' m),if iH en' m then d6d c ms m.line m.words else ms,bO q n (bR en' m (aI c ms m.line)),odd⟩:=by
      unfold kO nX;rw [hX,hEn,if_pos c1]
    have hsl:=(yB (w:=aI c ms m.line) c1).2.1
    rw [e1]
    simp only [c1] at hN
    have hS:=fun F u (k:RdL F 15 u (bR en' m (aI c ms m.line)).length (aC mc (bR en' m (aI c ms m.line))))=>b8f (F:=F) (b:=bq) (room:=c.buffer) (l:=q) (n:=n) (u:=u) k hsl
    cases hw:iH en' m with
    |true=>
     simp only [hw] at hN
     rw [if_pos rfl]
     repeat' (first|refine go ?_|intro _|refine fS ?_|refine cM ?_|refine aD @hL ?_|refine mH ?_ ?_|fail)
     all_goals (simp only [hp,Option.getD_some])
     all_goals (repeat' (first|refine go ?_|intro _|refine fS ?_|refine cM ?_|refine aD @hN ?_|refine aD @hS ?_|refine mH ?_ ?_|fail))
     all_goals (apply p4;rfl;exact b6a;exact oD (xv:=(eF en' m,_,_)) rfl rfl rfl inferInstance rfl;refine aN ?_)
     all_goals (repeat' (first|refine go ?_|intro _|refine fS ?_|refine cM ?_|refine aD @hW ?_|refine mH ?_ ?_|fail))
     all_goals (apply aA rfl rfl bB)
     all_goals first
     |exact ⟨rfl,rfl⟩
     |(((repeat (first|(with_reducible exact Ent.refl)|exact Ent.nil|(apply dQ;exact e6z)|(apply kR)|(apply c4g)|apply Ent.drop));all_goals (first|rfl|(with_reducible assumption)|(simp [pU];done)|(simp [pU];omega)|omega|(constructor<;>(simp [pU])<;>omega))))
    |false=>
     simp only [hw] at hN
     rw [if_neg (by simp)]
     repeat' (first|refine go ?_|intro _|refine fS ?_|refine cM ?_|refine aD @hL ?_|refine mH ?_ ?_|fail)
     all_goals (simp only [hp,Option.getD_some])
     all_goals (repeat' (first|refine go ?_|intro _|refine fS ?_|refine cM ?_|refine aD @hN ?_|refine aD @hS ?_|refine mH ?_ ?_|fail))
     all_goals (apply p4;rfl;exact b6a;exact oD (xv:=(eF en' m,_,_)) rfl rfl rfl inferInstance rfl;refine aN ?_)
     all_goals (repeat' (first|refine go ?_|intro _|refine fS ?_|refine cM ?_|refine aD @hW ?_|refine mH ?_ ?_|fail))
     all_goals (apply aA rfl rfl bB)
     all_goals first
     |exact ⟨rfl,rfl⟩
     |(((repeat (first|(with_reducible exact Ent.refl)|exact Ent.nil|(apply dQ;exact e6z)|(apply kR)|(apply c4g)|apply Ent.drop));all_goals (first|rfl|(with_reducible assumption)|(simp [pU];done)|(simp [pU];omega)|omega|(constructor<;>(simp [pU])<;>omega))))
end
section
theorem e4h {b:Nat} {c:Cfg} {num:Int} {s:HomS} {L:List HP} {w:World} (h:d3 (iV b c num s::L) w):(s.q.length:Int)≤c.buffer∧c.buffer≤16∧∀ x∈s.q,x.sends.length≤1000:=by
  obtain ⟨bm,be,bq,ps,he,hx⟩:=d5p h
  obtain ⟨p,c0,qs,⟨h0,h1,h2,h3,_⟩,_⟩:=c1u (nS (nS (nS (nS hx))))
  rw [←h0]
  refine ⟨by simpa using h1,h2,fun x hx=>?_⟩
  obtain ⟨y,hy,rfl⟩:=List.mem_map.1 hx
  exact (h3 y hy).2
theorem e4i {b:Nat} {c:Cfg} {num:Int} {s:HomS} {P:Program} {N:Nat} {co:Code} {env:Env} {L:List HP} {Q:Exit→Act→World→Prop}
    (h:(s.q.length:Int)≤c.buffer∧c.buffer≤16∧(∀ x∈s.q,x.sends.length≤1000)→WC P N co env (iV b c num s::L) Q):WC P N co env (iV b c num s::L) Q:=fun a w ha hw=>h (e4h hw) a w ha hw
theorem b0c {q:List QE} {n:Int} (h:eJ q n=true):b2d q n=true:=by
  simp only [eJ,Bool.and_eq_true] at h;exact h.1.1
theorem wQ {q:List QE} {n:Int} (h:b2d q n=true):a3t q n∈q:=by
  obtain ⟨i,hi,_,e⟩:=a4m h
  rw [e];exact List.getElem_mem hi
theorem c6k {c:Cfg} {num:Int} {s:HomS} {n:Int} (h:HmI c num s) (hn:lX s.q n=true):iL s.q n∈(a3t s.q n).sends∧(4≤(iL s.q n).kind∧(iL s.q n).kind≤10)∧(iL s.q n).line=(a3t s.q n).m.line∧(iL s.q n).src=num:=by
  have hb:=hn
  simp only [lX,Bool.and_eq_true,decide_eq_true_eq] at hb
  have hm:=wQ hb.1
  have e:iL s.q n=(a3t s.q n).sends.headD .zero:=by unfold iL;rw [if_pos hn]
  have hmem:iL s.q n∈(a3t s.q n).sends:=by
    rw [e]
    cases hs:(a3t s.q n).sends with
    |nil=>rw [hs] at hb;exact absurd rfl hb.2
    |cons a r=>simp
  exact ⟨hmem,h.snd _ hm _ hmem⟩
theorem e4j {k:Int} (h:4≤k∧k≤10):dJ k=1∨dJ k=2:=by
  unfold dJ
  rw [if_neg (om)]
  split
  · exact .inl rfl
  · rw [if_pos (om)];exact .inr rfl
attribute [local irreducible] Exit.then Exit.inBlock Code.wp WC WO WE WQ V bF tV d3 bW dF uH IntKind.wrap WR Code.rounds WT KO
theorem d8i {F:List HP} {b:Nat} {c:Cfg} {num:Int} {s:HomS} {n:Int} {l:L3} (h:HmI c num s) (ho:0≤s.odd∧s.odd≤1000000000000) :
    FnF Tryz.prog 107 [.pointer (some ⟨b,0,none⟩),.int .i64 n,.agg (f1r l).toArray] [iV b c num s] F
      (fun r L'=>r= .tuple [mv (fU s n l),.bool (d7 s n l),.bool (oH s n l)].toArray∧L'=[iV b c num (bY c s n l)]):=by
  refine FnF.mk' Tryz.func107 rfl rfl Tryz.ntmps107 rfl ?_
  refine e4i fun hf=>?_
  obtain ⟨_,_,hf⟩:=hf
  cases hr:eJ s.q n with
  |true=>
   have hin:=b0c hr
   have hG:=fun F bq=>d5o (F:=F) (b:=bq) (room:=c.buffer) hin (by have:=hf _ (wQ hin);omega)
   have hR:=fun F bq=>a7n (F:=F) (b:=bq) (room:=c.buffer) (l:=s.q) (n:=n)
   simp only [hr] at hR
   have hS:=fun F=>d0w (F:=F) (b:=b) h hr ho
   have e1:fU s n l= .zero:=by simp [fU,hr]
   have e2:d7 s n l=false:=by simp [d7,hr]
   have e3:oH s n l=true:=by simp [oH,hr]
   have e4:bY c s n l=kO c s n:=by simp [bY,hr]
   rw [e1,e2,e3,e4]
   simp only [a1f] at hS
   obtain ⟨es,ms,q,odd⟩:=s
   refine jH fun bm be bq ps he=>?_
   dsimp only at *
   subst he
   repeat first|refine gd ?_|intro _|refine aD @hG ?_|refine aD @hR ?_
   ((first|apply jR (L':=(iV b c num ⟨b8h ps,ms,q,odd⟩)::_)|apply nT (L':=(iV b c num ⟨b8h ps,ms,q,odd⟩)::_)|apply nU (L':=(iV b c num ⟨b8h ps,ms,q,odd⟩)::_)|apply d8v (L':=(iV b c num ⟨b8h ps,ms,q,odd⟩)::_));(focus (apply kR;(focus (exact aB));all_goals exact mG)))
   repeat first|refine gd ?_|intro _|refine aD @hS ?_
   exact aU
  |false=>
   have hR:=fun F bq=>a7n (F:=F) (b:=bq) (room:=c.buffer) (l:=s.q) (n:=n)
   simp only [hr] at hR
   have hX:=fun F bq=>e0d (F:=F) (b:=bq) (room:=c.buffer) (l:=s.q) (n:=n)
   cases hin:b2d s.q n with
   |false=>
    have hG:=fun F bq=>c7r (F:=F) (b:=bq) (room:=c.buffer) hin
    have hb:lX s.q n=false:=by simp [lX,hin]
    have hg:i5 s n l=false:=by simp [i5,hb]
    have e1:fU s n l= .zero:=by simp [fU,hr,hg]
    have e2:d7 s n l=false:=by simp [d7,hr,hg]
    have e3:oH s n l=false:=by simp [oH,hr,hg]
    have e4:bY c s n l=s:=by simp [bY,hr,hg]
    rw [e1,e2,e3,e4]
    simp only [hb] at hX
    obtain ⟨es,ms,q,odd⟩:=s
    refine jH fun bm be bq ps he=>?_
    dsimp only at *
    repeat first|refine gd ?_|intro _|refine aD @hG ?_|refine aD @hR ?_|refine aD @hX ?_
    (apply aA rfl rfl bB)
    · exact ⟨rfl,rfl⟩
    · exact xW @kR
   |true=>
    have hG:=fun F bq=>d5o (F:=F) (b:=bq) (room:=c.buffer) hin (by have:=hf _ (wQ hin);omega)
    cases hb:lX s.q n with
    |false=>
     have hg:i5 s n l=false:=by simp [i5,hb]
     have e1:fU s n l= .zero:=by simp [fU,hr,hg]
     have e2:d7 s n l=false:=by simp [d7,hr,hg]
     have e3:oH s n l=false:=by simp [oH,hr,hg]
     have e4:bY c s n l=s:=by simp [bY,hr,hg]
     rw [e1,e2,e3,e4]
     simp only [hb] at hX
     obtain ⟨es,ms,q,odd⟩:=s
     refine jH fun bm be bq ps he=>?_
     dsimp only at *
     repeat first|refine gd ?_|intro _|refine aD @hG ?_|refine aD @hR ?_|refine aD @hX ?_
     (apply aA rfl rfl bB)
     · exact ⟨rfl,rfl⟩
     · exact xW @kR
    |true=>
     have hk:=c6k h hb
     have hSe:=fun F bq=>c4e (F:=F) (b:=bq) (room:=c.buffer) (l:=s.q) (n:=n)
     have hN:=fun F=>qP (F:=F) (k:=(iL s.q n).kind)
     rcases e4j hk.2.1 with hn|hn
     · simp only [hn] at hN
       have hgd:i5 s n l=decide (0<l.2.1):=by simp [i5,hb,hn,e2w]
       by_cases hl:0<l.2.1
       · have hg:i5 s n l=true:=by rw [hgd];exact decide_eq_true hl
         have e1:fU s n l=iL s.q n:=by simp [fU,hr,hg]
         have e2:d7 s n l=true:=by simp [d7,hr,hg]
         have e3:oH s n l=true:=by simp [oH,hr,hg]
         have e4:bY c s n l={ s with q:=cS s.q n}:=by simp [bY,hr,hg]
         rw [e1,e2,e3,e4]
         simp only [hb] at hX
         obtain ⟨es,ms,q,odd⟩:=s
         refine jH fun bm be bq ps he=>?_
         dsimp only at *
         repeat first|refine gd ?_|intro _|refine aD @hG ?_|refine aD @hR ?_|refine aD @hX ?_|refine aD @hN ?_|refine aD @hSe ?_
         (apply aA rfl rfl bB)
         · exact ⟨rfl,rfl⟩
         · exact xW @kR
       · have hg:i5 s n l=false:=by rw [hgd];exact decide_eq_false hl
         have e1:fU s n l= .zero:=by simp [fU,hr,hg]
         have e2:d7 s n l=false:=by simp [d7,hr,hg]
         have e3:oH s n l=false:=by simp [oH,hr,hg]
         have e4:bY c s n l=s:=by simp [bY,hr,hg]
         rw [e1,e2,e3,e4]
         simp only [hb] at hX
         obtain ⟨es,ms,q,odd⟩:=s
         refine jH fun bm be bq ps he=>?_
         dsimp only at *
         repeat first|refine gd ?_|intro _|refine aD @hG ?_|refine aD @hR ?_|refine aD @hX ?_|refine aD @hN ?_
         (apply aA rfl rfl bB)
         · exact ⟨rfl,rfl⟩
         · exact xW @kR
     · simp only [hn] at hN
       have hgd:i5 s n l=decide (0<l.2.2):=by simp [i5,hb,hn,e2w]
       by_cases hl:0<l.2.2
       · have hg:i5 s n l=true:=by rw [hgd];exact decide_eq_true hl
         have e1:fU s n l=iL s.q n:=by simp [fU,hr,hg]
         have e2:d7 s n l=true:=by simp [d7,hr,hg]
         have e3:oH s n l=true:=by simp [oH,hr,hg]
         have e4:bY c s n l={ s with q:=cS s.q n}:=by simp [bY,hr,hg]
         rw [e1,e2,e3,e4]
         simp only [hb] at hX
         obtain ⟨es,ms,q,odd⟩:=s
         refine jH fun bm be bq ps he=>?_
         dsimp only at *
         repeat first|refine gd ?_|intro _|refine aD @hG ?_|refine aD @hR ?_|refine aD @hX ?_|refine aD @hN ?_|refine aD @hSe ?_
         (apply aA rfl rfl bB)
         · exact ⟨rfl,rfl⟩
         · exact xW @kR
       · have hg:i5 s n l=false:=by rw [hgd];exact decide_eq_false hl
         have e1:fU s n l= .zero:=by simp [fU,hr,hg]
         have e2:d7 s n l=false:=by simp [d7,hr,hg]
         have e3:oH s n l=false:=by simp [oH,hr,hg]
         have e4:bY c s n l=s:=by simp [bY,hr,hg]
         rw [e1,e2,e3,e4]
         simp only [hb] at hX
         obtain ⟨es,ms,q,odd⟩:=s
         refine jH fun bm be bq ps he=>?_
         dsimp only at *
         repeat first|refine gd ?_|intro _|refine aD @hG ?_|refine aD @hR ?_|refine aD @hX ?_|refine aD @hN ?_
         (apply aA rfl rfl bB)
         · exact ⟨rfl,rfl⟩
         · exact xW @kR
end
end Go.Sx
