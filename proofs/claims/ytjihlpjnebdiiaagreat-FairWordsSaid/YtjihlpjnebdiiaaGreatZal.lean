/- Hom3, Hom4, Fk, Fw: several of my texts as one. My own work. -/
import Derived.Test.YtjihlpjnebdiiaaGreatZak
set_option linter.unusedVariables false
set_option linter.unusedSectionVars false
set_option linter.unusedSimpArgs false
set_option maxRecDepth 100000
set_option maxHeartbeats 4000000
namespace Go.Sx
open Go Go.Proofs
section
attribute [local irreducible] Exit.then Exit.inBlock Code.wp WC WO WE WQ V bT vL fP cY eI v8 IntKind.wrap WR Code.rounds WT KO
theorem gQ {Q P:Prop} (k:Q) (h:Hid Q→P:=by
  intro k
  first
  |(refine aI ?_;refine uU (id:=1) (.only [11]) (pl:= .p 0 <| .p 1 <| .p 2 <| .p 4 <| .r 3 <| .r 5 <| .e true [(6,.p 7 <| .p 8 <| .p 9 <| .e true [(10,.e true [(11,.n [] <| .p 12 <| .done)])]),(10,.e true [(6,.p 7 <| .p 8 <| .p 9 <| .e true [(11,.n [] <| .p 12 <| .done)])])]) k.out)
  |(refine aI ?_;refine uU (id:=2) (.only [14]) (pl:= .p 0 <| .p 1 <| .p 2 <| .p 4 <| .r 3 <| .r 5 <| .r 6 <| .r 7 <| .r 8 <| .e true [(9,.p 10 <| .p 11 <| .p 12 <| .e true [(13,.e true [(14,.n [] <| .p 15 <| .done)])]),(13,.e true [(9,.p 10 <| .p 11 <| .p 12 <| .e true [(14,.n [] <| .p 15 <| .done)])])]) k.out)
  |(refine aI ?_;refine uU (id:=5) (.only [7]) (pl:= .p 0 <| .p 1 <| .p 2 <| .p 4 <| .r 3 <| .r 5 <| .e true [(6,.e true [(7,.n [] <| .done)])]) k.out)
  |(refine aI ?_;refine uU (id:=7) (.only [8]) (pl:= .p 0 <| .p 1 <| .p 2 <| .p 4 <| .p 6 <| .r 3 <| .r 5 <| .r 7 <| .e true [(8,.n [] <| .done)]) k.out)
  |(refine aI ?_;refine uU (id:=8) (.only [7]) (pl:= .p 0 <| .p 1 <| .p 2 <| .p 4 <| .p 5 <| .r 3 <| .r 6 <| .e true [(7,.n [] <| .done)]) k.out)
  |(refine aI ?_;refine uU (id:=11) (.only [8]) (pl:= .p 0 <| .p 1 <| .p 2 <| .p 4 <| .p 6 <| .r 3 <| .r 5 <| .r 7 <| .e true [(8,.n [] <| .done)]) k.out)
  |(refine aI ?_;refine uU (id:=9) .true (pl:= .p 0 <| .p 1 <| .p 2 <| .p 4 <| .p 6 <| .r 3 <| .r 5 <| .r 7 <| .e true [(8,.done)]) k.out)):P:=h ⟨k⟩
theorem d5q {F:List HP} {b:Nat} {c:Cfg} {num:Int} {s:HomS} {n:Int} (h:HmI c num s) (hr:eZ s.q n=true) (ho:0≤s.odd∧s.odd≤1000000000000) :
    FnF Tryz.prog 148 [.pointer (some ⟨b,0,none⟩),.int .i64 n,mv (a2k s n)] [jD b c num s] F (fun r L'=>r= .tuple [].toArray∧L'=[jD b c num (kV c s n)]):=by
  have hc:=c6l h.ok
  obtain ⟨i,hi,en,ea,es0,_⟩:=xK hr
  have hmine:lR c num (a2k s n) 0=true:=by
    unfold a2k;rw [ea];exact h.req _ (List.getElem_mem hi)
  obtain ⟨f1,f2,f3,f4,f5⟩:=iD h.ok hmine
  obtain ⟨g1,g2,g3,_⟩:=sH h f3
  have hs:d6 (aR s (a2k s n).line).s=true:=by simp only [a6d,Bool.and_eq_true] at g2;exact g2.1.1
  have hb9:(aR s (a2k s n).line).s.ps.length≤1000:=by have:=e9 hs;omega
  have hlb:=(gP h.ok).2.2.2
  have hl:nA (a2k s n).line:=by have:=f3.2.1;have:=f3.1;unfold nA;omega
  have hcs:=a4e h hmine
  have hodd:=fun hk=>e1q (m:=a2k s n) hr rfl hk
  obtain ⟨es,ms,q,odd⟩:=s
  generalize hX:a2k ⟨es,ms,q,odd⟩ n=m at *
  generalize hEn:aR ⟨es,ms,q,odd⟩ m.line=en at *
  have hL:=fun F b=>c1p (F:=F) (b:=b) (c:=c) (ms:=ms) hc hl
  have hW:=fun F b=>d1n (F:=F) (b:=b) (c:=c) (ms:=ms) (w:=m.words) hc hl
  refine FnF.mk' Tryz.func148 rfl rfl Tryz.ntmps148 rfl ?_
  refine j0 fun bm be bq ps he=>?_
  dsimp only at he g1 ho hr hodd ⊢
  subst he
  obtain ⟨⟨en',a,k⟩,hp,rfl⟩:∃ x:c5b,iE ps m.line=some x∧x.1=en:=by
    rw [c6i] at g1
    cases e:iE ps m.line with
    |none=>rw [e] at g1;cases g1
    |some x=>rw [e] at g1;exact ⟨x,rfl,by cases g1;rfl⟩
  dsimp only at *
  haveI kr:=fun L=>b8a hp L
  have hN:=fun F (hk:RdL F 1 (.slice a en'.s.ps.length k) en'.s.ps.length (aC ic en'.s.ps))=>d6y (F:=F) (e:=en') (a:=a) (k:=k) (m:=m) (w:=aJ c ms m.line) hk hb9
  rcases hcs with ⟨c1,c2,c3⟩|c1
  · have e1:kV c ⟨c4t ps,ms,q,odd⟩ n=⟨c4t ps,ms,q.eraseIdx n.toNat,odd+1⟩:=by
      unfold kV;rw [hX,hEn,if_neg (om)];rfl
    rw [e1,←hodd (om)]
    simp only [c1] at hN
    have hS:=fun F u (k:RdL F 15 u 1 (mc m))=>b9u (F:=F) (b:=bq) (room:=c.buffer) (l:=q) (n:=n) (u:=u) (s:=[m]) k (by simp)
    repeat' (first|refine go ?_|intro _|refine gQ ?_|refine dM ?_|refine aD @hL ?_|refine nV ?_ ?_|fail)
    all_goals (simp only [hp,Option.getD_some])
    all_goals (repeat' (first|refine go ?_|intro _|refine gQ ?_|refine dM ?_|refine aD @hN ?_|refine aD @hS ?_|refine aD @c6g ?_|refine aD @b3a ?_|refine nV ?_ ?_|fail))
    all_goals (apply aA rfl rfl bH)
    all_goals first
    |exact ⟨rfl,rfl⟩
    |exact zR @nJ
  · have e1:kV c ⟨c4t ps,ms,q,odd⟩ n=⟨lS (c4t ps) m.line (fY en' m),if jB en' m then d9u c ms m.line m.words else ms,cD q n (cA en' m (aJ c ms m.line)),odd⟩:=by
      unfold kV i7;rw [hX,hEn,if_pos c1]
    have hsl:=(uN (w:=aJ c ms m.line) c1).2.1
    rw [e1]
    simp only [c1] at hN
    have hS:=fun F u (k:RdL F 15 u (cA en' m (aJ c ms m.line)).length (aC mc (cA en' m (aJ c ms m.line))))=>b9u (F:=F) (b:=bq) (room:=c.buffer) (l:=q) (n:=n) (u:=u) k hsl
    cases hw:jB en' m with
    |true=>
     simp only [hw] at hN
     rw [if_pos rfl]
     repeat' (first|refine go ?_|intro _|refine gQ ?_|refine dM ?_|refine aD @hL ?_|refine nV ?_ ?_|fail)
     all_goals (simp only [hp,Option.getD_some])
     all_goals (repeat' (first|refine go ?_|intro _|refine gQ ?_|refine dM ?_|refine aD @hN ?_|refine aD @hS ?_|refine nV ?_ ?_|fail))
     all_goals (apply qW;rfl;exact b8u;exact pH (xv:=(fY en' m,_,_)) rfl rfl rfl inferInstance rfl;refine aM ?_)
     all_goals (repeat' (first|refine go ?_|intro _|refine gQ ?_|refine dM ?_|refine aD @hW ?_|refine nV ?_ ?_|fail))
     all_goals (apply aA rfl rfl bH)
     all_goals first
     |exact ⟨rfl,rfl⟩
     |(((repeat (first|(with_reducible exact Ent.refl)|exact Ent.nil|(apply iS;exact f1n)|(apply nJ)|(apply c6j)|apply Ent.drop));all_goals (first|rfl|(with_reducible assumption)|(simp [qR];done)|(simp [qR];omega)|omega|(constructor<;>(simp [qR])<;>omega))))
    |false=>
     simp only [hw] at hN
     rw [if_neg (by simp)]
     repeat' (first|refine go ?_|intro _|refine gQ ?_|refine dM ?_|refine aD @hL ?_|refine nV ?_ ?_|fail)
     all_goals (simp only [hp,Option.getD_some])
     all_goals (repeat' (first|refine go ?_|intro _|refine gQ ?_|refine dM ?_|refine aD @hN ?_|refine aD @hS ?_|refine nV ?_ ?_|fail))
     all_goals (apply qW;rfl;exact b8u;exact pH (xv:=(fY en' m,_,_)) rfl rfl rfl inferInstance rfl;refine aM ?_)
     all_goals (repeat' (first|refine go ?_|intro _|refine gQ ?_|refine dM ?_|refine aD @hW ?_|refine nV ?_ ?_|fail))
     all_goals (apply aA rfl rfl bH)
     all_goals first
     |exact ⟨rfl,rfl⟩
     |(((repeat (first|(with_reducible exact Ent.refl)|exact Ent.nil|(apply iS;exact f1n)|(apply nJ)|(apply c6j)|apply Ent.drop));all_goals (first|rfl|(with_reducible assumption)|(simp [qR];done)|(simp [qR];omega)|omega|(constructor<;>(simp [qR])<;>omega))))
end
section
theorem e9t {b:Nat} {c:Cfg} {num:Int} {s:HomS} {L:List HP} {w:World} (h:fP (jD b c num s::L) w):(s.q.length:Int)≤c.buffer∧c.buffer≤16∧∀ x∈s.q,x.sends.length≤1000:=by
  obtain ⟨bm,be,bq,ps,he,hx⟩:=d7y h
  obtain ⟨p,c0,qs,⟨h0,h1,h2,h3,_⟩,_⟩:=c4w (oV (oV (oV (oV hx))))
  rw [←h0]
  refine ⟨by simpa using h1,h2,fun x hx=>?_⟩
  obtain ⟨y,hy,rfl⟩:=List.mem_map.1 hx
  exact (h3 y hy).2
theorem e9u {b:Nat} {c:Cfg} {num:Int} {s:HomS} {P:Program} {N:Nat} {co:Code} {env:Env} {L:List HP} {Q:Exit→Act→World→Prop}
    (h:(s.q.length:Int)≤c.buffer∧c.buffer≤16∧(∀ x∈s.q,x.sends.length≤1000)→WC P N co env (jD b c num s::L) Q):WC P N co env (jD b c num s::L) Q:=fun a w ha hw=>h (e9t hw) a w ha hw
theorem b3r {q:List QE} {n:Int} (h:eZ q n=true):a9o q n=true:=by
  simp only [eZ,Bool.and_eq_true] at h;exact h.1.1
theorem yU {q:List QE} {n:Int} (h:a9o q n=true):a3x q n∈q:=by
  obtain ⟨i,hi,_,e⟩:=a5l h
  rw [e];exact List.getElem_mem hi
theorem d0r {c:Cfg} {num:Int} {s:HomS} {n:Int} (h:HmI c num s) (hn:jC s.q n=true):gK s.q n∈(a3x s.q n).sends∧(4≤(gK s.q n).kind∧(gK s.q n).kind≤10)∧(gK s.q n).line=(a3x s.q n).m.line∧(gK s.q n).src=num:=by
  have hb:=hn
  simp only [jC,Bool.and_eq_true,decide_eq_true_eq] at hb
  have hm:=yU hb.1
  have e:gK s.q n=(a3x s.q n).sends.headD .zero:=by unfold gK;rw [if_pos hn]
  have hmem:gK s.q n∈(a3x s.q n).sends:=by
    rw [e]
    cases hs:(a3x s.q n).sends with
    |nil=>rw [hs] at hb;exact absurd rfl hb.2
    |cons a r=>simp
  exact ⟨hmem,h.snd _ hm _ hmem⟩
theorem c5j {k:Int} (h:4≤k∧k≤10):c6 k=1∨c6 k=2:=by
  unfold c6
  rw [if_neg (om)]
  split
  · exact .inl rfl
  · rw [if_pos (om)];exact .inr rfl
attribute [local irreducible] Exit.then Exit.inBlock Code.wp WC WO WE WQ V bT vL fP cY eI v8 IntKind.wrap WR Code.rounds WT KO
theorem e4f {F:List HP} {b:Nat} {c:Cfg} {num:Int} {s:HomS} {n:Int} {l:L3} (h:HmI c num s) (ho:0≤s.odd∧s.odd≤1000000000000) :
    FnF Tryz.prog 107 [.pointer (some ⟨b,0,none⟩),.int .i64 n,.agg (f6a l).toArray] [jD b c num s] F
      (fun r L'=>r= .tuple [mv (fZ s n l),.bool (e7 s n l),.bool (mT s n l)].toArray∧L'=[jD b c num (cE c s n l)]):=by
  refine FnF.mk' Tryz.func107 rfl rfl Tryz.ntmps107 rfl ?_
  refine e9u fun hf=>?_
  obtain ⟨_,_,hf⟩:=hf
  cases hr:eZ s.q n with
  |true=>
   have hin:=b3r hr
   have hG:=fun F bq=>d7x (F:=F) (b:=bq) (room:=c.buffer) hin (by have:=hf _ (yU hin);omega)
   have hR:=fun F bq=>a9u (F:=F) (b:=bq) (room:=c.buffer) (l:=s.q) (n:=n)
   simp only [hr] at hR
   have hS:=fun F=>d5q (F:=F) (b:=b) h hr ho
   have e1:fZ s n l= .zero:=by simp [fZ,hr]
   have e2:e7 s n l=false:=by simp [e7,hr]
   have e3:mT s n l=true:=by simp [mT,hr]
   have e4:cE c s n l=kV c s n:=by simp [cE,hr]
   rw [e1,e2,e3,e4]
   simp only [a2k] at hS
   obtain ⟨es,ms,q,odd⟩:=s
   refine j0 fun bm be bq ps he=>?_
   dsimp only at *
   subst he
   repeat first|refine gd ?_|intro _|refine aD @hG ?_|refine aD @hR ?_
   ((first|apply n6 (L':=(jD b c num ⟨c4t ps,ms,q,odd⟩)::_)|apply yP (L':=(jD b c num ⟨c4t ps,ms,q,odd⟩)::_)|apply yQ (L':=(jD b c num ⟨c4t ps,ms,q,odd⟩)::_)|apply e3d (L':=(jD b c num ⟨c4t ps,ms,q,odd⟩)::_));(focus (apply nJ;(focus (exact aB));all_goals exact mZ)))
   repeat first|refine gd ?_|intro _|refine aD @hS ?_
   exact bF
  |false=>
   have hR:=fun F bq=>a9u (F:=F) (b:=bq) (room:=c.buffer) (l:=s.q) (n:=n)
   simp only [hr] at hR
   have hX:=fun F bq=>e1l (F:=F) (b:=bq) (room:=c.buffer) (l:=s.q) (n:=n)
   cases hin:a9o s.q n with
   |false=>
    have hG:=fun F bq=>c9n (F:=F) (b:=bq) (room:=c.buffer) hin
    have hb:jC s.q n=false:=by simp [jC,hin]
    have hg:gX s n l=false:=by simp [gX,hb]
    have e1:fZ s n l= .zero:=by simp [fZ,hr,hg]
    have e2:e7 s n l=false:=by simp [e7,hr,hg]
    have e3:mT s n l=false:=by simp [mT,hr,hg]
    have e4:cE c s n l=s:=by simp [cE,hr,hg]
    rw [e1,e2,e3,e4]
    simp only [hb] at hX
    obtain ⟨es,ms,q,odd⟩:=s
    refine j0 fun bm be bq ps he=>?_
    dsimp only at *
    repeat first|refine gd ?_|intro _|refine aD @hG ?_|refine aD @hR ?_|refine aD @hX ?_
    (apply aA rfl rfl bH)
    · exact ⟨rfl,rfl⟩
    · exact zR @nJ
   |true=>
    have hG:=fun F bq=>d7x (F:=F) (b:=bq) (room:=c.buffer) hin (by have:=hf _ (yU hin);omega)
    cases hb:jC s.q n with
    |false=>
     have hg:gX s n l=false:=by simp [gX,hb]
     have e1:fZ s n l= .zero:=by simp [fZ,hr,hg]
     have e2:e7 s n l=false:=by simp [e7,hr,hg]
     have e3:mT s n l=false:=by simp [mT,hr,hg]
     have e4:cE c s n l=s:=by simp [cE,hr,hg]
     rw [e1,e2,e3,e4]
     simp only [hb] at hX
     obtain ⟨es,ms,q,odd⟩:=s
     refine j0 fun bm be bq ps he=>?_
     dsimp only at *
     repeat first|refine gd ?_|intro _|refine aD @hG ?_|refine aD @hR ?_|refine aD @hX ?_
     (apply aA rfl rfl bH)
     · exact ⟨rfl,rfl⟩
     · exact zR @nJ
    |true=>
     have hk:=d0r h hb
     have hSe:=fun F bq=>c6g (F:=F) (b:=bq) (room:=c.buffer) (l:=s.q) (n:=n)
     have hN:=fun F=>rP (F:=F) (k:=(gK s.q n).kind)
     rcases c5j hk.2.1 with hn|hn
     · simp only [hn] at hN
       have hgd:gX s n l=decide (0<l.2.1):=by simp [gX,hb,hn,e1p]
       by_cases hl:0<l.2.1
       · have hg:gX s n l=true:=by rw [hgd];exact decide_eq_true hl
         have e1:fZ s n l=gK s.q n:=by simp [fZ,hr,hg]
         have e2:e7 s n l=true:=by simp [e7,hr,hg]
         have e3:mT s n l=true:=by simp [mT,hr,hg]
         have e4:cE c s n l={ s with q:=cN s.q n}:=by simp [cE,hr,hg]
         rw [e1,e2,e3,e4]
         simp only [hb] at hX
         obtain ⟨es,ms,q,odd⟩:=s
         refine j0 fun bm be bq ps he=>?_
         dsimp only at *
         repeat first|refine gd ?_|intro _|refine aD @hG ?_|refine aD @hR ?_|refine aD @hX ?_|refine aD @hN ?_|refine aD @hSe ?_
         (apply aA rfl rfl bH)
         · exact ⟨rfl,rfl⟩
         · exact zR @nJ
       · have hg:gX s n l=false:=by rw [hgd];exact decide_eq_false hl
         have e1:fZ s n l= .zero:=by simp [fZ,hr,hg]
         have e2:e7 s n l=false:=by simp [e7,hr,hg]
         have e3:mT s n l=false:=by simp [mT,hr,hg]
         have e4:cE c s n l=s:=by simp [cE,hr,hg]
         rw [e1,e2,e3,e4]
         simp only [hb] at hX
         obtain ⟨es,ms,q,odd⟩:=s
         refine j0 fun bm be bq ps he=>?_
         dsimp only at *
         repeat first|refine gd ?_|intro _|refine aD @hG ?_|refine aD @hR ?_|refine aD @hX ?_|refine aD @hN ?_
         (apply aA rfl rfl bH)
         · exact ⟨rfl,rfl⟩
         · exact zR @nJ
     · simp only [hn] at hN
       have hgd:gX s n l=decide (0<l.2.2):=by simp [gX,hb,hn,e1p]
       by_cases hl:0<l.2.2
       · have hg:gX s n l=true:=by rw [hgd];exact decide_eq_true hl
         have e1:fZ s n l=gK s.q n:=by simp [fZ,hr,hg]
         have e2:e7 s n l=true:=by simp [e7,hr,hg]
         have e3:mT s n l=true:=by simp [mT,hr,hg]
         have e4:cE c s n l={ s with q:=cN s.q n}:=by simp [cE,hr,hg]
         rw [e1,e2,e3,e4]
         simp only [hb] at hX
         obtain ⟨es,ms,q,odd⟩:=s
         refine j0 fun bm be bq ps he=>?_
         dsimp only at *
         repeat first|refine gd ?_|intro _|refine aD @hG ?_|refine aD @hR ?_|refine aD @hX ?_|refine aD @hN ?_|refine aD @hSe ?_
         (apply aA rfl rfl bH)
         · exact ⟨rfl,rfl⟩
         · exact zR @nJ
       · have hg:gX s n l=false:=by rw [hgd];exact decide_eq_false hl
         have e1:fZ s n l= .zero:=by simp [fZ,hr,hg]
         have e2:e7 s n l=false:=by simp [e7,hr,hg]
         have e3:mT s n l=false:=by simp [mT,hr,hg]
         have e4:cE c s n l=s:=by simp [cE,hr,hg]
         rw [e1,e2,e3,e4]
         simp only [hb] at hX
         obtain ⟨es,ms,q,odd⟩:=s
         refine j0 fun bm be bq ps he=>?_
         dsimp only at *
         repeat first|refine gd ?_|intro _|refine aD @hG ?_|refine aD @hR ?_|refine aD @hX ?_|refine aD @hN ?_
         (apply aA rfl rfl bH)
         · exact ⟨rfl,rfl⟩
         · exact zR @nJ
end
section
section
variable {α:Type}
def fk (f:α→Int) (l:List α) (x:Int):Option α:=l.find? fun a=>decide (f a=x)
theorem d8v (f:α→Int) (x:Int):fk f [] x=none:=rfl
theorem u8 (f:α→Int) (a:α) (l:List α) (x:Int):fk f (a::l) x=if f a=x then some a else fk f l x:=by
  unfold fk;rw [List.find?_cons];split<;>simp_all
theorem yV (f:α→Int) (l m:List α) (x:Int):fk f (l++m) x=(fk f l x).or (fk f m x):=by unfold fk;exact List.find?_append
theorem a8h {f:α→Int} {l:List α} {x:Int}:fk f l x=none↔∀ a∈l,f a≠x:=by unfold fk;simp
theorem b5x {f:α→Int} {l:List α} {x:Int} {a:α} (h:fk f l x=some a):a∈l∧f a=x:=by
  unfold fk at h
  exact ⟨List.mem_of_find?_eq_some h,by simpa using List.find?_some h⟩
theorem b7c {l:List α} {i:Nat} (hi:i<l.length):l=l.take i++l[i]::l.drop (i+1)∧(∀ x,l.set i x=l.take i++x::l.drop (i+1))∧l.eraseIdx i=l.take i++l.drop (i+1):=by
  refine ⟨?_,fun x=>?_,List.eraseIdx_eq_take_drop_succ l i⟩
  · rw [←List.drop_eq_getElem_cons hi,List.take_append_drop]
  · rw [List.set_eq_take_append_cons_drop,if_pos hi]
theorem c0q {f:α→Int} {l:List α} {i:Nat} (hi:i<l.length) (h:∀ j (hj:j<l.length),j<i→f l[j]≠f l[i]):fk f (l.take i) (f l[i])=none:=by
  rw [a8h]
  intro a ha
  obtain ⟨j,hj,rfl⟩:=List.getElem_of_mem ha
  rw [List.getElem_take]
  exact h j (by simp at hj;omega) (by simp at hj;omega)
theorem b7d {f:α→Int} {l:List α} {i:Nat} (hi:i<l.length) (h:∀ j (hj:j<l.length),j<i→f l[j]≠f l[i]):fk f l (f l[i])=some l[i]:=by
  have e:=congrArg (fun m=>fk f m (f l[i])) (b7c hi).1
  rw [e,yV,u8,c0q hi h,if_pos rfl]
  rfl
theorem d8w {f:α→Int} {l:List α} {i:Nat} {a:α} (hi:i<l.length) (ha:f a=f l[i]) (h:∀ j (hj:j<l.length),j<i→f l[j]≠f l[i]) (x:Int):fk f (l.set i a) x=if x=f l[i] then some a else fk f l x:=by
  obtain ⟨e,e2,_⟩:=b7c hi
  have h1:=c0q hi h
  rw [e2,yV,u8]
  by_cases hx:x=f l[i]
  · rw [if_pos hx,hx,h1,if_pos ha];rfl
  · rw [if_neg hx,if_neg (fun g=>hx (by rw [←g,ha]))]
    have h3:fk f l x=fk f (l.take i++l[i]::l.drop (i+1)) x:=congrArg (fun m=>fk f m x) e
    rw [h3,yV,u8,if_neg (Ne.symm hx)]
theorem c0r {f:α→Int} {l:List α} {i:Nat} (hi:i<l.length) (hn:(l.map f).Nodup) (x:Int):fk f (l.eraseIdx i) x=if x=f l[i] then none else fk f l x:=by
  obtain ⟨e,_,e3⟩:=b7c hi
  rw [e3,yV]
  by_cases hx:x=f l[i]
  · rw [if_pos hx,←yV,←e3,a8h]
    intro a ha g
    have h1:x∈(l.eraseIdx i).map f:=List.mem_map.2 ⟨a,ha,g⟩
    rw [d9s] at h1
    have h2:=(a5a hn (i:=i) (by simpa using hi) x).1 h1
    rw [List.getElem_map] at h2
    exact h2.2 hx
  · rw [if_neg hx]
    have h3:fk f l x=fk f (l.take i++l[i]::l.drop (i+1)) x:=congrArg (fun m=>fk f m x) e
    rw [h3,yV,u8,if_neg (Ne.symm hx)]
theorem d8x {f:α→Int} {l:List α} {x:Int} (h:0≤bA (fun a=>decide (f a=x)) l):∃ i,∃ hi:i<l.length,bA (fun a=>decide (f a=x)) l=i∧f l[i]=x∧∀ j (hj:j<l.length),j<i→f l[j]≠f l[i]:=by
  obtain ⟨i,hi,e,h1,h2⟩:=cR h
  have h1':f l[i]=x:=by simpa using h1
  exact ⟨i,hi,e,h1',fun j hj hji=>by rw [h1'];simpa using h2 j hj hji⟩
theorem d8y {f:α→Int} {l:List α} {x:Int} (h:¬0≤bA (fun a=>decide (f a=x)) l):fk f l x=none:=by
  rw [a8h]
  intro a ha
  have:=(dL (p:=fun a=>decide (f a=x)) (l:=l) (om)).2 a ha
  simpa using this
end
end
section
section
variable {c:Cfg} {l:List Way} {line:Int}
def z6 (c:Cfg) (l:List Way) (x:Int):Int:=(aP c l x).st
def b3s (c:Cfg) (l:List Way) (x:Int):Words:=(aP c l x).words
theorem rK (x:Int):z6 c l x=((vw c l x).map (·.st)).getD 0:=by unfold z6;rw [c1l];cases vw c l x<;>rfl
theorem yW (x:Int):b3s c l x=((vw c l x).map (·.words)).getD .zero:=by unfold b3s;rw [c1l];cases vw c l x<;>rfl
theorem a8i {lk:Bool} (hI:cF c l) (x:Int):z6 c (fS c l line lk) x=z6 c l x∧(z6 c l x≠0→b3s c (fS c l line lk) x=b3s c l x):=by
  rw [rK,rK,yW,yW,b6l hI]
  by_cases hx:x=line
  · subst hx
    rw [if_pos rfl]
    cases e:vw c l x with
    |none=>exact ⟨rfl,fun _=>rfl⟩
    |some y=>
     dsimp only
     split
     · exact ⟨rfl,fun _=>rfl⟩
     · rename_i g
       have:y.st=0:=Decidable.byContradiction fun h=>g (.inr h)
       exact ⟨this.symm,fun h=>absurd this h⟩
  · rw [if_neg hx];exact ⟨rfl,fun _=>rfl⟩
theorem d8z (hI:cF c l) (hf:¬cZ c l line<0) (hno:vw c l line=none) (x:Int):z6 c (kR c l line (cZ c l line)) x=z6 c l x∧b3s c (kR c l line (cZ c l line)) x=b3s c l x:=by
  rw [rK,rK,yW,yW,d9p hI hf hno]
  by_cases hx:x=line
  · subst hx;rw [if_pos rfl,hno];exact ⟨rfl,rfl⟩
  · rw [if_neg hx];exact ⟨rfl,rfl⟩
theorem pN {st:Int} {w:Words} (hI:cF c l) (h:pE c l line st w=0) (x:Int):z6 c (fD c l line st w) x=(if x=line then st else z6 c l x)∧(z6 c (fD c l line st w) x≠0→b3s c (fD c l line st w) x=if x=line then w else b3s c l x):=by
  rw [rK,rK,yW,yW,c5p hI]
  by_cases hx:x=line
  · subst hx
    rw [if_pos ⟨rfl,h⟩,if_pos rfl]
    obtain ⟨⟨y,hy⟩,_⟩:=c8h h
    rw [hy]
    dsimp only
    split
    · refine ⟨rfl,fun g=>?_⟩
      have:st≠0:=g
      show (if st=0 then Words.zero else w)=_
      rw [if_neg this,if_pos rfl]
    · rename_i g
      have:st=0:=Decidable.byContradiction fun h=>g (.inr h)
      exact ⟨this.symm,fun h=>absurd rfl h⟩
  · rw [if_neg (fun h=>hx h.1),if_neg hx];exact ⟨rfl,fun _=>by rw [if_neg hx]⟩
theorem a3m (h:z6 c l line≠0):∃ y,vw c l line=some y∧y.st=z6 c l line∧y.words=b3s c l line:=by
  rw [rK] at h ⊢
  rw [yW]
  cases e:vw c l line with
  |none=>rw [e] at h;exact absurd rfl h
  |some y=>exact ⟨y,rfl,rfl,rfl⟩
theorem a2q {st:Int} {w:Words} (h1:(vw c l line).isSome=true) (h2:0≤st∧st≤4) (h3:a6o c w=false):pE c l line st w=0:=by
  rw [b6k]
  cases e:vw c l line with
  |none=>rw [e] at h1;cases h1
  |some y=>
   rw [if_neg (by simp),if_neg]
   rintro (g|g|g)
   · omega
   · omega
   · rw [h3] at g;cases g
theorem b0o {w:Words} (h:bX c w):a6o c w=false:=by
  unfold a6o
  refine decide_eq_false ?_
  intro g
  obtain ⟨i,hi,e,h1,h2⟩:=cR g
  rw [List.getElem_drop] at h1
  have hl:c.words.toNat+i<8:=by
    rw [List.length_drop] at hi
    have:w.list.length=8:=rfl
    omega
  have:=h (c.words.toNat+i) hl
  unfold uW Words.at at this
  have hg:w.list.getD (c.words.toNat+i) 0=w.list[c.words.toNat+i]'(by show _<8;exact hl):=by
    rw [List.getD_eq_getElem?_getD,List.getElem?_eq_getElem (by show _<8;exact hl)];rfl
  rw [hg] at this
  have h3:=this.2.2 (om)
  simp [h3] at h1
end
end
end Go.Sx
