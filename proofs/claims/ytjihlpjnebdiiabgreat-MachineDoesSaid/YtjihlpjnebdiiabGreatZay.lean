/- TabR1, TabR2, TabR3, HomR2: several of my texts as one. My own work. -/
import Derived.Test.YtjihlpjnebdiiabGreatZax
set_option linter.unusedVariables false
set_option linter.unusedSectionVars false
set_option linter.unusedSimpArgs false
set_option maxRecDepth 100000
set_option maxHeartbeats 4000000
namespace Go.Sx
open Go Go.Proofs Tryz
section
attribute [local irreducible] Exit.then Exit.inBlock Code.wp WC WO WE WQ V aW dL Sat bz bK dU IntKind.wrap WR Code.rounds WT KO
theorem ny {Q P:Prop} (k:Q) (h:Hid Q→P:=by
  intro k
  first
  |(refine an ?_;refine bF (id:=10) .false (pl:= .p 0 <| .p 5 <| .p 7 <| .r 1 <| .r 2 <| .p 3 <| .r 4 <| .r 6 <| .r 8 <| .e true [(9,.e true [(10,.p 11 <| .e true [(12,.p 13 <| .done)])])]) k.out)
  |(refine an ?_;refine bF (id:=12) .false (pl:= .p 0 <| .p 4 <| .r 1 <| .p 2 <| .r 3 <| .r 5 <| .e true [(6,.e true [(7,.p 8 <| .e true [(9,.p 10 <| .done)])])]) k.out)
  |(refine an ?_;refine bF (id:=14) .false (pl:= .p 3 <| .r 0 <| .p 1 <| .r 2 <| .r 4 <| .e true [(5,.e true [(6,.p 7 <| .e true [(8,.p 9 <| .done)])])]) k.out)
  |(refine an ?_;refine bF (id:=16) .false (pl:= .p 2 <| .r 0 <| .r 1 <| .r 3 <| .e true [(4,.e true [(5,.p 6 <| .e true [(7,.e true [(8,.done)])]),(7,.e true [(5,.p 6 <| .e true [(8,.done)])])]),(7,.e true [(4,.e true [(5,.p 6 <| .e true [(8,.done)])])])]) k.out)
  |(refine an ?_;refine bF (id:=25) .false (pl:= .p 0 <| .p 3 <| .p 4 <| .r 1 <| .r 2 <| .r 5 <| .e true [(6,.e true [(7,.e true [(8,.p 9 <| .e true [(10,.done)])])])]) k.out)
  |(refine an ?_;refine bF (id:=27) .false (pl:= .p 0 <| .p 3 <| .p 4 <| .r 1 <| .r 2 <| .r 5 <| .e true [(6,.e true [(7,.e true [(8,.p 9 <| .e true [(10,.done)])])])]) k.out)
  |(refine an ?_;refine bF (id:=28) .false (pl:= .p 0 <| .p 3 <| .p 5 <| .p 6 <| .r 1 <| .r 2 <| .r 4 <| .r 7 <| .e true [(8,.e true [(9,.e true [(10,.p 11 <| .e true [(12,.done)])])])]) k.out)
  |(refine an ?_;refine bF (id:=32) .false (pl:= .p 0 <| .p 3 <| .p 4 <| .p 5 <| .p 7 <| .r 1 <| .r 2 <| .r 6 <| .r 8 <| .e true [(9,.e true [(10,.e true [(11,.p 12 <| .e true [(13,.done)])])])]) k.out)):P:=h ⟨k⟩
theorem Ai {F:List HP} {e:dP} {a:Option Addr} {k:Nat} {m:bA} {w:Words} (hk:bN F 1 (.slice a e.s.ps.length k) e.s.ps.length (aj ic e.s.ps)) (cO:xW e m=true) (xZ:m.ah=1) (ho:¬e.o=m.src) (hh:dM e.s m.src=false) :
    az prog 192 [.agg (Ao e a k).toArray,mv m,wv w] [] F (fun r L'=>∃ a' k' p c,r= .tuple [.agg (G8 (dx e m) a' k' p (bP e m w).length c false).toArray,.int .i64 0].toArray∧
      L'=[aT 3 1 (.slice a' (dx e m).s.ps.length k') (dx e m).s.ps.length (aj ic (dx e m).s.ps),aT 159 15 (.slice p (bP e m w).length c) (bP e m w).length (aj mc (bP e m w))]):=by
  obtain ⟨hm,h2,h3,h4,h5⟩:=kF cO;have dX:lQ e=true:=lc hm h2 h3;have hn:=(cP hm).2.2;have h0:=FM cO xZ ho;have hM:=fun F (hk:bN F 1 (.slice a e.s.ps.length k) e.s.ps.length (aj ic e.s.ps))=>pP (F:=F) hk (om);simp only [dX] at hM;have hA:=fun F (hk:bN F 1 (.slice a e.s.ps.length k) e.s.ps.length (aj ic e.s.ps))=>vr (F:=F) (x:=m.src) hk (om) (fun h=>by rw [hh] at h;cases h);have hT:=fun F u (hk:bN F 1 (.slice a e.s.ps.length k) e.s.ps.length (aj ic e.s.ps)) (hb:bN F 1 u 0 [])=>rJ (F:=F) (u:=u) (kI:=[]) hk hm hb (by simp);refine ay func192 ntmps192 ?_;by_cases g1:e.o= -1
  ·by_cases g2:(eE e.s [] e.s.ax.toNat).length=0
   ·have e1:dx e m=⟨m.src,nE e.s⟩:=by unfold dx kX uc;rw [if_pos h0,if_pos xZ,if_neg ho,if_neg (om),if_pos g2]
    have e2:bP e m w=[fw m 7 m.src 0 0 2 w]:=by unfold bP jE uc;rw [if_pos h0,if_pos xZ,if_neg ho,if_neg (om),if_pos g2]
    rw [e1,e2];repeat first|refine go ?_|intro _|refine ny ?_|refine av ?_|refine ae @hM ?_|refine ae @hA ?_|refine ae @hT ?_|refine ae @sf ?_
    (apply ad rfl rfl ar)
    ·exact ⟨none,0,_,_,rfl,rfl⟩
    ·refine ai.trans (uC ai.refl) (ai.trans ?_ (aI ai.refl));exact af
   ·have e1:dx e m=⟨e.o,c7 e.s m.src⟩:=by unfold dx kX uc;rw [if_pos h0,if_pos xZ,if_neg ho,if_neg (om),if_neg g2]
    have e2:bP e m w=[fw m 7 m.src 0 0 1 w]:=by unfold bP jE uc;rw [if_pos h0,if_pos xZ,if_neg ho,if_neg (om),if_neg g2]
    rw [e1,e2];repeat first|refine go ?_|intro _|refine ny ?_|refine av ?_|refine ae @hM ?_|refine ae @hA ?_|refine ae @hT ?_|refine ae @sf ?_
    (apply ad rfl rfl ar)
    ·exact ⟨_,_,_,_,by rw [g1];rfl,rfl⟩
    ·refine ai.trans (uC ai.refl) ?_;exact af
  ·have e1:dx e m=⟨e.o,c7 e.s m.src⟩:=by unfold dx kX;rw [if_pos h0,if_pos xZ,if_neg ho,if_pos (om)]
   have e2:bP e m w=[fw m 4 e.o m.src 0 0 .zero]:=by unfold bP jE;rw [if_pos h0,if_pos xZ,if_neg ho,if_pos (om)]
   rw [e1,e2];repeat first|refine go ?_|intro _|refine ny ?_|refine av ?_|refine ae @hM ?_|refine ae @hA ?_|refine ae @kj ?_
   (apply ad rfl rfl ar)
   ·exact ⟨_,_,_,_,rfl,rfl⟩
   ·refine ai.trans (uC ai.refl) ?_;exact af
theorem yM {F:List HP} {e:dP} {a:Option Addr} {k:Nat} {m:bA} {w:Words} (hk:bN F 1 (.slice a e.s.ps.length k) e.s.ps.length (aj ic e.s.ps)) (cO:xW e m=true) (xZ:m.ah=1) (ho:¬e.o=m.src) (hh:dM e.s m.src=true) :
    az prog 192 [.agg (Ao e a k).toArray,mv m,wv w] [] F (fun r L'=>∃ p c,r= .tuple [.agg (G8 e a k p (bP e m w).length c false).toArray,.int .i64 0].toArray∧
      L'=[aT 159 15 (.slice p (bP e m w).length c) (bP e m w).length (aj mc (bP e m w))]):=by
  obtain ⟨hm,h2,h3,h4,h5⟩:=kF cO;have dX:lQ e=true:=lc hm h2 h3;have hn:=(cP hm).2.2;have h0:=FM cO xZ ho;have hM:=fun F (hk:bN F 1 (.slice a e.s.ps.length k) e.s.ps.length (aj ic e.s.ps))=>pP (F:=F) hk (om);simp only [dX] at hM;have hA:=fun F (hk:bN F 1 (.slice a e.s.ps.length k) e.s.ps.length (aj ic e.s.ps))=>oO (F:=F) (x:=m.src) hk hm h4 h5 hh;have hT:=fun F u (hk:bN F 1 (.slice a e.s.ps.length k) e.s.ps.length (aj ic e.s.ps)) (hb:bN F 1 u 0 [])=>rJ (F:=F) (u:=u) (kI:=[]) hk hm hb (by simp);have g2:¬(eE e.s [] e.s.ax.toNat).length=0:=fun h=>by
    have hx:m.src∈eE e.s [] e.s.ax.toNat:=(D3 hm).2 ⟨hh,by simp⟩;rw [List.eq_nil_of_length_eq_zero h] at hx;cases hx
  refine ay func192 ntmps192 ?_;by_cases g1:e.o= -1
  ·have e2:bP e m w=[fw m 7 m.src 0 0 1 w]:=by unfold bP jE uc;rw [if_pos h0,if_pos xZ,if_neg ho,if_neg (om),if_neg g2]
   rw [e2];repeat first|refine go ?_|intro _|refine ny ?_|refine av ?_|refine ae @hM ?_|refine ae @hA ?_|refine ae @hT ?_|refine ae @sf ?_
   (apply ad rfl rfl ar)
   ·exact ⟨_,_,by rw [G8,g1];rfl,rfl⟩
   ·refine ai.trans (uC ai.refl) ?_;exact af
  ·have e2:bP e m w=[fw m 4 e.o m.src 0 0 .zero]:=by unfold bP jE;rw [if_pos h0,if_pos xZ,if_neg ho,if_pos (om)]
   rw [e2];repeat first|refine go ?_|intro _|refine ny ?_|refine av ?_|refine ae @hM ?_|refine ae @hA ?_|refine ae @kj ?_
   (apply ad rfl rfl ar)
   ·exact ⟨_,_,rfl,rfl⟩
   ·refine ai.trans (uC ai.refl) ?_;exact af
end
section
theorem az.drop {P:Program} {f:FuncId} {vs:List Value} {pre F:List HP} {post tm:Value→List HP→Prop} (C:az P f vs pre F post) (h:∀ v L',post v L'→tm v []):az P f vs pre F tm:=
  ⟨C.enters,fun w hw=>(C.runs w hw).mono fun e w' ⟨v,L',he,hp,hs⟩=>⟨v,[],he,h v L' hp,Cz hs⟩⟩
attribute [local irreducible] Exit.then Exit.inBlock Code.wp WC WO WE WQ V aW dL Sat bz bK dU IntKind.wrap WR Code.rounds WT KO
theorem kN {Q P:Prop} (k:Q) (h:Hid Q→P:=by
  intro k
  first
  |(refine an ?_;refine bF (id:=10) .true (pl:= .p 0 <| .p 5 <| .p 7 <| .r 4 <| .r 6 <| .r 8 <| .e true [(1,.e true [(2,.p 3 <| .e true [(9,.e false [(10,.p 11 <| .e false [(12,.p 13 <| .done)])])]),(9,.e false [(2,.p 3 <| .e false [(10,.p 11 <| .e false [(12,.p 13 <| .done)])]),(10,.e false [(2,.p 3 <| .p 11 <| .e false [(12,.p 13 <| .done)])])])]),(2,.e true [(1,.p 3 <| .e true [(9,.e false [(10,.p 11 <| .e false [(12,.p 13 <| .done)])])]),(9,.e false [(1,.p 3 <| .e false [(10,.p 11 <| .e false [(12,.p 13 <| .done)])]),(10,.e false [(1,.p 3 <| .p 11 <| .e false [(12,.p 13 <| .done)])])])]),(9,.e false [(1,.e false [(2,.p 3 <| .e false [(10,.p 11 <| .e false [(12,.p 13 <| .done)])]),(10,.e false [(2,.p 3 <| .p 11 <| .e false [(12,.p 13 <| .done)])])]),(2,.e false [(1,.p 3 <| .e false [(10,.p 11 <| .e false [(12,.p 13 <| .done)])]),(10,.e false [(1,.p 3 <| .p 11 <| .e false [(12,.p 13 <| .done)])])]),(10,.e false [(1,.e false [(2,.p 3 <| .p 11 <| .e false [(12,.p 13 <| .done)])]),(2,.e false [(1,.p 3 <| .p 11 <| .e false [(12,.p 13 <| .done)])])])])]) k.out)
  |(refine an ?_;refine bF (id:=12) .true (pl:= .p 0 <| .p 4 <| .r 3 <| .r 5 <| .e true [(1,.p 2 <| .e true [(6,.e false [(7,.p 8 <| .e false [(9,.p 10 <| .done)])])]),(6,.e false [(1,.p 2 <| .e false [(7,.p 8 <| .e false [(9,.p 10 <| .done)])]),(7,.e false [(1,.p 2 <| .p 8 <| .e false [(9,.p 10 <| .done)])])])]) k.out)
  |(refine an ?_;refine bF (id:=14) .true (pl:= .p 3 <| .r 2 <| .r 4 <| .e true [(0,.p 1 <| .e true [(5,.e false [(6,.p 7 <| .e false [(8,.p 9 <| .done)])])]),(5,.e false [(0,.p 1 <| .e false [(6,.p 7 <| .e false [(8,.p 9 <| .done)])]),(6,.e false [(0,.p 1 <| .p 7 <| .e false [(8,.p 9 <| .done)])])])]) k.out)
  |(refine an ?_;refine bF (id:=16) .true (pl:= .p 2 <| .r 1 <| .r 3 <| .e true [(0,.e true [(4,.e false [(5,.p 6 <| .e false [(7,.e false [(8,.done)])]),(7,.e false [(5,.p 6 <| .e false [(8,.done)])])]),(7,.e true [(4,.e false [(5,.p 6 <| .e false [(8,.done)])])])]),(4,.e false [(0,.e false [(5,.p 6 <| .e false [(7,.e false [(8,.done)])]),(7,.e false [(5,.p 6 <| .e false [(8,.done)])])]),(5,.e false [(0,.p 6 <| .e false [(7,.e false [(8,.done)])]),(7,.e false [(0,.p 6 <| .e false [(8,.done)])])]),(7,.e false [(0,.e false [(5,.p 6 <| .e false [(8,.done)])]),(5,.e false [(0,.p 6 <| .e false [(8,.done)])])])]),(7,.e true [(0,.e true [(4,.e false [(5,.p 6 <| .e false [(8,.done)])])]),(4,.e false [(0,.e false [(5,.p 6 <| .e false [(8,.done)])]),(5,.e false [(0,.p 6 <| .e false [(8,.done)])])])])]) k.out)
  |(refine an ?_;refine bF (id:=25) .true (pl:= .p 0 <| .p 3 <| .p 4 <| .r 2 <| .r 5 <| .e true [(1,.e true [(6,.e false [(7,.e false [(8,.p 9 <| .e false [(10,.done)])])])]),(6,.e false [(1,.e false [(7,.e false [(8,.p 9 <| .e false [(10,.done)])])]),(7,.e false [(1,.e false [(8,.p 9 <| .e false [(10,.done)])])])])]) k.out)
  |(refine an ?_;refine bF (id:=27) .true (pl:= .p 0 <| .p 3 <| .p 4 <| .r 2 <| .r 5 <| .e true [(1,.e true [(6,.e false [(7,.e false [(8,.p 9 <| .e false [(10,.done)])])])]),(6,.e false [(1,.e false [(7,.e false [(8,.p 9 <| .e false [(10,.done)])])]),(7,.e false [(1,.e false [(8,.p 9 <| .e false [(10,.done)])])])])]) k.out)
  |(refine an ?_;refine bF (id:=28) .true (pl:= .p 0 <| .p 3 <| .p 5 <| .p 6 <| .r 2 <| .r 4 <| .r 7 <| .e true [(1,.e true [(8,.e false [(9,.e false [(10,.p 11 <| .e false [(12,.done)])])])]),(8,.e false [(1,.e false [(9,.e false [(10,.p 11 <| .e false [(12,.done)])])]),(9,.e false [(1,.e false [(10,.p 11 <| .e false [(12,.done)])])])])]) k.out)
  |(refine an ?_;refine bF (id:=32) .true (pl:= .p 0 <| .p 3 <| .p 4 <| .p 5 <| .p 7 <| .r 2 <| .r 6 <| .r 8 <| .e true [(1,.e true [(9,.e false [(10,.e false [(11,.p 12 <| .e false [(13,.done)])])])]),(9,.e false [(1,.e false [(10,.e false [(11,.p 12 <| .e false [(13,.done)])])]),(10,.e false [(1,.e false [(11,.p 12 <| .e false [(13,.done)])])])])]) k.out)):P:=h ⟨k⟩
theorem yN {F:List HP} {e:dP} {a:Option Addr} {k:Nat} {m:bA} {w:Words} (hk:bN F 1 (.slice a e.s.ps.length k) e.s.ps.length (aj ic e.s.ps)) (cO:xW e m=true) (xZ:m.ah=2) :
    az prog 192 [.agg (Ao e a k).toArray,mv m,wv w] [] F (fun r L'=>∃ p c,r= .tuple [.agg (G8 (dx e m) none 0 p (bP e m w).length c false).toArray,.int .i64 0].toArray∧
      L'=[aT 159 15 (.slice p (bP e m w).length c) (bP e m w).length (aj mc (bP e m w))]):=by
  obtain ⟨hm,h2,h3,h4,h5⟩:=kF cO;have dX:lQ e=true:=lc hm h2 h3;have hn:=(cP hm).2.2;have h0:=Dr cO (.inl xZ);have hM:=fun F (hk:bN F 1 (.slice a e.s.ps.length k) e.s.ps.length (aj ic e.s.ps))=>pP (F:=F) hk (om);simp only [dX] at hM;have hA:∀ F (hk:bN F 1 (.slice a e.s.ps.length k) e.s.ps.length (aj ic e.s.ps)),az prog 268 [BL e.s a k,.int .i64 m.src] [] F (fun r L'=>∃ s a' k' n,r= .tuple [BL s a' k',.int .i64 n].toArray∧L'=[]):=fun F hk=>by
    cases hh:dM e.s m.src with
    |true=>exact (oO (F:=F) (x:=m.src) hk hm h4 h5 hh).drop fun v L' ⟨hv,_⟩=>⟨_,_,_,_,hv,rfl⟩
    |false=>exact (vr (F:=F) (x:=m.src) hk (om) (fun h=>by rw [hh] at h;cases h)).drop fun v L' ⟨a',k',hv,_⟩=>⟨_,_,_,_,hv,rfl⟩
  have e1:dx e m=⟨m.src,nE e.s⟩:=by unfold dx;rw [if_pos h0,if_neg (om),if_pos xZ]
  have e2:bP e m w=lW e m w::(iU e m).map (oE m):=by unfold bP tM;rw [if_pos h0,if_neg (om),if_pos xZ]
  rw [e1,e2];have BK:=DZ e.s [m.src,e.o] e.s.ax.toNat;have XU:=(cP hm).2.1;have hT:=fun F (hk:bN F 1 (.slice a e.s.ps.length k) e.s.ps.length (aj ic e.s.ps)) u (hb:bN F 1 u 2 [.int .i64 m.src,.int .i64 e.o])=>@rJ F e.s a k u [m.src,e.o] hk hm hb (by simp);have ho:iU e m=eE e.s [m.src,e.o] e.s.ax.toNat:=rfl;have hf:lW e m w=if e.o= -1 then fw m 7 m.src 0 (iU e m).length 4 w else if e.o=m.src then fw m 8 m.src 0 (iU e m).length 0 .zero else fw m 5 e.o m.src (iU e m).length 0 .zero:=rfl;rw [ho] at hf ⊢;generalize eE e.s [m.src,e.o] e.s.ax.toNat=ot at hT BK hf ⊢;refine ay func192 ntmps192 ?_;repeat first|refine go ?_|intro _|refine kN ?_|refine av ?_|refine ae @hM ?_|refine ae @hA ?_|refine ae @hT ?_
  rename_i b3 b4 b5 b6 b9 b10 s1 a1 k1 n1 b11 bs p q W6
  apply mT (P:=prog) (fun _:Option Addr×Nat=>[(4,.pointer (some ⟨b4,0,none⟩)),(6,.pointer (some ⟨b6,0,none⟩)),(8,.int .i64 m.src),(9,.pointer (some ⟨b9,0,none⟩)),(14,.slice p ot.length q),(15,.int .i64 ot.length),(16,.pointer (some ⟨W6,0,none⟩)),(17,.int .i64 0)])
    (fun z=>aT 159 15 (.slice z.1 [lW e m w].length z.2) [lW e m w].length (aj mc [lW e m w])::ao W6 302 [.int .i64 m.src,.int .i64 e.s.ax,.int .i64 e.s.dJ,.slice none 0 0,.bool false,.slice z.1 [lW e m w].length z.2,.bool false]::aT 3 1 (.slice p ot.length q) ot.length (aj ic ot)::ao b9 124 (wc .zero)::ao b6 302 [.int .i64 0,.int .i64 0,.int .i64 0,.slice none 0 0,.bool false,.slice none 0 0,.bool false]::ao b4 159 (mc m)::F) (fun _=>True)
  ·intro join;(first|refine cy (aI (e:=159) (sz:=15) (p:=none) ai.refl) ?_|refine cD (aI (e:=159) (sz:=15) (p:=none) ai.refl) ?_|refine cE (aI (e:=159) (sz:=15) (p:=none) ai.refl) ?_);by_cases g1:e.o= -1
   ·rw [if_pos g1] at hf;repeat' (first|refine go ?_|intro _|refine kN ?_|refine av ?_|refine ae @sf ?_|refine bj ?_ ?_|fail)
    all_goals (rename_i pn cn;exact join (pn,cn) _ _ trivial (by exact bH) (by rw [hf];simp only [List.length_singleton,Nat.zero_add,List.nil_append,bi];exact af))
   ·rw [if_neg g1] at hf;by_cases g2:e.o=m.src
    ·rw [if_pos g2] at hf;repeat' (first|refine go ?_|intro _|refine kN ?_|refine av ?_|refine ae @kj ?_|refine bj ?_ ?_|fail)
     all_goals (rename_i pn cn;exact join (pn,cn) _ _ trivial (by exact bH) (by rw [hf];simp only [List.length_singleton,Nat.zero_add,List.nil_append,bi];exact af))
    ·rw [if_neg g2] at hf;repeat' (first|refine go ?_|intro _|refine kN ?_|refine av ?_|refine ae @kj ?_|refine bj ?_ ?_|fail)
     all_goals (rename_i pn cn;exact join (pn,cn) _ _ trivial (by exact bH) (by rw [hf];simp only [List.length_singleton,Nat.zero_add,List.nil_append,bi];exact af))
  ·rintro ⟨pn,cn⟩ _;clear hf;generalize lW e m w=f1;dsimp only;apply aO (E0:=[(4,_),(6,_),(8,_),(9,_),(14,_),(15,_),(16,_)]) (fun E0 (z:Nat×Option Addr×Nat)=>(17,.int .i64 z.1)::E0) (fun z=>aT 159 15 (.slice z.2.1 (f1::(ot.take z.1).map (oE m)).length z.2.2) (f1::(ot.take z.1).map (oE m)).length (aj mc (f1::(ot.take z.1).map (oE m)))::ao W6 302 [.int .i64 m.src,.int .i64 e.s.ax,.int .i64 e.s.dJ,.slice none 0 0,.bool false,.slice z.2.1 (f1::(ot.take z.1).map (oE m)).length z.2.2,.bool false]::aT 3 1 (.slice p ot.length q) ot.length (aj ic ot)::ao b9 124 (wc .zero)::ao b6 302 [.int .i64 0,.int .i64 0,.int .i64 0,.slice none 0 0,.bool false,.slice none 0 0,.bool false]::ao b4 159 (mc m)::F) (fun z=>z.1≤ot.length) (fun z=>ot.length-z.1) (0,pn,cn)
   ·exact bH
   ·exact Nat.zero_le _
   ·simp only [List.take_zero,List.map_nil];exact af
   ·rintro ⟨i,pi,ci⟩ hi;dsimp only at hi ⊢;have YL:(f1::(ot.take i).map (oE m)).length=i+1:=by simp;omega
    by_cases bB:i<ot.length
    ·have et:f1::(ot.take (i+1)).map (oE m)=(f1::(ot.take i).map (oE m))++[fw m 6 ot[i] m.src 0 0 .zero]:=by
       rw [List.take_add_one,List.getElem?_eq_getElem bB];simp only [List.map_append,List.cons_append,List.map_cons,List.map_nil,Option.toList_some];rfl
     generalize f1::(ot.take i).map (oE m)=S at *;(first|(refine aX (Value.slice p ot.length q) inferInstance (om) ?_;intro _)|(refine aY (Value.slice p ot.length q) inferInstance (om) ?_;intro _));repeat' (first|refine go ?_|intro _|refine kN ?_|refine av ?_|refine ae @kj ?_|refine bj ?_ ?_|fail)
     all_goals (
       refine aC (i+1,?_,?_) ?_ ?_ ?_ ?_;rotate_right
       (dsimp only;rw [et,List.length_append,List.length_singleton,aJ,bi];exact af);all_goals first|(dsimp only;omega)|(exact bH;done))
    ·have kM:i=ot.length:=by omega
     subst kM;rw [List.take_length];repeat first|refine go ?_|intro _|refine kN ?_|refine av ?_
     (apply ad rfl rfl ar)
     ·exact ⟨_,_,rfl,rfl⟩
     ·exact af
end
section
theorem xn {T:TypeId} {b:Nat} {m:bA} {L M:List HP} (h:ai L (ao b T (mc m)::M)):ai L (aT T 15 (.slice (some ⟨b,0,none⟩) [m].length 1) [m].length (aj mc [m])::M):=ai.trans h (uC ai.refl)
attribute [local irreducible] Exit.then Exit.inBlock Code.wp WC WO WE WQ V aW dL Sat bz bK dU IntKind.wrap WR Code.rounds WT KO
theorem pG {Q P:Prop} (k:Q) (h:Hid Q→P:=by
  intro k
  first
  |(refine an ?_;refine bF (id:=10) .false (pl:= .p 0 <| .p 5 <| .p 7 <| .r 1 <| .r 2 <| .p 3 <| .r 4 <| .r 6 <| .r 8 <| .e true [(9,.e true [(10,.p 11 <| .e true [(12,.p 13 <| .done)])])]) k.out)
  |(refine an ?_;refine bF (id:=12) .false (pl:= .p 0 <| .p 4 <| .r 1 <| .p 2 <| .r 3 <| .r 5 <| .e true [(6,.e true [(7,.p 8 <| .e true [(9,.p 10 <| .done)])])]) k.out)
  |(refine an ?_;refine bF (id:=14) .false (pl:= .p 3 <| .r 0 <| .p 1 <| .r 2 <| .r 4 <| .e true [(5,.e true [(6,.p 7 <| .e true [(8,.p 9 <| .done)])])]) k.out)
  |(refine an ?_;refine bF (id:=16) .false (pl:= .p 2 <| .r 0 <| .r 1 <| .r 3 <| .e true [(4,.e true [(5,.p 6 <| .e true [(7,.e true [(8,.done)])]),(7,.e true [(5,.p 6 <| .e true [(8,.done)])])]),(7,.e true [(4,.e true [(5,.p 6 <| .e true [(8,.done)])])])]) k.out)
  |(refine an ?_;refine bF (id:=25) .false (pl:= .p 0 <| .p 3 <| .p 4 <| .r 1 <| .r 2 <| .r 5 <| .e true [(6,.e true [(7,.e true [(8,.p 9 <| .e true [(10,.done)])])])]) k.out)
  |(refine an ?_;refine bF (id:=27) .false (pl:= .p 0 <| .p 3 <| .p 4 <| .r 1 <| .r 2 <| .r 5 <| .e true [(6,.e true [(7,.e true [(8,.p 9 <| .e true [(10,.done)])])])]) k.out)
  |(refine an ?_;refine bF (id:=28) .false (pl:= .p 0 <| .p 3 <| .p 5 <| .p 6 <| .r 1 <| .r 2 <| .r 4 <| .r 7 <| .e true [(8,.e true [(9,.e true [(10,.p 11 <| .e true [(12,.done)])])])]) k.out)
  |(refine an ?_;refine bF (id:=32) .false (pl:= .p 0 <| .p 3 <| .p 4 <| .p 5 <| .p 7 <| .r 1 <| .r 2 <| .r 6 <| .r 8 <| .e true [(9,.e true [(10,.e true [(11,.p 12 <| .e true [(13,.done)])])])]) k.out)):P:=h ⟨k⟩
theorem B0 {F:List HP} {e:dP} {a:Option Addr} {k:Nat} {m:bA} {w:Words} (hk:bN F 1 (.slice a e.s.ps.length k) e.s.ps.length (aj ic e.s.ps)) (cO:xW e m=true) (xZ:m.ah=3) :
    az prog 192 [.agg (Ao e a k).toArray,mv m,wv w] [] F (fun r L'=>∃ p c,r= .tuple [.agg (G8 (dx e m) a k p (bP e m w).length c (jS e m)).toArray,.int .i64 0].toArray∧
      L'=[aT 159 15 (.slice p (bP e m w).length c) (bP e m w).length (aj mc (bP e m w))]):=by
  obtain ⟨hm,h2,h3,h4,h5⟩:=kF cO;have dX:lQ e=true:=lc hm h2 h3;have hn:=(cP hm).2.2;have h0:=Dr cO (.inr xZ);have hM:=fun F (hk:bN F 1 (.slice a e.s.ps.length k) e.s.ps.length (aj ic e.s.ps))=>pP (F:=F) hk (om);simp only [dX] at hM;have e1:dx e m=rc e m:=by unfold dx;rw [if_pos h0,if_neg (om),if_neg (om)]
  have e2:bP e m w=[fw m 10 m.src 0 0 0 .zero]:=by unfold bP;rw [if_pos h0,if_neg (om),if_neg (om)]
  have e3:jS e m=decide (e.o=m.src):=by simp [jS,h0,xZ]
  rw [e1,e2,e3];refine ay func192 ntmps192 ?_;cases hh:dM e.s m.src with
  |true=>
   have hA:=fun F (hk:bN F 1 (.slice a e.s.ps.length k) e.s.ps.length (aj ic e.s.ps))=>oO (F:=F) (x:=m.src) hk hm h4 h5 hh;by_cases g1:e.o=m.src
   ·have e4:rc e m=⟨-1,e.s⟩:=if_pos g1;rw [e4];repeat' (first|refine go ?_|intro _|refine pG ?_|refine av ?_|refine ae @hM ?_|refine ae @hA ?_|refine ae @kj ?_|refine bj ?_ ?_|fail)
    all_goals (apply ad rfl rfl ar)
    all_goals first|exact ⟨_,_,by rw [G8,decide_eq_true g1];rfl,rfl⟩|(refine xn ?_;exact af)
   ·have e4:rc e m=e:=if_neg g1;rw [e4];repeat' (first|refine go ?_|intro _|refine pG ?_|refine av ?_|refine ae @hM ?_|refine ae @hA ?_|refine ae @kj ?_|refine bj ?_ ?_|fail)
    all_goals (apply ad rfl rfl ar)
    all_goals first|exact ⟨_,_,by rw [G8,decide_eq_false g1];rfl,rfl⟩|(refine xn ?_;exact af)
  |false=>
   have hA:=fun F (hk:bN F 1 (.slice a e.s.ps.length k) e.s.ps.length (aj ic e.s.ps))=>vr (F:=F) (x:=m.src) hk (om) (fun h=>by rw [hh] at h;cases h);by_cases g1:e.o=m.src
   ·have e4:rc e m=⟨-1,e.s⟩:=if_pos g1;rw [e4];repeat' (first|refine go ?_|intro _|refine pG ?_|refine av ?_|refine ae @hM ?_|refine ae @hA ?_|refine ae @kj ?_|refine bj ?_ ?_|fail)
    all_goals (apply ad rfl rfl ar)
    all_goals first|exact ⟨_,_,by rw [G8,decide_eq_true g1];rfl,rfl⟩|(refine xn ?_;exact af)
   ·have e4:rc e m=e:=if_neg g1;rw [e4];repeat' (first|refine go ?_|intro _|refine pG ?_|refine av ?_|refine ae @hM ?_|refine ae @hA ?_|refine ae @kj ?_|refine bj ?_ ?_|fail)
    all_goals (apply ad rfl rfl ar)
    all_goals first|exact ⟨_,_,by rw [G8,decide_eq_false g1];rfl,rfl⟩|(refine xn ?_;exact af)
end
section
theorem FN {L:List HP} {xs:List kW} {i:Nat} (hi:i<xs.length) {y:kW} (h:y.1.s.ps=xs[i].1.s.ps) (h2:y.2=xs[i].2):ai (bZ (xs.map oK)::L) (bZ ((xs.set i y).map oK)::L):=by
  refine ai.trans (nj (f:=oK) i hi) ?_;have e:oK y=oK xs[i]:=by
    obtain ⟨⟨o,⟨a,b,l,c⟩⟩,p,k⟩:=y;dsimp only at h h2;subst h;obtain ⟨e1,e2⟩:=Prod.mk.inj h2;subst e1 e2;rfl
  rw [←e];exact uv (f:=oK) i hi y
theorem Re {L:List HP} {T:TypeId} {xs:List kW} {i:Nat} (hi:i<xs.length) {y:kW}:ai (aT T 1 (Sn y) y.1.s.ps.length (aj ic y.1.s.ps)::bZ (xs.map oK)::L) (bZ ((xs.set i y).map oK)::L):=by
  refine ai.trans zY ?_;refine ai.trans (ai.cons (nj (f:=oK) i hi)) ?_;refine ai.trans (ai.cons (ai.drop ai.refl)) ?_;exact uv (f:=oK) i hi y
theorem Rf {L:List HP} {xs:List kW} {i:Nat} (hi:i<xs.length) {e:dP} (h:e.s.ps=[]):ai (bZ (xs.map oK)::L) (bZ ((xs.set i (e,none,0)).map oK)::L):=by
  refine ai.trans (nj (f:=oK) i hi) ?_;refine ai.trans (ai.drop ai.refl) ?_;obtain ⟨o,⟨a,b,l,c⟩⟩:=e;dsimp only at h;subst h;refine ai.trans ?_ (uv (f:=oK) i hi _);exact zZ
theorem Hv {L:List HP} {xs:List kW} {i:Nat} (hi:i<xs.length):bN (bZ (xs.map oK)::L) 1 (.slice xs[i].2.1 xs[i].1.s.ps.length xs[i].2.2) xs[i].1.s.ps.length (aj ic xs[i].1.s.ps):=by
  have k:bN (oK xs[i]::bZ ((xs.eraseIdx i).map oK)::L) 1 (Sn xs[i]) xs[i].1.s.ps.length (aj ic xs[i].1.s.ps):=bN.WX;have e:=nj (f:=oK) (L:=L) i hi;exact ⟨fun w h=>k.len w (e.gX h),fun w h=>k.q7 w (e.gX h),fun w h=>k.pf w (e.gX h)⟩
theorem Lq {s:ij} {x:Int} (hm:cK s=true) (h4:0≤x) (h5:x<s.ax) (h:dM s x=true):c7 s x=s:=by
  have e:jU s x=0:=by unfold jU;rw [if_pos hm,if_neg (om)]
  unfold c7;rw [if_pos e,if_pos h]
theorem IG {e:dP} {m:bA} (h0:fo e m=0) (hk:m.ah=1) (ho:¬e.o=m.src) (hh:dM e.s m.src=true):dx e m=e:=by
  obtain ⟨hm,h2,h3,h4,h5⟩:=kF (pW h0).1;have ha:=Lq hm h4 h5 hh;have g2:¬(uc e []).length=0:=fun h=>by
    have hx:m.src∈eE e.s [] e.s.ax.toNat:=(D3 hm).2 ⟨hh,by simp⟩;have h':(eE e.s [] e.s.ax.toNat).length=0:=h;rw [List.eq_nil_of_length_eq_zero h'] at hx;cases hx
  unfold dx kX;rw [if_pos h0,if_pos hk,if_neg ho,ha];rw [if_neg g2];split<;>rfl
theorem xo {p q:HP} {L:List HP}:ai (p::q::L) (q::p::L):=fD (List.Perm.swap _ _ _)
theorem az.qH {P:Program} {f:FuncId} {vs:List Value} {p:HP} {F:List HP} {post tm:Value→List HP→Prop} (C:az P f vs [] (p::F) post)
    (h:∀ v L',post v L'→∃ Vy,tm v Vy∧ai (eX L' (p::F)) (eX Vy F)):az P f vs [p] F tm:=
  ⟨C.enters,fun w hw=>(C.runs w hw).mono (by
    rintro e w' ⟨v,L',he,hp,hs⟩;obtain ⟨Vy,h1,h2⟩:=h v L' hp;exact ⟨v,Vy,he,h1,h2.gX hs⟩)⟩
attribute [local irreducible] Exit.then Exit.inBlock Code.wp WC WO WE WQ V aW dL Sat bz bK dU IntKind.wrap WR Code.rounds WT KO
theorem Rg {F:List HP} {xs:List kW} {i:Nat} (hi:i<xs.length) {m:bA} {w:Words} (h0:fo xs[i].1 m=0) :
    az prog 192 [O4 xs[i],mv m,wv w] [bZ (xs.map oK)] F (fun r L'=>∃ a k p c,r= .tuple [.agg (G8 (dx xs[i].1 m) a k p (bP xs[i].1 m w).length c (jS xs[i].1 m)).toArray,.int .i64 0].toArray∧
      L'=[bZ ((xs.set i (dx xs[i].1 m,a,k)).map oK),aT 159 15 (.slice p (bP xs[i].1 m w).length c) (bP xs[i].1 m w).length (aj mc (bP xs[i].1 m w))]):=by
  obtain ⟨cO,hk⟩:=pW h0;have kr:bN (bZ (xs.map oK)::F) 1 (.slice xs[i].2.1 xs[i].1.s.ps.length xs[i].2.2) xs[i].1.s.ps.length (aj ic xs[i].1.s.ps):=Hv hi;rcases hk with ⟨k1,ho⟩|k1|k1
  ·have hw:jS xs[i].1 m=false:=by simp [jS,h0,k1]
   rw [hw];cases hh:dM xs[i].1.s m.src with
   |false=>
    refine az.qH (Ai kr cO k1 ho hh) ?_;rintro v L' ⟨a,k,p,c,rfl,rfl⟩;exact ⟨_,⟨a,k,p,c,rfl,rfl⟩,ai.trans (ai.cons xo) (Re hi (y:=(dx xs[i].1 m,a,k)))⟩
   |true=>
    have e1:=IG h0 k1 ho hh;refine az.qH (yM kr cO k1 ho hh) ?_;rintro v L' ⟨p,c,rfl,rfl⟩;refine ⟨_,⟨xs[i].2.1,xs[i].2.2,p,c,by rw [e1],rfl⟩,ai.trans xo (FN hi ?_ rfl)⟩;rw [e1]
  ·have hw:jS xs[i].1 m=false:=by simp [jS,h0,k1]
   have e1:dx xs[i].1 m=⟨m.src,nE xs[i].1.s⟩:=by unfold dx;rw [if_pos h0,if_neg (om),if_pos k1]
   rw [hw];refine az.qH (yN kr cO k1) ?_;rintro v L' ⟨p,c,rfl,rfl⟩;refine ⟨_,⟨none,0,p,c,rfl,rfl⟩,ai.trans xo (Rf hi ?_)⟩;rw [e1];rfl
  ·have e1:(dx xs[i].1 m).s=xs[i].1.s:=by
     unfold dx rc;rw [if_pos h0,if_neg (om),if_neg (om)];split<;>rfl
   refine az.qH (B0 kr cO k1) ?_;rintro v L' ⟨p,c,rfl,rfl⟩;exact ⟨_,⟨xs[i].2.1,xs[i].2.2,p,c,rfl,rfl⟩,ai.trans xo (FN hi (by rw [e1]) rfl)⟩
theorem uU {Q P:Prop} (k:Q) (h:Hid Q→P:=by
  intro k
  first
  |(refine an ?_;refine bF (id:=10) .true (pl:= .p 0 <| .p 1 <| .p 2 <| .p 3 <| .r 4 <| .r 5 <| .e true [(6,.e true [(7,.p 8 <| .p 9 <| .e false [(10,.done)])])]) k.out)):P:=h ⟨k⟩
theorem Ou {L M:List HP} {xs:List kW} {c:au} (h:ai L (bZ (xs.map oK)::M)):ai L (bZ ((xs++[((pC c,none,0):kW)]).map oK)::M):=
  ai.trans h (ai.trans zZ (o7 (f:=oK) ((pC c,none,0):kW)))
theorem Lr {F:List HP} {c:au} {num:Int} (hc:c.wf) (h:tA c num=true):az prog 89 [c.val,.int .i64 num] [] F (fun r L'=>∃ b,r= .tuple [.pointer (some ⟨b,0,none⟩),.int .i64 0].toArray∧L'=[fI b c num (lT c num)]):=by
  have X0:=h;simp only [tA,Bool.and_eq_true,decide_eq_true_eq] at h;obtain ⟨hb,h0,h1⟩:=h;have hC:=fun F=>eC (F:=F) hc;simp only [cF,hb,if_true] at hC;have hM:=fun F=>Lf (F:=F) hc hb;have hQ:=fun F=>K5 (F:=F) (yu hb);have hB:=(kL hb).2.2.2;have hT:∀ F,az prog 178 [.int .i64 c.ax,.int .i64 c.ef] [] F (fun r L'=>r= .tuple [.agg (Ao (pC c) none 0).toArray,.int .i64 0].toArray∧L'=[]):=fun F=>by
    have:=Lo (F:=F) (ax:=c.ax) (dJ:=c.ef);simp only [Ho hb,if_true] at this;exact this
  obtain ⟨n,hn⟩:∃ n:Nat,c.aZ=n:=⟨c.aZ.toNat,om⟩;refine ay func89 ntmps89 ?_;repeat first|refine go ?_|intro _|refine uU ?_|refine av ?_|refine ae @hC ?_|refine ae @hM ?_|refine ae @hQ ?_
  rename_i bc be bq b;apply aO (E0:=[(2,_),(10,_)]) (fun E0 (q:Nat×Option Addr×Nat)=>(11,.int .i64 q.1)::E0) (fun q=>ao b 201 (O7 c num q.2.1 q.1 q.2.2 be bq 0)::aT 228 5 (.slice q.2.1 q.1 q.2.2) q.1 (aj zJ (List.replicate q.1 ((pC c,none,0):kW)))::bZ ((List.replicate q.1 ((pC c,none,0):kW)).map oK)::kc bq c.aQ []::oh be c (List.replicate (c.ag*c.aZ).toNat 0)::ao bc 25 c.cells::F) (fun q=>q.1≤n) (fun q=>n-q.1) (0,none,0)
  ·exact bH
  ·exact Nat.zero_le _
  ·refine ai.trans ?_ (ai.cons (aI all_nil));exact af
  ·rintro ⟨i,p,k⟩ hi;dsimp only at hi ⊢;by_cases bB:i<n
   ·repeat first|refine go ?_|intro _|refine uU ?_|refine av ?_|refine ae @hT ?_
    rename_i b12 b64 p' k';refine aC (i+1,p',k') (by dsimp only;omega) (by dsimp only;omega) ?_ ?_
    ·exact bH
    ·dsimp only;rw [List.replicate_succ',aJ,bi];exact eb @Ou
   ·have kM:i=n:=by omega
    subst kM;repeat first|refine go ?_|intro _|refine uU ?_|refine av ?_
    (apply ad rfl rfl ar)
    ·exact ⟨_,rfl,rfl⟩
    ·have he:wa c num (Iv c (ju c num)) (List.replicate i ((pC c,none,0):kW)):=by
       refine ⟨by rw [List.length_replicate];omega,fun k hk ho=>?_⟩;rw [AV,if_pos ((yx X0 k).2 ho),List.getElem_replicate]
     unfold lT;have hl:i=(List.replicate i ((pC c,none,0):kW)).length:=by rw [List.length_replicate]
     refine mj (xs:=List.replicate i ((pC c,none,0):kW)) (n:=i) (p:=p) (k:=k) (be:=be) (bq:=bq) ?_ hl rfl he;exact af
end
end Go.Sx
