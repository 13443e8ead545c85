/- MsgRb, MsgRc: several of my texts as one. My own work. -/
import Derived.Test.YtjihlpjnebdiiabGreatZai
set_option linter.unusedVariables false
set_option linter.unusedSectionVars false
set_option linter.unusedSimpArgs false
set_option maxRecDepth 100000
set_option maxHeartbeats 4000000
namespace Go.Sx
open Go Go.Proofs Tryz
section
attribute [local irreducible] Exit.then Exit.inBlock Code.wp WC WO WE WQ V aW dL Sat bz bK dU IntKind.wrap WR Code.rounds WT KO
theorem GD {F:List HP} {c:au} {m:bA} (hc:c.wf) (he:aB c=true) (hl:0≤m.aa∧m.aa<c.aZ) (jR:m.ah=4∨m.ah=5∨m.ah=6):az prog 198 [c.val,mv m] [] F (fun r L'=>r= .bool (decide (bU c m))∧L'=[]):=by
  have hC:=fun F=>eC (F:=F) hc;have hH:=fun F=>gW (F:=F) (k:=m.ah);have hS:=fun F=>gV (F:=F) (c:=c) (n:=m.src);have hD:=fun F=>gV (F:=F) (c:=c) (n:=m.dst);have hW:=fun F=>gV (F:=F) (c:=c) (n:=m.mu);simp only [An] at hS hD hW;refine ay func198 ntmps198 ?_;simp only [cF,he,if_true] at hC;obtain ⟨b1,b2,b3,b4⟩:=xg he;have h0:c.bY≠0:=by omega
  have hk:1≤m.ah∧m.ah≤11:=by omega
  repeat first|refine gd ?_|intro _|refine ae @hC ?_
  rename_i bs bm
  apply mT (P:=prog) (fun _:Unit=>[(6,.int .i64 0),(2,.pointer (some ⟨bs,0,none⟩)),(3,.pointer (some ⟨bm,0,none⟩))]) (fun _=>ao bm 159 (mc m)::ao bs 25 c.cells::F)
    (fun _=>bU c m↔∀ i,i<8→oS c m.ah m.ag i)
  ·intro join;rcases jR with h|h|h
   ·have eF:bU c m↔(bV c m false∧m.ag= .zero):=by simp [bU,iF,fM,cA,iG,he,h,hl]
    rw [lF (c:=c) (k:=m.ah) (om)] at eF;have hh:decide (cA m.ah)=false:=by rw [h];rfl
    simp only [hh] at hH;by_cases hx:bV c m false
    ·have hj:bU c m↔∀ i,i<8→oS c m.ah m.ag i:=by rw [eF];exact ⟨fun h=>h.2,fun h=>⟨hx,h⟩⟩
     simp only [nq,bV,fC,dD,g9,eD,fQ,Bool.false_eq_true,if_false,if_true,true_and] at hx;repeat' (first|refine gd ?_|intro _|refine ae @hH ?_|refine ae @hS ?_|refine ae @hD ?_|refine ae @hW ?_|refine bj ?_ ?_|fail)
     all_goals first|(exfalso;omega)|exact join () _ _ hj (by exact bH) (by exact af)
    ·have dC:¬bU c m:=fun h=>hx (eF.1 h).1;simp only [nq,bV,fC,dD,g9,eD,fQ,Bool.false_eq_true,if_false,if_true,true_and] at hx;repeat' (first|refine gd ?_|intro _|refine ae @hH ?_|refine ae @hS ?_|refine ae @hD ?_|refine ae @hW ?_|refine bj ?_ ?_|fail)
     all_goals first|(exfalso;omega)|(apply ad rfl rfl ar;(first|exact cS|exact ⟨by simp [dC]<;>omega,rfl⟩);exact bM)
   ·have eF:bU c m↔(bV c m true∧m.ag= .zero):=by simp [bU,iF,fM,cA,iG,he,h,hl]
    rw [lF (c:=c) (k:=m.ah) (om)] at eF;have hh:decide (cA m.ah)=false:=by rw [h];rfl
    simp only [hh] at hH;by_cases hx:bV c m true
    ·have hj:bU c m↔∀ i,i<8→oS c m.ah m.ag i:=by rw [eF];exact ⟨fun h=>h.2,fun h=>⟨hx,h⟩⟩
     simp only [nq,bV,fC,dD,g9,eD,fQ,Bool.false_eq_true,if_false,if_true,true_and] at hx;repeat' (first|refine gd ?_|intro _|refine ae @hH ?_|refine ae @hS ?_|refine ae @hD ?_|refine ae @hW ?_|refine bj ?_ ?_|fail)
     all_goals first|(exfalso;omega)|exact join () _ _ hj (by exact bH) (by exact af)
    ·have dC:¬bU c m:=fun h=>hx (eF.1 h).1;simp only [nq,bV,fC,dD,g9,eD,fQ,Bool.false_eq_true,if_false,if_true,true_and] at hx;repeat' (first|refine gd ?_|intro _|refine ae @hH ?_|refine ae @hS ?_|refine ae @hD ?_|refine ae @hW ?_|refine bj ?_ ?_|fail)
     all_goals first|(exfalso;omega)|(apply ad rfl rfl ar;(first|exact cS|exact ⟨by simp [dC]<;>omega,rfl⟩);exact bM)
   ·have eF:bU c m↔(bV c m false∧m.ag= .zero):=by simp [bU,iF,fM,cA,iG,he,h,hl]
    rw [lF (c:=c) (k:=m.ah) (om)] at eF;have hh:decide (cA m.ah)=false:=by rw [h];rfl
    simp only [hh] at hH;by_cases hx:bV c m false
    ·have hj:bU c m↔∀ i,i<8→oS c m.ah m.ag i:=by rw [eF];exact ⟨fun h=>h.2,fun h=>⟨hx,h⟩⟩
     simp only [nq,bV,fC,dD,g9,eD,fQ,Bool.false_eq_true,if_false,if_true,true_and] at hx;repeat' (first|refine gd ?_|intro _|refine ae @hH ?_|refine ae @hS ?_|refine ae @hD ?_|refine ae @hW ?_|refine bj ?_ ?_|fail)
     all_goals first|(exfalso;omega)|exact join () _ _ hj (by exact bH) (by exact af)
    ·have dC:¬bU c m:=fun h=>hx (eF.1 h).1;simp only [nq,bV,fC,dD,g9,eD,fQ,Bool.false_eq_true,if_false,if_true,true_and] at hx;repeat' (first|refine gd ?_|intro _|refine ae @hH ?_|refine ae @hS ?_|refine ae @hD ?_|refine ae @hW ?_|refine bj ?_ ?_|fail)
     all_goals first|(exfalso;omega)|(apply ad rfl rfl ar;(first|exact cS|exact ⟨by simp [dC]<;>omega,rfl⟩);exact bM)
  ·intro _ dX;apply aO (E0:=[(2,_),(3,_)]) (fun E0 (i:Nat)=>(6,.int .i64 i)::E0) (fun _=>ao bm 159 (mc m)::ao bs 25 c.cells::F) (fun i=>i≤8∧∀ j,j<i→oS c m.ah m.ag j) (fun i=>8-i) 0
   ·exact bH
   ·exact ⟨om,fun j hj=>by omega⟩
   ·exact af
   ·rintro i ⟨hi,cO⟩;by_cases bB:i<8
    ·have hg:=sW m i bB;have hn:¬oS c m.ah m.ag i→¬bU c m:=fun h hv=>h (dX.1 hv i bB);by_cases ho:oS c m.ah m.ag i
     ·have PG:=ho;unfold oS at ho;repeat' (first|refine gd ?_|intro _|refine bj ?_ ?_|fail)
      all_goals first
      |(exfalso;omega)
      |(refine aC (i+1) (om) ⟨om,fun j hj=>?_⟩ ?_ ?_
        ·by_cases rq:j=i
         ·subst rq;exact PG
         ·exact cO j (om)
        ·exact bH
        ·exact af)
     ·have dC:=hn ho;unfold oS at ho;repeat' (first|refine gd ?_|intro _|refine bj ?_ ?_|fail)
      all_goals first|(exfalso;omega)|(apply ad rfl rfl ar;(first|exact cS|exact ⟨by simp [dC]<;>omega,rfl⟩);exact bM)
    ·have yI:i=8:=by omega
     subst yI;have oD:=dX.2 cO;repeat first|refine gd ?_|intro _
     (apply ad rfl rfl ar;(first|exact cS|exact ⟨by simp [oD]<;>omega,rfl⟩);exact bM)
end
section
attribute [local irreducible] Exit.then Exit.inBlock Code.wp WC WO WE WQ V aW dL Sat bz bK dU IntKind.wrap WR Code.rounds WT KO
theorem GF {F:List HP} {c:au} {m:bA} (hc:c.wf) (he:aB c=true) (hl:0≤m.aa∧m.aa<c.aZ) (jR:m.ah=7):az prog 198 [c.val,mv m] [] F (fun r L'=>r= .bool (decide (bU c m))∧L'=[]):=by
  have hC:=fun F=>eC (F:=F) hc;have hH:=fun F=>gW (F:=F) (k:=m.ah);have hS:=fun F=>gV (F:=F) (c:=c) (n:=m.src);have hD:=fun F=>gV (F:=F) (c:=c) (n:=m.dst);have hW:=fun F=>gV (F:=F) (c:=c) (n:=m.mu);simp only [An] at hS hD hW;refine ay func198 ntmps198 ?_;simp only [cF,he,if_true] at hC;obtain ⟨b1,b2,b3,b4⟩:=xg he;have h0:c.bY≠0:=by omega
  have hk:1≤m.ah∧m.ah≤11:=by omega
  repeat first|refine gd ?_|intro _|refine ae @hC ?_
  rename_i bs bm
  apply mT (P:=prog) (fun _:Unit=>[(6,.int .i64 0),(2,.pointer (some ⟨bs,0,none⟩)),(3,.pointer (some ⟨bm,0,none⟩))]) (fun _=>ao bm 159 (mc m)::ao bs 25 c.cells::F)
    (fun _=>bU c m↔∀ i,i<8→oS c m.ah m.ag i)
  ·intro join;have h:=jR;have eF:bU c m↔(g9 c m∧cG c m.ag):=by simp [bU,iF,fM,cA,iG,he,h,hl]
   rw [Db (c:=c) (k:=m.ah) (om)] at eF;have hh:decide (cA m.ah)=false:=by rw [h];rfl
   simp only [hh] at hH;by_cases hx:g9 c m
   ·have hj:bU c m↔∀ i,i<8→oS c m.ah m.ag i:=by rw [eF];exact ⟨fun h=>h.2,fun h=>⟨hx,h⟩⟩
    simp only [nq,bV,fC,dD,g9,eD,fQ,Bool.false_eq_true,if_false,if_true,true_and] at hx;repeat' (first|refine gd ?_|intro _|refine ae @hH ?_|refine ae @hS ?_|refine ae @hD ?_|refine ae @hW ?_|refine bj ?_ ?_|fail)
    all_goals first|(exfalso;omega)|exact join () _ _ hj (by exact bH) (by exact af)
   ·have dC:¬bU c m:=fun h=>hx (eF.1 h).1;simp only [nq,bV,fC,dD,g9,eD,fQ,Bool.false_eq_true,if_false,if_true,true_and] at hx;repeat' (first|refine gd ?_|intro _|refine ae @hH ?_|refine ae @hS ?_|refine ae @hD ?_|refine ae @hW ?_|refine bj ?_ ?_|fail)
    all_goals first|(exfalso;omega)|(apply ad rfl rfl ar;(first|exact cS|exact ⟨by simp [dC]<;>omega,rfl⟩);exact bM)
  ·intro _ dX;apply aO (E0:=[(2,_),(3,_)]) (fun E0 (i:Nat)=>(6,.int .i64 i)::E0) (fun _=>ao bm 159 (mc m)::ao bs 25 c.cells::F) (fun i=>i≤8∧∀ j,j<i→oS c m.ah m.ag j) (fun i=>8-i) 0
   ·exact bH
   ·exact ⟨om,fun j hj=>by omega⟩
   ·exact af
   ·rintro i ⟨hi,cO⟩;by_cases bB:i<8
    ·have hg:=sW m i bB;have hn:¬oS c m.ah m.ag i→¬bU c m:=fun h hv=>h (dX.1 hv i bB);by_cases ho:oS c m.ah m.ag i
     ·have PG:=ho;unfold oS at ho;repeat' (first|refine gd ?_|intro _|refine bj ?_ ?_|fail)
      all_goals first
      |(exfalso;omega)
      |(refine aC (i+1) (om) ⟨om,fun j hj=>?_⟩ ?_ ?_
        ·by_cases rq:j=i
         ·subst rq;exact PG
         ·exact cO j (om)
        ·exact bH
        ·exact af)
     ·have dC:=hn ho;unfold oS at ho;repeat' (first|refine gd ?_|intro _|refine bj ?_ ?_|fail)
      all_goals first|(exfalso;omega)|(apply ad rfl rfl ar;(first|exact cS|exact ⟨by simp [dC]<;>omega,rfl⟩);exact bM)
    ·have yI:i=8:=by omega
     subst yI;have oD:=dX.2 cO;repeat first|refine gd ?_|intro _
     (apply ad rfl rfl ar;(first|exact cS|exact ⟨by simp [oD]<;>omega,rfl⟩);exact bM)
end
end Go.Sx
