/- Msg3: several of my texts as one. My own work. -/
import Derived.Test.YtjihlpjnebdiiabGreatZad
set_option linter.unusedVariables false
set_option linter.unusedSectionVars false
set_option linter.unusedSimpArgs false
set_option maxRecDepth 100000
set_option maxHeartbeats 4000000
namespace Go.Sx
open Go Go.Proofs Tryz
section
theorem kL {c:au} (h:aB c=true):(1≤c.ax∧c.ax≤64)∧(1≤c.bY∧c.bY≤16)∧(1≤c.ag∧c.ag≤8)∧(1≤c.aZ∧c.aZ≤1024):=by
  simp only [aB,eJ,Bool.and_eq_true,decide_eq_true_eq] at h;omega
theorem dV (w:Words):([Value.int .i64 w.w0,Value.int .i64 w.w1,Value.int .i64 w.w2,Value.int .i64 w.w3,Value.int .i64 w.w4,Value.int .i64 w.w5,Value.int .i64 w.w6,Value.int .i64 w.w7]=[Value.int .i64 0,Value.int .i64 0,Value.int .i64 0,Value.int .i64 0,Value.int .i64 0,Value.int .i64 0,Value.int .i64 0,Value.int .i64 0])↔w= .zero:=by
  cases w;simp [Words.zero]
attribute [local irreducible] Exit.then Exit.inBlock Code.wp WC WO WE WQ V aW dL Sat bz bK dU IntKind.wrap WR Code.rounds WT KO
theorem D4 {F:List HP} {c:au} {m:bA} (hc:c.wf):az prog 283 [c.val,mv m] [] F (fun r L'=>r= .bool (decide (bU c m))∧L'=[]):=by
  have hC:=fun F=>fT (F:=F) hc;have hW:=fun F=>jt (F:=F) (n:=m.aa) (k:=c.aZ);have hN:=fun F=>qQ (F:=F) (k:=m.ah);have hF:=fun F=>Ib (F:=F) (k:=m.ah);by_cases he:aB c=true
  ·simp only [cF,he,if_true] at hC;obtain ⟨b1,b2,b3,b4⟩:=kL he;have h0:c.bY≠0:=by omega
   by_cases hk:1≤m.ah∧m.ah≤11
   ·have Vw:ee m.ah=0∨ee m.ah=1∨ee m.ah=2:=by unfold ee;split<;>(try split)<;>(try split)<;>omega
    by_cases hl:An m.aa c.aZ
    ·simp only [hl,decide_true] at hW;have yH:0≤m.aa∧m.aa<c.aZ:=hl;have jR:m.ah=1∨m.ah=2∨m.ah=3∨m.ah=4∨m.ah=5∨m.ah=6∨m.ah=7∨m.ah=8∨m.ah=9∨m.ah=10∨m.ah=11:=by omega
     rcases jR with h|h|h|h|h|h|h|h|h|h|h
     ·have dX:bU c m↔(nq c m∧m.ag= .zero):=by simp [bU,iF,fM,cA,iG,he,h,yH]
      have xX:ri m.ah= .iface 414 (.agg #[]):=by rw [h];rfl
      simp only [xX] at hF;have hU:=fun F=>DI (F:=F) (c:=c) (m:=m) h0;refine ay func283 ntmps283 ?_;by_cases hx:nq c m
      ·simp only [hx,decide_true] at hU;by_cases hy:m.ag= .zero
       ·repeat first|refine gd ?_|intro _|refine ae @hC ?_|refine ae @hN ?_|refine ae @hW ?_|refine ae @hF ?_|refine str ?_|refine jJ @hU ?_
        simp only [dV,hy,decide_true];(apply ad rfl rfl ar;(first|exact cS|exact ⟨by simp [dX,hx,hy]<;>omega,rfl⟩);exact bM)
       ·repeat first|refine gd ?_|intro _|refine ae @hC ?_|refine ae @hN ?_|refine ae @hW ?_|refine ae @hF ?_|refine str ?_|refine jJ @hU ?_
        try simp only [dV,hy,decide_false]
        (apply ad rfl rfl ar;(first|exact cS|exact ⟨by simp [dX,hx,hy]<;>omega,rfl⟩);exact bM)
      ·simp only [hx,decide_false] at hU;repeat first|refine gd ?_|intro _|refine ae @hC ?_|refine ae @hN ?_|refine ae @hW ?_|refine ae @hF ?_|refine str ?_|refine jJ @hU ?_
       (apply ad rfl rfl ar;(first|exact cS|exact ⟨by simp [dX,hx]<;>omega,rfl⟩);exact bM)
     ·have dX:bU c m↔(nq c m∧m.ag= .zero):=by simp [bU,iF,fM,cA,iG,he,h,yH]
      have xX:ri m.ah= .iface 414 (.agg #[]):=by rw [h];rfl
      simp only [xX] at hF;have hU:=fun F=>DI (F:=F) (c:=c) (m:=m) h0;refine ay func283 ntmps283 ?_;by_cases hx:nq c m
      ·simp only [hx,decide_true] at hU;by_cases hy:m.ag= .zero
       ·repeat first|refine gd ?_|intro _|refine ae @hC ?_|refine ae @hN ?_|refine ae @hW ?_|refine ae @hF ?_|refine str ?_|refine jJ @hU ?_
        simp only [dV,hy,decide_true];(apply ad rfl rfl ar;(first|exact cS|exact ⟨by simp [dX,hx,hy]<;>omega,rfl⟩);exact bM)
       ·repeat first|refine gd ?_|intro _|refine ae @hC ?_|refine ae @hN ?_|refine ae @hW ?_|refine ae @hF ?_|refine str ?_|refine jJ @hU ?_
        try simp only [dV,hy,decide_false]
        (apply ad rfl rfl ar;(first|exact cS|exact ⟨by simp [dX,hx,hy]<;>omega,rfl⟩);exact bM)
      ·simp only [hx,decide_false] at hU;repeat first|refine gd ?_|intro _|refine ae @hC ?_|refine ae @hN ?_|refine ae @hW ?_|refine ae @hF ?_|refine str ?_|refine jJ @hU ?_
       (apply ad rfl rfl ar;(first|exact cS|exact ⟨by simp [dX,hx]<;>omega,rfl⟩);exact bM)
     ·have dX:bU c m↔(nq c m∧cG c m.ag):=by simp [bU,iF,fM,cA,iG,he,h,yH]
      have xX:ri m.ah= .iface 416 (.agg #[]):=by rw [h];rfl
      simp only [xX] at hF;have hU:=fun F=>DI (F:=F) (c:=c) (m:=m) h0;refine ay func283 ntmps283 ?_;by_cases hx:nq c m
      ·simp only [hx,decide_true] at hU;by_cases hy:cG c m.ag
       ·have hV:=fun F=>Bm (F:=F) (c:=c) (m:=m);simp only [hy,decide_true] at hV;repeat first|refine gd ?_|intro _|refine ae @hC ?_|refine ae @hN ?_|refine ae @hW ?_|refine ae @hF ?_|refine str ?_|refine jJ @hU ?_|refine jJ @hV ?_
        (apply ad rfl rfl ar;(first|exact cS|exact ⟨by simp [dX,hx,hy]<;>omega,rfl⟩);exact bM)
       ·have hV:=fun F=>Bm (F:=F) (c:=c) (m:=m);simp only [hy,decide_false] at hV;repeat first|refine gd ?_|intro _|refine ae @hC ?_|refine ae @hN ?_|refine ae @hW ?_|refine ae @hF ?_|refine str ?_|refine jJ @hU ?_|refine jJ @hV ?_
        (apply ad rfl rfl ar;(first|exact cS|exact ⟨by simp [dX,hx,hy]<;>omega,rfl⟩);exact bM)
      ·simp only [hx,decide_false] at hU;repeat first|refine gd ?_|intro _|refine ae @hC ?_|refine ae @hN ?_|refine ae @hW ?_|refine ae @hF ?_|refine str ?_|refine jJ @hU ?_
       (apply ad rfl rfl ar;(first|exact cS|exact ⟨by simp [dX,hx]<;>omega,rfl⟩);exact bM)
     ·have dX:bU c m↔(bV c m false∧m.ag= .zero):=by simp [bU,iF,fM,cA,iG,he,h,yH]
      have xX:ri m.ah= .iface 418 (.agg #[.bool false]):=by rw [h];rfl
      simp only [xX] at hF;have hU:=fun F=>uM (F:=F) (c:=c) (m:=m) (a:=false) h0;refine ay func283 ntmps283 ?_;by_cases hx:bV c m false
      ·simp only [hx,decide_true] at hU;by_cases hy:m.ag= .zero
       ·repeat first|refine gd ?_|intro _|refine ae @hC ?_|refine ae @hN ?_|refine ae @hW ?_|refine ae @hF ?_|refine str ?_|refine jJ @hU ?_
        simp only [dV,hy,decide_true];(apply ad rfl rfl ar;(first|exact cS|exact ⟨by simp [dX,hx,hy]<;>omega,rfl⟩);exact bM)
       ·repeat first|refine gd ?_|intro _|refine ae @hC ?_|refine ae @hN ?_|refine ae @hW ?_|refine ae @hF ?_|refine str ?_|refine jJ @hU ?_
        try simp only [dV,hy,decide_false]
        (apply ad rfl rfl ar;(first|exact cS|exact ⟨by simp [dX,hx,hy]<;>omega,rfl⟩);exact bM)
      ·simp only [hx,decide_false] at hU;repeat first|refine gd ?_|intro _|refine ae @hC ?_|refine ae @hN ?_|refine ae @hW ?_|refine ae @hF ?_|refine str ?_|refine jJ @hU ?_
       (apply ad rfl rfl ar;(first|exact cS|exact ⟨by simp [dX,hx]<;>omega,rfl⟩);exact bM)
     ·have dX:bU c m↔(bV c m true∧m.ag= .zero):=by simp [bU,iF,fM,cA,iG,he,h,yH]
      have xX:ri m.ah= .iface 418 (.agg #[.bool true]):=by rw [h];rfl
      simp only [xX] at hF;have hU:=fun F=>uM (F:=F) (c:=c) (m:=m) (a:=true) h0;refine ay func283 ntmps283 ?_;by_cases hx:bV c m true
      ·simp only [hx,decide_true] at hU;by_cases hy:m.ag= .zero
       ·repeat first|refine gd ?_|intro _|refine ae @hC ?_|refine ae @hN ?_|refine ae @hW ?_|refine ae @hF ?_|refine str ?_|refine jJ @hU ?_
        simp only [dV,hy,decide_true];(apply ad rfl rfl ar;(first|exact cS|exact ⟨by simp [dX,hx,hy]<;>omega,rfl⟩);exact bM)
       ·repeat first|refine gd ?_|intro _|refine ae @hC ?_|refine ae @hN ?_|refine ae @hW ?_|refine ae @hF ?_|refine str ?_|refine jJ @hU ?_
        try simp only [dV,hy,decide_false]
        (apply ad rfl rfl ar;(first|exact cS|exact ⟨by simp [dX,hx,hy]<;>omega,rfl⟩);exact bM)
      ·simp only [hx,decide_false] at hU;repeat first|refine gd ?_|intro _|refine ae @hC ?_|refine ae @hN ?_|refine ae @hW ?_|refine ae @hF ?_|refine str ?_|refine jJ @hU ?_
       (apply ad rfl rfl ar;(first|exact cS|exact ⟨by simp [dX,hx]<;>omega,rfl⟩);exact bM)
     ·have dX:bU c m↔(bV c m false∧m.ag= .zero):=by simp [bU,iF,fM,cA,iG,he,h,yH]
      have xX:ri m.ah= .iface 418 (.agg #[.bool false]):=by rw [h];rfl
      simp only [xX] at hF;have hU:=fun F=>uM (F:=F) (c:=c) (m:=m) (a:=false) h0;refine ay func283 ntmps283 ?_;by_cases hx:bV c m false
      ·simp only [hx,decide_true] at hU;by_cases hy:m.ag= .zero
       ·repeat first|refine gd ?_|intro _|refine ae @hC ?_|refine ae @hN ?_|refine ae @hW ?_|refine ae @hF ?_|refine str ?_|refine jJ @hU ?_
        simp only [dV,hy,decide_true];(apply ad rfl rfl ar;(first|exact cS|exact ⟨by simp [dX,hx,hy]<;>omega,rfl⟩);exact bM)
       ·repeat first|refine gd ?_|intro _|refine ae @hC ?_|refine ae @hN ?_|refine ae @hW ?_|refine ae @hF ?_|refine str ?_|refine jJ @hU ?_
        try simp only [dV,hy,decide_false]
        (apply ad rfl rfl ar;(first|exact cS|exact ⟨by simp [dX,hx,hy]<;>omega,rfl⟩);exact bM)
      ·simp only [hx,decide_false] at hU;repeat first|refine gd ?_|intro _|refine ae @hC ?_|refine ae @hN ?_|refine ae @hW ?_|refine ae @hF ?_|refine str ?_|refine jJ @hU ?_
       (apply ad rfl rfl ar;(first|exact cS|exact ⟨by simp [dX,hx]<;>omega,rfl⟩);exact bM)
     ·have dX:bU c m↔(g9 c m∧cG c m.ag):=by simp [bU,iF,fM,cA,iG,he,h,yH]
      have xX:ri m.ah= .iface 419 (.agg #[]):=by rw [h];rfl
      simp only [xX] at hF;have hU:=fun F=>Nr (F:=F) (c:=c) (m:=m) h0;refine ay func283 ntmps283 ?_;by_cases hx:g9 c m
      ·simp only [hx,decide_true] at hU;by_cases hy:cG c m.ag
       ·have hV:=fun F=>Bn (F:=F) (c:=c) (m:=m);simp only [hy,decide_true] at hV;repeat first|refine gd ?_|intro _|refine ae @hC ?_|refine ae @hN ?_|refine ae @hW ?_|refine ae @hF ?_|refine str ?_|refine jJ @hU ?_|refine jJ @hV ?_
        (apply ad rfl rfl ar;(first|exact cS|exact ⟨by simp [dX,hx,hy]<;>omega,rfl⟩);exact bM)
       ·have hV:=fun F=>Bn (F:=F) (c:=c) (m:=m);simp only [hy,decide_false] at hV;repeat first|refine gd ?_|intro _|refine ae @hC ?_|refine ae @hN ?_|refine ae @hW ?_|refine ae @hF ?_|refine str ?_|refine jJ @hU ?_|refine jJ @hV ?_
        (apply ad rfl rfl ar;(first|exact cS|exact ⟨by simp [dX,hx,hy]<;>omega,rfl⟩);exact bM)
      ·simp only [hx,decide_false] at hU;repeat first|refine gd ?_|intro _|refine ae @hC ?_|refine ae @hN ?_|refine ae @hW ?_|refine ae @hF ?_|refine str ?_|refine jJ @hU ?_
       (apply ad rfl rfl ar;(first|exact cS|exact ⟨by simp [dX,hx]<;>omega,rfl⟩);exact bM)
     ·have dX:bU c m↔(fC c m true∧m.ag= .zero):=by simp [bU,iF,fM,cA,iG,he,h,yH]
      have xX:ri m.ah= .iface 420 (.agg #[.bool true]):=by rw [h];rfl
      simp only [xX] at hF;have hU:=fun F=>AM (F:=F) (c:=c) (m:=m) (a:=true) h0;refine ay func283 ntmps283 ?_;by_cases hx:fC c m true
      ·simp only [hx,decide_true] at hU;by_cases hy:m.ag= .zero
       ·repeat first|refine gd ?_|intro _|refine ae @hC ?_|refine ae @hN ?_|refine ae @hW ?_|refine ae @hF ?_|refine str ?_|refine jJ @hU ?_
        simp only [dV,hy,decide_true];(apply ad rfl rfl ar;(first|exact cS|exact ⟨by simp [dX,hx,hy]<;>omega,rfl⟩);exact bM)
       ·repeat first|refine gd ?_|intro _|refine ae @hC ?_|refine ae @hN ?_|refine ae @hW ?_|refine ae @hF ?_|refine str ?_|refine jJ @hU ?_
        try simp only [dV,hy,decide_false]
        (apply ad rfl rfl ar;(first|exact cS|exact ⟨by simp [dX,hx,hy]<;>omega,rfl⟩);exact bM)
      ·simp only [hx,decide_false] at hU;repeat first|refine gd ?_|intro _|refine ae @hC ?_|refine ae @hN ?_|refine ae @hW ?_|refine ae @hF ?_|refine str ?_|refine jJ @hU ?_
       (apply ad rfl rfl ar;(first|exact cS|exact ⟨by simp [dX,hx]<;>omega,rfl⟩);exact bM)
     ·have dX:bU c m↔(dD c m∧m.ag= .zero):=by simp [bU,iF,fM,cA,iG,he,h,yH]
      have xX:ri m.ah= .iface 421 (.agg #[]):=by rw [h];rfl
      simp only [xX] at hF;have hU:=fun F=>H5 (F:=F) (c:=c) (m:=m);refine ay func283 ntmps283 ?_;by_cases hx:dD c m
      ·simp only [hx,decide_true] at hU;by_cases hy:m.ag= .zero
       ·repeat first|refine gd ?_|intro _|refine ae @hC ?_|refine ae @hN ?_|refine ae @hW ?_|refine ae @hF ?_|refine str ?_|refine jJ @hU ?_
        simp only [dV,hy,decide_true];(apply ad rfl rfl ar;(first|exact cS|exact ⟨by simp [dX,hx,hy]<;>omega,rfl⟩);exact bM)
       ·repeat first|refine gd ?_|intro _|refine ae @hC ?_|refine ae @hN ?_|refine ae @hW ?_|refine ae @hF ?_|refine str ?_|refine jJ @hU ?_
        try simp only [dV,hy,decide_false]
        (apply ad rfl rfl ar;(first|exact cS|exact ⟨by simp [dX,hx,hy]<;>omega,rfl⟩);exact bM)
      ·simp only [hx,decide_false] at hU;repeat first|refine gd ?_|intro _|refine ae @hC ?_|refine ae @hN ?_|refine ae @hW ?_|refine ae @hF ?_|refine str ?_|refine jJ @hU ?_
       (apply ad rfl rfl ar;(first|exact cS|exact ⟨by simp [dX,hx]<;>omega,rfl⟩);exact bM)
     ·have dX:bU c m↔(fC c m false∧m.ag= .zero):=by simp [bU,iF,fM,cA,iG,he,h,yH]
      have xX:ri m.ah= .iface 420 (.agg #[.bool false]):=by rw [h];rfl
      simp only [xX] at hF;have hU:=fun F=>AM (F:=F) (c:=c) (m:=m) (a:=false) h0;refine ay func283 ntmps283 ?_;by_cases hx:fC c m false
      ·simp only [hx,decide_true] at hU;by_cases hy:m.ag= .zero
       ·repeat first|refine gd ?_|intro _|refine ae @hC ?_|refine ae @hN ?_|refine ae @hW ?_|refine ae @hF ?_|refine str ?_|refine jJ @hU ?_
        simp only [dV,hy,decide_true];(apply ad rfl rfl ar;(first|exact cS|exact ⟨by simp [dX,hx,hy]<;>omega,rfl⟩);exact bM)
       ·repeat first|refine gd ?_|intro _|refine ae @hC ?_|refine ae @hN ?_|refine ae @hW ?_|refine ae @hF ?_|refine str ?_|refine jJ @hU ?_
        try simp only [dV,hy,decide_false]
        (apply ad rfl rfl ar;(first|exact cS|exact ⟨by simp [dX,hx,hy]<;>omega,rfl⟩);exact bM)
      ·simp only [hx,decide_false] at hU;repeat first|refine gd ?_|intro _|refine ae @hC ?_|refine ae @hN ?_|refine ae @hW ?_|refine ae @hF ?_|refine str ?_|refine jJ @hU ?_
       (apply ad rfl rfl ar;(first|exact cS|exact ⟨by simp [dX,hx]<;>omega,rfl⟩);exact bM)
     ·have dX:bU c m↔(nq c m∧m.ag= .zero):=by simp [bU,iF,fM,cA,iG,he,h,yH]
      have xX:ri m.ah= .iface 414 (.agg #[]):=by rw [h];rfl
      simp only [xX] at hF;have hU:=fun F=>DI (F:=F) (c:=c) (m:=m) h0;refine ay func283 ntmps283 ?_;by_cases hx:nq c m
      ·simp only [hx,decide_true] at hU;by_cases hy:m.ag= .zero
       ·repeat first|refine gd ?_|intro _|refine ae @hC ?_|refine ae @hN ?_|refine ae @hW ?_|refine ae @hF ?_|refine str ?_|refine jJ @hU ?_
        simp only [dV,hy,decide_true];(apply ad rfl rfl ar;(first|exact cS|exact ⟨by simp [dX,hx,hy]<;>omega,rfl⟩);exact bM)
       ·repeat first|refine gd ?_|intro _|refine ae @hC ?_|refine ae @hN ?_|refine ae @hW ?_|refine ae @hF ?_|refine str ?_|refine jJ @hU ?_
        try simp only [dV,hy,decide_false]
        (apply ad rfl rfl ar;(first|exact cS|exact ⟨by simp [dX,hx,hy]<;>omega,rfl⟩);exact bM)
      ·simp only [hx,decide_false] at hU;repeat first|refine gd ?_|intro _|refine ae @hC ?_|refine ae @hN ?_|refine ae @hW ?_|refine ae @hF ?_|refine str ?_|refine jJ @hU ?_
       (apply ad rfl rfl ar;(first|exact cS|exact ⟨by simp [dX,hx]<;>omega,rfl⟩);exact bM)
    ·simp only [hl,decide_false] at hW;have dC:¬bU c m:=fun h=>hl h.2.2.1;refine ay func283 ntmps283 ?_;repeat first|refine gd ?_|intro _|refine ae @hC ?_|refine ae @hN ?_|refine ae @hW ?_
     (apply ad rfl rfl ar;(first|exact cS|exact ⟨by simp [dC]<;>omega,rfl⟩);exact bM)
   ·have Vw:ee m.ah= -1:=by unfold ee;rw [if_neg (om),if_neg (om),if_neg (om)]
    have dC:¬bU c m:=fun h=>hk h.2.1;simp only [Vw] at hN;refine ay func283 ntmps283 ?_;repeat first|refine gd ?_|intro _|refine ae @hC ?_|refine ae @hN ?_
    (apply ad rfl rfl ar;(first|exact cS|exact ⟨by simp [dC]<;>omega,rfl⟩);exact bM)
  ·simp only [cF,if_neg he] at hC;have dC:¬bU c m:=fun h=>he h.1;refine ay func283 ntmps283 ?_;repeat first|refine gd ?_|intro _|refine ae @hC ?_
   (apply ad rfl rfl ar;(first|exact cS|exact ⟨by simp [dC]<;>omega,rfl⟩);exact bM)
end
end Go.Sx
