/- MemR, MsgR2: several of my texts as one. My own work. -/
import Derived.Test.YtjihlpjnebdiiabGreatZan
import Derived.Test.YtjihlpjnebdiiabGreatZal
import Derived.Test.YtjihlpjnebdiiabGreatZaq
import Derived.Test.YtjihlpjnebdiiabGreatZam
set_option linter.unusedVariables false
set_option linter.unusedSectionVars false
set_option linter.unusedSimpArgs false
set_option maxRecDepth 100000
set_option maxHeartbeats 4000000
namespace Go.Sx
open Go Go.Proofs Tryz
section
theorem CK (w:Words):Words.of w.list=w:=rfl
theorem FI {w:Words} {i:Nat} (hi:i<8) (v:Int):aV (wc w) (0+((i:Nat):Int).toNat*1) [.int .i64 v]=wc (Words.of (w.list.set i v)):=by
  rw [Nat.zero_add,Nat.mul_one,Int.toNat_natCast];rw [show wc w=aj ic w.list from rfl,sa (ms:=w.list) hi,DP (by rw [List.length_set];rfl)]
attribute [local irreducible] Exit.then Exit.inBlock Code.wp WC WO WE WQ V aW dL Sat bz bK dU IntKind.wrap WR Code.rounds WT KO
theorem GM {F:List HP} {c:au} {w:Words} {x:c5} (hc:c.wf) (hx:x.wf):az prog 262 [c.val,wv w,ov x] [] F (fun r L'=>r= .tuple [wv (vN c w x),.int .i64 (BM c w x),.int .i64 (zI c x)].toArray∧L'=[]):=by
  have hC:=fun F=>eC (F:=F) hc;have hM:=fun F=>Df (F:=F) (x:=x);cases e0:aB c with
  |false=>
   have ha:nA c x=false:=by simp [nA,fE,e0]
   simp only [cF,e0,Bool.false_eq_true,if_false] at hC;refine ay func262 ntmps262 ?_;repeat first|refine gd ?_|intro _|refine ae @hC ?_
   (apply ad rfl rfl ar)
   ·exact ⟨by simp [vN,BM,zI,ha,Words.zero],rfl⟩
   ·exact af
  |true=>
   simp only [cF,e0,if_true] at hC;cases e2:k8 x with
   |false=>
    have ha:nA c x=false:=by simp [nA,e2]
    simp only [e2] at hM;refine ay func262 ntmps262 ?_;repeat first|refine gd ?_|intro _|refine ae @hC ?_|refine ae @hM ?_
    (apply ad rfl rfl ar)
    ·exact ⟨by simp [vN,BM,zI,ha,Words.zero],rfl⟩
    ·exact af
   |true=>
    simp only [e2] at hM;have hmf:=C5 e2;by_cases e3:x.ah=4
    ·have ha:nA c x=false:=by simp [nA,e3]
     refine ay func262 ntmps262 ?_;repeat first|refine gd ?_|intro _|refine ae @hC ?_|refine ae @hM ?_
     (apply ad rfl rfl ar)
     ·exact ⟨by simp [vN,BM,zI,ha,Words.zero],rfl⟩
     ·exact af
    ·have hw:=dR e0;have hm:=tL (m:=8) (n:=1024) (a:=c.ag) (b:=c.aZ) (om) (om) (om) (om) (om);simp only [Int.reduceMul] at hm;by_cases e4:x.addr≥c.ag*c.aZ
     ·have ha:nA c x=false:=by simp only [nA,fE,decide_eq_false (show ¬(0≤x.addr∧x.addr<c.ag*c.aZ) by omega),Bool.and_false,Bool.false_and]
      refine ay func262 ntmps262 ?_;repeat first|refine gd ?_|intro _|refine ae @hC ?_|refine ae @hM ?_
      (apply ad rfl rfl ar)
      ·exact ⟨by simp [vN,BM,zI,ha,Words.zero],rfl⟩
      ·exact af
     ·have cO:fE c x.addr=true:=by simp [fE,e0];omega
      have ha:nA c x=true:=by simp [nA,cO,e2,e3]
      have e5:nH c x.addr=x.addr % c.ag:=if_pos cO;obtain ⟨i,hi⟩:∃ i:Nat,x.addr % c.ag=i:=⟨(x.addr % c.ag).toNat,by have:=Int.emod_nonneg x.addr (show c.ag≠0 by omega);omega⟩;have yI:i<8:=by have:=Int.emod_lt_of_pos x.addr (show 0<c.ag by omega);omega
      have JX:x.addr.tmod c.ag=i:=by rw [z2 (om),hi]
      have hg:=RV w i yI;have e6:BM c w x=oN w.list i x:=by unfold BM;rw [if_pos ha,e5,hi,Int.toNat_natCast]
      have e7:vN c w x=Words.of (iV w.list i x):=by unfold vN;rw [if_pos ha,e5,hi,Int.toNat_natCast]
      have e8:zI c x=0:=if_pos ha;have hle:Nat.ble (0+((i:Nat):Int).toNat*1+1) (wc w).length=true:=by
        apply Nat.ble_eq_true_of_le;simp;omega
      rw [e6,e7,e8];refine ay func262 ntmps262 ?_;rcases hmf.1 with k1|k1|k1|k1
      ·repeat first|refine gd ?_|intro _|refine ae @hC ?_|refine ae @hM ?_
       rw [JX];repeat first|refine gd ?_|intro _
       (apply ad rfl rfl ar)
       ·exact ⟨by simp [oN,iV,k1,CK],rfl⟩
       ·exact af
      ·repeat first|refine gd ?_|intro _|refine ae @hC ?_|refine ae @hM ?_
       rw [JX];repeat first|refine gd ?_|intro _
       refine mY rfl (nN (cs:=[.int .i64 x.value]) rfl rfl inferInstance rfl rfl rfl hle) (aU ?_);rw [FI yI];repeat first|refine gd ?_|intro _
       (apply ad rfl rfl ar)
       ·exact ⟨by simp [oN,iV,k1],rfl⟩
       ·exact af
      ·repeat first|refine gd ?_|intro _|refine ae @hC ?_|refine ae @hM ?_
       rw [JX];repeat first|refine gd ?_|intro _
       refine mY rfl (nN (cs:=[.int .i64 x.value]) rfl rfl inferInstance rfl rfl rfl hle) (aU ?_);rw [FI yI];repeat first|refine gd ?_|intro _
       (apply ad rfl rfl ar)
       ·exact ⟨by simp [oN,iV,k1],rfl⟩
       ·exact af
      ·exact absurd k1 e3
end
section
attribute [local irreducible] Exit.then Exit.inBlock Code.wp WC WO WE WQ V aW dL Sat bz bK dU IntKind.wrap WR Code.rounds WT KO
theorem jP {F:List HP} {c:au} {m:bA} (hc:c.wf):az prog 198 [c.val,mv m] [] F (fun r L'=>r= .bool (decide (bU c m))∧L'=[]):=by
  have hC:=fun F=>eC (F:=F) hc;by_cases he:aB c=true
  ·simp only [cF,he,if_true] at hC;by_cases hk:1≤m.ah∧m.ah≤11
   ·by_cases hl:0≤m.aa∧m.aa<c.aZ
    ·by_cases g1:m.ah=1∨m.ah=2∨m.ah=3
     ·exact GI hc he hl g1
     ·by_cases g2:m.ah=4∨m.ah=5∨m.ah=6
      ·exact GD hc he hl g2
      ·by_cases g3:m.ah=7
       ·exact GF hc he hl g3
       ·exact GG hc he hl (om)
    ·have dC:¬bU c m:=fun h=>hl h.2.2.1;refine ay func198 ntmps198 ?_;repeat' (first|refine gd ?_|intro _|refine ae @hC ?_|refine bj ?_ ?_|fail)
     all_goals first|omega|(apply ad rfl rfl ar;(first|exact cS|exact ⟨by simp [dC]<;>omega,rfl⟩);exact bM)
   ·have dC:¬bU c m:=fun h=>hk h.2.1;refine ay func198 ntmps198 ?_;repeat' (first|refine gd ?_|intro _|refine ae @hC ?_|refine bj ?_ ?_|fail)
    all_goals first|omega|(apply ad rfl rfl ar;(first|exact cS|exact ⟨by simp [dC]<;>omega,rfl⟩);exact bM)
  ·simp only [cF,if_neg he] at hC;have dC:¬bU c m:=fun h=>he h.1;refine ay func198 ntmps198 ?_;repeat first|refine gd ?_|intro _|refine ae @hC ?_
   (apply ad rfl rfl ar;(first|exact cS|exact ⟨by simp [dC]<;>omega,rfl⟩);exact bM)
end
end Go.Sx
