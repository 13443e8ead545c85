/- Net, MsgRa: several of my texts as one. My own work. -/
import Derived.Test.YtjihlpjnebdiiabGreatZaj
import Derived.Test.YtjihlpjnebdiiabGreatZai
set_option linter.unusedVariables false
set_option linter.unusedSectionVars false
set_option linter.unusedSimpArgs false
set_option maxRecDepth 100000
set_option maxHeartbeats 4000000
namespace Go.Sx
open Go Go.Proofs Tryz
section
structure fK where
  l0:List bA
  l1:List bA
  l2:List bA
abbrev fK.no:fK:=⟨[],[],[]⟩
def ma (k:Int):Bool:=decide (0≤k∧k<3)
def dK (n:fK) (k:Int):List bA:=if k=0 then n.l0 else if k=1 then n.l1 else if k=2 then n.l2 else []
def jK (n:fK) (k:Int) (l:List bA):fK:=if k=0 then ⟨l,n.l1,n.l2⟩ else if k=1 then ⟨n.l0,l,n.l2⟩ else if k=2 then ⟨n.l0,n.l1,l⟩ else n
def iJ (c:au) (k:Int):Int:=if k=0 then c.r0 else if k=1 then c.r1 else if k=2 then c.r2 else 0
def c8 (c:au) (n:fK) (k:Int):Int:=iJ c k-(dK n k).length
def bE (n:fK) (k i:Int):bA:=sQ .zero (dK n k) i
def gv (n:fK) (k i:Int):Bool:=qH (dK n k) i
def tO (n:fK) (k i:Int):Int:=zO (dK n k) i
def cU (n:fK) (k i:Int):fK:=jK n k (nG (dK n k) i)
def lq (c:au) (n:fK) (m:bA):Int:=if bU c m then nz (iJ c (ee m.ah)) (dK n (ee m.ah)) else 1
def fG (c:au) (n:fK) (m:bA):fK:=if bU c m then jK n (ee m.ah) (kB (iJ c (ee m.ah)) (dK n (ee m.ah)) m) else n
def jZ (n:fK):List bA:=n.l0++n.l1++n.l2
theorem kG {k:Int} (h:ma k=true):k=0∨k=1∨k=2:=by simp [ma] at h;omega
theorem mX {n:fK} {k:Int} (h:ma k=false):dK n k=[]:=by
  simp only [ma,decide_eq_false_iff_not] at h;unfold dK;rw [if_neg (om),if_neg (om),if_neg (om)]
theorem AX {c:au} {k:Int} (h:ma k=false):iJ c k=0:=by
  simp only [ma,decide_eq_false_iff_not] at h;unfold iJ;rw [if_neg (om),if_neg (om),if_neg (om)]
theorem JE {n:fK} {k:Int} {l:List bA} (h:ma k=false):jK n k l=n:=by
  simp only [ma,decide_eq_false_iff_not] at h;unfold jK;rw [if_neg (om),if_neg (om),if_neg (om)]
theorem FF {c:au} {m:bA} (h:bU c m):ee m.ah=0∨ee m.ah=1∨ee m.ah=2:=by
  have:=h.2.1;unfold ee;split<;>(try split)<;>(try split)<;>omega
abbrev l3 (c:au) (b0 b1 b2:Nat):List Value:=[.int .i64 c.ax,.int .i64 c.bY,.int .i64 c.cl,.int .i64 c.al,.int .i64 c.ag,.int .i64 c.aZ,.int .i64 c.ef,.int .i64 c.aS,.int .i64 c.aQ,.int .i64 c.aw,.int .i64 c.r0,.int .i64 c.r1,.int .i64 c.r2,.pointer (some ⟨b0,0,none⟩),.pointer (some ⟨b1,0,none⟩),.pointer (some ⟨b2,0,none⟩)]
theorem Hp {α:Type} {T e:TypeId} {sz:Nat} {enc:α→List Value} {b:Nat} {ak:Int} {l:List α} {L:List HP} {w:World} (h:Sat (RL T e sz enc b ak l::L) w):(l.length:Int)≤ak∧ak≤4096:=by
  obtain ⟨⟨p,c0⟩,hx⟩:=eN h;simp only [eX] at hx;exact fc (aG (aG hx))
def Pp (T TB TM:TypeId) (b:Nat) (c:au) (n:fK):HP:=
  Ex fun q:Nat×Nat×Nat=>[ao b T (l3 c q.1 q.2.1 q.2.2),RL TB TM 15 mc q.1 c.r0 n.l0,RL TB TM 15 mc q.2.1 c.r1 n.l1,RL TB TM 15 mc q.2.2 c.r2 n.l2,ja (aB c=true)]
theorem ii {T TB TM:TypeId} {b:Nat} {c:au} {n:fK} {b0 b1 b2:Nat} {L M:List HP}
    (h:ai L (ao b T (l3 c b0 b1 b2)::RL TB TM 15 mc b0 c.r0 n.l0::RL TB TM 15 mc b1 c.r1 n.l1::RL TB TM 15 mc b2 c.r2 n.l2::M)) (hc:aB c=true):ai L (Pp T TB TM b c n::M):=by
  refine ai.trans h (ai.trans ?_ (fU (p:=fun q:Nat×Nat×Nat=>[ao b T (l3 c q.1 q.2.1 q.2.2),RL TB TM 15 mc q.1 c.r0 n.l0,RL TB TM 15 mc q.2.1 c.r1 n.l1,RL TB TM 15 mc q.2.2 c.r2 n.l2,ja (aB c=true)]) (b0,b1,b2)));exact ai.cons (ai.cons (ai.cons (ai.cons (cX hc))))
theorem QY {T TB TM:TypeId} {b:Nat} {c:au} {n:fK} {L:List HP} {w:World} (h:Sat (Pp T TB TM b c n::L) w):∃ b0 b1 b2,(aB c=true∧(n.l0.length:Int)≤c.r0∧(n.l1.length:Int)≤c.r1∧(n.l2.length:Int)≤c.r2)∧
    Sat (ao b T (l3 c b0 b1 b2)::RL TB TM 15 mc b0 c.r0 n.l0::RL TB TM 15 mc b1 c.r1 n.l1::RL TB TM 15 mc b2 c.r2 n.l2::L) w:=by
  obtain ⟨⟨b0,b1,b2⟩,hx⟩:=eN h;simp only [eX] at hx;have hf:=fc (aG (aG (aG (aG hx))));have h2:Sat (ao b T (l3 c b0 b1 b2)::RL TB TM 15 mc b0 c.r0 n.l0::RL TB TM 15 mc b1 c.r1 n.l1::RL TB TM 15 mc b2 c.r2 n.l2::L) w:=(ai.cons (ai.cons (ai.cons (ai.cons (ai.drop ai.refl))))) _ hx;exact ⟨b0,b1,b2,⟨hf,(Hp ((ai.drop ai.refl).gX h2)).1,(Hp ((ai.drop (ai.drop ai.refl)).gX h2)).1,(Hp ((ai.drop (ai.drop (ai.drop ai.refl))).gX h2)).1⟩,h2⟩
section
variable {T TB TM:TypeId} {b:Nat} {c:au} {n:fK} {P:Program} {N:Nat} {env:Env} {L:List HP} {Q:Exit→Act→World→Prop}
theorem rW {co:Code} (h:∀ b0 b1 b2,(aB c=true∧(n.l0.length:Int)≤c.r0∧(n.l1.length:Int)≤c.r1∧(n.l2.length:Int)≤c.r2)→WC P N co env (ao b T (l3 c b0 b1 b2)::RL TB TM 15 mc b0 c.r0 n.l0::RL TB TM 15 mc b1 c.r1 n.l1::RL TB TM 15 mc b2 c.r2 n.l2::L) Q):WC P N co env (Pp T TB TM b c n::L) Q:=by
  intro a w ha hw;obtain ⟨b0,b1,b2,hf,hx⟩:=QY hw;exact h b0 b1 b2 hf a w ha hx
end
attribute [local irreducible] Exit.then Exit.inBlock Code.wp WC WO WE WQ V aW dL Sat bz bK dU IntKind.wrap WR Code.rounds WT KO
abbrev j0:=Pp 222 319 159
theorem yB {Q P:Prop} (k:Q) (h:Hid Q→P:=by
  intro k
  first
  |(refine an ?_;apply nC (id:=8) .true [] (pl:= .p 0 <| .p 1 <| .p 2 <| .p 7 <| .p 8 <| .e true [(3,.p 4 <| .p 5 <| .p 6 <| .p 9 <| .e false [(10,.done)])]);exact mixed;kernel_rfl;kernel_rfl;exact ai.nil;exact k.out)):P:=h ⟨k⟩
theorem JF {F:List HP} {c:au} (hw:c.wf) (hc:aB c=true):az prog 52 [c.val] [] F (fun r L'=>∃ b,r= .tuple [.pointer (some ⟨b,0,none⟩),.int .i64 0].toArray∧L'=[j0 b c .no]):=by
  have hC:=fun F=>fT (F:=F) hw;simp only [cF,hc,if_true] at hC;have hr:(1≤c.r0∧c.r0≤4096)∧(1≤c.r1∧c.r1≤4096)∧(1≤c.r2∧c.r2≤4096):=by
    simp only [aB,eJ,Bool.and_eq_true,decide_eq_true_eq] at hc;omega
  obtain ⟨h0,h1,h2⟩:=hr;have hB0:=fun F=>uN (F:=F) h0;have hB1:=fun F=>uN (F:=F) h1;have hB2:=fun F=>uN (F:=F) h2;refine ay func52 ntmps52 ?_;repeat first|refine go ?_|intro _|refine yB ?_|refine av ?_|refine ae @hC ?_
  refine vn 4 ?_;repeat first|refine go ?_|intro _|refine yB ?_|refine av ?_|refine ae @hB0 ?_|refine ae @hB1 ?_|refine ae @hB2 ?_
  (apply ad rfl rfl ar)
  ·exact ⟨_,rfl,rfl⟩
  ·rename_i bc b w2 w1 w0;change ai (cf w0 c.r2 []::cf w1 c.r1 []::cf w2 c.r0 []::ao b 222 (l3 c w2 w1 w0)::_) _;(apply ii;(focus (exact af));all_goals exact bu)
theorem Iy {F:List HP} {c:au} (hw:c.wf) (hc:aB c=false):az prog 52 [c.val] [] F (fun r L'=>r= .tuple [.pointer none,.int .i64 1].toArray∧L'=[]):=by
  have hC:=fun F=>fT (F:=F) hw;simp only [cF,hc,Bool.false_eq_true,if_false] at hC;refine ay func52 ntmps52 ?_;repeat first|refine go ?_|intro _|refine yB ?_|refine av ?_|refine ae @hC ?_
  exact aM
theorem z6 {F:List HP} {k:Int}:az prog 118 [.int .i64 k] [] F (fun r L'=>r= .bool (ma k)∧L'=[]):=by
  refine ay func118 ntmps118 ?_;repeat' (first|refine gd ?_|intro _|refine bj ?_ ?_|fail)
  all_goals (apply ad rfl rfl ar;(refine ⟨congrArg Value.bool ?_,rfl⟩;(first|(refine decide_eq_decide.2 ?_)|(refine (decide_eq_true ?_).symm)|(refine (decide_eq_false ?_).symm));(first|omega|(simp only [ma];omega)));exact bM)
theorem tX {F:List HP} {b:Nat} {c:au} {n:fK} {k:Int}:az prog 143 [.pointer (some ⟨b,0,none⟩),.int .i64 k] [j0 b c n] F (fun r L'=>r= .int .i64 (c8 c n k)∧L'=[j0 b c n]):=by
  have hH:=fun F=>z6 (F:=F) (k:=k);refine ay func143 ntmps143 ?_;refine rW fun b0 b1 b2 ⟨hc,yJ,wS,qJ⟩=>?_;cases h:ma k with
  |true=>
   rw [h] at hH;rcases kG h with rfl|rfl|rfl
   ·repeat first|refine gd ?_|intro _|refine ae @hH ?_|refine ae @nv ?_
    (apply ad rfl rfl ar)
    ·exact ⟨rfl,rfl⟩
    ·(apply ii;(focus (exact af));all_goals exact bu)
   ·repeat first|refine gd ?_|intro _|refine ae @hH ?_|refine ae @nv ?_
    (apply ad rfl rfl ar)
    ·exact ⟨rfl,rfl⟩
    ·(apply ii;(focus (exact af));all_goals exact bu)
   ·repeat first|refine gd ?_|intro _|refine ae @hH ?_|refine ae @nv ?_
    (apply ad rfl rfl ar)
    ·exact ⟨rfl,rfl⟩
    ·(apply ii;(focus (exact af));all_goals exact bu)
  |false=>
   rw [h] at hH;repeat first|refine gd ?_|intro _|refine ae @hH ?_
   (apply ad rfl rfl ar)
   ·exact ⟨by simp [c8,AX h,mX h],rfl⟩
   ·(apply ii;(focus (exact af));all_goals exact bu)
theorem Az {F:List HP} {b:Nat} {c:au} {n:fK} {k i:Int}:az prog 142 [.pointer (some ⟨b,0,none⟩),.int .i64 k,.int .i64 i] [j0 b c n] F (fun r L'=>r= .tuple [mv (bE n k i),.bool (gv n k i)].toArray∧L'=[j0 b c n]):=by
  have hH:=fun F=>z6 (F:=F) (k:=k);refine ay func142 ntmps142 ?_;refine rW fun b0 b1 b2 ⟨hc,yJ,wS,qJ⟩=>?_;cases h:ma k with
  |true=>
   rw [h] at hH;rcases kG h with rfl|rfl|rfl
   ·repeat first|refine gd ?_|intro _|refine ae @hH ?_|refine ae @qk ?_
    (apply ad rfl rfl ar)
    ·exact ⟨rfl,rfl⟩
    ·(apply ii;(focus (exact af));all_goals exact bu)
   ·repeat first|refine gd ?_|intro _|refine ae @hH ?_|refine ae @qk ?_
    (apply ad rfl rfl ar)
    ·exact ⟨rfl,rfl⟩
    ·(apply ii;(focus (exact af));all_goals exact bu)
   ·repeat first|refine gd ?_|intro _|refine ae @hH ?_|refine ae @qk ?_
    (apply ad rfl rfl ar)
    ·exact ⟨rfl,rfl⟩
    ·(apply ii;(focus (exact af));all_goals exact bu)
  |false=>
   rw [h] at hH;have e1:bE n k i= .zero:=by simp [bE,mX h,sQ,qH]
   have e2:gv n k i=false:=by simp [gv,mX h,qH]
   repeat first|refine gd ?_|intro _|refine ae @hH ?_
   (apply ad rfl rfl ar)
   ·rw [e1,e2];exact ⟨rfl,rfl⟩
   ·(apply ii;(focus (exact af));all_goals exact bu)
theorem xm {F:List HP} {b:Nat} {c:au} {n:fK} {k i:Int}:az prog 145 [.pointer (some ⟨b,0,none⟩),.int .i64 k,.int .i64 i] [j0 b c n] F (fun r L'=>r= .tuple [mv (bE n k i),.int .i64 (tO n k i)].toArray∧L'=[j0 b c (cU n k i)]):=by
  have hH:=fun F=>z6 (F:=F) (k:=k);refine ay func145 ntmps145 ?_;refine rW fun b0 b1 b2 ⟨hc,yJ,wS,qJ⟩=>?_;cases h:ma k with
  |true=>
   rw [h] at hH;rcases kG h with rfl|rfl|rfl
   ·have e3:cU n 0 i=⟨nG n.l0 i,n.l1,n.l2⟩:=rfl;rw [e3];repeat first|refine gd ?_|intro _|refine ae @hH ?_|refine ae @th ?_
    (apply ad rfl rfl ar)
    ·exact ⟨rfl,rfl⟩
    ·(apply ii;(focus (exact af));all_goals exact bu)
   ·have e3:cU n 1 i=⟨n.l0,nG n.l1 i,n.l2⟩:=rfl;rw [e3];repeat first|refine gd ?_|intro _|refine ae @hH ?_|refine ae @th ?_
    (apply ad rfl rfl ar)
    ·exact ⟨rfl,rfl⟩
    ·(apply ii;(focus (exact af));all_goals exact bu)
   ·have e3:cU n 2 i=⟨n.l0,n.l1,nG n.l2 i⟩:=rfl;rw [e3];repeat first|refine gd ?_|intro _|refine ae @hH ?_|refine ae @th ?_
    (apply ad rfl rfl ar)
    ·exact ⟨rfl,rfl⟩
    ·(apply ii;(focus (exact af));all_goals exact bu)
  |false=>
   rw [h] at hH;have e1:bE n k i= .zero:=by simp [bE,mX h,sQ,qH]
   have e2:tO n k i=5:=by simp [tO,mX h,zO,qH]
   have e3:cU n k i=n:=JE h;repeat first|refine gd ?_|intro _|refine ae @hH ?_
   (apply ad rfl rfl ar)
   ·rw [e1,e2];exact ⟨rfl,rfl⟩
   ·rw [e3];(apply ii;(focus (exact af));all_goals exact bu)
theorem Oe {F:List HP} {b:Nat} {c:au} {n:fK} {k:Int}:az prog 38 [.pointer (some ⟨b,0,none⟩),.int .i64 k] [j0 b c n] F (fun r L'=>∃ p q,r= .slice p (dK n k).length q∧L'=[aT 159 15 (.slice p (dK n k).length q) (dK n k).length (aj mc (dK n k)),j0 b c n]):=by
  have hH:=fun F=>z6 (F:=F) (k:=k);refine ay func38 ntmps38 ?_;refine rW fun b0 b1 b2 ⟨hc,yJ,wS,qJ⟩=>?_;cases h:ma k with
  |true=>
   rw [h] at hH;rcases kG h with rfl|rfl|rfl
   ·repeat first|refine gd ?_|intro _|refine ae @hH ?_|refine ae @lL ?_
    (apply ad rfl rfl ar)
    ·exact ⟨_,_,rfl,rfl⟩
    ·refine ai.cons ?_;(apply ii;(focus (exact af));all_goals exact bu)
   ·repeat first|refine gd ?_|intro _|refine ae @hH ?_|refine ae @lL ?_
    (apply ad rfl rfl ar)
    ·exact ⟨_,_,rfl,rfl⟩
    ·refine ai.cons ?_;(apply ii;(focus (exact af));all_goals exact bu)
   ·repeat first|refine gd ?_|intro _|refine ae @hH ?_|refine ae @lL ?_
    (apply ad rfl rfl ar)
    ·exact ⟨_,_,rfl,rfl⟩
    ·refine ai.cons ?_;(apply ii;(focus (exact af));all_goals exact bu)
  |false=>
   rw [h] at hH;rw [mX h];repeat first|refine gd ?_|intro _|refine ae @hH ?_
   (apply ad rfl rfl ar)
   ·exact ⟨none,0,rfl,rfl⟩
   ·refine ai.trans ?_ (aI ai.refl);(apply ii;(focus (exact af));all_goals exact bu)
theorem rA {Q P:Prop} (k:Q) (h:Hid Q→P:=by
  intro k
  first
  |(refine an ?_;refine bF (id:=1) .true (pl:= .p 0 <| .p 1 <| .p 2 <| .r 3 <| .r 4 <| .e true [(5,.p 6 <| .done)]) k.out)
  |(refine an ?_;refine bF (id:=3) .true (pl:= .p 0 <| .p 1 <| .p 4 <| .p 5 <| .r 2 <| .e true [(3,.p 6 <| .e false [(7,.e false [(8,.e false [(9,.p 10 <| .done)])]),(8,.e false [(7,.e false [(9,.p 10 <| .done)])])]),(8,.e true [(3,.p 6 <| .e false [(7,.e false [(9,.p 10 <| .done)])])])]) k.out)):P:=h ⟨k⟩
theorem Of {F:List HP} {b:Nat} {c:au} {n:fK} {m:bA} (hw:c.wf):az prog 235 [.pointer (some ⟨b,0,none⟩),mv m] [j0 b c n] F (fun r L'=>r= .int .i64 (lq c n m)∧L'=[j0 b c (fG c n m)]):=by
  have hM:=fun F=>D4 (F:=F) (c:=c) (m:=m) hw;have hN:=fun F=>qQ (F:=F) (k:=m.ah);refine ay func235 ntmps235 ?_;refine rW fun b0 b1 b2 ⟨hc,yJ,wS,qJ⟩=>?_;by_cases h:bU c m
  ·simp only [decide_eq_true h] at hM;have e1:lq c n m=nz (iJ c (ee m.ah)) (dK n (ee m.ah)):=if_pos h;have e2:fG c n m=jK n (ee m.ah) (kB (iJ c (ee m.ah)) (dK n (ee m.ah)) m):=if_pos h;rw [e1,e2];rcases FF h with e|e|e
   ·rw [e] at hN ⊢;have e3:jK n 0 (kB (iJ c 0) (dK n 0) m)=⟨kB c.r0 n.l0 m,n.l1,n.l2⟩:=rfl;rw [e3];repeat' (first|refine go ?_|intro _|refine rA ?_|refine av ?_|refine ae @hM ?_|refine ae @hN ?_|refine ae @uO ?_|refine bj ?_ ?_|fail)
    all_goals (apply ad rfl rfl ar)
    all_goals first|exact ⟨rfl,rfl⟩|(apply ii;(focus (exact af));all_goals exact bu)
   ·rw [e] at hN ⊢;have e3:jK n 1 (kB (iJ c 1) (dK n 1) m)=⟨n.l0,kB c.r1 n.l1 m,n.l2⟩:=rfl;rw [e3];repeat' (first|refine go ?_|intro _|refine rA ?_|refine av ?_|refine ae @hM ?_|refine ae @hN ?_|refine ae @uO ?_|refine bj ?_ ?_|fail)
    all_goals (apply ad rfl rfl ar)
    all_goals first|exact ⟨rfl,rfl⟩|(apply ii;(focus (exact af));all_goals exact bu)
   ·rw [e] at hN ⊢;have e3:jK n 2 (kB (iJ c 2) (dK n 2) m)=⟨n.l0,n.l1,kB c.r2 n.l2 m⟩:=rfl;rw [e3];repeat' (first|refine go ?_|intro _|refine rA ?_|refine av ?_|refine ae @hM ?_|refine ae @hN ?_|refine ae @uO ?_|refine bj ?_ ?_|fail)
    all_goals (apply ad rfl rfl ar)
    all_goals first|exact ⟨rfl,rfl⟩|(apply ii;(focus (exact af));all_goals exact bu)
  ·simp only [decide_eq_false h] at hM;have e1:lq c n m=1:=if_neg h;have e2:fG c n m=n:=if_neg h;rw [e1,e2];repeat first|refine go ?_|intro _|refine rA ?_|refine av ?_|refine ae @hM ?_
   (apply ad rfl rfl ar)
   ·exact ⟨rfl,rfl⟩
   ·(apply ii;(focus (exact af));all_goals exact bu)
end
section
attribute [local irreducible] Exit.then Exit.inBlock Code.wp WC WO WE WQ V aW dL Sat bz bK dU IntKind.wrap WR Code.rounds WT KO
theorem GI {F:List HP} {c:au} {m:bA} (hc:c.wf) (he:aB c=true) (hl:0≤m.aa∧m.aa<c.aZ) (jR:m.ah=1∨m.ah=2∨m.ah=3):az prog 198 [c.val,mv m] [] F (fun r L'=>r= .bool (decide (bU c m))∧L'=[]):=by
  have hC:=fun F=>eC (F:=F) hc;have hH:=fun F=>gW (F:=F) (k:=m.ah);have hS:=fun F=>gV (F:=F) (c:=c) (n:=m.src);have hD:=fun F=>gV (F:=F) (c:=c) (n:=m.dst);have hW:=fun F=>gV (F:=F) (c:=c) (n:=m.mu);simp only [An] at hS hD hW;refine ay func198 ntmps198 ?_;simp only [cF,he,if_true] at hC;obtain ⟨b1,b2,b3,b4⟩:=xg he;have h0:c.bY≠0:=by omega
  have hk:1≤m.ah∧m.ah≤11:=by omega
  repeat first|refine gd ?_|intro _|refine ae @hC ?_
  rename_i bs bm
  apply mT (P:=prog) (fun _:Unit=>[(6,.int .i64 0),(2,.pointer (some ⟨bs,0,none⟩)),(3,.pointer (some ⟨bm,0,none⟩))]) (fun _=>ao bm 159 (mc m)::ao bs 25 c.cells::F)
    (fun _=>bU c m↔∀ i,i<8→oS c m.ah m.ag i)
  ·intro join;rcases jR with h|h|h
   ·have eF:bU c m↔(nq c m∧m.ag= .zero):=by simp [bU,iF,fM,cA,iG,he,h,hl]
    rw [lF (c:=c) (k:=m.ah) (om)] at eF;have hh:decide (cA m.ah)=true:=by rw [h];rfl
    simp only [hh] at hH;by_cases hx:nq c m
    ·have hj:bU c m↔∀ i,i<8→oS c m.ah m.ag i:=by rw [eF];exact ⟨fun h=>h.2,fun h=>⟨hx,h⟩⟩
     simp only [nq,bV,fC,dD,g9,eD,fQ,Bool.false_eq_true,if_false,if_true,true_and] at hx;repeat' (first|refine gd ?_|intro _|refine ae @hH ?_|refine ae @hS ?_|refine ae @hD ?_|refine ae @hW ?_|refine bj ?_ ?_|fail)
     all_goals first|(exfalso;omega)|exact join () _ _ hj (by exact bH) (by exact af)
    ·have dC:¬bU c m:=fun h=>hx (eF.1 h).1;simp only [nq,bV,fC,dD,g9,eD,fQ,Bool.false_eq_true,if_false,if_true,true_and] at hx;repeat' (first|refine gd ?_|intro _|refine ae @hH ?_|refine ae @hS ?_|refine ae @hD ?_|refine ae @hW ?_|refine bj ?_ ?_|fail)
     all_goals first|(exfalso;omega)|(apply ad rfl rfl ar;(first|exact cS|exact ⟨by simp [dC]<;>omega,rfl⟩);exact bM)
   ·have eF:bU c m↔(nq c m∧m.ag= .zero):=by simp [bU,iF,fM,cA,iG,he,h,hl]
    rw [lF (c:=c) (k:=m.ah) (om)] at eF;have hh:decide (cA m.ah)=true:=by rw [h];rfl
    simp only [hh] at hH;by_cases hx:nq c m
    ·have hj:bU c m↔∀ i,i<8→oS c m.ah m.ag i:=by rw [eF];exact ⟨fun h=>h.2,fun h=>⟨hx,h⟩⟩
     simp only [nq,bV,fC,dD,g9,eD,fQ,Bool.false_eq_true,if_false,if_true,true_and] at hx;repeat' (first|refine gd ?_|intro _|refine ae @hH ?_|refine ae @hS ?_|refine ae @hD ?_|refine ae @hW ?_|refine bj ?_ ?_|fail)
     all_goals first|(exfalso;omega)|exact join () _ _ hj (by exact bH) (by exact af)
    ·have dC:¬bU c m:=fun h=>hx (eF.1 h).1;simp only [nq,bV,fC,dD,g9,eD,fQ,Bool.false_eq_true,if_false,if_true,true_and] at hx;repeat' (first|refine gd ?_|intro _|refine ae @hH ?_|refine ae @hS ?_|refine ae @hD ?_|refine ae @hW ?_|refine bj ?_ ?_|fail)
     all_goals first|(exfalso;omega)|(apply ad rfl rfl ar;(first|exact cS|exact ⟨by simp [dC]<;>omega,rfl⟩);exact bM)
   ·have eF:bU c m↔(nq c m∧cG c m.ag):=by simp [bU,iF,fM,cA,iG,he,h,hl]
    rw [Db (c:=c) (k:=m.ah) (om)] at eF;have hh:decide (cA m.ah)=true:=by rw [h];rfl
    simp only [hh] at hH;by_cases hx:nq c m
    ·have hj:bU c m↔∀ i,i<8→oS c m.ah m.ag i:=by rw [eF];exact ⟨fun h=>h.2,fun h=>⟨hx,h⟩⟩
     simp only [nq,bV,fC,dD,g9,eD,fQ,Bool.false_eq_true,if_false,if_true,true_and] at hx;repeat' (first|refine gd ?_|intro _|refine ae @hH ?_|refine ae @hS ?_|refine ae @hD ?_|refine ae @hW ?_|refine bj ?_ ?_|fail)
     all_goals first|(exfalso;omega)|exact join () _ _ hj (by exact bH) (by exact af)
    ·have dC:¬bU c m:=fun h=>hx (eF.1 h).1;simp only [nq,bV,fC,dD,g9,eD,fQ,Bool.false_eq_true,if_false,if_true,true_and] at hx;repeat' (first|refine gd ?_|intro _|refine ae @hH ?_|refine ae @hS ?_|refine ae @hD ?_|refine ae @hW ?_|refine bj ?_ ?_|fail)
     all_goals first|(exfalso;omega)|(apply ad rfl rfl ar;(first|exact cS|exact ⟨by simp [dC]<;>omega,rfl⟩);exact bM)
  ·intro _ dX;apply aO (E0:=[(2,_),(3,_)]) (fun E0 (i:Nat)=>(6,.int .i64 i)::E0) (fun _=>ao bm 159 (mc m)::ao bs 25 c.cells::F) (fun i=>i≤8∧∀ j,j<i→oS c m.ah m.ag j) (fun i=>8-i) 0
   ·exact bH
   ·exact ⟨om,fun j hj=>by omega⟩
   ·exact af
   ·rintro i ⟨hi,cO⟩;by_cases bB:i<8
    ·have hg:=sW m i bB;have hn:¬oS c m.ah m.ag i→¬bU c m:=fun h hv=>h (dX.1 hv i bB);by_cases ho:oS c m.ah m.ag i
     ·have PG:=ho;unfold oS at ho;repeat' (first|refine gd ?_|intro _|refine bj ?_ ?_|fail)
      all_goals first
      |(exfalso;omega)
      |(refine aC (i+1) (om) ⟨om,fun j hj=>?_⟩ ?_ ?_
        ·by_cases rq:j=i
         ·subst rq;exact PG
         ·exact cO j (om)
        ·exact bH
        ·exact af)
     ·have dC:=hn ho;unfold oS at ho;repeat' (first|refine gd ?_|intro _|refine bj ?_ ?_|fail)
      all_goals first|(exfalso;omega)|(apply ad rfl rfl ar;(first|exact cS|exact ⟨by simp [dC]<;>omega,rfl⟩);exact bM)
    ·have yI:i=8:=by omega
     subst yI;have oD:=dX.2 cO;repeat first|refine gd ?_|intro _
     (apply ad rfl rfl ar;(first|exact cS|exact ⟨by simp [oD]<;>omega,rfl⟩);exact bM)
end
end Go.Sx
