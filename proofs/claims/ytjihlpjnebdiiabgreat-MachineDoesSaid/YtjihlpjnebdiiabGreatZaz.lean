/- CaR2: several of my texts as one. My own work. -/
import Derived.Test.YtjihlpjnebdiiabGreatZax
set_option linter.unusedVariables false
set_option linter.unusedSectionVars false
set_option linter.unusedSimpArgs false
set_option maxRecDepth 100000
set_option maxHeartbeats 4000000
namespace Go.Sx
open Go Go.Proofs Tryz
section
attribute [local irreducible] Exit.then Exit.inBlock Code.wp WC WO WE WQ V aW dL Sat bz bK dU IntKind.wrap WR Code.rounds WT KO
theorem fu {Q P:Prop} (k:Q) (h:Hid Q→P:=by
  intro k
  first
  |(refine an ?_;refine bF (id:=17) .true (pl:= .p 0 <| .p 1 <| .p 2 <| .p 3 <| .p 4 <| .p 6 <| .p 7 <| .p 8 <| .p 9 <| .p 10 <| .r 5 <| .r 11 <| .p 12 <| .p 13 <| .e true [(14,.p 15 <| .done)]) k.out)):P:=h ⟨k⟩
theorem IH {F:List HP} {b a f e:Nat} {c:au} {ap aa ah:Int} {k:cT} (hc:aB c=true) (hI:cj c k.al) :
    az prog 96 [.pointer (some ⟨b,0,none⟩),.int .i64 aa,.int .i64 ah] (kU b a f e c ap k) F (fun r L'=>r= .tuple [mv (dm c ap k aa ah),.int .i64 (dd c k aa ah)].toArray∧L'=kU b a f e c ap (cH c k aa ah)):=by
  by_cases yT:bG c aa=false∨(ah≠1∧ah≠2)
  ·have e1:dd c k aa ah=1:=if_pos yT;have e2:dm c ap k aa ah= .zero:=by unfold dm;rw [e1];rfl
   have e3:cH c k aa ah=k:=by unfold cH;rw [e1];rfl
   rw [e1,e2,e3];refine ay func96 ntmps96 ?_;by_cases h0:aa<0
   ·repeat first|refine go ?_|intro _|refine fu ?_|refine av ?_
    exact aM
   ·by_cases h1:aa≥c.aZ
    ·repeat first|refine go ?_|intro _|refine fu ?_|refine av ?_
     exact aM
    ·obtain ⟨BN,J2⟩:ah≠1∧ah≠2:=by
       rcases yT with h|h
       ·rw [(n7 hc).2 ⟨om,om⟩] at h;cases h
       ·exact h
     repeat first|refine go ?_|intro _|refine fu ?_|refine av ?_
     exact aM
  ·have cO:bG c aa=true:=by
     cases h:bG c aa with
     |true=>rfl
     |false=>exact absurd (.inl h) yT
   have sR:ah=1∨¬ah=1∧ah=2:=by
     have:¬(ah≠1∧ah≠2):=fun h=>yT (.inr h);omega
   obtain ⟨zF,YM⟩:=(n7 hc).1 cO;have qL:dd c k aa ah=if dp k.aP aa=true∨iP k.bD aa=true∨ls c k aa ah=true then 6 else if (k.aP.length:Int)=c.aS then 4 else if gI c k.al aa=false∧df c k.al aa<0 then 5 else 0:=if_neg yT;have ik:=fun F=>BF (F:=F) (b:=b) (a:=a) (f:=f) (e:=e) (c:=c) (ap:=ap) (k:=k) (ah:=ah) (aa:=aa) (om);have hG:=fun F=>KV (F:=F) (b:=f) (ak:=c.aS) (l:=k.aP) (aa:=aa);have uH:=fun F=>Gu (F:=F) (b:=e) (ak:=c.aw) (l:=k.bD) (aa:=aa);have sy:=fun F=>iN (F:=F) (b:=a) (c:=c) (l:=k.al) (aa:=aa);have BO:=fun F=>Is (F:=F) (b:=a) (c:=c) (l:=k.al) (aa:=aa);have O6:=fun F=>ww (F:=F) (b:=a) (c:=c) (l:=k.al) (aa:=aa) (lk:=true);have Pq:=fun F=>K8 (F:=F) (b:=a) (c:=c) (l:=k.al) (aa:=aa) (kV:=df c k.al aa);have U3:=fun F=>ww (F:=F) (b:=a) (c:=c) (l:=fJ c k.al aa (df c k.al aa)) (aa:=aa) (lk:=true);have PJ:=fun F=>Im (F:=F) (b:=f) (ak:=c.aS) (l:=k.aP) (aa:=aa) (ah:=ah);have hh:=yz hc;have ht:=D9 cO;by_cases h6:dp k.aP aa=true∨iP k.bD aa=true∨ls c k aa ah=true
   ·have e1:dd c k aa ah=6:=by rw [qL,if_pos h6]
    have e2:dm c ap k aa ah= .zero:=by unfold dm;rw [e1];rfl
    have e3:cH c k aa ah=k:=by unfold cH;rw [e1];rfl
    rw [e1,e2,e3];cases h1:dp k.aP aa with
    |true=>
     simp only [h1] at hG;rcases sR with g1|⟨g1,g2⟩
     ·refine ay func96 ntmps96 ?_;repeat first|refine go ?_|intro _|refine fu ?_|refine av ?_|refine ae @hG ?_
      exact aM
     ·refine ay func96 ntmps96 ?_;repeat first|refine go ?_|intro _|refine fu ?_|refine av ?_|refine ae @hG ?_
      exact aM
    |false=>
     simp only [h1] at hG;cases h2:iP k.bD aa with
     |true=>
      have Uz:0≤fz k.bD aa:=of_decide_eq_true h2;rcases sR with g1|⟨g1,g2⟩
      ·refine ay func96 ntmps96 ?_;repeat first|refine go ?_|intro _|refine fu ?_|refine av ?_|refine ae @hG ?_|refine ae @uH ?_
       exact aM
      ·refine ay func96 ntmps96 ?_;repeat first|refine go ?_|intro _|refine fu ?_|refine av ?_|refine ae @hG ?_|refine ae @uH ?_
       exact aM
     |false=>
      have Uz:¬0≤fz k.bD aa:=of_decide_eq_false h2;have h3:ls c k aa ah=true:=by
        rcases h6 with h|h|h
        ·rw [h1] at h;cases h
        ·rw [h2] at h;cases h
        ·exact h
      simp only [h3] at ik;rcases sR with g1|⟨g1,g2⟩
      ·refine ay func96 ntmps96 ?_;repeat first|refine go ?_|intro _|refine fu ?_|refine av ?_|refine ae @hG ?_|refine ae @uH ?_|refine ae @ik ?_
       exact aM
      ·refine ay func96 ntmps96 ?_;repeat first|refine go ?_|intro _|refine fu ?_|refine av ?_|refine ae @hG ?_|refine ae @uH ?_|refine ae @ik ?_
       exact aM
   ·have h1:dp k.aP aa=false:=by
      cases h:dp k.aP aa with
      |false=>rfl
      |true=>exact absurd (.inl h) h6
    have h2:iP k.bD aa=false:=by
      cases h:iP k.bD aa with
      |false=>rfl
      |true=>exact absurd (.inr (.inl h)) h6
    have Uz:¬0≤fz k.bD aa:=of_decide_eq_false h2;have h3:ls c k aa ah=false:=by
      cases h:ls c k aa ah with
      |false=>rfl
      |true=>exact absurd (.inr (.inr h)) h6
    rw [if_neg h6] at qL;simp only [h1] at hG;simp only [h3] at ik;have main:∀ (hl:(k.aP.length:Int)≤c.aS),(k.aP.length:Int)=c.aS∨(k.aP.length:Int)<c.aS:=fun hl=>by omega
    by_cases h4:(k.aP.length:Int)=c.aS
    ·have e1:dd c k aa ah=4:=by rw [qL,if_pos h4]
     have e2:dm c ap k aa ah= .zero:=by unfold dm;rw [e1];rfl
     have e3:cH c k aa ah=k:=by unfold cH;rw [e1];rfl
     rw [e1,e2,e3];rcases sR with g1|⟨g1,g2⟩
     all_goals
       refine ay func96 ntmps96 ?_;repeat first|refine go ?_|intro _|refine ae @hG ?_|refine ae @uH ?_|refine ae @ik ?_
       (first|refine aD (cW f c.aS k.aP) ?_|refine aE (cW f c.aS k.aP) ?_|refine aF (cW f c.aS k.aP) ?_);refine cC fun p q hl=>?_;repeat first|refine go ?_|intro _|refine fu ?_|refine av ?_
       ((first|apply cy (L':=(cW f c.aS k.aP)::_)|apply cD (L':=(cW f c.aS k.aP)::_)|apply cE (L':=(cW f c.aS k.aP)::_)|apply cR (L':=(cW f c.aS k.aP)::_));(focus (apply bC;(focus (exact af));all_goals exact bu)));exact aM
    ·rw [if_neg h4] at qL;cases h5:gI c k.al aa with
     |true=>
      have e1:dd c k aa ah=0:=by rw [qL,h5];rfl
      have e2:dm c ap k aa ah=gj c ap ah aa .zero:=if_pos e1;have e3:cH c k aa ah=⟨eZ c k.al aa true,gH c.aS k.aP aa ah,k.bD⟩:=by unfold cH;rw [if_pos e1,h5];rfl
      rw [e1,e2,e3];simp only [h5] at sy;rcases sR with g1|⟨g1,g2⟩
      all_goals
        refine ay func96 ntmps96 ?_;repeat first|refine go ?_|intro _|refine ae @hG ?_|refine ae @uH ?_|refine ae @ik ?_
        (first|refine aD (cW f c.aS k.aP) ?_|refine aE (cW f c.aS k.aP) ?_|refine aF (cW f c.aS k.aP) ?_);refine cC fun p q hl=>?_;have PI:¬(k.aP.length:Int)≥c.aS:=by omega
        repeat first|refine go ?_|intro _|refine fu ?_|refine av ?_|refine ae @sy ?_|refine ae @O6 ?_
        ((first|apply cy (L':=(cW f c.aS k.aP)::_)|apply cD (L':=(cW f c.aS k.aP)::_)|apply cE (L':=(cW f c.aS k.aP)::_)|apply cR (L':=(cW f c.aS k.aP)::_));(focus (apply bC;(focus (exact af));all_goals exact bu)));repeat first|refine go ?_|intro _|refine fu ?_|refine av ?_|refine ae @PJ ?_
        rw [ht];exact aM
     |false=>
      simp only [h5] at sy;by_cases h7:df c k.al aa<0
      ·have e1:dd c k aa ah=5:=by rw [qL,if_pos ⟨h5,h7⟩]
       have e2:dm c ap k aa ah= .zero:=by unfold dm;rw [e1];rfl
       have e3:cH c k aa ah=k:=by unfold cH;rw [e1];rfl
       rw [e1,e2,e3];rcases sR with g1|⟨g1,g2⟩
       all_goals
         refine ay func96 ntmps96 ?_;repeat first|refine go ?_|intro _|refine ae @hG ?_|refine ae @uH ?_|refine ae @ik ?_
         (first|refine aD (cW f c.aS k.aP) ?_|refine aE (cW f c.aS k.aP) ?_|refine aF (cW f c.aS k.aP) ?_);refine cC fun p q hl=>?_;have PI:¬(k.aP.length:Int)≥c.aS:=by omega
         repeat first|refine go ?_|intro _|refine fu ?_|refine av ?_|refine ae @sy ?_|refine ae @BO ?_
         ((first|apply cy (L':=(cW f c.aS k.aP)::_)|apply cD (L':=(cW f c.aS k.aP)::_)|apply cE (L':=(cW f c.aS k.aP)::_)|apply cR (L':=(cW f c.aS k.aP)::_));(focus (apply bC;(focus (exact af));all_goals exact bu)));exact aM
      ·have e1:dd c k aa ah=0:=by rw [qL,if_neg (fun h=>h7 h.2)]
       have e2:dm c ap k aa ah=gj c ap ah aa .zero:=if_pos e1;have e3:cH c k aa ah=⟨fJ c k.al aa (df c k.al aa),gH c.aS k.aP aa ah,k.bD⟩:=by unfold cH;rw [if_pos e1,h5];rfl
       rw [e1,e2,e3];rw [N9 hI h7 h5] at U3;rcases sR with g1|⟨g1,g2⟩
       all_goals
         refine ay func96 ntmps96 ?_;repeat first|refine go ?_|intro _|refine ae @hG ?_|refine ae @uH ?_|refine ae @ik ?_
         (first|refine aD (cW f c.aS k.aP) ?_|refine aE (cW f c.aS k.aP) ?_|refine aF (cW f c.aS k.aP) ?_);refine cC fun p q hl=>?_;have PI:¬(k.aP.length:Int)≥c.aS:=by omega
         repeat first|refine go ?_|intro _|refine fu ?_|refine av ?_|refine ae @sy ?_|refine ae @BO ?_|refine ae @Pq ?_|refine ae @U3 ?_
         ((first|apply cy (L':=(cW f c.aS k.aP)::_)|apply cD (L':=(cW f c.aS k.aP)::_)|apply cE (L':=(cW f c.aS k.aP)::_)|apply cR (L':=(cW f c.aS k.aP)::_));(focus (apply bC;(focus (exact af));all_goals exact bu)));repeat first|refine go ?_|intro _|refine fu ?_|refine av ?_|refine ae @PJ ?_
         rw [ht];exact aM
end
end Go.Sx
