/- Ca2: several of my texts as one. My own work. -/
import Derived.Test.YtjihlpjnebdiiabGreatZap
set_option linter.unusedVariables false
set_option linter.unusedSectionVars false
set_option linter.unusedSimpArgs false
set_option maxRecDepth 100000
set_option maxHeartbeats 4000000
namespace Go.Sx
open Go Go.Proofs Tryz
section
attribute [local irreducible] Exit.then Exit.inBlock Code.wp WC WO WE WQ V aW dL Sat bz bK dU IntKind.wrap WR Code.rounds WT KO
theorem eV {Q P:Prop} (k:Q) (h:Hid Q→P:=by
  intro k
  first
  |(refine an ?_;refine bF (id:=11) .false (pl:= .p 0 <| .p 1 <| .p 2 <| .p 6 <| .p 7 <| .p 8 <| .p 9 <| .r 3 <| .r 10 <| .e true [(4,.p 5 <| .p 11 <| .p 12 <| .done)]) k.out)):P:=h ⟨k⟩
theorem Q6 {F:List HP} {b a f e:Nat} {c:au} {ap aa ah:Int} {k:cT} (hc:aB c=true) (iD:dZ aa) :
    az prog 155 [.pointer (some ⟨b,0,none⟩),.int .i64 aa,.int .i64 ah] (pU b a f e c ap k) F (fun r L'=>r= .tuple [mv (dm c ap k aa ah),.int .i64 (dd c k aa ah)].toArray∧L'=pU b a f e c ap (cH c k aa ah)):=by
  have hL:=fun F=>nZ (F:=F) (c:=c) (a:=aa) (gA hc) iD;by_cases yT:bG c aa=false∨(ah≠1∧ah≠2)
  ·have e1:dd c k aa ah=1:=if_pos yT;have e2:dm c ap k aa ah= .zero:=by unfold dm;rw [e1];rfl
   have e3:cH c k aa ah=k:=by unfold cH;rw [e1];rfl
   rw [e1,e2,e3];refine ay func155 ntmps155 ?_;cases cO:bG c aa with
   |false=>
    have e0:p7 c aa=1:=by unfold p7;rw [cO];rfl
    simp only [e0] at hL;repeat first|refine go ?_|intro _|refine eV ?_|refine av ?_|refine ae @hL ?_
    exact aM
   |true=>
    have e0:p7 c aa=0:=by unfold p7;rw [cO];rfl
    simp only [e0] at hL;obtain ⟨BN,J2⟩:ah≠1∧ah≠2:=by
      rcases yT with h|h
      ·rw [cO] at h;cases h
      ·exact h
    repeat first|refine go ?_|intro _|refine eV ?_|refine av ?_|refine ae @hL ?_
    exact aM
  ·have cO:bG c aa=true:=by
     cases h:bG c aa with
     |true=>rfl
     |false=>exact absurd (.inl h) yT
   have sR:ah=1∨¬ah=1∧ah=2:=by
     have:¬(ah≠1∧ah≠2):=fun h=>yT (.inr h);omega
   have e0:p7 c aa=0:=by unfold p7;rw [cO];rfl
   simp only [e0] at hL;have qL:dd c k aa ah=if dp k.aP aa=true∨iP k.bD aa=true∨ls c k aa ah=true then 6 else if (k.aP.length:Int)=c.aS then 4 else if gI c k.al aa=false∧df c k.al aa<0 then 5 else 0:=if_neg yT;have ik:=fun F=>Jw (F:=F) (b:=b) (a:=a) (f:=f) (e:=e) (ap:=ap) (k:=k) (ah:=ah) hc iD;have fS:=fun F=>pZ (F:=F) (b:=b) (a:=a) (f:=f) (e:=e) (ap:=ap) (k:=k) hc iD;have cZ:=fun F k=>AU (F:=F) (b:=b) (a:=a) (f:=f) (e:=e) (ap:=ap) (k:=k) (ah:=ah) hc iD;have hG:=fun F=>Qk (F:=F) (b:=f) (ak:=c.aS) (l:=k.aP) (aa:=aa);have uH:=fun F=>Tf (F:=F) (b:=e) (ak:=c.aw) (l:=k.bD) (aa:=aa);have BO:=fun F=>NU (F:=F) (b:=a) (c:=c) (l:=k.al) (aa:=aa) (gA hc) iD;have O6:=fun F=>Fy (F:=F) (b:=a) (c:=c) (l:=k.al) (aa:=aa) (lk:=true) (gA hc) iD;have Pq:=fun F=>QB (F:=F) (b:=a) (c:=c) (l:=k.al) (aa:=aa) (kV:=df c k.al aa) (gA hc) iD;have PJ:=fun F=>NI (F:=F) (b:=f) (ak:=c.aS) (l:=k.aP) (aa:=aa) (ah:=ah);by_cases h6:dp k.aP aa=true∨iP k.bD aa=true∨ls c k aa ah=true
   ·have e1:dd c k aa ah=6:=by rw [qL,if_pos h6]
    have e2:dm c ap k aa ah= .zero:=by unfold dm;rw [e1];rfl
    have e3:cH c k aa ah=k:=by unfold cH;rw [e1];rfl
    rw [e1,e2,e3];cases h1:dp k.aP aa with
    |true=>
     simp only [h1] at hG;rcases sR with g1|⟨g1,g2⟩
     ·refine ay func155 ntmps155 ?_;repeat first|refine go ?_|intro _|refine eV ?_|refine av ?_|refine ae @hL ?_|refine ae @hG ?_|refine ae @uH ?_|refine ae @fS ?_|refine ae @BO ?_
      exact aM
     ·refine ay func155 ntmps155 ?_;repeat first|refine go ?_|intro _|refine eV ?_|refine av ?_|refine ae @hL ?_|refine ae @hG ?_|refine ae @uH ?_|refine ae @fS ?_|refine ae @BO ?_
      exact aM
    |false=>
     simp only [h1] at hG;cases h2:iP k.bD aa with
     |true=>
      simp only [h2] at uH;rcases sR with g1|⟨g1,g2⟩
      ·refine ay func155 ntmps155 ?_;repeat first|refine go ?_|intro _|refine eV ?_|refine av ?_|refine ae @hL ?_|refine ae @hG ?_|refine ae @uH ?_|refine ae @fS ?_|refine ae @BO ?_
       exact aM
      ·refine ay func155 ntmps155 ?_;repeat first|refine go ?_|intro _|refine eV ?_|refine av ?_|refine ae @hL ?_|refine ae @hG ?_|refine ae @uH ?_|refine ae @fS ?_|refine ae @BO ?_
       exact aM
     |false=>
      simp only [h2] at uH;have h3:ls c k aa ah=true:=by
        rcases h6 with h|h|h
        ·rw [h1] at h;cases h
        ·rw [h2] at h;cases h
        ·exact h
      simp only [h3] at ik;rcases sR with g1|⟨g1,g2⟩
      ·refine ay func155 ntmps155 ?_;repeat first|refine go ?_|intro _|refine eV ?_|refine av ?_|refine ae @hL ?_|refine ae @hG ?_|refine ae @uH ?_|refine ae @fS ?_|refine ae @BO ?_|refine ae @ik ?_
       exact aM
      ·refine ay func155 ntmps155 ?_;repeat first|refine go ?_|intro _|refine eV ?_|refine av ?_|refine ae @hL ?_|refine ae @hG ?_|refine ae @uH ?_|refine ae @fS ?_|refine ae @BO ?_|refine ae @ik ?_
       exact aM
   ·have h1:dp k.aP aa=false:=by
      cases h:dp k.aP aa with
      |false=>rfl
      |true=>exact absurd (.inl h) h6
    have h2:iP k.bD aa=false:=by
      cases h:iP k.bD aa with
      |false=>rfl
      |true=>exact absurd (.inr (.inl h)) h6
    have h3:ls c k aa ah=false:=by
      cases h:ls c k aa ah with
      |false=>rfl
      |true=>exact absurd (.inr (.inr h)) h6
    rw [if_neg h6] at qL;simp only [h1] at hG;simp only [h2] at uH;simp only [h3] at ik;by_cases h4:(k.aP.length:Int)=c.aS
    ·have e1:dd c k aa ah=4:=by rw [qL,if_pos h4]
     have e2:dm c ap k aa ah= .zero:=by unfold dm;rw [e1];rfl
     have e3:cH c k aa ah=k:=by unfold cH;rw [e1];rfl
     rw [e1,e2,e3];rcases sR with g1|⟨g1,g2⟩
     ·refine ay func155 ntmps155 ?_;repeat first|refine go ?_|intro _|refine eV ?_|refine av ?_|refine ae @hL ?_|refine ae @hG ?_|refine ae @uH ?_|refine ae @fS ?_|refine ae @BO ?_|refine ae @ik ?_|refine ae @np ?_
      exact aM
     ·refine ay func155 ntmps155 ?_;repeat first|refine go ?_|intro _|refine eV ?_|refine av ?_|refine ae @hL ?_|refine ae @hG ?_|refine ae @uH ?_|refine ae @fS ?_|refine ae @BO ?_|refine ae @ik ?_|refine ae @np ?_
      exact aM
    ·rw [if_neg h4] at qL;cases h5:gI c k.al aa with
     |true=>
      have e1:dd c k aa ah=0:=by rw [qL,h5];rfl
      have e2:dm c ap k aa ah=gj c ap ah aa .zero:=if_pos e1;have e3:cH c k aa ah=⟨eZ c k.al aa true,gH c.aS k.aP aa ah,k.bD⟩:=by unfold cH;rw [if_pos e1,h5];rfl
      rw [e1,e2,e3];simp only [h5] at fS;have vL:=fun F=>cZ F ⟨eZ c k.al aa true,gH c.aS k.aP aa ah,k.bD⟩;rcases sR with g1|⟨g1,g2⟩
      ·refine ay func155 ntmps155 ?_;repeat first|refine go ?_|intro _|refine eV ?_|refine av ?_|refine ae @hL ?_|refine ae @hG ?_|refine ae @uH ?_|refine ae @fS ?_|refine ae @BO ?_|refine ae @ik ?_|refine ae @np ?_|refine ae @O6 ?_|refine ae @PJ ?_|refine ae @vL ?_
       exact aM
      ·refine ay func155 ntmps155 ?_;repeat first|refine go ?_|intro _|refine eV ?_|refine av ?_|refine ae @hL ?_|refine ae @hG ?_|refine ae @uH ?_|refine ae @fS ?_|refine ae @BO ?_|refine ae @ik ?_|refine ae @np ?_|refine ae @O6 ?_|refine ae @PJ ?_|refine ae @vL ?_
       exact aM
     |false=>
      simp only [h5] at fS;by_cases h7:df c k.al aa<0
      ·have e1:dd c k aa ah=5:=by rw [qL,if_pos ⟨h5,h7⟩]
       have e2:dm c ap k aa ah= .zero:=by unfold dm;rw [e1];rfl
       have e3:cH c k aa ah=k:=by unfold cH;rw [e1];rfl
       rw [e1,e2,e3];rcases sR with g1|⟨g1,g2⟩
       ·refine ay func155 ntmps155 ?_;repeat first|refine go ?_|intro _|refine eV ?_|refine av ?_|refine ae @hL ?_|refine ae @hG ?_|refine ae @uH ?_|refine ae @fS ?_|refine ae @BO ?_|refine ae @ik ?_|refine ae @np ?_
        exact aM
       ·refine ay func155 ntmps155 ?_;repeat first|refine go ?_|intro _|refine eV ?_|refine av ?_|refine ae @hL ?_|refine ae @hG ?_|refine ae @uH ?_|refine ae @fS ?_|refine ae @BO ?_|refine ae @ik ?_|refine ae @np ?_
        exact aM
      ·have e1:dd c k aa ah=0:=by rw [qL,if_neg (fun h=>h7 h.2)]
       have e2:dm c ap k aa ah=gj c ap ah aa .zero:=if_pos e1;have e3:cH c k aa ah=⟨fJ c k.al aa (df c k.al aa),gH c.aS k.aP aa ah,k.bD⟩:=by unfold cH;rw [if_pos e1,h5];rfl
       rw [e1,e2,e3];have vL:=fun F=>cZ F ⟨fJ c k.al aa (df c k.al aa),gH c.aS k.aP aa ah,k.bD⟩;rcases sR with g1|⟨g1,g2⟩
       ·refine ay func155 ntmps155 ?_;repeat first|refine go ?_|intro _|refine eV ?_|refine av ?_|refine ae @hL ?_|refine ae @hG ?_|refine ae @uH ?_|refine ae @fS ?_|refine ae @BO ?_|refine ae @ik ?_|refine ae @np ?_|refine ae @Pq ?_|refine ae @PJ ?_|refine ae @vL ?_
        exact aM
       ·refine ay func155 ntmps155 ?_;repeat first|refine go ?_|intro _|refine eV ?_|refine av ?_|refine ae @hL ?_|refine ae @hG ?_|refine ae @uH ?_|refine ae @fS ?_|refine ae @BO ?_|refine ae @ik ?_|refine ae @np ?_|refine ae @Pq ?_|refine ae @PJ ?_|refine ae @vL ?_
        exact aM
theorem MR {F:List HP} {b:Nat} {c:au} {ap aa ah:Int} {k:cT} (iD:dZ aa) :
    az prog 155 [.pointer (some ⟨b,0,none⟩),.int .i64 aa,.int .i64 ah] [oL b c ap k] F (fun r L'=>r= .tuple [mv (dm c ap k aa ah),.int .i64 (dd c k aa ah)].toArray∧L'=[oL b c ap (cH c k aa ah)]):=
  lZ (fun a f e hf=>Q6 hf.1 iD) (fb func155 rfl rfl)
end
end Go.Sx
