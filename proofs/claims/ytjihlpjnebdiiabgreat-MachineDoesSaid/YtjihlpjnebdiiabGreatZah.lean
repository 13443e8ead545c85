/- MshR2, MshR3, MshR4, MshR5, MshR6, MshR7, MshR8, MshR9: several of my texts as one. My own work. -/
import Derived.Test.YtjihlpjnebdiiabGreatZaf
set_option linter.unusedVariables false
set_option linter.unusedSectionVars false
set_option linter.unusedSimpArgs false
set_option maxRecDepth 100000
set_option maxHeartbeats 4000000
namespace Go.Sx
open Go Go.Proofs Tryz
section
attribute [local irreducible] Exit.then Exit.inBlock Code.wp WC WO WE WQ V aW dL Sat bz bK dU IntKind.wrap WR Code.rounds WT KO
theorem KV {F:List HP} {b:Nat} {ak:Int} {l:List bR} {aa:Int} :
    az prog 127 [.pointer (some ⟨b,0,none⟩),.int .i64 aa] [cW b ak l] F (fun r L'=>r= .tuple [O3 (qY l aa),.bool (dp l aa)].toArray∧L'=[cW b ak l]):=by
  refine ay func127 ntmps127 ?_;refine cC fun p c hl=>?_;have hP:=fun F=>ko (F:=F) (b:=b) (ak:=ak) (l:=l) (aa:=aa) (p:=p) (c:=c) (om);cases h:dp l aa with
  |true=>
   obtain ⟨i,hi,e1,e2,_⟩:=iT h;have e3:qY l aa=l[i]:=by unfold qY;rw [if_pos h,e2]
   rw [e3];rw [e1] at hP;(first|(refine aX (Value.slice p l.length c) inferInstance (om) ?_;intro _)|(refine aY (Value.slice p l.length c) inferInstance (om) ?_;intro _));repeat' (first|refine gd ?_|intro _|refine ae @hP ?_|refine bj ?_ ?_|fail)
   all_goals (apply ad rfl rfl ar)
   all_goals first|exact ⟨rfl,rfl⟩|(apply bC;(focus (exact af));all_goals exact bu)
  |false=>
   have e3:qY l aa= .zero:=by unfold qY;rw [h];rfl
   rw [e3];rw [sF h] at hP;repeat' (first|refine gd ?_|intro _|refine ae @hP ?_|refine bj ?_ ?_|fail)
   all_goals (apply ad rfl rfl ar)
   all_goals first|exact ⟨rfl,rfl⟩|(apply bC;(focus (exact af));all_goals exact bu)
theorem Im {F:List HP} {b:Nat} {ak:Int} {l:List bR} {aa ah:Int} :
    az prog 203 [.pointer (some ⟨b,0,none⟩),.int .i64 aa,.int .i64 ah] [cW b ak l] F (fun r L'=>r= .int .i64 (lS ak l aa ah)∧L'=[cW b ak (gH ak l aa ah)]):=by
  refine ay func203 ntmps203 ?_;by_cases hk:ah≠1∧ah≠2
  ·have e1:lS ak l aa ah=1:=if_pos hk;have e2:gH ak l aa ah=l:=by unfold gH;rw [e1];rfl
   obtain ⟨BN,J2⟩:=hk;rw [e1,e2];repeat first|refine gd ?_|intro _
   exact aM
  ·refine cC fun p c hl=>?_;have hP:=fun F=>ko (F:=F) (b:=b) (ak:=ak) (l:=l) (aa:=aa) (p:=p) (c:=c) (om);have sR:ah=1∨¬ah=1∧ah=2:=by omega
   cases h:dp l aa with
   |true=>
    obtain ⟨i,hi,e0,_,_⟩:=iT h;have e1:lS ak l aa ah=6:=by unfold lS;rw [if_neg hk,if_pos h]
    have e2:gH ak l aa ah=l:=by unfold gH;rw [e1];rfl
    rw [e1,e2];rw [e0] at hP;rcases sR with h1|⟨h1,h2⟩
    ·repeat first|refine gd ?_|intro _|refine ae @hP ?_
     (apply ad rfl rfl ar)
     ·exact ⟨rfl,rfl⟩
     ·(apply bC;(focus (exact af));all_goals exact bu)
    ·repeat first|refine gd ?_|intro _|refine ae @hP ?_
     (apply ad rfl rfl ar)
     ·exact ⟨rfl,rfl⟩
     ·(apply bC;(focus (exact af));all_goals exact bu)
   |false=>
    rw [sF h] at hP;by_cases hf:(l.length:Int)=ak
    ·have e1:lS ak l aa ah=4:=by unfold lS;rw [if_neg hk,h,if_neg Bool.false_ne_true,if_pos hf]
     have e2:gH ak l aa ah=l:=by unfold gH;rw [e1];rfl
     rw [e1,e2];rcases sR with h1|⟨h1,h2⟩
     ·repeat' (first|refine gd ?_|intro _|refine ae @hP ?_|refine bj ?_ ?_|fail)
      all_goals (apply ad rfl rfl ar)
      all_goals first|exact ⟨rfl,rfl⟩|(apply bC;(focus (exact af));all_goals exact bu)
     ·repeat' (first|refine gd ?_|intro _|refine ae @hP ?_|refine bj ?_ ?_|fail)
      all_goals (apply ad rfl rfl ar)
      all_goals first|exact ⟨rfl,rfl⟩|(apply bC;(focus (exact af));all_goals exact bu)
    ·have e1:lS ak l aa ah=0:=by unfold lS;rw [if_neg hk,h,if_neg Bool.false_ne_true,if_neg hf]
     have e2:gH ak l aa ah=l++[⟨aa,ah,-1,0,0,.zero,false,false⟩]:=by unfold gH;rw [e1];rfl
     rw [e1,e2];rcases sR with h1|⟨h1,h2⟩
     ·repeat' (first|refine gd ?_|intro _|refine ae @hP ?_|refine bj ?_ ?_|fail)
      all_goals (apply ad rfl rfl ar)
      all_goals first|exact ⟨rfl,rfl⟩|(apply bC;(focus (exact af));all_goals (first|rfl|(with_reducible assumption)|(simp [aJ,bi];done)|(simp [aJ,bi];omega)|omega|(constructor<;>(simp [aJ,bi])<;>omega)))
     ·repeat' (first|refine gd ?_|intro _|refine ae @hP ?_|refine bj ?_ ?_|fail)
      all_goals (apply ad rfl rfl ar)
      all_goals first|exact ⟨rfl,rfl⟩|(apply bC;(focus (exact af));all_goals (first|rfl|(with_reducible assumption)|(simp [aJ,bi];done)|(simp [aJ,bi];omega)|omega|(constructor<;>(simp [aJ,bi])<;>omega)))
end
section
attribute [local irreducible] Exit.then Exit.inBlock Code.wp WC WO WE WQ V aW dL Sat bz bK dU IntKind.wrap WR Code.rounds WT KO
theorem Gv {F:List HP} {b:Nat} {ak:Int} {l:List bR} :
    az prog 259 [.pointer (some ⟨b,0,none⟩)] [cW b ak l] F (fun r L'=>r= .tuple [.int .i64 (if 0≤gx l then (l.getD (gx l).toNat .zero).aa else 0),.bool (decide (0≤gx l))].toArray∧L'=[cW b ak l]):=by
  refine ay func259 ntmps259 ?_;refine cC fun p c hl=>?_;repeat first|refine gd ?_|intro _
  apply aO (E0:=[(0,_)]) (fun E0 (i:Nat)=>(4,.int .i64 i)::E0) (fun _=>ao b 174 [.int .i64 ak,.slice p l.length c]::aT 185 15 (.slice p l.length c) l.length (aj fg l)::F) (fun i=>i≤l.length∧∀ j (h:j<l.length),j<i→l[j].oU=false) (fun i=>l.length-i) 0
  ·exact bH
  ·exact ⟨om,fun j _ hj=>by omega⟩
  ·exact af
  ·rintro i ⟨hi,h1⟩;by_cases bB:i<l.length
   ·cases h2:l[i].oU with
    |true=>
     have e0:gx l=i:=eU bB h1 h2;rw [e0,if_pos (om),decide_eq_true (om),Int.toNat_natCast,←ia bB];repeat first|refine gd ?_|intro _
     (apply ad rfl rfl ar)
     ·exact ⟨rfl,rfl⟩
     ·(apply bC;(focus (exact af));all_goals exact bu)
    |false=>
     repeat first|refine gd ?_|intro _
     refine aC (i+1) (om) ⟨om,fun j hj rp=>?_⟩ ?_ ?_
     ·by_cases e:j=i
      ·subst e;exact h2
      ·exact h1 j hj (om)
     ·exact bH
     ·exact af
   ·have kM:i=l.length:=by omega
    subst kM;have e0:gx l= -1:=dr h1;rw [e0,if_neg (om),decide_eq_false (om)];repeat first|refine gd ?_|intro _
    (apply ad rfl rfl ar)
    ·exact ⟨rfl,rfl⟩
    ·(apply bC;(focus (exact af));all_goals exact bu)
end
section
attribute [local irreducible] Exit.then Exit.inBlock Code.wp WC WO WE WQ V aW dL Sat bz bK dU IntKind.wrap WR Code.rounds WT KO
theorem yn {F:List HP} {b:Nat} {ak:Int} {l:List bR} {aa:Int} (hg:∀ m∈l,0≤m.gY) :
    az prog 325 [.pointer (some ⟨b,0,none⟩),.int .i64 aa] [cW b ak l] F (fun r L'=>r= .tuple [O3 (fR l aa),.bool (l9 l aa)].toArray∧L'=[cW b ak (iz l aa)]):=by
  refine ay func325 ntmps325 ?_;refine cC fun p c hl=>?_;have hP:=fun F=>ko (F:=F) (b:=b) (ak:=ak) (l:=l) (aa:=aa) (p:=p) (c:=c) (om);cases h:dp l aa with
  |false=>
   have e1:l9 l aa=false:=by unfold l9;rw [h];rfl
   have e2:iz l aa=l:=by unfold iz;rw [e1];rfl
   have e3:fR l aa= .zero:=by unfold fR;rw [e1];rfl
   rw [e1,e2,e3];rw [sF h] at hP;repeat' (first|refine gd ?_|intro _|refine ae @hP ?_|refine bj ?_ ?_|fail)
   all_goals (apply ad rfl rfl ar)
   all_goals first|exact ⟨rfl,rfl⟩|(apply bC;(focus (exact af));all_goals exact bu)
  |true=>
   obtain ⟨i,hi,e0,ea,_⟩:=iT h;have YD:=hg _ (List.getElem_mem hi);rw [e0] at hP;(first|(refine aX (Value.slice p l.length c) inferInstance (om) ?_;intro _)|(refine aY (Value.slice p l.length c) inferInstance (om) ?_;intro _));cases h1:l[i].oU with
   |true=>
    have e1:l9 l aa=false:=by unfold l9;rw [ea,h1];simp
    have e2:iz l aa=l:=by unfold iz;rw [e1];rfl
    have e3:fR l aa= .zero:=by unfold fR;rw [e1];rfl
    rw [e1,e2,e3];repeat' (first|refine gd ?_|intro _|refine ae @hP ?_|refine bj ?_ ?_|fail)
    all_goals (apply ad rfl rfl ar)
    all_goals first|exact ⟨rfl,rfl⟩|(apply bC;(focus (exact af));all_goals exact bu)
   |false=>
    by_cases h2:l[i].dc=l[i].gY
    ·have h3:¬l[i].dc<0:=by omega
     have e1:l9 l aa=true:=by unfold l9;rw [h,ea,h1];simp [h2]
     have e2:iz l aa=l.set i { l[i] with oU:=true}:=by unfold iz;rw [if_pos e1,e0,Int.toNat_natCast,ea]
     have e3:fR l aa=l[i]:=by unfold fR;rw [if_pos e1,ea]
     rw [e1,e2,e3];repeat' (first|refine gd ?_|intro _|refine ae @hP ?_|refine bj ?_ ?_|fail)
     all_goals rw [MH hi]
     all_goals (apply ad rfl rfl ar)
     all_goals first|exact ⟨rfl,rfl⟩|(rw [show l.length=(l.set i { l[i] with oU:=true}).length by simp];(apply bC;(focus (exact af));all_goals exact bu))
    ·have e1:l9 l aa=false:=by unfold l9;rw [h,ea,h1];simp [h2]
     have e2:iz l aa=l:=by unfold iz;rw [e1];rfl
     have e3:fR l aa= .zero:=by unfold fR;rw [e1];rfl
     rw [e1,e2,e3];by_cases h3:l[i].dc<0
     ·repeat' (first|refine gd ?_|intro _|refine ae @hP ?_|refine bj ?_ ?_|fail)
      all_goals (apply ad rfl rfl ar)
      all_goals first|exact ⟨rfl,rfl⟩|(apply bC;(focus (exact af));all_goals exact bu)
     ·repeat' (first|refine gd ?_|intro _|refine ae @hP ?_|refine bj ?_ ?_|fail)
      all_goals (apply ad rfl rfl ar)
      all_goals first|exact ⟨rfl,rfl⟩|(apply bC;(focus (exact af));all_goals exact bu)
end
section
def nf (m:bR):Prop:=(m.ah=1∨m.ah=2)∧ -1≤m.dc∧0≤m.gY∧(0≤m.dc→m.gY≤m.dc)
attribute [local irreducible] Exit.then Exit.inBlock Code.wp WC WO WE WQ V aW dL Sat bz bK dU IntKind.wrap WR Code.rounds WT KO
theorem nx {Q P:Prop} (k:Q) (h:Hid Q→P:=by
  intro k
  first
  |(refine an ?_;refine bF (id:=7) .true (pl:= .p 0 <| .p 1 <| .p 2 <| .p 4 <| .p 5 <| .r 3 <| .r 6 <| .p 7 <| .p 8 <| .p 9 <| .e true [(10,.done)]) k.out)):P:=h ⟨k⟩
theorem KW {F:List HP} {b:Nat} {ak:Int} {l:List bR} {aa:Int} (hg:∀ m∈l,nf m∧m.gY≤9223372036854775806) :
    az prog 323 [.pointer (some ⟨b,0,none⟩),.int .i64 aa] [cW b ak l] F (fun r L'=>r= .int .i64 (lB l aa)∧L'=[cW b ak (fW l aa)]):=by
  refine ay func323 ntmps323 ?_;refine cC fun p c hl=>?_;have hP:=fun F=>ko (F:=F) (b:=b) (ak:=ak) (l:=l) (aa:=aa) (p:=p) (c:=c) (om);cases h:dp l aa with
  |false=>
   have e1:lB l aa=5:=by unfold lB;rw [h];rfl
   have e2:fW l aa=l:=by unfold fW;rw [e1];rfl
   rw [e1,e2];rw [sF h] at hP;repeat' (first|refine go ?_|intro _|refine nx ?_|refine av ?_|refine ae @hP ?_|refine bj ?_ ?_|fail)
   all_goals (apply ad rfl rfl ar)
   all_goals first|exact ⟨rfl,rfl⟩|(apply bC;(focus (exact af));all_goals exact bu)
  |true=>
   obtain ⟨i,hi,e0,ea,_⟩:=iT h;rw [e0] at hP;obtain ⟨⟨hk,wS,hg0,hgn⟩,YE⟩:=hg _ (List.getElem_mem hi);(first|(refine aX (Value.slice p l.length c) inferInstance (om) ?_;intro _)|(refine aY (Value.slice p l.length c) inferInstance (om) ?_;intro _));by_cases h1:l[i].ah=1
   ·have e1:lB l aa=7:=by unfold lB;rw [if_pos h,ea,if_pos (.inl h1)]
    have e2:fW l aa=l:=by unfold fW;rw [e1];rfl
    rw [e1,e2];repeat' (first|refine go ?_|intro _|refine nx ?_|refine av ?_|refine ae @hP ?_|refine bj ?_ ?_|fail)
    all_goals (apply ad rfl rfl ar)
    all_goals first|exact ⟨rfl,rfl⟩|(apply bC;(focus (exact af));all_goals exact bu)
   ·by_cases h2:l[i].dc=l[i].gY
    ·have e1:lB l aa=7:=by unfold lB;rw [if_pos h,ea,if_pos (.inr h2)]
     have e2:fW l aa=l:=by unfold fW;rw [e1];rfl
     rw [e1,e2];repeat' (first|refine go ?_|intro _|refine nx ?_|refine av ?_|refine ae @hP ?_|refine bj ?_ ?_|fail)
     all_goals (apply ad rfl rfl ar)
     all_goals first|exact ⟨rfl,rfl⟩|(apply bC;(focus (exact af));all_goals exact bu)
    ·have e1:lB l aa=0:=by unfold lB;rw [if_pos h,ea,if_neg (om)]
     have e2:fW l aa=l.set i { l[i] with gY:=l[i].gY+1}:=by unfold fW;rw [if_pos e1,e0,Int.toNat_natCast,ea]
     rw [e1,e2];by_cases h3:0≤l[i].dc
     ·repeat' (first|refine go ?_|intro _|refine nx ?_|refine av ?_|refine ae @hP ?_|refine bj ?_ ?_|fail)
      all_goals rw [Ml hi]
      all_goals (apply ad rfl rfl ar)
      all_goals first|exact ⟨rfl,rfl⟩|(rw [show l.length=(l.set i { l[i] with gY:=l[i].gY+1}).length by simp];(apply bC;(focus (exact af));all_goals exact bu))
     ·repeat' (first|refine go ?_|intro _|refine nx ?_|refine av ?_|refine ae @hP ?_|refine bj ?_ ?_|fail)
      all_goals rw [Ml hi]
      all_goals (apply ad rfl rfl ar)
      all_goals first|exact ⟨rfl,rfl⟩|(rw [show l.length=(l.set i { l[i] with gY:=l[i].gY+1}).length by simp];(apply bC;(focus (exact af));all_goals exact bu))
end
section
theorem Qr {l:List bR} {i:Nat} (hi:i<l.length) (x:bR):aV (aj fg l) (i*15) (fg x)=aj fg (l.set i x):=
  mb (enc:=fg) (n:=15) (fun _=>rfl) l i hi (cs:=fg x) (x:=x) (by simp) rfl
theorem NM {m:bR} {aH bI:Int} (h:nf m):u4 m aH bI=true↔¬(0≤m.dc∨aH<0∨aH<m.gY∨bI≠4∧0<aH)∧¬(m.ah=2∧bI≠4∨m.ah=1∧bI≠1∧bI≠2):=by
  obtain ⟨hk,hn,hg,_⟩:=h;unfold u4;rw [Bool.and_eq_true,decide_eq_true_eq];by_cases h2:m.ah=2
  ·rw [if_pos h2,decide_eq_true_eq];constructor
   ·rintro ⟨⟨a,b⟩,c⟩;exact ⟨om,om⟩
   ·rintro ⟨a,b⟩;exact ⟨⟨om,om⟩,om⟩
  ·rw [if_neg h2,decide_eq_true_eq];constructor
   ·rintro ⟨⟨a,b⟩,c,d⟩;exact ⟨om,om⟩
   ·rintro ⟨a,b⟩;exact ⟨⟨om,om⟩,om,om⟩
end
section
attribute [local irreducible] Exit.then Exit.inBlock Code.wp WC WO WE WQ V aW dL Sat bz bK dU IntKind.wrap WR Code.rounds WT KO
theorem tk {Q P:Prop} (k:Q) (h:Hid Q→P:=by
  intro k
  first
  |(refine an ?_;refine bF (id:=12) .true (pl:= .p 0 <| .p 1 <| .p 2 <| .p 4 <| .r 3 <| .r 5 <| .p 6 <| .e true [(7,.done)]) k.out)):P:=h ⟨k⟩
theorem Bs {F:List HP} {b:Nat} {ak:Int} {l:List bR} {aa aH bI:Int} {w:Words} (hg:∀ m∈l,nf m) :
    az prog 321 [.pointer (some ⟨b,0,none⟩),.int .i64 aa,.int .i64 aH,.int .i64 bI,wv w] [cW b ak l] F (fun r L'=>r= .int .i64 (fm l aa aH bI)∧L'=[cW b ak (dw l aa aH bI w)]):=by
  refine ay func321 ntmps321 ?_;refine cC fun p c hl=>?_;have hP:=fun F=>ko (F:=F) (b:=b) (ak:=ak) (l:=l) (aa:=aa) (p:=p) (c:=c) (om);cases h:dp l aa with
  |false=>
   have e1:fm l aa aH bI=5:=by unfold fm;rw [h];rfl
   have e2:dw l aa aH bI w=l:=by unfold dw;rw [e1];rfl
   rw [e1,e2];rw [sF h] at hP;repeat' (first|refine go ?_|intro _|refine tk ?_|refine av ?_|refine ae @hP ?_|refine bj ?_ ?_|fail)
   all_goals (apply ad rfl rfl ar)
   all_goals first|exact ⟨rfl,rfl⟩|(apply bC;(focus (exact af));all_goals exact bu)
  |true=>
   obtain ⟨i,hi,e0,ea,_⟩:=iT h;rw [e0] at hP;have cO:=hg _ (List.getElem_mem hi);have Vv:=NM (aH:=aH) (bI:=bI) cO;obtain ⟨hk,wS,hg0,hgn⟩:=cO;(first|(refine aX (Value.slice p l.length c) inferInstance (om) ?_;intro _)|(refine aY (Value.slice p l.length c) inferInstance (om) ?_;intro _));cases hf:u4 l[i] aH bI with
   |false=>
    rw [hf] at Vv;have dC:(0≤l[i].dc∨aH<0∨aH<l[i].gY∨bI≠4∧0<aH)∨(l[i].ah=2∧bI≠4∨l[i].ah=1∧bI≠1∧bI≠2):=by
      apply Classical.byContradiction;intro hc;have:=Vv.2 ⟨fun h=>hc (.inl h),fun h=>hc (.inr h)⟩;cases this
    clear Vv;have e1:fm l aa aH bI=7:=by unfold fm;rw [if_pos h,ea,hf];rfl
    have e2:dw l aa aH bI w=l:=by unfold dw;rw [e1];rfl
    rw [e1,e2];repeat' (first|refine go ?_|intro _|refine tk ?_|refine av ?_|refine ae @hP ?_|refine bj ?_ ?_|fail)
    all_goals first|(exfalso;omega)|skip
    all_goals (apply ad rfl rfl ar)
    all_goals first|exact ⟨rfl,rfl⟩|(apply bC;(focus (exact af));all_goals exact bu)
   |true=>
    obtain ⟨hn1',hn2'⟩:=Vv.1 hf;have e1:fm l aa aH bI=0:=by unfold fm;rw [if_pos h,ea,hf];rfl
    have e2:dw l aa aH bI w=l.set i { l[i] with dc:=aH,bI:=bI,ag:=w}:=by unfold dw;rw [if_pos e1,e0,Int.toNat_natCast,ea]
    rw [e1,e2];have kQ:=Qr hi { l[i] with dc:=aH,bI:=bI,ag:=w};repeat' (first|refine go ?_|intro _|refine tk ?_|refine av ?_|refine ae @hP ?_|refine bj ?_ ?_|fail)
    all_goals first|(exfalso;omega)|skip
    all_goals first|rw [kQ]|skip
    all_goals (apply ad rfl rfl ar)
    all_goals first|exact ⟨rfl,rfl⟩|(rw [show l.length=(l.set i { l[i] with dc:=aH,bI:=bI,ag:=w}).length by simp];(apply bC;(focus (exact af));all_goals exact bu))
end
section
attribute [local irreducible] Exit.then Exit.inBlock Code.wp WC WO WE WQ V aW dL Sat bz bK dU IntKind.wrap WR Code.rounds WT KO
theorem xE {Q P:Prop} (k:Q) (h:Hid Q→P:=by
  intro k
  first
  |(refine an ?_;refine bF (id:=4) .false (pl:= .p 0 <| .p 1 <| .p 2 <| .p 4 <| .p 5 <| .r 3 <| .e true [(6,.p 7 <| .p 8 <| .e true [(9,.done)])]) k.out)):P:=h ⟨k⟩
theorem Gw {F:List HP} {b:Nat} {ak:Int} {l:List bR} {aa aH:Int} (hg:∀ m∈l,nf m) :
    az prog 322 [.pointer (some ⟨b,0,none⟩),.int .i64 aa,.int .i64 aH] [cW b ak l] F (fun r L'=>r= .int .i64 (fm l aa aH 4)∧L'=[cW b ak (dy l aa aH)]):=by
  have hD:=fun F=>Bs (F:=F) (b:=b) (ak:=ak) (l:=l) (aa:=aa) (aH:=aH) (bI:=4) (w:= .zero) hg;refine ay func322 ntmps322 ?_;by_cases h:fm l aa aH 4=0
  ·have kH:dp l aa=true:=by
     cases e:dp l aa with
     |true=>rfl
     |false=>unfold fm at h;rw [e] at h;cases h
   obtain ⟨i,hi,e0,ea,el⟩:=iT kH;have e1:dw l aa aH 4 .zero=l.set i { l[i] with dc:=aH,bI:=4,ag:= .zero}:=by unfold dw;rw [if_pos h,e0,Int.toNat_natCast,ea]
   have e2:dy l aa aH=l.set i { l[i] with dc:=aH,bI:=4,ag:= .zero,granted:=true}:=by unfold dy;rw [if_pos h,e0,Int.toNat_natCast,ea]
   have e3:nK (l.set i { l[i] with dc:=aH,bI:=4,ag:= .zero}) aa=i:=by
     have h9:=xD (q:=fun m:bR=>decide (m.aa=aa)) (l:=l) (i:=i) (x:={ l[i] with dc:=aH,bI:=4,ag:= .zero}) hi rfl;exact h9.trans e0
   rw [h,e1] at hD;rw [h,e2];have sq:i<(l.set i { l[i] with dc:=aH,bI:=4,ag:= .zero}).length:=by rw [List.length_set];exact hi
   repeat first|refine go ?_|intro _|refine ae @hD ?_
   (first|refine aD (cW b ak (l.set i { l[i] with dc:=aH,bI:=4,ag:= .zero})) ?_|refine aE (cW b ak (l.set i { l[i] with dc:=aH,bI:=4,ag:= .zero})) ?_|refine aF (cW b ak (l.set i { l[i] with dc:=aH,bI:=4,ag:= .zero})) ?_);first|refine lV fun p c hl=>?_|refine cC fun p c hl=>?_
   have hP:=fun F=>ko (F:=F) (b:=b) (ak:=ak) (l:=l.set i { l[i] with dc:=aH,bI:=4,ag:= .zero}) (aa:=aa) (p:=p) (c:=c) (om);rw [e3] at hP;(first|(refine aX (Value.slice p (l.set i { l[i] with dc:=aH,bI:=4,ag:= .zero}).length c) inferInstance (om) ?_;intro _)|(refine aY (Value.slice p (l.set i { l[i] with dc:=aH,bI:=4,ag:= .zero}).length c) inferInstance (om) ?_;intro _));repeat' (first|refine go ?_|intro _|refine xE ?_|refine av ?_|refine ae @hP ?_|refine bj ?_ ?_|fail)
   all_goals rw [MG sq]
   all_goals simp only [List.set_set,List.getElem_set_self]
   all_goals (apply ad rfl rfl ar)
   all_goals first|exact ⟨rfl,rfl⟩|(rw [show (l.set i { l[i] with dc:=aH,bI:=4,ag:= .zero}).length=(l.set i { l[i] with dc:=aH,bI:=4,ag:= .zero,granted:=true}).length by simp] at hl ⊢;(apply bC;(focus (exact af));all_goals exact bu))
  ·have e2:dy l aa aH=l:=if_neg h;have e1:dw l aa aH 4 .zero=l:=if_neg h;rw [e1] at hD;rw [e2];repeat first|refine go ?_|intro _|refine xE ?_|refine av ?_|refine ae @hD ?_
   exact aM
end
section
attribute [local irreducible] Exit.then Exit.inBlock Code.wp WC WO WE WQ V aW dL Sat bz bK dU IntKind.wrap WR Code.rounds WT KO
theorem Gx {F:List HP} {b:Nat} {ak:Int} {l:List bR} {aa:Int} :
    az prog 260 [.pointer (some ⟨b,0,none⟩),.int .i64 aa] [cW b ak l] F (fun r L'=>r= .int .i64 (kS l aa)∧L'=[cW b ak (gy l aa)]):=by
  refine ay func260 ntmps260 ?_;refine cC fun p c hl=>?_;have hP:=fun F=>ko (F:=F) (b:=b) (ak:=ak) (l:=l) (aa:=aa) (p:=p) (c:=c) (om);cases h:dp l aa with
  |false=>
   have e1:kS l aa=5:=by unfold kS;rw [h];rfl
   have e2:gy l aa=l:=by unfold gy;rw [e1];rfl
   rw [e1,e2];rw [sF h] at hP;repeat' (first|refine gd ?_|intro _|refine ae @hP ?_|refine bj ?_ ?_|fail)
   all_goals (apply ad rfl rfl ar)
   all_goals first|exact ⟨rfl,rfl⟩|(apply bC;(focus (exact af));all_goals exact bu)
  |true=>
   obtain ⟨n,hn,e0,ea,_⟩:=iT h;rw [e0] at hP;cases ho:l[n].oU with
   |false=>
    have e1:kS l aa=7:=by unfold kS;rw [if_pos h,ea,ho];rfl
    have e2:gy l aa=l:=by unfold gy;rw [e1];rfl
    rw [e1,e2];repeat' (first|refine gd ?_|intro _|refine ae @hP ?_|refine bj ?_ ?_|fail)
    all_goals (apply ad rfl rfl ar)
    all_goals first|exact ⟨rfl,rfl⟩|(apply bC;(focus (exact af));all_goals exact bu)
   |true=>
    have e1:kS l aa=0:=by unfold kS;rw [if_pos h,ea,ho];rfl
    have e2:gy l aa=l.eraseIdx n:=by unfold gy;rw [if_pos e1,e0,Int.toNat_natCast]
    rw [e1,e2];repeat first|refine gd ?_|intro _|refine ae @hP ?_
    rename_i b0
    apply aO (E0:=[(0,_),(5,_)]) (fun E0 (q:Nat×Option Addr×Nat)=>(7,.int .i64 q.1)::(6,.slice q.2.1 ((l.take q.1).eraseIdx n).length q.2.2)::E0)
      (fun q=>aT 185 15 (.slice q.2.1 ((l.take q.1).eraseIdx n).length q.2.2) ((l.take q.1).eraseIdx n).length (aj fg ((l.take q.1).eraseIdx n))::ao b 174 [.int .i64 ak,.slice p l.length c]::aT 185 15 (.slice p l.length c) l.length (aj fg l)::F) (fun q=>q.1≤l.length) (fun q=>l.length-q.1) (0,some ⟨b0,0,none⟩,0)
    ·exact bH
    ·exact Nat.zero_le _
    ·dsimp only;simp only [List.take_zero,List.eraseIdx_nil,List.length_nil,lU];exact af
    ·rintro ⟨i,p',c'⟩ hi;dsimp only at hi ⊢;have hlen:=iu (l.take i) n;rw [List.length_take] at hlen;by_cases bB:i<l.length
     ·by_cases he:i=n
      ·repeat first|refine gd ?_|intro _
       refine aC (i+1,p',c') (by dsimp only;omega) (by dsimp only;omega) ?_ ?_
       ·dsimp only;rw [cd l n i bB,if_pos he];exact bH
       ·dsimp only;rw [cd l n i bB,if_pos he];exact ai.refl
      ·repeat first|refine gd ?_|intro _
       rename_i p2 c2;refine aC (i+1,p2,c2) (by dsimp only;omega) (by dsimp only;omega) ?_ ?_
       ·dsimp only;rw [cd l n i bB,if_neg he];rw [List.length_append,List.length_singleton];exact bH
       ·dsimp only;rw [cd l n i bB,if_neg he];rw [List.length_append,List.length_singleton,aJ,bi];exact af
     ·repeat first|refine gd ?_|intro _
      have kM:i=l.length:=by omega
      subst kM;rw [List.take_length];(apply ad rfl rfl ar)
      ·exact ⟨rfl,rfl⟩
      ·have hlen:=iu l n;exact eb @bC
end
end Go.Sx
