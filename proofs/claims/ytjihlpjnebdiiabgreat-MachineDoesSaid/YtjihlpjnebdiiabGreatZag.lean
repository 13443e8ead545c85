/- Wb, WbR: several of my texts as one. My own work. -/
import Derived.Test.YtjihlpjnebdiiabGreatZaa
set_option linter.unusedVariables false
set_option linter.unusedSectionVars false
set_option linter.unusedSimpArgs false
set_option maxRecDepth 100000
set_option maxHeartbeats 4000000
namespace Go.Sx
open Go Go.Proofs Tryz
section
attribute [local irreducible] Exit.then Exit.inBlock Code.wp WC WO WE WQ V aW dL Sat bz bK dU IntKind.wrap WR Code.rounds WT KO
def fz (l:List li) (aa:Int):Int:=bO (fun e=>decide (e.aa=aa)) l
def rb (l:List li) (aa:Int):li:=l.getD (fz l aa).toNat ⟨0,.zero,false⟩
def iP (l:List li) (aa:Int):Bool:=decide (0≤fz l aa)
def jV (ak:Int) (l:List li) (aa:Int):Int:=if iP l aa then 6 else if (l.length:Int)=ak then 4 else 0
def kT (ak:Int) (l:List li) (aa:Int) (w:Words):List li:=if iP l aa then l else if (l.length:Int)=ak then l else l++[⟨aa,w,true⟩]
def fY (l:List li) (aa:Int):Int:=if iP l aa then (if (rb l aa).live then 0 else 7) else 5
def jB (l:List li) (aa:Int):Words:=if iP l aa&& (rb l aa).live then (rb l aa).ag else .zero
def iA (l:List li) (aa:Int):List li:=if iP l aa&& (rb l aa).live then l.set (fz l aa).toNat { rb l aa with live:=false} else l
def kK (l:List li) (aa:Int):Int:=if iP l aa then 0 else 5
def mV (l:List li) (aa:Int):List li:=if iP l aa then l.eraseIdx (fz l aa).toNat else l
def Mm (l:List li) (aa:Int):li:=if iP l aa then rb l aa else ⟨0,.zero,false⟩
theorem sl {l:List li} {aa:Int} (h:iP l aa=true):∃ i:Nat,∃ hi:i<l.length,fz l aa=i∧rb l aa=l[i]∧l[i].aa=aa:=by
  obtain ⟨i,hi,h1,h2,_⟩:=fx (of_decide_eq_true h);refine ⟨i,hi,h1,?_,by simpa using h2⟩;unfold rb fz;rw [h1];simp [hi]
theorem vK {l:List li} {aa:Int} (h:iP l aa=false):fz l aa= -1:=(ix (of_decide_eq_false h)).1
abbrev Wb (b:Nat) (ak:Int) (l:List li):HP:=RL 330 131 10 bc b ak l
theorem Tb {F:List HP} {ak:Int} (h:1≤ak∧ak≤8):az prog 138 [.int .i64 ak] [] F (fun r L'=>∃ b,r= .tuple [.pointer (some ⟨b,0,none⟩),.int .i64 0].toArray∧L'=[Wb b ak []]):=by
  refine ay func138 ntmps138 ?_;repeat first|refine gd ?_|intro _
  (apply ad rfl rfl ar)
  ·exact ⟨_,rfl,rfl⟩
  ·exact bC (l:=[]) (ai.cons (aI ai.refl)) rfl rfl (by simp;omega)
theorem Tc {F:List HP} {b:Nat} {aa:Int} {T:TypeId} {C:List Value→List HP} {e:li} (k:bX b F T [.int .i64 aa] C) :
    az prog 347 [bv e,.pointer (some ⟨b,0,none⟩)] [] F (fun r L'=>r= .bool (decide (e.aa=aa))∧L'=[]):=by
  refine ay func347 ntmps347 ?_;repeat first|refine gd ?_|intro _
  exact aM
theorem Td {F:List HP} {b:Nat} {aa:Int} {T:TypeId} {C:List Value→List HP} {v:Value} {l:List li} (k1:bX b F T [.int .i64 aa] C) (k:bN F 10 v l.length (aj bc l)) (hn:l.length≤1099511627776) :
    az prog 346 [v,.func (.func 347) [].toArray [.pointer (some ⟨b,0,none⟩)].toArray] [] F (fun r L'=>r= .int .i64 (fz l aa)∧L'=[]):=
  yL (first:=[]) (p:=fun e=>decide (e.aa=aa)) k hn (fun x _=>Tc k1)
theorem v8 {F:List HP} {b:Nat} {ak:Int} {l:List li} {aa:Int}:az prog 309 [.pointer (some ⟨b,0,none⟩),.int .i64 aa] [Wb b ak l] F (fun r L'=>r= .int .i64 (fz l aa)∧L'=[Wb b ak l]):=by
  refine ay func309 ntmps309 ?_;refine cC fun p c hl=>?_;repeat first|refine gd ?_|intro _|refine ae @Td ?_
  (apply ad rfl rfl ar)
  ·exact ⟨rfl,rfl⟩
  ·(apply bC;(focus (exact af));all_goals exact bu)
theorem Jr {F:List HP} {b:Nat} {ak:Int} {l:List li}:az prog 313 [.pointer (some ⟨b,0,none⟩)] [Wb b ak l] F (fun r L'=>r= .int .i64 (ak-l.length)∧L'=[Wb b ak l]):=by
  refine ay func313 ntmps313 ?_;refine cC fun p c hl=>?_;repeat first|refine gd ?_|intro _
  (apply ad rfl rfl ar)
  ·exact ⟨rfl,rfl⟩
  ·(apply bC;(focus (exact af));all_goals exact bu)
theorem ym {Q P:Prop} (k:Q) (h:Hid Q→P:=by
  intro k
  first
  |(refine an ?_;refine bF (id:=5) .true (pl:= .p 0 <| .p 1 <| .p 2 <| .p 3 <| .p 5 <| .r 4 <| .r 6 <| .p 7 <| .e true [(8,.e true [(9,.p 10 <| .p 11 <| .e false [(12,.done)])])]) k.out)):P:=h ⟨k⟩
theorem Te {F:List HP} {b:Nat} {ak:Int} {l:List li} {aa:Int} {w:Words}:az prog 248 [.pointer (some ⟨b,0,none⟩),.int .i64 aa,wv w] [Wb b ak l] F (fun r L'=>r= .int .i64 (jV ak l aa)∧L'=[Wb b ak (kT ak l aa w)]):=by
  refine ay func248 ntmps248 ?_;cases e:iP l aa with
  |true=>
   have h0:0≤fz l aa:=of_decide_eq_true e;repeat first|refine go ?_|intro _|refine ym ?_|refine av ?_|refine ae @v8 ?_
   (apply ad rfl rfl ar)
   ·exact ⟨by simp [jV,e],rfl⟩
   ·simp only [kT,e,if_true];exact af
  |false=>
   have h0:=vK e;by_cases hf:(l.length:Int)=ak
   ·repeat first|refine go ?_|intro _|refine ym ?_|refine av ?_|refine ae @v8 ?_|refine ae @Jr ?_
    (apply ad rfl rfl ar)
    ·exact ⟨by simp [jV,e,hf],rfl⟩
    ·simp only [kT,e,hf,Bool.false_eq_true,if_false,if_true];exact af
   ·repeat first|refine go ?_|intro _|refine ae @v8 ?_|refine ae @Jr ?_
    (first|refine aD (Wb b ak l) ?_|refine aE (Wb b ak l) ?_|refine aF (Wb b ak l) ?_);refine cC fun p c hl=>?_;repeat first|refine go ?_|intro _|refine ym ?_|refine av ?_
    (apply ad rfl rfl ar)
    ·exact ⟨by simp [jV,e,hf],rfl⟩
    ·simp only [kT,e,hf,Bool.false_eq_true,if_false];(apply bC;(focus (exact af));all_goals exact bu)
theorem KS {F:List HP} {v:Value}:az prog 356 [v] [] F (fun r L'=>r= .tuple [].toArray∧L'=[]):=by
  refine ay func356 ntmps356 ?_;repeat first|refine gd ?_|intro _
  exact aM
theorem NK {F:List HP} {v:Value} {l:List li} {i:Nat} (hi:i<l.length) :
    az prog 357 [.pointer (some ⟨pb v,po v+i*10,none⟩)] [aT 131 10 v l.length (aj bc l)] F (fun r L'=>r= .tuple [].toArray∧L'=[aT 131 10 v l.length (aj bc (l.set i { l[i] with live:=false}))]):=by
  refine ay func357 ntmps357 ?_;repeat first|refine gd ?_|intro _
  rw [eR (enc:=bc) (n:=10) (fun _=>rfl) l i hi (x:={ l[i] with live:=false}) (by simp) rfl];exact aM
theorem Js {F:List HP} {b:Nat} {ak:Int} {l:List li} {aa:Int} {fk:FuncId} {g:li→li}
    (H:∀ (F:List HP) (v:Value) (i:Nat) (hi:i<l.length),l[i].live=true→az prog fk [.pointer (some ⟨pb v,po v+i*10,none⟩)] [aT 131 10 v l.length (aj bc l)] F (fun r L'=>r= .tuple [].toArray∧L'=[aT 131 10 v l.length (aj bc (l.set i (g l[i])))]))
    (hg:∀ e,(g e).ag=e.ag) :
    az prog 355 [.pointer (some ⟨b,0,none⟩),.int .i64 aa,.func (.func fk) [].toArray [].toArray] [Wb b ak l] F
      (fun r L'=>r= .tuple [wv (jB l aa),.int .i64 (fY l aa)].toArray∧L'=[Wb b ak (if iP l aa&& (rb l aa).live then l.set (fz l aa).toNat (g (rb l aa)) else l)]):=by
  refine ay func355 ntmps355 ?_;cases e:iP l aa with
  |false=>
   have h0:=vK e;repeat first|refine gd ?_|intro _|refine ae @v8 ?_
   (apply ad rfl rfl ar)
   ·exact ⟨by simp [fY,jB,e,Words.zero],rfl⟩
   ·simp only [Bool.false_and,Bool.false_eq_true,if_false];exact af
  |true=>
   obtain ⟨i,hi,h1,h2,h3⟩:=sl e;have hA:=fun F=>v8 (F:=F) (b:=b) (ak:=ak) (l:=l) (aa:=aa);simp only [h1] at hA;rw [h1,h2];have hn:(i:Int).toNat=i:=by omega
   cases hl:l[i].live with
   |false=>
    repeat first|refine gd ?_|intro _|refine ae @hA ?_
    (first|refine aD (Wb b ak l) ?_|refine aE (Wb b ak l) ?_|refine aF (Wb b ak l) ?_);refine lV fun p c zF=>?_;repeat first|refine gd ?_|intro _
    (apply ad rfl rfl ar)
    ·exact ⟨by simp [fY,jB,e,h2,hl,Words.zero],rfl⟩
    ·simp only [Bool.and_false,Bool.false_eq_true,if_false];exact eb @bC
   |true=>
    have hls:(l.set i (g l[i])).length=l.length:=List.length_set;have Pm:(l.set i (g l[i]))[i]'(om)=g l[i]:=by simp
    have hH:=fun F v=>H F v i hi hl;repeat first|refine gd ?_|intro _|refine ae @hA ?_
    (first|refine aD (Wb b ak l) ?_|refine aE (Wb b ak l) ?_|refine aF (Wb b ak l) ?_);refine lV fun p c zF=>?_;(first|(refine aX (.slice p l.length c) inferInstance (om) ?_;intro _)|(refine aY (.slice p l.length c) inferInstance (om) ?_;intro _));repeat first|refine gd ?_|intro _|refine ae @hH ?_
    rw [Pm,hg];(apply ad rfl rfl ar)
    ·exact ⟨by simp [fY,jB,e,h2,hl],rfl⟩
    ·simp only [Bool.and_true,if_true,hn];exact eb @bC
theorem NL {F:List HP} {b:Nat} {ak:Int} {l:List li} {aa:Int}:az prog 332 [.pointer (some ⟨b,0,none⟩),.int .i64 aa] [Wb b ak l] F (fun r L'=>r= .tuple [wv (jB l aa),.int .i64 (fY l aa)].toArray∧L'=[Wb b ak l]):=by
  have hT:=fun F=>Js (F:=F) (b:=b) (ak:=ak) (l:=l) (aa:=aa) (fk:=356) (g:=fun e=>e) (fun F v i hi hl=>by
    rw [List.set_getElem_self];exact KS.pure) (fun _=>rfl)
  have hs:(if (iP l aa&& (rb l aa).live)=true then l.set (fz l aa).toNat (rb l aa) else l)=l:=by
    split
    ·rename_i h;obtain ⟨i,hi,h1,h2,h3⟩:=sl (Bool.and_eq_true_iff.1 h).1;rw [h1,h2];simp
    ·rfl
  simp only [hs] at hT;refine ay func332 ntmps332 ?_;repeat first|refine gd ?_|intro _|refine ae @hT ?_
  (apply ad rfl rfl ar)
  ·exact ⟨rfl,rfl⟩
  ·exact af
theorem Qo {F:List HP} {b:Nat} {ak:Int} {l:List li} {aa:Int}:az prog 333 [.pointer (some ⟨b,0,none⟩),.int .i64 aa] [Wb b ak l] F (fun r L'=>r= .tuple [wv (jB l aa),.int .i64 (fY l aa)].toArray∧L'=[Wb b ak (iA l aa)]):=by
  have hT:=fun F=>Js (F:=F) (b:=b) (ak:=ak) (l:=l) (aa:=aa) (fk:=357) (g:=fun e=>{ e with live:=false}) (fun F v i hi hl=>NK hi) (fun _=>rfl);refine ay func333 ntmps333 ?_;repeat first|refine gd ?_|intro _|refine ae @hT ?_
  (apply ad rfl rfl ar)
  ·exact ⟨rfl,rfl⟩
  ·unfold iA;exact af
theorem Qp {F:List HP} {b:Nat} {ak:Int} {l:List li} {aa:Int}:az prog 330 [.pointer (some ⟨b,0,none⟩),.int .i64 aa] [Wb b ak l] F (fun r L'=>r= .int .i64 (kK l aa)∧L'=[Wb b ak (mV l aa)]):=by
  refine ay func330 ntmps330 ?_;cases e:iP l aa with
  |false=>
   have h0:=vK e;repeat first|refine gd ?_|intro _|refine ae @v8 ?_
   (apply ad rfl rfl ar)
   ·exact ⟨by simp [kK,e],rfl⟩
   ·simp only [mV,e,Bool.false_eq_true,if_false];exact af
  |true=>
   obtain ⟨i,hi,h1,h2,h3⟩:=sl e;have hA:=fun F=>v8 (F:=F) (b:=b) (ak:=ak) (l:=l) (aa:=aa);simp only [h1] at hA;repeat first|refine gd ?_|intro _|refine ae @hA ?_
   (first|refine aD (Wb b ak l) ?_|refine aE (Wb b ak l) ?_|refine aF (Wb b ak l) ?_);refine lV fun p c zF=>?_;repeat first|refine gd ?_|intro _
   refine ae (@CH (i:=i) (j:=i+1)) ?_;repeat first|refine gd ?_|intro _
   (apply ad rfl rfl ar)
   ·exact ⟨by simp [kK,e],rfl⟩
   ·simp only [mV,e,if_true,h1];apply bC
    ·exact af
    ·simp only [List.length_eraseIdx,Int.toNat_natCast];split<;>omega
    ·rw [iY (enc:=bc) (n:=10) (fun _=>rfl),gn (enc:=bc) (n:=10) (fun _=>rfl)];simp [List.eraseIdx_eq_take_drop_succ]
    ·have:=List.length_eraseIdx_le l i;simp only [Int.toNat_natCast];omega
theorem Tf {F:List HP} {b:Nat} {ak:Int} {l:List li} {aa:Int}:az prog 242 [.pointer (some ⟨b,0,none⟩),.int .i64 aa] [Wb b ak l] F (fun r L'=>r= .tuple [bv (Mm l aa),.bool (iP l aa)].toArray∧L'=[Wb b ak l]):=by
  refine ay func242 ntmps242 ?_;cases e:iP l aa with
  |false=>
   have h0:=vK e;repeat first|refine gd ?_|intro _|refine ae @v8 ?_
   (apply ad rfl rfl ar)
   ·exact ⟨by simp [Mm,e,Words.zero],rfl⟩
   ·exact af
  |true=>
   obtain ⟨i,hi,h1,h2,h3⟩:=sl e;have hA:=fun F=>v8 (F:=F) (b:=b) (ak:=ak) (l:=l) (aa:=aa);simp only [h1] at hA;repeat first|refine gd ?_|intro _|refine ae @hA ?_
   (first|refine aD (Wb b ak l) ?_|refine aE (Wb b ak l) ?_|refine aF (Wb b ak l) ?_);refine lV fun p c zF=>?_;repeat first|refine gd ?_|intro _
   (apply ad rfl rfl ar)
   ·exact ⟨by simp [Mm,e,h2],rfl⟩
   ·exact eb @bC
theorem Qq {F:List HP} {b:Nat} {ak:Int} {l:List li}:az prog 164 [.pointer (some ⟨b,0,none⟩)] [Wb b ak l] F (fun r L'=>∃ p c,r= .slice p l.length c∧L'=[aT 131 10 (.slice p l.length c) l.length (aj bc l),Wb b ak l]):=by
  refine ay func164 ntmps164 ?_;refine cC fun p c hl=>?_;repeat first|refine gd ?_|intro _|refine ae @EB ?_
  (apply ad rfl rfl ar)
  ·exact ⟨_,_,rfl,rfl⟩
  ·refine ai.cons ?_;(apply bC;(focus (exact af));all_goals exact bu)
end
section
attribute [local irreducible] Exit.then Exit.inBlock Code.wp WC WO WE WQ V aW dL Sat bz bK dU IntKind.wrap WR Code.rounds WT KO
abbrev lj (b:Nat) (ak:Int) (l:List li):HP:=RL 182 186 10 bc b ak l
theorem KT {F:List HP} {ak:Int} (h:1≤ak∧ak≤8):az prog 175 [.int .i64 ak] [] F (fun r L'=>∃ b,r= .tuple [.pointer (some ⟨b,0,none⟩),.int .i64 0].toArray∧L'=[lj b ak []]):=by
  refine ay func175 ntmps175 ?_;repeat first|refine gd ?_|intro _
  (apply ad rfl rfl ar)
  ·exact ⟨_,rfl,rfl⟩
  ·exact bC (l:=[]) (ai.cons (aI ai.refl)) rfl rfl (by simp;omega)
theorem gz {F:List HP} {b:Nat} {ak:Int} {l:List li} {aa:Int} {p:Option Addr} {c:Nat} (hl:(l.length:Int)≤ak∧ak≤4096) :
    az prog 111 [.pointer (some ⟨b,0,none⟩),.int .i64 aa] [ao b 182 [.int .i64 ak,.slice p l.length c],aT 186 10 (.slice p l.length c) l.length (aj bc l)] F
      (fun r L'=>r= .int .i64 (fz l aa)∧L'=[ao b 182 [.int .i64 ak,.slice p l.length c],aT 186 10 (.slice p l.length c) l.length (aj bc l)]):=by
  refine ay func111 ntmps111 ?_;repeat first|refine gd ?_|intro _
  apply aO (E0:=[(0,_),(1,_)]) (fun E0 (i:Nat)=>(5,.int .i64 i)::E0) (fun _=>ao b 182 [.int .i64 ak,.slice p l.length c]::aT 186 10 (.slice p l.length c) l.length (aj bc l)::F) (fun i=>i≤l.length∧∀ j (h:j<l.length),j<i→decide (l[j].aa=aa)=false) (fun i=>l.length-i) 0
  ·exact bH
  ·exact ⟨Nat.zero_le _,fun j _ hj=>by omega⟩
  ·exact ai.refl
  ·rintro i ⟨hi,h1⟩;by_cases bB:i<l.length
   ·by_cases he:l[i].aa=aa
    ·repeat first|refine gd ?_|intro _
     (apply ad rfl rfl ar)
     ·exact ⟨by rw [fz,eU bB h1 (by simp [he])];rfl,rfl⟩
     ·exact ai.refl
    ·repeat first|refine gd ?_|intro _
     refine aC (i+1) (om) ⟨om,fun j hj rp=>?_⟩ ?_ ai.refl
     ·by_cases e:j=i
      ·subst e;simpa using he
      ·exact h1 j hj (om)
     ·exact bH
   ·have e:i=l.length:=by omega
    subst e;repeat first|refine gd ?_|intro _
    (apply ad rfl rfl ar)
    ·exact ⟨by rw [fz,dr h1];rfl,rfl⟩
    ·exact ai.refl
theorem Gu {F:List HP} {b:Nat} {ak:Int} {l:List li} {aa:Int}:az prog 111 [.pointer (some ⟨b,0,none⟩),.int .i64 aa] [lj b ak l] F (fun r L'=>r= .int .i64 (fz l aa)∧L'=[lj b ak l]):=
  VI (fun p c hl=>gz hl) (fb func111 rfl rfl)
theorem wu {Q P:Prop} (k:Q) (h:Hid Q→P:=by
  intro k
  first
  |(refine an ?_;refine bF (id:=5) .false (pl:= .p 0 <| .p 2 <| .p 3 <| .p 4 <| .p 7 <| .r 5 <| .r 8 <| .p 9 <| .e true [(1,.e true [(6,.e true [(10,.e true [(11,.p 12 <| .p 13 <| .e true [(14,.done)])])]),(10,.e true [(6,.e true [(11,.p 12 <| .p 13 <| .e true [(14,.done)])])])]),(10,.e true [(1,.e true [(6,.e true [(11,.p 12 <| .p 13 <| .e true [(14,.done)])])])])]) k.out)):P:=h ⟨k⟩
theorem KU {F:List HP} {b:Nat} {ak:Int} {l:List li} {aa:Int} {w:Words}:az prog 264 [.pointer (some ⟨b,0,none⟩),.int .i64 aa,wv w] [lj b ak l] F (fun r L'=>r= .int .i64 (jV ak l aa)∧L'=[lj b ak (kT ak l aa w)]):=by
  refine ay func264 ntmps264 ?_;refine cC fun p c hl=>?_;cases e:iP l aa with
  |true=>
   have h0:0≤fz l aa:=of_decide_eq_true e;repeat first|refine go ?_|intro _|refine wu ?_|refine av ?_|refine ae @gz ?_
   (apply ad rfl rfl ar)
   ·exact ⟨by simp [jV,e],rfl⟩
   ·simp only [kT,e,if_true];exact eb @bC
  |false=>
   have h0:=vK e;by_cases hf:(l.length:Int)=ak
   ·repeat first|refine go ?_|intro _|refine wu ?_|refine av ?_|refine ae @gz ?_
    (apply ad rfl rfl ar)
    ·exact ⟨by simp [jV,e,hf],rfl⟩
    ·simp only [kT,e,hf,Bool.false_eq_true,if_false,if_true];exact eb @bC
   ·repeat' (first|refine go ?_|intro _|refine wu ?_|refine av ?_|refine ae @gz ?_|refine bj ?_ ?_|fail)
    all_goals (apply ad rfl rfl ar)
    all_goals first|exact ⟨by simp [jV,e,hf],rfl⟩|(simp only [kT,e,hf,Bool.false_eq_true,if_false];exact eb @bC)
theorem uS {F:List HP} {b:Nat} {ak:Int} {l:List li} {aa:Int}:az prog 351 [.pointer (some ⟨b,0,none⟩),.int .i64 aa] [lj b ak l] F (fun r L'=>r= .tuple [wv (jB l aa),.int .i64 (fY l aa)].toArray∧L'=[lj b ak l]):=by
  refine ay func351 ntmps351 ?_;refine cC fun p c hl=>?_;cases e:iP l aa with
  |false=>
   have h0:=vK e;repeat first|refine gd ?_|intro _|refine ae @gz ?_
   (apply ad rfl rfl ar)
   ·exact ⟨by simp [fY,jB,e,Words.zero],rfl⟩
   ·exact eb @bC
  |true=>
   obtain ⟨i,hi,h1,h2,h3⟩:=sl e;have hA:=fun F=>gz (F:=F) (b:=b) (ak:=ak) (l:=l) (aa:=aa) (p:=p) (c:=c) hl;simp only [h1] at hA;cases hv:l[i].live with
   |false=>
    repeat first|refine gd ?_|intro _|refine ae @hA ?_
    (apply ad rfl rfl ar)
    ·exact ⟨by simp [fY,jB,e,h2,hv,Words.zero],rfl⟩
    ·exact eb @bC
   |true=>
    repeat first|refine gd ?_|intro _|refine ae @hA ?_
    (apply ad rfl rfl ar)
    ·exact ⟨by simp [fY,jB,e,h2,hv],rfl⟩
    ·exact eb @bC
theorem Br {Q P:Prop} (k:Q) (h:Hid Q→P:=by
  intro k
  first
  |(refine an ?_;refine bF (id:=3) .false (pl:= .p 0 <| .p 1 <| .p 2 <| .p 4 <| .p 5 <| .r 3 <| .e true [(6,.p 7 <| .p 8 <| .e true [(9,.done)])]) k.out)):P:=h ⟨k⟩
theorem Ik {F:List HP} {b:Nat} {ak:Int} {l:List li} {aa:Int}:az prog 352 [.pointer (some ⟨b,0,none⟩),.int .i64 aa] [lj b ak l] F (fun r L'=>r= .tuple [wv (jB l aa),.int .i64 (fY l aa)].toArray∧L'=[lj b ak (iA l aa)]):=by
  refine ay func352 ntmps352 ?_;by_cases h0:fY l aa=0
  ·have e:iP l aa=true∧(rb l aa).live=true:=by
     unfold fY at h0;split at h0
     ·rename_i h;split at h0
      ·rename_i h2;exact ⟨h,h2⟩
      ·simp at h0
     ·simp at h0
   obtain ⟨i,hi,h1,h2,h3⟩:=sl e.1;repeat first|refine go ?_|intro _|refine ae @uS ?_
   (first|refine aD (lj b ak l) ?_|refine aE (lj b ak l) ?_|refine aF (lj b ak l) ?_);refine cC fun p c hl=>?_;have hA:=fun F=>gz (F:=F) (b:=b) (ak:=ak) (l:=l) (aa:=aa) (p:=p) (c:=c) hl;simp only [h1] at hA;(first|(refine aX (.slice p l.length c) inferInstance (om) ?_;intro _)|(refine aY (.slice p l.length c) inferInstance (om) ?_;intro _));repeat first|refine go ?_|intro _|refine Br ?_|refine av ?_|refine ae @hA ?_
   rw [eR (enc:=bc) (n:=10) (fun _=>rfl) l i hi (x:={ l[i] with live:=false}) (by simp) rfl];(apply ad rfl rfl ar)
   ·exact ⟨rfl,rfl⟩
   ·have e2:=e.2;rw [h2] at e2;simp only [iA,e.1,h1,h2,e2,Bool.and_self,if_true,Int.toNat_natCast];exact eb @bC
  ·have e:(iP l aa&& (rb l aa).live)=false:=by
     unfold fY at h0;cases h:iP l aa<;>cases h2:(rb l aa).live<;>simp_all
   repeat first|refine go ?_|intro _|refine Br ?_|refine av ?_|refine ae @uS ?_
   (apply ad rfl rfl ar)
   ·exact ⟨rfl,rfl⟩
   ·simp only [iA,e,Bool.false_eq_true,if_false];exact af
theorem Il {F:List HP} {b:Nat} {ak:Int} {l:List li} {aa:Int}:az prog 324 [.pointer (some ⟨b,0,none⟩),.int .i64 aa] [lj b ak l] F (fun r L'=>r= .int .i64 (kK l aa)∧L'=[lj b ak (mV l aa)]):=by
  refine ay func324 ntmps324 ?_;refine cC fun p c hl=>?_;cases e:iP l aa with
  |false=>
   have h0:=vK e;repeat first|refine gd ?_|intro _|refine ae @gz ?_
   (apply ad rfl rfl ar)
   ·exact ⟨by simp [kK,e],rfl⟩
   ·simp only [mV,e,Bool.false_eq_true,if_false];exact eb @bC
  |true=>
   obtain ⟨n,hn,h1,h2,h3⟩:=sl e;have hA:=fun F=>gz (F:=F) (b:=b) (ak:=ak) (l:=l) (aa:=aa) (p:=p) (c:=c) hl;simp only [h1] at hA;repeat first|refine gd ?_|intro _|refine ae @hA ?_
   rename_i b0
   apply aO (E0:=[(0,_),(5,_)]) (fun E0 (q:Nat×Option Addr×Nat)=>(7,.int .i64 q.1)::(6,.slice q.2.1 ((l.take q.1).eraseIdx n).length q.2.2)::E0)
     (fun q=>aT 186 10 (.slice q.2.1 ((l.take q.1).eraseIdx n).length q.2.2) ((l.take q.1).eraseIdx n).length (aj bc ((l.take q.1).eraseIdx n))::ao b 182 [.int .i64 ak,.slice p l.length c]::aT 186 10 (.slice p l.length c) l.length (aj bc l)::F) (fun q=>q.1≤l.length) (fun q=>l.length-q.1) (0,some ⟨b0,0,none⟩,0)
   ·exact bH
   ·exact Nat.zero_le _
   ·dsimp only;simp only [List.take_zero,List.eraseIdx_nil,List.length_nil,lU];exact af
   ·rintro ⟨i,p',c'⟩ hi;dsimp only at hi ⊢;have hlen:=iu (l.take i) n;rw [List.length_take] at hlen;by_cases bB:i<l.length
    ·by_cases he:i=n
     ·repeat first|refine gd ?_|intro _
      refine aC (i+1,p',c') (by dsimp only;omega) (by dsimp only;omega) ?_ ?_
      ·dsimp only;rw [cd l n i bB,if_pos he];exact bH
      ·dsimp only;rw [cd l n i bB,if_pos he];exact ai.refl
     ·repeat first|refine gd ?_|intro _
      rename_i p2 c2;refine aC (i+1,p2,c2) (by dsimp only;omega) (by dsimp only;omega) ?_ ?_
      ·dsimp only;rw [cd l n i bB,if_neg he];rw [List.length_append,List.length_singleton];exact bH
      ·dsimp only;rw [cd l n i bB,if_neg he];rw [List.length_append,List.length_singleton,aJ,bi];exact af
    ·repeat first|refine gd ?_|intro _
     have kM:i=l.length:=by omega
     subst kM;rw [List.take_length];(apply ad rfl rfl ar)
     ·exact ⟨by simp [kK,e],rfl⟩
     ·simp only [mV,e,if_true,h1,Int.toNat_natCast];have hlen:=iu l n;exact eb @bC
end
end Go.Sx
