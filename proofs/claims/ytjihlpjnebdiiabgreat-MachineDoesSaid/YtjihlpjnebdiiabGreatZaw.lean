/- Ca3, CaInv2, CaV, Fk: several of my texts as one. My own work. -/
import Derived.Test.YtjihlpjnebdiiabGreatZap
set_option linter.unusedVariables false
set_option linter.unusedSectionVars false
set_option linter.unusedSimpArgs false
set_option maxRecDepth 100000
set_option maxHeartbeats 4000000
namespace Go.Sx
open Go Go.Proofs Tryz
section
theorem MS {c:au} {l:List Way} {s k:Int} (hI:cj c l) (h:(iw c l s k).st≠0):bG c (iw c l s k).aa=true:=by
  unfold iw at h ⊢;by_cases h1:ng c s k=true
  ·rw [if_pos h1] at h ⊢;by_cases h2:s.toNat*c.al.toNat+k.toNat<l.length
   ·rw [←ia h2] at h ⊢;exact (hI _ h2 (by simp [cr,h])).1
   ·rw [List.getD_eq_getElem?_getD,List.getElem?_eq_none (om)] at h;exact absurd rfl h
  ·rw [if_neg h1] at h;exact absurd rfl h
attribute [local irreducible] Exit.then Exit.inBlock Code.wp WC WO WE WQ V aW dL Sat bz bK dU IntKind.wrap WR Code.rounds WT KO
theorem mR {Q P:Prop} (k:Q) (h:Hid Q→P:=by
  intro k
  first
  |(refine an ?_;refine bF (id:=6) .true (pl:= .p 0 <| .r 1 <| .e true [(2,.p 3 <| .p 4 <| .p 5 <| .p 6 <| .p 8 <| .p 10 <| .e false [(7,.e false [(9,.e false [(11,.e false [(12,.p 13 <| .p 14 <| .p 15 <| .done)])]),(11,.e false [(9,.e false [(12,.p 13 <| .p 14 <| .p 15 <| .done)])])]),(9,.e false [(7,.e false [(11,.e false [(12,.p 13 <| .p 14 <| .p 15 <| .done)])]),(11,.e false [(7,.e false [(12,.p 13 <| .p 14 <| .p 15 <| .done)])])]),(11,.e false [(7,.e false [(9,.e false [(12,.p 13 <| .p 14 <| .p 15 <| .done)])]),(9,.e false [(7,.e false [(12,.p 13 <| .p 14 <| .p 15 <| .done)])])])])]) k.out)
  |(refine an ?_;refine bF (id:=8) .true (pl:= .p 0 <| .p 1 <| .p 2 <| .p 4 <| .p 6 <| .r 3 <| .r 5 <| .e true [(7,.done)]) k.out)):P:=h ⟨k⟩
theorem Ll {F:List HP} {b a f e:Nat} {c:au} {ap s w:Int} {k:cT} (hc:aB c=true) (hI:cj c k.al) :
    az prog 157 [.pointer (some ⟨b,0,none⟩),.int .i64 s,.int .i64 w] (pU b a f e c ap k) F
      (fun r L'=>r= .tuple [mv (jT c ap k s w),.bool (iI c k s w),.int .i64 (jH c k s w)].toArray∧L'=pU b a f e c ap (gr c k s w)):=by
  have Ma:=fun F=>MI (F:=F) (b:=a) (c:=c) (l:=k.al) (s:=s) (k:=w);have dC:∀ x:Int,x≠0→jH c k s w=x→iI c k s w=false∧jT c ap k s w= .zero∧gr c k s w=k:=fun x hx h=>by
    have h1:iI c k s w=false:=by unfold iI;rw [h];simp [hx]
    refine ⟨h1,?_,?_⟩
    ·unfold jT;rw [h1];rfl
    ·unfold gr;rw [if_neg (om)]
  by_cases h0:ng c s w=false∨(iw c k.al s w).st=0
  ·have e1:jH c k s w=5:=if_pos h0;obtain ⟨e2,e3,e4⟩:=dC _ (om) e1;rw [e1,e2,e3,e4];cases h1:ng c s w with
   |false=>
    simp only [h1] at Ma;refine ay func157 ntmps157 ?_;repeat first|refine go ?_|intro _|refine mR ?_|refine av ?_|refine ae @Ma ?_
    exact aM
   |true=>
    simp only [h1] at Ma;have h2:(iw c k.al s w).st=0:=by
      rcases h0 with h|h
      ·rw [h1] at h;cases h
      ·exact h
    refine ay func157 ntmps157 ?_;repeat first|refine go ?_|intro _|refine mR ?_|refine av ?_|refine ae @Ma ?_
    exact aM
  ·have h1:ng c s w=true:=by
     cases h:ng c s w with
     |true=>rfl
     |false=>exact absurd (.inl h) h0
   have h2:(iw c k.al s w).st≠0:=fun h=>h0 (.inr h);simp only [h1] at Ma;have cO:=MS hI h2;have iD:=wx cO;have qL:jH c k s w=if (iw c k.al s w).lk=true then 6 else if 2≤(iw c k.al s w).st∧jV c.aw k.bD (iw c k.al s w).aa≠0 then 4 else 0:=if_neg h0;have IE:=fun F=>Te (F:=F) (b:=e) (ak:=c.aw) (l:=k.bD) (aa:=(iw c k.al s w).aa) (w:=(iw c k.al s w).ag);have j9:=fun F=>uy (F:=F) (b:=a) (c:=c) (l:=k.al) (aa:=(iw c k.al s w).aa) (st:=0) (w:= .zero) (gA hc) iD;have cZ:=fun F k'=>AU (F:=F) (b:=b) (a:=a) (f:=f) (e:=e) (ap:=ap) (k:=k') (ah:=3) hc iD;cases h3:(iw c k.al s w).lk with
   |true=>
    have e1:jH c k s w=6:=by rw [qL,if_pos h3]
    obtain ⟨e2,e3,e4⟩:=dC _ (om) e1;rw [e1,e2,e3,e4];refine ay func157 ntmps157 ?_;repeat first|refine go ?_|intro _|refine mR ?_|refine av ?_|refine ae @Ma ?_
    exact aM
   |false=>
    rw [h3,if_neg Bool.false_ne_true] at qL;by_cases h4:2≤(iw c k.al s w).st
    ·by_cases h5:jV c.aw k.bD (iw c k.al s w).aa=0
     ·have e1:jH c k s w=0:=by rw [qL,if_neg (fun h=>h.2 h5)]
      have e2:iI c k s w=true:=decide_eq_true ⟨e1,h4⟩;have e3:jT c ap k s w=gj c ap 3 (iw c k.al s w).aa (iw c k.al s w).ag:=if_pos e2;have e4:gr c k s w=⟨db c k.al (iw c k.al s w).aa 0 .zero,k.aP,kT c.aw k.bD (iw c k.al s w).aa (iw c k.al s w).ag⟩:=by unfold gr;rw [if_pos e1,if_pos h4]
      rw [e1,e2,e3,e4];simp only [h5] at IE;have vL:=fun F=>cZ F ⟨db c k.al (iw c k.al s w).aa 0 .zero,k.aP,kT c.aw k.bD (iw c k.al s w).aa (iw c k.al s w).ag⟩;refine ay func157 ntmps157 ?_;repeat' (first|refine go ?_|intro _|refine mR ?_|refine av ?_|refine ae @Ma ?_|refine ae @o9 ?_|refine ae @IE ?_|refine ae @j9 ?_|refine ae @vL ?_|refine bj ?_ ?_|fail)
      all_goals exact aM
     ·have e1:jH c k s w=4:=by rw [qL,if_pos ⟨h4,h5⟩]
      obtain ⟨e2,e3,e4⟩:=dC _ (om) e1;rw [e1,e2,e3,e4];have hL:kT c.aw k.bD (iw c k.al s w).aa (iw c k.al s w).ag=k.bD:=by
        unfold jV at h5;unfold kT;split
        ·rfl
        ·split
         ·rfl
         ·rename_i g1 g2;rw [if_neg g1,if_neg g2] at h5;exact absurd rfl h5
      rw [hL] at IE;refine ay func157 ntmps157 ?_;repeat' (first|refine go ?_|intro _|refine mR ?_|refine av ?_|refine ae @Ma ?_|refine ae @o9 ?_|refine ae @IE ?_|refine bj ?_ ?_|fail)
      all_goals exact aM
    ·have e1:jH c k s w=0:=by rw [qL,if_neg (fun h=>h4 h.1)]
     have e2:iI c k s w=false:=decide_eq_false (fun h=>h4 h.2);have e3:jT c ap k s w= .zero:=by unfold jT;rw [e2];rfl
     have e4:gr c k s w=⟨db c k.al (iw c k.al s w).aa 0 .zero,k.aP,k.bD⟩:=by unfold gr;rw [if_pos e1,if_neg h4]
     rw [e1,e2,e3,e4];refine ay func157 ntmps157 ?_;repeat' (first|refine go ?_|intro _|refine mR ?_|refine av ?_|refine ae @Ma ?_|refine ae @o9 ?_|refine ae @j9 ?_|refine bj ?_ ?_|fail)
     all_goals exact aM
theorem On {F:List HP} {b:Nat} {c:au} {ap s w:Int} {k:cT} (hI:cj c k.al) :
    az prog 157 [.pointer (some ⟨b,0,none⟩),.int .i64 s,.int .i64 w] [oL b c ap k] F
      (fun r L'=>r= .tuple [mv (jT c ap k s w),.bool (iI c k s w),.int .i64 (jH c k s w)].toArray∧L'=[oL b c ap (gr c k s w)]):=
  lZ (fun a f e hf=>Ll hf.1 hI) (fb func157 rfl rfl)
theorem IF {F:List HP} {b a f e:Nat} {c:au} {ap:Int} {k:cT} (hc:aB c=true) (hm:∀ m∈k.aP,bG c m.aa=true) :
    az prog 153 [.pointer (some ⟨b,0,none⟩)] (pU b a f e c ap k) F (fun r L'=>r= .tuple [mv (iW c ap k),.bool (gT k)].toArray∧L'=pU b a f e c ap (gU c k)):=by
  have I6:=fun F=>KM (F:=F) (b:=f) (ak:=c.aS) (l:=k.aP);by_cases h:0≤gx k.aP
  ·obtain ⟨i,hi,e0,_⟩:=fx h;have tQ:gx k.aP=i:=e0;have el:dz k=k.aP[i].aa:=by unfold dz;rw [if_pos h,tQ,Int.toNat_natCast,←ia hi]
   have iD:dZ (dz k):=by rw [el];exact wx (hm _ (List.getElem_mem hi))
   have e1:gT k=true:=decide_eq_true h;have e2:iW c ap k=gj c ap 11 (dz k) .zero:=if_pos e1;have e3:gU c k=⟨eZ c k.al (dz k) false,gy k.aP (dz k),k.bD⟩:=if_pos e1;rw [e1,e2,e3];change ∀ F,az _ _ _ _ F (fun r L'=>r= .tuple [.int .i64 (dz k),.bool (decide (0≤gx k.aP))].toArray∧L'=_) at I6;rw [decide_eq_true h] at I6;have W5:=fun F=>KQ (F:=F) (b:=f) (ak:=c.aS) (l:=k.aP) (aa:=dz k);have O6:=fun F=>Fy (F:=F) (b:=a) (c:=c) (l:=k.al) (aa:=dz k) (lk:=false) (gA hc) iD;have cZ:=fun F=>AU (F:=F) (b:=b) (a:=a) (f:=f) (e:=e) (ap:=ap) (k:=⟨eZ c k.al (dz k) false,gy k.aP (dz k),k.bD⟩) (ah:=11) hc iD;refine ay func153 ntmps153 ?_;repeat first|refine gd ?_|intro _|refine ae @I6 ?_|refine ae @W5 ?_|refine ae @O6 ?_|refine ae @cZ ?_
   exact aM
  ·have e1:gT k=false:=decide_eq_false h;have e2:iW c ap k= .zero:=by unfold iW;rw [e1];rfl
   have e3:gU c k=k:=by unfold gU;rw [e1];rfl
   rw [e1,e2,e3];simp only [decide_eq_false h] at I6;refine ay func153 ntmps153 ?_;repeat first|refine gd ?_|intro _|refine ae @I6 ?_
   exact aM
theorem Lm {F:List HP} {b:Nat} {c:au} {ap:Int} {k:cT} (hm:∀ m∈k.aP,bG c m.aa=true) :
    az prog 153 [.pointer (some ⟨b,0,none⟩)] [oL b c ap k] F (fun r L'=>r= .tuple [mv (iW c ap k),.bool (gT k)].toArray∧L'=[oL b c ap (gU c k)]):=
  lZ (fun a f e hf=>IF hf.1 hm) (fb func153 rfl rfl)
theorem jL {c:au} {a:Int}:dZ (dS c a):=by
  unfold dS;split
  ·rename_i h;simp only [fE,Bool.and_eq_true,decide_eq_true_eq] at h;obtain ⟨hc,h0,h1⟩:=h;have hw:=dR hc;have hm:=tL (m:=8) (n:=1024) (a:=c.ag) (b:=c.aZ) (om) (om) (om) (om) (om);have h2:0≤a / c.ag:=Int.ediv_nonneg h0 (om);have h3:a / c.ag≤a:=Int.ediv_le_self _ h0;unfold dZ;omega
  ·decide
theorem qp {Q P:Prop} (k:Q) (h:Hid Q→P:=by
  intro k
  first
  |(refine an ?_;refine bF (id:=1) .true (pl:= .p 0 <| .p 1 <| .p 2 <| .p 4 <| .r 3 <| .r 5 <| .e true [(6,.p 7 <| .p 8 <| .p 9 <| .p 10 <| .p 11 <| .p 12 <| .p 13 <| .done)]) k.out)
  |(refine an ?_;refine bF (id:=3) .true (pl:= .p 0 <| .p 1 <| .p 2 <| .p 4 <| .r 3 <| .r 5 <| .r 6 <| .e true [(7,.p 8 <| .p 9 <| .p 10 <| .p 11 <| .e false [(12,.e false [(13,.p 14 <| .p 15 <| .done)])]),(12,.e true [(7,.p 8 <| .p 9 <| .p 10 <| .p 11 <| .e false [(13,.p 14 <| .p 15 <| .done)])])]) k.out)
  |(refine an ?_;refine bF (id:=12) .true (pl:= .p 0 <| .p 1 <| .p 2 <| .p 4 <| .r 3 <| .r 5 <| .e true [(6,.done)]) k.out)):P:=h ⟨k⟩
theorem Tw {F:List HP} {b a f e:Nat} {c:au} {ap:Int} {x:c5} {k:cT} (hc:aB c=true) (hx:x.wf) :
    az prog 228 [.pointer (some ⟨b,0,none⟩),ov x] (pU b a f e c ap k) F (fun r L'=>r= .tuple [.int .i64 (nJ c k x),.int .i64 (kf c k x)].toArray∧L'=pU b a f e c ap (ff c k x)):=by
  have UG:=fun F=>wq (F:=F) (c:=c) (a:=x.addr) (gA hc) hx.2.1;have fS:=fun F=>pZ (F:=F) (b:=b) (a:=a) (f:=f) (e:=e) (ap:=ap) (k:=k) hc (jL (c:=c) (a:=x.addr));have I7:=fun F=>K2 (F:=F) (c:=c) (w:=(bg c k.al (dS c x.addr)).ag) (x:=x) (gA hc) hx;have ik:=fun F=>Jw (F:=F) (b:=b) (a:=a) (f:=f) (e:=e) (ap:=ap) (k:=k) (ah:=bJ x) hc (jL (c:=c) (a:=x.addr));have j9:=fun F=>uy (F:=F) (b:=a) (c:=c) (l:=k.al) (aa:=dS c x.addr) (st:=4) (w:=vN c (bg c k.al (dS c x.addr)).ag x) (gA hc) jL;by_cases h0:zI c x=0
  ·have qL:kf c k x=if ls c k (dS c x.addr) (bJ x) then 0 else 5:=if_pos h0;simp only [h0] at I7;cases h1:ls c k (dS c x.addr) (bJ x) with
   |false=>
    simp only [h1] at ik;have e1:kf c k x=5:=by rw [qL,h1];rfl
    have e2:nJ c k x=0:=by unfold nJ;rw [e1];rfl
    have e3:ff c k x=k:=by unfold ff;rw [e1];rfl
    rw [e1,e2,e3];by_cases h2:x.ah=1
    ·have e4:bJ x=1:=if_pos h2;rw [e4] at ik;refine ay func228 ntmps228 ?_;repeat' (first|refine go ?_|intro _|refine qp ?_|refine av ?_|refine ae @UG ?_|refine ae @fS ?_|refine ae @I7 ?_|refine ae @ik ?_|refine bj ?_ ?_|fail)
     all_goals exact aM
    ·have e4:bJ x=2:=if_neg h2;rw [e4] at ik;refine ay func228 ntmps228 ?_;repeat' (first|refine go ?_|intro _|refine qp ?_|refine av ?_|refine ae @UG ?_|refine ae @fS ?_|refine ae @I7 ?_|refine ae @ik ?_|refine bj ?_ ?_|fail)
     all_goals exact aM
   |true=>
    simp only [h1] at ik;have e1:kf c k x=0:=by rw [qL,h1];rfl
    have e2:nJ c k x=BM c (bg c k.al (dS c x.addr)).ag x:=if_pos e1;by_cases h2:x.ah=1
    ·have e4:bJ x=1:=if_pos h2;have e3:ff c k x=k:=if_neg (fun h=>h.2 h2);rw [e1,e2,e3];rw [e4] at ik;refine ay func228 ntmps228 ?_;repeat' (first|refine go ?_|intro _|refine qp ?_|refine av ?_|refine ae @UG ?_|refine ae @fS ?_|refine ae @I7 ?_|refine ae @ik ?_|refine bj ?_ ?_|fail)
     all_goals exact aM
    ·have e4:bJ x=2:=if_neg h2;have e3:ff c k x=⟨db c k.al (dS c x.addr) 4 (vN c (bg c k.al (dS c x.addr)).ag x),k.aP,k.bD⟩:=if_pos ⟨e1,h2⟩;rw [e1,e2,e3];rw [e4] at ik;refine ay func228 ntmps228 ?_;repeat' (first|refine go ?_|intro _|refine qp ?_|refine av ?_|refine ae @UG ?_|refine ae @fS ?_|refine ae @I7 ?_|refine ae @ik ?_|refine ae @j9 ?_|refine bj ?_ ?_|fail)
     all_goals exact aM
  ·have e1:kf c k x=zI c x:=if_neg h0;have e2:nJ c k x=0:=by unfold nJ;rw [e1,if_neg h0]
   have e3:ff c k x=k:=by unfold ff;rw [e1,if_neg (fun h=>h0 h.1)]
   rw [e1,e2,e3];refine ay func228 ntmps228 ?_;repeat' (first|refine go ?_|intro _|refine qp ?_|refine av ?_|refine ae @UG ?_|refine ae @fS ?_|refine ae @I7 ?_|refine bj ?_ ?_|fail)
   all_goals exact aM
theorem RY {F:List HP} {b:Nat} {c:au} {ap:Int} {x:c5} {k:cT} (hx:x.wf) :
    az prog 228 [.pointer (some ⟨b,0,none⟩),ov x] [oL b c ap k] F (fun r L'=>r= .tuple [.int .i64 (nJ c k x),.int .i64 (kf c k x)].toArray∧L'=[oL b c ap (ff c k x)]):=
  lZ (fun a f e hf=>Tw hf.1 hx) (fb func228 rfl rfl)
end
section
def ni (k:cT):List Int:=k.aP.map (·.aa)
def Cp (k:cT):List Int:=k.bD.map (·.aa)
structure SH (c:au) (al:List Way) (M B:List Int):Prop where
  wd:∀ x w,vw c al x=some w→rK c w.ag=false∧(w.st=0→w.ag= .zero)
  ml:∀ x∈M,∃ w,vw c al x=some w∧w.lk=true
  lm:∀ x w,vw c al x=some w→w.lk=true→x∈M
  bn:∀ x∈B,vw c al x=none
  nd:M.Nodup
  bd:B.Nodup
theorem AY (c:au):rK c .zero=false:=by
  unfold rK;rw [dr]
  ·decide
  ·intro j hj _;have:(Words.zero.list.drop c.ag.toNat)[j]=0:=by
     have hm:(Words.zero.list.drop c.ag.toNat)[j]∈Words.zero.list:=List.mem_of_mem_drop (List.getElem_mem hj);have hz:∀ y∈Words.zero.list,y=0:=by decide
     exact hz _ hm
   rw [this];rfl
theorem Q7 {c:au} {l:List Way} {aa st:Int} {w:Words} (h:lC c l aa st w=0):(∃ y,vw c l aa=some y)∧0≤st∧st≤4∧rK c w=false:=by
  rw [JC] at h;cases hv:vw c l aa with
  |none=>rw [hv] at h;cases h
  |some y=>
   rw [hv] at h;simp only [Option.isNone_some,Bool.false_eq_true,if_false] at h;split at h
   ·cases h
   ·rename_i h1;refine ⟨⟨y,rfl⟩,om,om,?_⟩;cases g:rK c w with
    |false=>rfl
    |true=>exact absurd (.inr (.inr g)) h1
theorem AA {c:au} {al:List Way} {M B:List Int} {aa st:Int} {w:Words} (hI:cj c al) (h:SH c al M B):SH c (db c al aa st w) M B:=by
  have hv:=MQ (aa:=aa) (st:=st) (w:=w) hI;by_cases he:lC c al aa st w=0
  ·obtain ⟨⟨y,hy⟩,h0,h4,ho⟩:=Q7 he;have hl:vw c (db c al aa st w) aa=if y.lk=true∨st≠0 then some ⟨st,aa,if st=0 then .zero else w,y.lk⟩ else none:=by rw [hv,if_pos ⟨rfl,he⟩,hy]
   have hx:∀ x,x≠aa→vw c (db c al aa st w) x=vw c al x:=fun x g=>by rw [hv,if_neg (fun g2=>g g2.1)]
   refine ⟨fun x z hz=>?_,fun x hm=>?_,fun x z hz hk=>?_,fun x hb=>?_,h.nd,h.bd⟩
   ·by_cases g:x=aa
    ·subst g;rw [hl] at hz;split at hz
     ·cases hz;dsimp only;refine ⟨?_,fun g0=>by rw [if_pos g0]⟩;split
      ·exact AY c
      ·exact ho
     ·cases hz
    ·rw [hx x g] at hz;exact h.wd x z hz
   ·by_cases g:x=aa
    ·subst g;obtain ⟨z,hz,hk⟩:=h.ml x hm;rw [hy] at hz;cases hz;exact ⟨⟨st,x,if st=0 then .zero else w,y.lk⟩,by rw [hl,if_pos (.inl hk)],hk⟩
    ·rw [hx x g];exact h.ml x hm
   ·by_cases g:x=aa
    ·subst g;rw [hl] at hz;split at hz
     ·cases hz;exact h.lm x y hy hk
     ·cases hz
    ·rw [hx x g] at hz;exact h.lm x z hz hk
   ·by_cases g:x=aa
    ·subst g;have:=h.bn x hb;rw [hy] at this;cases this
    ·rw [hx x g];exact h.bn x hb
  ·have:db c al aa st w=al:=if_neg he;rw [this];exact h
theorem Dn {l:List bR} {aa:Int}:dp l aa=true↔aa∈l.map (·.aa):=by
  constructor
  ·intro h;obtain ⟨h1,h2⟩:=se h;exact List.mem_map.2 ⟨_,h1,h2⟩
  ·intro h;obtain ⟨m,hm,e⟩:=List.mem_map.1 h;cases g:dp l aa with
   |true=>rfl
   |false=>
    have:=(ix (of_decide_eq_false g)).2 m hm;simp [e] at this
theorem FK {l:List li} {aa:Int}:iP l aa=true↔aa∈l.map (·.aa):=by
  constructor
  ·intro h;obtain ⟨i,hi,_,_,e⟩:=sl h;exact List.mem_map.2 ⟨_,List.getElem_mem hi,e⟩
  ·intro h;obtain ⟨m,hm,e⟩:=List.mem_map.1 h;cases g:iP l aa with
   |true=>rfl
   |false=>
    have:=(ix (of_decide_eq_false g)).2 m hm;simp [e] at this
theorem z7 {l:List bR} {aa:Int} {x:bR} (h:dp l aa=true) (hx:x.aa=(iR l aa).aa):(l.set (nK l aa).toNat x).map (·.aa)=l.map (·.aa):=by
  obtain ⟨i,hi,e0,ea,el⟩:=iT h;rw [e0,Int.toNat_natCast,List.map_set,hx,ea];have:(l.map (·.aa)).set i l[i].aa=l.map (·.aa):=by
    have e:l[i].aa=(l.map (·.aa))[i]'(by simpa using hi):=by simp
    rw [e,List.set_getElem_self]
  exact this
theorem Q8 {l:List bR} {aa aH bI:Int} {w:Words}:(dw l aa aH bI w).map (·.aa)=l.map (·.aa):=by
  unfold dw;split
  ·rename_i h;exact z7 (xl h).1 rfl
  ·rfl
theorem Oo {l:List bR} {aa aH:Int}:(dy l aa aH).map (·.aa)=l.map (·.aa):=by
  unfold dy;split
  ·rename_i h;exact z7 (xl h).1 rfl
  ·rfl
theorem Tx {l:List bR} {aa:Int}:(fW l aa).map (·.aa)=l.map (·.aa):=by
  unfold fW;split
  ·rename_i h;exact z7 (JA h).1 rfl
  ·rfl
theorem Ty {l:List bR} {aa:Int} (h:l9 l aa=true):dp l aa=true:=by
  unfold l9 at h;simp only [Bool.and_eq_true] at h;exact h.1.1
theorem Tz {l:List bR} {aa:Int}:(iz l aa).map (·.aa)=l.map (·.aa):=by
  unfold iz;split
  ·rename_i h;exact z7 (Ty h) rfl
  ·rfl
abbrev vQ (c:au) (k:cT):Prop:=SH c k.al (ni k) (Cp k)
theorem Hr {c:au} {k:cT} {aa:Int} (hI:cj c k.al) (h:vQ c k):vQ c (dn c k aa):=by
  unfold dn;split
  ·unfold vQ ni Cp;rw [Tz];exact AA hI h
  ·exact h
theorem V9 {c:au} {k:cT} {aa ah:Int} (hI:cj c k.al) (h:vQ c k):vQ c (cH c k aa ah):=by
  unfold cH;split
  ·rename_i h0;unfold dd at h0;split at h0
   ·cases h0
   ·rename_i hb;split at h0
    ·cases h0
    ·rename_i h6;split at h0
     ·cases h0
     ·rename_i h4;split at h0
      ·cases h0
      ·rename_i h5;have hm:dp k.aP aa=false:=by cases g:dp k.aP aa with|false=>rfl|true=>exact absurd (.inl g) h6
       have hw:iP k.bD aa=false:=by cases g:iP k.bD aa with|false=>rfl|true=>exact absurd (.inr (.inl g)) h6
       have hM:aa∉ni k:=fun g=>by rw [Dn.2 g] at hm;cases hm
       have hB:aa∉Cp k:=fun g=>by rw [FK.2 g] at hw;cases hw
       have xZ:¬(ah≠1∧ah≠2):=fun g=>hb (.inr g);have OZ:gH c.aS k.aP aa ah=k.aP++[⟨aa,ah,-1,0,0,.zero,false,false⟩]:=by
         have:lS c.aS k.aP aa ah=0:=by
           unfold lS;rw [if_neg xZ,hm,if_neg Bool.false_ne_true,if_neg h4]
         unfold gH;rw [if_pos this]
       have eM:ni ⟨if gI c k.al aa then eZ c k.al aa true else fJ c k.al aa (df c k.al aa),gH c.aS k.aP aa ah,k.bD⟩=ni k++[aa]:=by
         unfold ni;dsimp only;rw [OZ,List.map_append];rfl
       obtain ⟨y,hy,YN,JW⟩:∃ y:Way,(∀ x,vw c (if gI c k.al aa then eZ c k.al aa true else fJ c k.al aa (df c k.al aa)) x=if x=aa then some y else vw c k.al x)∧y.lk=true∧(rK c y.ag=false∧(y.st=0→y.ag= .zero)):=by
         cases hf:vw c k.al aa with
         |none=>
          have rZ:gI c k.al aa=false:=by rw [rV,hf];rfl
          rw [rZ,if_neg Bool.false_ne_true];exact ⟨⟨0,aa,.zero,true⟩,Tu hI (fun g=>h5 ⟨rZ,g⟩) hf,rfl,AY c,fun _=>rfl⟩
         |some z=>
          have rZ:gI c k.al aa=true:=by rw [rV,hf];rfl
          rw [rZ,if_pos rfl];exact ⟨⟨z.st,aa,z.ag,true⟩,fun x=>by rw [JD hI,hf];simp,rfl,h.wd aa z hf⟩
       unfold vQ;rw [eM];refine ⟨fun x w hx=>?_,fun x hx=>?_,fun x w hx hk=>?_,fun x hx=>?_,?_,h.bd⟩
       ·dsimp only at hx;rw [hy] at hx;split at hx
        ·cases hx;exact JW
        ·exact h.wd x w hx
       ·dsimp only;rw [hy];split
        ·exact ⟨y,rfl,YN⟩
        ·rename_i g;rcases List.mem_append.1 hx with g2|g2
         ·exact h.ml x g2
         ·exact absurd (by simpa using g2) g
       ·dsimp only at hx;rw [hy] at hx;split at hx
        ·rename_i g;exact List.mem_append.2 (.inr (by simp [g]))
        ·exact List.mem_append.2 (.inl (h.lm x w hx hk))
       ·dsimp only;have kz:x≠aa:=fun g=>by subst g;exact hB hx
        rw [hy,if_neg kz];exact h.bn x hx
       ·rw [List.nodup_append];exact ⟨h.nd,by simp,fun a ha b J7=>by simp at J7;subst J7;exact fun g=>hM (g▸ha)⟩
  ·exact h
theorem Eb {c:au} {l:List Way} {s k:Int} (h:(iw c l s k).st≠0):iw c l s k∈l:=by
  unfold iw at h ⊢;by_cases h1:ng c s k=true
  ·rw [if_pos h1] at h ⊢;by_cases h2:s.toNat*c.al.toNat+k.toNat<l.length
   ·rw [←ia h2];exact List.getElem_mem h2
   ·rw [List.getD_eq_getElem?_getD,List.getElem?_eq_none (om)] at h;exact absurd rfl h
  ·rw [if_neg h1] at h;exact absurd rfl h
theorem XV {c:au} {k:cT} {s w:Int} (hI:cj c k.al) (h:vQ c k):vQ c (gr c k s w):=by
  unfold gr;split
  ·rename_i h0;unfold jH at h0;split at h0
   ·cases h0
   ·rename_i h1;split at h0
    ·cases h0
    ·rename_i h2;split at h0
     ·cases h0
     ·rename_i h3;have uG:(iw c k.al s w).st≠0:=fun g=>h1 (.inr g);have gP:=Eb uG;have Ap:(iw c k.al s w).lk=false:=by cases g:(iw c k.al s w).lk with|false=>rfl|true=>exact absurd g h2
      generalize iw c k.al s w=x at *;have YO:=Tt hI gP (by simp [cr,uG]);have wi:lC c k.al x.aa 0 .zero=0:=by rw [JC,YO];simp [AY]
      have h':=AA (aa:=x.aa) (st:=0) (w:= .zero) hI h;have Wa:vw c (db c k.al x.aa 0 .zero) x.aa=none:=by rw [MQ hI,if_pos ⟨rfl,wi⟩,YO];simp [Ap]
      refine ⟨h'.wd,h'.ml,h'.lm,fun z hz=>?_,h'.nd,?_⟩
      ·unfold Cp at hz;dsimp only at hz ⊢;split at hz
       ·unfold kT at hz;split at hz
        ·exact h'.bn z hz
        ·split at hz
         ·exact h'.bn z hz
         ·rw [List.map_append] at hz;rcases List.mem_append.1 hz with g|g
          ·exact h'.bn z g
          ·simp at g;subst g;exact Wa
       ·exact h'.bn z hz
      ·unfold Cp;dsimp only;split
       ·unfold kT;split
        ·exact h.bd
        ·split
         ·exact h.bd
         ·rename_i g1 g2;rw [List.map_append,List.nodup_append];exact ⟨h.bd,by simp,fun a ha b J7=>by simp at J7;subst J7;exact fun g=>g1 (FK.2 (g▸ha))⟩
       ·exact h.bd
  ·exact h
theorem Q9 {l:List li} {aa:Int}:(iA l aa).map (·.aa)=l.map (·.aa):=by
  unfold iA;split
  ·rename_i h;simp only [Bool.and_eq_true] at h;obtain ⟨i,hi,e0,ea,el⟩:=sl h.1;rw [e0,Int.toNat_natCast,List.map_set,ea];have e:l[i].aa=(l.map (·.aa))[i]'(by simpa using hi):=by simp
   dsimp only;rw [e,List.set_getElem_self]
  ·rfl
theorem MT {c:au} {k:cT} {aa st:Int} {g:Bool} (hI:cj c k.al) (h:vQ c k):vQ c (eo c k aa st g):=by
  unfold eo;split
  ·exact AA hI h
  ·split
   ·unfold vQ Cp;dsimp only;rw [Q9];exact h
   ·exact h
theorem Dp {α:Type} {l m:List α} (h:l.Sublist m) (hn:m.Nodup):l.Nodup:=List.Nodup.sublist h hn
theorem TC {c:au} {k:cT} {aa:Int} (h:vQ c k):vQ c (EU k aa):=by
  have hs:((mV k.bD aa).map (·.aa)).Sublist (k.bD.map (·.aa)):=by
    unfold mV;split
    ·exact (List.eraseIdx_sublist _ _).map _
    ·exact List.Sublist.refl _
  exact ⟨h.wd,h.ml,h.lm,fun x hx=>h.bn x (hs.mem hx),h.nd,Dp hs h.bd⟩
theorem TD {c:au} {ap:Int} {k:cT} {m:bA} (hI:cj c k.al) (h:vQ c k):vQ c (cw c ap k m):=by
  have ms:∀ SI:List bR,SI.map (·.aa)=k.aP.map (·.aa)→vQ c ⟨k.al,SI,k.bD⟩:=fun SI e=>by
    unfold vQ ni;dsimp only;rw [e];exact h
  unfold cw;split
  ·split
   ·exact MT hI h
   ·split
    ·exact MT hI h
    ·split
     ·split
      ·unfold sm;split
       ·exact AA hI h
       ·exact h
      ·exact h
     ·split
      ·unfold o8;split
       ·exact Hr hI (ms _ Q8)
       ·exact h
      ·split
       ·unfold p8;split
        ·exact Hr hI (ms _ Oo)
        ·exact h
       ·split
        ·unfold sn;split
         ·exact Hr hI (ms _ Tx)
         ·exact h
        ·exact TC h
  ·exact h
theorem FL {l:List Int} (hn:l.Nodup) {i j:Nat} (hi:i<l.length) (hj:j<l.length) (e:l[i]=l[j]):i=j:=by
  rw [List.nodup_iff_pairwise_ne,List.pairwise_iff_getElem] at hn;rcases Nat.lt_trichotomy i j with g|g|g
  ·exact absurd e (hn i j hi hj g)
  ·exact g
  ·exact absurd e.symm (hn j i hj hi g)
theorem GP {l:List Int} (hn:l.Nodup) {i:Nat} (hi:i<l.length) (x:Int):x∈l.eraseIdx i↔x∈l∧x≠l[i]:=by
  constructor
  ·intro h;obtain ⟨j,hj,kz,e⟩:=List.mem_eraseIdx_iff_getElem.1 h;exact ⟨e▸List.getElem_mem hj,fun g=>kz (FL hn hj hi (by rw [e,g]))⟩
  ·rintro ⟨h,kz⟩;obtain ⟨j,hj,e⟩:=List.getElem_of_mem h;exact List.mem_eraseIdx_iff_getElem.2 ⟨j,hj,fun g=>kz (by subst g;exact e.symm),e⟩
theorem TE {α β:Type} {f:α→β} {l:List α} {i:Nat}:(l.eraseIdx i).map f=(l.map f).eraseIdx i:=by
  simp [List.eraseIdx_eq_take_drop_succ,List.map_take,List.map_drop]
theorem Ln {k:cT} (hn:(ni k).Nodup) (h:gT k=true):kS k.aP (dz k)=0∧∃ i,∃ hi:i<k.aP.length,nK k.aP (dz k)=i∧dz k=k.aP[i].aa∧k.aP[i].oU=true:=by
  have h':0≤gx k.aP:=of_decide_eq_true h;obtain ⟨i,hi,e0,ho,_⟩:=fx h';have tQ:gx k.aP=i:=e0;have el:dz k=k.aP[i].aa:=by unfold dz;rw [if_pos h',tQ,Int.toNat_natCast,←ia hi]
  have kH:dp k.aP (dz k)=true:=Dn.2 (List.mem_map.2 ⟨_,List.getElem_mem hi,el.symm⟩);obtain ⟨j,hj,e1,ea,ej⟩:=iT kH;have G7:j=i:=FL hn (by simpa [ni] using hj) (by simpa [ni] using hi) (by simp [ni,ej,el]);subst G7;refine ⟨?_,j,hi,e1,el,ho⟩;unfold kS;rw [if_pos kH,ea,ho];rfl
theorem Wc {c:au} {k:cT} (hI:cj c k.al) (h:vQ c k):vQ c (gU c k):=by
  unfold gU;split
  ·rename_i h0;obtain ⟨he,i,hi,ep,el,_⟩:=Ln h.nd h0;have OT:gy k.aP (dz k)=k.aP.eraseIdx i:=by unfold gy;rw [if_pos he,ep,Int.toNat_natCast]
   have eM:ni ⟨eZ c k.al (dz k) false,gy k.aP (dz k),k.bD⟩=(ni k).eraseIdx i:=by
     unfold ni;dsimp only;rw [OT,TE]
   have pT:i<(ni k).length:=by simpa [ni] using hi
   have ei:(ni k)[i]=dz k:=by rw [el];simp [ni]
   have gP:=GP h.nd pT;rw [ei] at gP;obtain ⟨y,hy,YN⟩:=h.ml (dz k) (by rw [←ei];exact List.getElem_mem pT);have hv:=JD (aa:=dz k) (lk:=false) hI;rw [hy] at hv;unfold vQ;rw [eM];refine ⟨fun x w hx=>?_,fun x hx=>?_,fun x w hx hk=>?_,fun x hx=>?_,Dp (List.eraseIdx_sublist _ _) h.nd,h.bd⟩
   ·dsimp only at hx;rw [hv] at hx;split at hx
    ·dsimp only at hx;split at hx
     ·cases hx;exact h.wd _ y hy
     ·cases hx
    ·exact h.wd x w hx
   ·obtain ⟨g1,g2⟩:=(gP x).1 hx;dsimp only;rw [hv,if_neg g2];exact h.ml x g1
   ·dsimp only at hx;rw [hv] at hx;split at hx
    ·dsimp only at hx;split at hx
     ·cases hx;cases hk
     ·cases hx
    ·rename_i g;exact (gP x).2 ⟨h.lm x w hx hk,g⟩
   ·dsimp only;rw [hv];have hb:=h.bn x hx;split
    ·rename_i g;rw [g,hy] at hb;cases hb
    ·exact hb
  ·exact h
theorem XW {c:au} {k:cT} {x:c5} (hI:cj c k.al) (h:vQ c k):vQ c (ff c k x):=by
  unfold ff;split
  ·exact AA hI h
  ·exact h
theorem Wd (c:au) (n:Nat):vQ c ⟨List.replicate n .zero,[],[]⟩:=by
  have hv:∀ x,vw c (List.replicate n .zero) x=none:=fun x=>uB (D7 fun k hk=>by
    rw [List.getElem_replicate];rfl)
  exact ⟨fun x w h=>(by dsimp only at h;rw [hv] at h;cases h),fun x h=>(by cases h),fun x w h=>(by dsimp only at h;rw [hv] at h;cases h),fun x h=>(by cases h),List.nodup_nil,List.nodup_nil⟩
end
section
def Cv (c:au) (k:cT):Prop:=(∀ w∈k.al,cG c w.ag)∧(∀ m∈k.aP,cG c m.ag)∧(∀ e∈k.bD,cG c e.ag)
section
variable {c:au} {k:cT}
theorem gO (c:au):cG c .zero:=fun i hi=>by
  have:Words.zero.at i=0:=by
    rcases i with _|_|_|_|_|_|_|_|i;all_goals first|rfl|omega
  unfold oC;rw [this];omega
theorem DM {l:List Way} {aa:Int} (h:∀ w∈l,cG c w.ag):cG c (bg c l aa).ag:=Dl (P:=fun w=>cG c w.ag) h (gO c)
theorem EV {l:List Way} {aa st:Int} {u:Words} (h:∀ w∈l,cG c w.ag) (hw:cG c u):∀ w∈db c l aa st u,cG c w.ag:=by
  unfold db;split
  ·refine gE (P:=fun w:Way=>cG c w.ag) h ?_;dsimp only;split
   ·exact gO c
   ·exact hw
  ·exact h
theorem MU {l:List Way} {aa:Int} {lk:Bool} (h:∀ w∈l,cG c w.ag):∀ w∈eZ c l aa lk,cG c w.ag:=by
  unfold eZ;split
  ·exact gE (P:=fun w:Way=>cG c w.ag) h (DM h)
  ·exact h
theorem We {l:List Way} {aa kV:Int} (h:∀ w∈l,cG c w.ag):∀ w∈fJ c l aa kV,cG c w.ag:=by
  unfold fJ;split
  ·exact gE (P:=fun w:Way=>cG c w.ag) h (gO c)
  ·exact h
theorem Ec {l:List bR} {aa:Int} (h:∀ m∈l,cG c m.ag):cG c (iR l aa).ag:=by
  unfold iR;rw [List.getD_eq_getElem?_getD];cases e:l[(nK l aa).toNat]? with
  |none=>exact gO c
  |some x=>exact h x (List.mem_of_getElem? e)
theorem TG {l:List li} {aa:Int} (h:∀ m∈l,cG c m.ag):cG c (rb l aa).ag:=by
  unfold rb;rw [List.getD_eq_getElem?_getD];cases e:l[(fz l aa).toNat]? with
  |none=>exact gO c
  |some x=>exact h x (List.mem_of_getElem? e)
theorem Ra {l:List bR} {aa aH bI:Int} {u:Words} (h:∀ m∈l,cG c m.ag) (hm:cG c u):∀ m∈dw l aa aH bI u,cG c m.ag:=by
  unfold dw;split
  ·exact gE (P:=fun m:bR=>cG c m.ag) h hm
  ·exact h
theorem Oq {l:List bR} {aa aH:Int} (h:∀ m∈l,cG c m.ag):∀ m∈dy l aa aH,cG c m.ag:=by
  unfold dy;split
  ·exact gE (P:=fun m:bR=>cG c m.ag) h (gO c)
  ·exact h
theorem TH {l:List bR} {aa:Int} (h:∀ m∈l,cG c m.ag):∀ m∈fW l aa,cG c m.ag:=by
  unfold fW;split
  ·exact gE (P:=fun m:bR=>cG c m.ag) h (Ec (c:=c) h)
  ·exact h
theorem TI {l:List bR} {aa:Int} (h:∀ m∈l,cG c m.ag):∀ m∈iz l aa,cG c m.ag:=by
  unfold iz;split
  ·exact gE (P:=fun m:bR=>cG c m.ag) h (Ec (c:=c) h)
  ·exact h
theorem Hs (h:Cv c k) (aa:Int):Cv c (dn c k aa):=by
  unfold dn;split
  ·rename_i h0;refine ⟨EV h.1 ?_,TI h.2.1,h.2.2⟩;split
   ·exact DM h.1
   ·unfold fR;rw [if_pos h0];exact Ec h.2.1
  ·exact h
theorem Wf (h:Cv c k) (aa ah:Int):Cv c (cH c k aa ah):=by
  unfold cH;split
  ·refine ⟨?_,?_,h.2.2⟩
   ·dsimp only;split
    ·exact MU h.1
    ·exact We h.1
   ·show ∀ m∈gH c.aS k.aP aa ah,_;unfold gH;split
    ·intro m hm;rcases List.mem_append.1 hm with g|g
     ·exact h.2.1 m g
     ·obtain rfl:=List.mem_singleton.1 g;exact gO c
    ·exact h.2.1
  ·exact h
theorem RZ (h:∀ w∈k.al,cG c w.ag) (s w:Int):cG c (iw c k.al s w).ag:=by
  by_cases h0:(iw c k.al s w).st=0
  ·unfold iw at h0 ⊢;split
   ·rw [List.getD_eq_getElem?_getD];cases e:k.al[s.toNat*c.al.toNat+w.toNat]? with
    |none=>exact gO c
    |some x=>exact h x (List.mem_of_getElem? e)
   ·exact gO c
  ·exact h _ (Eb h0)
theorem XX (h:Cv c k) (s w:Int):Cv c (gr c k s w):=by
  unfold gr;split
  ·refine ⟨EV h.1 (gO c),h.2.1,?_⟩;dsimp only;split
   ·unfold kT;split
    ·exact h.2.2
    ·split
     ·exact h.2.2
     ·intro m hm;rcases List.mem_append.1 hm with g|g
      ·exact h.2.2 m g
      ·obtain rfl:=List.mem_singleton.1 g;exact RZ h.1 s w
   ·exact h.2.2
  ·exact h
theorem MV (h:Cv c k) (aa st:Int) (g:Bool):Cv c (eo c k aa st g):=by
  unfold eo;split
  ·exact ⟨EV h.1 (DM h.1),h.2.1,h.2.2⟩
  ·split
   ·refine ⟨h.1,h.2.1,?_⟩
    show ∀ e∈iA k.bD aa,_;unfold iA;split
    ·exact gE (P:=fun e:li=>cG c e.ag) h.2.2 (TG (c:=c) h.2.2)
    ·exact h.2.2
   ·exact h
theorem Ot {m:bA} (h:bU c m):cG c m.ag:=by
  have h5:=h.2.2.2.2;unfold fM at h5;split at h5
  ·exact h5
  ·rw [h5];exact gO c
theorem TJ {ap:Int} {m:bA} (h:Cv c k):Cv c (cw c ap k m):=by
  unfold cw;split
  ·rename_i cO;have hm:cG c m.ag:=by
     unfold dI at cO;simp only [Bool.and_eq_true,decide_eq_true_eq] at cO;exact Ot cO.1.1
   split
   ·exact MV h _ _ _
   ·split
    ·exact MV h _ _ _
    ·split
     ·split
      ·unfold sm;split
       ·exact ⟨EV h.1 (gO c),h.2.1,h.2.2⟩
       ·exact h
      ·exact h
     ·split
      ·unfold o8;split
       ·exact Hs (k:=⟨k.al,dw k.aP m.aa m.aH m.bI m.ag,k.bD⟩) ⟨h.1,Ra h.2.1 hm,h.2.2⟩ _
       ·exact h
      ·split
       ·unfold p8;split
        ·exact Hs (k:=⟨k.al,dy k.aP m.aa m.aH,k.bD⟩) ⟨h.1,Oq h.2.1,h.2.2⟩ _
        ·exact h
       ·split
        ·unfold sn;split
         ·exact Hs (k:=⟨k.al,fW k.aP m.aa,k.bD⟩) ⟨h.1,TH h.2.1,h.2.2⟩ _
         ·exact h
        ·refine ⟨h.1,h.2.1,?_⟩
         show ∀ e∈mV k.bD m.aa,_;unfold mV;split
         ·exact fun e he=>h.2.2 e (List.mem_of_mem_eraseIdx he)
         ·exact h.2.2
  ·exact h
theorem Wg (h:Cv c k):Cv c (gU c k):=by
  unfold gU;split
  ·refine ⟨MU h.1,?_,h.2.2⟩
   show ∀ m∈gy k.aP (dz k),_;unfold gy;split
   ·exact fun m hm=>h.2.1 m (List.mem_of_mem_eraseIdx hm)
   ·exact h.2.1
  ·exact h
theorem XY {w:Words} {x:c5} (h:cG c w):cG c (vN c w x):=by
  unfold vN;split
  ·rename_i cO;unfold nA at cO;simp only [Bool.and_eq_true] at cO;obtain ⟨⟨h1,h2⟩,h3⟩:=cO;obtain ⟨rH,g0,g1⟩:=AR h1;have hcb:=kL rH;have hw:0≤nH c x.addr∧nH c x.addr<c.ag:=by
     unfold nH;rw [if_pos h1];exact ⟨Int.emod_nonneg _ (om),Int.emod_lt_of_pos _ (om)⟩
   unfold iV;split
   ·rename_i hk;have hv: -2147483648≤x.value∧x.value≤2147483647:=by
      unfold k8 at h2;rw [if_neg (om),if_neg (om),if_pos hk] at h2;simp only [Bool.and_eq_true,decide_eq_true_eq] at h2;exact ⟨h2.1.2,h2.2⟩
    obtain ⟨i,hi⟩:∃ i:Nat,(nH c x.addr).toNat=i:=⟨_,rfl⟩;rw [hi];intro j hj;have Si:(Words.of (w.list.set i x.value)).at j=if i=j then x.value else w.at j:=by
      have hlen:(w.list.set i x.value).length=8:=by rw [List.length_set];rfl
      unfold Words.at;rw [Words.Jd hlen,List.getD_eq_getElem?_getD,List.getElem?_set];have PC:j<w.list.length:=hj;split
      ·rename_i e;subst e;rw [if_pos PC];rfl
      ·rw [←List.getD_eq_getElem?_getD]
    unfold oC;rw [Si];split
    ·exact ⟨hv.1,hv.2,fun g=>by omega⟩
    ·exact h j hj
   ·rw [Words.Jc];exact h
  ·exact gO c
theorem XZ (h:Cv c k) (x:c5):Cv c (ff c k x):=by
  unfold ff;split
  ·exact ⟨EV h.1 (XY (DM h.1)),h.2.1,h.2.2⟩
  ·exact h
theorem Wh (c:au) (n:Nat):Cv c ⟨List.replicate n .zero,[],[]⟩:=by
  refine ⟨fun w hw=>?_,?_,?_⟩
  ·obtain ⟨_,rfl⟩:=List.mem_replicate.1 hw;exact gO c
  ·intro m hm;cases hm
  ·intro m hm;cases hm
end
def oH (c:au) (n:Nat) (k:cT):Prop:=mh c n k∧vQ c k∧Cv c k
section
variable {c:au} {n:Nat} {k:cT}
theorem Rb {n':Nat} (hn:n≤n') (h:oH c n k):oH c n' k:=⟨BA hn h.1,h.2⟩
theorem MW {aa ah:Int} (h:oH c n k):oH c n (cH c k aa ah):=⟨QW h.1,V9 h.1.1 h.2.1,Wf h.2.2 _ _⟩
theorem R0 {s w:Int} (h:oH c n k):oH c n (gr c k s w):=⟨Tr h.1,XV h.1.1 h.2.1,XX h.2.2 _ _⟩
theorem Rc {ap:Int} {m:bA} (h:oH c n k):oH c (n+1) (cw c ap k m):=⟨Od h.1,TD h.1.1 h.2.1,TJ h.2.2⟩
theorem TK (h:oH c n k):oH c n (gU c k):=⟨QX h.1,Wc h.1.1 h.2.1,Wg h.2.2⟩
theorem Wi {x:c5} (h:oH c n k):oH c n (ff c k x):=⟨Ts h.1,XW h.1.1 h.2.1,XZ h.2.2 _⟩
theorem MX (c:au) (n m:Nat):oH c n ⟨List.replicate m .zero,[],[]⟩:=⟨Le c n m,Wd c m,Wh c m⟩
end
end
section
section
variable {α:Type}
def fk (f:α→Int) (l:List α) (x:Int):Option α:=l.find? fun a=>decide (f a=x)
end
end
end Go.Sx
