/- MaW, MaX, Pro4, Pro5, MaY, Pro6: several of my texts as one. My own work. -/
import Derived.Test.YtjihlpjnebdiiaaGreatZar
import Derived.Test.YtjihlpjnebdiiaaGreatZas
set_option linter.unusedVariables false
set_option linter.unusedSectionVars false
set_option linter.unusedSimpArgs false
set_option maxRecDepth 100000
set_option maxHeartbeats 4000000
namespace Go.Sx
open Go Go.Proofs
section
def NF (v:LV Words):Prop:=∀ r m,v.ms r=some m→m.needs=m.got→m.ow=true
def c4u (c:Cfg) (s:MaS):Prop:=∀ line,aL c line=true→LI (fA c s line)∧NF (fA c s line)
section
variable {c:Cfg} {n:Nat} {s:MaS} {line i:Int}
theorem f2g {k:CaS} (h0:0≤i) (h1:i<s.cs.length) (x:Int):fE (dN s i k) x=if x=i then k else fE s x:=by
  unfold fE bI
  show (if 0≤x then (s.cs.set i.toNat k).getD x.toNat caZ else caZ)=_
  by_cases hx:x=i
  · subst hx
    rw [if_pos h0,if_pos rfl,List.getD_eq_getElem?_getD,List.getElem?_set_self (om)];rfl
  · rw [if_neg hx]
    split
    · rw [List.getD_eq_getElem?_getD,List.getElem?_set_ne (om),←List.getD_eq_getElem?_getD]
    · rfl
theorem zX (h0:0≤i):fE s i=bI s i:=if_pos h0
structure MavAs (c:Cfg) (s:MaS) (line i:Int) (cs':List CaS) (st:Int→Int) (wd:Int→Words) (ms:Int→Option (AMs Words)) (bf:Int→Option (Words×Bool)):Prop where
  st:∀ x,a0o c (if 0≤x then cs'.getD x.toNat caZ else caZ) line=if x=i then st line else (fA c s line).st x
  wd:∀ x,a0o c (if 0≤x then cs'.getD x.toNat caZ else caZ) line≠0→b6v c (if 0≤x then cs'.getD x.toNat caZ else caZ) line=if x=i then wd line else (fA c s line).wd x
  ms:∀ x,yB (if 0≤x then cs'.getD x.toNat caZ else caZ) line=if x=i then ms line else (fA c s line).ms x
  bf:∀ x,b4j (if 0≤x then cs'.getD x.toNat caZ else caZ) line=if x=i then bf line else (fA c s line).bf x
theorem d8f {k':CaS} {st:Int→Int} {wd:Int→Words} {ms:Int→Option (AMs Words)} {bf:Int→Option (Words×Bool)} (h0:0≤i) (h1:i<s.cs.length) (ev:CaEv c (bI s i) k' st wd ms bf):MavAs c s line i (dN s i k').cs st wd ms bf:=by
  have hc:=fun x=>f2g (s:=s) (k:=k') h0 h1 x
  unfold fE bI at hc
  refine ⟨fun x=>?_,fun x=>?_,fun x=>?_,fun x=>?_⟩
  all_goals
    rw [hc]
    by_cases hx:x=i
    · rw [if_pos hx,if_pos hx]
      first|exact ev.st line|exact ev.wd line|exact ev.ms line|exact ev.bf line
    · rw [if_neg hx,if_neg hx]
      first|rfl|exact fun _=>rfl
theorem rH (h:MaL c n s) (hi:0≤i∧i<c.cores):i<s.cs.length:=by have:=h.la;omega
theorem f5t (h:MaL c n s) (hr:cB c s.n 0≠0):0<cB c s.n 0:=by have:=a2r h (k:=0) rfl;omega
theorem e1u {L kind:Int} (h:c4u c s) (hl:MaL c n s) (hi:0≤i∧i<c.cores) (hr:cB c s.n 0≠0) (he:dV c (bI s i) L kind=0):c4u c (dX c (dN s i (bM c (bI s i) L kind)) (d9 c i (bI s i) L kind)):=by
  intro line hline
  obtain ⟨ev,m0,b0,hkd⟩:=e8p (hl.cai i) he
  obtain ⟨g1,g2⟩:=c1g he
  have hM:d9 c i (bI s i) L kind=cP c i kind L .zero:=by unfold d9;rw [if_pos he]
  have hk0:c6 (cP c i kind L .zero).kind=0:=by show c6 kind=0;unfold c6;rw [if_pos (om)]
  have hmay:fG c (cP c i kind L .zero):=tF g1 hi (.inl ⟨om,rfl⟩)
  have hroom:0<cB c s.n (c6 (cP c i kind L .zero).kind):=by rw [hk0];exact f5t hl hr
  have hv:=d8f (line:=line) hi.1 (rH hl hi) ev
  have hq:=xC (line:=line) (q:=(aN c s line).q) hmay hroom
  have hf:=sN (line:=line) (q:=(aN c s line).q) hmay hroom
  rw [if_neg (by rw [hk0];omega)] at hf
  rw [hM]
  have hA:qM (cP c i kind L .zero)= .get kind i:=by rcases g2 with rfl|rfl<;>rfl
  obtain ⟨hLI,hNF⟩:=h line hline
  by_cases hL:L=line
  · subst hL
    rw [if_pos ⟨rfl,hk0⟩,hA] at hq
    refine ⟨e9d (r:=i) (k:=kind) (z:= .zero) hLI hi.1 (by show yB (fE s i) L=none;rw [zX hi.1];exact m0) (by show b4j (fE s i) L=none;rw [zX hi.1];exact b0) (by show (kind=1∧a0o c (fE s i) L=0)∨(kind=2∧a0o c (fE s i) L≠2∧a0o c (fE s i) L≠4);rw [zX hi.1];exact hkd)
      (fun x=>?_) (fun x hx=>?_) (fun x=>?_) (fun x=>?_) hq hf rfl rfl (fun _=>rfl) rfl rfl,fun r m hm hn=>?_⟩
    · refine (hv.st x).trans ?_
      by_cases hx:x=i
      · rw [if_pos hx,hx];show _=a0o c (fE s i) L;rw [zX hi.1]
      · rw [if_neg hx]
    · refine (hv.wd x hx).trans ?_
      by_cases hx:x=i
      · rw [if_pos hx,hx];show _=b6v c (fE s i) L;rw [zX hi.1]
      · rw [if_neg hx]
    · refine (hv.ms x).trans ?_
      by_cases hx:x=i
      · rw [if_pos hx,if_pos hx,if_pos rfl]
      · rw [if_neg hx,if_neg hx]
    · refine (hv.bf x).trans ?_
      by_cases hx:x=i
      · rw [if_pos hx,hx];show _=b4j (fE s i) L;rw [zX hi.1]
      · rw [if_neg hx]
    · have e:=(hv.ms r).symm.trans hm
      by_cases hx:r=i
      · rw [if_pos hx,if_pos rfl] at e
        cases e
        cases hn
      · rw [if_neg hx] at e
        exact hNF r m e hn
  · rw [if_neg (fun g=>hL g.1)] at hq
    have hst:∀ x,(fA c (dX c (dN s i (bM c (bI s i) L kind)) (cP c i kind L .zero)) line).ms x=(fA c s line).ms x:=fun x=>by
      refine (hv.ms x).trans ?_
      by_cases hx:x=i
      · rw [if_pos hx,hx,if_neg (Ne.symm hL)];show _=yB (fE s i) line;rw [zX hi.1]
      · rw [if_neg hx]
    refine ⟨rU hLI (fun x=>?_) (fun x hx=>?_) hst (fun x=>?_) hq hf rfl rfl (fun _=>rfl) rfl rfl,fun r m hm hn=>hNF r m (by rw [←hst];exact hm) hn⟩
    · refine (hv.st x).trans ?_
      by_cases hx:x=i
      · rw [if_pos hx,hx];show _=a0o c (fE s i) line;rw [zX hi.1]
      · rw [if_neg hx]
    · refine (hv.wd x hx).trans ?_
      by_cases hx:x=i
      · rw [if_pos hx,hx];show _=b6v c (fE s i) line;rw [zX hi.1]
      · rw [if_neg hx]
    · refine (hv.bf x).trans ?_
      by_cases hx:x=i
      · rw [if_pos hx,hx];show _=b4j (fE s i) line;rw [zX hi.1]
      · rw [if_neg hx]
structure EvPt (c:Cfg) (s s':MaS) (line i:Int) (A:Int) (B:Words) (M:Option (AMs Words)) (E:Option (Words×Bool)):Prop where
  st:∀ x,(fA c s' line).st x=if x=i then A else (fA c s line).st x
  wd:∀ x,(fA c s' line).st x≠0→(fA c s' line).wd x=if x=i then B else (fA c s line).wd x
  ms:∀ x,(fA c s' line).ms x=if x=i then M else (fA c s line).ms x
  bf:∀ x,(fA c s' line).bf x=if x=i then E else (fA c s line).bf x
theorem xR {s':MaS} {k':CaS} {st:Int→Int} {wd:Int→Words} {ms:Int→Option (AMs Words)} {bf:Int→Option (Words×Bool)} (h0:0≤i) (h1:i<s.cs.length) (hcs:s'.cs=(dN s i k').cs) (ev:CaEv c (bI s i) k' st wd ms bf) :
    EvPt c s s' line i (st line) (wd line) (ms line) (bf line):=by
  have hv:=d8f (line:=line) h0 h1 ev
  rw [←hcs] at hv
  exact ⟨hv.st,hv.wd,hv.ms,hv.bf⟩
theorem e0o (h0:0≤i):(fA c s line).st i=a0o c (bI s i) line∧(fA c s line).wd i=b6v c (bI s i) line∧(fA c s line).ms i=yB (bI s i) line∧(fA c s line).bf i=b4j (bI s i) line:=by
  show a0o c (fE s i) line=_∧b6v c (fE s i) line=_∧yB (fE s i) line=_∧b4j (fE s i) line=_
  rw [zX h0];exact ⟨rfl,rfl,rfl,rfl⟩
theorem d7 {α:Type} {f f':Int→α} {a:α} (h:∀ x,f' x=if x=i then a else f x) (e:a=f i) (x:Int):f' x=f x:=by
  rw [h x];split
  · rename_i g;rw [g,e]
  · rfl
theorem oU {s':MaS} (h0:0≤i) {A:Int} {B:Words} {M:Option (AMs Words)} {E:Option (Words×Bool)} (ev:EvPt c s s' line i A B M E) (hA:A=a0o c (bI s i) line) (hB:B=b6v c (bI s i) line) (hM:M=yB (bI s i) line) (hE:E=b4j (bI s i) line)
    (hhs:s'.hs=s.hs) (hnow:aJ c (iL c s'.tr) line=aJ c (iL c s.tr) line) (hq:(fA c s' line).rq.Perm (fA c s line).rq) (hf:(fA c s' line).fly.Perm (fA c s line).fly) (h:LI (fA c s line)∧NF (fA c s line)):LI (fA c s' line)∧NF (fA c s' line):=by
  obtain ⟨v1,v2,v3,v4⟩:=e0o (c:=c) (s:=s) (line:=line) h0
  have hms:=d7 ev.ms (hM.trans v3.symm)
  have hH:aN c s' line=aN c s line:=by unfold aN bU;rw [hhs]
  refine ⟨rU h.1 (d7 ev.st (hA.trans v1.symm)) (fun x hx=>?_) hms (d7 ev.bf (hE.trans v4.symm)) hq hf ?_ ?_ (fun x=>?_) ?_ hnow,fun r m hm hn=>h.2 r m (by rw [←hms];exact hm) hn⟩
  · refine (ev.wd x hx).trans ?_
    split
    · rename_i g;rw [g,v2,hB]
    · rfl
  · show gZ line (aN c s' line).q=_;rw [hH];rfl
  · show (aR (aN c s' line) line).o=_;rw [hH];rfl
  · show cS (aR (aN c s' line) line).s x=_;rw [hH];rfl
  · show aJ c (aN c s' line).ms line=_;rw [hH];rfl
theorem c6m {m:Msg} (hm:fG c m) (hr:0<cB c s.n (c6 m.kind)) {k':CaS}:(fA c (dX c (dN s i k') m) line).rq.Perm (if m.line=line∧c6 m.kind=0 then qM m::(fA c s line).rq else (fA c s line).rq):=xC hm hr
theorem b9x {m:Msg} (hm:fG c m) (hr:0<cB c s.n (c6 m.kind)) {k':CaS}:(fA c (dX c (dN s i k') m) line).fly.Perm (if m.line=line∧c6 m.kind≠0 then qM m::(fA c s line).fly else (fA c s line).fly):=sN hm hr
theorem e8h {sw w:Int} (h:c4u c s) (hl:MaL c n s) (hi:0≤i∧i<c.cores) (hr:cB c s.n 0≠0) (he:lM c (bI s i) sw w=0) :
    c4u c (if kZ c (bI s i) sw w then dX c (dN s i (d5 c (bI s i) sw w)) (mV c i (bI s i) sw w) else dN s i (d5 c (bI s i) sw w)):=by
  obtain ⟨y,hy,y1,y2,y3,y4,ev⟩:=f2k (hl.cai i) he
  have hB:kZ c (bI s i) sw w=decide (2≤y.st):=by
    unfold kZ
    rw [←hy]
    exact decide_eq_decide.2 ⟨fun g=>g.2,fun g=>⟨he,g⟩⟩
  have hyl:aL c y.line=true:=by rw [hy];exact d9l (hl.cai i) (by rw [←hy];exact y3)
  have hyst:0≤y.st∧y.st≤4:=by rw [hy];exact (hl.cai i).1.2.1 _ (vH (by rw [←hy];exact y3))
  intro line hline
  obtain ⟨v1,v2,v3,v4⟩:=e0o (c:=c) (s:=s) (line:=line) hi.1
  by_cases h2:2≤y.st
  · rw [hB,decide_eq_true h2,if_pos rfl]
    have hM:mV c i (bI s i) sw w=cP c i 3 y.line y.words:=by unfold mV;rw [hB,decide_eq_true h2,if_pos rfl,←hy]
    rw [hM]
    have hmay:fG c (cP c i 3 y.line y.words):=tF hyl hi (.inr ⟨rfl,by rw [hy];exact e0b (hl.cai i).2.2.1 _ _⟩)
    have hroom:0<cB c s.n (c6 (cP c i 3 y.line y.words).kind):=f5t hl hr
    have hp:=xR (c:=c) (s:=s) (s':=dX c (dN s i (d5 c (bI s i) sw w)) (cP c i 3 y.line y.words)) (line:=line) hi.1 (rH hl hi) rfl ev
    have hq:=c6m (i:=i) (line:=line) (k':=d5 c (bI s i) sw w) hmay hroom
    have hf:=b9x (i:=i) (line:=line) (k':=d5 c (bI s i) sw w) hmay hroom
    rw [if_neg (fun g=>g.2 rfl)] at hf
    by_cases hL:y.line=line
    · subst hL
      rw [if_pos ⟨rfl,rfl⟩] at hq
      rw [if_pos rfl,if_pos ⟨rfl,h2⟩] at hp
      have hA:qM (cP c i 3 y.line y.words)= .put i ((fA c s y.line).wd i):=by rw [v2,y2];rfl
      rw [hA] at hq
      have hms:=d7 hp.ms (v3.symm)
      refine ⟨d0l (r:=i) (h _ hline).1 (by rw [v3];exact y4) (by rw [v1,y1];exact h2) hp.st (fun x hx=>?_) hms (fun x=>by rw [hp.bf x,v2,y2]) hq hf rfl rfl (fun _=>rfl) rfl rfl,fun r m hm hn=>(h _ hline).2 r m (by rw [←hms];exact hm) hn⟩
      refine (hp.wd x hx).trans ?_
      split
      · rename_i g;rw [g,v2]
      · rfl
    · rw [if_neg (fun g=>hL g.1)] at hq
      rw [if_neg (Ne.symm hL),if_neg (fun g=>hL g.1.symm)] at hp
      exact oU hi.1 hp rfl rfl rfl rfl rfl rfl hq hf (h _ hline)
  · rw [hB,decide_eq_false h2,if_neg (by simp)]
    have hp:=xR (c:=c) (s:=s) (s':=dN s i (d5 c (bI s i) sw w)) (line:=line) hi.1 (rH hl hi) rfl ev
    by_cases hL:y.line=line
    · subst hL
      rw [if_pos rfl,if_neg (fun g=>h2 g.2)] at hp
      have hms:=d7 hp.ms (v3.symm)
      refine ⟨d0k (r:=i) (h _ hline).1 (by rw [v3];exact y4) (by rw [v1,y1];omega) hp.st (fun x hx=>?_) hms (d7 hp.bf v4.symm) (List.Perm.refl _) (List.Perm.refl _) rfl rfl (fun _=>rfl) rfl rfl,fun r m hm hn=>(h _ hline).2 r m (by rw [←hms];exact hm) hn⟩
      refine (hp.wd x hx).trans ?_
      split
      · rename_i g;rw [g,v2]
      · rfl
    · rw [if_neg (Ne.symm hL),if_neg (fun g=>hL g.1.symm)] at hp
      exact oU hi.1 hp rfl rfl rfl rfl rfl rfl (List.Perm.refl _) (List.Perm.refl _) (h _ hline)
theorem e1v (h:c4u c s) (hl:MaL c n s) (hi:0≤i∧i<c.cores) (hr:0<cB c s.n 2) (hb:gD (bI s i)=true):c4u c (dX c (dN s i (dY c (bI s i))) (jG c i (bI s i))):=by
  obtain ⟨⟨m,hm,how⟩,ev⟩:=e8r (hl.cai i) hb
  have hM:jG c i (bI s i)=cP c i 11 (cG (bI s i)) .zero:=by unfold jG;rw [if_pos hb]
  have hL0:=d9m (hl.cai i) hb
  rw [hM]
  generalize cG (bI s i)=L at *
  have hmay:fG c (cP c i 11 L .zero):=tF hL0 hi (.inl ⟨om,rfl⟩)
  have hroom:0<cB c s.n (c6 (cP c i 11 L .zero).kind):=hr
  intro line hline
  obtain ⟨v1,v2,v3,v4⟩:=e0o (c:=c) (s:=s) (line:=line) hi.1
  have hp:=xR (c:=c) (s:=s) (s':=dX c (dN s i (dY c (bI s i))) (cP c i 11 L .zero)) (line:=line) hi.1 (rH hl hi) rfl ev
  have hq:=c6m (i:=i) (line:=line) (k':=dY c (bI s i)) hmay hroom
  have hf:=b9x (i:=i) (line:=line) (k':=dY c (bI s i)) hmay hroom
  rw [if_neg (fun g=>by cases g.2)] at hq
  by_cases hL:L=line
  · subst hL
    rw [if_pos ⟨rfl,by show (2:Int)≠0;decide⟩] at hf
    rw [if_pos rfl] at hp
    refine ⟨e9e (r:=i) (m:=m) (h _ hline).1 (by rw [v3];exact hm) how (d7 hp.st v1.symm) (fun x hx=>?_) hp.ms (d7 hp.bf v4.symm) hq hf rfl rfl (fun _=>rfl) rfl rfl,fun r m' hm' hn=>?_⟩
    · refine (hp.wd x hx).trans ?_
      split
      · rename_i g;rw [g,v2]
      · rfl
    · have e:=(hp.ms r).symm.trans hm'
      by_cases hx:r=i
      · rw [if_pos hx] at e;cases e
      · rw [if_neg hx] at e;exact (h _ hline).2 r m' e hn
  · rw [if_neg (fun g=>hL g.1)] at hf
    rw [if_neg (Ne.symm hL)] at hp
    exact oU hi.1 hp rfl rfl rfl rfl rfl rfl hq hf (h _ hline)
theorem b9y (l:List Com) (x:Com):iL c (l++[x])=kQ (iL c l) x.op:=by
  unfold iL;rw [List.foldl_append];rfl
theorem xS (hc:aF c=true) (l:List Com):((iL c l).length:Int)=c.words*c.lines:=by
  rw [d4c]
  have hb:=gP hc
  have h0:0≤c.words*c.lines:=by
    have hw:=dF hc
    simp only [aF,gI,Bool.and_eq_true,decide_eq_true_eq] at hc
    exact Int.mul_nonneg (om) (om)
  omega
theorem e8i {x:Op3} (h:c4u c s) (hl:MaL c n s) (hi:0≤i∧i<c.cores) (he:mW c (bI s i) x=0) :
    c4u c (nZ (dN s i (dR c (bI s i) x)) i x (lN c (bI s i) x))∧pD (iL c s.tr) x=0∧nD (iL c s.tr) x=lN c (bI s i) x:=by
  have hn:=xS hl.ok s.tr
  have hV:lN c (bI s i) x=f1v c (b6v c (bI s i) (bS c x.addr)) x:=by unfold lN;rw [if_pos he];rfl
  have hnow:∀ line,(fA c (nZ (dN s i (dR c (bI s i) x)) i x (lN c (bI s i) x)) line).now=aJ c (kQ (iL c s.tr) x) line:=fun line=>by
    show aJ c (iL c (s.tr++[⟨i,_,x,_⟩])) line=_
    rw [b9y]
  have hcase:=f2l (hl.cai i) he
  have hap:d7f c x=0:=by
    rcases hcase with g|g
    · exact g.2.2.2
    · exact g.2.2.1
  have hok:xJ c x=true:=Decidable.byContradiction fun e=>by unfold d7f at hap;rw [if_neg e] at hap;cases hap
  obtain ⟨hj,hdo,_,_,_,_,_,_,hvv⟩:=uP hn hok
  have hlok:aL c (bS c x.addr)=true:=by
    simp only [fF,Bool.and_eq_true,decide_eq_true_eq] at hj
    unfold aL
    rw [hj.1,decide_eq_true ⟨hj.2.1,hj.2.2.1⟩];rfl
  have hst:a0o c (bI s i) (bS c x.addr)≠0:=by
    rcases hcase with g|g
    · exact g.2.2.1
    · have:=g.2.1;omega
  obtain ⟨w1,w2,_,_⟩:=e0o (c:=c) (s:=s) (line:=bS c x.addr) hi.1
  have hw:b6v c (bI s i) (bS c x.addr)=aJ c (iL c s.tr) (bS c x.addr):=by
    have:=(h _ hlok).1.wn i (by rw [w1];exact hst)
    rw [w2] at this;exact this
  refine ⟨?_,by unfold pD;rw [if_pos hdo],by rw [hV,hw,hvv]⟩
  intro line hline
  obtain ⟨v1,v2,v3,v4⟩:=e0o (c:=c) (s:=s) (line:=line) hi.1
  rcases hcase with ⟨k1,k2,_,_⟩|⟨k1,k2,_,ev⟩
  · have hs:dN s i (dR c (bI s i) x)=s:=by rw [k2,a9a]
    have hN:(fA c (nZ (dN s i (dR c (bI s i) x)) i x (lN c (bI s i) x)) line).now=(fA c s line).now:=by
      rw [hnow,b5v hn hap,e3l hap k1]
      show (if _ then _ else _)=aJ c (iL c s.tr) line
      split<;>rfl
    rw [hs] at hN ⊢
    exact ⟨rU (h _ hline).1 (fun _=>rfl) (fun _ _=>rfl) (fun _=>rfl) (fun _=>rfl) (List.Perm.refl _) (List.Perm.refl _) rfl rfl (fun _=>rfl) rfl hN,(h _ hline).2⟩
  · have hp:=xR (c:=c) (s:=s) (s':=nZ (dN s i (dR c (bI s i) x)) i x (lN c (bI s i) x)) (line:=line) hi.1 (rH hl hi) rfl ev
    by_cases hL:line=bS c x.addr
    · rw [if_pos hL,if_pos hL] at hp
      have hms:=d7 hp.ms v3.symm
      refine ⟨d5g (r:=i) (w:=d2d c (b6v c (bI s i) (bS c x.addr)) x) (h _ hline).1 hi.1 (by rw [v1,hL];exact k2) hp.st hp.wd hms (d7 hp.bf v4.symm) (List.Perm.refl _) (List.Perm.refl _) rfl rfl (fun _=>rfl) rfl ?_,fun r m hm hn'=>(h _ hline).2 r m (by rw [←hms];exact hm) hn'⟩
      rw [hnow,b5v hn hap,if_pos hL,hw,hL]
    · rw [if_neg hL,if_neg hL] at hp
      refine oU hi.1 hp rfl rfl rfl rfl rfl ?_ (List.Perm.refl _) (List.Perm.refl _) (h _ hline)
      have:=hnow line
      rw [b5v hn hap,if_neg hL] at this
      exact this
end
end
section
def f5p (c:Cfg) (l:List Com):Prop:=∀ j x,l[j]? =some x→pD (iL c (l.take j)) x.op=0∧nD (iL c (l.take j)) x.op=x.res
section
variable {c:Cfg} {n:Nat} {s:MaS} {i:Int}
theorem c6n {l:List Com} {x:Com} (h:f5p c l) (h1:pD (iL c l) x.op=0) (h2:nD (iL c l) x.op=x.res):f5p c (l++[x]):=by
  intro j y hy
  by_cases hj:j<l.length
  · rw [List.getElem?_append_left hj] at hy
    rw [List.take_append_of_le_length (om)]
    exact h j y hy
  · have hj2:j=l.length:=by
      have:=(List.getElem?_eq_some_iff.1 hy).1
      rw [List.length_append] at this
      simp at this;omega
    subst hj2
    rw [List.getElem?_append_right (Nat.le_refl _)] at hy
    simp at hy
    subst hy
    rw [List.take_append_of_le_length (Nat.le_refl _),List.take_length]
    exact ⟨h1,h2⟩
def LT (c:Cfg) (s:MaS):Prop:=c4u c s∧f5p c s.tr
theorem d8g {L kind:Int} (h:LT c s) (hl:MaL c n s) (hi:0≤i∧i<c.cores) (hr:cB c s.n 0≠0) (he:dV c (bI s i) L kind=0):LT c (dX c (dN s i (bM c (bI s i) L kind)) (d9 c i (bI s i) L kind)):=⟨e1u h.1 hl hi hr he,h.2⟩
theorem c6o {x:Op3} (h:LT c s) (hl:MaL c n s) (hi:0≤i∧i<c.cores):LT c (jE c s i x):=by
  unfold jE
  split
  · rename_i hb
    have he:mW c (bI s i) x=0:=of_decide_eq_true hb
    obtain ⟨g1,g2,g3⟩:=e8i h.1 hl hi he
    exact ⟨g1,c6n h.2 g2 g3⟩
  · exact h
theorem e8j {x:Op3} (h:LT c s) (hl:MaL c n s) (hi:0≤i∧i<c.cores) (hk:x.kind=4) (hm:sQ x=true) (ha:x.addr<fO c):LT c (nZ s i x 0):=by
  have hms:∀ ms,kQ ms x=ms:=fun ms=>by
    unfold kQ
    split<;>first|rfl|exact if_pos hk
  have hn:=xS hl.ok s.tr
  have hdo:a9j (iL c s.tr) x=true:=by
    unfold a9j
    rw [hm,Bool.true_and]
    refine decide_eq_true ?_
    have h0:x.addr=0:=by
      unfold sQ at hm
      rw [if_pos hk] at hm
      simp only [Bool.and_eq_true,decide_eq_true_eq] at hm
      exact hm.1
    have hw:=dF hl.ok
    have hb:=hl.ok
    simp only [aF,gI,Bool.and_eq_true,decide_eq_true_eq] at hb
    have:0<c.words*c.lines:=Int.mul_pos (om) (om)
    omega
  refine ⟨fun line hline=>?_,c6n h.2 (by unfold pD;rw [if_pos hdo]) (by show nD (iL c s.tr) x=0;unfold nD;rw [if_pos hdo,if_pos hk])⟩
  have hN:(fA c (nZ s i x 0) line).now=(fA c s line).now:=by
    show aJ c (iL c (s.tr++[⟨i,_,x,_⟩])) line=_
    rw [b9y]
    show aJ c (kQ (iL c s.tr) x) line=_
    rw [hms];rfl
  exact ⟨rU (h.1 line hline).1 (fun _=>rfl) (fun _ _=>rfl) (fun _=>rfl) (fun _=>rfl) (List.Perm.refl _) (List.Perm.refl _) rfl rfl (fun _=>rfl) rfl hN,(h.1 line hline).2⟩
theorem f2h {x:Op3} {w:Int} (h:LT c s) (hl:MaL c n s) (hi:0≤i∧i<c.cores) (hr:cB c s.n 0≠0):LT c (a7f c s i x w):=by
  unfold a7f
  by_cases he:lM c (bI s i) (eU c x) w=0
  · have:=e8h h.1 hl hi hr he
    refine ⟨this,?_⟩
    split<;>exact h.2
  · have hb:kZ c (bI s i) (eU c x) w=false:=by unfold kZ;exact decide_eq_false (fun g=>he g.1)
    have hk:d5 c (bI s i) (eU c x) w=bI s i:=by unfold d5;rw [if_neg he]
    rw [hb,hk,a9a];exact h
theorem c2l (h:MaL c n s) (hh:gH (cO s i)=true):sQ (bV (cO s i))=true∧(bV (cO s i)).addr<fO c:=by
  by_cases hi:i.toNat<s.ks.length
  · have e:cO s i=s.ks[i.toNat]:=by unfold cO;rw [List.getD_eq_getElem?_getD,List.getElem?_eq_getElem hi];rfl
    have hk:=h.kp _ (List.getElem_mem hi)
    rw [←e] at hk
    have hlt:(cO s i).rs.length≠(cO s i).l.length:=by simpa [gH,qA] using hh
    have hl:(cO s i).rs.length<(cO s i).l.length:=by omega
    have hm:bV (cO s i)∈(cO s i).l:=by
      unfold bV zV
      rw [List.getD_eq_getElem?_getD,List.getElem?_eq_getElem hl]
      exact List.getElem_mem hl
    have:=hk.1
    unfold lW at this
    simp only [Bool.and_eq_true,List.all_eq_true,decide_eq_true_eq] at this
    exact this.1.1 _ hm
  · have e:cO s i=coZ:=by unfold cO;rw [List.getD_eq_getElem?_getD,List.getElem?_eq_none (om)];rfl
    rw [e] at hh;cases hh
theorem e8k {w:Int} (h:LT c s) (hl:MaL c n s) (hi:0≤i∧i<c.cores):LT c (c8 c s i w):=by
  unfold c8
  split
  · rename_i g
    exact ⟨e1v h.1 hl hi g.1 g.2,h.2⟩
  · split
    · exact h
    · rename_i hh
      have hh:gH (cO s i)=true:=by simpa using hh
      split
      · rename_i h4
        split
        · exact e8j h hl hi h4 (c2l hl hh).1 (c2l hl hh).2
        · exact h
      · split
        · exact c6o h hl hi
        · split
          · exact h
          · rename_i hr
            split
            · rename_i he
              exact d8g h hl hi hr he
            · split
              · exact f2h h hl hi hr
              · exact h
theorem e1w {d:Int} (h:LT c s) (hl:MaL c n s) (hi:0≤i∧i<c.cores):LT c (eE c s i d):=by
  unfold eE
  split
  · exact h
  · rename_i g
    split
    · rename_i he
      have hK:LT c (a6a s i (iO (cO s i) d)):=h
      have hM:MaL c n (a6a s i (iO (cO s i) d)):=by
        by_cases hi':i.toNat<s.ks.length
        · have e:cO s i=s.ks[i.toNat]:=by unfold cO;rw [List.getD_eq_getElem?_getD,List.getElem?_eq_getElem hi'];rfl
          have hk:=hl.kp _ (List.getElem_mem hi')
          rw [←e] at hk
          exact hl.setK hk
        · have:a6a s i (iO (cO s i) d)=s:=by unfold a6a;rw [List.set_eq_of_length_le (om)]
          rw [this];exact hl
      exact d8g hK hM hi (fun e=>g (.inr e)) he
    · exact h
end
end
section
section
variable {W:Type}
theorem e1x {v v':LV W} (h:LI v) {r:Int} {w:W} (ha:v.act=none) (hO:v.o=r)
    (hst:∀ x,v'.st x=v.st x) (hwd:∀ x,v'.st x≠0→v'.wd x=v.wd x) (hms:∀ x,v'.ms x=v.ms x) (hbf:∀ x,v'.bf x=v.bf x) {Rq:List (AM W)} (hrq0:v.rq.Perm (.put r w::Rq)) (hrq:v'.rq.Perm Rq) (hfly:v'.fly.Perm (.pack r::v.fly)) (hact:v'.act=v.act) (ho:v'.o= -1) (hsh:∀ x,v'.sh x=v.sh x) (hmem:v'.mem=w) (hnow:v'.now=v.now):LI v':=by
  obtain ⟨qm0,cg0,cp0⟩:=c6b hrq0
  obtain ⟨qm,cg,cp⟩:=c6a hrq
  obtain ⟨fm,ck,ct,ci,cd⟩:=b6r hfly
  have hna:∀ k r,v.act≠some (k,r):=fun k r e=>by rw [ha] at e;cases e
  have hnb:=fT ha
  obtain ⟨hfr,hct,hci,hcd⟩:=nG h ha
  have hfk:=h.f0 ha
  have hnb':=fT (v:=v') (by rw [hact];exact ha)
  obtain ⟨l,hb⟩:=h.bw r w ((qm0 _).2 (.inl rfl))
  obtain ⟨b1,b2,b3⟩:=h.b1 r w l hb
  have hrg:=h.rg r
  have hh:=sV h ha (by grind)
  have hw:w=v.now:=by unfold LV.holds at hh;rw [hO] at hh;have:=h.bl r w;grind
  constructor
  case rqk=>intro x hx;have:=h.rqk x;exact cH
  case g0=>intro r1 h1;have:=h.g0 r1;exact cH
  case g1=>intro r1 m1 h1 h2;have:=h.g1 r1 m1;exact cH
  case gk=>intro k1 r1 h1;have:=h.gk k1 r1;exact cH
  case gA=>intro r1 h1;have:=h.gA r1;exact cH
  case aK=>intro k1 r1 h1;have:=h.aK k1 r1;exact cH
  case mK=>intro r1 m1 h1;have:=h.mK r1 m1;exact cH
  case ml=>intro r1 m1 h1 h2;have:=h.ml r1 m1;exact cH
  case b0=>intro r1 h1;have:=h.b0 r1;exact cH
  case b1=>intro r1 w1 l1 h1;have:=h.b1 r1 w1 l1;exact cH
  case bw=>intro r1 w1 h1;have:=h.bw r1 w1;exact cH
  case bl=>intro r1 w1 h1 h2;have:=h.bl r1 w1;exact cH
  case f0=>intro h1 x hx;have:=h.f0;exact cH
  case f1=>intro r1 h1 x hx;have:=h.f1 r1;exact cH
  case f2=>intro r1 h1 x hx;have:=h.f2 r1;exact cH
  case p=>intro k1 r1 h1;have:=h.p k1 r1;exact cH
  case a2=>intro r1 h1;have:=h.a2 r1;exact cH
  case tf=>intro k1 o1 r1 n1 h1;have:=h.tf k1 o1 r1 n1;exact cH
  case td=>intro r1 own1 n1 w1 h1;have:=h.td r1 own1 n1 w1;exact cH
  case tg=>intro r1 n1 h1;have:=h.tg r1 n1;exact cH
  case iv=>intro c1 r1 h1;have:=h.iv c1 r1;exact cH
  case e=>intro c1 h1;have:=h.e c1;exact cH
  case h=>intro h1;have:=h.h;exact cH
  case s=>intro c1 h1 c2 h2;have:=h.s c1;exact cH
  case wn=>intro c1 h1;have:=h.wn c1;exact cH
  case mn=>intro h1;have:=h.mn;exact cH
  case k=>intro c1 h1;have:=h.k c1;exact cH
  case r=>intro c1;have:=h.r c1;exact cH
  case rg=>intro c1 h1;have:=h.rg c1;exact cH
theorem e1y {v v':LV W} (h:LI v) {r:Int} {w:W} (ha:v.act=none) (hO:v.o≠r)
    (hst:∀ x,v'.st x=v.st x) (hwd:∀ x,v'.st x≠0→v'.wd x=v.wd x) (hms:∀ x,v'.ms x=v.ms x) (hbf:∀ x,v'.bf x=v.bf x) {Rq:List (AM W)} (hrq0:v.rq.Perm (.put r w::Rq)) (hrq:v'.rq.Perm Rq) (hfly:v'.fly.Perm (.pack r::v.fly)) (hact:v'.act=v.act) (ho:v'.o=v.o) (hsh:∀ x,v'.sh x=v.sh x) (hmem:v'.mem=v.mem) (hnow:v'.now=v.now):LI v':=by
  obtain ⟨qm0,cg0,cp0⟩:=c6b hrq0
  obtain ⟨qm,cg,cp⟩:=c6a hrq
  obtain ⟨fm,ck,ct,ci,cd⟩:=b6r hfly
  have hna:∀ k r,v.act≠some (k,r):=fun k r e=>by rw [ha] at e;cases e
  have hnb:=fT ha
  obtain ⟨hfr,hct,hci,hcd⟩:=nG h ha
  have hfk:=h.f0 ha
  have hnb':=fT (v:=v') (by rw [hact];exact ha)
  obtain ⟨l,hb⟩:=h.bw r w ((qm0 _).2 (.inl rfl))
  obtain ⟨b1,b2,b3⟩:=h.b1 r w l hb
  have hrg:=h.rg r
  have hho:∀ x,x≠r→(v.holds x↔v'.holds x):=fun x hx=>by unfold LV.holds;rw [hst,hbf,cp,cp0];grind [qB]
  constructor
  case rqk=>intro x hx;have:=h.rqk x;exact cH
  case g0=>intro r1 h1;have:=h.g0 r1;exact cH
  case g1=>intro r1 m1 h1 h2;have:=h.g1 r1 m1;exact cH
  case gk=>intro k1 r1 h1;have:=h.gk k1 r1;exact cH
  case gA=>intro r1 h1;have:=h.gA r1;exact cH
  case aK=>intro k1 r1 h1;have:=h.aK k1 r1;exact cH
  case mK=>intro r1 m1 h1;have:=h.mK r1 m1;exact cH
  case ml=>intro r1 m1 h1 h2;have:=h.ml r1 m1;exact cH
  case b0=>intro r1 h1;have:=h.b0 r1;exact cH
  case b1=>intro r1 w1 l1 h1;have:=h.b1 r1 w1 l1;exact cH
  case bw=>intro r1 w1 h1;have:=h.bw r1 w1;exact cH
  case bl=>intro r1 w1 h1 h2;have:=h.bl r1 w1;exact cH
  case f0=>intro h1 x hx;have:=h.f0;exact cH
  case f1=>intro r1 h1 x hx;have:=h.f1 r1;exact cH
  case f2=>intro r1 h1 x hx;have:=h.f2 r1;exact cH
  case p=>intro k1 r1 h1;have:=h.p k1 r1;exact cH
  case a2=>intro r1 h1;have:=h.a2 r1;exact cH
  case tf=>intro k1 o1 r1 n1 h1;have:=h.tf k1 o1 r1 n1;exact cH
  case td=>intro r1 own1 n1 w1 h1;have:=h.td r1 own1 n1 w1;exact cH
  case tg=>intro r1 n1 h1;have:=h.tg r1 n1;exact cH
  case iv=>intro c1 r1 h1;have:=h.iv c1 r1;exact cH
  case e=>intro c1 h1;have:=h.e c1;exact cH
  case h=>intro h1;have:=h.h;exact cH
  case s=>intro c1 h1 c2 h2;have:=h.s c1;exact cH
  case wn=>intro c1 h1;have:=h.wn c1;exact cH
  case mn=>intro h1;have:=h.mn;exact cH
  case k=>intro c1 h1;have:=h.k c1;exact cH
  case r=>intro c1;have:=h.r c1;exact cH
  case rg=>intro c1 h1;have:=h.rg c1;exact cH
theorem d3i {v v':LV W} (h:LI v) {o r n:Int} (hs:2≤v.st o)
    (hst:∀ x,v'.st x=if x=o then 3 else v.st x) (hwd:∀ x,v'.st x≠0→v'.wd x=v.wd x) (hms:∀ x,v'.ms x=v.ms x) (hbf:∀ x,v'.bf x=v.bf x) (hrq:v'.rq.Perm v.rq) {Rf:List (AM W)} (hfly0:v.fly.Perm (.fwd 1 o r n::Rf)) (hfly:v'.fly.Perm (.data r 1 n (v.wd o)::Rf)) (hact:v'.act=v.act) (ho:v'.o=v.o) (hsh:∀ x,v'.sh x=v.sh x) (hmem:v'.mem=v.mem) (hnow:v'.now=v.now):LI v':=by
  obtain ⟨qm,cg,cp⟩:=a3z hrq
  obtain ⟨fm,ck,ct,ci,cd⟩:=qC hfly
  obtain ⟨fm0,ck0,ct0,ci0,cd0⟩:=qC hfly0
  have hin:=(fm0 _).2 (.inl rfl)
  obtain ⟨k0,r0,m,hac,hr0,hm,hmk,hmn,hmo,hmg,hgot,hct,hcd,hn,hrr⟩:=mG h hin rfl
  simp only [b2u,c2e] at hrr hn
  subst hrr
  have hk0:k0=1:=by rcases (h.aK _ _ hac).1 with e|e<;>subst e<;>first|rfl|(exfalso;have f1:=h.f1 _ hac _ hin;grind)|(exfalso;have f2:=h.f2 _ hac _ hin;grind)
  subst hk0
  have hR:∀ x∈Rf,cX x=false:=fun x hx=>by have:=List.countP_eq_zero.1 (by have:=ct0;simp only [cX] at this;grind:Rf.countP cX=0) x hx;simpa using this
  have hbu:∀ x,v'.busy x↔v.busy x:=fun x=>by unfold LV.busy;rw [hact];grind [dC]
  have hmr:=h.ml r m hm hmo
  have hbn:v.bf r=none:=by cases e:v.bf r with|none=>rfl|some x=>(have:=(h.b1 r x.1 x.2 e).2.2;rw [hm] at this;cases this)
  have htf:=h.tf _ _ _ _ hin
  obtain ⟨t1,t2,t3,t4,t5⟩:=htf
  have hn0:n=0:=by have:=h.f1 _ hac _ hin;grind
  have hun:=fun d=>yG h (c:=o) (d:=d) hs
  have hw:=h.wn o (om)
  have hho:∀ x,v.holds x↔v'.holds x:=fun x=>by unfold LV.holds;rw [hst,hbf,cp];grind
  constructor
  case rqk=>intro x hx;have:=h.rqk x;exact cH
  case g0=>intro r1 h1;have:=h.g0 r1;exact cH
  case g1=>intro r1 m1 h1 h2;have:=h.g1 r1 m1;exact cH
  case gk=>intro k1 r1 h1;have:=h.gk k1 r1;exact cH
  case gA=>intro r1 h1;have:=h.gA r1;exact cH
  case aK=>intro k1 r1 h1;have:=h.aK k1 r1;exact cH
  case mK=>intro r1 m1 h1;have:=h.mK r1 m1;exact cH
  case ml=>intro r1 m1 h1 h2;have:=h.ml r1 m1;exact cH
  case b0=>intro r1 h1;have:=h.b0 r1;exact cH
  case b1=>intro r1 w1 l1 h1;have:=h.b1 r1 w1 l1;exact cH
  case bw=>intro r1 w1 h1;have:=h.bw r1 w1;exact cH
  case bl=>intro r1 w1 h1 h2;have:=h.bl r1 w1;exact cH
  case f0=>intro h1 x hx;have:=h.f0;exact cH
  case f1=>intro r1 h1 x hx;have:=h.f1 r1;exact cH
  case f2=>intro r1 h1 x hx;have:=h.f2 r1;exact cH
  case p=>intro k1 r1 h1;have:=h.p k1 r1;exact cH
  case a2=>intro r1 h1;have:=h.a2 r1;exact cH
  case tf=>intro k1 o1 r1 n1 h1;have:=h.tf k1 o1 r1 n1;exact cH
  case td=>intro r1 own1 n1 w1 h1;have:=h.td r1 own1 n1 w1;exact cH
  case tg=>intro r1 n1 h1;have:=h.tg r1 n1;exact cH
  case iv=>intro c1 r1 h1;have:=h.iv c1 r1;exact cH
  case e=>intro c1 h1;have:=h.e c1;exact cH
  case h=>intro h1;have:=h.h;exact cH
  case s=>intro c1 h1 c2 h2;have:=h.s c1;exact cH
  case wn=>intro c1 h1;have:=h.wn c1;exact cH
  case mn=>intro h1;have:=h.mn;exact cH
  case k=>intro c1 h1;have:=h.k c1;exact cH
  case r=>intro c1;have:=h.r c1;exact cH
  case rg=>intro c1 h1;have:=h.rg c1;exact cH
theorem d3j {v v':LV W} (h:LI v) {o r n:Int} {w:W} (hs:v.st o<2) (hb:v.bf o=some (w,true))
    (hst:∀ x,v'.st x=v.st x) (hwd:∀ x,v'.st x≠0→v'.wd x=v.wd x) (hms:∀ x,v'.ms x=v.ms x) (hbf:∀ x,v'.bf x=v.bf x) (hrq:v'.rq.Perm v.rq) {Rf:List (AM W)} (hfly0:v.fly.Perm (.fwd 1 o r n::Rf)) (hfly:v'.fly.Perm (.data r 1 n w::Rf)) (hact:v'.act=v.act) (ho:v'.o=v.o) (hsh:∀ x,v'.sh x=v.sh x) (hmem:v'.mem=v.mem) (hnow:v'.now=v.now):LI v':=by
  obtain ⟨qm,cg,cp⟩:=a3z hrq
  obtain ⟨fm,ck,ct,ci,cd⟩:=qC hfly
  obtain ⟨fm0,ck0,ct0,ci0,cd0⟩:=qC hfly0
  have hin:=(fm0 _).2 (.inl rfl)
  obtain ⟨k0,r0,m,hac,hr0,hm,hmk,hmn,hmo,hmg,hgot,hct,hcd,hn,hrr⟩:=mG h hin rfl
  simp only [b2u,c2e] at hrr hn
  subst hrr
  have hk0:k0=1:=by rcases (h.aK _ _ hac).1 with e|e<;>subst e<;>first|rfl|(exfalso;have f1:=h.f1 _ hac _ hin;grind)|(exfalso;have f2:=h.f2 _ hac _ hin;grind)
  subst hk0
  have hR:∀ x∈Rf,cX x=false:=fun x hx=>by have:=List.countP_eq_zero.1 (by have:=ct0;simp only [cX] at this;grind:Rf.countP cX=0) x hx;simpa using this
  have hbu:∀ x,v'.busy x↔v.busy x:=fun x=>by unfold LV.busy;rw [hact];grind [dC]
  have hmr:=h.ml r m hm hmo
  have hbn:v.bf r=none:=by cases e:v.bf r with|none=>rfl|some x=>(have:=(h.b1 r x.1 x.2 e).2.2;rw [hm] at this;cases this)
  have htf:=h.tf _ _ _ _ hin
  obtain ⟨t1,t2,t3,t4,t5⟩:=htf
  have hn0:n=0:=by have:=h.f1 _ hac _ hin;grind
  have hcp:v.cp o=1:=by unfold LV.holds at t3;grind
  have hw:=h.bl o w hb hcp
  have hun:=fun d (hd:2≤v.st d)=>yG h (c:=d) (d:=o) hd (.inr ⟨w,hb,hcp⟩)
  have hho:∀ x,v.holds x↔v'.holds x:=fun x=>by unfold LV.holds;rw [hst,hbf,cp]
  constructor
  case rqk=>intro x hx;have:=h.rqk x;exact cH
  case g0=>intro r1 h1;have:=h.g0 r1;exact cH
  case g1=>intro r1 m1 h1 h2;have:=h.g1 r1 m1;exact cH
  case gk=>intro k1 r1 h1;have:=h.gk k1 r1;exact cH
  case gA=>intro r1 h1;have:=h.gA r1;exact cH
  case aK=>intro k1 r1 h1;have:=h.aK k1 r1;exact cH
  case mK=>intro r1 m1 h1;have:=h.mK r1 m1;exact cH
  case ml=>intro r1 m1 h1 h2;have:=h.ml r1 m1;exact cH
  case b0=>intro r1 h1;have:=h.b0 r1;exact cH
  case b1=>intro r1 w1 l1 h1;have:=h.b1 r1 w1 l1;exact cH
  case bw=>intro r1 w1 h1;have:=h.bw r1 w1;exact cH
  case bl=>intro r1 w1 h1 h2;have:=h.bl r1 w1;exact cH
  case f0=>intro h1 x hx;have:=h.f0;exact cH
  case f1=>intro r1 h1 x hx;have:=h.f1 r1;exact cH
  case f2=>intro r1 h1 x hx;have:=h.f2 r1;exact cH
  case p=>intro k1 r1 h1;have:=h.p k1 r1;exact cH
  case a2=>intro r1 h1;have:=h.a2 r1;exact cH
  case tf=>intro k1 o1 r1 n1 h1;have:=h.tf k1 o1 r1 n1;exact cH
  case td=>intro r1 own1 n1 w1 h1;have:=h.td r1 own1 n1 w1;exact cH
  case tg=>intro r1 n1 h1;have:=h.tg r1 n1;exact cH
  case iv=>intro c1 r1 h1;have:=h.iv c1 r1;exact cH
  case e=>intro c1 h1;have:=h.e c1;exact cH
  case h=>intro h1;have:=h.h;exact cH
  case s=>intro c1 h1 c2 h2;have:=h.s c1;exact cH
  case wn=>intro c1 h1;have:=h.wn c1;exact cH
  case mn=>intro h1;have:=h.mn;exact cH
  case k=>intro c1 h1;have:=h.k c1;exact cH
  case r=>intro c1;have:=h.r c1;exact cH
  case rg=>intro c1 h1;have:=h.rg c1;exact cH
end
end
section
section
variable {W:Type}
theorem d3k {v v':LV W} (h:LI v) {o r n:Int} (hs:2≤v.st o)
    (hst:∀ x,v'.st x=if x=o then 0 else v.st x) (hwd:∀ x,v'.st x≠0→v'.wd x=v.wd x) (hms:∀ x,v'.ms x=v.ms x) (hbf:∀ x,v'.bf x=v.bf x) (hrq:v'.rq.Perm v.rq) {Rf:List (AM W)} (hfly0:v.fly.Perm (.fwd 2 o r n::Rf)) (hfly:v'.fly.Perm (.data r 4 n (v.wd o)::Rf)) (hact:v'.act=v.act) (ho:v'.o=v.o) (hsh:∀ x,v'.sh x=v.sh x) (hmem:v'.mem=v.mem) (hnow:v'.now=v.now):LI v':=by
  obtain ⟨qm,cg,cp⟩:=a3z hrq
  obtain ⟨fm,ck,ct,ci,cd⟩:=qC hfly
  obtain ⟨fm0,ck0,ct0,ci0,cd0⟩:=qC hfly0
  have hin:=(fm0 _).2 (.inl rfl)
  obtain ⟨k0,r0,m,hac,hr0,hm,hmk,hmn,hmo,hmg,hgot,hct,hcd,hn,hrr⟩:=mG h hin rfl
  simp only [b2u,c2e] at hrr hn
  subst hrr
  have hk0:k0=2:=by rcases (h.aK _ _ hac).1 with e|e<;>subst e<;>first|rfl|(exfalso;have f1:=h.f1 _ hac _ hin;grind)|(exfalso;have f2:=h.f2 _ hac _ hin;grind)
  subst hk0
  have hR:∀ x∈Rf,cX x=false:=fun x hx=>by have:=List.countP_eq_zero.1 (by have:=ct0;simp only [cX] at this;grind:Rf.countP cX=0) x hx;simpa using this
  have hbu:∀ x,v'.busy x↔v.busy x:=fun x=>by unfold LV.busy;rw [hact];grind [dC]
  have hmr:=h.ml r m hm hmo
  have hbn:v.bf r=none:=by cases e:v.bf r with|none=>rfl|some x=>(have:=(h.b1 r x.1 x.2 e).2.2;rw [hm] at this;cases this)
  have htf:=h.tf _ _ _ _ hin
  obtain ⟨t1,t2,t3,t4,t5⟩:=htf
  have hun:=fun d=>yG h (c:=o) (d:=d) hs
  have hw:=h.wn o (om)
  have hho:∀ x,x≠o→(v.holds x↔v'.holds x):=fun x hx=>by unfold LV.holds;rw [hst,hbf,cp];grind
  refine { bl:=?zbl}
  case zbl=>
    intro r1 w1 h1 h2
    have:=h.bl r1 w1
    have:=h.b1 r1 w1 true;exact cH
theorem d3l {v v':LV W} (h:LI v) {o r n:Int} {w:W} (hs:v.st o<2) (hb:v.bf o=some (w,true))
    (hst:∀ x,v'.st x=v.st x) (hwd:∀ x,v'.st x≠0→v'.wd x=v.wd x) (hms:∀ x,v'.ms x=v.ms x) (hbf:∀ x,v'.bf x=if x=o then some (w,false) else v.bf x) (hrq:v'.rq.Perm v.rq) {Rf:List (AM W)} (hfly0:v.fly.Perm (.fwd 2 o r n::Rf)) (hfly:v'.fly.Perm (.data r 4 n w::Rf)) (hact:v'.act=v.act) (ho:v'.o=v.o) (hsh:∀ x,v'.sh x=v.sh x) (hmem:v'.mem=v.mem) (hnow:v'.now=v.now):LI v':=by
  obtain ⟨qm,cg,cp⟩:=a3z hrq
  obtain ⟨fm,ck,ct,ci,cd⟩:=qC hfly
  obtain ⟨fm0,ck0,ct0,ci0,cd0⟩:=qC hfly0
  have hin:=(fm0 _).2 (.inl rfl)
  obtain ⟨k0,r0,m,hac,hr0,hm,hmk,hmn,hmo,hmg,hgot,hct,hcd,hn,hrr⟩:=mG h hin rfl
  simp only [b2u,c2e] at hrr hn
  subst hrr
  have hk0:k0=2:=by rcases (h.aK _ _ hac).1 with e|e<;>subst e<;>first|rfl|(exfalso;have f1:=h.f1 _ hac _ hin;grind)|(exfalso;have f2:=h.f2 _ hac _ hin;grind)
  subst hk0
  have hR:∀ x∈Rf,cX x=false:=fun x hx=>by have:=List.countP_eq_zero.1 (by have:=ct0;simp only [cX] at this;grind:Rf.countP cX=0) x hx;simpa using this
  have hbu:∀ x,v'.busy x↔v.busy x:=fun x=>by unfold LV.busy;rw [hact];grind [dC]
  have hmr:=h.ml r m hm hmo
  have hbn:v.bf r=none:=by cases e:v.bf r with|none=>rfl|some x=>(have:=(h.b1 r x.1 x.2 e).2.2;rw [hm] at this;cases this)
  have htf:=h.tf _ _ _ _ hin
  obtain ⟨t1,t2,t3,t4,t5⟩:=htf
  have hcp:v.cp o=1:=by unfold LV.holds at t3;grind
  have hw:=h.bl o w hb hcp
  have hun:=fun d (hd:2≤v.st d)=>yG h (c:=d) (d:=o) hd (.inr ⟨w,hb,hcp⟩)
  have hho:∀ x,x≠o→(v.holds x↔v'.holds x):=fun x hx=>by unfold LV.holds;rw [hst,hbf,cp];grind
  refine { b1:=?zb1,k:=?zk}
  case zb1=>
    intro r1 w1 l1 h1
    have:=h.b1 r1 w1 l1
    have:=h.b1 r1 w1 true;exact cH
  case zk=>
    intro c1 h1
    have:=h.k c1
    have:=h.b1 o w true hb;exact cH
theorem e1z {v v':LV W} (h:LI v) {c r:Int} (hs:v.st c=1)
    (hst:∀ x,v'.st x=if x=c then 0 else v.st x) (hwd:∀ x,v'.st x≠0→v'.wd x=v.wd x) (hms:∀ x,v'.ms x=v.ms x) (hbf:∀ x,v'.bf x=v.bf x) (hrq:v'.rq.Perm v.rq) {Rf:List (AM W)} (hfly0:v.fly.Perm (.inv c r::Rf)) (hfly:v'.fly.Perm (.ack r::Rf)) (hact:v'.act=v.act) (ho:v'.o=v.o) (hsh:∀ x,v'.sh x=v.sh x) (hmem:v'.mem=v.mem) (hnow:v'.now=v.now):LI v':=by
  obtain ⟨qm,cg,cp⟩:=a3z hrq
  obtain ⟨fm,ck,ct,ci,cd⟩:=qC hfly
  obtain ⟨fm0,ck0,ct0,ci0,cd0⟩:=qC hfly0
  have hin:=(fm0 _).2 (.inl rfl)
  have hiv:=h.iv _ _ hin
  have hac:v.act=some (2,r):=by cases e:v.act with|none=>(have:=h.f0 e _ hin;grind)|some a=>(have:=h.aK a.1 a.2 e;have:=h.f1 a.2;have:=h.f2 a.2;grind)
  have hbu:∀ x,v'.busy x↔v.busy x:=fun x=>by unfold LV.busy;rw [hact];grind [dC]
  have hho:∀ x,v.holds x↔v'.holds x:=fun x=>by unfold LV.holds;rw [hst,hbf,cp];grind
  constructor
  case rqk=>intro x hx;have:=h.rqk x;exact cH
  case g0=>intro r1 h1;have:=h.g0 r1;exact cH
  case g1=>intro r1 m1 h1 h2;have:=h.g1 r1 m1;exact cH
  case gk=>intro k1 r1 h1;have:=h.gk k1 r1;exact cH
  case gA=>intro r1 h1;have:=h.gA r1;exact cH
  case aK=>intro k1 r1 h1;have:=h.aK k1 r1;exact cH
  case mK=>intro r1 m1 h1;have:=h.mK r1 m1;exact cH
  case ml=>intro r1 m1 h1 h2;have:=h.ml r1 m1;exact cH
  case b0=>intro r1 h1;have:=h.b0 r1;exact cH
  case b1=>intro r1 w1 l1 h1;have:=h.b1 r1 w1 l1;exact cH
  case bw=>intro r1 w1 h1;have:=h.bw r1 w1;exact cH
  case bl=>intro r1 w1 h1 h2;have:=h.bl r1 w1;exact cH
  case f0=>intro h1 x hx;have:=h.f0;exact cH
  case f1=>intro r1 h1 x hx;have:=h.f1 r1;exact cH
  case f2=>intro r1 h1 x hx;have:=h.f2 r1;exact cH
  case p=>intro k1 r1 h1;have:=h.p k1 r1;exact cH
  case a2=>intro r1 h1;have:=h.a2 r1;exact cH
  case tf=>intro k1 o1 r1 n1 h1;have:=h.tf k1 o1 r1 n1;exact cH
  case td=>intro r1 own1 n1 w1 h1;have:=h.td r1 own1 n1 w1;exact cH
  case tg=>intro r1 n1 h1;have:=h.tg r1 n1;exact cH
  case iv=>intro c1 r1 h1;have:=h.iv c1 r1;exact cH
  case e=>intro c1 h1;have:=h.e c1;exact cH
  case h=>intro h1;have:=h.h;exact cH
  case s=>intro c1 h1 c2 h2;have:=h.s c1;exact cH
  case wn=>intro c1 h1;have:=h.wn c1;exact cH
  case mn=>intro h1;have:=h.mn;exact cH
  case k=>intro c1 h1;have:=h.k c1;exact cH
  case r=>intro c1;have:=h.r c1;exact cH
  case rg=>intro c1 h1;have:=h.rg c1;exact cH
theorem e2a {v v':LV W} (h:LI v) {c r:Int} (hs:v.st c≠1)
    (hst:∀ x,v'.st x=v.st x) (hwd:∀ x,v'.st x≠0→v'.wd x=v.wd x) (hms:∀ x,v'.ms x=v.ms x) (hbf:∀ x,v'.bf x=v.bf x) (hrq:v'.rq.Perm v.rq) {Rf:List (AM W)} (hfly0:v.fly.Perm (.inv c r::Rf)) (hfly:v'.fly.Perm (.ack r::Rf)) (hact:v'.act=v.act) (ho:v'.o=v.o) (hsh:∀ x,v'.sh x=v.sh x) (hmem:v'.mem=v.mem) (hnow:v'.now=v.now):LI v':=by
  obtain ⟨qm,cg,cp⟩:=a3z hrq
  obtain ⟨fm,ck,ct,ci,cd⟩:=qC hfly
  obtain ⟨fm0,ck0,ct0,ci0,cd0⟩:=qC hfly0
  have hin:=(fm0 _).2 (.inl rfl)
  have hiv:=h.iv _ _ hin
  have hac:v.act=some (2,r):=by cases e:v.act with|none=>(have:=h.f0 e _ hin;grind)|some a=>(have:=h.aK a.1 a.2 e;have:=h.f1 a.2;have:=h.f2 a.2;grind)
  have hbu:∀ x,v'.busy x↔v.busy x:=fun x=>by unfold LV.busy;rw [hact];grind [dC]
  have hho:∀ x,v.holds x↔v'.holds x:=fun x=>by unfold LV.holds;rw [hst,hbf,cp]
  refine { k:=?zk}
  case zk=>
    intro c1 h1
    have:=h.k c1
    have:=h.r c1;exact cH
end
end
section
section
variable {c:Cfg} {n:Nat} {s:MaS} {line j k:Int}
theorem lE (hb:gN s.n k j=true) (hk:k=1∨k=2) :
    (fA c s line).rq.Perm (e9c line (aH s.n k j) (aN c s line).q)∧(fA c s line).fly.Perm (if (aG s.n k j).line=line then qM (aG s.n k j)::sM line (aH s.n k j) (aN c s line).q else sM line (aH s.n k j) (aN c s line).q):=by
  have hh:rS k=true:=by unfold rS;exact decide_eq_true (om)
  have h1:=c0n (line:=line) (q:=(aN c s line).q) hb hh
  have h2:=d0i (line:=line) (q:=(aN c s line).q) hb hh
  rw [if_neg (om)] at h1
  refine ⟨h1,?_⟩
  by_cases hl:(aG s.n k j).line=line
  · rw [if_pos hl];rw [if_pos ⟨hl,om⟩] at h2;exact h2
  · rw [if_neg hl];rw [if_neg (fun g=>hl g.1)] at h2;exact h2
theorem b3c:cB c (aH s.n 1 j) 2=cB c s.n 2:=rfl
theorem b3d {m:Msg} (hm:fG c m) (hk:m.kind=4∨m.kind=5∨m.kind=6):(0≤m.dst∧m.dst<c.cores)∧(0≤m.who∧m.who<c.cores)∧m.who≠m.dst∧0≤m.acks∧m.acks<c.cores∧aL c m.line=true:=by
  obtain ⟨g1,g2,g3,g4,g5⟩:=hm
  have hcb:=g1
  simp only [aF,gI,Bool.and_eq_true,decide_eq_true_eq] at hcb
  have hl:aL c m.line=true:=by unfold aL;rw [g1,decide_eq_true g3];rfl
  unfold jY at g4
  rw [if_neg (by unfold cK;omega)] at g4
  rcases hk with hk|hk|hk
  · rw [if_pos (.inl hk)] at g4
    obtain ⟨a1,a2,_,a3,_,_,a4,a5⟩:=g4
    exact ⟨a3,a1,a2,a4,by simp at a5;omega,hl⟩
  · rw [if_neg (om),if_pos hk] at g4
    obtain ⟨a1,a2,_,a3,_,_,a4,a5⟩:=g4
    exact ⟨a3,a1,a2,a4,by simpa using a5,hl⟩
  · rw [if_pos (.inr hk)] at g4
    obtain ⟨a1,a2,_,a3,_,_,a4,a5⟩:=g4
    exact ⟨a3,a1,a2,a4,by simp at a5;omega,hl⟩
theorem uX {m:Msg} (hm:fG c m) (hk:4≤m.kind∧m.kind≤10):nL c m.dst m=true:=by
  unfold nL
  rw [decide_eq_true hm,decide_eq_false (by unfold cK;omega),decide_eq_true rfl];rfl
theorem c6p {m:Msg} {kd st own:Int} {g:Bool} (h:c4u c s) (hl:MaL c n s) (hb:gN s.n 1 j=true) (h2:cB c s.n 2≠0) (hm:aG s.n 1 j=m) (hk:(m.kind=4∧kd=1∧st=3∧own=1∧g=false)∨(m.kind=5∧kd=2∧st=0∧own=4∧g=true)) :
    bO c m.dst (bI s m.dst) m=0∧c4u c (dD c (dZ s (aH s.n 1 j)) m):=by
  have hmay:=(hl.nt 1 _ (dQ hb)).1
  rw [hm] at hmay
  obtain ⟨hd,hw,hwd,ha0,ha1,hlok⟩:=b3d hmay (om)
  obtain ⟨f1,f2⟩:=lE (c:=c) (line:=m.line) hb (.inl rfl)
  rw [hm,if_pos rfl] at f2
  have hA:qM m= .fwd kd m.dst m.who m.acks:=by
    unfold qM
    rcases hk with ⟨a,rfl,_⟩|⟨a,rfl,_⟩<;>rw [if_neg (om),if_neg (om)]
    · rw [if_pos a]
    · rw [if_neg (om),if_pos a]
  rw [hA] at f2
  obtain ⟨hLI,hNF⟩:=h _ hlok
  obtain ⟨v1,v2,v3,v4⟩:=e0o (c:=c) (s:=s) (line:=m.line) hd.1
  obtain ⟨_,_,hho,_,_⟩:=hLI.tf kd m.dst m.who m.acks (f2.mem_iff.2 (List.mem_cons_self ..))
  have hT:iM c (bI s m.dst) m.line=0:=by
    unfold iM
    by_cases h2':2≤(aP c (bI s m.dst).ways m.line).st
    · rw [if_pos h2']
    · rw [if_neg h2']
      rcases hho with g1|⟨w,g1,_⟩
      · rw [v1] at g1;exact absurd g1 h2'
      · rw [v4] at g1
        unfold b4j at g1
        cases e:fk d4b (bI s m.dst).buf m.line with
        |none=>rw [e] at g1;cases g1
        |some x=>
         rw [e] at g1
         obtain ⟨b1,b2⟩:=f2j e
         have b3:x.live=true:=by simp at g1;exact g1.2
         unfold lK
         rw [if_pos b1,b2,if_pos b3,if_pos rfl]
  have hok:=uX hmay (om)
  have hE:bO c m.dst (bI s m.dst) m=0:=by unfold bO;rw [if_pos hok,if_pos (om),hT]
  have hK:aS c m.dst (bI s m.dst) m=cQ c (bI s m.dst) m.line st g:=by
    unfold aS
    rw [if_pos hok]
    rcases hk with ⟨a,_,rfl,_,rfl⟩|⟨a,_,rfl,_,rfl⟩
    · rw [if_pos a]
    · rw [if_neg (om),if_pos a]
  have hM:eF c m.dst (bI s m.dst) m=⟨7,m.line,m.dst,m.who,1,m.acks,own,mM c (bI s m.dst) m.line⟩:=by
    unfold eF jJ
    rw [if_pos hok,if_pos hT,if_pos hT]
    rcases hk with ⟨a,_,_,rfl,_⟩|⟨a,_,_,rfl,_⟩
    · rw [if_pos a]
    · rw [if_neg (om),if_pos a]
  have hB:dP c m.dst (bI s m.dst) m=true:=by unfold dP;exact decide_eq_true ⟨hE,om,om⟩
  refine ⟨hE,?_⟩
  have hS:dD c (dZ s (aH s.n 1 j)) m=dX c (j9 (dN (dZ s (aH s.n 1 j)) m.dst (cQ c (bI s m.dst) m.line st g)) (decide (bO c m.dst (bI s m.dst) m≠0))) ⟨7,m.line,m.dst,m.who,1,m.acks,own,mM c (bI s m.dst) m.line⟩:=by
    unfold dD
    show (if dP c m.dst (bI s m.dst) m=true then dX c (j9 (dN (dZ s (aH s.n 1 j)) m.dst (aS c m.dst (bI s m.dst) m)) (decide (bO c m.dst (bI s m.dst) m≠0))) (eF c m.dst (bI s m.dst) m) else _)=_
    rw [if_pos hB,hK,hM]
  rw [hS]
  have hst4:0≤st∧st≤4:=by omega
  have hcase:=e2i (st:=st) (g:=g) (hl.cai m.dst) hst4 hT
  have hcl:=rH hl hd
  have hwv:bX c (mM c (bI s m.dst) m.line):=by
    unfold mM
    split
    · exact a0z (hl.cai m.dst).2.2.1
    · unfold mQ
      split
      · exact d8b (hl.cai m.dst).2.2.2.2
      · exact eR c
  generalize mM c (bI s m.dst) m.line=W at *
  have hD:fG c ⟨7,m.line,m.dst,m.who,1,m.acks,own,W⟩:=by
    refine ⟨hl.ok,⟨by show (1:Int)≤7;decide,by show (7:Int)≤11;decide⟩,hmay.2.2.1,?_,?_⟩
    · unfold jY
      rw [if_neg (by unfold cK;simp),if_neg (by simp),if_neg (by simp),if_pos rfl]
      exact ⟨by show own=1∨own=2∨own=4;omega,⟨ha0,ha1⟩,hw,.inr ⟨rfl,hd,fun e=>hwd e.symm⟩⟩
    · unfold iX
      rw [if_pos (show iB 7 from .inr rfl)]
      exact hwv
  have hroom:0<cB c (aH s.n 1 j) (c6 (⟨7,m.line,m.dst,m.who,1,m.acks,own,W⟩:Msg).kind):=by
    show 0<cB c (aH s.n 1 j) 2
    rw [b3c]
    have:=a2r hl (k:=2) rfl
    omega
  have hA2:qM ⟨7,m.line,m.dst,m.who,1,m.acks,own,W⟩= .data m.who own m.acks W:=rfl
  generalize hs':dX c (j9 (dN (dZ s (aH s.n 1 j)) m.dst (cQ c (bI s m.dst) m.line st g)) (decide (bO c m.dst (bI s m.dst) m≠0))) ⟨7,m.line,m.dst,m.who,1,m.acks,own,W⟩=s'
  have hcs:s'.cs=(dN s m.dst (cQ c (bI s m.dst) m.line st g)).cs:=by rw [←hs'];rfl
  have hhs:s'.hs=s.hs:=by rw [←hs'];rfl
  have htr:s'.tr=s.tr:=by rw [←hs'];rfl
  have hns:s'.n=eJ c (aH s.n 1 j) ⟨7,m.line,m.dst,m.who,1,m.acks,own,W⟩:=by rw [←hs'];rfl
  intro line hline
  have hH:aN c s' line=aN c s line:=by unfold aN bU;rw [hhs]
  obtain ⟨q1,q2⟩:=lE (c:=c) (line:=line) hb (.inl rfl)
  rw [hm] at q2
  have hq:(fA c s' line).rq.Perm (fA c s line).rq:=by
    have:=xC (line:=line) (q:=(aN c s line).q) hD hroom
    rw [if_neg (fun g=>by cases g.2)] at this
    show (e9c line s'.n (aN c s' line).q).Perm _
    rw [hns,hH]
    exact this.trans q1.symm
  have hf:(fA c s' line).fly.Perm (if m.line=line then .data m.who own m.acks W::sM line (aH s.n 1 j) (aN c s line).q else sM line (aH s.n 1 j) (aN c s line).q):=by
    have:=sN (line:=line) (q:=(aN c s line).q) hD hroom
    rw [hA2] at this
    show (sM line s'.n (aN c s' line).q).Perm _
    rw [hns,hH]
    refine this.trans ?_
    by_cases hL:m.line=line
    · rw [if_pos hL,if_pos ⟨hL,by show (2:Int)≠0;decide⟩]
    · rw [if_neg hL,if_neg (fun g=>hL g.1)]
  obtain ⟨u1,u2,u3,u4⟩:=e0o (c:=c) (s:=s) (line:=line) hd.1
  have hnow:aJ c (iL c s'.tr) line=aJ c (iL c s.tr) line:=by rw [htr]
  by_cases hL:m.line=line
  · subst hL
    rw [if_pos rfl] at hf
    have e1:(fA c s' m.line).act=(fA c s m.line).act:=by show gZ _ (aN c s' _).q=_;rw [hH];rfl
    have e2:(fA c s' m.line).o=(fA c s m.line).o:=by show (aR (aN c s' _) _).o=_;rw [hH];rfl
    have e3:∀ x,(fA c s' m.line).sh x=(fA c s m.line).sh x:=fun x=>by show cS (aR (aN c s' _) _).s x=_;rw [hH];rfl
    have e4:(fA c s' m.line).mem=(fA c s m.line).mem:=by show aJ c (aN c s' _).ms _=_;rw [hH];rfl
    rcases hcase with ⟨c1,c2,ev⟩|⟨c1,c2,ev⟩
    · have hp:=xR (c:=c) (s:=s) (s':=s') (line:=m.line) hd.1 hcl hcs ev
      rw [if_pos rfl] at hp
      have hms:=d7 hp.ms v3.symm
      have hwd':∀ x,(fA c s' m.line).st x≠0→(fA c s' m.line).wd x=(fA c s m.line).wd x:=fun x hx=>by
        refine (hp.wd x hx).trans ?_
        split
        · rename_i g;rw [g,v2]
        · rfl
      have hWd:W=(fA c s m.line).wd m.dst:=by rw [v2];exact c2
      rw [hWd] at hf
      refine ⟨?_,fun r m' hm' hn=>hNF r m' (by rw [←hms];exact hm') hn⟩
      rcases hk with ⟨_,rfl,rfl,rfl,rfl⟩|⟨_,rfl,rfl,rfl,rfl⟩
      · exact d3i hLI (by rw [v1];exact c1) hp.st hwd' hms (d7 hp.bf v4.symm) hq f2 hf e1 e2 e3 e4 hnow
      · exact d3k hLI (by rw [v1];exact c1) hp.st hwd' hms (d7 hp.bf v4.symm) hq f2 hf e1 e2 e3 e4 hnow
    · have hp:=xR (c:=c) (s:=s) (s':=s') (line:=m.line) hd.1 hcl hcs ev
      have hms:=d7 hp.ms v3.symm
      have hst:=d7 hp.st v1.symm
      have hwd':∀ x,(fA c s' m.line).st x≠0→(fA c s' m.line).wd x=(fA c s m.line).wd x:=fun x hx=>by
        refine (hp.wd x hx).trans ?_
        split
        · rename_i g;rw [g,v2]
        · rfl
      refine ⟨?_,fun r m' hm' hn=>hNF r m' (by rw [←hms];exact hm') hn⟩
      rcases hk with ⟨_,rfl,rfl,rfl,rfl⟩|⟨_,rfl,rfl,rfl,rfl⟩
      · have hbf:=hp.bf
        rw [if_neg (by simp)] at hbf
        exact d3j hLI (by rw [v1];exact c1) (by rw [v4];exact c2) hst hwd' hms (d7 hbf v4.symm) hq f2 hf e1 e2 e3 e4 hnow
      · have hbf:=hp.bf
        rw [if_pos ⟨rfl,rfl⟩] at hbf
        exact d3l hLI (by rw [v1];exact c1) (by rw [v4];exact c2) hst hwd' hms hbf hq f2 hf e1 e2 e3 e4 hnow
  · rw [if_neg hL] at hf q2
    rcases hcase with ⟨c1,c2,ev⟩|⟨c1,c2,ev⟩
    · have hp:=xR (c:=c) (s:=s) (s':=s') (line:=line) hd.1 hcl hcs ev
      rw [if_neg (Ne.symm hL)] at hp
      exact oU hd.1 hp rfl rfl rfl rfl hhs hnow hq (hf.trans q2.symm) (h _ hline)
    · have hp:=xR (c:=c) (s:=s) (s':=s') (line:=line) hd.1 hcl hcs ev
      rw [if_neg (fun g=>hL g.1.symm)] at hp
      exact oU hd.1 hp rfl rfl rfl rfl hhs hnow hq (hf.trans q2.symm) (h _ hline)
end
end
section
section
variable {W:Type}
theorem e2b {v v':LV W} (h:LI v) {r own n:Int} {w:W} {m:AMs W} (hm':v.ms r=some m)
    (hst:∀ x,v'.st x=v.st x) (hwd:∀ x,v'.st x≠0→v'.wd x=v.wd x) (hms:∀ x,v'.ms x=if x=r then some { m with needs:=n,own:=own,w:=w} else v.ms x) (hbf:∀ x,v'.bf x=v.bf x) (hrq:v'.rq.Perm v.rq) {Rf:List (AM W)} (hfly0:v.fly.Perm (.data r own n w::Rf)) (hfly:v'.fly.Perm Rf) (hact:v'.act=v.act) (ho:v'.o=v.o) (hsh:∀ x,v'.sh x=v.sh x) (hmem:v'.mem=v.mem) (hnow:v'.now=v.now):LI v':=by
  obtain ⟨qm,cg,cp⟩:=a3z hrq
  obtain ⟨fm0,ck0,ct0,ci0,cd0⟩:=qC hfly0
  obtain ⟨fm,ck,ct,ci,cd⟩:=c2f hfly
  have hin:=(fm0 _).2 (.inl rfl)
  obtain ⟨k0,r0,m1,hac,hr0,hm,hmk,hmn,hmo,hmg,hgot,hct,hcd,hn,hrr⟩:=mG h hin rfl
  simp only [b2u,c2e] at hrr hn
  subst hrr
  have hR:∀ x∈Rf,cX x=false:=fun x hx=>by have:=List.countP_eq_zero.1 (by have:=ct0;simp only [cX] at this;grind:Rf.countP cX=0) x hx;simpa using this
  have hbu:∀ x,v'.busy x↔v.busy x:=fun x=>by unfold LV.busy;rw [hact];grind [dC]
  have hmr:=h.ml r m1 hm hmo
  have hbn:v.bf r=none:=by cases e:v.bf r with|none=>rfl|some x=>(have:=(h.b1 r x.1 x.2 e).2.2;rw [hm] at this;cases this)
  obtain rfl:m=m1:=by rw [hm'] at hm;cases hm;rfl
  have htd:=h.td _ _ _ _ hin
  have haK:=h.aK _ _ hac
  have hbr:v.busy r:=⟨_,hac,hcd⟩
  have hho:∀ x,v.holds x↔v'.holds x:=fun x=>by unfold LV.holds;rw [hst,hbf,cp]
  refine { p:=?zp}
  case zp=>
    intro k1 r1 h1
    have:=h.p k1 r1
    have f1:=h.f1 r
    have f2:=h.f2 r
    obtain ⟨rfl,rfl⟩:k1=m.kind∧r1=r:=by grind
    refine .inr (.inl ⟨_,by rw [hms,if_pos rfl],?_⟩)
    grind [cX,rG,dC]
theorem d3m {v v':LV W} (h:LI v) {r n:Int} {z:W} {m:AMs W} (hm':v.ms r=some m)
    (hst:∀ x,v'.st x=v.st x) (hwd:∀ x,v'.st x≠0→v'.wd x=v.wd x) (hms:∀ x,v'.ms x=if x=r then some { m with needs:=n,own:=4,w:=z,gr:=true} else v.ms x) (hbf:∀ x,v'.bf x=v.bf x) (hrq:v'.rq.Perm v.rq) {Rf:List (AM W)} (hfly0:v.fly.Perm (.grant r n::Rf)) (hfly:v'.fly.Perm Rf) (hact:v'.act=v.act) (ho:v'.o=v.o) (hsh:∀ x,v'.sh x=v.sh x) (hmem:v'.mem=v.mem) (hnow:v'.now=v.now):LI v':=by
  obtain ⟨qm,cg,cp⟩:=a3z hrq
  obtain ⟨fm0,ck0,ct0,ci0,cd0⟩:=qC hfly0
  obtain ⟨fm,ck,ct,ci,cd⟩:=c2f hfly
  have hin:=(fm0 _).2 (.inl rfl)
  obtain ⟨k0,r0,m1,hac,hr0,hm,hmk,hmn,hmo,hmg,hgot,hct,hcd,hn,hrr⟩:=mG h hin rfl
  simp only [b2u,c2e] at hrr hn
  subst hrr
  have hk0:k0=2:=by rcases (h.aK _ _ hac).1 with e|e<;>subst e<;>first|rfl|(exfalso;have f1:=h.f1 _ hac _ hin;grind)|(exfalso;have f2:=h.f2 _ hac _ hin;grind)
  subst hk0
  have hR:∀ x∈Rf,cX x=false:=fun x hx=>by have:=List.countP_eq_zero.1 (by have:=ct0;simp only [cX] at this;grind:Rf.countP cX=0) x hx;simpa using this
  have hbu:∀ x,v'.busy x↔v.busy x:=fun x=>by unfold LV.busy;rw [hact];grind [dC]
  have hmr:=h.ml r m1 hm hmo
  have hbn:v.bf r=none:=by cases e:v.bf r with|none=>rfl|some x=>(have:=(h.b1 r x.1 x.2 e).2.2;rw [hm] at this;cases this)
  obtain rfl:m=m1:=by rw [hm'] at hm;cases hm;rfl
  have htg:=h.tg _ _ hin
  have hbr:v.busy r:=⟨_,hac,hcd⟩
  have hho:∀ x,v.holds x↔v'.holds x:=fun x=>by unfold LV.holds;rw [hst,hbf,cp]
  constructor
  case rqk=>intro x hx;have:=h.rqk x;exact cH
  case g0=>intro r1 h1;have:=h.g0 r1;exact cH
  case g1=>intro r1 m1 h1 h2;have:=h.g1 r1 m1;exact cH
  case gk=>intro k1 r1 h1;have:=h.gk k1 r1;exact cH
  case gA=>intro r1 h1;have:=h.gA r1;exact cH
  case aK=>intro k1 r1 h1;have:=h.aK k1 r1;exact cH
  case mK=>intro r1 m1 h1;have:=h.mK r1 m1;exact cH
  case ml=>intro r1 m1 h1 h2;have:=h.ml r1 m1;exact cH
  case b0=>intro r1 h1;have:=h.b0 r1;exact cH
  case b1=>intro r1 w1 l1 h1;have:=h.b1 r1 w1 l1;exact cH
  case bw=>intro r1 w1 h1;have:=h.bw r1 w1;exact cH
  case bl=>intro r1 w1 h1 h2;have:=h.bl r1 w1;exact cH
  case f0=>intro h1 x hx;have:=h.f0;exact cH
  case f1=>intro r1 h1 x hx;have:=h.f1 r1;exact cH
  case f2=>intro r1 h1 x hx;have:=h.f2 r1;exact cH
  case p=>intro k1 r1 h1;have:=h.p k1 r1;exact cH
  case a2=>intro r1 h1;have:=h.a2 r1;exact cH
  case tf=>intro k1 o1 r1 n1 h1;have:=h.tf k1 o1 r1 n1;exact cH
  case td=>intro r1 own1 n1 w1 h1;have:=h.td r1 own1 n1 w1;exact cH
  case tg=>intro r1 n1 h1;have:=h.tg r1 n1;exact cH
  case iv=>intro c1 r1 h1;have:=h.iv c1 r1;exact cH
  case e=>intro c1 h1;have:=h.e c1;exact cH
  case h=>intro h1;have:=h.h;exact cH
  case s=>intro c1 h1 c2 h2;have:=h.s c1;exact cH
  case wn=>intro c1 h1;have:=h.wn c1;exact cH
  case mn=>intro h1;have:=h.mn;exact cH
  case k=>intro c1 h1;have:=h.k c1;exact cH
  case r=>intro c1;have:=h.r c1;exact cH
  case rg=>intro c1 h1;have:=h.rg c1;exact cH
theorem e8l {v v':LV W} (h:LI v) {r:Int} {m:AMs W} (hm:v.ms r=some m)
    (hst:∀ x,v'.st x=v.st x) (hwd:∀ x,v'.st x≠0→v'.wd x=v.wd x) (hms:∀ x,v'.ms x=if x=r then some { m with got:=m.got+1} else v.ms x) (hbf:∀ x,v'.bf x=v.bf x) (hrq:v'.rq.Perm v.rq) {Rf:List (AM W)} (hfly0:v.fly.Perm (.ack r::Rf)) (hfly:v'.fly.Perm Rf) (hact:v'.act=v.act) (ho:v'.o=v.o) (hsh:∀ x,v'.sh x=v.sh x) (hmem:v'.mem=v.mem) (hnow:v'.now=v.now):LI v':=by
  obtain ⟨qm,cg,cp⟩:=a3z hrq
  obtain ⟨fm0,ck0,ct0,ci0,cd0⟩:=qC hfly0
  obtain ⟨fm,ck,ct,ci,cd⟩:=c2f hfly
  have hin:=(fm0 _).2 (.inl rfl)
  have hac:v.act=some (2,r):=by cases e:v.act with|none=>(have:=h.f0 e _ hin;grind)|some a=>(have:=h.aK a.1 a.2 e;have:=h.f1 a.2;have:=h.f2 a.2;grind)
  have hbu:∀ x,v'.busy x↔v.busy x:=fun x=>by unfold LV.busy;rw [hact];grind [dC]
  have hp:=h.p 2 r hac
  have hbr:v.busy r:=⟨_,hac,by grind [rG]⟩
  have hho:∀ x,v.holds x↔v'.holds x:=fun x=>by unfold LV.holds;rw [hst,hbf,cp]
  refine { ml:=?zml,p:=?zp}
  case zml=>
    intro r1 m1 h1 h2
    have:=h.ml r1 m1
    have:=h.ml r m hm;exact cH
  case zp=>
    intro k1 r1 h1
    have:=h.p k1 r1
    obtain ⟨rfl,rfl⟩:k1=2∧r1=r:=by grind
    rcases hp with ⟨m1,g1,g2⟩|⟨m1,g1,g2⟩|⟨m1,g1,g2⟩|g2
    · refine .inl ⟨_,by rw [hms,if_pos rfl],?_⟩;grind [cX,rG,dC]
    · refine .inr (.inl ⟨_,by rw [hms,if_pos rfl],?_⟩);grind [cX,rG,dC]
    · grind [cX,rG,dC]
    · grind [cX,rG,dC]
end
end
end Go.Sx
