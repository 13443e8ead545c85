/- LnW, MaW, MaX, Pro5, MaY, MaN: several of my texts as one. My own work. -/
import Derived.Test.YtjihlpjnebdiiaaGreatZao
set_option linter.unusedVariables false
set_option linter.unusedSectionVars false
set_option linter.unusedSimpArgs false
set_option maxRecDepth 100000
set_option maxHeartbeats 4000000
namespace Go.Sx
open Go Go.Proofs
section
theorem x8 {c:Cfg} {ms:List Int} {k line:Int} {w:Words} (hn:(ms.length:Int)=c.words*c.lines) (h:line≠k):aI c (d6d c ms k w) line=aI c ms line:=by
  unfold aI
  split
  · rename_i hj
    congr 1
    unfold d6d
    split
    · rename_i hw
      have hk:dZ c k 0=true:=by simp only [y9,Bool.and_eq_true] at hw;exact hw.1
      obtain ⟨a1,a2,a3,_⟩:=uF hn hk
      obtain ⟨_,l0,l1,w0,w8,_⟩:=mW hj hn
      obtain ⟨_,k0,k1,_⟩:=mW hk hn
      obtain ⟨W,eW⟩:∃ n:Nat,c.words=n:=⟨c.words.toNat,om⟩
      obtain ⟨L,rfl⟩:∃ n:Nat,line=n:=⟨line.toNat,om⟩
      obtain ⟨K,rfl⟩:∃ n:Nat,k=n:=⟨k.toNat,om⟩
      have fL:eI c (L:Int)=L*W:=by unfold eI;rw [eW];exact_mod_cast Int.toNat_natCast (L*W)
      have fK:eI c (K:Int)=K*W:=by unfold eI;rw [eW];exact_mod_cast Int.toNat_natCast (K*W)
      have fW:c.words.toNat=W:=by rw [eW];rfl
      unfold iT
      rw [fW] at a1 a3
      rw [fK] at a1
      rw [fL,fK,fW]
      have hwl:w.list.length=8:=rfl
      apply List.ext_getElem?
      intro i
      rw [List.getElem?_take,List.getElem?_take]
      split
      · rename_i hi
        rw [List.getElem?_drop,List.getElem?_drop,List.append_assoc]
        have ht:(ms.take (K*W)).length=K*W:=by rw [List.length_take];omega
        have hu:(w.list.take W).length=W:=by rw [List.length_take,hwl];omega
        rcases Nat.lt_or_gt_of_ne (show L≠K by omega) with hlt|hgt
        · have:(L+1)*W≤K*W:=Nat.mul_le_mul_right W hlt
          rw [Nat.add_mul,Nat.one_mul] at this
          rw [List.getElem?_append_left (om),List.getElem?_take,if_pos (om)]
        · have:(K+1)*W≤L*W:=Nat.mul_le_mul_right W hgt
          rw [Nat.add_mul,Nat.one_mul] at this
          rw [List.getElem?_append_right (om),List.getElem?_append_right (om),List.getElem?_drop]
          congr 1
          omega
      · rfl
    · rfl
  · rfl
theorem sM {c:Cfg} {ms:List Int} {line:Int} {w:Words} (hn:(ms.length:Int)=c.words*c.lines) (h:y9 c line w=true):aI c (d6d c ms line w) line=w:=by
  have hk:dZ c line 0=true:=by simp only [y9,Bool.and_eq_true] at h;exact h.1
  have ht:zX c w=true:=by simp only [y9,Bool.and_eq_true] at h;exact h.2
  obtain ⟨a1,a2,a3,_⟩:=uF hn hk
  unfold aI d6d
  rw [if_pos hk,if_pos h]
  have hwl:w.list.length=8:=rfl
  have e:iT c (ms.take (eI c line)++w.list.take c.words.toNat++ms.drop (eI c line+c.words.toNat)) line=w.list.take c.words.toNat:=by
    unfold iT
    have h1:(ms.take (eI c line)).length=eI c line:=by rw [List.length_take];omega
    have h2:(w.list.take c.words.toNat).length=c.words.toNat:=by rw [List.length_take,hwl];omega
    rw [List.append_assoc,List.drop_append_of_le_length (om),List.drop_of_length_le (om),List.nil_append,List.take_append_of_le_length (om),List.take_of_length_le (om)]
  rw [e]
  have hz:∀ i,c.words.toNat≤i→i<8→w.list.getD i 0=0:=by
    intro i h1 h2
    unfold zX at ht
    rw [List.all_eq_true] at ht
    have hi:i<w.list.length:=by rw [hwl];exact h2
    have:=ht w.list[i] (List.mem_iff_getElem.2 ⟨i-c.words.toNat,by simp [hwl];omega,by rw [List.getElem_drop];congr 1;omega⟩)
    simpa [hi] using this
  have hg:∀ i,i<8→(w.list.take c.words.toNat).getD i 0=w.list.getD i 0:=by
    intro i hi
    by_cases h1:i<c.words.toNat
    · simp [List.getD_eq_getElem?_getD,List.getElem?_take,h1]
    · rw [hz i (om) hi]
      simp [List.getD_eq_getElem?_getD,List.getElem?_take,h1]
  obtain ⟨w0,w1,w2,w3,w4,w5,w6,w7⟩:=w
  unfold Words.of
  simp only [hg 0 (om),hg 1 (om),hg 2 (om),hg 3 (om),hg 4 (om),hg 5 (om),hg 6 (om),hg 7 (om)]
  rfl
theorem b2k {c:Cfg} {ms:List Int} {x:Op3} (hn:(ms.length:Int)=c.words*c.lines) (h:e1r c x=0) (line:Int):aI c (jU ms x) line=if line=cQ c x.addr then c9a c (aI c ms line) x else aI c ms line:=by
  have hok:a0q c x=true:=Decidable.byContradiction fun e=>by unfold e1r at h;rw [if_neg e] at h;cases h
  obtain ⟨_,_,_,_,_,_,g1,g2,_⟩:=yQ hn hok
  rw [←g2]
  by_cases hl:line=cQ c x.addr
  · rw [if_pos hl,hl];exact sM hn g1
  · rw [if_neg hl];exact x8 hn hl
theorem d7c {c:Cfg} {w:Words} {x:Op3} (h:e1r c x=0) (hk:x.kind=1):c9a c w x=w:=by
  have hok:a0q c x=true:=Decidable.byContradiction fun e=>by unfold e1r at h;rw [if_neg e] at h;cases h
  unfold c9a
  rw [if_pos hok]
  unfold jT
  rw [if_neg (om),Words.of_list]
end
section
def NF (v:LV Words):Prop:=∀ r m,v.ms r=some m→m.needs=m.got→m.ow=true
def c1s (c:Cfg) (s:MaS):Prop:=∀ line,aP c line=true→LI (dX c s line)∧NF (dX c s line)
section
variable {c:Cfg} {n:Nat} {s:MaS} {line i:Int}
theorem e7y {k:CaS} (h0:0≤i) (h1:i<s.cs.length) (x:Int):eV (dW s i k) x=if x=i then k else eV s x:=by
  unfold eV cI
  show (if 0≤x then (s.cs.set i.toNat k).getD x.toNat caZ else caZ)=_
  by_cases hx:x=i
  · subst hx
    rw [if_pos h0,if_pos rfl,List.getD_eq_getElem?_getD,List.getElem?_set_self (om)];rfl
  · rw [if_neg hx]
    split
    · rw [List.getD_eq_getElem?_getD,List.getElem?_set_ne (om),←List.getD_eq_getElem?_getD]
    · rfl
theorem x9 (h0:0≤i):eV s i=cI s i:=if_pos h0
structure MavAs (c:Cfg) (s:MaS) (line i:Int) (cs':List CaS) (st:Int→Int) (wd:Int→Words) (ms:Int→Option (AMs Words)) (bf:Int→Option (Words×Bool)):Prop where
  st:∀ x,y7 c (if 0≤x then cs'.getD x.toNat caZ else caZ) line=if x=i then st line else (dX c s line).st x
  wd:∀ x,y7 c (if 0≤x then cs'.getD x.toNat caZ else caZ) line≠0→b4u c (if 0≤x then cs'.getD x.toNat caZ else caZ) line=if x=i then wd line else (dX c s line).wd x
  ms:∀ x,a1h (if 0≤x then cs'.getD x.toNat caZ else caZ) line=if x=i then ms line else (dX c s line).ms x
  bf:∀ x,b2f (if 0≤x then cs'.getD x.toNat caZ else caZ) line=if x=i then bf line else (dX c s line).bf x
theorem d4h {k':CaS} {st:Int→Int} {wd:Int→Words} {ms:Int→Option (AMs Words)} {bf:Int→Option (Words×Bool)} (h0:0≤i) (h1:i<s.cs.length) (ev:CaEv c (cI s i) k' st wd ms bf):MavAs c s line i (dW s i k').cs st wd ms bf:=by
  have hc:=fun x=>e7y (s:=s) (k:=k') h0 h1 x
  unfold eV cI at hc
  refine ⟨fun x=>?_,fun x=>?_,fun x=>?_,fun x=>?_⟩
  all_goals
    rw [hc]
    by_cases hx:x=i
    · rw [if_pos hx,if_pos hx]
      first|exact ev.st line|exact ev.wd line|exact ev.ms line|exact ev.bf line
    · rw [if_neg hx,if_neg hx]
      first|rfl|exact fun _=>rfl
theorem qI (h:MaL c n s) (hi:0≤i∧i<c.cores):i<s.cs.length:=by have:=h.la;omega
theorem f1f (h:MaL c n s) (hr:cA c s.n 0≠0):0<cA c s.n 0:=by have:=b3l h (k:=0) rfl;omega
theorem d7d {L kind:Int} (h:c1s c s) (hl:MaL c n s) (hi:0≤i∧i<c.cores) (hr:cA c s.n 0≠0) (he:dT c (cI s i) L kind=0):c1s c (d9 c (dW s i (cO c (cI s i) L kind)) (fO c i (cI s i) L kind)):=by
  intro line hline
  obtain ⟨ev,m0,b0,hkd⟩:=e6k (hl.cai i) he
  obtain ⟨g1,g2⟩:=d3a he
  have hM:fO c i (cI s i) L kind=cX c i kind L .zero:=by unfold fO;rw [if_pos he]
  have hk0:dJ (cX c i kind L .zero).kind=0:=by show dJ kind=0;unfold dJ;rw [if_pos (om)]
  have hmay:d6 c (cX c i kind L .zero):=a7q g1 hi (.inl ⟨om,rfl⟩)
  have hroom:0<cA c s.n (dJ (cX c i kind L .zero).kind):=by rw [hk0];exact f1f hl hr
  have hv:=d4h (line:=line) hi.1 (qI hl hi) ev
  have hq:=vS (line:=line) (q:=(aO c s line).q) hmay hroom
  have hf:=rR (line:=line) (q:=(aO c s line).q) hmay hroom
  rw [if_neg (by rw [hk0];omega)] at hf
  rw [hM]
  have hA:pW (cX c i kind L .zero)= .get kind i:=by rcases g2 with rfl|rfl<;>rfl
  obtain ⟨hLI,hNF⟩:=h line hline
  by_cases hL:L=line
  · subst hL
    rw [if_pos ⟨rfl,hk0⟩,hA] at hq
    refine ⟨e6h (r:=i) (k:=kind) (z:= .zero) hLI hi.1 (by show a1h (eV s i) L=none;rw [x9 hi.1];exact m0) (by show b2f (eV s i) L=none;rw [x9 hi.1];exact b0) (by show (kind=1∧y7 c (eV s i) L=0)∨(kind=2∧y7 c (eV s i) L≠2∧y7 c (eV s i) L≠4);rw [x9 hi.1];exact hkd)
      (fun x=>?_) (fun x hx=>?_) (fun x=>?_) (fun x=>?_) hq hf rfl rfl (fun _=>rfl) rfl rfl,fun r m hm hn=>?_⟩
    · refine (hv.st x).trans ?_
      by_cases hx:x=i
      · rw [if_pos hx,hx];show _=y7 c (eV s i) L;rw [x9 hi.1]
      · rw [if_neg hx]
    · refine (hv.wd x hx).trans ?_
      by_cases hx:x=i
      · rw [if_pos hx,hx];show _=b4u c (eV s i) L;rw [x9 hi.1]
      · rw [if_neg hx]
    · refine (hv.ms x).trans ?_
      by_cases hx:x=i
      · rw [if_pos hx,if_pos hx,if_pos rfl]
      · rw [if_neg hx,if_neg hx]
    · refine (hv.bf x).trans ?_
      by_cases hx:x=i
      · rw [if_pos hx,hx];show _=b2f (eV s i) L;rw [x9 hi.1]
      · rw [if_neg hx]
    · have e:=(hv.ms r).symm.trans hm
      by_cases hx:r=i
      · rw [if_pos hx,if_pos rfl] at e
        cases e
        cases hn
      · rw [if_neg hx] at e
        exact hNF r m e hn
  · rw [if_neg (fun g=>hL g.1)] at hq
    have hst:∀ x,(dX c (d9 c (dW s i (cO c (cI s i) L kind)) (cX c i kind L .zero)) line).ms x=(dX c s line).ms x:=fun x=>by
      refine (hv.ms x).trans ?_
      by_cases hx:x=i
      · rw [if_pos hx,hx,if_neg (Ne.symm hL)];show _=a1h (eV s i) line;rw [x9 hi.1]
      · rw [if_neg hx]
    refine ⟨qX hLI (fun x=>?_) (fun x hx=>?_) hst (fun x=>?_) hq hf rfl rfl (fun _=>rfl) rfl rfl,fun r m hm hn=>hNF r m (by rw [←hst];exact hm) hn⟩
    · refine (hv.st x).trans ?_
      by_cases hx:x=i
      · rw [if_pos hx,hx];show _=y7 c (eV s i) line;rw [x9 hi.1]
      · rw [if_neg hx]
    · refine (hv.wd x hx).trans ?_
      by_cases hx:x=i
      · rw [if_pos hx,hx];show _=b4u c (eV s i) line;rw [x9 hi.1]
      · rw [if_neg hx]
    · refine (hv.bf x).trans ?_
      by_cases hx:x=i
      · rw [if_pos hx,hx];show _=b2f (eV s i) line;rw [x9 hi.1]
      · rw [if_neg hx]
structure EvPt (c:Cfg) (s s':MaS) (line i:Int) (A:Int) (B:Words) (M:Option (AMs Words)) (E:Option (Words×Bool)):Prop where
  st:∀ x,(dX c s' line).st x=if x=i then A else (dX c s line).st x
  wd:∀ x,(dX c s' line).st x≠0→(dX c s' line).wd x=if x=i then B else (dX c s line).wd x
  ms:∀ x,(dX c s' line).ms x=if x=i then M else (dX c s line).ms x
  bf:∀ x,(dX c s' line).bf x=if x=i then E else (dX c s line).bf x
theorem vZ {s':MaS} {k':CaS} {st:Int→Int} {wd:Int→Words} {ms:Int→Option (AMs Words)} {bf:Int→Option (Words×Bool)} (h0:0≤i) (h1:i<s.cs.length) (hcs:s'.cs=(dW s i k').cs) (ev:CaEv c (cI s i) k' st wd ms bf) :
    EvPt c s s' line i (st line) (wd line) (ms line) (bf line):=by
  have hv:=d4h (line:=line) h0 h1 ev
  rw [←hcs] at hv
  exact ⟨hv.st,hv.wd,hv.ms,hv.bf⟩
theorem d7e (h0:0≤i):(dX c s line).st i=y7 c (cI s i) line∧(dX c s line).wd i=b4u c (cI s i) line∧(dX c s line).ms i=a1h (cI s i) line∧(dX c s line).bf i=b2f (cI s i) line:=by
  show y7 c (eV s i) line=_∧b4u c (eV s i) line=_∧a1h (eV s i) line=_∧b2f (eV s i) line=_
  rw [x9 h0];exact ⟨rfl,rfl,rfl,rfl⟩
theorem dE {α:Type} {f f':Int→α} {a:α} (h:∀ x,f' x=if x=i then a else f x) (e:a=f i) (x:Int):f' x=f x:=by
  rw [h x];split
  · rename_i g;rw [g,e]
  · rfl
theorem nR {s':MaS} (h0:0≤i) {A:Int} {B:Words} {M:Option (AMs Words)} {E:Option (Words×Bool)} (ev:EvPt c s s' line i A B M E) (hA:A=y7 c (cI s i) line) (hB:B=b4u c (cI s i) line) (hM:M=a1h (cI s i) line) (hE:E=b2f (cI s i) line)
    (hhs:s'.hs=s.hs) (hnow:aI c (jC c s'.tr) line=aI c (jC c s.tr) line) (hq:(dX c s' line).rq.Perm (dX c s line).rq) (hf:(dX c s' line).fly.Perm (dX c s line).fly) (h:LI (dX c s line)∧NF (dX c s line)):LI (dX c s' line)∧NF (dX c s' line):=by
  obtain ⟨v1,v2,v3,v4⟩:=d7e (c:=c) (s:=s) (line:=line) h0
  have hms:=dE ev.ms (hM.trans v3.symm)
  have hH:aO c s' line=aO c s line:=by unfold aO dH;rw [hhs]
  refine ⟨qX h.1 (dE ev.st (hA.trans v1.symm)) (fun x hx=>?_) hms (dE ev.bf (hE.trans v4.symm)) hq hf ?_ ?_ (fun x=>?_) ?_ hnow,fun r m hm hn=>h.2 r m (by rw [←hms];exact hm) hn⟩
  · refine (ev.wd x hx).trans ?_
    split
    · rename_i g;rw [g,v2,hB]
    · rfl
  · show gX line (aO c s' line).q=_;rw [hH];rfl
  · show (aJ (aO c s' line) line).o=_;rw [hH];rfl
  · show bN (aJ (aO c s' line) line).s x=_;rw [hH];rfl
  · show aI c (aO c s' line).ms line=_;rw [hH];rfl
theorem c3a {m:Msg} (hm:d6 c m) (hr:0<cA c s.n (dJ m.kind)) {k':CaS}:(dX c (d9 c (dW s i k') m) line).rq.Perm (if m.line=line∧dJ m.kind=0 then pW m::(dX c s line).rq else (dX c s line).rq):=vS hm hr
theorem b6w {m:Msg} (hm:d6 c m) (hr:0<cA c s.n (dJ m.kind)) {k':CaS}:(dX c (d9 c (dW s i k') m) line).fly.Perm (if m.line=line∧dJ m.kind≠0 then pW m::(dX c s line).fly else (dX c s line).fly):=rR hm hr
theorem e3p {sw w:Int} (h:c1s c s) (hl:MaL c n s) (hi:0≤i∧i<c.cores) (hr:cA c s.n 0≠0) (he:oG c (cI s i) sw w=0) :
    c1s c (if mL c (cI s i) sw w then d9 c (dW s i (gQ c (cI s i) sw w)) (tH c i (cI s i) sw w) else dW s i (gQ c (cI s i) sw w)):=by
  obtain ⟨y,hy,y1,y2,y3,y4,ev⟩:=e9j (hl.cai i) he
  have hB:mL c (cI s i) sw w=decide (2≤y.st):=by
    unfold mL
    rw [←hy]
    exact decide_eq_decide.2 ⟨fun g=>g.2,fun g=>⟨he,g⟩⟩
  have hyl:aP c y.line=true:=by rw [hy];exact e6c (hl.cai i) (by rw [←hy];exact y3)
  have hyst:0≤y.st∧y.st≤4:=by rw [hy];exact (hl.cai i).1.2.1 _ (a0l (by rw [←hy];exact y3))
  intro line hline
  obtain ⟨v1,v2,v3,v4⟩:=d7e (c:=c) (s:=s) (line:=line) hi.1
  by_cases h2:2≤y.st
  · rw [hB,decide_eq_true h2,if_pos rfl]
    have hM:tH c i (cI s i) sw w=cX c i 3 y.line y.words:=by unfold tH;rw [hB,decide_eq_true h2,if_pos rfl,←hy]
    rw [hM]
    have hmay:d6 c (cX c i 3 y.line y.words):=a7q hyl hi (.inr ⟨rfl,by rw [hy];exact e2s (hl.cai i).2.2.1 _ _⟩)
    have hroom:0<cA c s.n (dJ (cX c i 3 y.line y.words).kind):=f1f hl hr
    have hp:=vZ (c:=c) (s:=s) (s':=d9 c (dW s i (gQ c (cI s i) sw w)) (cX c i 3 y.line y.words)) (line:=line) hi.1 (qI hl hi) rfl ev
    have hq:=c3a (i:=i) (line:=line) (k':=gQ c (cI s i) sw w) hmay hroom
    have hf:=b6w (i:=i) (line:=line) (k':=gQ c (cI s i) sw w) hmay hroom
    rw [if_neg (fun g=>g.2 rfl)] at hf
    by_cases hL:y.line=line
    · subst hL
      rw [if_pos ⟨rfl,rfl⟩] at hq
      rw [if_pos rfl,if_pos ⟨rfl,h2⟩] at hp
      have hA:pW (cX c i 3 y.line y.words)= .put i ((dX c s y.line).wd i):=by rw [v2,y2];rfl
      rw [hA] at hq
      have hms:=dE hp.ms (v3.symm)
      refine ⟨c8c (r:=i) (h _ hline).1 (by rw [v3];exact y4) (by rw [v1,y1];exact h2) hp.st (fun x hx=>?_) hms (fun x=>by rw [hp.bf x,v2,y2]) hq hf rfl rfl (fun _=>rfl) rfl rfl,fun r m hm hn=>(h _ hline).2 r m (by rw [←hms];exact hm) hn⟩
      refine (hp.wd x hx).trans ?_
      split
      · rename_i g;rw [g,v2]
      · rfl
    · rw [if_neg (fun g=>hL g.1)] at hq
      rw [if_neg (Ne.symm hL),if_neg (fun g=>hL g.1.symm)] at hp
      exact nR hi.1 hp rfl rfl rfl rfl rfl rfl hq hf (h _ hline)
  · rw [hB,decide_eq_false h2,if_neg (by simp)]
    have hp:=vZ (c:=c) (s:=s) (s':=dW s i (gQ c (cI s i) sw w)) (line:=line) hi.1 (qI hl hi) rfl ev
    by_cases hL:y.line=line
    · subst hL
      rw [if_pos rfl,if_neg (fun g=>h2 g.2)] at hp
      have hms:=dE hp.ms (v3.symm)
      refine ⟨c8b (r:=i) (h _ hline).1 (by rw [v3];exact y4) (by rw [v1,y1];omega) hp.st (fun x hx=>?_) hms (dE hp.bf v4.symm) (List.Perm.refl _) (List.Perm.refl _) rfl rfl (fun _=>rfl) rfl rfl,fun r m hm hn=>(h _ hline).2 r m (by rw [←hms];exact hm) hn⟩
      refine (hp.wd x hx).trans ?_
      split
      · rename_i g;rw [g,v2]
      · rfl
    · rw [if_neg (Ne.symm hL),if_neg (fun g=>hL g.1.symm)] at hp
      exact nR hi.1 hp rfl rfl rfl rfl rfl rfl (List.Perm.refl _) (List.Perm.refl _) (h _ hline)
theorem d7f (h:c1s c s) (hl:MaL c n s) (hi:0≤i∧i<c.cores) (hr:0<cA c s.n 2) (hb:kH (cI s i)=true):c1s c (d9 c (dW s i (gG c (cI s i))) (n8 c i (cI s i))):=by
  obtain ⟨⟨m,hm,how⟩,ev⟩:=e6m (hl.cai i) hb
  have hM:n8 c i (cI s i)=cX c i 11 (bU (cI s i)) .zero:=by unfold n8;rw [if_pos hb]
  have hL0:=e6d (hl.cai i) hb
  rw [hM]
  generalize bU (cI s i)=L at *
  have hmay:d6 c (cX c i 11 L .zero):=a7q hL0 hi (.inl ⟨om,rfl⟩)
  have hroom:0<cA c s.n (dJ (cX c i 11 L .zero).kind):=hr
  intro line hline
  obtain ⟨v1,v2,v3,v4⟩:=d7e (c:=c) (s:=s) (line:=line) hi.1
  have hp:=vZ (c:=c) (s:=s) (s':=d9 c (dW s i (gG c (cI s i))) (cX c i 11 L .zero)) (line:=line) hi.1 (qI hl hi) rfl ev
  have hq:=c3a (i:=i) (line:=line) (k':=gG c (cI s i)) hmay hroom
  have hf:=b6w (i:=i) (line:=line) (k':=gG c (cI s i)) hmay hroom
  rw [if_neg (fun g=>by cases g.2)] at hq
  by_cases hL:L=line
  · subst hL
    rw [if_pos ⟨rfl,by show (2:Int)≠0;decide⟩] at hf
    rw [if_pos rfl] at hp
    refine ⟨e6i (r:=i) (m:=m) (h _ hline).1 (by rw [v3];exact hm) how (dE hp.st v1.symm) (fun x hx=>?_) hp.ms (dE hp.bf v4.symm) hq hf rfl rfl (fun _=>rfl) rfl rfl,fun r m' hm' hn=>?_⟩
    · refine (hp.wd x hx).trans ?_
      split
      · rename_i g;rw [g,v2]
      · rfl
    · have e:=(hp.ms r).symm.trans hm'
      by_cases hx:r=i
      · rw [if_pos hx] at e;cases e
      · rw [if_neg hx] at e;exact (h _ hline).2 r m' e hn
  · rw [if_neg (fun g=>hL g.1)] at hf
    rw [if_neg (Ne.symm hL)] at hp
    exact nR hi.1 hp rfl rfl rfl rfl rfl rfl hq hf (h _ hline)
theorem b6x (l:List Com) (x:Com):jC c (l++[x])=jU (jC c l) x.op:=by
  unfold jC;rw [List.foldl_append];rfl
theorem v5 (hc:aF c=true) (l:List Com):((jC c l).length:Int)=c.words*c.lines:=by
  rw [d4a]
  have hb:=iE hc
  have h0:0≤c.words*c.lines:=by
    have hw:=dO hc
    simp only [aF,fI,Bool.and_eq_true,decide_eq_true_eq] at hc
    exact Int.mul_nonneg (om) (om)
  omega
theorem e3q {x:Op3} (h:c1s c s) (hl:MaL c n s) (hi:0≤i∧i<c.cores) (he:mM c (cI s i) x=0) :
    c1s c (q8 (dW s i (fG c (cI s i) x)) i x (pJ c (cI s i) x))∧sL (jC c s.tr) x=0∧oW (jC c s.tr) x=pJ c (cI s i) x:=by
  have hn:=v5 hl.ok s.tr
  have hV:pJ c (cI s i) x=e7u c (b4u c (cI s i) (cQ c x.addr)) x:=by unfold pJ;rw [if_pos he];rfl
  have hnow:∀ line,(dX c (q8 (dW s i (fG c (cI s i) x)) i x (pJ c (cI s i) x)) line).now=aI c (jU (jC c s.tr) x) line:=fun line=>by
    show aI c (jC c (s.tr++[⟨i,_,x,_⟩])) line=_
    rw [b6x]
  have hcase:=e9k (hl.cai i) he
  have hap:e1r c x=0:=by
    rcases hcase with g|g
    · exact g.2.2.2
    · exact g.2.2.1
  have hok:a0q c x=true:=Decidable.byContradiction fun e=>by unfold e1r at hap;rw [if_neg e] at hap;cases hap
  obtain ⟨hj,hdo,_,_,_,_,_,_,hvv⟩:=yQ hn hok
  have hlok:aP c (cQ c x.addr)=true:=by
    simp only [dZ,Bool.and_eq_true,decide_eq_true_eq] at hj
    unfold aP
    rw [hj.1,decide_eq_true ⟨hj.2.1,hj.2.2.1⟩];rfl
  have hst:y7 c (cI s i) (cQ c x.addr)≠0:=by
    rcases hcase with g|g
    · exact g.2.2.1
    · have:=g.2.1;omega
  obtain ⟨w1,w2,_,_⟩:=d7e (c:=c) (s:=s) (line:=cQ c x.addr) hi.1
  have hw:b4u c (cI s i) (cQ c x.addr)=aI c (jC c s.tr) (cQ c x.addr):=by
    have:=(h _ hlok).1.wn i (by rw [w1];exact hst)
    rw [w2] at this;exact this
  refine ⟨?_,by unfold sL;rw [if_pos hdo],by rw [hV,hw,hvv]⟩
  intro line hline
  obtain ⟨v1,v2,v3,v4⟩:=d7e (c:=c) (s:=s) (line:=line) hi.1
  rcases hcase with ⟨k1,k2,_,_⟩|⟨k1,k2,_,ev⟩
  · have hs:dW s i (fG c (cI s i) x)=s:=by rw [k2,b3k]
    have hN:(dX c (q8 (dW s i (fG c (cI s i) x)) i x (pJ c (cI s i) x)) line).now=(dX c s line).now:=by
      rw [hnow,b2k hn hap,d7c hap k1]
      show (if _ then _ else _)=aI c (jC c s.tr) line
      split<;>rfl
    rw [hs] at hN ⊢
    exact ⟨qX (h _ hline).1 (fun _=>rfl) (fun _ _=>rfl) (fun _=>rfl) (fun _=>rfl) (List.Perm.refl _) (List.Perm.refl _) rfl rfl (fun _=>rfl) rfl hN,(h _ hline).2⟩
  · have hp:=vZ (c:=c) (s:=s) (s':=q8 (dW s i (fG c (cI s i) x)) i x (pJ c (cI s i) x)) (line:=line) hi.1 (qI hl hi) rfl ev
    by_cases hL:line=cQ c x.addr
    · rw [if_pos hL,if_pos hL] at hp
      have hms:=dE hp.ms v3.symm
      refine ⟨d3b (r:=i) (w:=c9a c (b4u c (cI s i) (cQ c x.addr)) x) (h _ hline).1 hi.1 (by rw [v1,hL];exact k2) hp.st hp.wd hms (dE hp.bf v4.symm) (List.Perm.refl _) (List.Perm.refl _) rfl rfl (fun _=>rfl) rfl ?_,fun r m hm hn'=>(h _ hline).2 r m (by rw [←hms];exact hm) hn'⟩
      rw [hnow,b2k hn hap,if_pos hL,hw,hL]
    · rw [if_neg hL,if_neg hL] at hp
      refine nR hi.1 hp rfl rfl rfl rfl rfl ?_ (List.Perm.refl _) (List.Perm.refl _) (h _ hline)
      have:=hnow line
      rw [b2k hn hap,if_neg hL] at this
      exact this
end
end
section
def f0y (c:Cfg) (l:List Com):Prop:=∀ j x,l[j]? =some x→sL (jC c (l.take j)) x.op=0∧oW (jC c (l.take j)) x.op=x.res
section
variable {c:Cfg} {n:Nat} {s:MaS} {i:Int}
theorem c3b {l:List Com} {x:Com} (h:f0y c l) (h1:sL (jC c l) x.op=0) (h2:oW (jC c l) x.op=x.res):f0y c (l++[x]):=by
  intro j y hy
  by_cases hj:j<l.length
  · rw [List.getElem?_append_left hj] at hy
    rw [List.take_append_of_le_length (om)]
    exact h j y hy
  · have hj2:j=l.length:=by
      have:=(List.getElem?_eq_some_iff.1 hy).1
      rw [List.length_append] at this
      simp at this;omega
    subst hj2
    rw [List.getElem?_append_right (Nat.le_refl _)] at hy
    simp at hy
    subst hy
    rw [List.take_append_of_le_length (Nat.le_refl _),List.take_length]
    exact ⟨h1,h2⟩
def LT (c:Cfg) (s:MaS):Prop:=c1s c s∧f0y c s.tr
theorem d4i {L kind:Int} (h:LT c s) (hl:MaL c n s) (hi:0≤i∧i<c.cores) (hr:cA c s.n 0≠0) (he:dT c (cI s i) L kind=0):LT c (d9 c (dW s i (cO c (cI s i) L kind)) (fO c i (cI s i) L kind)):=⟨d7d h.1 hl hi hr he,h.2⟩
theorem c3c {x:Op3} (h:LT c s) (hl:MaL c n s) (hi:0≤i∧i<c.cores):LT c (mY c s i x):=by
  unfold mY
  split
  · rename_i hb
    have he:mM c (cI s i) x=0:=of_decide_eq_true hb
    obtain ⟨g1,g2,g3⟩:=e3q h.1 hl hi he
    exact ⟨g1,c3b h.2 g2 g3⟩
  · exact h
theorem e3r {x:Op3} (h:LT c s) (hl:MaL c n s) (hi:0≤i∧i<c.cores) (hk:x.kind=4) (hm:uE x=true) (ha:x.addr<fJ c):LT c (q8 s i x 0):=by
  have hms:∀ ms,jU ms x=ms:=fun ms=>by
    unfold jU
    split<;>first|rfl|exact if_pos hk
  have hn:=v5 hl.ok s.tr
  have hdo:a6r (jC c s.tr) x=true:=by
    unfold a6r
    rw [hm,Bool.true_and]
    refine decide_eq_true ?_
    have h0:x.addr=0:=by
      unfold uE at hm
      rw [if_pos hk] at hm
      simp only [Bool.and_eq_true,decide_eq_true_eq] at hm
      exact hm.1
    have hw:=dO hl.ok
    have hb:=hl.ok
    simp only [aF,fI,Bool.and_eq_true,decide_eq_true_eq] at hb
    have:0<c.words*c.lines:=Int.mul_pos (om) (om)
    omega
  refine ⟨fun line hline=>?_,c3b h.2 (by unfold sL;rw [if_pos hdo]) (by show oW (jC c s.tr) x=0;unfold oW;rw [if_pos hdo,if_pos hk])⟩
  have hN:(dX c (q8 s i x 0) line).now=(dX c s line).now:=by
    show aI c (jC c (s.tr++[⟨i,_,x,_⟩])) line=_
    rw [b6x]
    show aI c (jU (jC c s.tr) x) line=_
    rw [hms];rfl
  exact ⟨qX (h.1 line hline).1 (fun _=>rfl) (fun _ _=>rfl) (fun _=>rfl) (fun _=>rfl) (List.Perm.refl _) (List.Perm.refl _) rfl rfl (fun _=>rfl) rfl hN,(h.1 line hline).2⟩
theorem e7z {x:Op3} {w:Int} (h:LT c s) (hl:MaL c n s) (hi:0≤i∧i<c.cores) (hr:cA c s.n 0≠0):LT c (b8v c s i x w):=by
  unfold b8v
  by_cases he:oG c (cI s i) (lS c x) w=0
  · have:=e3p h.1 hl hi hr he
    refine ⟨this,?_⟩
    split<;>exact h.2
  · have hb:mL c (cI s i) (lS c x) w=false:=by unfold mL;exact decide_eq_false (fun g=>he g.1)
    have hk:gQ c (cI s i) (lS c x) w=cI s i:=by unfold gQ;rw [if_neg he]
    rw [hb,hk,b3k];exact h
theorem d6h (h:MaL c n s) (hh:nO (iK s i)=true):uE (j9 (iK s i))=true∧(j9 (iK s i)).addr<fJ c:=by
  by_cases hi:i.toNat<s.ks.length
  · have e:iK s i=s.ks[i.toNat]:=by unfold iK;rw [List.getD_eq_getElem?_getD,List.getElem?_eq_getElem hi];rfl
    have hk:=h.kp _ (List.getElem_mem hi)
    rw [←e] at hk
    have hlt:(iK s i).rs.length≠(iK s i).l.length:=by simpa [nO,uJ] using hh
    have hl:(iK s i).rs.length<(iK s i).l.length:=by omega
    have hm:j9 (iK s i)∈(iK s i).l:=by
      unfold j9 x6
      rw [List.getD_eq_getElem?_getD,List.getElem?_eq_getElem hl]
      exact List.getElem_mem hl
    have:=hk.1
    unfold kS at this
    simp only [Bool.and_eq_true,List.all_eq_true,decide_eq_true_eq] at this
    exact this.1.1 _ hm
  · have e:iK s i=coZ:=by unfold iK;rw [List.getD_eq_getElem?_getD,List.getElem?_eq_none (om)];rfl
    rw [e] at hh;cases hh
theorem e3s {w:Int} (h:LT c s) (hl:MaL c n s) (hi:0≤i∧i<c.cores):LT c (c9 c s i w):=by
  unfold c9
  split
  · rename_i g
    exact ⟨d7f h.1 hl hi g.1 g.2,h.2⟩
  · split
    · exact h
    · rename_i hh
      have hh:nO (iK s i)=true:=by simpa using hh
      split
      · rename_i h4
        split
        · exact e3r h hl hi h4 (d6h hl hh).1 (d6h hl hh).2
        · exact h
      · split
        · exact c3c h hl hi
        · split
          · exact h
          · rename_i hr
            split
            · rename_i he
              exact d4i h hl hi hr he
            · split
              · exact e7z h hl hi hr
              · exact h
theorem d7g {d:Int} (h:LT c s) (hl:MaL c n s) (hi:0≤i∧i<c.cores):LT c (fM c s i d):=by
  unfold fM
  split
  · exact h
  · rename_i g
    split
    · rename_i he
      have hK:LT c (b3s s i (qE (iK s i) d)):=h
      have hM:MaL c n (b3s s i (qE (iK s i) d)):=by
        by_cases hi':i.toNat<s.ks.length
        · have e:iK s i=s.ks[i.toNat]:=by unfold iK;rw [List.getD_eq_getElem?_getD,List.getElem?_eq_getElem hi'];rfl
          have hk:=hl.kp _ (List.getElem_mem hi')
          rw [←e] at hk
          exact hl.setK hk
        · have:b3s s i (qE (iK s i) d)=s:=by unfold b3s;rw [List.set_eq_of_length_le (om)]
          rw [this];exact hl
      exact d4i hK hM hi (fun e=>g (.inr e)) he
    · exact h
end
end
section
section
variable {W:Type}
theorem c9o {v v':LV W} (h:LI v) {o r n:Int} (hs:2≤v.st o)
    (hst:∀ x,v'.st x=if x=o then 0 else v.st x) (hwd:∀ x,v'.st x≠0→v'.wd x=v.wd x) (hms:∀ x,v'.ms x=v.ms x) (hbf:∀ x,v'.bf x=v.bf x) (hrq:v'.rq.Perm v.rq) {Rf:List (AM W)} (hfly0:v.fly.Perm (.fwd 2 o r n::Rf)) (hfly:v'.fly.Perm (.data r 4 n (v.wd o)::Rf)) (hact:v'.act=v.act) (ho:v'.o=v.o) (hsh:∀ x,v'.sh x=v.sh x) (hmem:v'.mem=v.mem) (hnow:v'.now=v.now):LI v':=by
  obtain ⟨qm,cg,cp⟩:=a1o hrq
  obtain ⟨fm,ck,ct,ci,cd⟩:=o7 hfly
  obtain ⟨fm0,ck0,ct0,ci0,cd0⟩:=o7 hfly0
  have hin:=(fm0 _).2 (.inl rfl)
  obtain ⟨k0,r0,m,hac,hr0,hm,hmk,hmn,hmo,hmg,hgot,hct,hcd,hn,hrr⟩:=kD h hin rfl
  simp only [a9l,b9d] at hrr hn
  subst hrr
  have hk0:k0=2:=by rcases (h.aK _ _ hac).1 with e|e<;>subst e<;>first|rfl|(exfalso;have f1:=h.f1 _ hac _ hin;grind)|(exfalso;have f2:=h.f2 _ hac _ hin;grind)
  subst hk0
  have hR:∀ x∈Rf,bQ x=false:=fun x hx=>by have:=List.countP_eq_zero.1 (by have:=ct0;simp only [bQ] at this;grind:Rf.countP bQ=0) x hx;simpa using this
  have hbu:∀ x,v'.busy x↔v.busy x:=fun x=>by unfold LV.busy;rw [hact];grind [cH]
  have hmr:=h.ml r m hm hmo
  have hbn:v.bf r=none:=by cases e:v.bf r with|none=>rfl|some x=>(have:=(h.b1 r x.1 x.2 e).2.2;rw [hm] at this;cases this)
  have htf:=h.tf _ _ _ _ hin
  obtain ⟨t1,t2,t3,t4,t5⟩:=htf
  have hun:=fun d=>tW h (c:=o) (d:=d) hs
  have hw:=h.wn o (om)
  have hho:∀ x,x≠o→(v.holds x↔v'.holds x):=fun x hx=>by unfold LV.holds;rw [hst,hbf,cp];grind
  refine { bl:=?zbl}
  case zbl=>
    intro r1 w1 h1 h2
    have:=h.bl r1 w1
    have:=h.b1 r1 w1 true;exact bP
theorem c9p {v v':LV W} (h:LI v) {o r n:Int} {w:W} (hs:v.st o<2) (hb:v.bf o=some (w,true))
    (hst:∀ x,v'.st x=v.st x) (hwd:∀ x,v'.st x≠0→v'.wd x=v.wd x) (hms:∀ x,v'.ms x=v.ms x) (hbf:∀ x,v'.bf x=if x=o then some (w,false) else v.bf x) (hrq:v'.rq.Perm v.rq) {Rf:List (AM W)} (hfly0:v.fly.Perm (.fwd 2 o r n::Rf)) (hfly:v'.fly.Perm (.data r 4 n w::Rf)) (hact:v'.act=v.act) (ho:v'.o=v.o) (hsh:∀ x,v'.sh x=v.sh x) (hmem:v'.mem=v.mem) (hnow:v'.now=v.now):LI v':=by
  obtain ⟨qm,cg,cp⟩:=a1o hrq
  obtain ⟨fm,ck,ct,ci,cd⟩:=o7 hfly
  obtain ⟨fm0,ck0,ct0,ci0,cd0⟩:=o7 hfly0
  have hin:=(fm0 _).2 (.inl rfl)
  obtain ⟨k0,r0,m,hac,hr0,hm,hmk,hmn,hmo,hmg,hgot,hct,hcd,hn,hrr⟩:=kD h hin rfl
  simp only [a9l,b9d] at hrr hn
  subst hrr
  have hk0:k0=2:=by rcases (h.aK _ _ hac).1 with e|e<;>subst e<;>first|rfl|(exfalso;have f1:=h.f1 _ hac _ hin;grind)|(exfalso;have f2:=h.f2 _ hac _ hin;grind)
  subst hk0
  have hR:∀ x∈Rf,bQ x=false:=fun x hx=>by have:=List.countP_eq_zero.1 (by have:=ct0;simp only [bQ] at this;grind:Rf.countP bQ=0) x hx;simpa using this
  have hbu:∀ x,v'.busy x↔v.busy x:=fun x=>by unfold LV.busy;rw [hact];grind [cH]
  have hmr:=h.ml r m hm hmo
  have hbn:v.bf r=none:=by cases e:v.bf r with|none=>rfl|some x=>(have:=(h.b1 r x.1 x.2 e).2.2;rw [hm] at this;cases this)
  have htf:=h.tf _ _ _ _ hin
  obtain ⟨t1,t2,t3,t4,t5⟩:=htf
  have hcp:v.cp o=1:=by unfold LV.holds at t3;grind
  have hw:=h.bl o w hb hcp
  have hun:=fun d (hd:2≤v.st d)=>tW h (c:=d) (d:=o) hd (.inr ⟨w,hb,hcp⟩)
  have hho:∀ x,x≠o→(v.holds x↔v'.holds x):=fun x hx=>by unfold LV.holds;rw [hst,hbf,cp];grind
  refine { b1:=?zb1,k:=?zk}
  case zb1=>
    intro r1 w1 l1 h1
    have:=h.b1 r1 w1 l1
    have:=h.b1 r1 w1 true;exact bP
  case zk=>
    intro c1 h1
    have:=h.k c1
    have:=h.b1 o w true hb;exact bP
theorem d7h {v v':LV W} (h:LI v) {c r:Int} (hs:v.st c=1)
    (hst:∀ x,v'.st x=if x=c then 0 else v.st x) (hwd:∀ x,v'.st x≠0→v'.wd x=v.wd x) (hms:∀ x,v'.ms x=v.ms x) (hbf:∀ x,v'.bf x=v.bf x) (hrq:v'.rq.Perm v.rq) {Rf:List (AM W)} (hfly0:v.fly.Perm (.inv c r::Rf)) (hfly:v'.fly.Perm (.ack r::Rf)) (hact:v'.act=v.act) (ho:v'.o=v.o) (hsh:∀ x,v'.sh x=v.sh x) (hmem:v'.mem=v.mem) (hnow:v'.now=v.now):LI v':=by
  obtain ⟨qm,cg,cp⟩:=a1o hrq
  obtain ⟨fm,ck,ct,ci,cd⟩:=o7 hfly
  obtain ⟨fm0,ck0,ct0,ci0,cd0⟩:=o7 hfly0
  have hin:=(fm0 _).2 (.inl rfl)
  have hiv:=h.iv _ _ hin
  have hac:v.act=some (2,r):=by cases e:v.act with|none=>(have:=h.f0 e _ hin;grind)|some a=>(have:=h.aK a.1 a.2 e;have:=h.f1 a.2;have:=h.f2 a.2;grind)
  have hbu:∀ x,v'.busy x↔v.busy x:=fun x=>by unfold LV.busy;rw [hact];grind [cH]
  have hho:∀ x,v.holds x↔v'.holds x:=fun x=>by unfold LV.holds;rw [hst,hbf,cp];grind
  constructor
  case rqk=>intro x hx;have:=h.rqk x;exact bP
  case g0=>intro r1 h1;have:=h.g0 r1;exact bP
  case g1=>intro r1 m1 h1 h2;have:=h.g1 r1 m1;exact bP
  case gk=>intro k1 r1 h1;have:=h.gk k1 r1;exact bP
  case gA=>intro r1 h1;have:=h.gA r1;exact bP
  case aK=>intro k1 r1 h1;have:=h.aK k1 r1;exact bP
  case mK=>intro r1 m1 h1;have:=h.mK r1 m1;exact bP
  case ml=>intro r1 m1 h1 h2;have:=h.ml r1 m1;exact bP
  case b0=>intro r1 h1;have:=h.b0 r1;exact bP
  case b1=>intro r1 w1 l1 h1;have:=h.b1 r1 w1 l1;exact bP
  case bw=>intro r1 w1 h1;have:=h.bw r1 w1;exact bP
  case bl=>intro r1 w1 h1 h2;have:=h.bl r1 w1;exact bP
  case f0=>intro h1 x hx;have:=h.f0;exact bP
  case f1=>intro r1 h1 x hx;have:=h.f1 r1;exact bP
  case f2=>intro r1 h1 x hx;have:=h.f2 r1;exact bP
  case p=>intro k1 r1 h1;have:=h.p k1 r1;exact bP
  case a2=>intro r1 h1;have:=h.a2 r1;exact bP
  case tf=>intro k1 o1 r1 n1 h1;have:=h.tf k1 o1 r1 n1;exact bP
  case td=>intro r1 own1 n1 w1 h1;have:=h.td r1 own1 n1 w1;exact bP
  case tg=>intro r1 n1 h1;have:=h.tg r1 n1;exact bP
  case iv=>intro c1 r1 h1;have:=h.iv c1 r1;exact bP
  case e=>intro c1 h1;have:=h.e c1;exact bP
  case h=>intro h1;have:=h.h;exact bP
  case s=>intro c1 h1 c2 h2;have:=h.s c1;exact bP
  case wn=>intro c1 h1;have:=h.wn c1;exact bP
  case mn=>intro h1;have:=h.mn;exact bP
  case k=>intro c1 h1;have:=h.k c1;exact bP
  case r=>intro c1;have:=h.r c1;exact bP
  case rg=>intro c1 h1;have:=h.rg c1;exact bP
theorem d7i {v v':LV W} (h:LI v) {c r:Int} (hs:v.st c≠1)
    (hst:∀ x,v'.st x=v.st x) (hwd:∀ x,v'.st x≠0→v'.wd x=v.wd x) (hms:∀ x,v'.ms x=v.ms x) (hbf:∀ x,v'.bf x=v.bf x) (hrq:v'.rq.Perm v.rq) {Rf:List (AM W)} (hfly0:v.fly.Perm (.inv c r::Rf)) (hfly:v'.fly.Perm (.ack r::Rf)) (hact:v'.act=v.act) (ho:v'.o=v.o) (hsh:∀ x,v'.sh x=v.sh x) (hmem:v'.mem=v.mem) (hnow:v'.now=v.now):LI v':=by
  obtain ⟨qm,cg,cp⟩:=a1o hrq
  obtain ⟨fm,ck,ct,ci,cd⟩:=o7 hfly
  obtain ⟨fm0,ck0,ct0,ci0,cd0⟩:=o7 hfly0
  have hin:=(fm0 _).2 (.inl rfl)
  have hiv:=h.iv _ _ hin
  have hac:v.act=some (2,r):=by cases e:v.act with|none=>(have:=h.f0 e _ hin;grind)|some a=>(have:=h.aK a.1 a.2 e;have:=h.f1 a.2;have:=h.f2 a.2;grind)
  have hbu:∀ x,v'.busy x↔v.busy x:=fun x=>by unfold LV.busy;rw [hact];grind [cH]
  have hho:∀ x,v.holds x↔v'.holds x:=fun x=>by unfold LV.holds;rw [hst,hbf,cp]
  refine { k:=?zk}
  case zk=>
    intro c1 h1
    have:=h.k c1
    have:=h.r c1;exact bP
end
end
section
section
variable {c:Cfg} {n:Nat} {s:MaS} {line j k:Int}
theorem lH (hb:jN s.n k j=true) (hk:k=1∨k=2) :
    (dX c s line).rq.Perm (e6g line (aL s.n k j) (aO c s line).q)∧(dX c s line).fly.Perm (if (bD s.n k j).line=line then pW (bD s.n k j)::rQ line (aL s.n k j) (aO c s line).q else rQ line (aL s.n k j) (aO c s line).q):=by
  have hh:tU k=true:=by unfold tU;exact decide_eq_true (om)
  have h1:=b8n (line:=line) (q:=(aO c s line).q) hb hh
  have h2:=c8a (line:=line) (q:=(aO c s line).q) hb hh
  rw [if_neg (om)] at h1
  refine ⟨h1,?_⟩
  by_cases hl:(bD s.n k j).line=line
  · rw [if_pos hl];rw [if_pos ⟨hl,om⟩] at h2;exact h2
  · rw [if_neg hl];rw [if_neg (fun g=>hl g.1)] at h2;exact h2
theorem a9q:cA c (aL s.n 1 j) 2=cA c s.n 2:=rfl
theorem a9r {m:Msg} (hm:d6 c m) (hk:m.kind=4∨m.kind=5∨m.kind=6):(0≤m.dst∧m.dst<c.cores)∧(0≤m.who∧m.who<c.cores)∧m.who≠m.dst∧0≤m.acks∧m.acks<c.cores∧aP c m.line=true:=by
  obtain ⟨g1,g2,g3,g4,g5⟩:=hm
  have hcb:=g1
  simp only [aF,fI,Bool.and_eq_true,decide_eq_true_eq] at hcb
  have hl:aP c m.line=true:=by unfold aP;rw [g1,decide_eq_true g3];rfl
  unfold jD at g4
  rw [if_neg (by unfold cE;omega)] at g4
  rcases hk with hk|hk|hk
  · rw [if_pos (.inl hk)] at g4
    obtain ⟨a1,a2,_,a3,_,_,a4,a5⟩:=g4
    exact ⟨a3,a1,a2,a4,by simp at a5;omega,hl⟩
  · rw [if_neg (om),if_pos hk] at g4
    obtain ⟨a1,a2,_,a3,_,_,a4,a5⟩:=g4
    exact ⟨a3,a1,a2,a4,by simpa using a5,hl⟩
  · rw [if_pos (.inr hk)] at g4
    obtain ⟨a1,a2,_,a3,_,_,a4,a5⟩:=g4
    exact ⟨a3,a1,a2,a4,by simp at a5;omega,hl⟩
theorem wN {m:Msg} (hm:d6 c m) (hk:4≤m.kind∧m.kind≤10):l9 c m.dst m=true:=by
  unfold l9
  rw [decide_eq_true hm,decide_eq_false (by unfold cE;omega),decide_eq_true rfl];rfl
theorem c3d {m:Msg} {kd st own:Int} {g:Bool} (h:c1s c s) (hl:MaL c n s) (hb:jN s.n 1 j=true) (h2:cA c s.n 2≠0) (hm:bD s.n 1 j=m) (hk:(m.kind=4∧kd=1∧st=3∧own=1∧g=false)∨(m.kind=5∧kd=2∧st=0∧own=4∧g=true)) :
    bI c m.dst (cI s m.dst) m=0∧c1s c (dN c (gI s (aL s.n 1 j)) m):=by
  have hmay:=(hl.nt 1 _ (d8 hb)).1
  rw [hm] at hmay
  obtain ⟨hd,hw,hwd,ha0,ha1,hlok⟩:=a9r hmay (om)
  obtain ⟨f1,f2⟩:=lH (c:=c) (line:=m.line) hb (.inl rfl)
  rw [hm,if_pos rfl] at f2
  have hA:pW m= .fwd kd m.dst m.who m.acks:=by
    unfold pW
    rcases hk with ⟨a,rfl,_⟩|⟨a,rfl,_⟩<;>rw [if_neg (om),if_neg (om)]
    · rw [if_pos a]
    · rw [if_neg (om),if_pos a]
  rw [hA] at f2
  obtain ⟨hLI,hNF⟩:=h _ hlok
  obtain ⟨v1,v2,v3,v4⟩:=d7e (c:=c) (s:=s) (line:=m.line) hd.1
  obtain ⟨_,_,hho,_,_⟩:=hLI.tf kd m.dst m.who m.acks (f2.mem_iff.2 (List.mem_cons_self ..))
  have hT:gS c (cI s m.dst) m.line=0:=by
    unfold gS
    by_cases h2':2≤(aT c (cI s m.dst).ways m.line).st
    · rw [if_pos h2']
    · rw [if_neg h2']
      rcases hho with g1|⟨w,g1,_⟩
      · rw [v1] at g1;exact absurd g1 h2'
      · rw [v4] at g1
        unfold b2f at g1
        cases e:fk d6a (cI s m.dst).buf m.line with
        |none=>rw [e] at g1;cases g1
        |some x=>
         rw [e] at g1
         obtain ⟨b1,b2⟩:=e9i e
         have b3:x.live=true:=by simp at g1;exact g1.2
         unfold kJ
         rw [if_pos b1,b2,if_pos b3,if_pos rfl]
  have hok:=wN hmay (om)
  have hE:bI c m.dst (cI s m.dst) m=0:=by unfold bI;rw [if_pos hok,if_pos (om),hT]
  have hK:bH c m.dst (cI s m.dst) m=dS c (cI s m.dst) m.line st g:=by
    unfold bH
    rw [if_pos hok]
    rcases hk with ⟨a,_,rfl,_,rfl⟩|⟨a,_,rfl,_,rfl⟩
    · rw [if_pos a]
    · rw [if_neg (om),if_pos a]
  have hM:gT c m.dst (cI s m.dst) m=⟨7,m.line,m.dst,m.who,1,m.acks,own,lK c (cI s m.dst) m.line⟩:=by
    unfold gT lL
    rw [if_pos hok,if_pos hT,if_pos hT]
    rcases hk with ⟨a,_,_,rfl,_⟩|⟨a,_,_,rfl,_⟩
    · rw [if_pos a]
    · rw [if_neg (om),if_pos a]
  have hB:dK c m.dst (cI s m.dst) m=true:=by unfold dK;exact decide_eq_true ⟨hE,om,om⟩
  refine ⟨hE,?_⟩
  have hS:dN c (gI s (aL s.n 1 j)) m=d9 c (qD (dW (gI s (aL s.n 1 j)) m.dst (dS c (cI s m.dst) m.line st g)) (decide (bI c m.dst (cI s m.dst) m≠0))) ⟨7,m.line,m.dst,m.who,1,m.acks,own,lK c (cI s m.dst) m.line⟩:=by
    unfold dN
    show (if dK c m.dst (cI s m.dst) m=true then d9 c (qD (dW (gI s (aL s.n 1 j)) m.dst (bH c m.dst (cI s m.dst) m)) (decide (bI c m.dst (cI s m.dst) m≠0))) (gT c m.dst (cI s m.dst) m) else _)=_
    rw [if_pos hB,hK,hM]
  rw [hS]
  have hst4:0≤st∧st≤4:=by omega
  have hcase:=e1e (st:=st) (g:=g) (hl.cai m.dst) hst4 hT
  have hcl:=qI hl hd
  have hwv:bJ c (lK c (cI s m.dst) m.line):=by
    unfold lK
    split
    · exact zD (hl.cai m.dst).2.2.1
    · unfold lP
      split
      · exact d5d (hl.cai m.dst).2.2.2.2
      · exact dP c
  generalize lK c (cI s m.dst) m.line=W at *
  have hD:d6 c ⟨7,m.line,m.dst,m.who,1,m.acks,own,W⟩:=by
    refine ⟨hl.ok,⟨by show (1:Int)≤7;decide,by show (7:Int)≤11;decide⟩,hmay.2.2.1,?_,?_⟩
    · unfold jD
      rw [if_neg (by unfold cE;simp),if_neg (by simp),if_neg (by simp),if_pos rfl]
      exact ⟨by show own=1∨own=2∨own=4;omega,⟨ha0,ha1⟩,hw,.inr ⟨rfl,hd,fun e=>hwd e.symm⟩⟩
    · unfold iD
      rw [if_pos (show gK 7 from .inr rfl)]
      exact hwv
  have hroom:0<cA c (aL s.n 1 j) (dJ (⟨7,m.line,m.dst,m.who,1,m.acks,own,W⟩:Msg).kind):=by
    show 0<cA c (aL s.n 1 j) 2
    rw [a9q]
    have:=b3l hl (k:=2) rfl
    omega
  have hA2:pW ⟨7,m.line,m.dst,m.who,1,m.acks,own,W⟩= .data m.who own m.acks W:=rfl
  generalize hs':d9 c (qD (dW (gI s (aL s.n 1 j)) m.dst (dS c (cI s m.dst) m.line st g)) (decide (bI c m.dst (cI s m.dst) m≠0))) ⟨7,m.line,m.dst,m.who,1,m.acks,own,W⟩=s'
  have hcs:s'.cs=(dW s m.dst (dS c (cI s m.dst) m.line st g)).cs:=by rw [←hs'];rfl
  have hhs:s'.hs=s.hs:=by rw [←hs'];rfl
  have htr:s'.tr=s.tr:=by rw [←hs'];rfl
  have hns:s'.n=gH c (aL s.n 1 j) ⟨7,m.line,m.dst,m.who,1,m.acks,own,W⟩:=by rw [←hs'];rfl
  intro line hline
  have hH:aO c s' line=aO c s line:=by unfold aO dH;rw [hhs]
  obtain ⟨q1,q2⟩:=lH (c:=c) (line:=line) hb (.inl rfl)
  rw [hm] at q2
  have hq:(dX c s' line).rq.Perm (dX c s line).rq:=by
    have:=vS (line:=line) (q:=(aO c s line).q) hD hroom
    rw [if_neg (fun g=>by cases g.2)] at this
    show (e6g line s'.n (aO c s' line).q).Perm _
    rw [hns,hH]
    exact this.trans q1.symm
  have hf:(dX c s' line).fly.Perm (if m.line=line then .data m.who own m.acks W::rQ line (aL s.n 1 j) (aO c s line).q else rQ line (aL s.n 1 j) (aO c s line).q):=by
    have:=rR (line:=line) (q:=(aO c s line).q) hD hroom
    rw [hA2] at this
    show (rQ line s'.n (aO c s' line).q).Perm _
    rw [hns,hH]
    refine this.trans ?_
    by_cases hL:m.line=line
    · rw [if_pos hL,if_pos ⟨hL,by show (2:Int)≠0;decide⟩]
    · rw [if_neg hL,if_neg (fun g=>hL g.1)]
  obtain ⟨u1,u2,u3,u4⟩:=d7e (c:=c) (s:=s) (line:=line) hd.1
  have hnow:aI c (jC c s'.tr) line=aI c (jC c s.tr) line:=by rw [htr]
  by_cases hL:m.line=line
  · subst hL
    rw [if_pos rfl] at hf
    have e1:(dX c s' m.line).act=(dX c s m.line).act:=by show gX _ (aO c s' _).q=_;rw [hH];rfl
    have e2:(dX c s' m.line).o=(dX c s m.line).o:=by show (aJ (aO c s' _) _).o=_;rw [hH];rfl
    have e3:∀ x,(dX c s' m.line).sh x=(dX c s m.line).sh x:=fun x=>by show bN (aJ (aO c s' _) _).s x=_;rw [hH];rfl
    have e4:(dX c s' m.line).mem=(dX c s m.line).mem:=by show aI c (aO c s' _).ms _=_;rw [hH];rfl
    rcases hcase with ⟨c1,c2,ev⟩|⟨c1,c2,ev⟩
    · have hp:=vZ (c:=c) (s:=s) (s':=s') (line:=m.line) hd.1 hcl hcs ev
      rw [if_pos rfl] at hp
      have hms:=dE hp.ms v3.symm
      have hwd':∀ x,(dX c s' m.line).st x≠0→(dX c s' m.line).wd x=(dX c s m.line).wd x:=fun x hx=>by
        refine (hp.wd x hx).trans ?_
        split
        · rename_i g;rw [g,v2]
        · rfl
      have hWd:W=(dX c s m.line).wd m.dst:=by rw [v2];exact c2
      rw [hWd] at hf
      refine ⟨?_,fun r m' hm' hn=>hNF r m' (by rw [←hms];exact hm') hn⟩
      rcases hk with ⟨_,rfl,rfl,rfl,rfl⟩|⟨_,rfl,rfl,rfl,rfl⟩
      · exact d3c hLI (by rw [v1];exact c1) hp.st hwd' hms (dE hp.bf v4.symm) hq f2 hf e1 e2 e3 e4 hnow
      · exact c9o hLI (by rw [v1];exact c1) hp.st hwd' hms (dE hp.bf v4.symm) hq f2 hf e1 e2 e3 e4 hnow
    · have hp:=vZ (c:=c) (s:=s) (s':=s') (line:=m.line) hd.1 hcl hcs ev
      have hms:=dE hp.ms v3.symm
      have hst:=dE hp.st v1.symm
      have hwd':∀ x,(dX c s' m.line).st x≠0→(dX c s' m.line).wd x=(dX c s m.line).wd x:=fun x hx=>by
        refine (hp.wd x hx).trans ?_
        split
        · rename_i g;rw [g,v2]
        · rfl
      refine ⟨?_,fun r m' hm' hn=>hNF r m' (by rw [←hms];exact hm') hn⟩
      rcases hk with ⟨_,rfl,rfl,rfl,rfl⟩|⟨_,rfl,rfl,rfl,rfl⟩
      · have hbf:=hp.bf
        rw [if_neg (by simp)] at hbf
        exact d3d hLI (by rw [v1];exact c1) (by rw [v4];exact c2) hst hwd' hms (dE hbf v4.symm) hq f2 hf e1 e2 e3 e4 hnow
      · have hbf:=hp.bf
        rw [if_pos ⟨rfl,rfl⟩] at hbf
        exact c9p hLI (by rw [v1];exact c1) (by rw [v4];exact c2) hst hwd' hms hbf hq f2 hf e1 e2 e3 e4 hnow
  · rw [if_neg hL] at hf q2
    rcases hcase with ⟨c1,c2,ev⟩|⟨c1,c2,ev⟩
    · have hp:=vZ (c:=c) (s:=s) (s':=s') (line:=line) hd.1 hcl hcs ev
      rw [if_neg (Ne.symm hL)] at hp
      exact nR hd.1 hp rfl rfl rfl rfl hhs hnow hq (hf.trans q2.symm) (h _ hline)
    · have hp:=vZ (c:=c) (s:=s) (s':=s') (line:=line) hd.1 hcl hcs ev
      rw [if_neg (fun g=>hL g.1.symm)] at hp
      exact nR hd.1 hp rfl rfl rfl rfl hhs hnow hq (hf.trans q2.symm) (h _ hline)
end
end
section
theorem e3t {W:Type} {v:LV W} (h1:∀ x,v.st x=0) (h2:∀ x,v.ms x=none) (h3:∀ x,v.bf x=none) (h4:v.rq=[]) (h5:v.fly=[]) (h6:v.act=none) (h7:v.o= -1) (h8:v.mem=v.now):LI v:=by
  constructor<;>intros<;>first|grind [LV.cg,LV.cp,LV.ck,LV.ct,LV.ci,LV.cd,LV.busy,LV.holds]
section
variable {c:Cfg} {n:Nat} {s:MaS} {line:Int}
theorem c1y (m:Nat) (line:Int):vw c (List.replicate m .zero) line=none:=by
  cases e:vw c (List.replicate m .zero) line with
  |none=>rfl
  |some w=>
   obtain ⟨_,h2,h3,_⟩:=a5l e
   obtain ⟨_,rfl⟩:=List.mem_replicate.1 h3
   cases h2
theorem e3u {ps:List (List Op3)} (r:Int):eV (cW c ps) r=uO c∨eV (cW c ps) r=caZ:=by
  unfold eV cI
  split
  · show (ps.map fun _=>uO c).getD r.toNat caZ=_∨(ps.map fun _=>uO c).getD r.toNat caZ=_
    rw [List.getD_eq_getElem?_getD,List.getElem?_map]
    cases ps[r.toNat]? with
    |none=>exact .inr rfl
    |some _=>exact .inl rfl
  · exact .inr rfl
theorem uY {ps:List (List Op3)} (r:Int):y7 c (eV (cW c ps) r) line=0∧a1h (eV (cW c ps) r) line=none∧b2f (eV (cW c ps) r) line=none:=by
  rcases e3u (c:=c) (ps:=ps) r with h|h
  · rw [h]
    refine ⟨?_,rfl,rfl⟩
    unfold y7
    rw [qN,c1y];rfl
  · rw [h]
    refine ⟨?_,rfl,rfl⟩
    unfold y7
    have:caZ.ways=List.replicate 0 .zero:=rfl
    rw [this,qN,c1y];rfl
theorem c9q {ps:List (List Op3)} (hc:aF c=true) (hl:aP c line=true):aO c (cW c ps) line=qB c (dA c line)∧zY c (dA c line)=true∧c0x c (dA c line) line:=by
  have hb:=(iE hc).2.1
  have hl':=hl
  unfold aP at hl'
  simp only [Bool.and_eq_true,decide_eq_true_eq] at hl'
  have eH:dA c line=line % c.homes:=by unfold dA;rw [if_pos hl]
  have h0:=Int.emod_nonneg line (show c.homes≠0 by omega)
  have h1:=Int.emod_lt_of_pos line (show 0<c.homes by omega)
  rw [←eH] at h0 h1
  refine ⟨?_,by unfold zY;rw [hc,decide_eq_true ⟨h0,h1⟩];rfl,hl'.2.1,hl'.2.2,eH.symm⟩
  unfold aO dH
  show ((List.range c.homes.toNat).map fun (i:Nat)=>qB c (i:Int)).getD (dA c line).toNat zA=_
  rw [List.getD_eq_getElem?_getD,List.getElem?_map,List.getElem?_range (om)]
  show qB c (((dA c line).toNat:Nat):Int)=_
  rw [show (((dA c line).toNat:Nat):Int)=dA c line by omega]
theorem e3v {ps:List (List Op3)} (hc:aF c=true):LT c (cW c ps):=by
  refine ⟨fun line hline=>?_,fun j x hx=>by cases hx⟩
  obtain ⟨h1,h2,h3⟩:=c9q (ps:=ps) hc hline
  have hE:aJ (qB c (dA c line)) line=a6t c:=by
    unfold aJ
    show (fQ (d6f c (iO c (dA c line))) line).getD .no=_
    rw [a7x,if_pos ((a1k h2 line).2 h3)];rfl
  have hms:∀ x,(dX c (cW c ps) line).ms x=none:=fun x=>(uY x).2.1
  refine ⟨e3t (fun x=>(uY x).1) hms (fun x=>(uY x).2.2) ?_ ?_ ?_ ?_ ?_,fun r m hm _=>by rw [hms] at hm;cases hm⟩
  · show e6g line _ (aO c (cW c ps) line).q=[]
    rw [h1];rfl
  · show rQ line _ (aO c (cW c ps) line).q=[]
    rw [h1];rfl
  · show gX line (aO c (cW c ps) line).q=none
    rw [h1];rfl
  · show (aJ (aO c (cW c ps) line) line).o= -1
    rw [h1,hE];rfl
  · show aI c (aO c (cW c ps) line).ms line=aI c (jC c []) line
    rw [h1];rfl
end
end
end Go.Sx
