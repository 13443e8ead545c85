/- MaK, MaS, MaU, MaTn, MaR, MaH: several of my texts as one. My own work. -/
import Derived.Test.YtjihlpjnebdiiaaGreatZaq
set_option linter.unusedVariables false
set_option linter.unusedSectionVars false
set_option linter.unusedSimpArgs false
set_option maxRecDepth 100000
set_option maxHeartbeats 4000000
namespace Go.Sx
open Go Go.Proofs
section
section
variable {c:Cfg} {n:Nat} {s:MaS} {line j:Int}
theorem zE {A B:List QE} {e:QE} (x:Int):oP x (A++e::B)=oP x A++((if e.m.line=x then e.sends else [])++oP x B):=by rw [a8q,a5z]
theorem d9d {A B:List QE} {e e':QE} (x:Int) (h1:e'.m=e.m) (h2:e'.st=e.st):gX x (A++e'::B)=gX x (A++e::B):=by
  unfold gX
  rw [List.find?_append,List.find?_append,List.find?_cons,List.find?_cons,h1,h2]
  cases List.find? (fun e=>decide (e.m.line=x)&& e.st&& !decide (e.m.kind=3)) A with
  |some y=>rfl
  |none=>
   dsimp only [Option.none_or]
   split
   · simp [h1]
   · rfl
theorem e5b {q:List QE} {i:Nat} {y:Msg} {r:List Msg} (hQ:a1p q) (hi:i<q.length) (hs:q[i].sends=y::r) (x:Int) :
    oC x (cS q i)=oC x q∧(oP x q).Perm (if q[i].m.line=x then y::oP x (cS q i) else oP x (cS q i))∧gX x (cS q i)=gX x q:=by
  have hst:q[i].st=true:=by
    cases e:q[i].st with
    |true=>rfl
    |false=>have:=hQ.2 _ (List.getElem_mem hi) e;rw [hs] at this;cases this
  have hin:b2d q (i:Int)=true:=by unfold b2d;exact decide_eq_true (om)
  have hat:a3t q (i:Int)=q[i]:=by unfold a3t;rw [if_pos hin,Int.toNat_natCast,List.getD_eq_getElem?_getD,List.getElem?_eq_getElem hi];rfl
  have hE:lY q (i:Int)=0:=by unfold lY;rw [if_pos hin,hat,hs,if_neg (by simp)]
  obtain ⟨e,e2,e3⟩:=d6l hi
  have eC:oC x q=oC x (q.take i++q[i]::q.drop (i+1)):=congrArg (oC x) e
  have eP:oP x q=oP x (q.take i++q[i]::q.drop (i+1)):=congrArg (oP x) e
  have eA:gX x q=gX x (q.take i++q[i]::q.drop (i+1)):=congrArg (gX x) e
  unfold cS
  rw [if_pos hE,hat,Int.toNat_natCast]
  by_cases h3:q[i].sends.length=1∧q[i].m.kind=3
  · rw [if_pos h3,e3]
    have hr:r=[]:=by have:=h3.1;rw [hs] at this;simpa using this
    refine ⟨?_,?_,?_⟩
    · rw [eC,qK,qK,nY,if_neg (fun g=>by rw [hst] at g;cases g.2)];rfl
    · rw [eP,zE,a8q,hs,hr]
      by_cases hx:q[i].m.line=x
      · rw [if_pos hx,if_pos hx];exact List.perm_middle
      · rw [if_neg hx,if_neg hx];exact List.Perm.refl _
    · rw [eA]
      unfold gX
      rw [List.find?_append,List.find?_append,List.find?_cons_of_neg (by simp [h3.2])]
  · rw [if_neg h3,e2]
    refine ⟨?_,?_,?_⟩
    · rw [eC,qK,qK,nY,nY,if_neg (fun g=>by rw [hst] at g;cases g.2)]
    · rw [eP,zE,zE,hs]
      by_cases hx:q[i].m.line=x
      · rw [if_pos hx,if_pos hx,if_pos hx];exact List.perm_middle
      · rw [if_neg hx,if_neg hx,if_neg hx]
    · rw [eA];exact d9d x rfl rfl
theorem d9e {d:Int} (h:LT c s) (hl:MaL c n s) (hf:wP c s) (hd:0≤d∧d<c.homes) (hr:eJ (dH s d).q j=false) (hg:i5 (dH s d) j (d6p c s)=true):LT c (dG c s d j):=by
  have hF:=zC hf hl hd
  have hI:=(hl.hmi hd.1 hd.2).1
  have hg0:=hg
  unfold i5 at hg
  rw [Bool.and_eq_true,decide_eq_true_eq] at hg
  obtain ⟨hn,hroom⟩:=hg
  have hn0:=hn
  unfold lX at hn
  rw [Bool.and_eq_true,decide_eq_true_eq] at hn
  obtain ⟨hin,hlen⟩:=hn
  have hin':=of_decide_eq_true (show decide (0≤j∧j<((dH s d).q.length:Int))=true from hin)
  obtain ⟨i,rfl⟩:∃ i:Nat,j=i:=⟨j.toNat,om⟩
  have hi:i<(dH s d).q.length:=by omega
  have hat:a3t (dH s d).q (i:Int)=(dH s d).q[i]:=by unfold a3t;rw [if_pos hin,Int.toNat_natCast,List.getD_eq_getElem?_getD,List.getElem?_eq_getElem hi];rfl
  rw [hat] at hlen
  obtain ⟨y,r,hs⟩:∃ y r,(dH s d).q[i].sends=y::r:=by
    cases e:(dH s d).q[i].sends with
    |nil=>rw [e] at hlen;exact absurd rfl hlen
    |cons y r=>exact ⟨y,r,rfl⟩
  have hM:iL (dH s d).q (i:Int)=y:=by unfold iL;rw [if_pos hn0,hat,hs];rfl
  rw [hM] at hroom
  have hy:y∈(dH s d).q[i].sends:=by rw [hs];exact List.mem_cons_self ..
  have hmay:=hF.sm _ (List.getElem_mem hi) y hy
  have hsn:=hI.snd _ (List.getElem_mem hi) y hy
  have hnk:dJ y.kind≠0:=by
    unfold dJ
    rw [if_neg (om)]
    split
    · omega
    · split<;>omega
  have hrm:0<cA c s.n (dJ y.kind):=by
    unfold e2w d6p at hroom
    rcases a7s hmay with g|g|g
    · exact absurd g hnk
    · rw [g] at hroom ⊢;exact hroom
    · rw [g] at hroom ⊢;exact hroom
  have hS:dG c s d (i:Int)=d9 c (dI s d { dH s d with q:=cS (dH s d).q i}) y:=by
    unfold dG d7 bY fU
    rw [hr,hg0]
    simp only [Bool.false_eq_true,if_false,if_true]
    rw [hM]
  rw [hS]
  refine ⟨fun line hline=>?_,h.2⟩
  obtain ⟨hLI,hNF⟩:=h.1 line hline
  have hH:aO c (d9 c (dI s d { dH s d with q:=cS (dH s d).q i}) y) line=if dA c line=d then { dH s d with q:=cS (dH s d).q i} else aO c s line:=a9b (x:={ dH s d with q:=cS (dH s d).q i}) hl hd hline
  have hown:=(jI hl.ok (hI.req _ (List.getElem_mem hi))).2.2.1
  have hlok:aP c y.line=true:=wO hmay
  have hlh:dA c y.line=d:=by
    unfold dA
    rw [if_pos hlok,hsn.2.1];exact hown.2.2
  generalize hs':d9 c (dI s d { dH s d with q:=cS (dH s d).q i}) y=s' at *
  have hcs:s'.cs=s.cs:=by rw [←hs'];rfl
  have htr:s'.tr=s.tr:=by rw [←hs'];rfl
  have hns:s'.n=gH c s.n y:=by rw [←hs'];rfl
  have key:(aO c s' line).es=(aO c s line).es∧(aO c s' line).ms=(aO c s line).ms∧oC line (aO c s' line).q=oC line (aO c s line).q∧(oP line (aO c s line).q).Perm (if y.line=line then y::oP line (aO c s' line).q else oP line (aO c s' line).q)∧gX line (aO c s' line).q=gX line (aO c s line).q:=by
    rw [hH]
    by_cases hL:dA c line=d
    · rw [if_pos hL]
      have e:aO c s line=dH s d:=by unfold aO;rw [hL]
      obtain ⟨f1,f2,f3⟩:=e5b hF.q hi hs line
      rw [←hsn.2.1] at f2
      rw [e]
      exact ⟨rfl,rfl,f1,f2,f3⟩
    · rw [if_neg hL,if_neg (fun g=>hL (by rw [←g];exact hlh))]
      exact ⟨rfl,rfl,rfl,List.Perm.refl _,rfl⟩
  obtain ⟨k1,k2,k3,k4,k5⟩:=key
  have hca:∀ r,eV s' r=eV s r:=fun r=>by unfold eV cI;rw [hcs]
  have hent:aJ (aO c s' line) line=aJ (aO c s line) line:=by unfold aJ;rw [k1]
  have hms:∀ r,(dX c s' line).ms r=(dX c s line).ms r:=fun r=>by show a1h (eV s' r) line=_;rw [hca];rfl
  have hq1:=vS (line:=line) (n:=s.n) (q:=(aO c s' line).q) hmay hrm
  have hf1:=rR (line:=line) (n:=s.n) (q:=(aO c s' line).q) hmay hrm
  rw [if_neg (fun g=>hnk g.2)] at hq1
  have hfl:(dX c s line).fly.Perm (if y.line=line then pW y::rQ line s.n (aO c s' line).q else rQ line s.n (aO c s' line).q):=by
    show ((b4t line (s.n.l1++s.n.l2)++oP line (aO c s line).q).map pW).Perm _
    have:=(k4.append_left (b4t line (s.n.l1++s.n.l2))).map pW
    refine this.trans ?_
    by_cases hL:y.line=line
    · rw [if_pos hL,if_pos hL]
      exact (List.perm_middle (a:=y) (l₁:=b4t line (s.n.l1++s.n.l2)) (l₂:=oP line (aO c s' line).q)).map pW
    · rw [if_neg hL,if_neg hL];exact List.Perm.refl _
  refine ⟨qX hLI (fun r=>?_) (fun r _=>?_) hms (fun r=>?_) ?_ ?_ k5 ?_ (fun r=>?_) ?_ ?_,fun r m' hm' hn=>hNF r m' (by rw [←hms];exact hm') hn⟩
  · show y7 c (eV s' r) line=_;rw [hca];rfl
  · show b4u c (eV s' r) line=_;rw [hca];rfl
  · show b2f (eV s' r) line=_;rw [hca];rfl
  · show (e6g line s'.n (aO c s' line).q).Perm _
    rw [hns]
    refine hq1.trans ?_
    show ((b4t line s.n.l0++oC line (aO c s' line).q).map pW).Perm _
    rw [k3];exact List.Perm.refl _
  · show (rQ line s'.n (aO c s' line).q).Perm _
    rw [hns]
    refine hf1.trans (List.Perm.trans ?_ hfl.symm)
    by_cases hL:y.line=line
    · rw [if_pos hL,if_pos ⟨hL,hnk⟩]
    · rw [if_neg hL,if_neg (fun g=>hL g.1)]
  · show (aJ (aO c s' line) line).o=_;rw [hent];rfl
  · show bN (aJ (aO c s' line) line).s r=_;rw [hent];rfl
  · show aI c (aO c s' line).ms line=_;rw [k2];rfl
  · show aI c (jC c s'.tr) line=_;rw [htr];rfl
theorem b0k {x:HomS} (h:HmF c x) (k:Nat):HmF c { x with q:=x.q.eraseIdx k}:=
  ⟨x0 h.q,h.ml,h.od,fun e he=>h.sm e (List.mem_of_mem_eraseIdx he),fun e he=>h.sk e (List.mem_of_mem_eraseIdx he),fun e he=>h.sp e (List.mem_of_mem_eraseIdx he),h.mv⟩
theorem d1m {x:HomS} (h:HmF c x) (k:Int):HmF c { x with q:=cS x.q k}:=by
  have hq:a1p (cS x.q k):=by
    have:=c2w (room:=0) (x:=⟨2,k,.zero,[],none,0⟩) h.q
    exact this
  by_cases he:lY x.q k=0
  · have hin:b2d x.q k=true:=by
      cases hc:b2d x.q k with
      |true=>rfl
      |false=>simp [lY,hc] at he
    have hm:=wQ hin
    by_cases h3:(a3t x.q k).sends.length=1∧(a3t x.q k).m.kind=3
    · have e:cS x.q k=x.q.eraseIdx k.toNat:=by unfold cS;rw [if_pos he,if_pos h3]
      rw [e];exact b0k h _
    · have e:cS x.q k=x.q.set k.toNat { a3t x.q k with sends:=(a3t x.q k).sends.drop 1}:=by unfold cS;rw [if_pos he,if_neg h3]
      refine ⟨hq,h.ml,h.od,fun e' he'=>?_,fun e' he'=>?_,fun e' he'=>?_,h.mv⟩
      all_goals
        change e'∈cS x.q k at he'
        rw [e] at he'
        rcases List.mem_or_eq_of_mem_set he' with g|rfl
      · exact h.sm e' g
      · exact fun y hy=>h.sm _ hm y (List.mem_of_mem_drop hy)
      · exact h.sk e' g
      · exact fun hk y hy=>h.sk _ hm hk y (List.mem_of_mem_drop hy)
      · exact h.sp e' g
      · intro hk hst hno
        have h4:=h.sp _ hm hk hst
        have hk':(a3t x.q k).m.kind=3:=hk
        have hno':(a3t x.q k).sends.drop 1=[]:=hno
        have:(a3t x.q k).sends.length=1:=by
          have h5:(a3t x.q k).sends.length≠0:=fun g=>h4 (List.length_eq_zero_iff.1 g)
          have:=List.drop_eq_nil_iff.1 hno'
          omega
        exact h3 ⟨this,hk'⟩
  · have e:cS x.q k=x.q:=by unfold cS;rw [if_neg he]
    rw [e];exact h
theorem d1n {d:Int} {x:HomS} {m:Msg} (h:HmF c x):HmF c (gV c d x m):=by
  unfold gV
  split
  · unfold sZ
    split
    · exact h
    · exact b0k h _
  · exact h
theorem d1o {d:Int} {x:HomS} {m:Msg} (h:HmF c x):HmF c (iP c d x m):=by
  unfold iP
  split
  · unfold qZ
    split
    · exact d7w h
    · exact h
  · exact h
end
end
section
section
variable {c:Cfg} {n:Nat} {s:MaS} {line j:Int}
theorem a5q {q:List QE} {i:Nat} {S:List Msg} (hQ:a1p q) (hi:i<q.length) (hr:eJ q (i:Int)=true) (hS:S≠[]) :
    bO q (i:Int) S=q.set i { q[i] with st:=true,sends:=S}∧q[i].st=false
    ∧(oC q[i].m.line q=q[i].m::oC q[i].m.line (bO q (i:Int) S)∧oP q[i].m.line q=[]∧oP q[i].m.line (bO q (i:Int) S)=S∧gX q[i].m.line q=none∧gX q[i].m.line (bO q (i:Int) S)=if q[i].m.kind=3 then none else some (q[i].m.kind,q[i].m.src))
    ∧∀ x,x≠q[i].m.line→oC x (bO q (i:Int) S)=oC x q∧oP x (bO q (i:Int) S)=oP x q∧gX x (bO q (i:Int) S)=gX x q:=by
  have hin:b2d q (i:Int)=true:=by unfold b2d;exact decide_eq_true (om)
  have hat:a3t q (i:Int)=q[i]:=by unfold a3t;rw [if_pos hin,Int.toNat_natCast,List.getD_eq_getElem?_getD,List.getElem?_eq_getElem hi];rfl
  have hr0:=hr
  unfold eJ at hr
  rw [hat,Int.toNat_natCast] at hr
  simp only [Bool.and_eq_true,Bool.not_eq_true'] at hr
  obtain ⟨⟨_,hst⟩,hfr⟩:=hr
  have hlen:S.length≠0:=fun g=>hS (List.length_eq_zero_iff.1 g)
  have hL:bO q (i:Int) S=q.set i { q[i] with st:=true,sends:=S}:=by
    unfold bO kE
    rw [if_pos hin,hr0,decide_eq_true hlen]
    simp only [Bool.and_self,if_true]
    rw [hat,Int.toNat_natCast]
  obtain ⟨e,e2,e3⟩:=d6l hi
  have ht:=d5r hQ hi
  have hhd:∀ y∈q.take i,y.m.line≠q[i].m.line:=fun y hy=>by
    unfold a4k at hfr
    have:=List.all_eq_true.1 hfr y hy
    simpa using this
  have hse:q[i].sends=[]:=hQ.2 _ (List.getElem_mem hi) hst
  have eC:∀ x,oC x q=oC x (q.take i++q[i]::q.drop (i+1)):=fun x=>congrArg (oC x) e
  have eP:∀ x,oP x q=oP x (q.take i++q[i]::q.drop (i+1)):=fun x=>congrArg (oP x) e
  have eA:∀ x,gX x q=gX x (q.take i++q[i]::q.drop (i+1)):=fun x=>congrArg (gX x) e
  refine ⟨hL,hst,⟨?_,?_,?_,?_,?_⟩,fun x hx=>⟨?_,?_,?_⟩⟩
  · rw [eC,hL,e2,qK,qK,nY,nY,if_pos ⟨rfl,hst⟩,if_neg (fun g=>by cases g.2),e0k hhd];rfl
  · rw [eP,zE,hse,a6a (fun y hy g=>absurd g (hhd y hy)),a6a (fun y hy g=>(ht y hy g).2)]
    split<;>rfl
  · rw [hL,e2,zE,if_pos rfl,a6a (fun y hy g=>absurd g (hhd y hy)),a6a (fun y hy g=>(ht y hy g).2)]
    simp
  · rw [eA]
    unfold gX
    rw [Option.map_eq_none_iff,List.find?_eq_none]
    intro y hy
    rcases List.mem_append.1 hy with g|g
    · have:=hhd y g;simp [this]
    · rcases List.mem_cons.1 g with rfl|g
      · simp [hst]
      · by_cases hy2:y.m.line=q[i].m.line
        · have:=(ht y g hy2).1;simp [this]
        · simp [hy2]
  · rw [hL,e2]
    have h0:(q.take i).find? (fun e=>decide (e.m.line=q[i].m.line)&& e.st&& !decide (e.m.kind=3))=none:=by
      rw [List.find?_eq_none]
      intro y hy
      have:=hhd y hy;simp [this]
    have h1:(q.drop (i+1)).find? (fun e=>decide (e.m.line=q[i].m.line)&& e.st&& !decide (e.m.kind=3))=none:=by
      rw [List.find?_eq_none]
      intro y hy
      by_cases hy2:y.m.line=q[i].m.line
      · have:=(ht y hy hy2).1;simp [this]
      · simp [hy2]
    unfold gX
    rw [List.find?_append,h0,List.find?_cons,h1]
    by_cases h3:q[i].m.kind=3
    · simp [h3]
    · simp [h3]
  · rw [eC,hL,e2,qK,qK,nY,nY,if_neg (fun g=>hx g.1.symm),if_neg (fun g=>hx g.1.symm)]
  · rw [eP,hL,e2,zE,zE,if_neg (fun g=>hx g.symm),if_neg (fun g=>hx g.symm)]
  · rw [eA,hL,e2]
    unfold gX
    rw [List.find?_append,List.find?_append,List.find?_cons_of_neg (by simp [Ne.symm hx]),List.find?_cons_of_neg (by simp [Ne.symm hx])]
end
end
section
theorem a7k {s:SSet} {x:Int} (hm:c7 s=true) (h:bN s x=true):0≤x∧x<s.cores:=by
  unfold bN at h
  split at h
  · simpa using h
  · have hx:=of_decide_eq_true h
    unfold c7 at hm
    simp only [Bool.and_eq_true] at hm
    have:=(a1i hm.2).2 x hx
    omega
theorem a7l {s:SSet} {but:List Int} {x:Int} (hm:c7 s=true):x∈i6 s but s.cores.toNat↔bN s x=true∧¬x∈but:=by
  unfold i6 a2p
  rw [List.mem_filter]
  constructor
  · rintro ⟨_,h⟩
    simpa using h
  · rintro ⟨h1,h2⟩
    have hr:=a7k hm h1
    refine ⟨List.mem_map.2 ⟨x.toNat,List.mem_range.2 (om),om⟩,by simp [h1,h2]⟩
theorem d1p {s:SSet} (hm:c7 s=true) (h:(i6 s [] s.cores.toNat).length=0) (x:Int):bN s x=false:=by
  cases e:bN s x with
  |false=>rfl
  |true=>
   have:=(a7l (but:=[]) hm).2 ⟨e,by simp⟩
   rw [List.length_eq_zero_iff.1 h] at this
   cases this
theorem b0l (s:SSet) (x:Int):bN (kV s) x=false:=by unfold bN kV;simp
theorem d1q {s:SSet} {y:Int} (hm:c7 s=true) (h0:0≤y) (h1:y<s.cores):bN (cT s y) y=true∧∀ x,bN s x=true→bN (cT s y) x=true:=by
  have hE:oV s y=0:=by unfold oV;rw [if_pos hm,if_neg (om)]
  unfold cT
  rw [if_pos hE]
  split
  · rename_i h;exact ⟨h,fun _ h=>h⟩
  · rename_i hn
    split
    · refine ⟨?_,fun x hx=>?_⟩
      · unfold bN;simp;exact ⟨h0,h1⟩
      · have:=a7k hm hx
        unfold bN;simp;exact this
    · have ha:s.all=false:=by
        cases e:s.all with
        |false=>rfl
        |true=>
         have:bN s y=true:=by unfold bN;rw [e];simp;exact ⟨h0,h1⟩
         exact absurd this hn
      have hi:∀ x,x∈b3n y s.ps↔x=y∨x∈s.ps:=fun x=>by
        unfold b3n
        rw [List.mem_append,List.mem_cons]
        have:=List.take_append_drop (yV s.ps y) s.ps
        conv=>rhs;rw [←this,List.mem_append]
        constructor
        · rintro (g|g|g)
          · exact .inr (.inl g)
          · exact .inl g
          · exact .inr (.inr g)
        · rintro (g|g|g)
          · exact .inr (.inl g)
          · exact .inl g
          · exact .inr (.inr g)
      refine ⟨?_,fun x hx=>?_⟩
      · unfold bN;rw [if_neg (by simp [ha])];exact decide_eq_true ((hi y).2 (.inl rfl))
      · unfold bN at hx ⊢
        rw [if_neg (by simp [ha])] at hx
        rw [if_neg (by simp [ha])]
        exact decide_eq_true ((hi x).2 (.inr (of_decide_eq_true hx)))
section
variable {c:Cfg} {n:Nat} {s:MaS}
theorem d1r {d L:Int} {x':HomS} (h:c1s c s) (hl:MaL c n s) (hd:0≤d∧d<c.homes)
    (hoth:∀ line,line≠L→aJ x' line=aJ (dH s d) line∧aI c x'.ms line=aI c (dH s d).ms line∧oC line x'.q=oC line (dH s d).q∧oP line x'.q=oP line (dH s d).q∧gX line x'.q=gX line (dH s d).q)
    (hL:aP c L=true→LI (dX c s L)→LI (dX c (dI s d x') L)):c1s c (dI s d x'):=by
  intro line hline
  obtain ⟨hLI,hNF⟩:=h line hline
  have hN:NF (dX c (dI s d x') line):=hNF
  refine ⟨?_,hN⟩
  by_cases hx:line=L
  · subst hx;exact hL hline hLI
  · have hH:=a9b (x:=x') hl hd hline
    obtain ⟨o1,o2,o3,o4,o5⟩:=hoth line hx
    have key:aJ (aO c (dI s d x') line) line=aJ (aO c s line) line∧aI c (aO c (dI s d x') line).ms line=aI c (aO c s line).ms line∧oC line (aO c (dI s d x') line).q=oC line (aO c s line).q∧oP line (aO c (dI s d x') line).q=oP line (aO c s line).q∧gX line (aO c (dI s d x') line).q=gX line (aO c s line).q:=by
      rw [hH]
      by_cases hd2:dA c line=d
      · rw [if_pos hd2]
        have e:aO c s line=dH s d:=by unfold aO;rw [hd2]
        rw [e];exact ⟨o1,o2,o3,o4,o5⟩
      · rw [if_neg hd2];exact ⟨rfl,rfl,rfl,rfl,rfl⟩
    obtain ⟨k1,k2,k3,k4,k5⟩:=key
    refine qX hLI (fun _=>rfl) (fun _ _=>rfl) (fun _=>rfl) (fun _=>rfl) ?_ ?_ k5 ?_ (fun r=>?_) k2 rfl
    · show ((b4t line s.n.l0++oC line (aO c (dI s d x') line).q).map pW).Perm _
      rw [k3];exact List.Perm.refl _
    · show ((b4t line (s.n.l1++s.n.l2)++oP line (aO c (dI s d x') line).q).map pW).Perm _
      rw [k4];exact List.Perm.refl _
    · show (aJ (aO c (dI s d x') line) line).o=_;rw [k1];rfl
    · show bN (aJ (aO c (dI s d x') line) line).s r=_;rw [k1];rfl
end
end
section
theorem e5c {c:Cfg} {m:Msg} (h:d6 c m):zX c m.words=true:=by
  have hw:=h.2.2.2.2
  unfold iD at hw
  have hv:∀ i:Nat,i<8→c.words≤i→m.words.list.getD i 0=0:=by
    intro i hi hc
    split at hw
    · exact (hw i hi).2.2 hc
    · rw [hw]
      match i,hi with
      |0,_=>rfl|1,_=>rfl|2,_=>rfl|3,_=>rfl|4,_=>rfl|5,_=>rfl|6,_=>rfl|7,_=>rfl
  unfold zX
  rw [List.all_eq_true]
  intro n hn
  obtain ⟨j,hj,rfl⟩:=List.getElem_of_mem hn
  have hl:m.words.list.length=8:=rfl
  have hj':c.words.toNat+j<8:=by simp [hl] at hj;omega
  have:=hv (c.words.toNat+j) hj' (om)
  rw [List.getElem_drop]
  have h3:c.words.toNat+j<m.words.list.length:=by omega
  simpa [h3] using this
section
variable {c:Cfg} {n:Nat} {s:MaS}
structure TurnAt (c:Cfg) (s:MaS) (d:Int) (i:Nat) (m:Msg) (S:List Msg) (x':HomS):Prop where
  q:x'.q=bO (dH s d).q (i:Int) S
  es:∀ x,aJ x' x=if x=m.line then eF (aJ (dH s d) m.line) m else aJ (dH s d) x
  ms:x'.ms=if iH (aJ (dH s d) m.line) m then d6d c (dH s d).ms m.line m.words else (dH s d).ms
theorem d9f {d:Int} {i:Nat} {m:Msg} (hi:i<(dH s d).q.length) (hm:(dH s d).q[i].m=m):TurnAt c s d i m (bR (aJ (dH s d) m.line) m (aI c (dH s d).ms m.line)) (nX c (dH s d) (i:Int)):=by
  have hin:b2d (dH s d).q (i:Int)=true:=by unfold b2d;exact decide_eq_true (om)
  have hX:a1f (dH s d) (i:Int)=m:=by
    unfold a1f a3t
    rw [if_pos hin,Int.toNat_natCast,List.getD_eq_getElem?_getD,List.getElem?_eq_getElem hi];exact hm
  refine ⟨?_,fun x=>?_,?_⟩
  · show bO _ _ (bR (aJ (dH s d) (a1f (dH s d) (i:Int)).line) (a1f (dH s d) (i:Int)) _)=_
    rw [hX]
  · unfold aJ
    show (fQ (kC (dH s d).es (a1f (dH s d) (i:Int)).line _) x).getD .no=_
    rw [v6,hX]
    by_cases hx:x=m.line
    · rw [if_pos hx,if_pos hx];rfl
    · rw [if_neg hx,if_neg hx]
  · show (if iH (aJ (dH s d) (a1f (dH s d) (i:Int)).line) (a1f (dH s d) (i:Int))=true then _ else _)=_
    rw [hX]
structure TurnV (c:Cfg) (s s':MaS) (L:Int) (m:Msg) (S:List Msg):Prop where
  rq0:(dX c s L).rq.Perm (pW m::(dX c s' L).rq)
  fly:(dX c s' L).fly.Perm (S.map pW++(dX c s L).fly)
  a0:(dX c s L).act=none
  a1:(dX c s' L).act=if m.kind=3 then none else some (m.kind,m.src)
theorem e5d {d:Int} {i:Nat} {m:Msg} {S:List Msg} {x':HomS} (hl:MaL c n s) (hd:0≤d∧d<c.homes) (hF:HmF c (dH s d)) (hi:i<(dH s d).q.length) (hm:(dH s d).q[i].m=m) (hr:eJ (dH s d).q (i:Int)=true) (hS:S≠[]) (hq:x'.q=bO (dH s d).q (i:Int) S) (hlk:aP c m.line=true) (hlh:dA c m.line=d):TurnV c s (dI s d x') m.line m S:=by
  obtain ⟨g1,g2,⟨c1,c2,c3,c4,c5⟩,_⟩:=a5q hF.q hi hr hS
  rw [hm] at c1 c2 c3 c4 c5
  have e0:aO c s m.line=dH s d:=by unfold aO;rw [hlh]
  have e1:aO c (dI s d x') m.line=x':=by rw [a9b hl hd hlk,if_pos hlh]
  refine ⟨?_,?_,?_,?_⟩
  · show ((b4t m.line s.n.l0++oC m.line (aO c s m.line).q).map pW).Perm (pW m::(b4t m.line s.n.l0++oC m.line (aO c (dI s d x') m.line).q).map pW)
    rw [e0,e1,hq,c1]
    exact (List.perm_middle (a:=m) (l₁:=b4t m.line s.n.l0)).map pW
  · show ((b4t m.line (s.n.l1++s.n.l2)++oP m.line (aO c (dI s d x') m.line).q).map pW).Perm (S.map pW++(b4t m.line (s.n.l1++s.n.l2)++oP m.line (aO c s m.line).q).map pW)
    rw [e0,e1,hq,c2,c3,List.append_nil,←List.map_append]
    exact List.perm_append_comm.map pW
  · show gX m.line (aO c s m.line).q=none
    rw [e0];exact c4
  · show gX m.line (aO c (dI s d x') m.line).q=_
    rw [e1,hq];exact c5
theorem d1s {d:Int} {m:Msg} {x':HomS} {S:List Msg} (hl:MaL c n s) (hd:0≤d∧d<c.homes) (hF:HmF c (dH s d)) (hlk:aP c m.line=true) (hlh:dA c m.line=d) (hk:m.kind=3) (hE:fF (aJ (dH s d) m.line) m=0) (hmay:d6 c m) (hdst:m.src=m.src)
    (hS:S=bR (aJ (dH s d) m.line) m (aI c (dH s d).ms m.line)) (hent:aJ x' m.line=eF (aJ (dH s d) m.line) m) (hms:x'.ms=if iH (aJ (dH s d) m.line) m then d6d c (dH s d).ms m.line m.words else (dH s d).ms) (hv:TurnV c s (dI s d x') m.line m S) (hLI:LI (dX c s m.line)):LI (dX c (dI s d x') m.line):=by
  have e0:aO c s m.line=dH s d:=by unfold aO;rw [hlh]
  have e1:aO c (dI s d x') m.line=x':=by rw [a9b hl hd hlk,if_pos hlh]
  have hA:pW m= .put m.src m.words:=by unfold pW;rw [if_neg (om),if_pos hk]
  have hS':S.map pW=[.pack m.src]:=by
    rw [hS];unfold bR
    rw [if_pos hE,if_neg (om),if_neg (om)];rfl
  obtain ⟨h1,h2,h3,h4⟩:=hv
  rw [hA] at h1
  rw [hS'] at h2
  rw [if_pos hk] at h4
  have hT:aJ x' m.line=yY (aJ (dH s d) m.line) m:=by
    rw [hent];unfold eF;rw [if_pos hE,if_neg (om),if_neg (om)]
  have ho:(dX c s m.line).o=(aJ (dH s d) m.line).o:=by show (aJ (aO c s m.line) m.line).o=_;rw [e0]
  have ho':(dX c (dI s d x') m.line).o=(yY (aJ (dH s d) m.line) m).o:=by show (aJ (aO c (dI s d x') m.line) m.line).o=_;rw [e1,hT]
  have hsh:∀ x,(dX c (dI s d x') m.line).sh x=(dX c s m.line).sh x:=fun x=>by
    show bN (aJ (aO c (dI s d x') m.line) m.line).s x=bN (aJ (aO c s m.line) m.line).s x
    rw [e0,e1,hT]
    unfold yY
    split<;>rfl
  by_cases hO:(aJ (dH s d) m.line).o=m.src
  · have hW:iH (aJ (dH s d) m.line) m=true:=by unfold iH;rw [decide_eq_true hE,decide_eq_true hk,decide_eq_true hO];rfl
    have hmem:(dX c (dI s d x') m.line).mem=m.words:=by
      show aI c (aO c (dI s d x') m.line).ms m.line=_
      rw [e1,hms,if_pos hW]
      refine sM hF.ml ?_
      unfold y9 dZ
      have hw:=dO hl.ok
      have hl':=hlk
      unfold aP at hl'
      simp only [Bool.and_eq_true,decide_eq_true_eq] at hl'
      rw [hl.ok,decide_eq_true ⟨hl'.2.1,hl'.2.2,om,om⟩,e5c hmay];rfl
    exact e1a (r:=m.src) (w:=m.words) hLI h3 (by rw [ho];exact hO) (fun _=>rfl) (fun _ _=>rfl) (fun _=>rfl) (fun _=>rfl) h1 (List.Perm.refl _) h2 (by rw [h4,h3]) (by rw [ho'];unfold yY;rw [if_pos hO]) hsh hmem rfl
  · have hW:iH (aJ (dH s d) m.line) m=false:=by unfold iH;rw [decide_eq_false hO,Bool.and_false]
    have hmem:(dX c (dI s d x') m.line).mem=(dX c s m.line).mem:=by
      show aI c (aO c (dI s d x') m.line).ms m.line=aI c (aO c s m.line).ms m.line
      rw [e0,e1,hms,hW];rfl
    exact e1b (r:=m.src) (w:=m.words) hLI h3 (by rw [ho];exact hO) (fun _=>rfl) (fun _ _=>rfl) (fun _=>rfl) (fun _=>rfl) h1 (List.Perm.refl _) h2 (by rw [h4,h3]) (by rw [ho',ho];unfold yY;rw [if_neg hO]) hsh hmem rfl
end
end
section
section
variable {c:Cfg} {n:Nat} {s:MaS}
structure TurnW (c:Cfg) (s s':MaS) (L:Int) (e t:TEnt) (w:Words):Prop where
  o:(dX c s L).o=e.o
  o':(dX c s' L).o=t.o
  sh:∀ x,(dX c s L).sh x=bN e.s x
  sh':∀ x,(dX c s' L).sh x=bN t.s x
  mem:(dX c s L).mem=w
  mem':(dX c s' L).mem=(dX c s L).mem
theorem d5k {d:Int} {m:Msg} {x':HomS} (hl:MaL c n s) (hd:0≤d∧d<c.homes) (hlk:aP c m.line=true) (hlh:dA c m.line=d) (hk:m.kind≠3)
    (hent:aJ x' m.line=eF (aJ (dH s d) m.line) m) (hms:x'.ms=if iH (aJ (dH s d) m.line) m then d6d c (dH s d).ms m.line m.words else (dH s d).ms):TurnW c s (dI s d x') m.line (aJ (dH s d) m.line) (eF (aJ (dH s d) m.line) m) (aI c (dH s d).ms m.line):=by
  have e0:aO c s m.line=dH s d:=by unfold aO;rw [hlh]
  have e1:aO c (dI s d x') m.line=x':=by rw [a9b hl hd hlk,if_pos hlh]
  have hW:iH (aJ (dH s d) m.line) m=false:=by unfold iH;rw [decide_eq_false hk,Bool.and_false,Bool.false_and]
  refine ⟨?_,?_,fun x=>?_,fun x=>?_,?_,?_⟩
  · show (aJ (aO c s m.line) m.line).o=_;rw [e0]
  · show (aJ (aO c (dI s d x') m.line) m.line).o=_;rw [e1,hent]
  · show bN (aJ (aO c s m.line) m.line).s x=_;rw [e0]
  · show bN (aJ (aO c (dI s d x') m.line) m.line).s x=_;rw [e1,hent]
  · show aI c (aO c s m.line).ms m.line=_;rw [e0]
  · show aI c (aO c (dI s d x') m.line).ms m.line=aI c (aO c s m.line).ms m.line
    rw [e0,e1,hms,hW];rfl
theorem c7e {d:Int} {m:Msg} {x':HomS} {S:List Msg} (hk:m.kind=1) (hE:fF (aJ (dH s d) m.line) m=0)
    (hS:S=bR (aJ (dH s d) m.line) m (aI c (dH s d).ms m.line)) (hw:TurnW c s (dI s d x') m.line (aJ (dH s d) m.line) (eF (aJ (dH s d) m.line) m) (aI c (dH s d).ms m.line))
    (hv:TurnV c s (dI s d x') m.line m S) (hLI:LI (dX c s m.line)):LI (dX c (dI s d x') m.line):=by
  have hA:pW m= .get 1 m.src:=by unfold pW;rw [if_pos (.inl hk),hk]
  obtain ⟨h1,h2,h3,h4⟩:=hv
  rw [hA] at h1
  rw [if_neg (om),hk] at h4
  obtain ⟨w1,w2,w3,w4,w5,w6⟩:=hw
  generalize aI c (dH s d).ms m.line=w at *
  generalize aJ (dH s d) m.line=e at *
  obtain ⟨hok,hno⟩:e7c e m=true∧e.o≠m.src:=by
    obtain ⟨a,b⟩:=l7 hE
    refine ⟨a,?_⟩
    rcases b with b|b|b
    · exact b.2
    · omega
    · omega
  obtain ⟨hmay,ho1,ho2,hs0,hs1⟩:=m9 hok
  have hT:eF e m=mI e m:=by unfold eF;rw [if_pos hE,if_pos hk]
  have hSS:S=kA e m w:=by rw [hS];unfold bR;rw [if_pos hE,if_pos hk]
  rw [hT] at w2 w4
  rw [hSS] at h2
  unfold kA at h2
  unfold mI at w2 w4
  rw [if_neg hno] at h2 w2
  have w4:∀ x,(dX c (dI s d x') m.line).sh x=bN (if e.o≠ -1 then (⟨e.o,cT e.s m.src⟩:TEnt) else if (a3n e []).length=0 then ⟨m.src,kV e.s⟩ else ⟨e.o,cT e.s m.src⟩).s x:=fun x=>by rw [w4,if_neg hno]
  obtain ⟨a1,a2⟩:=d1q (y:=m.src) hmay hs0 hs1
  by_cases hO:e.o≠ -1
  · rw [if_pos hO] at h2 w2
    have w4:∀ x,(dX c (dI s d x') m.line).sh x=bN (cT e.s m.src) x:=fun x=>by rw [w4,if_pos hO]
    refine c9z (r:=m.src) (z:= .zero) hLI hs0 h3 (by rw [w1];exact hO) (fun _=>rfl) (fun _ _=>rfl) (fun _=>rfl) (fun _=>rfl) h1 (List.Perm.refl _) (by rw [w1];exact h2) h4 (by rw [w1,w2]) ⟨fun x hx=>?_,?_⟩ w6 rfl
    · rw [w4];rw [w3] at hx;exact a2 x hx
    · rw [w4];exact a1
  · rw [if_neg hO] at h2 w2
    have w4:∀ x,(dX c (dI s d x') m.line).sh x=bN (if (a3n e []).length=0 then (⟨m.src,kV e.s⟩:TEnt) else ⟨e.o,cT e.s m.src⟩).s x:=fun x=>by rw [w4,if_neg hO]
    have hO':e.o= -1:=Decidable.byContradiction hO
    by_cases h0:(a3n e []).length=0
    · rw [if_pos h0] at h2 w2
      have w4:∀ x,(dX c (dI s d x') m.line).sh x=bN (kV e.s) x:=fun x=>by rw [w4,if_pos h0]
      exact d0a (r:=m.src) (z:= .zero) hLI hs0 h3 (by rw [w1];exact hO') (fun x=>by rw [w3];exact d1p hmay h0 x) (fun _=>rfl) (fun _ _=>rfl) (fun _=>rfl) (fun _=>rfl) h1 (List.Perm.refl _) (by rw [w5];exact h2) h4 (by rw [w2]) (fun x=>by rw [w4];exact b0l _ _) w6 rfl
    · rw [if_neg h0] at h2 w2
      have w4:∀ x,(dX c (dI s d x') m.line).sh x=bN (cT e.s m.src) x:=fun x=>by rw [w4,if_neg h0]
      refine d0b (r:=m.src) (z:= .zero) hLI hs0 h3 (by rw [w1];exact hO') (fun _=>rfl) (fun _ _=>rfl) (fun _=>rfl) (fun _=>rfl) h1 (List.Perm.refl _) (by rw [w5];exact h2) h4 (by rw [w1,w2]) ⟨fun x hx=>?_,?_⟩ w6 rfl
      · rw [w4];rw [w3] at hx;exact a2 x hx
      · rw [w4];exact a1
theorem c0m {d:Int} {m:Msg} {x':HomS} {S:List Msg} (hk:m.kind=2) (hE:fF (aJ (dH s d) m.line) m=0)
    (hS:S=bR (aJ (dH s d) m.line) m (aI c (dH s d).ms m.line)) (hw:TurnW c s (dI s d x') m.line (aJ (dH s d) m.line) (eF (aJ (dH s d) m.line) m) (aI c (dH s d).ms m.line))
    (hv:TurnV c s (dI s d x') m.line m S) (hLI:LI (dX c s m.line)):LI (dX c (dI s d x') m.line):=by
  have hA:pW m= .get 2 m.src:=by unfold pW;rw [if_pos (.inr hk),hk]
  obtain ⟨h1,h2,h3,h4⟩:=hv
  rw [hA] at h1
  rw [if_neg (om),hk] at h4
  obtain ⟨w1,w2,w3,w4,w5,w6⟩:=hw
  generalize aI c (dH s d).ms m.line=w at *
  generalize aJ (dH s d) m.line=e at *
  obtain ⟨hok,_⟩:=l7 hE
  obtain ⟨hmay,ho1,ho2,hs0,hs1⟩:=m9 hok
  have hT:eF e m=⟨m.src,kV e.s⟩:=by unfold eF;rw [if_pos hE,if_neg (om),if_pos hk]
  have hSS:S=uK e m w:=by rw [hS];unfold bR;rw [if_pos hE,if_neg (om),if_pos hk]
  rw [hT] at w2
  have w4:∀ x,(dX c (dI s d x') m.line).sh x=false:=fun x=>by rw [w4,hT];exact b0l _ _
  rw [hSS] at h2
  unfold uK at h2
  have hmap:((fE e m).map (a3o m)).map pW=(fE e m).map fun x=>AM.inv x m.src:=by rw [List.map_map];rfl
  rw [List.map_cons,hmap,List.cons_append] at h2
  have hoth:∀ x,x∈fE e m↔(dX c s m.line).sh x=true∧x≠m.src∧x≠(dX c s m.line).o:=fun x=>by
    rw [w1,w3]
    unfold fE a3n
    rw [a7l hmay]
    simp
  unfold qJ at h2
  by_cases hO:e.o= -1
  · rw [if_pos hO] at h2
    exact c5s (r:=m.src) hLI hs0 h3 (by rw [w1];exact hO) (fun _=>rfl) (fun _ _=>rfl) (fun _=>rfl) (fun _=>rfl) h1 (List.Perm.refl _) hoth (by rw [w5];exact h2) h4 w2 w4 w6 rfl
  · rw [if_neg hO] at h2
    by_cases hR:e.o=m.src
    · rw [if_pos hR] at h2
      exact c5t (r:=m.src) hLI hs0 h3 (by rw [w1];exact hR) (fun _=>rfl) (fun _ _=>rfl) (fun _=>rfl) (fun _=>rfl) h1 (List.Perm.refl _) hoth h2 h4 (by rw [w1,w2];exact hR.symm) w4 w6 rfl
    · rw [if_neg hR] at h2
      exact c5u (r:=m.src) hLI hs0 h3 (by rw [w1];exact hO) (by rw [w1];exact hR) (fun _=>rfl) (fun _ _=>rfl) (fun _=>rfl) (fun _=>rfl) h1 (List.Perm.refl _) hoth (by rw [w1];exact h2) h4 w2 w4 w6 rfl
end
end
section
theorem qU {c:Cfg} {m:Msg} (hm:d6 c m) (hh:cE m.kind) {k to who acks own:Int} {w:Words} (ht:0≤to∧to<c.cores)
    (h:((k=4∨k=6)∧(0≤who∧who<c.cores)∧who≠to∧acks=0∧own=0∧w= .zero)∨(k=5∧(0≤who∧who<c.cores)∧who≠to∧(0≤acks∧acks<c.cores)∧own=0∧w= .zero)∨(k=7∧who=0∧(own=1∨own=2∨own=4)∧(0≤acks∧acks<c.cores)∧bJ c w)
     ∨(k=8∧who=0∧own=0∧(0≤acks∧acks<c.cores)∧w= .zero)∨(k=10∧who=0∧own=0∧acks=0∧w= .zero)):d6 c (fR m k to who acks own w):=by
  have hk:4≤k∧k≤10∧k≠9:=by omega
  have hn:¬cE (fR m k to who acks own w).kind:=by show ¬cE k;unfold cE;omega
  have hN:(fR m k to who acks own w).src=qY c (fR m k to who acks own w):=by
    have g4:=hm.2.2.2.1
    unfold jD at g4
    rw [if_pos hh] at g4
    exact g4.2.1
  refine ⟨hm.1,by show 1≤k∧k≤11;omega,hm.2.2.1,?_,?_⟩
  · unfold jD
    rw [if_neg hn]
    by_cases k46:k=4∨k=6
    · rw [if_pos (show (fR m k to who acks own w).kind=4∨(fR m k to who acks own w).kind=6 from k46)]
      have g:(0≤who∧who<c.cores)∧who≠to∧acks=0∧own=0:=by omega
      exact ⟨g.1,g.2.1,hN,ht,rfl,g.2.2.2,by show (0:Int)≤acks;omega,by show acks<if false=true then c.cores else 1;rw [if_neg (by decide)];omega⟩
    · rw [if_neg (show ¬((fR m k to who acks own w).kind=4∨(fR m k to who acks own w).kind=6) from k46)]
      by_cases k5:k=5
      · rw [if_pos (show (fR m k to who acks own w).kind=5 from k5)]
        have g:(0≤who∧who<c.cores)∧who≠to∧(0≤acks∧acks<c.cores)∧own=0:=by omega
        exact ⟨g.1,g.2.1,hN,ht,rfl,g.2.2.2,g.2.2.1.1,by show acks<if true=true then c.cores else 1;rw [if_pos rfl];omega⟩
      · rw [if_neg (show ¬(fR m k to who acks own w).kind=5 from k5)]
        by_cases k7:k=7
        · rw [if_pos (show (fR m k to who acks own w).kind=7 from k7)]
          have g:who=0∧(own=1∨own=2∨own=4)∧(0≤acks∧acks<c.cores):=by omega
          exact ⟨g.2.1,g.2.2,ht,.inl ⟨g.1,hN⟩⟩
        · rw [if_neg (show ¬(fR m k to who acks own w).kind=7 from k7)]
          by_cases k8:k=8
          · rw [if_pos (show (fR m k to who acks own w).kind=8 from k8)]
            have g:who=0∧own=0∧(0≤acks∧acks<c.cores):=by omega
            exact ⟨hN,ht,g.1,g.2.1,g.2.2.1,by show acks<if true=true then c.cores else 1;rw [if_pos rfl];omega⟩
          · rw [if_neg (show ¬(fR m k to who acks own w).kind=8 from k8),if_pos (show (fR m k to who acks own w).kind=10 by show k=10;omega)]
            have g:who=0∧own=0∧acks=0:=by omega
            exact ⟨hN,ht,g.1,g.2.1,by show (0:Int)≤acks;omega,by show acks<if false=true then c.cores else 1;rw [if_neg (by decide)];omega⟩
  · unfold iD
    rcases h with ⟨a,b⟩|⟨a,b⟩|⟨a,b⟩|⟨a,b⟩|⟨a,b⟩
    · rw [if_neg (by show ¬gK k;unfold gK;omega)];exact b.2.2.2.2
    · rw [if_neg (by show ¬gK k;unfold gK;omega)];exact b.2.2.2.2
    · rw [if_pos (by show gK k;unfold gK;omega)];exact b.2.2.2
    · rw [if_neg (by show ¬gK k;unfold gK;omega)];exact b.2.2.2
    · rw [if_neg (by show ¬gK k;unfold gK;omega)];exact b.2.2.2
theorem e5e {e:TEnt} {m:Msg} (hm:c7 e.s=true) (h0:0≤m.src) (h1:m.src<e.s.cores):((fE e m).length:Int)<e.s.cores:=by
  unfold fE a3n i6
  have hl:(a2p e.s.cores.toNat).length=e.s.cores.toNat:=by unfold a2p;simp
  have:((a2p e.s.cores.toNat).filter fun c=>bN e.s c&& !decide (c∈[m.src,e.o])).length<(a2p e.s.cores.toNat).length:=by
    rw [List.length_filter_lt_length_iff_exists]
    refine ⟨m.src,?_,by simp⟩
    unfold a2p
    exact List.mem_map.2 ⟨m.src.toNat,List.mem_range.2 (om),om⟩
  omega
section
variable {c:Cfg} {n:Nat} {s:MaS} {d:Int} {x:HomS} {m:Msg}
theorem d1t (hI:HmI c d x) (hF:HmF c x) (hm:mB c d m 0=true) (hE:fF (aJ x m.line) m=0):∀ y∈bR (aJ x m.line) m (aI c x.ms m.line),d6 c y:=by
  obtain ⟨f1,f2,f3,f4,f5⟩:=jI hI.ok hm
  obtain ⟨_,g2,g3,_⟩:=rN hI f3
  have hh:cE m.kind:= .inl f2
  have hv:=hF.mv m.line
  generalize aI c x.ms m.line=w at *
  generalize aJ x m.line=e at *
  obtain ⟨hok,hk⟩:=l7 hE
  obtain ⟨h1,h2,h3,h4,h5⟩:=m9 hok
  have hol:=e5e h1 h4 h5
  have hcb:=(iE hI.ok).1
  intro y hy
  unfold bR at hy
  rw [if_pos hE] at hy
  rcases hk with ⟨k,ho⟩|k|k
  · rw [if_pos k] at hy
    unfold kA at hy
    rw [if_neg ho] at hy
    split at hy
    · obtain rfl:=List.mem_singleton.1 hy
      exact qU f1 hh (om) (.inl ⟨.inl rfl,f4,fun g=>ho g.symm,rfl,rfl,rfl⟩)
    · split at hy
      · obtain rfl:=List.mem_singleton.1 hy
        exact qU f1 hh f4 (.inr (.inr (.inl ⟨rfl,rfl,om,om,hv⟩)))
      · obtain rfl:=List.mem_singleton.1 hy
        exact qU f1 hh f4 (.inr (.inr (.inl ⟨rfl,rfl,om,om,hv⟩)))
  · rw [if_neg (om),if_pos k] at hy
    rcases List.mem_cons.1 hy with rfl|hy
    · unfold qJ
      split
      · exact qU f1 hh f4 (.inr (.inr (.inl ⟨rfl,rfl,om,om,hv⟩)))
      · split
        · exact qU f1 hh f4 (.inr (.inr (.inr (.inl ⟨rfl,rfl,rfl,om,rfl⟩))))
        · rename_i g1 g2
          exact qU f1 hh (om) (.inr (.inl ⟨rfl,f4,fun g=>g2 g.symm,om,rfl,rfl⟩))
    · obtain ⟨o,ho,rfl⟩:=List.mem_map.1 hy
      unfold fE a3n at ho
      rw [a7l h1] at ho
      obtain ⟨ho1,ho2⟩:=ho
      have hr:=a7k h1 ho1
      have hne:o≠m.src:=fun g=>ho2 (by simp [g])
      exact qU f1 hh (om) (.inl ⟨.inr rfl,f4,fun g=>hne g.symm,rfl,rfl,rfl⟩)
  · rw [if_neg (om),if_neg (om)] at hy
    obtain rfl:=List.mem_singleton.1 hy
    exact qU f1 hh f4 (.inr (.inr (.inr (.inr ⟨rfl,rfl,rfl,rfl,rfl⟩))))
theorem d1u {e:TEnt} {w:Words} (hE:fF e m=0) (hk3:m.kind≠3):∀ y∈bR e m w,y.kind≠10:=by
  obtain ⟨hok,hk⟩:=l7 hE
  intro y hy
  unfold bR at hy
  rw [if_pos hE] at hy
  rcases hk with ⟨k,ho⟩|k|k
  · rw [if_pos k] at hy
    unfold kA at hy
    rw [if_neg ho] at hy
    split at hy
    · obtain rfl:=List.mem_singleton.1 hy;show (4:Int)≠10;decide
    · split at hy<;>(obtain rfl:=List.mem_singleton.1 hy;show (7:Int)≠10;decide)
  · rw [if_neg (om),if_pos k] at hy
    rcases List.mem_cons.1 hy with rfl|hy
    · unfold qJ
      split
      · show (7:Int)≠10;decide
      · split
        · show (8:Int)≠10;decide
        · show (5:Int)≠10;decide
    · obtain ⟨o,ho,rfl⟩:=List.mem_map.1 hy
      show (6:Int)≠10;decide
  · exact absurd k hk3
theorem c7f (c:Cfg) (k:Nat) (line:Int):aI c (List.replicate k 0) line= .zero:=by
  unfold aI
  split
  · unfold iT
    rw [List.drop_replicate,List.take_replicate]
    have:∀ j i:Nat,(List.replicate j (0:Int)).getD i 0=0:=fun j i=>by
      rw [List.getD_eq_getElem?_getD,List.getElem?_replicate];split<;>rfl
    unfold Words.of
    simp only [this]
  · rfl
theorem d9g (c:Cfg) (num:Int) (hc:aF c=true):HmF c (qB c num):=by
  refine ⟨c9l,?_,rfl,fun e he=>absurd he (List.not_mem_nil),fun e he=>absurd he (List.not_mem_nil),fun e he=>absurd he (List.not_mem_nil),fun line=>?_⟩
  · have:=v5 hc ([]:List Com)
    exact this
  · show bJ c (aI c (List.replicate _ 0) line)
    rw [c7f];exact dP c
theorem d9h {ms:List Int} {L:Int} {w:Words} (hn:(ms.length:Int)=c.words*c.lines):((d6d c ms L w).length:Int)=c.words*c.lines:=by
  unfold d6d
  split
  · rename_i hw
    have hk:dZ c L 0=true:=by simp only [y9,Bool.and_eq_true] at hw;exact hw.1
    obtain ⟨a1,a2,a3,_⟩:=uF hn hk
    rw [c2n a1 a3];exact hn
  · exact hn
theorem d9i {ms:List Int} {L:Int} {w:Words} (hn:(ms.length:Int)=c.words*c.lines) (hv:∀ line,bJ c (aI c ms line)) (hw:bJ c w) (line:Int):bJ c (aI c (d6d c ms L w) line):=by
  by_cases h:line=L
  · subst h
    by_cases h2:y9 c line w=true
    · rw [sM hn h2];exact hw
    · unfold d6d;rw [if_neg h2];exact hv _
  · rw [x8 hn h];exact hv _
theorem d1v {i:Nat} (hI:HmI c d x) (hF:HmF c x) (hi:i<x.q.length) (hr:eJ x.q (i:Int)=true) (hE:fF (aJ x x.q[i].m.line) x.q[i].m=0):HmF c (nX c x (i:Int)):=by
  have hin:b2d x.q (i:Int)=true:=by unfold b2d;exact decide_eq_true (om)
  have hX:a1f x (i:Int)=x.q[i].m:=by
    unfold a1f a3t
    rw [if_pos hin,Int.toNat_natCast,List.getD_eq_getElem?_getD,List.getElem?_eq_getElem hi];rfl
  have hm:=hI.req _ (List.getElem_mem hi)
  obtain ⟨f1,f2,f3,f4,f5⟩:=jI hI.ok hm
  have hS0:=(yB (w:=aI c x.ms x.q[i].m.line) hE).1
  have hS:bR (aJ x x.q[i].m.line) x.q[i].m (aI c x.ms x.q[i].m.line)≠[]:=fun g=>by rw [g] at hS0;exact absurd hS0 (Nat.lt_irrefl _)
  have hmay:=d1t hI hF hm hE
  have eq:(nX c x (i:Int)).q=x.q.set i { x.q[i] with st:=true,sends:=bR (aJ x x.q[i].m.line) x.q[i].m (aI c x.ms x.q[i].m.line)}:=by
    rw [←(a5q hF.q hi hr hS).1]
    show bO _ _ (bR (aJ x (a1f x (i:Int)).line) (a1f x (i:Int)) _)=_
    rw [hX]
  have ems:(nX c x (i:Int)).ms=if iH (aJ x x.q[i].m.line) x.q[i].m then d6d c x.ms x.q[i].m.line x.q[i].m.words else x.ms:=by
    show (if iH (aJ x (a1f x (i:Int)).line) (a1f x (i:Int))=true then _ else _)=_
    rw [hX]
  refine ⟨?_,?_,hF.od,?_,?_,?_,?_⟩
  · have:=c2w (room:=0) (x:=⟨1,(i:Int),.zero,bR (aJ x (a1f x (i:Int)).line) (a1f x (i:Int)) (aI c x.ms (a1f x (i:Int)).line),none,0⟩) hF.q
    exact this
  · rw [ems]
    split
    · exact d9h hF.ml
    · exact hF.ml
  · rw [eq]
    intro e he
    rcases List.mem_or_eq_of_mem_set he with g|rfl
    · exact hF.sm e g
    · exact hmay
  · rw [eq]
    intro e he
    rcases List.mem_or_eq_of_mem_set he with g|rfl
    · exact hF.sk e g
    · exact fun hk=>d1u hE hk
  · rw [eq]
    intro e he
    rcases List.mem_or_eq_of_mem_set he with g|rfl
    · exact hF.sp e g
    · exact fun _ _=>hS
  · rw [ems]
    split
    · rename_i hW
      have hk3:x.q[i].m.kind=3:=by unfold iH at hW;simp at hW;exact hW.1.2
      have hw:=f1.2.2.2.2
      unfold iD at hw
      rw [if_pos (show gK x.q[i].m.kind from .inl hk3)] at hw
      exact fun line=>d9i hF.ml hF.mv hw line
    · exact hF.mv
theorem d9j {i:Nat} (h:LT c s) (hl:MaL c n s) (hf:wP c s) (hd:0≤d∧d<c.homes) (hi:i<(dH s d).q.length) (hr:eJ (dH s d).q (i:Int)=true) :
    fF (aJ (dH s d) (dH s d).q[i].m.line) (dH s d).q[i].m=0∧aP c (dH s d).q[i].m.line=true∧dA c (dH s d).q[i].m.line=d:=by
  have hI:=(hl.hmi hd.1 hd.2).1
  have hF:=zC hf hl hd
  have hm:=hI.req _ (List.getElem_mem hi)
  obtain ⟨f1,f2,f3,f4,f5⟩:=jI hI.ok hm
  have hlk:aP c (dH s d).q[i].m.line=true:=by unfold aP;rw [hl.ok,decide_eq_true ⟨f3.1,f3.2.1⟩];rfl
  have hlh:dA c (dH s d).q[i].m.line=d:=by unfold dA;rw [if_pos hlk];exact f3.2.2
  refine ⟨?_,hlk,hlh⟩
  rcases a2j hI hm with ⟨_,k1,ko⟩|g
  · exfalso
    obtain ⟨_,_,⟨c1,c2,c3,c4,c5⟩,_⟩:=a5q (S:=[Msg.zero]) hF.q hi hr (by simp)
    have e0:aO c s (dH s d).q[i].m.line=dH s d:=by unfold aO;rw [hlh]
    have hLI:=(h.1 _ hlk).1
    have ha:(dX c s (dH s d).q[i].m.line).act=none:=by
      show gX (dH s d).q[i].m.line (aO c s (dH s d).q[i].m.line).q=none
      rw [e0];exact c4
    have ho:(dX c s (dH s d).q[i].m.line).o=(dH s d).q[i].m.src:=by
      show (aJ (aO c s (dH s d).q[i].m.line) (dH s d).q[i].m.line).o=_
      rw [e0];exact ko
    have hrq:AM.get 1 (dH s d).q[i].m.src∈(dX c s (dH s d).q[i].m.line).rq:=by
      show _∈(b4t (dH s d).q[i].m.line s.n.l0++oC (dH s d).q[i].m.line (aO c s (dH s d).q[i].m.line).q).map pW
      rw [e0,c1]
      refine List.mem_map.2 ⟨(dH s d).q[i].m,List.mem_append_right _ (List.mem_cons_self ..),?_⟩
      unfold pW;rw [if_pos (.inl k1),k1]
    generalize dX c s (dH s d).q[i].m.line=v at *
    obtain ⟨a,ga,gk⟩:=hLI.gk _ _ hrq
    have hnb:=e8 ha (dH s d).q[i].m.src
    have hg1:=hLI.g1 _ a ga hnb
    have hst:=(hLI.ml _ a ga hg1.2.2.2.2).1 gk
    have hho:=rW hLI ha (om)
    rw [ho] at hho
    rcases hho with g|⟨w,g1,g2⟩
    · omega
    · have:=(hLI.b1 _ _ _ g1).2.2
      rw [ga] at this;cases this
  · exact g
theorem d9k {j:Int} (h:LT c s) (hl:MaL c n s) (hf:wP c s) (hd:0≤d∧d<c.homes) (hr:eJ (dH s d).q j=true):LT c (dG c s d j)∧HmF c (bY c (dH s d) j (d6p c s)):=by
  obtain ⟨i,hi,rfl,ea,hst,hfr⟩:=zM hr
  obtain ⟨hE,hlk,hlh⟩:=d9j h hl hf hd hi hr
  have hI:=(hl.hmi hd.1 hd.2).1
  have hF:=zC hf hl hd
  have hm:=hI.req _ (List.getElem_mem hi)
  obtain ⟨f1,f2,f3,f4,f5⟩:=jI hI.ok hm
  have hin:b2d (dH s d).q (i:Int)=true:=by unfold b2d;exact decide_eq_true (om)
  have hX:a1f (dH s d) (i:Int)=(dH s d).q[i].m:=by unfold a1f;rw [ea]
  have eK:bY c (dH s d) (i:Int) (d6p c s)=nX c (dH s d) (i:Int):=by
    unfold bY kO
    rw [if_pos hr,hX,if_pos hE]
  have eW:dG c s d (i:Int)=dI s d (nX c (dH s d) (i:Int)):=by
    unfold dG d7
    rw [if_pos hr,eK];rfl
  refine ⟨?_,by rw [eK];exact d1v hI hF hi hr hE⟩
  rw [eW]
  obtain ⟨q1,q2,q3⟩:=d9f (c:=c) hi rfl
  have hS0:=(yB (w:=aI c (dH s d).ms (dH s d).q[i].m.line) hE).1
  have hS:bR (aJ (dH s d) (dH s d).q[i].m.line) (dH s d).q[i].m (aI c (dH s d).ms (dH s d).q[i].m.line)≠[]:=fun g=>by rw [g] at hS0;exact absurd hS0 (Nat.lt_irrefl _)
  obtain ⟨_,_,_,hq⟩:=a5q hF.q hi hr hS
  refine ⟨d1r (L:=(dH s d).q[i].m.line) h.1 hl hd (fun line hne=>⟨?_,?_,?_,?_,?_⟩) (fun _ hLI=>?_),h.2⟩
  · rw [q2,if_neg hne]
  · rw [q3]
    split
    · exact x8 hF.ml hne
    · rfl
  · rw [q1];exact (hq line hne).1
  · rw [q1];exact (hq line hne).2.1
  · rw [q1];exact (hq line hne).2.2
  · have hv:=e5d hl hd hF hi rfl hr hS q1 hlk hlh
    have hent:=q2 (dH s d).q[i].m.line
    rw [if_pos rfl] at hent
    have:(dH s d).q[i].m.kind=1∨(dH s d).q[i].m.kind=2∨(dH s d).q[i].m.kind=3:=by omega
    rcases this with k|k|k
    · exact c7e k hE rfl (d5k hl hd hlk hlh (om) hent q3) hv hLI
    · exact c0m k hE rfl (d5k hl hd hlk hlh (om) hent q3) hv hLI
    · exact d1s hl hd hF hlk hlh k hE f1 rfl rfl hent q3 hv hLI
end
end
end Go.Sx
