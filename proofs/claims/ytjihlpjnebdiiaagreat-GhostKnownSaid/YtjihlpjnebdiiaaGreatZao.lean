/- MaI, MaT, MaV, Pro1, Pro7, Pro4: several of my texts as one. My own work. -/
import Derived.Test.YtjihlpjnebdiiaaGreatZan
set_option linter.unusedVariables false
set_option linter.unusedSectionVars false
set_option linter.unusedSimpArgs false
set_option maxRecDepth 100000
set_option maxHeartbeats 4000000
namespace Go.Sx
open Go Go.Proofs
section
section
variable {c:Cfg} {n:Nat} {s:MaS}
theorem a7q {core kind line:Int} {w:Words} (hl:aP c line=true) (hc:0≤core∧core<c.cores) (hk:(kind=1∨kind=2∨kind=11)∧w= .zero∨kind=3∧bJ c w):d6 c (cX c core kind line w):=by
  have hl':=hl
  unfold aP at hl
  simp only [Bool.and_eq_true,decide_eq_true_eq] at hl
  have hh:cE kind:=by unfold cE;omega
  refine ⟨hl.1,by show 1≤kind∧kind≤11;omega,hl.2,?_,?_⟩
  · unfold jD
    rw [if_pos (show cE (cX c core kind line w).kind from hh)]
    refine ⟨hc,?_,rfl,rfl,by show (0:Int)≤0;omega,by show (0:Int)<_;simp⟩
    show dA c line=qY c (cX c core kind line w)
    unfold dA qY
    rw [if_pos hl',Int.tmod_eq_emod_of_nonneg (show 0≤(cX c core kind line w).line from hl.2.1)]
    rfl
  · unfold iD
    rcases hk with ⟨hk,hw⟩|⟨hk,hw⟩
    · rw [if_neg (by show ¬gK kind;unfold gK;omega)]
      exact hw
    · rw [if_pos (by show gK kind;unfold gK;omega)]
      exact hw
theorem e6c {k:CaS} (h:mO c n k) {sw w:Int} (hs:(uP c k.ways sw w).st≠0):aP c (uP c k.ways sw w).line=true:=by
  obtain ⟨i,hi,e⟩:=List.getElem_of_mem (a0l hs)
  rw [←e] at hs ⊢
  exact (h.1.1 i hi (by unfold c6;simp [hs])).1
theorem e6d {k:CaS} (h:mO c n k) (hb:kH k=true):aP c (bU k)=true:=by
  unfold kH at hb
  have hb:=of_decide_eq_true hb
  unfold bU
  rw [if_pos hb]
  obtain ⟨i,hi,e,_⟩:=cL hb
  have e':kG k.mis=i:=e
  rw [e',List.getD_eq_getElem?_getD,Int.toNat_natCast,List.getElem?_eq_getElem hi]
  exact (h.1.2.2 _ (List.getElem_mem hi)).1
theorem bM {α:Type} {l:List α} {i:Nat} {z:α}:l.set i (l.getD i z)=l:=by
  by_cases hi:i<l.length
  · rw [List.getD_eq_getElem?_getD,List.getElem?_eq_getElem hi]
    exact List.set_getElem_self hi
  · exact List.set_eq_of_length_le (om)
theorem b3k (i:Int):dW s i (cI s i)=s:=by unfold dW cI;rw [bM]
theorem e0v (i:Int):dI s i (dH s i)=s:=by unfold dI dH;rw [bM]
theorem b3l (h:MaL c n s) {k:Int} (hk:tU k=true):0≤cA c s.n k:=by unfold cA;have:=h.rm k hk;omega
theorem d3a {k:CaS} {line kind:Int} (h:dT c k line kind=0):aP c line=true∧(kind=1∨kind=2):=by
  refine ⟨d4w h,?_⟩
  unfold dT at h
  split at h
  · cases h
  · rename_i g
    omega
theorem c7z {i j:Int} (hb:xV c s i j=false):dG c s i j=s:=by
  unfold xV oH at hb
  unfold dG d7 bY
  split at hb
  · cases hb
  · rename_i g
    rw [if_neg g,if_neg g,hb]
    simp only [Bool.false_eq_true,if_false]
    exact e0v i
end
end
section
def rP (s:MaS):List (List Op3×List Int)×List Com:=(s.ks.map fun k=>(k.l,k.rs),s.tr)
def c4u (s s':MaS):Prop:=rP s'=rP s∨∃ (i:Int) (v:Int),0≤i∧i<s.ks.length∧nO (iK s i)=true∧rP s'=rP (q8 s i (j9 (iK s i)) v)
section
variable {c:Cfg} {n:Nat} {s:MaS}
theorem c4v {i:Int} (h0:0≤i) (h1:i<s.ks.length) (hh:nO (iK s i)=true):c4u s (mY c s i (j9 (iK s i))):=by
  unfold mY
  split
  · exact .inr ⟨i,_,h0,h1,hh,rfl⟩
  · exact .inl rfl
theorem e6e {i w:Int} (h0:0≤i) (h1:i<s.ks.length):c4u s (c9 c s i w):=by
  unfold c9
  split
  · exact .inl rfl
  · split
    · exact .inl rfl
    · rename_i hh
      have hh:nO (iK s i)=true:=by simpa using hh
      split
      · split
        · exact .inr ⟨i,_,h0,h1,hh,rfl⟩
        · exact .inl rfl
      · split
        · exact c4v h0 h1 hh
        · split
          · exact .inl rfl
          · split
            · exact .inl rfl
            · split
              · unfold b8v;split<;>exact .inl rfl
              · exact .inl rfl
theorem a6m (m:Msg):rP (dN c s m)=rP s∧(dN c s m).ks=s.ks:=by unfold dN;split<;>exact ⟨rfl,rfl⟩
theorem e9h {s s1 s2:MaS} (h1:rP s1=rP s∧s1.ks=s.ks) (h2:c4u s1 s2):c4u s s2:=by
  rcases h2 with h2|⟨i,v,g0,g1,g2,g3⟩
  · exact .inl (h2.trans h1.1)
  · have hk:iK s1 i=iK s i:=by unfold iK;rw [h1.2]
    refine .inr ⟨i,v,g0,by rw [←h1.2];exact g1,by rw [←hk];exact g2,?_⟩
    rw [g3,hk]
    have ht:s1.tr=s.tr:=congrArg Prod.snd h1.1
    unfold rP q8
    rw [hk,h1.2,ht]
theorem e0w {m:Msg} (h0:0≤m.dst) (h1:m.dst<s.ks.length):c4u s (kK c s m):=by
  unfold kK
  split
  · rename_i g;exact c4v h0 h1 g.1
  · exact .inl rfl
theorem e6f (h:MaL c n s) {k i:Int}:c4u s (eX c s k i):=by
  unfold eX
  split
  · exact .inl rfl
  · rename_i g
    have hb:jN s.n k i=true:=by cases e:jN s.n k i with|true=>rfl|false=>exact absurd (.inl e) g
    have hmem:=h.nt k _ (d8 hb)
    split
    · split<;>exact .inl rfl
    · rename_i hk0
      split
      · exact .inl (a6m _).1
      · rename_i hk1
        split
        · exact .inl rfl
        · rename_i h11
          have hnh:¬cE (bD s.n k i).kind:=by
            rintro (g|g)
            · have:=hmem.2
              unfold dJ at this
              rw [if_pos g] at this;omega
            · exact h11 g
          have hr:=n4 hmem.1 hnh
          have:=h.lk
          exact e9h (s1:=dN c (gI s (aL s.n k i)) (bD s.n k i)) ⟨(a6m _).1.trans rfl,(a6m _).2.trans rfl⟩ (e0w hr.1 (by rw [(a6m _).2];show _<((s.ks.length:Nat):Int);omega))
theorem c4w (h:MaL c n s) (p:Pk):c4u s (d5 c s p):=by
  unfold d5
  split
  · exact .inl rfl
  · rename_i g
    split
    · exact e6f h
    · split
      · unfold dG;split<;>exact .inl rfl
      · split
        · rename_i g3
          have:=g3.2
          simp only [c8z,decide_eq_true_eq] at this
          exact e6e (om) (om)
        · split
          · unfold fM
            split
            · exact .inl rfl
            · split
              · refine .inl ?_
                have:(b3s s p.a (qE (iK s p.a) (1+p.b.tmod 4))).ks.map (fun k=>(k.l,k.rs))=s.ks.map fun k=>(k.l,k.rs):=by
                  show (s.ks.set _ _).map _=_
                  rw [List.map_set]
                  have:((qE (iK s p.a) (1+p.b.tmod 4)).l,(qE (iK s p.a) (1+p.b.tmod 4)).rs)=(s.ks.map fun k=>(k.l,k.rs)).getD p.a.toNat ([],[]):=by
                    rw [List.getD_eq_getElem?_getD,List.getElem?_map]
                    unfold qE iK
                    rw [List.getD_eq_getElem?_getD]
                    cases s.ks[p.a.toNat]? <;>rfl
                  rw [this,bM]
                show ((b3s s p.a (qE (iK s p.a) (1+p.b.tmod 4))).ks.map _,s.tr)=_
                rw [this];rfl
              · exact .inl rfl
          · exact .inl rfl
structure MaT (c:Cfg) (ps:List (List Op3)) (q:List (List Op3×List Int)×List Com):Prop where
  ln:q.1.map (·.1)=ps
  ct:∀ (i:Nat) k,q.1[i]? =some k→b8w q.2 q.2.length (i:Int)=k.2.length
  le:∀ k∈q.1,k.2.length≤k.1.length
  tr:∀ (j:Nat) x,q.2[j]? =some x→(0≤x.core∧x.core<ps.length)∧x.pos=b8w q.2 j x.core∧x.pos<((ps.getD x.core.toNat []).length:Int)∧x.op=(ps.getD x.core.toNat []).getD x.pos.toNat .zero
theorem a7r {l:List Com} {x:Com} {j:Nat} (hj:j≤l.length) (k:Int):b8w (l++[x]) j k=b8w l j k:=by
  unfold b8w
  rw [List.take_append_of_le_length hj]
theorem MaT.step {ps:List (List Op3)} {s s':MaS} (h:MaT c ps (rP s)) (hs:c4u s s'):MaT c ps (rP s'):=by
  rcases hs with hs|⟨i,v,h0,h1,h2,h3⟩
  · rw [hs];exact h
  · rw [h3]
    have hi:i.toNat<s.ks.length:=by omega
    have e:iK s i=s.ks[i.toNat]:=by unfold iK;rw [List.getD_eq_getElem?_getD,List.getElem?_eq_getElem hi];rfl
    have hat:(rP s).1[i.toNat]? =some ((iK s i).l,(iK s i).rs):=by
      show (s.ks.map _)[i.toNat]? =_
      rw [List.getElem?_map,List.getElem?_eq_getElem hi,←e];rfl
    have hpl:ps[i.toNat]? =some (iK s i).l:=by
      rw [←h.ln,List.getElem?_map,hat];rfl
    have hpsl:s.ks.length=ps.length:=by rw [←h.ln];show _=((s.ks.map _).map _).length;simp
    have hlt:(iK s i).rs.length<(iK s i).l.length:=by
      have g1:=h.le _ (List.mem_of_getElem? hat)
      have g2:(iK s i).rs.length≠(iK s i).l.length:=by simpa [nO,uJ] using h2
      dsimp only at g1;omega
    have hct:=h.ct _ _ hat
    have e1:(rP (q8 s i (j9 (iK s i)) v)).1=(rP s).1.set i.toNat ((iK s i).l,(iK s i).rs++[v]):=by
      show (s.ks.set _ _).map _=_
      rw [List.map_set];rfl
    have e2:(rP (q8 s i (j9 (iK s i)) v)).2=(rP s).2++[⟨i,(iK s i).rs.length,j9 (iK s i),v⟩]:=rfl
    generalize rP (q8 s i (j9 (iK s i)) v)=q at *
    obtain ⟨q1,q2⟩:=q
    dsimp only at e1 e2
    subst e1 e2
    have hcnt:∀ k:Int,b8w ((rP s).2++[(⟨i,(iK s i).rs.length,j9 (iK s i),v⟩:Com)]) ((rP s).2++[(⟨i,(iK s i).rs.length,j9 (iK s i),v⟩:Com)]).length k=b8w (rP s).2 (rP s).2.length k+if i=k then 1 else 0:=fun k=>by
      rw [List.length_append,List.length_singleton,c8j (by rw [List.length_append];simp),a7r (Nat.le_refl _),List.getElem_append_right (Nat.le_refl _)]
      simp
    refine ⟨?_,fun j k hk=>?_,?_,fun j x hx=>?_⟩
    · dsimp only
      rw [List.map_set,h.ln]
      dsimp only
      have:(iK s i).l=ps.getD i.toNat []:=by rw [List.getD_eq_getElem?_getD,hpl];rfl
      rw [this,bM]
    · dsimp only at hk ⊢
      rw [hcnt]
      rw [List.getElem?_set] at hk
      split at hk
      · rename_i g
        split at hk
        · cases hk
          subst g
          have:((i.toNat:Nat):Int)=i:=by omega
          rw [this] at hct ⊢
          rw [hct,if_pos rfl,List.length_append];rfl
        · cases hk
      · rename_i g
        rw [h.ct j k hk,if_neg (om)];rfl
    · dsimp only
      refine fT (P:=fun k:List Op3×List Int=>k.2.length≤k.1.length) h.le ?_
      dsimp only
      rw [List.length_append];simp;omega
    · dsimp only at hx ⊢
      by_cases hj:j<(rP s).2.length
      · rw [List.getElem?_append_left hj] at hx
        rw [a7r (om)]
        exact h.tr j x hx
      · have hj2:j=(rP s).2.length:=by
          have:=(List.getElem?_eq_some_iff.1 hx).1
          rw [List.length_append] at this
          simp at this;omega
        subst hj2
        rw [List.getElem?_append_right (Nat.le_refl _)] at hx
        simp at hx
        subst hx
        rw [a7r (Nat.le_refl _)]
        have:((i.toNat:Nat):Int)=i:=by omega
        rw [this] at hct
        have hg:ps.getD i.toNat []=(iK s i).l:=by rw [List.getD_eq_getElem?_getD,hpl];rfl
        refine ⟨⟨h0,by dsimp only;omega⟩,by dsimp only;rw [hct],?_,?_⟩
        · dsimp only;rw [hg];omega
        · dsimp only;rw [hg];rfl
theorem MaT.new {ps:List (List Op3)}:MaT c ps (rP (cW c ps)):=by
  refine ⟨?_,fun i k hk=>?_,fun k hk=>?_,fun j x hx=>?_⟩
  · show ((ps.map _).map _).map _=ps
    rw [List.map_map,List.map_map]
    exact List.map_id' ps
  · change ((ps.map _).map _)[i]? =some k at hk
    rw [List.map_map] at hk
    obtain ⟨l,_,rfl⟩:=List.mem_map.1 (List.mem_of_getElem? hk)
    rfl
  · change k∈(ps.map _).map _ at hk
    rw [List.map_map] at hk
    obtain ⟨l,_,rfl⟩:=List.mem_map.1 hk
    exact Nat.zero_le _
  · change ([]:List Com)[j]? =some x at hx
    cases hx
end
end
section
def pW (m:Msg):AM Words:=
  if m.kind=1∨m.kind=2 then .get m.kind m.src else if m.kind=3 then .put m.src m.words else if m.kind=4 then .fwd 1 m.dst m.who m.acks else if m.kind=5 then .fwd 2 m.dst m.who m.acks
  else if m.kind=6 then .inv m.dst m.who else if m.kind=7 then .data m.dst m.own m.acks m.words else if m.kind=8 then .grant m.dst m.acks else if m.kind=9 then .ack m.dst else if m.kind=10 then .pack m.dst else .done m.src
def eV (s:MaS) (r:Int):CaS:=if 0≤r then cI s r else caZ
def b4t (line:Int) (l:List Msg):List Msg:=l.filter fun m=>decide (m.line=line)
def gX (line:Int) (q:List QE):Option (Int×Int):=(q.find? fun e=>decide (e.m.line=line)&& e.st&& !decide (e.m.kind=3)).map fun e=>(e.m.kind,e.m.src)
def e6g (line:Int) (n:Nets) (q:List QE):List (AM Words):=(b4t line n.l0++oC line q).map pW
def rQ (line:Int) (n:Nets) (q:List QE):List (AM Words):=(b4t line (n.l1++n.l2)++oP line q).map pW
def aO (c:Cfg) (s:MaS) (line:Int):HomS:=dH s (dA c line)
def dX (c:Cfg) (s:MaS) (line:Int):LV Words where
  st r:=y7 c (eV s r) line
  wd r:=b4u c (eV s r) line
  ms r:=a1h (eV s r) line
  bf r:=b2f (eV s r) line
  rq:=e6g line s.n (aO c s line).q
  fly:=rQ line s.n (aO c s line).q
  act:=gX line (aO c s line).q
  o:=(aJ (aO c s line) line).o
  sh x:=bN (aJ (aO c s line) line).s x
  mem:=aI c (aO c s line).ms line
  now:=aI c (jC c s.tr) line
section
variable {c:Cfg} {line:Int} {n:Nets} {q:List QE}
theorem zV (m:Msg) (l:List Msg):b4t line (m::l)=if m.line=line then m::b4t line l else b4t line l:=by
  unfold b4t;rw [List.filter_cons];by_cases h:m.line=line<;>simp [h]
theorem zW {l l':List Msg} (h:l.Perm l'):(b4t line l).Perm (b4t line l'):=h.filter _
theorem a7s {m:Msg} (h:d6 c m):dJ m.kind=0∨dJ m.kind=1∨dJ m.kind=2:=by
  have:=h.2.1
  unfold dJ
  split
  · exact .inl rfl
  · split
    · exact .inr (.inl rfl)
    · rw [if_pos (om)];exact .inr (.inr rfl)
theorem b0y {m:Msg} (hm:d6 c m) (hr:0<cA c n (dJ m.kind)):gH c n m=a2t n (dJ m.kind) (l4 n (dJ m.kind)++[m]):=by
  unfold gH a3p
  unfold cA at hr
  rw [if_pos hm,if_neg (om)]
theorem a7t {α:Type} {l:List α} {x:α}:(l++[x]).Perm (x::l):=List.perm_append_singleton x l
theorem vS {m:Msg} (hm:d6 c m) (hr:0<cA c n (dJ m.kind)):(e6g line (gH c n m) q).Perm (if m.line=line∧dJ m.kind=0 then pW m::e6g line n q else e6g line n q):=by
  rw [b0y hm hr]
  rcases a7s hm with h|h|h
  · rw [h]
    show ((b4t line (n.l0++[m])++_).map pW).Perm _
    have h1:=(zW (line:=line) (a7t (l:=n.l0) (x:=m)))
    rw [zV] at h1
    by_cases hl:m.line=line
    · rw [if_pos hl] at h1
      rw [if_pos ⟨hl,rfl⟩]
      exact (h1.append_right _).map pW
    · rw [if_neg hl] at h1
      rw [if_neg (fun g=>hl g.1)]
      exact (h1.append_right _).map pW
  · rw [h,if_neg (om)];exact List.Perm.refl _
  · rw [h,if_neg (om)];exact List.Perm.refl _
theorem rR {m:Msg} (hm:d6 c m) (hr:0<cA c n (dJ m.kind)):(rQ line (gH c n m) q).Perm (if m.line=line∧dJ m.kind≠0 then pW m::rQ line n q else rQ line n q):=by
  rw [b0y hm hr]
  have key:∀ l:List Msg,l.Perm (m::(n.l1++n.l2))→((b4t line l++oP line q).map pW).Perm (if m.line=line then pW m::rQ line n q else rQ line n q):=fun l hl=>by
    have h1:=zW (line:=line) hl
    rw [zV] at h1
    by_cases hl:m.line=line
    · rw [if_pos hl] at h1 ⊢
      exact (h1.append_right _).map pW
    · rw [if_neg hl] at h1 ⊢
      exact (h1.append_right _).map pW
  rcases a7s hm with h|h|h
  · rw [h,if_neg (om)];exact List.Perm.refl _
  · rw [h]
    have:=key (n.l1++[m]++n.l2) (by rw [List.append_assoc];exact List.perm_middle)
    by_cases hl:m.line=line
    · rw [if_pos ⟨hl,om⟩];rw [if_pos hl] at this;exact this
    · rw [if_neg (fun g=>hl g.1)];rw [if_neg hl] at this;exact this
  · rw [h]
    have:=key (n.l1++(n.l2++[m])) (by rw [←List.append_assoc];exact a7t)
    by_cases hl:m.line=line
    · rw [if_pos ⟨hl,om⟩];rw [if_pos hl] at this;exact this
    · rw [if_neg (fun g=>hl g.1)];rw [if_neg hl] at this;exact this
theorem b0z {l:List Msg} {i:Int} (h:e2f l i=true):l.Perm (e4n .zero l i::pH l i):=by
  unfold e4n pH
  rw [h]
  unfold e2f at h
  have h:=of_decide_eq_true h
  have hl:i.toNat<l.length:=by omega
  rw [if_pos rfl,if_pos rfl,List.getD_eq_getElem?_getD,List.getElem?_eq_getElem hl]
  obtain ⟨e,_,e3⟩:=c8r hl
  rw [e3]
  exact (List.Perm.of_eq e).trans List.perm_middle
theorem b8n {k i:Int} (h:jN n k i=true) (hk:tU k=true):(e6g line n q).Perm (if (bD n k i).line=line∧k=0 then pW (bD n k i)::e6g line (aL n k i) q else e6g line (aL n k i) q):=by
  have hp:=b0z h
  rcases nE hk with rfl|rfl|rfl
  · have h1:=zW (line:=line) hp
    rw [zV] at h1
    by_cases hl:(bD n 0 i).line=line
    · rw [if_pos (show (e4n .zero (l4 n 0) i).line=line from hl)] at h1
      rw [if_pos ⟨hl,rfl⟩]
      exact (h1.append_right _).map pW
    · rw [if_neg (show ¬(e4n .zero (l4 n 0) i).line=line from hl)] at h1
      rw [if_neg (fun g=>hl g.1)]
      exact (h1.append_right _).map pW
  · rw [if_neg (om)];exact List.Perm.refl _
  · rw [if_neg (om)];exact List.Perm.refl _
theorem c8a {k i:Int} (h:jN n k i=true) (hk:tU k=true):(rQ line n q).Perm (if (bD n k i).line=line∧k≠0 then pW (bD n k i)::rQ line (aL n k i) q else rQ line (aL n k i) q):=by
  have hp:=b0z h
  have key:∀ l:List Msg,(n.l1++n.l2).Perm (bD n k i::l)→(rQ line n q).Perm (if (bD n k i).line=line then pW (bD n k i)::(b4t line l++oP line q).map pW else (b4t line l++oP line q).map pW):=fun l hl=>by
    have h1:=zW (line:=line) hl
    rw [zV] at h1
    by_cases hl:(bD n k i).line=line
    · rw [if_pos hl] at h1 ⊢
      exact (h1.append_right _).map pW
    · rw [if_neg hl] at h1 ⊢
      exact (h1.append_right _).map pW
  rcases nE hk with rfl|rfl|rfl
  · rw [if_neg (om)];exact List.Perm.refl _
  · have:=key (pH n.l1 i++n.l2) (hp.append_right _)
    by_cases hl:(bD n 1 i).line=line
    · rw [if_pos ⟨hl,om⟩];rw [if_pos hl] at this;exact this
    · rw [if_neg (fun g=>hl g.1)];rw [if_neg hl] at this;exact this
  · have:=key (n.l1++pH n.l2 i) ((hp.append_left n.l1).trans List.perm_middle)
    by_cases hl:(bD n 2 i).line=line
    · rw [if_pos ⟨hl,om⟩];rw [if_pos hl] at this;exact this
    · rw [if_neg (fun g=>hl g.1)];rw [if_neg hl] at this;exact this
end
end
section
section
variable {W:Type}
theorem qX {v v':LV W} (h:LI v)
    (hst:∀ x,v'.st x=v.st x) (hwd:∀ x,v'.st x≠0→v'.wd x=v.wd x) (hms:∀ x,v'.ms x=v.ms x) (hbf:∀ x,v'.bf x=v.bf x) (hrq:v'.rq.Perm v.rq) (hfly:v'.fly.Perm v.fly) (hact:v'.act=v.act) (ho:v'.o=v.o) (hsh:∀ x,v'.sh x=v.sh x) (hmem:v'.mem=v.mem) (hnow:v'.now=v.now):LI v':=by
  obtain ⟨qm,cg,cp⟩:=a1o hrq
  obtain ⟨fm,ck,ct,ci,cd⟩:=b3u hfly
  have hbu:∀ x,v'.busy x↔v.busy x:=fun x=>by unfold LV.busy;rw [hact,cd]
  have hho:∀ x,v'.holds x↔v.holds x:=fun x=>by unfold LV.holds;rw [hst,hbf,cp]
  constructor
  case rqk=>intro x hx;have:=h.rqk x;exact bP
  case g0=>intro r1 h1;have:=h.g0 r1;exact bP
  case g1=>intro r1 m1 h1 h2;have:=h.g1 r1 m1;exact bP
  case gk=>intro k1 r1 h1;have:=h.gk k1 r1;exact bP
  case gA=>intro r1 h1;have:=h.gA r1;exact bP
  case aK=>intro k1 r1 h1;have:=h.aK k1 r1;exact bP
  case mK=>intro r1 m1 h1;have:=h.mK r1 m1;exact bP
  case ml=>intro r1 m1 h1 h2;have:=h.ml r1 m1;exact bP
  case b0=>intro r1 h1;have:=h.b0 r1;exact bP
  case b1=>intro r1 w1 l1 h1;have:=h.b1 r1 w1 l1;exact bP
  case bw=>intro r1 w1 h1;have:=h.bw r1 w1;exact bP
  case bl=>intro r1 w1 h1 h2;have:=h.bl r1 w1;exact bP
  case f0=>intro h1 x hx;have:=h.f0;exact bP
  case f1=>intro r1 h1 x hx;have:=h.f1 r1;exact bP
  case f2=>intro r1 h1 x hx;have:=h.f2 r1;exact bP
  case p=>intro k1 r1 h1;have:=h.p k1 r1;exact bP
  case a2=>intro r1 h1;have:=h.a2 r1;exact bP
  case tf=>intro k1 o1 r1 n1 h1;have:=h.tf k1 o1 r1 n1;exact bP
  case td=>intro r1 own1 n1 w1 h1;have:=h.td r1 own1 n1 w1;exact bP
  case tg=>intro r1 n1 h1;have:=h.tg r1 n1;exact bP
  case iv=>intro c1 r1 h1;have:=h.iv c1 r1;exact bP
  case e=>intro c1 h1;have:=h.e c1;exact bP
  case h=>intro h1;have:=h.h;exact bP
  case s=>intro c1 h1 c2 h2;have:=h.s c1;exact bP
  case wn=>intro c1 h1;have:=h.wn c1;exact bP
  case mn=>intro h1;have:=h.mn;exact bP
  case k=>intro c1 h1;have:=h.k c1;exact bP
  case r=>intro c1;have:=h.r c1;exact bP
  case rg=>intro c1 h1;have:=h.rg c1;exact bP
theorem e6h {v v':LV W} (h:LI v) {r k:Int} {z:W} (hr:0≤r) (hm:v.ms r=none) (hb:v.bf r=none) (hk:(k=1∧v.st r=0)∨(k=2∧v.st r≠2∧v.st r≠4))
    (hst:∀ x,v'.st x=v.st x) (hwd:∀ x,v'.st x≠0→v'.wd x=v.wd x) (hms:∀ x,v'.ms x=if x=r then some ⟨k,-1,0,0,z,false,false⟩ else v.ms x) (hbf:∀ x,v'.bf x=v.bf x) (hrq:v'.rq.Perm (.get k r::v.rq)) (hfly:v'.fly.Perm v.fly) (hact:v'.act=v.act) (ho:v'.o=v.o) (hsh:∀ x,v'.sh x=v.sh x) (hmem:v'.mem=v.mem) (hnow:v'.now=v.now):LI v':=by
  have qm:∀ y,y∈v'.rq↔y= .get k r∨y∈v.rq:=fun y=>nQ hrq y
  have cg:∀ x,v'.cg x=v.cg x+if a4j x (.get k r)=true then 1 else 0:=fun x=>bX hrq _
  have cp:∀ x,v'.cp x=v.cp x+if o6 x (.get k r)=true then 1 else 0:=fun x=>bX hrq _
  obtain ⟨fm,ck,ct,ci,cd⟩:=b3u hfly
  have hbu:∀ x,v'.busy x↔v.busy x:=fun x=>by unfold LV.busy;rw [hact,cd]
  have hnb:¬v.busy r:=fun ⟨k',h1,h2⟩=>by have:=h.p k' r h1;grind
  have hho:∀ x,v'.holds x↔v.holds x:=fun x=>by unfold LV.holds;rw [hst,hbf,cp];simp [o6,LV.cp]
  refine { g1:=?zg1}
  case zg1=>
    intro r1 m1 h1 h2
    have:=h.g1 r1 m1
    have:=h.g0 r1;exact bP
theorem c8b {v v':LV W} (h:LI v) {r:Int} (hm:v.ms r=none) (hs:v.st r=1)
    (hst:∀ x,v'.st x=if x=r then 0 else v.st x) (hwd:∀ x,v'.st x≠0→v'.wd x=v.wd x) (hms:∀ x,v'.ms x=v.ms x) (hbf:∀ x,v'.bf x=v.bf x) (hrq:v'.rq.Perm v.rq) (hfly:v'.fly.Perm v.fly) (hact:v'.act=v.act) (ho:v'.o=v.o) (hsh:∀ x,v'.sh x=v.sh x) (hmem:v'.mem=v.mem) (hnow:v'.now=v.now):LI v':=by
  obtain ⟨qm,cg,cp⟩:=a1o hrq
  obtain ⟨fm,ck,ct,ci,cd⟩:=b3u hfly
  have hbu:∀ x,v'.busy x↔v.busy x:=fun x=>by unfold LV.busy;rw [hact,cd]
  have hho:∀ x,v.holds x→v'.holds x:=fun x=>by unfold LV.holds;rw [hst,hbf,cp];grind
  refine { p:=?zp}
  case zp=>
    intro k1 r1 h1
    have:=h.p k1 r1
    rcases this (by grind) with ⟨m,g1,g2⟩|⟨m,g1,g2⟩|⟨m,g1,g2⟩|g2
    · refine .inl ⟨m,?_⟩;exact bP
    · refine .inr (.inl ⟨m,?_⟩);exact bP
    · refine .inr (.inr (.inl ⟨m,?_⟩));exact bP
    · refine .inr (.inr (.inr ?_));exact bP
theorem c8c {v v':LV W} (h:LI v) {r:Int} (hm:v.ms r=none) (hs:2≤v.st r)
    (hst:∀ x,v'.st x=if x=r then 0 else v.st x) (hwd:∀ x,v'.st x≠0→v'.wd x=v.wd x) (hms:∀ x,v'.ms x=v.ms x) (hbf:∀ x,v'.bf x=if x=r then some (v.wd r,true) else v.bf x) (hrq:v'.rq.Perm (.put r (v.wd r)::v.rq)) (hfly:v'.fly.Perm v.fly) (hact:v'.act=v.act) (ho:v'.o=v.o) (hsh:∀ x,v'.sh x=v.sh x) (hmem:v'.mem=v.mem) (hnow:v'.now=v.now):LI v':=by
  have qm:∀ y,y∈v'.rq↔y= .put r (v.wd r)∨y∈v.rq:=fun y=>nQ hrq y
  have cg:∀ x,v'.cg x=v.cg x+if a4j x (.put r (v.wd r))=true then 1 else 0:=fun x=>bX hrq _
  have cp:∀ x,v'.cp x=v.cp x+if o6 x (.put r (v.wd r))=true then 1 else 0:=fun x=>bX hrq _
  obtain ⟨fm,ck,ct,ci,cd⟩:=b3u hfly
  have hbu:∀ x,v'.busy x↔v.busy x:=fun x=>by unfold LV.busy;rw [hact,cd]
  have hb:v.bf r=none:=by cases e:v.bf r with|none=>rfl|some x=>(have:=h.b1 r x.1 x.2 e;omega)
  have h0:=h.b0 r hb
  have hw:=h.wn r (om)
  have he:=h.e r hs
  have hho:∀ x,v.holds x→v'.holds x:=fun x=>by unfold LV.holds;rw [hst,hbf,cp];grind [o6]
  have htm:∀ x,x∈v.fly→bQ x=true→∃ m,v.ms (a9l x)=some m∧m.ow=false:=fun x hx ht=>by obtain ⟨k,r',m,g⟩:=kD h hx ht;grind
  refine { p:=?zp,tg:=?ztg}
  case zp=>
    intro k1 r1 h1
    have:=h.p k1 r1
    rcases this (by grind) with ⟨m,g1,g2⟩|⟨m,g1,g2⟩|⟨m,g1,g2⟩|g2
    · refine .inl ⟨m,?_⟩;exact bP
    · refine .inr (.inl ⟨m,?_⟩);exact bP
    · refine .inr (.inr (.inl ⟨m,?_⟩));exact bP
    · refine .inr (.inr (.inr ?_));exact bP
  case ztg=>
    intro r1 n1 h1
    have:=h.tg r1 n1
    have:=htm (.grant r1 n1);grind [bQ,a9l]
theorem d3b {v v':LV W} (h:LI v) {r:Int} {w:W} (hr:0≤r) (hs:v.st r=2∨v.st r=4)
    (hst:∀ x,v'.st x=if x=r then 4 else v.st x) (hwd:∀ x,v'.st x≠0→v'.wd x=if x=r then w else v.wd x) (hms:∀ x,v'.ms x=v.ms x) (hbf:∀ x,v'.bf x=v.bf x) (hrq:v'.rq.Perm v.rq) (hfly:v'.fly.Perm v.fly) (hact:v'.act=v.act) (ho:v'.o=v.o) (hsh:∀ x,v'.sh x=v.sh x) (hmem:v'.mem=v.mem) (hnow:v'.now=w):LI v':=by
  obtain ⟨qm,cg,cp⟩:=a1o hrq
  obtain ⟨fm,ck,ct,ci,cd⟩:=b3u hfly
  have hbu:∀ x,v'.busy x↔v.busy x:=fun x=>by unfold LV.busy;rw [hact,cd]
  have he:=h.e r (om)
  have hs1:=h.s r hs
  have hho:∀ x,v.holds x↔v'.holds x:=fun x=>by unfold LV.holds;rw [hst,hbf,cp];grind
  have hun:=fun d=>tW h (c:=r) (d:=d) (om)
  have hct:=fun x=>a3a (v:=v) (x:=x)
  refine { bl:=?zbl,p:=?zp,mn:=?zmn}
  case zbl=>
    intro r1 w1 h1 h2
    have:=h.bl r1 w1
    have:=hun r1 (.inr ⟨w1,by grind⟩);have:=h.b1 r1;grind
  case zp=>
    intro k1 r1 h1
    have:=h.p k1 r1
    have aK:=h.aK k1 r1 (by grind)
    rcases this (by grind) with ⟨m,g1,g2⟩|⟨m,g1,g2⟩|⟨m,g1,g2⟩|g2
    · refine .inl ⟨m,?_⟩;exact bP
    · refine .inr (.inl ⟨m,?_⟩);exact bP
    · refine .inr (.inr (.inl ⟨m,?_⟩));exact bP
    · refine .inr (.inr (.inr ?_));exact bP
  case zmn=>
    intro h1
    have:=h.mn
    rcases he with he|⟨r1,n1,he⟩
    · grind
    · have:=kD h he rfl;have:=h.tf _ _ _ _ he;grind [a9l]
end
end
section
section
variable {W:Type}
theorem e0x {v v':LV W} (h:LI v) {r:Int} {m:AMs W} (hm:v.ms r=some m) (hn:m.needs≠ -1) (hg:m.needs=m.got) (hw:m.ow=false)
    (hst:∀ x,v'.st x=if x=r then m.own else v.st x) (hwd:∀ x,v'.st x≠0→v'.wd x=if x=r then (if m.gr=true then v.wd r else m.w) else v.wd x) (hms:∀ x,v'.ms x=if x=r then some { m with ow:=true} else v.ms x) (hbf:∀ x,v'.bf x=v.bf x) (hrq:v'.rq.Perm v.rq) (hfly:v'.fly.Perm v.fly) (hact:v'.act=v.act) (ho:v'.o=v.o) (hsh:∀ x,v'.sh x=v.sh x) (hmem:v'.mem=v.mem) (hnow:v'.now=v.now):LI v':=by
  obtain ⟨qm,cg,cp⟩:=a1o hrq
  obtain ⟨fm,ck,ct,ci,cd⟩:=b3u hfly
  have hbu:∀ x,v'.busy x↔v.busy x:=fun x=>by unfold LV.busy;rw [hact,cd]
  have hbr:v.busy r:=Classical.byContradiction fun hb=>hn (h.g1 r m hm hb).2.1
  have hbr0:=hbr
  obtain ⟨k0,hac,hcd⟩:=hbr0
  have haK:=h.aK _ _ hac
  have hct:=fun x=>a3a (v:=v) (x:=x)
  have hci:=fun x=>b3v (v:=v) (x:=x)
  have hp:m.kind=k0∧0≤m.got∧v.ct=0∧v.ci=0∧(k0=1→m.own=1∨m.own=2)∧(k0=2→m.own=4)∧(m.gr=false→m.w=v.now)∧(m.gr=true→k0=2∧v.st r=3)∧(m.own=1→(∀ c,v.st c≠2∧v.st c≠4)∧v.sh r=true∧v.o≠r)∧(m.own=2→(∀ c,v.st c=0)∧v.o=r)∧(m.own=4→v.o=r∧(m.gr=false→∀ c,v.st c<2)):=by
    rcases h.p k0 r hac with ⟨m1,g1,g2⟩|⟨m1,g1,g2⟩|⟨m1,g1,g2⟩|g2<;>grind
  have hon:∀ x,x≠r→¬v.busy x:=fun x hx ⟨k,e,z⟩=>by grind
  have hgo:=h.g1 v.o
  have hml:=h.ml r m hm hw
  have hbn:v.bf r=none:=by cases e:v.bf r with|none=>rfl|some x=>(have:=(h.b1 r x.1 x.2 e).2.2;rw [hm] at this;cases this)
  have hwr:=h.wn r
  have hk4:m.own=4→∀ c,c≠r→v.st c=0:=fun h4 c hc=>by have:=h.k c;have:=h.a2 r;have:=hci (.inv c r);have:=fun n=>hct (.fwd 2 c r n);grind [bQ,qF]
  have hho:∀ x,x≠r→(v.holds x↔v'.holds x):=fun x hx=>by unfold LV.holds;rw [hst,hbf,cp,if_neg hx]
  have hrr:=h.r r
  have hhr:m.own≠1→v'.holds r:=fun ho=>by left;rw [hst,if_pos rfl];grind
  refine { p:=?zp}
  case zp=>
    intro k1 r1 h1
    have:=h.p k1 r1
    obtain ⟨rfl,rfl⟩:k1=k0∧r1=r:=by grind
    refine .inr (.inr (.inl ⟨_,by rw [hms,if_pos rfl],?_⟩));grind
theorem e0y {v v':LV W} (h:LI v) {r:Int}
    (hst:∀ x,v'.st x=v.st x) (hwd:∀ x,v'.st x≠0→v'.wd x=v.wd x) (hms:∀ x,v'.ms x=v.ms x) (hbf:∀ x,v'.bf x=if x=r then none else v.bf x) (hrq:v'.rq.Perm v.rq) {Rf:List (AM W)} (hfly0:v.fly.Perm (.pack r::Rf)) (hfly:v'.fly.Perm Rf) (hact:v'.act=v.act) (ho:v'.o=v.o) (hsh:∀ x,v'.sh x=v.sh x) (hmem:v'.mem=v.mem) (hnow:v'.now=v.now):LI v':=by
  obtain ⟨qm,cg,cp⟩:=a1o hrq
  obtain ⟨fm0,ck0,ct0,ci0,cd0⟩:=o7 hfly0
  obtain ⟨fm,ck,ct,ci,cd⟩:=b9e hfly
  have hin:=(fm0 _).2 (.inl rfl)
  have hbu:∀ x,v'.busy x↔v.busy x:=fun x=>by unfold LV.busy;rw [hact];grind [cH]
  have hb0:=h.b0 r
  have hcp:v.cp r=0∧Rf.countP (n5 r)=0:=by cases e:v.bf r with|none=>(have:=h.b0 r e;have:=ck0 r;grind [n5])|some x=>(have:=h.b1 r x.1 x.2 e;have:=ck0 r;grind [n5])
  have hho:∀ x,(v.holds x↔v'.holds x):=fun x=>by unfold LV.holds;rw [hst,hbf,cp];grind
  refine { bw:=?zbw,p:=?zp}
  case zbw=>
    intro r1 w1 h1
    have:=h.bw r1 w1
    have:=e3h (v:=v) (r:=r1) (w:=w1);exact bP
  case zp=>
    intro k1 r1 h1
    have:=h.p k1 r1
    rcases this (by grind) with ⟨m,g1,g2⟩|⟨m,g1,g2⟩|⟨m,g1,g2⟩|g2
    · refine .inl ⟨m,?_⟩;exact bP
    · refine .inr (.inl ⟨m,?_⟩);exact bP
    · refine .inr (.inr (.inl ⟨m,?_⟩));exact bP
    · refine .inr (.inr (.inr ?_));exact bP
theorem e0z {v v':LV W} (h:LI v) {r:Int}
    (hst:∀ x,v'.st x=v.st x) (hwd:∀ x,v'.st x≠0→v'.wd x=v.wd x) (hms:∀ x,v'.ms x=v.ms x) (hbf:∀ x,v'.bf x=v.bf x) (hrq:v'.rq.Perm v.rq) {Rf:List (AM W)} (hfly0:v.fly.Perm (.done r::Rf)) (hfly:v'.fly.Perm Rf) (hact:v'.act=none) (ho:v'.o=v.o) (hsh:∀ x,v'.sh x=v.sh x) (hmem:v'.mem=v.mem) (hnow:v'.now=v.now):LI v':=by
  obtain ⟨qm,cg,cp⟩:=a1o hrq
  obtain ⟨fm0,ck0,ct0,ci0,cd0⟩:=o7 hfly0
  obtain ⟨fm,ck,ct,ci,cd⟩:=b9e hfly
  have hin:=(fm0 _).2 (.inl rfl)
  obtain ⟨k0,hac⟩:∃ k,v.act=some (k,r):=by cases e:v.act with|none=>(have:=h.f0 e _ hin;grind)|some a=>(have:=h.aK a.1 a.2 e;have:=h.f1 a.2;have:=h.f2 a.2;exact ⟨a.1,by grind⟩)
  have hp:=h.p k0 r hac
  have hcd:=d4e hin rfl
  have hpz:v.ct=0∧v.cd=1∧v.ci=0:=by grind
  have hnb:∀ x,¬v.busy x:=fun x ⟨k,e,z⟩=>by omega
  have hnb':=e8 hact
  have hR:∀ x∈Rf,bQ x=false∧qF x=false∧cH x=false:=fun x hx=>⟨by have:=List.countP_eq_zero.1 (by grind [bQ]:Rf.countP bQ=0) x hx;simpa using this,by have:=List.countP_eq_zero.1 (by grind [qF]:Rf.countP qF=0) x hx;simpa using this,by have:=List.countP_eq_zero.1 (by grind [cH]:Rf.countP cH=0) x hx;simpa using this⟩
  have haK:=h.aK _ _ hac
  have hho:∀ x,(v.holds x↔v'.holds x):=fun x=>by unfold LV.holds;rw [hst,hbf,cp]
  refine { f0:=?zf0,k:=?zk}
  case zf0=>
    intro h1 x hx
    have:=h.f0
    have:=h.f1 r;have:=h.f2 r;have:=hR x ((fm x).1 hx);grind [bQ,qF,cH]
  case zk=>
    intro c1 h1
    have:=h.k c1
    have:=h.k c1;have f:=fun n=>a3a (v:=v) (x:= .fwd 2 c1 r n);have f2:=b3v (v:=v) (x:= .inv c1 r);grind [bQ,qF]
theorem e6i {v v':LV W} (h:LI v) {r:Int} {m:AMs W} (hm:v.ms r=some m) (hw:m.ow=true)
    (hst:∀ x,v'.st x=v.st x) (hwd:∀ x,v'.st x≠0→v'.wd x=v.wd x) (hms:∀ x,v'.ms x=if x=r then none else v.ms x) (hbf:∀ x,v'.bf x=v.bf x) (hrq:v'.rq.Perm v.rq) (hfly:v'.fly.Perm (.done r::v.fly)) (hact:v'.act=v.act) (ho:v'.o=v.o) (hsh:∀ x,v'.sh x=v.sh x) (hmem:v'.mem=v.mem) (hnow:v'.now=v.now):LI v':=by
  obtain ⟨qm,cg,cp⟩:=a1o hrq
  obtain ⟨fm,ck,ct,ci,cd⟩:=b3t hfly
  have hbr:v.busy r:=Classical.byContradiction fun hb=>by have:=(h.g1 r m hm hb).2.2.2.2;rw [hw] at this;cases this
  have hbr0:=hbr
  obtain ⟨k0,hac,hcd⟩:=hbr0
  have haK:=h.aK _ _ hac
  have hp:m.kind=k0∧v.ct=0∧v.ci=0:=by rcases h.p k0 r hac with ⟨m1,g1,g2⟩|⟨m1,g1,g2⟩|⟨m1,g1,g2⟩|g2<;>grind
  have hbu:∀ x,¬v'.busy x:=fun x ⟨k,e,z⟩=>by grind [cH]
  have hct:=fun x=>a3a (v:=v) (x:=x)
  have hgA:=h.gA r hbr
  have hho:∀ x,(v.holds x↔v'.holds x):=fun x=>by unfold LV.holds;rw [hst,hbf,cp]
  have hon:∀ x,x≠r→¬v.busy x:=fun x hx ⟨k,e,z⟩=>by grind
  refine { g1:=?zg1,gk:=?zgk}
  case zg1=>
    intro r1 m1 h1 h2
    have:=h.g1 r1 m1
    have:=hon r1;exact bP
  case zgk=>
    intro k1 r1 h1
    have:=h.gk k1 r1
    have:=e3i (v:=v) (k:=k1) (r:=r1);exact bP
end
end
section
section
variable {W:Type}
theorem e1a {v v':LV W} (h:LI v) {r:Int} {w:W} (ha:v.act=none) (hO:v.o=r)
    (hst:∀ x,v'.st x=v.st x) (hwd:∀ x,v'.st x≠0→v'.wd x=v.wd x) (hms:∀ x,v'.ms x=v.ms x) (hbf:∀ x,v'.bf x=v.bf x) {Rq:List (AM W)} (hrq0:v.rq.Perm (.put r w::Rq)) (hrq:v'.rq.Perm Rq) (hfly:v'.fly.Perm (.pack r::v.fly)) (hact:v'.act=v.act) (ho:v'.o= -1) (hsh:∀ x,v'.sh x=v.sh x) (hmem:v'.mem=w) (hnow:v'.now=v.now):LI v':=by
  obtain ⟨qm0,cg0,cp0⟩:=c2t hrq0
  obtain ⟨qm,cg,cp⟩:=c2s hrq
  obtain ⟨fm,ck,ct,ci,cd⟩:=b3t hfly
  have hna:∀ k r,v.act≠some (k,r):=fun k r e=>by rw [ha] at e;cases e
  have hnb:=e8 ha
  obtain ⟨hfr,hct,hci,hcd⟩:=kN h ha
  have hfk:=h.f0 ha
  have hnb':=e8 (v:=v') (by rw [hact];exact ha)
  obtain ⟨l,hb⟩:=h.bw r w ((qm0 _).2 (.inl rfl))
  obtain ⟨b1,b2,b3⟩:=h.b1 r w l hb
  have hrg:=h.rg r
  have hh:=rW h ha (by grind)
  have hw:w=v.now:=by unfold LV.holds at hh;rw [hO] at hh;have:=h.bl r w;grind
  constructor
  case rqk=>intro x hx;have:=h.rqk x;exact bP
  case g0=>intro r1 h1;have:=h.g0 r1;exact bP
  case g1=>intro r1 m1 h1 h2;have:=h.g1 r1 m1;exact bP
  case gk=>intro k1 r1 h1;have:=h.gk k1 r1;exact bP
  case gA=>intro r1 h1;have:=h.gA r1;exact bP
  case aK=>intro k1 r1 h1;have:=h.aK k1 r1;exact bP
  case mK=>intro r1 m1 h1;have:=h.mK r1 m1;exact bP
  case ml=>intro r1 m1 h1 h2;have:=h.ml r1 m1;exact bP
  case b0=>intro r1 h1;have:=h.b0 r1;exact bP
  case b1=>intro r1 w1 l1 h1;have:=h.b1 r1 w1 l1;exact bP
  case bw=>intro r1 w1 h1;have:=h.bw r1 w1;exact bP
  case bl=>intro r1 w1 h1 h2;have:=h.bl r1 w1;exact bP
  case f0=>intro h1 x hx;have:=h.f0;exact bP
  case f1=>intro r1 h1 x hx;have:=h.f1 r1;exact bP
  case f2=>intro r1 h1 x hx;have:=h.f2 r1;exact bP
  case p=>intro k1 r1 h1;have:=h.p k1 r1;exact bP
  case a2=>intro r1 h1;have:=h.a2 r1;exact bP
  case tf=>intro k1 o1 r1 n1 h1;have:=h.tf k1 o1 r1 n1;exact bP
  case td=>intro r1 own1 n1 w1 h1;have:=h.td r1 own1 n1 w1;exact bP
  case tg=>intro r1 n1 h1;have:=h.tg r1 n1;exact bP
  case iv=>intro c1 r1 h1;have:=h.iv c1 r1;exact bP
  case e=>intro c1 h1;have:=h.e c1;exact bP
  case h=>intro h1;have:=h.h;exact bP
  case s=>intro c1 h1 c2 h2;have:=h.s c1;exact bP
  case wn=>intro c1 h1;have:=h.wn c1;exact bP
  case mn=>intro h1;have:=h.mn;exact bP
  case k=>intro c1 h1;have:=h.k c1;exact bP
  case r=>intro c1;have:=h.r c1;exact bP
  case rg=>intro c1 h1;have:=h.rg c1;exact bP
theorem e1b {v v':LV W} (h:LI v) {r:Int} {w:W} (ha:v.act=none) (hO:v.o≠r)
    (hst:∀ x,v'.st x=v.st x) (hwd:∀ x,v'.st x≠0→v'.wd x=v.wd x) (hms:∀ x,v'.ms x=v.ms x) (hbf:∀ x,v'.bf x=v.bf x) {Rq:List (AM W)} (hrq0:v.rq.Perm (.put r w::Rq)) (hrq:v'.rq.Perm Rq) (hfly:v'.fly.Perm (.pack r::v.fly)) (hact:v'.act=v.act) (ho:v'.o=v.o) (hsh:∀ x,v'.sh x=v.sh x) (hmem:v'.mem=v.mem) (hnow:v'.now=v.now):LI v':=by
  obtain ⟨qm0,cg0,cp0⟩:=c2t hrq0
  obtain ⟨qm,cg,cp⟩:=c2s hrq
  obtain ⟨fm,ck,ct,ci,cd⟩:=b3t hfly
  have hna:∀ k r,v.act≠some (k,r):=fun k r e=>by rw [ha] at e;cases e
  have hnb:=e8 ha
  obtain ⟨hfr,hct,hci,hcd⟩:=kN h ha
  have hfk:=h.f0 ha
  have hnb':=e8 (v:=v') (by rw [hact];exact ha)
  obtain ⟨l,hb⟩:=h.bw r w ((qm0 _).2 (.inl rfl))
  obtain ⟨b1,b2,b3⟩:=h.b1 r w l hb
  have hrg:=h.rg r
  have hho:∀ x,x≠r→(v.holds x↔v'.holds x):=fun x hx=>by unfold LV.holds;rw [hst,hbf,cp,cp0];grind [o6]
  constructor
  case rqk=>intro x hx;have:=h.rqk x;exact bP
  case g0=>intro r1 h1;have:=h.g0 r1;exact bP
  case g1=>intro r1 m1 h1 h2;have:=h.g1 r1 m1;exact bP
  case gk=>intro k1 r1 h1;have:=h.gk k1 r1;exact bP
  case gA=>intro r1 h1;have:=h.gA r1;exact bP
  case aK=>intro k1 r1 h1;have:=h.aK k1 r1;exact bP
  case mK=>intro r1 m1 h1;have:=h.mK r1 m1;exact bP
  case ml=>intro r1 m1 h1 h2;have:=h.ml r1 m1;exact bP
  case b0=>intro r1 h1;have:=h.b0 r1;exact bP
  case b1=>intro r1 w1 l1 h1;have:=h.b1 r1 w1 l1;exact bP
  case bw=>intro r1 w1 h1;have:=h.bw r1 w1;exact bP
  case bl=>intro r1 w1 h1 h2;have:=h.bl r1 w1;exact bP
  case f0=>intro h1 x hx;have:=h.f0;exact bP
  case f1=>intro r1 h1 x hx;have:=h.f1 r1;exact bP
  case f2=>intro r1 h1 x hx;have:=h.f2 r1;exact bP
  case p=>intro k1 r1 h1;have:=h.p k1 r1;exact bP
  case a2=>intro r1 h1;have:=h.a2 r1;exact bP
  case tf=>intro k1 o1 r1 n1 h1;have:=h.tf k1 o1 r1 n1;exact bP
  case td=>intro r1 own1 n1 w1 h1;have:=h.td r1 own1 n1 w1;exact bP
  case tg=>intro r1 n1 h1;have:=h.tg r1 n1;exact bP
  case iv=>intro c1 r1 h1;have:=h.iv c1 r1;exact bP
  case e=>intro c1 h1;have:=h.e c1;exact bP
  case h=>intro h1;have:=h.h;exact bP
  case s=>intro c1 h1 c2 h2;have:=h.s c1;exact bP
  case wn=>intro c1 h1;have:=h.wn c1;exact bP
  case mn=>intro h1;have:=h.mn;exact bP
  case k=>intro c1 h1;have:=h.k c1;exact bP
  case r=>intro c1;have:=h.r c1;exact bP
  case rg=>intro c1 h1;have:=h.rg c1;exact bP
theorem d3c {v v':LV W} (h:LI v) {o r n:Int} (hs:2≤v.st o)
    (hst:∀ x,v'.st x=if x=o then 3 else v.st x) (hwd:∀ x,v'.st x≠0→v'.wd x=v.wd x) (hms:∀ x,v'.ms x=v.ms x) (hbf:∀ x,v'.bf x=v.bf x) (hrq:v'.rq.Perm v.rq) {Rf:List (AM W)} (hfly0:v.fly.Perm (.fwd 1 o r n::Rf)) (hfly:v'.fly.Perm (.data r 1 n (v.wd o)::Rf)) (hact:v'.act=v.act) (ho:v'.o=v.o) (hsh:∀ x,v'.sh x=v.sh x) (hmem:v'.mem=v.mem) (hnow:v'.now=v.now):LI v':=by
  obtain ⟨qm,cg,cp⟩:=a1o hrq
  obtain ⟨fm,ck,ct,ci,cd⟩:=o7 hfly
  obtain ⟨fm0,ck0,ct0,ci0,cd0⟩:=o7 hfly0
  have hin:=(fm0 _).2 (.inl rfl)
  obtain ⟨k0,r0,m,hac,hr0,hm,hmk,hmn,hmo,hmg,hgot,hct,hcd,hn,hrr⟩:=kD h hin rfl
  simp only [a9l,b9d] at hrr hn
  subst hrr
  have hk0:k0=1:=by rcases (h.aK _ _ hac).1 with e|e<;>subst e<;>first|rfl|(exfalso;have f1:=h.f1 _ hac _ hin;grind)|(exfalso;have f2:=h.f2 _ hac _ hin;grind)
  subst hk0
  have hR:∀ x∈Rf,bQ x=false:=fun x hx=>by have:=List.countP_eq_zero.1 (by have:=ct0;simp only [bQ] at this;grind:Rf.countP bQ=0) x hx;simpa using this
  have hbu:∀ x,v'.busy x↔v.busy x:=fun x=>by unfold LV.busy;rw [hact];grind [cH]
  have hmr:=h.ml r m hm hmo
  have hbn:v.bf r=none:=by cases e:v.bf r with|none=>rfl|some x=>(have:=(h.b1 r x.1 x.2 e).2.2;rw [hm] at this;cases this)
  have htf:=h.tf _ _ _ _ hin
  obtain ⟨t1,t2,t3,t4,t5⟩:=htf
  have hn0:n=0:=by have:=h.f1 _ hac _ hin;grind
  have hun:=fun d=>tW h (c:=o) (d:=d) hs
  have hw:=h.wn o (om)
  have hho:∀ x,v.holds x↔v'.holds x:=fun x=>by unfold LV.holds;rw [hst,hbf,cp];grind
  constructor
  case rqk=>intro x hx;have:=h.rqk x;exact bP
  case g0=>intro r1 h1;have:=h.g0 r1;exact bP
  case g1=>intro r1 m1 h1 h2;have:=h.g1 r1 m1;exact bP
  case gk=>intro k1 r1 h1;have:=h.gk k1 r1;exact bP
  case gA=>intro r1 h1;have:=h.gA r1;exact bP
  case aK=>intro k1 r1 h1;have:=h.aK k1 r1;exact bP
  case mK=>intro r1 m1 h1;have:=h.mK r1 m1;exact bP
  case ml=>intro r1 m1 h1 h2;have:=h.ml r1 m1;exact bP
  case b0=>intro r1 h1;have:=h.b0 r1;exact bP
  case b1=>intro r1 w1 l1 h1;have:=h.b1 r1 w1 l1;exact bP
  case bw=>intro r1 w1 h1;have:=h.bw r1 w1;exact bP
  case bl=>intro r1 w1 h1 h2;have:=h.bl r1 w1;exact bP
  case f0=>intro h1 x hx;have:=h.f0;exact bP
  case f1=>intro r1 h1 x hx;have:=h.f1 r1;exact bP
  case f2=>intro r1 h1 x hx;have:=h.f2 r1;exact bP
  case p=>intro k1 r1 h1;have:=h.p k1 r1;exact bP
  case a2=>intro r1 h1;have:=h.a2 r1;exact bP
  case tf=>intro k1 o1 r1 n1 h1;have:=h.tf k1 o1 r1 n1;exact bP
  case td=>intro r1 own1 n1 w1 h1;have:=h.td r1 own1 n1 w1;exact bP
  case tg=>intro r1 n1 h1;have:=h.tg r1 n1;exact bP
  case iv=>intro c1 r1 h1;have:=h.iv c1 r1;exact bP
  case e=>intro c1 h1;have:=h.e c1;exact bP
  case h=>intro h1;have:=h.h;exact bP
  case s=>intro c1 h1 c2 h2;have:=h.s c1;exact bP
  case wn=>intro c1 h1;have:=h.wn c1;exact bP
  case mn=>intro h1;have:=h.mn;exact bP
  case k=>intro c1 h1;have:=h.k c1;exact bP
  case r=>intro c1;have:=h.r c1;exact bP
  case rg=>intro c1 h1;have:=h.rg c1;exact bP
theorem d3d {v v':LV W} (h:LI v) {o r n:Int} {w:W} (hs:v.st o<2) (hb:v.bf o=some (w,true))
    (hst:∀ x,v'.st x=v.st x) (hwd:∀ x,v'.st x≠0→v'.wd x=v.wd x) (hms:∀ x,v'.ms x=v.ms x) (hbf:∀ x,v'.bf x=v.bf x) (hrq:v'.rq.Perm v.rq) {Rf:List (AM W)} (hfly0:v.fly.Perm (.fwd 1 o r n::Rf)) (hfly:v'.fly.Perm (.data r 1 n w::Rf)) (hact:v'.act=v.act) (ho:v'.o=v.o) (hsh:∀ x,v'.sh x=v.sh x) (hmem:v'.mem=v.mem) (hnow:v'.now=v.now):LI v':=by
  obtain ⟨qm,cg,cp⟩:=a1o hrq
  obtain ⟨fm,ck,ct,ci,cd⟩:=o7 hfly
  obtain ⟨fm0,ck0,ct0,ci0,cd0⟩:=o7 hfly0
  have hin:=(fm0 _).2 (.inl rfl)
  obtain ⟨k0,r0,m,hac,hr0,hm,hmk,hmn,hmo,hmg,hgot,hct,hcd,hn,hrr⟩:=kD h hin rfl
  simp only [a9l,b9d] at hrr hn
  subst hrr
  have hk0:k0=1:=by rcases (h.aK _ _ hac).1 with e|e<;>subst e<;>first|rfl|(exfalso;have f1:=h.f1 _ hac _ hin;grind)|(exfalso;have f2:=h.f2 _ hac _ hin;grind)
  subst hk0
  have hR:∀ x∈Rf,bQ x=false:=fun x hx=>by have:=List.countP_eq_zero.1 (by have:=ct0;simp only [bQ] at this;grind:Rf.countP bQ=0) x hx;simpa using this
  have hbu:∀ x,v'.busy x↔v.busy x:=fun x=>by unfold LV.busy;rw [hact];grind [cH]
  have hmr:=h.ml r m hm hmo
  have hbn:v.bf r=none:=by cases e:v.bf r with|none=>rfl|some x=>(have:=(h.b1 r x.1 x.2 e).2.2;rw [hm] at this;cases this)
  have htf:=h.tf _ _ _ _ hin
  obtain ⟨t1,t2,t3,t4,t5⟩:=htf
  have hn0:n=0:=by have:=h.f1 _ hac _ hin;grind
  have hcp:v.cp o=1:=by unfold LV.holds at t3;grind
  have hw:=h.bl o w hb hcp
  have hun:=fun d (hd:2≤v.st d)=>tW h (c:=d) (d:=o) hd (.inr ⟨w,hb,hcp⟩)
  have hho:∀ x,v.holds x↔v'.holds x:=fun x=>by unfold LV.holds;rw [hst,hbf,cp]
  constructor
  case rqk=>intro x hx;have:=h.rqk x;exact bP
  case g0=>intro r1 h1;have:=h.g0 r1;exact bP
  case g1=>intro r1 m1 h1 h2;have:=h.g1 r1 m1;exact bP
  case gk=>intro k1 r1 h1;have:=h.gk k1 r1;exact bP
  case gA=>intro r1 h1;have:=h.gA r1;exact bP
  case aK=>intro k1 r1 h1;have:=h.aK k1 r1;exact bP
  case mK=>intro r1 m1 h1;have:=h.mK r1 m1;exact bP
  case ml=>intro r1 m1 h1 h2;have:=h.ml r1 m1;exact bP
  case b0=>intro r1 h1;have:=h.b0 r1;exact bP
  case b1=>intro r1 w1 l1 h1;have:=h.b1 r1 w1 l1;exact bP
  case bw=>intro r1 w1 h1;have:=h.bw r1 w1;exact bP
  case bl=>intro r1 w1 h1 h2;have:=h.bl r1 w1;exact bP
  case f0=>intro h1 x hx;have:=h.f0;exact bP
  case f1=>intro r1 h1 x hx;have:=h.f1 r1;exact bP
  case f2=>intro r1 h1 x hx;have:=h.f2 r1;exact bP
  case p=>intro k1 r1 h1;have:=h.p k1 r1;exact bP
  case a2=>intro r1 h1;have:=h.a2 r1;exact bP
  case tf=>intro k1 o1 r1 n1 h1;have:=h.tf k1 o1 r1 n1;exact bP
  case td=>intro r1 own1 n1 w1 h1;have:=h.td r1 own1 n1 w1;exact bP
  case tg=>intro r1 n1 h1;have:=h.tg r1 n1;exact bP
  case iv=>intro c1 r1 h1;have:=h.iv c1 r1;exact bP
  case e=>intro c1 h1;have:=h.e c1;exact bP
  case h=>intro h1;have:=h.h;exact bP
  case s=>intro c1 h1 c2 h2;have:=h.s c1;exact bP
  case wn=>intro c1 h1;have:=h.wn c1;exact bP
  case mn=>intro h1;have:=h.mn;exact bP
  case k=>intro c1 h1;have:=h.k c1;exact bP
  case r=>intro c1;have:=h.r c1;exact bP
  case rg=>intro c1 h1;have:=h.rg c1;exact bP
end
end
end Go.Sx
