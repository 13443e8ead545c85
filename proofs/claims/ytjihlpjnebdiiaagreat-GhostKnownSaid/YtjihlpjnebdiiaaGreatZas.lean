/- MaJ, GhP, Ca4: several of my texts as one. My own work. -/
import Derived.Test.YtjihlpjnebdiiaaGreatZar
set_option linter.unusedVariables false
set_option linter.unusedSectionVars false
set_option linter.unusedSimpArgs false
set_option maxRecDepth 100000
set_option maxHeartbeats 4000000
namespace Go.Sx
open Go Go.Proofs
section
structure MaI (c:Cfg) (ps:List (List Op3)) (n:Nat) (s:MaS):Prop where
  l:MaL c n s
  f:wP c s
  t:LT c s
  o:s.odd=0
  p:MaT c ps (rP s)
section
variable {c:Cfg} {ps:List (List Op3)} {n:Nat} {s:MaS}
theorem a5r {d:Int} {x:HomS} (hf:wP c s) (hx:HmF c x):wP c (dI s d x):=by
  intro y hy
  rcases List.mem_or_eq_of_mem_set hy with g|rfl
  · exact hf y g
  · exact hx
theorem d5l {i w:Int}:(c9 c s i w).hs=s.hs∧(c9 c s i w).odd=s.odd:=by
  unfold c9
  split
  · exact ⟨rfl,rfl⟩
  · split
    · exact ⟨rfl,rfl⟩
    · split
      · split<;>exact ⟨rfl,rfl⟩
      · split
        · unfold mY;split<;>exact ⟨rfl,rfl⟩
        · split
          · exact ⟨rfl,rfl⟩
          · split
            · exact ⟨rfl,rfl⟩
            · split
              · unfold b8v;split<;>exact ⟨rfl,rfl⟩
              · exact ⟨rfl,rfl⟩
theorem c4b {i d:Int}:(fM c s i d).hs=s.hs∧(fM c s i d).odd=s.odd:=by
  unfold fM
  split
  · exact ⟨rfl,rfl⟩
  · split<;>exact ⟨rfl,rfl⟩
theorem c4c (m:Msg):(dN c s m).hs=s.hs:=by unfold dN;split<;>rfl
theorem d9l (m:Msg):(kK c s m).hs=s.hs:=by
  unfold kK
  split
  · unfold mY;split<;>rfl
  · rfl
theorem d9m {x:Nets} {k i:Int} (h:jN x k i=true):k=0∨k=1∨k=2:=by
  have hm:=d8 h
  unfold l4 at hm
  by_cases h0:k=0
  · exact .inl h0
  · rw [if_neg h0] at hm
    by_cases h1:k=1
    · exact .inr (.inl h1)
    · rw [if_neg h1] at hm
      by_cases h2:k=2
      · exact .inr (.inr h2)
      · rw [if_neg h2] at hm;cases hm
theorem e5f {k i:Int} (hl:MaL c n s) (hf:wP c s) (ht:LT c s):wP c (eX c s k i)∧LT c (eX c s k i)∧(eX c s k i).odd=s.odd:=by
  unfold eX
  split
  · exact ⟨hf,ht,rfl⟩
  · rename_i g
    have hb:jN s.n k i=true:=by cases e:jN s.n k i with|true=>rfl|false=>exact absurd (.inl e) g
    have hmem:=hl.nt k _ (d8 hb)
    rcases d9m hb with rfl|rfl|rfl
    · rw [if_pos rfl]
      have hh:cE (bD s.n 0 i).kind:=by
        have:=hmem.2
        unfold dJ at this
        unfold cE
        split at this
        · exact .inl (by assumption)
        · split at this
          · omega
          · split at this<;>omega
      split
      · rename_i he
        exact ⟨a5r (s:=s) hf (d1o (zC hf hl (pY hmem.1 hh))),e4a ht hl hb rfl he,rfl⟩
      · exact ⟨hf,ht,rfl⟩
    · rw [if_neg (by decide),if_pos rfl]
      have h2:cA c s.n 2≠0:=fun e=>g (.inr ⟨rfl,e⟩)
      obtain ⟨a,b⟩:=d7t ht hl hb h2
      refine ⟨?_,a,b⟩
      unfold wP
      rw [c4c];exact hf
    · rw [if_neg (by decide),if_neg (by decide)]
      split
      · rename_i h11
        obtain ⟨a,b⟩:=d7x ht hl hf hb rfl h11
        refine ⟨?_,a,b⟩
        have hr:=pY hmem.1 (.inr h11)
        exact a5r (s:=gI s (aL s.n 2 i)) hf (d1n (zC hf hl hr))
      · rename_i h11
        obtain ⟨a,b⟩:=d7u ht hl hb h11
        refine ⟨?_,a,b⟩
        unfold wP
        rw [d9l,c4c];exact hf
theorem a5s {d j:Int}:(dG c s d j).hs=(dI s d (bY c (dH s d) j (d6p c s))).hs∧(dG c s d j).odd=s.odd:=by
  unfold dG;split<;>exact ⟨rfl,rfl⟩
theorem d9n {d j:Int} (hl:MaL c n s) (hf:wP c s) (ht:LT c s) (hd:0≤d∧d<c.homes):wP c (dG c s d j)∧LT c (dG c s d j)∧(dG c s d j).odd=s.odd:=by
  have hF:=zC hf hl hd
  cases hr:eJ (dH s d).q j with
  |true=>
   obtain ⟨a,b⟩:=d9k ht hl hf hd hr
   refine ⟨?_,a,a5s.2⟩
   unfold wP
   rw [a5s.1]
   exact a5r hf b
  |false=>
   cases hg:i5 (dH s d) j (d6p c s) with
   |true=>
    refine ⟨?_,d9e ht hl hf hd hr hg,a5s.2⟩
    unfold wP
    rw [a5s.1]
    refine a5r hf ?_
    unfold bY
    rw [hr,hg]
    exact d1m hF j
   |false=>
    have:dG c s d j=s:=c7z (by unfold xV oH;rw [hr,hg];rfl)
    rw [this];exact ⟨hf,ht,rfl⟩
theorem d9o (hl:MaL c n s) (hf:wP c s) (ht:LT c s) (p:Pk):wP c (d5 c s p)∧LT c (d5 c s p)∧(d5 c s p).odd=s.odd:=by
  have hlk:=hl.lk
  have hlh:=hl.lh
  unfold d5
  split
  · exact ⟨hf,ht,rfl⟩
  · rename_i g
    split
    · exact e5f hl hf ht
    · split
      · rename_i g2
        have:=g2.2
        simp only [c8z,decide_eq_true_eq] at this
        exact d9n hl hf ht (om)
      · split
        · rename_i g3
          have:=g3.2
          simp only [c8z,decide_eq_true_eq] at this
          exact ⟨by unfold wP;rw [d5l.1];exact hf,e3s ht hl (om),d5l.2⟩
        · split
          · rename_i g4
            have:=g4.2
            simp only [c8z,decide_eq_true_eq] at this
            exact ⟨by unfold wP;rw [c4b.1];exact hf,d7g ht hl (om),c4b.2⟩
          · exact ⟨hf,ht,rfl⟩
theorem MaI.pick (h:MaI c ps n s) (p:Pk):MaI c ps (n+1) (d5 c s p):=by
  obtain ⟨a,b,e⟩:=d9o h.l h.f h.t p
  exact ⟨h.l.pick p,a,b,e.trans h.o,h.p.step (c4w h.l p)⟩
theorem MaI.picks (h:MaI c ps n s) (l:List Pk):MaI c ps (n+l.length) (eY c s l):=by
  unfold eY
  induction l generalizing n s with
  |nil=>exact h
  |cons p l ih=>
   rw [List.foldl_cons,List.length_cons]
   have:=ih (h.pick p)
   rw [show n+(l.length+1)=n+1+l.length by omega]
   exact this
theorem MaI.new (h:a6v c ps=true):MaI c ps 0 (cW c ps):=by
  have hc:aF c=true:=by simp only [a6v,Bool.and_eq_true] at h;exact h.1.1
  refine ⟨MaL.new h,fun x hx=>?_,e3v hc,rfl,MaT.new⟩
  obtain ⟨i,_,rfl⟩:=List.mem_map.1 hx
  exact d9g c _ hc
end
end
section
def rJ (c:Cfg) (line:Int):Bool:=decide (line<0)|| decide (line≥c.lines)
def a8z (c:Cfg) (p:Nat→Bool):Nat:=(List.range c.cores.toNat).countP p
def iU (c:Cfg) (s:MaS) (line:Int) (i:Nat):Way:=aT c (s.cs.getD i caZ).ways line
def c8o (w:Way):Bool:=decide (w.st≠0)
def e9x (w:Way):Bool:=decide (w.st=2∨w.st=4)
def d6q (w:Way):Bool:=decide (2≤w.st)
def rK (own:Int):Bool:=decide (own=2∨own=4)
def a0n (c:Cfg) (s:MaS) (line:Int):Bool:=rJ c line|| decide (a8z c (fun i=>e9x (iU c s line i))=0)|| decide (a8z c (fun i=>c8o (iU c s line i))=1)
def b7x (s:MaS) (line:Int) (i:Nat):Bool:=(s.cs.getD i caZ).mis.any fun m=>decide (m.line=line)&& decide (0≤m.needs)&& rK m.own&& !m.granted&& !m.owes
def d9p (s:MaS) (line:Int):Nat:=(vU s.n line).countP fun m=>decide (m.kind=7)&& rK m.own
def pM (c:Cfg) (s:MaS) (line:Int):Nat:=a8z c (fun i=>d6q (iU c s line i))+d9p s line+a8z c (b7x s line)
def a8m (c:Cfg) (s:MaS) (line:Int):Bool:=rJ c line|| decide (pM c s line≤1)
def c0n (s:MaS) (line:Int) (i:Nat):Bool:=(s.cs.getD i caZ).mis.any fun m=>decide (m.line=line)&& decide (0≤m.needs)
def e7n (c:Cfg) (s:MaS) (line:Int):HomS:=s.hs.getD (line.tmod c.homes).toNat zA
def n9 (c:Cfg) (s:MaS) (line:Int):Bool:=
  rJ c line|| ((vU s.n line).all (fun m=>decide (¬m.kind>3))&& (e7n c s line).q.all (fun e=> !(e.st&& decide (e.m.line=line)))&& decide (a8z c (c0n s line)=0))
def c0o (c:Cfg) (s:MaS) (line:Int):Words:=Words.of ((List.range c.words.toNat).map fun (i:Nat)=>c1q c s.tr (line*c.words+i))
def a5t (s:MaS) (line:Int) (i:Nat):Bool:=(s.cs.getD i caZ).buf.any fun b=>decide (b.line=line)&& b.live
def a8n (c:Cfg) (s:MaS) (line:Int):Bool:=
  rJ c line|| (decide (a8z c (fun i=>c8o (iU c s line i)&& decide ((iU c s line i).words≠c0o c s line))=0)&&
    (decide (0<a8z c (a5t s line))|| decide (0<pM c s line)|| !n9 c s line|| decide (sE c (e7n c s line) line=c0o c s line)))
def a8o (c:Cfg) (s:MaS) (line:Int):Bool:=
  rJ c line|| !n9 c s line|| decide (a8z c (fun i=>d6q (iU c s line i)&& decide ((aJ (e7n c s line) line).o≠i)|| c8o (iU c s line i)&& decide ((aJ (e7n c s line) line).o≠i)&& !bN (aJ (e7n c s line) line).s i)=0)
theorem sD {c:Cfg} {p:Nat→Bool}:a8z c p=0↔∀ i:Nat,(i:Int)<c.cores→p i=false:=by
  unfold a8z
  rw [List.countP_eq_zero]
  constructor
  · intro h i hi
    have:=h i (List.mem_range.2 (om))
    simpa using this
  · intro h i hi
    have:=h i (by have:=List.mem_range.1 hi;omega)
    simp [this]
theorem d9q {p:Nat→Bool} {n:Nat} (h:∀ i j,i<n→j<n→p i=true→p j=true→i=j):(List.range n).countP p≤1:=by
  induction n with
  |zero=>simp
  |succ n ih=>
   rw [List.range_succ,List.countP_append,List.countP_singleton]
   have:=ih fun i j hi hj=>h i j (om) (om)
   split
   · rename_i hn
     have:(List.range n).countP p=0:=by
       rw [List.countP_eq_zero]
       intro i hi
       have hi':=List.mem_range.1 hi
       intro hp
       have:=h i n (om) (om) hp hn
       omega
     omega
   · omega
theorem b3b {c:Cfg} {p:Nat→Bool} (h:∀ i j:Nat,(i:Int)<c.cores→(j:Int)<c.cores→p i=true→p j=true→i=j):a8z c p≤1:=d9q fun i j hi hj=>h i j (om) (om)
theorem d9r {c:Cfg} {p:Nat→Bool} {i:Nat} (hi:(i:Int)<c.cores) (hp:p i=true):1≤a8z c p:=List.countP_pos_iff.2 ⟨i,List.mem_range.2 (om),hp⟩
theorem b7y {c:Cfg} {p:Nat→Bool} (h:a8z c p≠0):∃ i:Nat,(i:Int)<c.cores∧p i=true:=by
  obtain ⟨i,hi,hp⟩:=List.countP_pos_iff.1 (Nat.pos_of_ne_zero h)
  exact ⟨i,by have:=List.mem_range.1 hi;omega,hp⟩
section
variable {c:Cfg} {ps:List (List Op3)} {n:Nat} {s:MaS} {line:Int}
theorem a5u (hc:aF c=true) (h:rJ c line=false):aP c line=true:=by
  unfold rJ at h
  simp only [Bool.or_eq_false_iff,decide_eq_false_iff_not] at h
  unfold aP
  rw [hc,decide_eq_true (om)];rfl
theorem v9 (i:Nat):(dX c s line).st i=(iU c s line i).st∧(dX c s line).wd i=(iU c s line i).words:=by
  have e:eV s (i:Int)=s.cs.getD i caZ:=by
    unfold eV cI
    rw [if_pos (om),Int.toNat_natCast]
  constructor
  · show y7 c (eV s (i:Int)) line=_;rw [e];rfl
  · show b4u c (eV s (i:Int)) line=_;rw [e];rfl
theorem e2u (i:Nat):eV s (i:Int)=s.cs.getD i caZ:=by
  unfold eV cI
  rw [if_pos (om),Int.toNat_natCast]
theorem a5v (h:MaI c ps n s):a0n c s line=true:=by
  unfold a0n
  cases hn:rJ c line with
  |true=>rfl
  |false=>
   have hLI:=(h.t.1 _ (a5u h.l.ok hn)).1
   rw [Bool.false_or]
   by_cases h0:a8z c (fun i=>e9x (iU c s line i))=0
   · rw [decide_eq_true h0];rfl
   · obtain ⟨i,hi,hp⟩:=b7y h0
     have hp':=of_decide_eq_true hp
     rw [←(v9 (c:=c) (s:=s) (line:=line) i).1] at hp'
     have hs:=hLI.s i hp'
     have h1:a8z c (fun i=>c8o (iU c s line i))≤1:=b3b fun a b ha hb pa pb=>by
       have pa':=of_decide_eq_true pa
       have pb':=of_decide_eq_true pb
       rw [←(v9 (c:=c) (s:=s) (line:=line) a).1] at pa'
       rw [←(v9 (c:=c) (s:=s) (line:=line) b).1] at pb'
       have ea:(a:Int)=i:=Decidable.byContradiction fun e=>pa' (hs a e)
       have eb:(b:Int)=i:=Decidable.byContradiction fun e=>pb' (hs b e)
       omega
     have h2:1≤a8z c (fun i=>c8o (iU c s line i)):=d9r hi (decide_eq_true (by rw [←(v9 (c:=c) (s:=s) (line:=line) i).1];omega))
     rw [decide_eq_true (show a8z c (fun i=>c8o (iU c s line i))=1 by omega),Bool.or_true]
theorem d9s (hLI:LI (dX c s line)):a8z c (fun i=>d6q (iU c s line i))≤1:=b3b fun a b ha hb pa pb=>by
  have pa':=of_decide_eq_true pa
  have pb':=of_decide_eq_true pb
  rw [←(v9 (c:=c) (s:=s) (line:=line) a).1] at pa'
  rw [←(v9 (c:=c) (s:=s) (line:=line) b).1] at pb'
  have:=tW hLI pa' (.inl pb')
  omega
theorem d1w (hl:MaL c n s) {m:Msg} (hm:m∈lV s.n):d6 c m∧(dJ m.kind≠0→m∈s.n.l1++s.n.l2)∧(dJ m.kind=0→m∈s.n.l0):=by
  unfold lV at hm
  rcases List.mem_append.1 hm with g|g
  · rcases List.mem_append.1 g with g|g
    · have:=hl.nt 0 m g
      exact ⟨this.1,fun e=>absurd this.2 e,fun _=>g⟩
    · have:=hl.nt 1 m g
      exact ⟨this.1,fun _=>List.mem_append_left _ g,fun e=>by omega⟩
  · have:=hl.nt 2 m g
    exact ⟨this.1,fun _=>List.mem_append_right _ g,fun e=>by omega⟩
theorem e5g (hl:MaL c n s) {m:Msg} (hm:m∈vU s.n line) (hk:4≤m.kind):pW m∈(dX c s line).fly:=by
  obtain ⟨h1,h2⟩:=List.mem_filter.1 hm
  obtain ⟨a,b,_⟩:=d1w hl h1
  have hk':=a.2.1
  have:dJ m.kind≠0:=by unfold dJ;rw [if_neg (om)];split<;>(try split)<;>omega
  show _∈(b4t line (s.n.l1++s.n.l2)++oP line (aO c s line).q).map pW
  exact List.mem_map.2 ⟨m,List.mem_append_left _ (List.mem_filter.2 ⟨b this,h2⟩),rfl⟩
theorem d5m {m:Msg} (hk:m.kind=7):pW m= .data m.dst m.own m.acks m.words:=by
  unfold pW
  rw [if_neg (om),if_neg (om),if_neg (om),if_neg (om),if_neg (om),if_pos hk]
theorem b1x {α:Type} {p q:α→Bool} {l:List α} (h:∀ x∈l,p x=true→q x=true):l.countP p≤l.countP q:=List.countP_mono_left h
theorem e5h (hl:MaL c n s):d9p s line≤(dX c s line).ct:=by
  unfold d9p LV.ct
  have e:(dX c s line).fly=(b4t line (s.n.l1++s.n.l2)++oP line (aO c s line).q).map pW:=rfl
  rw [e,List.countP_map,List.countP_append]
  have h1:(vU s.n line).countP (fun m=>decide (m.kind=7)&& rK m.own)≤(b4t line (s.n.l1++s.n.l2)).countP (bQ∘pW):=by
    unfold vU lV b4t
    rw [List.filter_append,List.filter_append,List.countP_append,List.countP_append,List.filter_append,List.countP_append]
    have a0:(s.n.l0.filter fun m=>decide (m.line=line)).countP (fun m=>decide (m.kind=7)&& rK m.own)=0:=by
      rw [List.countP_eq_zero]
      intro m hm
      have:=(hl.nt 0 m (List.mem_filter.1 hm).1).2
      have:m.kind≠7:=fun e=>by rw [e] at this;exact absurd this (by decide)
      simp [this]
    have key:∀ l:List Msg,(l.filter fun m=>decide (m.line=line)).countP (fun m=>decide (m.kind=7)&& rK m.own)≤(l.filter fun m=>decide (m.line=line)).countP (bQ∘pW):=fun l=>b1x fun m _ hp=>by
      have hk:m.kind=7:=by simp at hp;exact hp.1
      show bQ (pW m)=true
      rw [d5m hk];rfl
    have:=key s.n.l1
    have:=key s.n.l2
    omega
  omega
theorem e8k (i:Nat):(dX c s line).ms i=((fk d5z (s.cs.getD i caZ).mis line).map e9q):=by
  show a1h (eV s (i:Int)) line=_
  rw [e2u];rfl
theorem d1x (h:MaI c ps n s) (i:Nat) {m:Miss} (hm:m∈(s.cs.getD i caZ).mis) (hl:m.line=line):(dX c s line).ms i=some (e9q m):=by
  rw [e8k]
  have hx:=h.l.cai (i:Int)
  have e:cI s (i:Int)=s.cs.getD i caZ:=by unfold cI;rw [Int.toNat_natCast]
  rw [e] at hx
  obtain ⟨j,hj,rfl⟩:=List.getElem_of_mem hm
  have hnd:((s.cs.getD i caZ).mis.map d5z).Nodup:=hx.2.1.nd
  have:=c2l (f:=d5z) hj fun k hk hkj e=>by
    exact (List.pairwise_iff_getElem.1 hnd) k j (by simpa using hk) (by simpa using hj) hkj (by simpa using e)
  rw [←hl]
  have e2:d5z (s.cs.getD i caZ).mis[j]=(s.cs.getD i caZ).mis[j].line:=rfl
  rw [e2] at this
  rw [this];rfl
theorem d1y {α:Type} {l:List α} {p:α→Bool} (h:l.any p=true):∃ x∈l,p x=true:=List.any_eq_true.1 h
theorem b0m (h:MaI c ps n s):a8m c s line=true:=by
  unfold a8m
  cases hn:rJ c line with
  |true=>rfl
  |false=>
   have hLI:=(h.t.1 _ (a5u h.l.ok hn)).1
   rw [Bool.false_or]
   refine decide_eq_true ?_
   unfold pM
   have hA:=d9s (c:=c) hLI
   have hD:=e5h (line:=line) h.l
   have hmis:∀ i:Nat,b7x s line i=true→∃ m,(dX c s line).ms i=some m∧m.needs≠ -1∧(m.own=2∨m.own=4)∧m.gr=false∧m.ow=false:=fun i hi=>by
     obtain ⟨m,hm,hp⟩:=d1y hi
     simp [rK] at hp
     refine ⟨e9q m,d1x h i hm hp.1.1.1.1,?_,hp.1.1.2,hp.1.2,hp.2⟩
     show m.needs≠ -1
     omega
   have hbusy:∀ i:Nat,b7x s line i=true→∃ k,(dX c s line).act=some (k,(i:Int))∧(dX c s line).cd=0:=fun i hi=>by
     obtain ⟨m,g1,g2,_⟩:=hmis i hi
     refine Classical.byContradiction fun hb=>?_
     exact g2 (hLI.g1 _ m g1 hb).2.1
   have hM:a8z c (b7x s line)≤1:=b3b fun a b ha hb pa pb=>by
     obtain ⟨k,e1,_⟩:=hbusy a pa
     obtain ⟨k',e2,_⟩:=hbusy b pb
     rw [e1] at e2
     cases e2;omega
   by_cases hM0:a8z c (b7x s line)=0
   · by_cases hD0:d9p s line=0
     · omega
     · obtain ⟨m,hm,hp⟩:=List.countP_pos_iff.1 (Nat.pos_of_ne_zero hD0)
       simp [rK] at hp
       have hf:=e5g h.l hm (om)
       rw [d5m hp.1] at hf
       have hct:(dX c s line).ct=1:=by
         obtain ⟨_,_,_,_,_,_,_,_,_,_,_,h1,_⟩:=kD hLI hf rfl
         exact h1
       have htd:=hLI.td _ _ _ _ hf
       have hst:∀ x,(dX c s line).st x<2:=fun x=>by
         rcases hp.2 with g|g
         · rw [(htd.2.2.2.1 g).1 x];omega
         · exact (htd.2.2.2.2 g).1 x
       have hA0:a8z c (fun i=>d6q (iU c s line i))=0:=sD.2 fun i hi=>by
         have:=hst i
         rw [(v9 (c:=c) (s:=s) (line:=line) i).1] at this
         exact decide_eq_false (om)
       omega
   · obtain ⟨i,hi,hp⟩:=b7y hM0
     obtain ⟨k,e1,e2⟩:=hbusy i hp
     obtain ⟨m,g1,g2,g3,g4,g5⟩:=hmis i hp
     have key:(dX c s line).ct=0∧∀ x,(dX c s line).st x<2:=by
       rcases hLI.p k _ e1 with ⟨a,b⟩|⟨a,b⟩|⟨a,b⟩|b
       · have:a=m:=by have:=b.1.symm.trans g1;cases this;rfl
         subst this
         exact absurd b.2.2.1 g2
       · have:a=m:=by have:=b.1.symm.trans g1;cases this;rfl
         subst this
         obtain ⟨b1,b2,b3,b4,b5,b6,b7,b8,b9,b10,b11,b12,b13,b14⟩:=b
         refine ⟨b6,fun x=>?_⟩
         rcases g3 with g|g
         · rw [(b13 g).1 x];omega
         · exact (b14 g).2 g4 x
       · have:a=m:=by have:=b.1.symm.trans g1;cases this;rfl
         subst this
         rw [b.2.2.2.2.1] at g5;cases g5
       · omega
     have hA0:a8z c (fun i=>d6q (iU c s line i))=0:=sD.2 fun i hi=>by
       have:=key.2 i
       rw [(v9 (c:=c) (s:=s) (line:=line) i).1] at this
       exact decide_eq_false (om)
     omega
theorem c2g (hc:aF c=true) (hl:aP c line=true):e7n c s line=aO c s line:=by
  unfold e7n aO dH
  have hl':=hl
  unfold aP at hl'
  simp only [Bool.and_eq_true,decide_eq_true_eq] at hl'
  have:dA c line=line.tmod c.homes:=by unfold dA;rw [if_pos hl,Int.tmod_eq_emod_of_nonneg hl'.2.1]
  rw [this]
theorem b0n (h:MaI c ps n s) (hl:aP c line=true) (hn:rJ c line=false) (hr:n9 c s line=true):(dX c s line).act=none:=by
  unfold n9 at hr
  rw [hn,Bool.false_or] at hr
  simp only [Bool.and_eq_true] at hr
  have hq:=hr.1.2
  rw [c2g h.l.ok hl] at hq
  show gX line (aO c s line).q=none
  unfold gX
  rw [Option.map_eq_none_iff,List.find?_eq_none]
  intro e he
  have:=List.all_eq_true.1 hq e he
  simp at this
  intro g
  simp at g
  rcases this with k|k
  · rw [g.1.2] at k;cases k
  · exact k g.1.1
theorem e2v (hl:MaL c n s) {r:Int} (h:(dX c s line).st r≠0∨(dX c s line).bf r≠none):0≤r∧r<c.cores:=by
  have h0:∀ k:CaS,k=caZ→y7 c k line=0∧b2f k line=none:=fun k e=>by
    subst e
    refine ⟨?_,rfl⟩
    unfold y7
    have:caZ.ways=List.replicate 0 .zero:=rfl
    rw [this,qN,c1y];rfl
  have key:eV s r≠caZ:=fun e=>by
    rcases h with h|h
    · exact h (h0 _ e).1
    · exact h (h0 _ e).2
  have h1:0≤r:=Decidable.byContradiction fun g=>key (if_neg g)
  refine ⟨h1,Decidable.byContradiction fun g=>key ?_⟩
  have:=hl.la
  unfold eV cI
  rw [if_pos h1,List.getD_eq_getElem?_getD,List.getElem?_eq_none (om)];rfl
theorem e5i (hc:aF c=true) (hl:aP c line=true):c0o c s line=aI c (jC c s.tr) line:=by
  have hw:=dO hc
  have hl':=hl
  unfold aP at hl'
  simp only [Bool.and_eq_true,decide_eq_true_eq] at hl'
  have hj:dZ c line 0=true:=by unfold dZ;rw [hc,decide_eq_true (om)];rfl
  have hn:=v5 hc s.tr
  obtain ⟨a1,a2,a3,a4⟩:=uF hn hj
  unfold c0o aI
  rw [if_pos hj]
  congr 1
  apply List.ext_getElem (by rw [a2];simp)
  intro i h1 h2
  have hi:i<c.words.toNat:=by simpa using h1
  have hf:eI c line+i<(jC c s.tr).length:=by omega
  rw [List.getElem_map,List.getElem_range]
  have e0:(iT c (jC c s.tr) line)[i]=(jC c s.tr)[eI c line+i]:=by simp [iT]
  rw [e0]
  unfold c1q
  rw [if_pos hc]
  have e:line*c.words+(i:Int)=((eI c line+i:Nat):Int):=by
    have:0≤line*c.words:=Int.mul_nonneg hl'.2.1 (om)
    unfold eI;omega
  rw [e]
  unfold xT b4x
  rw [if_pos (decide_eq_true ⟨om,by exact_mod_cast hf⟩),Int.toNat_natCast,List.getD_eq_getElem?_getD,List.getElem?_eq_getElem hf];rfl
theorem d1z (i:Nat) {w:Words} (h:(dX c s line).bf i=some (w,true)):a5t s line i=true:=by
  have e:(dX c s line).bf i=(fk d6a (s.cs.getD i caZ).buf line).map fun e=>(e.words,e.live):=by
    show b2f (eV s (i:Int)) line=_
    rw [e2u];rfl
  rw [e] at h
  cases g:fk d6a (s.cs.getD i caZ).buf line with
  |none=>rw [g] at h;cases h
  |some b=>
   rw [g] at h
   obtain ⟨g1,g2⟩:=e1c g
   simp at h
   refine List.any_eq_true.2 ⟨b,g1,?_⟩
   have:b.line=line:=g2
   simp [this,h.2]
theorem d2a (h:MaI c ps n s) (hl:aP c line=true) (ha:(dX c s line).act=none) (h1:a8z c (fun i=>d6q (iU c s line i))=0) (h2:a8z c (a5t s line)=0):sE c (aO c s line) line=aI c (jC c s.tr) line:=by
  have hLI:=(h.t.1 _ hl).1
  have ho:(dX c s line).o= -1:=Decidable.byContradiction fun g=>by
    rcases rW hLI ha g with g1|⟨w,g1,g2⟩
    · obtain ⟨r0,r1⟩:=e2v h.l (.inl (show (dX c s line).st (dX c s line).o≠0 by omega))
      obtain ⟨i,hi⟩:∃ i:Nat,(dX c s line).o=i:=⟨(dX c s line).o.toNat,om⟩
      rw [hi] at g1 r1
      rw [(v9 (c:=c) (s:=s) (line:=line) i).1] at g1
      have:=sD.1 h1 i r1
      unfold d6q at this
      exact absurd g1 (of_decide_eq_false this)
    · obtain ⟨r0,r1⟩:=e2v h.l (.inr (show (dX c s line).bf (dX c s line).o≠none by rw [g1];simp))
      obtain ⟨i,hi⟩:∃ i:Nat,(dX c s line).o=i:=⟨(dX c s line).o.toNat,om⟩
      rw [hi] at g1 r1
      have:=sD.1 h2 i r1
      rw [d1z i g1] at this;cases this
  have hm:=hLI.mn ho
  have hm':aI c (aO c s line).ms line=aI c (jC c s.tr) line:=hm
  have hl':=hl
  unfold aP at hl'
  simp only [Bool.and_eq_true,decide_eq_true_eq] at hl'
  have hb:=(iE h.l.ok).2.1
  have eH:dA c line=line % c.homes:=by unfold dA;rw [if_pos hl]
  have r0:=Int.emod_nonneg line (show c.homes≠0 by omega)
  have r1:=Int.emod_lt_of_pos line (show 0<c.homes by omega)
  rw [←eH] at r0 r1
  have hI:=(h.l.hmi r0 r1).1
  have hown:pO (aO c s line) line=true:=by
    show pO (dH s (dA c line)) line=true
    rw [hI.own]
    exact decide_eq_true ⟨hl'.2.1,hl'.2.2,eH.symm⟩
  unfold sE
  rw [if_pos hown];exact hm'
theorem b0o (h:MaI c ps n s):a8n c s line=true:=by
  unfold a8n
  cases hn:rJ c line with
  |true=>rfl
  |false=>
   have hl:=a5u h.l.ok hn
   have hLI:=(h.t.1 _ hl).1
   have hnow:=e5i (s:=s) h.l.ok hl
   rw [Bool.false_or]
   have h1:a8z c (fun i=>c8o (iU c s line i)&& decide ((iU c s line i).words≠c0o c s line))=0:=sD.2 fun i hi=>by
     by_cases g:(iU c s line i).st=0
     · unfold c8o;rw [decide_eq_false (fun f=>f g)];rfl
     · have:=hLI.wn i (by rw [(v9 (c:=c) (s:=s) (line:=line) i).1];exact g)
       rw [(v9 (c:=c) (s:=s) (line:=line) i).2] at this
       have e:(iU c s line i).words=c0o c s line:=by rw [hnow];exact this
       rw [decide_eq_false (fun f=>f e),Bool.and_false]
   rw [decide_eq_true h1,Bool.true_and]
   by_cases h2:0<a8z c (a5t s line)
   · rw [decide_eq_true h2];rfl
   · by_cases h3:0<pM c s line
     · rw [decide_eq_true h3,Bool.or_true];rfl
     · cases h4:n9 c s line with
       |false=>simp
       |true=>
        have ha:=b0n h hl hn h4
        have:=d2a h hl ha (by unfold pM at h3;omega) (om)
        rw [c2g h.l.ok hl,decide_eq_true (this.trans hnow.symm)]
        simp
theorem b0p (h:MaI c ps n s):a8o c s line=true:=by
  unfold a8o
  cases hn:rJ c line with
  |true=>rfl
  |false=>
   have hl:=a5u h.l.ok hn
   have hLI:=(h.t.1 _ hl).1
   rw [Bool.false_or]
   cases h4:n9 c s line with
   |false=>rfl
   |true=>
    have ha:=b0n h hl hn h4
    have hf:=(kN hLI ha).1
    rw [c2g h.l.ok hl]
    refine decide_eq_true (sD.2 fun i hi=>?_)
    have e1:=(v9 (c:=c) (s:=s) (line:=line) i).1
    by_cases g:(iU c s line i).st=0
    · have a1:d6q (iU c s line i)=false:=decide_eq_false (om)
      have a2:c8o (iU c s line i)=false:=decide_eq_false (fun f=>f g)
      rw [a1,a2];rfl
    · by_cases ho:(aJ (aO c s line) line).o=(i:Int)
      · rw [decide_eq_false (fun f=>f ho)];simp
      · have a1:d6q (iU c s line i)=false:=by
          refine decide_eq_false fun f=>?_
          rcases hLI.e i (by rw [e1];exact f) with k|⟨r,m,k⟩
          · exact ho k
          · have:=(hf _ k).1;simp [bQ] at this
        have a2:bN (aJ (aO c s line) line).s i=true:=by
          rcases hLI.k i (by rw [e1];exact g) with k|k|⟨r,k,_⟩
          · exact absurd k ho
          · exact k
          · rw [ha] at k;cases k
        rw [a1,a2];simp
end
end
section
abbrev f1n (m:Msg) (b:Bool):List Value:=[.int .i64 m.kind,.int .i64 m.line,.int .i64 m.src,.int .i64 m.dst,.int .i64 m.who,.int .i64 m.acks,.int .i64 m.own,.int .i64 m.words.w0,.int .i64 m.words.w1,.int .i64 m.words.w2,.int .i64 m.words.w3,.int .i64 m.words.w4,.int .i64 m.words.w5,.int .i64 m.words.w6,.int .i64 m.words.w7,.bool b]
abbrev e8l (m:Msg) (b:Bool):Value:= .agg (f1n m b).toArray
theorem d2b {c:Cfg} {m:Msg} (h:d6 c m):aP c m.line=true:=by
  obtain ⟨h1,_,h2,_⟩:=h
  simp [aP,h1,h2]
attribute [local irreducible] Exit.then Exit.inBlock Code.wp WC WO WE WQ V bF tV d3 bW dF uH IntKind.wrap WR Code.rounds WT KO
theorem yG {Q P:Prop} (k:Q) (h:Hid Q→P:=by
  intro k
  first
  |(refine aG ?_;refine q9 (id:=4) .true (pl:= .p 0 <| .p 1 <| .p 2 <| .p 4 <| .p 6 <| .r 3 <| .r 5 <| .r 7 <| .e true [(8,.done)]) k.out)
  |(refine aG ?_;apply mT (id:=10) .true [] (pl:= .p 0 <| .p 1 <| .p 4 <| .e true [(2,.e true [(3,.e true [(5,.p 6 <| .e false [(7,.p 8 <| .e false [(9,.p 10 <| .e false [(11,.done)])])])]),(5,.p 6 <| .e false [(3,.e false [(7,.p 8 <| .e false [(9,.p 10 <| .e false [(11,.done)])])]),(7,.p 8 <| .e false [(3,.e false [(9,.p 10 <| .e false [(11,.done)])]),(9,.e false [(3,.p 10 <| .e false [(11,.done)])])])])]),(3,.e true [(2,.e true [(5,.p 6 <| .e false [(7,.p 8 <| .e false [(9,.p 10 <| .e false [(11,.done)])])])]),(5,.p 6 <| .e false [(2,.e false [(7,.p 8 <| .e false [(9,.p 10 <| .e false [(11,.done)])])]),(7,.e false [(2,.p 8 <| .e false [(9,.p 10 <| .e false [(11,.done)])])])])]),(5,.p 6 <| .e false [(2,.e false [(3,.e false [(7,.p 8 <| .e false [(9,.p 10 <| .e false [(11,.done)])])]),(7,.p 8 <| .e false [(3,.e false [(9,.p 10 <| .e false [(11,.done)])]),(9,.e false [(3,.p 10 <| .e false [(11,.done)])])])]),(3,.e false [(2,.e false [(7,.p 8 <| .e false [(9,.p 10 <| .e false [(11,.done)])])]),(7,.e false [(2,.p 8 <| .e false [(9,.p 10 <| .e false [(11,.done)])])])]),(7,.e false [(2,.p 8 <| .e false [(3,.e false [(9,.p 10 <| .e false [(11,.done)])]),(9,.e false [(3,.p 10 <| .e false [(11,.done)])])]),(3,.e false [(2,.p 8 <| .e false [(9,.p 10 <| .e false [(11,.done)])])])])])]);exact pN;kernel_rfl;kernel_rfl;exact Ent.nil;exact k.out)):P:=h ⟨k⟩
theorem b7z {F:List HP} {b a f e:Nat} {c:Cfg} {core own st:Int} {m:Msg} {k:CaS} {fk:FuncId} {give:Bool} (hc:aF c=true) (hli:kP m.line)
    (H:∀ F,FnF Tryz.prog fk [.pointer (some ⟨e,0,none⟩),.int .i64 m.line] [Wb e c.writebacks k.buf] F (fun r L'=>r= .tuple [wv (lP k.buf m.line),.int .i64 (kJ k.buf m.line)].toArray∧L'=[Wb e c.writebacks (if give then jL k.buf m.line else k.buf)])) :
    FnF Tryz.prog 217 [.pointer (some ⟨b,0,none⟩),mv m,.int .i64 own,.int .i64 st,.func (.func fk) [.pointer (some ⟨e,0,none⟩)].toArray [].toArray] (b2e b a f e c core k) F
      (fun r L'=>r= .tuple [e8l (lL c core k m own) (decide (gS c k m.line=0)),.int .i64 (gS c k m.line)].toArray∧L'=b2e b a f e c core (dS c k m.line st give)):=by
  have hLook:=fun F=>nW (F:=F) (b:=b) (a:=a) (f:=f) (e:=e) (core:=core) (k:=k) hc hli
  have hSet:=fun F=>wH (F:=F) (b:=a) (c:=c) (l:=k.ways) (line:=m.line) (st:=st) (w:=(aT c k.ways m.line).words) (kY hc) hli
  have hTo:=fun F k'=>d4u (F:=F) (b:=b) (a:=a) (f:=f) (e:=e) (c:=c) (core:=core) (k:=k') (kind:=7) (m:=m)
  by_cases h2:2≤(aT c k.ways m.line).st
  · have e1:gS c k m.line=0:=if_pos h2
    have e2:lL c core k m own=⟨7,m.line,core,m.who,1,m.acks,own,(aT c k.ways m.line).words⟩:=by unfold lL lK;rw [if_pos e1,if_pos h2]
    have e3:dS c k m.line st give=⟨e7 c k.ways m.line st (aT c k.ways m.line).words,k.mis,k.buf⟩:=if_pos h2
    rw [e1,e2,e3,decide_eq_true rfl]
    have hTo2:=fun F=>hTo F ⟨e7 c k.ways m.line st (aT c k.ways m.line).words,k.mis,k.buf⟩
    refine FnF.mk' Tryz.func217 rfl rfl Tryz.ntmps217 rfl ?_
    repeat' (first|refine go ?_|intro _|refine yG ?_|refine cM ?_|refine aD @hLook ?_|refine aD @pK ?_|refine aD @hSet ?_|refine aD @hTo2 ?_|refine mH ?_ ?_|fail)
    all_goals exact aU
  · by_cases h3:kJ k.buf m.line=0
    · have e1:gS c k m.line=0:=by unfold gS;rw [if_neg h2,if_pos h3]
      have e2:lL c core k m own=⟨7,m.line,core,m.who,1,m.acks,own,lP k.buf m.line⟩:=by unfold lL lK;rw [if_pos e1,if_neg h2]
      have e3:dS c k m.line st give=⟨k.ways,k.mis,if give then jL k.buf m.line else k.buf⟩:=by unfold dS;rw [if_neg h2];cases give<;>rfl
      rw [e1,e2,e3,decide_eq_true rfl]
      simp only [h3] at H
      have hTo2:=fun F=>hTo F ⟨k.ways,k.mis,if give then jL k.buf m.line else k.buf⟩
      refine FnF.mk' Tryz.func217 rfl rfl Tryz.ntmps217 rfl ?_
      repeat' (first|refine go ?_|intro _|refine yG ?_|refine cM ?_|refine aD @hLook ?_|refine aD @pK ?_|refine aD @H ?_|refine aD @hTo2 ?_|refine mH ?_ ?_|fail)
      all_goals exact aU
    · have e1:gS c k m.line=7:=by unfold gS;rw [if_neg h2,if_neg h3]
      have e2:lL c core k m own= .zero:=by unfold lL;rw [e1];rfl
      have e4:jL k.buf m.line=k.buf:=by
        unfold jL
        unfold kJ at h3
        cases g1:lO k.buf m.line with
        |false=>rfl
        |true=>
         cases g2:(tP k.buf m.line).live with
         |false=>rfl
         |true=>rw [g1,if_pos rfl,g2,if_pos rfl] at h3;exact absurd rfl h3
      have e3:dS c k m.line st give=k:=by unfold dS;rw [if_neg h2,e4];cases give<;>rfl
      rw [e4] at H
      have e5:(if give=true then k.buf else k.buf)=k.buf:=by split<;>rfl
      rw [e5] at H
      rw [e1,e2,e3,decide_eq_false (by decide)]
      refine FnF.mk' Tryz.func217 rfl rfl Tryz.ntmps217 rfl ?_
      repeat' (first|refine go ?_|intro _|refine yG ?_|refine cM ?_|refine aD @hLook ?_|refine aD @pK ?_|refine aD @H ?_|refine mH ?_ ?_|fail)
      all_goals exact aU
theorem c0p {Q P:Prop} (k:Q) (h:Hid Q→P:=by
  intro k
  first
  |(refine aG ?_;refine q9 (id:=1) .true (pl:= .p 0 <| .p 2 <| .p 3 <| .p 4 <| .r 1 <| .r 5 <| .p 6 <| .e true [(7,.p 8 <| .p 9 <| .e false [(10,.p 11 <| .done)])]) k.out)):P:=h ⟨k⟩
theorem d2c {F:List HP} {b a f e:Nat} {c:Cfg} {core:Int} {m:Msg} {k:CaS} (hc:aF c=true) (hli:kP m.line) :
    FnF Tryz.prog 182 [.pointer (some ⟨b,0,none⟩),mv m] (b2e b a f e c core k) F
      (fun r L'=>r= .tuple [e8l (lL c core k m 1) (decide (gS c k m.line=0)),.int .i64 (gS c k m.line)].toArray∧L'=b2e b a f e c core (dS c k m.line 3 false)):=by
  have hT:=fun F=>b7z (F:=F) (b:=b) (a:=a) (f:=f) (e:=e) (core:=core) (own:=1) (st:=3) (m:=m) (k:=k) (give:=false) hc hli (fun F=>d3l)
  refine FnF.mk' Tryz.func182 rfl rfl Tryz.ntmps182 rfl ?_
  repeat first|refine go ?_|intro _|refine c0p ?_|refine cM ?_|refine aD @hT ?_
  exact aU
theorem c0q {Q P:Prop} (k:Q) (h:Hid Q→P:=by
  intro k
  first
  |(refine aG ?_;refine q9 (id:=1) .true (pl:= .p 0 <| .p 2 <| .p 3 <| .p 4 <| .r 1 <| .r 5 <| .p 6 <| .e true [(7,.p 8 <| .p 9 <| .e false [(10,.p 11 <| .done)])]) k.out)):P:=h ⟨k⟩
theorem d2d {F:List HP} {b a f e:Nat} {c:Cfg} {core:Int} {m:Msg} {k:CaS} (hc:aF c=true) (hli:kP m.line) :
    FnF Tryz.prog 183 [.pointer (some ⟨b,0,none⟩),mv m] (b2e b a f e c core k) F
      (fun r L'=>r= .tuple [e8l (lL c core k m 4) (decide (gS c k m.line=0)),.int .i64 (gS c k m.line)].toArray∧L'=b2e b a f e c core (dS c k m.line 0 true)):=by
  have hT:=fun F=>b7z (F:=F) (b:=b) (a:=a) (f:=f) (e:=e) (core:=core) (own:=4) (st:=0) (m:=m) (k:=k) (give:=true) hc hli (fun F=>e1n)
  refine FnF.mk' Tryz.func183 rfl rfl Tryz.ntmps183 rfl ?_
  repeat first|refine go ?_|intro _|refine c0q ?_|refine cM ?_|refine aD @hT ?_
  exact aU
theorem yH {Q P:Prop} (k:Q) (h:Hid Q→P:=by
  intro k
  first
  |(refine aG ?_;refine q9 (id:=5) .true (pl:= .p 0 <| .p 1 <| .p 2 <| .p 4 <| .p 6 <| .r 3 <| .r 5 <| .e true [(7,.done)]) k.out)):P:=h ⟨k⟩
theorem d9t {F:List HP} {b a f e:Nat} {c:Cfg} {core:Int} {m:Msg} {k:CaS} (hc:aF c=true) (hli:kP m.line) :
    FnF Tryz.prog 184 [.pointer (some ⟨b,0,none⟩),mv m] (b2e b a f e c core k) F
      (fun r L'=>r= .tuple [e8l (a3b c core k m) (decide (sB c k m.line=0)),.int .i64 (sB c k m.line)].toArray∧L'=b2e b a f e c core (if sB c k m.line=0 then kX c k m.line else k)):=by
  have hLook:=fun F=>nW (F:=F) (b:=b) (a:=a) (f:=f) (e:=e) (core:=core) (k:=k) hc hli
  have hSet:=fun F=>wH (F:=F) (b:=a) (c:=c) (l:=k.ways) (line:=m.line) (st:=0) (w:= .zero) (kY hc) hli
  have hTo:=fun F k'=>d4u (F:=F) (b:=b) (a:=a) (f:=f) (e:=e) (c:=c) (core:=core) (k:=k') (kind:=9) (m:=m)
  by_cases h2:2≤(aT c k.ways m.line).st
  · have e1:sB c k m.line=7:=if_pos h2
    have e2:a3b c core k m= .zero:=by unfold a3b;rw [e1];rfl
    rw [e1,e2,decide_eq_false (by decide),if_neg (by decide)]
    refine FnF.mk' Tryz.func184 rfl rfl Tryz.ntmps184 rfl ?_
    repeat' (first|refine go ?_|intro _|refine yH ?_|refine cM ?_|refine aD @hLook ?_|refine aD @pK ?_|refine mH ?_ ?_|fail)
    all_goals exact aU
  · have e1:sB c k m.line=0:=if_neg h2
    have e2:a3b c core k m=⟨9,m.line,core,m.who,0,0,0,.zero⟩:=if_pos e1
    rw [e1,e2,decide_eq_true rfl,if_pos rfl]
    by_cases h1:(aT c k.ways m.line).st=1
    · have e3:kX c k m.line=⟨e7 c k.ways m.line 0 .zero,k.mis,k.buf⟩:=if_pos h1
      rw [e3]
      have hTo2:=fun F=>hTo F ⟨e7 c k.ways m.line 0 .zero,k.mis,k.buf⟩
      refine FnF.mk' Tryz.func184 rfl rfl Tryz.ntmps184 rfl ?_
      repeat' (first|refine go ?_|intro _|refine yH ?_|refine cM ?_|refine aD @hLook ?_|refine aD @pK ?_|refine aD @hSet ?_|refine aD @hTo2 ?_|refine mH ?_ ?_|fail)
      all_goals exact aU
    · have e3:kX c k m.line=k:=if_neg h1
      rw [e3]
      have hTo2:=fun F=>hTo F k
      refine FnF.mk' Tryz.func184 rfl rfl Tryz.ntmps184 rfl ?_
      repeat' (first|refine go ?_|intro _|refine yH ?_|refine cM ?_|refine aD @hLook ?_|refine aD @pK ?_|refine aD @hTo2 ?_|refine mH ?_ ?_|fail)
      all_goals exact aU
theorem tI {Q P:Prop} (k:Q) (h:Hid Q→P:=by
  intro k
  first
  |(refine aG ?_;refine q9 (id:=10) .true (pl:= .p 0 <| .p 1 <| .p 2 <| .p 4 <| .p 5 <| .r 3 <| .r 6 <| .r 7 <| .e true [(8,.done)]) k.out)):P:=h ⟨k⟩
theorem yI {F:List HP} {b a f e:Nat} {c:Cfg} {core line er:Int} {k:CaS} (hc:aF c=true) (hli:kP line) :
    FnF Tryz.prog 221 [.pointer (some ⟨b,0,none⟩),.int .i64 line,.int .i64 er] (b2e b a f e c core k) F
      (fun r L'=>r= .tuple [e8l .zero false,.int .i64 (a3q er)].toArray∧L'=b2e b a f e c core (if er=0 then dM c k line else k)):=by
  have hLook:=fun F k'=>nW (F:=F) (b:=b) (a:=a) (f:=f) (e:=e) (core:=core) (k:=k') hc hli
  have hOwe:=fun F=>d9z (F:=F) (b:=f) (room:=c.mshrs) (l:=k.mis) (line:=line)
  by_cases h0:er=0
  · have e1:a3q er=0:=if_pos h0
    rw [e1,if_pos h0]
    cases h1:wV k.mis line with
    |false=>
     have e2:dM c k line=k:=by unfold dM;rw [h1];rfl
     have e3:rM k.mis line=k.mis:=by unfold rM;rw [h1];rfl
     rw [e2]
     simp only [h1,e3] at hOwe
     refine FnF.mk' Tryz.func221 rfl rfl Tryz.ntmps221 rfl ?_
     repeat' (first|refine go ?_|intro _|refine tI ?_|refine cM ?_|refine aD @hOwe ?_|refine mH ?_ ?_|fail)
     all_goals exact aU
    |true=>
     simp only [h1] at hOwe
     cases h2:(uV k.mis line).granted with
     |false=>
      have e2:dM c k line=⟨e7 c k.ways line (uV k.mis line).own (uV k.mis line).words,rM k.mis line,k.buf⟩:=by unfold dM;rw [h1,if_pos rfl,h2];rfl
      rw [e2]
      have hSet:=fun F=>wH (F:=F) (b:=a) (c:=c) (l:=k.ways) (line:=line) (st:=(uV k.mis line).own) (w:=(uV k.mis line).words) (kY hc) hli
      refine FnF.mk' Tryz.func221 rfl rfl Tryz.ntmps221 rfl ?_
      repeat' (first|refine go ?_|intro _|refine tI ?_|refine cM ?_|refine aD @hOwe ?_|refine aD @hSet ?_|refine mH ?_ ?_|fail)
      all_goals exact aU
     |true=>
      have e2:dM c k line=⟨e7 c k.ways line (uV k.mis line).own (aT c k.ways line).words,rM k.mis line,k.buf⟩:=by unfold dM;rw [h1,if_pos rfl,h2];rfl
      rw [e2]
      have hSet:=fun F=>wH (F:=F) (b:=a) (c:=c) (l:=k.ways) (line:=line) (st:=(uV k.mis line).own) (w:=(aT c k.ways line).words) (kY hc) hli
      have hLook2:=fun F=>hLook F ⟨k.ways,rM k.mis line,k.buf⟩
      refine FnF.mk' Tryz.func221 rfl rfl Tryz.ntmps221 rfl ?_
      repeat' (first|refine go ?_|intro _|refine tI ?_|refine cM ?_|refine aD @hOwe ?_|refine aD @hLook2 ?_|refine aD @hSet ?_|refine mH ?_ ?_|fail)
      all_goals exact aU
  · have e1:a3q er=7:=if_neg h0
    rw [e1,if_neg h0]
    refine FnF.mk' Tryz.func221 rfl rfl Tryz.ntmps221 rfl ?_
    repeat' (first|refine go ?_|intro _|refine tI ?_|refine cM ?_|refine mH ?_ ?_|fail)
    all_goals exact aU
theorem b5t {Q P:Prop} (k:Q) (h:Hid Q→P:=by
  intro k
  first
  |(refine aG ?_;refine q9 (id:=1) .true (pl:= .p 0 <| .p 1 <| .p 3 <| .p 4 <| .p 5 <| .p 7 <| .p 9 <| .p 11 <| .p 13 <| .r 6 <| .r 8 <| .r 10 <| .r 12 <| .r 14 <| .e true [(2,.e true [(15,.e false [(16,.p 17 <| .p 18 <| .e false [(19,.p 20 <| .done)])])]),(15,.e false [(2,.e false [(16,.p 17 <| .p 18 <| .e false [(19,.p 20 <| .done)])])])]) k.out)):P:=h ⟨k⟩
theorem d2e {F:List HP} {b a f e:Nat} {c:Cfg} {core:Int} {m:Msg} {k:CaS} (hc:aF c=true) (hli:kP m.line) :
    FnF Tryz.prog 185 [.pointer (some ⟨b,0,none⟩),mv m] (b2e b a f e c core k) F
      (fun r L'=>r= .tuple [e8l .zero false,.int .i64 (a3q (iB k.mis m.line m.acks m.own))].toArray∧L'=b2e b a f e c core (qT c k m)):=by
  have hD:=fun F=>b8c (F:=F) (b:=f) (room:=c.mshrs) (l:=k.mis) (line:=m.line) (acks:=m.acks) (own:=m.own) (w:=m.words)
  have hF:=fun F=>yI (F:=F) (b:=b) (a:=a) (f:=f) (e:=e) (core:=core) (er:=iB k.mis m.line m.acks m.own) (k:=⟨k.ways,iS k.mis m.line m.acks m.own m.words,k.buf⟩) hc hli
  have e1:qT c k m=if iB k.mis m.line m.acks m.own=0 then dM c ⟨k.ways,iS k.mis m.line m.acks m.own m.words,k.buf⟩ m.line else ⟨k.ways,iS k.mis m.line m.acks m.own m.words,k.buf⟩:=by
    unfold qT
    by_cases h:iB k.mis m.line m.acks m.own=0
    · rw [if_pos h,if_pos h]
    · have:iS k.mis m.line m.acks m.own m.words=k.mis:=if_neg h
      rw [if_neg h,if_neg h,this]
  rw [e1]
  refine FnF.mk' Tryz.func185 rfl rfl Tryz.ntmps185 rfl ?_
  repeat' (first|refine go ?_|intro _|refine b5t ?_|refine cM ?_|refine aD @hD ?_|refine aD @hF ?_|refine mH ?_ ?_|fail)
  all_goals exact aU
theorem a2f {Q P:Prop} (k:Q) (h:Hid Q→P:=by
  intro k
  first
  |(refine aG ?_;refine q9 (id:=4) .true (pl:= .p 0 <| .p 1 <| .p 3 <| .p 4 <| .p 5 <| .p 7 <| .p 9 <| .r 6 <| .r 8 <| .r 10 <| .e true [(2,.e true [(11,.e false [(12,.p 13 <| .p 14 <| .e false [(15,.p 16 <| .done)])])]),(11,.e false [(2,.e false [(12,.p 13 <| .p 14 <| .e false [(15,.p 16 <| .done)])])])]) k.out)):P:=h ⟨k⟩
theorem c7g {F:List HP} {b a f e:Nat} {c:Cfg} {core:Int} {m:Msg} {k:CaS} (hc:aF c=true) (hli:kP m.line) :
    FnF Tryz.prog 186 [.pointer (some ⟨b,0,none⟩),mv m] (b2e b a f e c core k) F
      (fun r L'=>r= .tuple [e8l .zero false,.int .i64 (a9d c k m)].toArray∧L'=b2e b a f e c core (zQ c k m)):=by
  have hLook:=fun F=>nW (F:=F) (b:=b) (a:=a) (f:=f) (e:=e) (core:=core) (k:=k) hc hli
  have hD:=fun F=>c7n (F:=F) (b:=f) (room:=c.mshrs) (l:=k.mis) (line:=m.line) (acks:=m.acks)
  have hF:=fun F=>yI (F:=F) (b:=b) (a:=a) (f:=f) (e:=e) (core:=core) (er:=iB k.mis m.line m.acks 4) (k:=⟨k.ways,gZ k.mis m.line m.acks,k.buf⟩) hc hli
  by_cases h3:(aT c k.ways m.line).st=3
  · have e0:a9d c k m=a3q (iB k.mis m.line m.acks 4):=if_pos h3
    have e1:zQ c k m=if iB k.mis m.line m.acks 4=0 then dM c ⟨k.ways,gZ k.mis m.line m.acks,k.buf⟩ m.line else ⟨k.ways,gZ k.mis m.line m.acks,k.buf⟩:=by
      unfold zQ
      rw [e0]
      by_cases h:iB k.mis m.line m.acks 4=0
      · rw [if_pos h,h];rfl
      · have:gZ k.mis m.line m.acks=k.mis:=if_neg h
        rw [if_neg h,this,if_neg (by unfold a3q;rw [if_neg h];decide)]
    rw [e0,e1]
    refine FnF.mk' Tryz.func186 rfl rfl Tryz.ntmps186 rfl ?_
    repeat' (first|refine go ?_|intro _|refine a2f ?_|refine cM ?_|refine aD @hLook ?_|refine aD @hD ?_|refine aD @hF ?_|refine mH ?_ ?_|fail)
    all_goals exact aU
  · have e0:a9d c k m=7:=if_neg h3
    have e1:zQ c k m=k:=by unfold zQ;rw [e0];rfl
    rw [e0,e1]
    refine FnF.mk' Tryz.func186 rfl rfl Tryz.ntmps186 rfl ?_
    repeat' (first|refine go ?_|intro _|refine a2f ?_|refine cM ?_|refine aD @hLook ?_|refine mH ?_ ?_|fail)
    all_goals exact aU
theorem b5u {Q P:Prop} (k:Q) (h:Hid Q→P:=by
  intro k
  first
  |(refine aG ?_;refine q9 (id:=1) .true (pl:= .p 0 <| .p 1 <| .p 3 <| .p 4 <| .p 5 <| .p 7 <| .r 6 <| .r 8 <| .e true [(2,.e true [(9,.e false [(10,.p 11 <| .p 12 <| .e false [(13,.p 14 <| .done)])])]),(9,.e false [(2,.e false [(10,.p 11 <| .p 12 <| .e false [(13,.p 14 <| .done)])])])]) k.out)):P:=h ⟨k⟩
theorem d9u {F:List HP} {b a f e:Nat} {c:Cfg} {core:Int} {m:Msg} {k:CaS} (hc:aF c=true) (hli:kP m.line) (hg:∀ m∈k.mis,-9223372036854775808≤m.got∧m.got≤9223372036854775806) :
    FnF Tryz.prog 187 [.pointer (some ⟨b,0,none⟩),mv m] (b2e b a f e c core k) F
      (fun r L'=>r= .tuple [e8l .zero false,.int .i64 (a3q (vQ k.mis m.line))].toArray∧L'=b2e b a f e c core (wT c k m)):=by
  have hD:=fun F=>d9y (F:=F) (b:=f) (room:=c.mshrs) (l:=k.mis) (line:=m.line) hg
  have hF:=fun F=>yI (F:=F) (b:=b) (a:=a) (f:=f) (e:=e) (core:=core) (er:=vQ k.mis m.line) (k:=⟨k.ways,nJ k.mis m.line,k.buf⟩) hc hli
  have e1:wT c k m=if vQ k.mis m.line=0 then dM c ⟨k.ways,nJ k.mis m.line,k.buf⟩ m.line else ⟨k.ways,nJ k.mis m.line,k.buf⟩:=by
    unfold wT
    by_cases h:vQ k.mis m.line=0
    · rw [if_pos h,if_pos h]
    · have:nJ k.mis m.line=k.mis:=if_neg h
      rw [if_neg h,if_neg h,this]
  rw [e1]
  refine FnF.mk' Tryz.func187 rfl rfl Tryz.ntmps187 rfl ?_
  repeat' (first|refine go ?_|intro _|refine b5u ?_|refine cM ?_|refine aD @hD ?_|refine aD @hF ?_|refine mH ?_ ?_|fail)
  all_goals exact aU
theorem a5w {Q P:Prop} (k:Q) (h:Hid Q→P:=by
  intro k
  first
  |(refine aG ?_;refine q9 (id:=1) .true (pl:= .p 0 <| .p 1 <| .p 2 <| .p 4 <| .r 3 <| .r 5 <| .e true [(6,.p 7 <| .done)]) k.out)):P:=h ⟨k⟩
theorem c0r {F:List HP} {b a f e:Nat} {c:Cfg} {core:Int} {m:Msg} {k:CaS} (hc:aF c=true) :
    FnF Tryz.prog 181 [.pointer (some ⟨b,0,none⟩),mv m] (b2e b a f e c core k) F
      (fun r L'=>r= .tuple [e8l .zero false,.int .i64 (a3q (pR k.buf m.line))].toArray∧L'=b2e b a f e c core (a9e k m.line)):=by
  have hD:=fun F=>e1o (F:=F) (b:=e) (room:=c.writebacks) (l:=k.buf) (line:=m.line)
  unfold a9e
  by_cases h:pR k.buf m.line=0
  · have e0:a3q (pR k.buf m.line)=0:=if_pos h
    rw [e0]
    simp only [h] at hD
    refine FnF.mk' Tryz.func181 rfl rfl Tryz.ntmps181 rfl ?_
    repeat' (first|refine go ?_|intro _|refine a5w ?_|refine cM ?_|refine aD @hD ?_|refine mH ?_ ?_|fail)
    all_goals exact aU
  · have e0:a3q (pR k.buf m.line)=7:=if_neg h
    rw [e0]
    refine FnF.mk' Tryz.func181 rfl rfl Tryz.ntmps181 rfl ?_
    repeat' (first|refine go ?_|intro _|refine a5w ?_|refine cM ?_|refine aD @hD ?_|refine mH ?_ ?_|fail)
    all_goals exact aU
end
end Go.Sx
