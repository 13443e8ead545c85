/- Fk, Fw, CaE, Shr, ShrR, ShrLaw: several of my texts as one. My own work. -/
import Derived.Test.YtjihlpjnebdiiaaGreatZai
set_option linter.unusedVariables false
set_option linter.unusedSectionVars false
set_option linter.unusedSimpArgs false
set_option maxRecDepth 100000
set_option maxHeartbeats 4000000
namespace Go.Sx
open Go Go.Proofs
section
section
variable {α:Type}
def fk (f:α→Int) (l:List α) (x:Int):Option α:=l.find? fun a=>decide (f a=x)
theorem d5u (f:α→Int) (x:Int):fk f [] x=none:=rfl
theorem xP (f:α→Int) (a:α) (l:List α) (x:Int):fk f (a::l) x=if f a=x then some a else fk f l x:=by
  unfold fk;rw [List.find?_cons];split<;>simp_all
theorem xQ (f:α→Int) (l m:List α) (x:Int):fk f (l++m) x=(fk f l x).or (fk f m x):=by unfold fk;exact List.find?_append
theorem b3m {f:α→Int} {l:List α} {x:Int}:fk f l x=none↔∀ a∈l,f a≠x:=by unfold fk;simp
theorem e1c {f:α→Int} {l:List α} {x:Int} {a:α} (h:fk f l x=some a):a∈l∧f a=x:=by
  unfold fk at h
  exact ⟨List.mem_of_find?_eq_some h,by simpa using List.find?_some h⟩
theorem c8r {l:List α} {i:Nat} (hi:i<l.length):l=l.take i++l[i]::l.drop (i+1)∧(∀ x,l.set i x=l.take i++x::l.drop (i+1))∧l.eraseIdx i=l.take i++l.drop (i+1):=by
  refine ⟨?_,fun x=>?_,List.eraseIdx_eq_take_drop_succ l i⟩
  · rw [←List.drop_eq_getElem_cons hi,List.take_append_drop]
  · rw [List.set_eq_take_append_cons_drop,if_pos hi]
theorem b8o {f:α→Int} {l:List α} {i:Nat} (hi:i<l.length) (h:∀ j (hj:j<l.length),j<i→f l[j]≠f l[i]):fk f (l.take i) (f l[i])=none:=by
  rw [b3m]
  intro a ha
  obtain ⟨j,hj,rfl⟩:=List.getElem_of_mem ha
  rw [List.getElem_take]
  exact h j (by simp at hj;omega) (by simp at hj;omega)
theorem c2l {f:α→Int} {l:List α} {i:Nat} (hi:i<l.length) (h:∀ j (hj:j<l.length),j<i→f l[j]≠f l[i]):fk f l (f l[i])=some l[i]:=by
  have e:=congrArg (fun m=>fk f m (f l[i])) (c8r hi).1
  rw [e,xQ,xP,b8o hi h,if_pos rfl]
  rfl
theorem d5v {f:α→Int} {l:List α} {i:Nat} {a:α} (hi:i<l.length) (ha:f a=f l[i]) (h:∀ j (hj:j<l.length),j<i→f l[j]≠f l[i]) (x:Int):fk f (l.set i a) x=if x=f l[i] then some a else fk f l x:=by
  obtain ⟨e,e2,_⟩:=c8r hi
  have h1:=b8o hi h
  rw [e2,xQ,xP]
  by_cases hx:x=f l[i]
  · rw [if_pos hx,hx,h1,if_pos ha];rfl
  · rw [if_neg hx,if_neg (fun g=>hx (by rw [←g,ha]))]
    have h3:fk f l x=fk f (l.take i++l[i]::l.drop (i+1)) x:=congrArg (fun m=>fk f m x) e
    rw [h3,xQ,xP,if_neg (Ne.symm hx)]
theorem b8p {f:α→Int} {l:List α} {i:Nat} (hi:i<l.length) (hn:(l.map f).Nodup) (x:Int):fk f (l.eraseIdx i) x=if x=f l[i] then none else fk f l x:=by
  obtain ⟨e,_,e3⟩:=c8r hi
  rw [e3,xQ]
  by_cases hx:x=f l[i]
  · rw [if_pos hx,←xQ,←e3,b3m]
    intro a ha g
    have h1:x∈(l.eraseIdx i).map f:=List.mem_map.2 ⟨a,ha,g⟩
    rw [d5b] at h1
    have h2:=(a2c hn (i:=i) (by simpa using hi) x).1 h1
    rw [List.getElem_map] at h2
    exact h2.2 hx
  · rw [if_neg hx]
    have h3:fk f l x=fk f (l.take i++l[i]::l.drop (i+1)) x:=congrArg (fun m=>fk f m x) e
    rw [h3,xQ,xP,if_neg (Ne.symm hx)]
theorem d5w {f:α→Int} {l:List α} {x:Int} (h:0≤aV (fun a=>decide (f a=x)) l):∃ i,∃ hi:i<l.length,aV (fun a=>decide (f a=x)) l=i∧f l[i]=x∧∀ j (hj:j<l.length),j<i→f l[j]≠f l[i]:=by
  obtain ⟨i,hi,e,h1,h2⟩:=cL h
  have h1':f l[i]=x:=by simpa using h1
  exact ⟨i,hi,e,h1',fun j hj hji=>by rw [h1'];simpa using h2 j hj hji⟩
theorem d5x {f:α→Int} {l:List α} {x:Int} (h:¬0≤aV (fun a=>decide (f a=x)) l):fk f l x=none:=by
  rw [b3m]
  intro a ha
  have:=(dY (p:=fun a=>decide (f a=x)) (l:=l) (om)).2 a ha
  simpa using this
end
end
section
section
variable {c:Cfg} {l:List Way} {line:Int}
def yO (c:Cfg) (l:List Way) (x:Int):Int:=(aT c l x).st
def b1a (c:Cfg) (l:List Way) (x:Int):Words:=(aT c l x).words
theorem qN (x:Int):yO c l x=((vw c l x).map (·.st)).getD 0:=by unfold yO;rw [b7q];cases vw c l x<;>rfl
theorem xR (x:Int):b1a c l x=((vw c l x).map (·.words)).getD .zero:=by unfold b1a;rw [b7q];cases vw c l x<;>rfl
theorem a6n {lk:Bool} (hI:bT c l) (x:Int):yO c (gJ c l line lk) x=yO c l x∧(yO c l x≠0→b1a c (gJ c l line lk) x=b1a c l x):=by
  rw [qN,qN,xR,xR,b2x hI]
  by_cases hx:x=line
  · subst hx
    rw [if_pos rfl]
    cases e:vw c l x with
    |none=>exact ⟨rfl,fun _=>rfl⟩
    |some y=>
     dsimp only
     split
     · exact ⟨rfl,fun _=>rfl⟩
     · rename_i g
       have:y.st=0:=Decidable.byContradiction fun h=>g (.inr h)
       exact ⟨this.symm,fun h=>absurd this h⟩
  · rw [if_neg hx];exact ⟨rfl,fun _=>rfl⟩
theorem d5y (hI:bT c l) (hf:¬dD c l line<0) (hno:vw c l line=none) (x:Int):yO c (kM c l line (dD c l line)) x=yO c l x∧b1a c (kM c l line (dD c l line)) x=b1a c l x:=by
  rw [qN,qN,xR,xR,d4y hI hf hno]
  by_cases hx:x=line
  · subst hx;rw [if_pos rfl,hno];exact ⟨rfl,rfl⟩
  · rw [if_neg hx];exact ⟨rfl,rfl⟩
theorem oU {st:Int} {w:Words} (hI:bT c l) (h:pZ c l line st w=0) (x:Int):yO c (e7 c l line st w) x=(if x=line then st else yO c l x)∧(yO c (e7 c l line st w) x≠0→b1a c (e7 c l line st w) x=if x=line then w else b1a c l x):=by
  rw [qN,qN,xR,xR,c2a hI]
  by_cases hx:x=line
  · subst hx
    rw [if_pos ⟨rfl,h⟩,if_pos rfl]
    obtain ⟨⟨y,hy⟩,_⟩:=c3w h
    rw [hy]
    dsimp only
    split
    · refine ⟨rfl,fun g=>?_⟩
      have:st≠0:=g
      show (if st=0 then Words.zero else w)=_
      rw [if_neg this,if_pos rfl]
    · rename_i g
      have:st=0:=Decidable.byContradiction fun h=>g (.inr h)
      exact ⟨this.symm,fun h=>absurd rfl h⟩
  · rw [if_neg (fun h=>hx h.1),if_neg hx];exact ⟨rfl,fun _=>by rw [if_neg hx]⟩
theorem a1g (h:yO c l line≠0):∃ y,vw c l line=some y∧y.st=yO c l line∧y.words=b1a c l line:=by
  rw [qN] at h ⊢
  rw [xR]
  cases e:vw c l line with
  |none=>rw [e] at h;exact absurd rfl h
  |some y=>exact ⟨y,rfl,rfl,rfl⟩
theorem a0p {st:Int} {w:Words} (h1:(vw c l line).isSome=true) (h2:0≤st∧st≤4) (h3:a4d c w=false):pZ c l line st w=0:=by
  rw [b2w]
  cases e:vw c l line with
  |none=>rw [e] at h1;cases h1
  |some y=>
   rw [if_neg (by simp),if_neg]
   rintro (g|g|g)
   · omega
   · omega
   · rw [h3] at g;cases g
theorem a7u {w:Words} (h:bJ c w):a4d c w=false:=by
  unfold a4d
  refine decide_eq_false ?_
  intro g
  obtain ⟨i,hi,e,h1,h2⟩:=cL g
  rw [List.getElem_drop] at h1
  have hl:c.words.toNat+i<8:=by
    rw [List.length_drop] at hi
    have:w.list.length=8:=rfl
    omega
  have:=h (c.words.toNat+i) hl
  unfold tY Words.at at this
  have hg:w.list.getD (c.words.toNat+i) 0=w.list[c.words.toNat+i]'(by show _<8;exact hl):=by
    rw [List.getD_eq_getElem?_getD,List.getElem?_eq_getElem (by show _<8;exact hl)];rfl
  rw [hg] at this
  have h3:=this.2.2 (om)
  simp [h3] at h1
end
end
section
abbrev d5z (m:Miss):Int:=m.line
abbrev d6a (m:WbE):Int:=m.line
def e9q (m:Miss):AMs Words:=⟨m.kind,m.needs,m.got,m.own,m.words,m.granted,m.owes⟩
def a1h (k:CaS) (x:Int):Option (AMs Words):=(fk d5z k.mis x).map e9q
def b2f (k:CaS) (x:Int):Option (Words×Bool):=(fk d6a k.buf x).map fun e=>(e.words,e.live)
abbrev y7 (c:Cfg) (k:CaS) (x:Int):Int:=yO c k.ways x
abbrev b4u (c:Cfg) (k:CaS) (x:Int):Words:=b1a c k.ways x
section
variable {c:Cfg} {n:Nat} {k:CaS} {line:Int}
theorem d6b {l:List Miss} (h:cR l line=true):∃ i,∃ hi:i<l.length,qS l line=i∧bV l line=l[i]∧l[i].line=line∧∀ j (hj:j<l.length),j<i→l[j].line≠l[i].line:=by
  obtain ⟨i,hi,h1,h2,h3⟩:=d5w (f:=d5z) (l:=l) (x:=line) (of_decide_eq_true h:0≤qS l line)
  refine ⟨i,hi,h1,?_,h2,h3⟩
  unfold bV qS
  rw [h1];simp [hi]
theorem d6c {l:List Miss} (h:cR l line=true):fk d5z l line=some (bV l line):=by
  obtain ⟨i,hi,e1,e2,e3,e4⟩:=d6b h
  rw [e2,←e3];exact c2l (f:=d5z) hi e4
theorem b4v {l:List Miss} (h:cR l line=false):fk d5z l line=none:=d5x (f:=d5z) (l:=l) (x:=line) (of_decide_eq_false h:¬0≤qS l line)
theorem e6j {l:List Miss} {m:Miss} (h:fk d5z l line=some m):cR l line=true∧bV l line=m:=by
  cases e:cR l line with
  |false=>rw [b4v e] at h;cases h
  |true=>rw [d6c e] at h;cases h;exact ⟨rfl,rfl⟩
theorem e1d {l:List Miss} {a:Miss} (h:cR l line=true) (ha:a.line=(bV l line).line) (x:Int):fk d5z (l.set (qS l line).toNat a) x=if x=line then some a else fk d5z l x:=by
  obtain ⟨i,hi,e1,e2,e3,e4⟩:=d6b h
  rw [e1,Int.toNat_natCast]
  have:=d5v (f:=d5z) (a:=a) hi (by show a.line=l[i].line;rw [ha,e2]) e4 x
  have e3':d5z l[i]=line:=e3
  rw [this,e3']
theorem c2m {l:List WbE} (h:lO l line=true):∃ i,∃ hi:i<l.length,fY l line=i∧tP l line=l[i]∧l[i].line=line∧∀ j (hj:j<l.length),j<i→l[j].line≠l[i].line:=by
  obtain ⟨i,hi,h1,h2,h3⟩:=d5w (f:=d6a) (l:=l) (x:=line) (of_decide_eq_true h:0≤fY l line)
  refine ⟨i,hi,h1,?_,h2,h3⟩
  unfold tP fY
  rw [h1];simp [hi]
theorem e3c {l:List WbE} (h:lO l line=true):fk d6a l line=some (tP l line):=by
  obtain ⟨i,hi,e1,e2,e3,e4⟩:=c2m h
  rw [e2,←e3];exact c2l (f:=d6a) hi e4
theorem c1h {l:List WbE} (h:lO l line=false):fk d6a l line=none:=d5x (f:=d6a) (l:=l) (x:=line) (of_decide_eq_false h:¬0≤fY l line)
theorem e9i {l:List WbE} {m:WbE} (h:fk d6a l line=some m):lO l line=true∧tP l line=m:=by
  cases e:lO l line with
  |false=>rw [c1h e] at h;cases h
  |true=>rw [e3c e] at h;cases h;exact ⟨rfl,rfl⟩
structure CaEv (c:Cfg) (k k':CaS) (st:Int→Int) (wd:Int→Words) (ms:Int→Option (AMs Words)) (bf:Int→Option (Words×Bool)):Prop where
  st:∀ x,y7 c k' x=st x
  wd:∀ x,y7 c k' x≠0→b4u c k' x=wd x
  ms:∀ x,a1h k' x=ms x
  bf:∀ x,b2f k' x=bf x
theorem e6k {kind:Int} (h:mO c n k) (he:dT c k line kind=0) :
    CaEv c k (cO c k line kind) (y7 c k) (b4u c k) (fun x=>if x=line then some ⟨kind,-1,0,0,.zero,false,false⟩ else a1h k x) (b2f k)∧a1h k line=none∧b2f k line=none∧(kind=1∧y7 c k line=0∨kind=2∧y7 c k line≠2∧y7 c k line≠4):=by
  have hk:cO c k line kind=⟨if iQ c k.ways line then gJ c k.ways line true else kM c k.ways line (dD c k.ways line),kL c.mshrs k.mis line kind,k.buf⟩:=by unfold cO;rw [if_pos he]
  have he0:=he
  unfold dT at he
  split at he
  · cases he
  · rename_i g1
    split at he
    · cases he
    · rename_i g2
      split at he
      · cases he
      · rename_i g3
        split at he
        · cases he
        · rename_i g4
          have m0:cR k.mis line=false:=by cases e:cR k.mis line with|false=>rfl|true=>exact absurd (.inl e) g2
          have b0:lO k.buf line=false:=by cases e:lO k.buf line with|false=>rfl|true=>exact absurd (.inr (.inl e)) g2
          have c0:q6 c k line kind=false:=by cases e:q6 c k line kind with|false=>rfl|true=>exact absurd (.inr (.inr e)) g2
          have hkd:kind=1∨kind=2:=by omega
          have ho:kL c.mshrs k.mis line kind=k.mis++[⟨line,kind,-1,0,0,.zero,false,false⟩]:=by
            have e0:tG c.mshrs k.mis line kind=0:=by
              unfold tG
              rw [if_neg (om),if_neg (by rw [m0];simp),if_neg g3]
            unfold kL
            rw [if_pos e0]
          have hways:∀ x,yO c (cO c k line kind).ways x=yO c k.ways x∧(yO c k.ways x≠0→b1a c (cO c k line kind).ways x=b1a c k.ways x):=by
            rw [hk]
            dsimp only
            split
            · exact fun x=>a6n h.1.1 x
            · rename_i gf
              intro x
              have hv:vw c k.ways line=none:=by
                have:=pT (c:=c) (l:=k.ways) (line:=line)
                cases e:vw c k.ways line with
                |none=>rfl
                |some y=>rw [e] at this;exact absurd this gf
              have hf:¬dD c k.ways line<0:=fun g=>g4 ⟨by simpa using gf,g⟩
              exact ⟨(d5y h.1.1 hf hv x).1,fun _=>(d5y h.1.1 hf hv x).2⟩
          refine ⟨⟨fun x=>(hways x).1,fun x hx=>(hways x).2 (by rw [←(hways x).1];exact hx),fun x=>?_,fun x=>by rw [hk];rfl⟩,by unfold a1h;rw [b4v m0];rfl,by unfold b2f;rw [c1h b0];rfl,?_⟩
          · unfold a1h
            rw [hk]
            dsimp only
            rw [ho,xQ,xP,d5u]
            by_cases hx:x=line
            · subst hx;rw [if_pos rfl,b4v m0,if_pos rfl];rfl
            · rw [if_neg hx,if_neg (Ne.symm hx)];cases fk d5z k.mis x<;>rfl
          · unfold q6 at c0
            rcases hkd with rfl|rfl
            · left
              rw [if_pos rfl] at c0
              exact ⟨rfl,by have:=of_decide_eq_false c0;unfold y7 yO;omega⟩
            · right
              rw [if_neg (om)] at c0
              have:=of_decide_eq_false c0
              exact ⟨rfl,by unfold y7 yO;omega,by unfold y7 yO;omega⟩
theorem e6l {l:List WbE} {a:WbE} (h:lO l line=true) (ha:a.line=(tP l line).line) (x:Int):fk d6a (l.set (fY l line).toNat a) x=if x=line then some a else fk d6a l x:=by
  obtain ⟨i,hi,e1,e2,e3,e4⟩:=c2m h
  rw [e1,Int.toNat_natCast]
  have:=d5v (f:=d6a) (a:=a) hi (by show a.line=l[i].line;rw [ha,e2]) e4 x
  have e3':d6a l[i]=line:=e3
  rw [this,e3']
theorem d3e {w:Way} (h:w.st≠0):c6 w=true:=by unfold c6;simp [h]
theorem e9j {sw w:Int} (h:mO c n k) (he:oG c k sw w=0):∃ y:Way,y=uP c k.ways sw w∧y7 c k y.line=y.st∧b4u c k y.line=y.words∧y.st≠0∧a1h k y.line=none∧
    CaEv c k (gQ c k sw w) (fun x=>if x=y.line then 0 else y7 c k x) (b4u c k) (a1h k) (fun x=>if x=y.line∧2≤y.st then some (y.words,true) else b2f k x):=by
  refine ⟨_,rfl,?_⟩
  have hk:gQ c k sw w=⟨e7 c k.ways (uP c k.ways sw w).line 0 .zero,k.mis,if 2≤(uP c k.ways sw w).st then mV c.writebacks k.buf (uP c k.ways sw w).line (uP c k.ways sw w).words else k.buf⟩:=by unfold gQ;rw [if_pos he]
  rw [hk]
  unfold oG at he
  split at he
  · cases he
  · rename_i g1
    split at he
    · cases he
    · rename_i g2
      split at he
      · cases he
      · rename_i g3
        have hst:(uP c k.ways sw w).st≠0:=fun e=>g1 (.inr e)
        have hv:=d4x h.1.1 (a0l hst) (d3e hst)
        have hlk:(uP c k.ways sw w).lk=false:=by simpa using g2
        have hm0:cR k.mis (uP c k.ways sw w).line=false:=by
          cases e:cR k.mis (uP c k.ways sw w).line with
          |false=>rfl
          |true=>
           obtain ⟨w1,h1,h2⟩:=h.2.1.ml _ (v8.1 e)
           rw [hv] at h1;cases h1;rw [hlk] at h2;cases h2
        have hs:pZ c k.ways (uP c k.ways sw w).line 0 .zero=0:=a0p (by rw [hv];rfl) (om) (vO c)
        refine ⟨by unfold y7;rw [qN,hv];rfl,by unfold b4u;rw [xR,hv];rfl,hst,by unfold a1h;rw [b4v hm0];rfl,⟨fun x=>(oU h.1.1 hs x).1,fun x hx=>?_,fun x=>rfl,fun x=>?_⟩⟩
        · have e1:=(oU h.1.1 hs x).2 hx
          have e0:=(oU h.1.1 hs x).1
          refine Eq.trans e1 ?_
          by_cases hxl:x=(uP c k.ways sw w).line
          · rw [if_pos hxl] at e0;exact absurd e0 hx
          · rw [if_neg hxl]
        · unfold b2f
          dsimp only
          by_cases h2:2≤(uP c k.ways sw w).st
          · rw [if_pos h2]
            have hp:sK c.writebacks k.buf (uP c k.ways sw w).line=0:=Decidable.byContradiction fun e=>g3 ⟨h2,e⟩
            unfold sK at hp
            split at hp
            · cases hp
            · rename_i p1
              split at hp
              · cases hp
              · rename_i p2
                unfold mV
                rw [if_neg p1,if_neg p2,xQ,xP,d5u]
                by_cases hx:x=(uP c k.ways sw w).line
                · rw [hx,c1h (by simpa using p1),if_pos rfl,if_pos ⟨rfl,h2⟩];rfl
                · rw [if_neg (Ne.symm hx),if_neg (fun g=>hx g.1)]
                  cases fk d6a k.buf x<;>rfl
          · rw [if_neg h2,if_neg (fun g=>h2 g.2)]
theorem e1e {st:Int} {g:Bool} (h:mO c n k) (hst:0≤st∧st≤4) (he:gS c k line=0) :
    (2≤y7 c k line∧lK c k line=b4u c k line∧CaEv c k (dS c k line st g) (fun x=>if x=line then st else y7 c k x) (b4u c k) (a1h k) (b2f k))
    ∨(y7 c k line<2∧b2f k line=some (lK c k line,true)∧CaEv c k (dS c k line st g) (y7 c k) (b4u c k) (a1h k) (fun x=>if x=line∧g=true then some (lK c k line,false) else b2f k x)):=by
  unfold gS at he
  unfold lK dS
  by_cases h2:2≤(aT c k.ways line).st
  · left
    rw [if_pos h2,if_pos h2]
    obtain ⟨y,hv,_⟩:=a1g (c:=c) (l:=k.ways) (line:=line) (by show (aT c k.ways line).st≠0;omega)
    have hs:pZ c k.ways line st (aT c k.ways line).words=0:=a0p (by rw [hv];rfl) hst (by rw [(a5l hv).2.2.2.2];exact (h.2.1.wd _ _ hv).1)
    refine ⟨h2,rfl,⟨fun x=>(oU h.1.1 hs x).1,fun x hx=>?_,fun x=>rfl,fun x=>rfl⟩⟩
    refine Eq.trans ((oU h.1.1 hs x).2 hx) ?_
    by_cases hxl:x=line
    · rw [if_pos hxl,hxl];rfl
    · rw [if_neg hxl]
  · right
    rw [if_neg h2] at he
    rw [if_neg h2,if_neg h2]
    have hw:kJ k.buf line=0:=Decidable.byContradiction fun e=>by rw [if_neg e] at he;cases he
    unfold kJ at hw
    split at hw
    · rename_i b1
      split at hw
      · rename_i b2
        have hb:fk d6a k.buf line=some (tP k.buf line):=e3c b1
        have hw2:lP k.buf line=(tP k.buf line).words:=by unfold lP;rw [b1,b2];rfl
        refine ⟨by show (aT c k.ways line).st<2;omega,by unfold b2f;rw [hb,hw2,Option.map_some,b2],?_⟩
        cases g with
        |false=>exact ⟨fun x=>rfl,fun x _=>rfl,fun x=>rfl,fun x=>(if_neg (by simp)).symm⟩
        |true=>
         refine ⟨fun x=>rfl,fun x _=>rfl,fun x=>rfl,fun x=>?_⟩
         show (fk d6a (jL k.buf line) x).map _=_
         unfold jL
         rw [if_pos (by rw [b1,b2];rfl),e6l (a:=⟨(tP k.buf line).line,(tP k.buf line).words,false⟩) b1 rfl]
         by_cases hx:x=line
         · rw [if_pos hx,if_pos ⟨hx,rfl⟩,hw2];rfl
         · rw [if_neg hx,if_neg (fun e=>hx e.1)];rfl
      · cases hw
    · cases hw
theorem e1f (h:mO c n k) (hs:y7 c k line=1):CaEv c k (kX c k line) (fun x=>if x=line then 0 else y7 c k x) (b4u c k) (a1h k) (b2f k):=by
  unfold kX
  have hs':(aT c k.ways line).st=1:=hs
  rw [if_pos hs']
  obtain ⟨y,hv,_⟩:=a1g (c:=c) (l:=k.ways) (line:=line) (by show (aT c k.ways line).st≠0;omega)
  have he:pZ c k.ways line 0 .zero=0:=a0p (by rw [hv];rfl) (om) (vO c)
  refine ⟨fun x=>(oU h.1.1 he x).1,fun x hx=>?_,fun x=>rfl,fun x=>rfl⟩
  have e0:=(oU h.1.1 he x).1
  refine Eq.trans ((oU h.1.1 he x).2 hx) ?_
  by_cases hxl:x=line
  · rw [if_pos hxl] at e0;exact absurd e0 hx
  · rw [if_neg hxl]
theorem e1g (hs:y7 c k line≠1):kX c k line=k:=by
  unfold kX
  rw [if_neg (show ¬(aT c k.ways line).st=1 from hs)]
theorem e1h (h:mO c n k):CaEv c k (a9e k line) (y7 c k) (b4u c k) (a1h k) (fun x=>if x=line then none else b2f k x):=by
  refine ⟨fun x=>rfl,fun x _=>rfl,fun x=>rfl,fun x=>?_⟩
  show (fk d6a (n3 k.buf line) x).map _=_
  unfold n3
  split
  · rename_i b1
    obtain ⟨i,hi,e1,e2,e3,e4⟩:=c2m b1
    rw [e1,Int.toNat_natCast,b8p (f:=d6a) hi h.2.1.bd,show d6a k.buf[i]=line from e3]
    by_cases hx:x=line
    · rw [if_pos hx,if_pos hx];rfl
    · rw [if_neg hx,if_neg hx];rfl
  · rename_i b1
    by_cases hx:x=line
    · rw [if_pos hx,hx,c1h (by simpa using b1)];rfl
    · rw [if_neg hx];rfl
theorem a8u {l:List Miss} {b:List WbE} {w:List Way} {m:AMs Words} (h:a1h ⟨w,l,b⟩ line=some m):cR l line=true∧e9q (bV l line)=m:=by
  unfold a1h at h
  dsimp only at h
  cases e:fk d5z l line with
  |none=>rw [e] at h;cases h
  |some a=>
   rw [e] at h
   obtain ⟨g1,g2⟩:=e6j e
   rw [g2]
   exact ⟨g1,by simpa using h⟩
theorem a6o {a:Miss} (hin:cR k.mis line=true) (ha:a.line=(bV k.mis line).line) (x:Int):a1h ⟨k.ways,k.mis.set (qS k.mis line).toNat a,k.buf⟩ x=if x=line then some (e9q a) else a1h k x:=by
  unfold a1h
  dsimp only
  rw [e1d hin ha]
  by_cases hx:x=line
  · rw [if_pos hx,if_pos hx];rfl
  · rw [if_neg hx,if_neg hx]
theorem b8q {acks own:Int} {w:Words} {m:AMs Words} (hm:a1h k line=some m) (hn:m.needs= -1) (hg:m.got≤acks) (hk:(m.kind=2∧own=4)∨(m.kind=1∧acks=0∧(own=1∨own=2))) :
    iB k.mis line acks own=0∧CaEv c k ⟨k.ways,iS k.mis line acks own w,k.buf⟩ (y7 c k) (b4u c k) (fun x=>if x=line then some { m with needs:=acks,own:=own,w:=w} else a1h k x) (b2f k):=by
  obtain ⟨hin,rfl⟩:=a8u (w:=k.ways) (b:=k.buf) hm
  have he:iB k.mis line acks own=0:=by
    unfold iB a5y
    rw [if_pos hin,if_pos]
    have h1:(bV k.mis line).needs= -1:=hn
    have h2:(bV k.mis line).got≤acks:=hg
    rw [decide_eq_true (And.intro h1 h2),Bool.true_and]
    rcases hk with ⟨h3,h4⟩|⟨h3,h4,h5⟩
    · rw [if_pos (show (bV k.mis line).kind=2 from h3)];exact decide_eq_true h4
    · rw [if_neg (by have:(bV k.mis line).kind=1:=h3;omega)];exact decide_eq_true ⟨h4,h5⟩
  refine ⟨he,fun x=>rfl,fun x _=>rfl,fun x=>?_,fun x=>rfl⟩
  unfold iS
  rw [if_pos he]
  exact a6o (a:={ bV k.mis line with needs:=acks,own:=own,words:=w}) hin rfl x
theorem c8d {acks:Int} {m:AMs Words} (hm:a1h k line=some m) (hn:m.needs= -1) (hg:m.got≤acks) (hk:m.kind=2) :
    iB k.mis line acks 4=0∧CaEv c k ⟨k.ways,gZ k.mis line acks,k.buf⟩ (y7 c k) (b4u c k) (fun x=>if x=line then some { m with needs:=acks,own:=4,w:= .zero,gr:=true} else a1h k x) (b2f k):=by
  have he:=(b8q (c:=c) (w:= .zero) (own:=4) hm hn hg (.inl ⟨hk,rfl⟩)).1
  obtain ⟨hin,rfl⟩:=a8u (w:=k.ways) (b:=k.buf) hm
  refine ⟨he,fun x=>rfl,fun x _=>rfl,fun x=>?_,fun x=>rfl⟩
  unfold gZ
  rw [if_pos he]
  exact a6o (a:={ bV k.mis line with needs:=acks,own:=4,words:= .zero,granted:=true}) hin rfl x
theorem e1i {m:AMs Words} (hm:a1h k line=some m) (hk:m.kind≠1) (hn:m.needs≠m.got) :
    vQ k.mis line=0∧CaEv c k ⟨k.ways,nJ k.mis line,k.buf⟩ (y7 c k) (b4u c k) (fun x=>if x=line then some { m with got:=m.got+1} else a1h k x) (b2f k):=by
  obtain ⟨hin,rfl⟩:=a8u (w:=k.ways) (b:=k.buf) hm
  have he:vQ k.mis line=0:=by
    unfold vQ
    rw [if_pos hin,if_neg]
    rintro (g|g)
    · exact hk g
    · exact hn g
  refine ⟨he,fun x=>rfl,fun x _=>rfl,fun x=>?_,fun x=>rfl⟩
  unfold nJ
  rw [if_pos he]
  exact a6o (a:={ bV k.mis line with got:=(bV k.mis line).got+1}) hin rfl x
theorem e1j {m:AMs Words} (h:mO c n k) (hm:a1h k line=some m) (h1:m.needs=m.got) (h2:m.ow=false) (h3:0≤m.own∧m.own≤4) :
    CaEv c k (dM c k line) (fun x=>if x=line then m.own else y7 c k x) (fun x=>if x=line then (if m.gr=true then b4u c k line else m.w) else b4u c k x) (fun x=>if x=line then some { m with ow:=true} else a1h k x) (b2f k):=by
  obtain ⟨hin,rfl⟩:=a8u (w:=k.ways) (b:=k.buf) hm
  have hb:wV k.mis line=true:=by
    unfold wV
    have g2:(bV k.mis line).owes=false:=h2
    rw [hin,g2,decide_eq_true (show (bV k.mis line).needs=(bV k.mis line).got from h1)];rfl
  have hM:uV k.mis line=bV k.mis line:=by unfold uV;rw [if_pos hb]
  have hk:dM c k line=⟨e7 c k.ways line (bV k.mis line).own (if (bV k.mis line).granted=true then (aT c k.ways line).words else (bV k.mis line).words),rM k.mis line,k.buf⟩:=by unfold dM;rw [if_pos hb,hM]
  obtain ⟨y,hv,_⟩:=h.2.1.ml line (v8.1 hin)
  have hs:pZ c k.ways line (bV k.mis line).own (if (bV k.mis line).granted=true then (aT c k.ways line).words else (bV k.mis line).words)=0:=by
    refine a0p (by rw [hv];rfl) h3 ?_
    split
    · exact a7u (zD h.2.2.1)
    · exact a7u (a5n h.2.2.2.1)
  rw [hk]
  refine ⟨fun x=>(oU h.1.1 hs x).1,fun x hx=>(oU h.1.1 hs x).2 hx,fun x=>?_,fun x=>rfl⟩
  have:rM k.mis line=k.mis.set (qS k.mis line).toNat { bV k.mis line with owes:=true}:=by unfold rM;rw [if_pos hb]
  show a1h ⟨_,rM k.mis line,_⟩ x=_
  rw [this]
  exact a6o (a:={ bV k.mis line with owes:=true}) hin rfl x
theorem b1b {m:AMs Words} (hm:a1h k line=some m) (h1:m.needs≠m.got∨m.ow=true):dM c k line=k:=by
  obtain ⟨hin,rfl⟩:=a8u (w:=k.ways) (b:=k.buf) hm
  have hb:wV k.mis line=false:=by
    unfold wV
    rcases h1 with g|g
    · rw [decide_eq_false (show ¬(bV k.mis line).needs=(bV k.mis line).got from g),Bool.and_false]
    · rw [show (bV k.mis line).owes=true from g,Bool.not_true,Bool.and_false,Bool.false_and]
  unfold dM
  rw [hb];rfl
theorem e6m (h:mO c n k) (hb:kH k=true):(∃ m,a1h k (bU k)=some m∧m.ow=true)∧CaEv c k (gG c k) (y7 c k) (b4u c k) (fun x=>if x=bU k then none else a1h k x) (b2f k):=by
  obtain ⟨he,i,hi,e1,e2,e3⟩:=b0i h.2.1.nd hb
  have hin:cR k.mis (bU k)=true:=decide_eq_true (by rw [e1];omega)
  have hat:bV k.mis (bU k)=k.mis[i]:=by unfold bV;rw [e1,Int.toNat_natCast,List.getD_eq_getElem?_getD,List.getElem?_eq_getElem hi];rfl
  have hk:gG c k=⟨gJ c k.ways (bU k) false,iN k.mis (bU k),k.buf⟩:=by unfold gG;rw [if_pos hb]
  refine ⟨⟨e9q (bV k.mis (bU k)),by unfold a1h;rw [d6c hin];rfl,by rw [hat];exact e3⟩,?_⟩
  rw [hk]
  refine ⟨fun x=>(a6n h.1.1 x).1,fun x hx=>(a6n h.1.1 x).2 (by rw [←(a6n (lk:=false) (line:=bU k) h.1.1 x).1];exact hx),fun x=>?_,fun x=>rfl⟩
  show (fk d5z (iN k.mis (bU k)) x).map e9q=_
  unfold iN
  rw [if_pos he,e1,Int.toNat_natCast,b8p (f:=d5z) hi h.2.1.nd,show d5z k.mis[i]=bU k from e2.symm]
  by_cases hx:x=bU k
  · rw [if_pos hx,if_pos hx];rfl
  · rw [if_neg hx,if_neg hx];rfl
theorem e9k {x:Op3} (h:mO c n k) (he:mM c k x=0) :
    (x.kind=1∧fG c k x=k∧y7 c k (cQ c x.addr)≠0∧e1r c x=0)
    ∨(x.kind≠1∧(y7 c k (cQ c x.addr)=2∨y7 c k (cQ c x.addr)=4)∧e1r c x=0
     ∧CaEv c k (fG c k x) (fun y=>if y=cQ c x.addr then 4 else y7 c k y) (fun y=>if y=cQ c x.addr then c9a c (b4u c k (cQ c x.addr)) x else b4u c k y) (a1h k) (b2f k)):=by
  have he0:=he
  unfold mM at he
  split at he
  · rename_i ha
    split at he
    · rename_i hc
      unfold q6 cP at hc
      by_cases hk:x.kind=1
      · left
        rw [if_pos hk,if_pos rfl] at hc
        exact ⟨hk,by unfold fG;rw [if_neg (fun g=>g.2 hk)],of_decide_eq_true hc,ha⟩
      · right
        rw [if_neg hk,if_neg (om)] at hc
        have hc:=of_decide_eq_true hc
        obtain ⟨y,hv,_⟩:=a1g (c:=c) (l:=k.ways) (line:=cQ c x.addr) (by show (aT c k.ways (cQ c x.addr)).st≠0;omega)
        have hs:pZ c k.ways (cQ c x.addr) 4 (c9a c (aT c k.ways (cQ c x.addr)).words x)=0:=a0p (by rw [hv];rfl) (om) (a7u (e9n (zD h.2.2.1)))
        have hK:fG c k x=⟨e7 c k.ways (cQ c x.addr) 4 (c9a c (aT c k.ways (cQ c x.addr)).words x),k.mis,k.buf⟩:=by unfold fG;rw [if_pos ⟨he0,hk⟩]
        refine ⟨hk,hc,ha,?_⟩
        rw [hK]
        exact ⟨fun y=>(oU h.1.1 hs y).1,fun y hy=>(oU h.1.1 hs y).2 hy,fun y=>rfl,fun y=>rfl⟩
    · cases he
  · rename_i ha;exact absurd he ha
end
end
section
structure SSet where
  cores:Int
  most:Int
  ps:List Int
  all:Bool
theorem SSet.ext_iff' {a b:SSet}:(a.cores=b.cores∧a.most=b.most∧a.all=b.all∧a.ps=b.ps)↔a=b:=by
  rcases a with ⟨a1,a2,a3,a4⟩
  rcases b with ⟨b1,b2,b3,b4⟩
  simp only [SSet.mk.injEq]
  constructor<;>(rintro ⟨h1,h2,h3,h4⟩;exact ⟨h1,h2,h4,h3⟩)
instance:DecidableEq SSet:=fun a b=>decidable_of_iff _ SSet.ext_iff'
abbrev f0w (s:SSet) (a:Option Addr) (k:Nat):List Value:=[.int .i64 s.cores,.int .i64 s.most,.slice a s.ps.length k,.bool s.all]
abbrev e9r (s:SSet) (a:Option Addr) (k:Nat):Value:= .agg (f0w s a k).toArray
abbrev SSet.no:SSet:=⟨0,0,[],false⟩
def gY (n:Int):Int→List Int→Bool
  |_,[]=>true
  |last,c::r=>decide (last<c)&& decide (c<n)&& gY n c r
def c7 (s:SSet):Bool:=decide (1≤s.cores)&& decide (s.cores≤64)&& decide (0≤s.most)&& decide (s.most≤8)&& decide ((s.ps.length:Int)≤s.most)&& !(s.all&& decide (0<s.ps.length))&& gY s.cores (-1) s.ps
def bN (s:SSet) (c:Int):Bool:=if s.all then decide (0≤c)&& decide (c<s.cores) else decide (c∈s.ps)
def b3n (c:Int) (l:List Int):List Int:=l.take (yV l c)++c::l.drop (yV l c)
def oV (s:SSet) (c:Int):Int:=if c7 s then (if c<0∨s.cores≤c then 5 else 0) else 1
def cT (s:SSet) (c:Int):SSet:=if oV s c=0 then (if bN s c then s else if (s.ps.length:Int)=s.most then ⟨s.cores,s.most,[],true⟩ else ⟨s.cores,s.most,b3n c s.ps,s.all⟩) else .no
def a2p (n:Nat):List Int:=(List.range n).map fun (i:Nat)=>(i:Int)
def i6 (s:SSet) (but:List Int) (n:Nat):List Int:=(a2p n).filter fun c=>bN s c&& !decide (c∈but)
theorem a1i {n:Int}:∀ {l:List Int} {last:Int},gY n last l=true→l.Pairwise (· < ·)∧∀ c∈l,last<c∧c<n
  | [],_,_=>⟨List.Pairwise.nil,fun c h=>by cases h⟩
  |a::r,last,h=>by
   simp only [gY,Bool.and_eq_true,decide_eq_true_eq] at h
   obtain ⟨⟨h1,h2⟩,h3⟩:=h
   obtain ⟨p,q⟩:=a1i h3
   refine ⟨List.pairwise_cons.2 ⟨fun c hc=>(q c hc).1,p⟩,fun c hc=>?_⟩
   rcases List.mem_cons.1 hc with rfl|hc
   · exact ⟨h1,h2⟩
   · have:=q c hc;exact ⟨om,this.2⟩
theorem b1c {n:Int}:∀ {l:List Int} {last:Int},l.Pairwise (· < ·)→(∀ c∈l,last<c∧c<n)→gY n last l=true
  | [],_,_,_=>rfl
  |a::r,last,p,q=>by
   have h:=q a (by simp)
   rw [List.pairwise_cons] at p
   simp only [gY,h.1,h.2,decide_true,Bool.true_and]
   exact b1c p.2 fun c hc=>⟨p.1 c hc,(q c (List.mem_cons_of_mem _ hc)).2⟩
theorem dB {s:SSet} (h:c7 s=true):1≤s.cores∧s.cores≤64∧0≤s.most∧s.most≤8∧(s.ps.length:Int)≤s.most∧(s.all=true→s.ps=[])∧s.ps.Pairwise (· < ·)∧∀ c∈s.ps,0≤c∧c<s.cores:=by
  simp only [c7,Bool.and_eq_true,decide_eq_true_eq,Bool.not_eq_true',Bool.and_eq_false_iff,decide_eq_false_iff_not] at h
  obtain ⟨⟨⟨⟨⟨⟨h1,h2⟩,h3⟩,h4⟩,h5⟩,h6⟩,h7⟩:=h
  obtain ⟨p,q⟩:=a1i h7
  refine ⟨h1,h2,h3,h4,h5,fun ha=>?_,p,fun c hc=>by have:=q c hc;exact ⟨om,this.2⟩⟩
  rcases h6 with h|h
  · rw [ha] at h;cases h
  · exact List.eq_nil_of_length_eq_zero (om)
theorem a7v (c:Int) (l:List Int):(b3n c l).length=l.length+1:=by
  have:=d4d l c
  unfold b3n
  rw [List.length_append,List.length_cons,List.length_take,List.length_drop];omega
attribute [local irreducible] Exit.then Exit.inBlock Code.wp WC WO WE WQ V bF tV d3 bW dF uH IntKind.wrap WR Code.rounds WT KO
theorem a6p {F:List HP} {s:SSet} {a:Option Addr} {k:Nat} (hk:RdL F 1 (.slice a s.ps.length k) s.ps.length (aC ic s.ps)) (hn:s.ps.length≤1000) :
    FnF Tryz.prog 176 [e9r s a k] [] F (fun r L'=>r= .bool (c7 s)∧L'=[]):=by
  refine FnF.mk' Tryz.func176 rfl rfl Tryz.ntmps176 rfl ?_
  by_cases a1:1≤s.cores
  · by_cases a2:s.cores≤64
    · by_cases a3:0≤s.most
      · by_cases a4:s.most≤8
        · by_cases a5:(s.ps.length:Int)≤s.most
          · by_cases a6:s.all=true∧0<s.ps.length
            · obtain ⟨b1,b2⟩:=a6
              repeat first|refine gd ?_|intro _
              (apply aA rfl rfl bB;(first|exact lW|exact ⟨by simp [c7,b1,b2]<;>omega,rfl⟩);exact iC)
            · have hb:c7 s=gY s.cores (-1) s.ps:=by
                have:(!(s.all&& decide (0<s.ps.length)))=true:=by
                  cases hc:s.all with
                  |false=>rfl
                  |true=>
                   have:¬0<s.ps.length:=fun h=>a6 ⟨hc,h⟩
                   simp [this]
                simp only [c7,a1,a2,a3,a4,a5,decide_true,Bool.true_and,this]
              rw [hb]
              cases hc:s.all with
              |false=>
               repeat first|refine gd ?_|intro _
               rename_i bs
               apply bC (E0:=[(1,_),(43,_),(44,_)]) (fun E0 (q:Nat×Int)=>(45,.int .i64 q.1)::(3,.int .i64 q.2)::E0) (fun _=>Cells bs 133 (f0w s a k)::F)
                 (fun q=>q.1≤s.ps.length∧gY s.cores (-1) s.ps=gY s.cores q.2 (s.ps.drop q.1)) (fun q=>s.ps.length-q.1) (0,-1)
               · exact nB
               · exact ⟨Nat.zero_le _,rfl⟩
               · exact aB
               · rintro ⟨j,last⟩ ⟨hj,hr⟩
                 dsimp only at hj hr ⊢
                 rw [hr]
                 by_cases hlt:j<s.ps.length
                 · rw [List.drop_eq_getElem_cons hlt] at hr ⊢
                   by_cases c1:last<s.ps[j]
                   · by_cases c2:s.ps[j]<s.cores
                     · repeat first|refine gd ?_|intro _
                       refine aS (j+1,s.ps[j]) (by dsimp only;omega) ⟨by dsimp only;omega,by dsimp only;simp [gY,c1,c2]⟩ ?_ ?_
                       · exact nB
                       · exact aB
                     · repeat first|refine gd ?_|intro _
                       (apply aA rfl rfl bB;(first|exact lW|exact ⟨by simp [gY,c1,c2]<;>omega,rfl⟩);exact iC)
                   · repeat first|refine gd ?_|intro _
                     (apply aA rfl rfl bB;(first|exact lW|exact ⟨by simp [gY,c1]<;>omega,rfl⟩);exact iC)
                 · have hjl:j=s.ps.length:=by omega
                   subst hjl
                   rw [List.drop_length]
                   repeat first|refine gd ?_|intro _
                   (apply aA rfl rfl bB;(first|exact lW|exact ⟨by simp [gY]<;>omega,rfl⟩);exact iC)
              |true=>
               have b2:¬0<s.ps.length:=fun h=>a6 ⟨hc,h⟩
               repeat first|refine gd ?_|intro _
               rename_i bs
               apply bC (E0:=[(1,_),(43,_),(44,_)]) (fun E0 (q:Nat×Int)=>(45,.int .i64 q.1)::(3,.int .i64 q.2)::E0) (fun _=>Cells bs 133 (f0w s a k)::F)
                 (fun q=>q.1≤s.ps.length∧gY s.cores (-1) s.ps=gY s.cores q.2 (s.ps.drop q.1)) (fun q=>s.ps.length-q.1) (0,-1)
               · exact nB
               · exact ⟨Nat.zero_le _,rfl⟩
               · exact aB
               · rintro ⟨j,last⟩ ⟨hj,hr⟩
                 dsimp only at hj hr ⊢
                 rw [hr]
                 by_cases hlt:j<s.ps.length
                 · omega
                 · have hjl:j=s.ps.length:=by omega
                   subst hjl
                   rw [List.drop_length]
                   repeat first|refine gd ?_|intro _
                   (apply aA rfl rfl bB;(first|exact lW|exact ⟨by simp [gY]<;>omega,rfl⟩);exact iC)
          · repeat first|refine gd ?_|intro _
            (apply aA rfl rfl bB;(first|exact lW|exact ⟨by simp [c7,a5]<;>omega,rfl⟩);exact iC)
        · repeat first|refine gd ?_|intro _
          (apply aA rfl rfl bB;(first|exact lW|exact ⟨by simp [c7,a4]<;>omega,rfl⟩);exact iC)
      · repeat first|refine gd ?_|intro _
        (apply aA rfl rfl bB;(first|exact lW|exact ⟨by simp [c7,a3]<;>omega,rfl⟩);exact iC)
    · repeat first|refine gd ?_|intro _
      (apply aA rfl rfl bB;(first|exact lW|exact ⟨by simp [c7,a2]<;>omega,rfl⟩);exact iC)
  · repeat first|refine gd ?_|intro _
    (apply aA rfl rfl bB;(first|exact lW|exact ⟨by simp [c7,a1]<;>omega,rfl⟩);exact iC)
theorem a6q {F:List HP} {s:SSet} {a:Option Addr} {k:Nat} {c:Int} (hk:RdL F 1 (.slice a s.ps.length k) s.ps.length (aC ic s.ps)) (hm:c7 s=true) :
    FnF Tryz.prog 84 [e9r s a k,.int .i64 c] [] F (fun r L'=>r= .bool (bN s c)∧L'=[]):=by
  obtain ⟨m1,m2,m3,m4,m5,m6,m7,m8⟩:=dB hm
  refine FnF.mk' Tryz.func84 rfl rfl Tryz.ntmps84 rfl ?_
  cases ha:s.all with
  |true=>
   by_cases h0:0≤c
   · repeat first|refine gd ?_|intro _
     (apply aA rfl rfl bB;(first|exact lW|exact ⟨by simp [bN,ha,h0]<;>omega,rfl⟩);exact iC)
   · repeat first|refine gd ?_|intro _
     (apply aA rfl rfl bB;(first|exact lW|exact ⟨by simp [bN,ha,h0]<;>omega,rfl⟩);exact iC)
  |false=>
   repeat first|refine gd ?_|intro _|refine aD @nP ?_
   (apply aA rfl rfl bB;(first|exact lW|exact ⟨by simp [bN,ha]<;>omega,rfl⟩);exact iC)
theorem b1d {F:List HP} {s:SSet} {a:Option Addr} {k:Nat}:FnF Tryz.prog 245 [e9r s a k] [] F (fun r L'=>r=e9r ⟨s.cores,s.most,[],false⟩ none 0∧L'=[]):=by
  refine FnF.mk' Tryz.func245 rfl rfl Tryz.ntmps245 rfl ?_
  repeat first|refine gd ?_|intro _
  exact aU
theorem e1k {F:List HP} {cores most:Int}:FnF Tryz.prog 137 [.int .i64 cores,.int .i64 most] [] F
    (fun r L'=>r= .tuple [e9r (if c7 ⟨cores,most,[],false⟩ then ⟨cores,most,[],false⟩ else .no) none 0,.int .i64 (if c7 ⟨cores,most,[],false⟩ then 0 else 1)].toArray∧L'=[]):=by
  have hM:=fun F=>a6p (F:=F) (s:=⟨cores,most,[],false⟩) (a:=none) (k:=0) pS (by simp)
  cases e:c7 ⟨cores,most,[],false⟩ with
  |true=>
   simp only [e,List.length_nil] at hM
   refine FnF.mk' Tryz.func137 rfl rfl Tryz.ntmps137 rfl ?_
   repeat first|refine gd ?_|intro _|refine aD @hM ?_
   exact aU
  |false=>
   simp only [e,List.length_nil] at hM
   refine FnF.mk' Tryz.func137 rfl rfl Tryz.ntmps137 rfl ?_
   repeat first|refine gd ?_|intro _|refine aD @hM ?_
   exact aU
theorem vE {F:List HP} {s:SSet} {a:Option Addr} {k:Nat} {u:Value} {but:List Int} (hk:RdL F 1 (.slice a s.ps.length k) s.ps.length (aC ic s.ps)) (hm:c7 s=true) (hb:RdL F 1 u but.length (aC ic but)) (hbn:but.length≤1000) :
    FnF Tryz.prog 134 [e9r s a k,u] [] F (fun r L'=>∃ p c,r= .slice p (i6 s but s.cores.toNat).length c∧L'=[Own 3 1 (.slice p (i6 s but s.cores.toNat).length c) (i6 s but s.cores.toNat).length (aC ic (i6 s but s.cores.toNat))]):=by
  obtain ⟨m1,m2,m3,m4,m5,m6,m7,m8⟩:=dB hm
  obtain ⟨n,hn⟩:∃ n:Nat,s.cores=n:=⟨s.cores.toNat,om⟩
  refine FnF.mk' Tryz.func134 rfl rfl Tryz.ntmps134 rfl ?_
  repeat first|refine gd ?_|intro _
  rename_i bs
  apply bC (E0:=[(1,_),(2,_),(8,_)]) (fun E0 (q:Nat×Option Addr×Nat)=>(9,.int .i64 q.1)::(5,.slice q.2.1 (i6 s but q.1).length q.2.2)::E0)
    (fun q=>Own 3 1 (.slice q.2.1 (i6 s but q.1).length q.2.2) (i6 s but q.1).length (aC ic (i6 s but q.1))::Cells bs 133 (f0w s a k)::F) (fun q=>q.1≤n) (fun q=>n-q.1) (0,none,0)
  · exact nB
  · exact Nat.zero_le _
  · refine Ent.trans ?_ (aM Ent.refl)
    exact aB
  · rintro ⟨j,p,c⟩ hj
    dsimp only at hj ⊢
    have hlen:(i6 s but j).length≤j:=by
      have:=List.length_filter_le (fun c=>bN s c&& !decide (c∈but)) (a2p j)
      simp only [a2p,List.length_map,List.length_range] at this
      exact this
    have hsu:i6 s but (j+1)=if bN s j&& !decide ((j:Int)∈but) then i6 s but j++[(j:Int)] else i6 s but j:=by
      unfold i6 a2p
      rw [List.range_succ,List.map_append,List.filter_append]
      by_cases h:(bN s j&& !decide ((j:Int)∈but))=true
      · simp [h]
      · simp [h]
    by_cases hlt:j<n
    · cases hh:bN s j with
      |false=>
       have hH:=fun F (hk:RdL F 1 (.slice a s.ps.length k) s.ps.length (aC ic s.ps))=>a6q (c:=(j:Int)) hk hm
       simp only [hh] at hH
       rw [hh] at hsu
       rw [Bool.false_and,if_neg Bool.false_ne_true] at hsu
       repeat first|refine gd ?_|intro _|refine aD @hH ?_
       refine aS (j+1,p,c) (by dsimp only;omega) (by dsimp only;omega) ?_ ?_
       · dsimp only;rw [hsu];exact nB
       · dsimp only;rw [hsu];exact aB
      |true=>
       have hH:=fun F (hk:RdL F 1 (.slice a s.ps.length k) s.ps.length (aC ic s.ps))=>a6q (c:=(j:Int)) hk hm
       simp only [hh] at hH
       rw [hh] at hsu
       by_cases hc:(j:Int)∈but
       · have hc':¬¬((j:Int)∈but):=fun h=>h hc
         rw [if_neg (by simp [hc])] at hsu
         repeat first|refine gd ?_|intro _|refine aD @hH ?_|refine aD @sX ?_
         refine aS (j+1,p,c) (by dsimp only;omega) (by dsimp only;omega) ?_ ?_
         · dsimp only;rw [hsu];exact nB
         · dsimp only;rw [hsu];exact aB
       · rw [if_pos (by simp [hc])] at hsu
         repeat first|refine gd ?_|intro _|refine aD @hH ?_|refine aD @sX ?_
         rename_i b2 p2 c2
         refine aS (j+1,p2,c2) (by dsimp only;omega) (by dsimp only;omega) ?_ ?_
         · dsimp only;rw [hsu,List.length_append,List.length_singleton];exact nB
         · dsimp only;rw [hsu,List.length_append,List.length_singleton,aZ,cG];exact aB
    · have hjn:j=s.cores.toNat:=by omega
      repeat first|refine gd ?_|intro _
      subst hjn
      (apply aA rfl rfl bB)
      · exact ⟨p,c,rfl,rfl⟩
      · exact aB
theorem e1l {F:List HP} {s:SSet} {a:Option Addr} {k:Nat} {x:Int} (hk:RdL F 1 (.slice a s.ps.length k) s.ps.length (aC ic s.ps)) (hn:s.ps.length≤1000) :
    FnF Tryz.prog 247 [e9r s a k,.int .i64 x] [] F (fun r L'=>∃ a' k',r= .tuple [e9r (cT s x) a' k',.int .i64 (oV s x)].toArray∧L'=[Own 3 1 (.slice a' (cT s x).ps.length k') (cT s x).ps.length (aC ic (cT s x).ps)]):=by
  cases hm:c7 s with
  |false=>
   have e1:oV s x=1:=by simp [oV,hm]
   have e2:cT s x= .no:=by simp [cT,e1]
   rw [e1,e2]
   have hM:=fun F (hk:RdL F 1 (.slice a s.ps.length k) s.ps.length (aC ic s.ps))=>a6p hk hn
   simp only [hm] at hM
   refine FnF.mk' Tryz.func247 rfl rfl Tryz.ntmps247 rfl ?_
   repeat first|refine gd ?_|intro _|refine aD @hM ?_
   (apply aA rfl rfl bB)
   · exact ⟨none,0,rfl,rfl⟩
   · refine Ent.trans ?_ (aM Ent.refl)
     exact aB
  |true=>
   have hM:=fun F (hk:RdL F 1 (.slice a s.ps.length k) s.ps.length (aC ic s.ps))=>a6p hk hn
   simp only [hm] at hM
   obtain ⟨m1,m2,m3,m4,m5,m6,m7,m8⟩:=dB hm
   by_cases hr:x<0∨s.cores≤x
   · have e1:oV s x=5:=by simp only [oV,hm,if_true,if_pos hr]
     have e2:cT s x= .no:=by simp [cT,e1]
     rw [e1,e2]
     refine FnF.mk' Tryz.func247 rfl rfl Tryz.ntmps247 rfl ?_
     by_cases h0:x<0
     · repeat first|refine gd ?_|intro _|refine aD @hM ?_
       (apply aA rfl rfl bB)
       · exact ⟨none,0,rfl,rfl⟩
       · refine Ent.trans ?_ (aM Ent.refl)
         exact aB
     · repeat first|refine gd ?_|intro _|refine aD @hM ?_
       (apply aA rfl rfl bB)
       · exact ⟨none,0,rfl,rfl⟩
       · refine Ent.trans ?_ (aM Ent.refl)
         exact aB
   · have e1:oV s x=0:=by simp only [oV,hm,if_true,if_neg hr]
     have hx0:0≤x:=by omega
     have hx1:x<s.cores:=by omega
     have hH:=fun F a k (hk:RdL F 1 (.slice a s.ps.length k) s.ps.length (aC ic s.ps))=>a6q (c:=x) hk hm
     cases hh:bN s x with
     |true=>
      have e2:cT s x=s:=by simp [cT,e1,hh]
      rw [e1,e2]
      simp only [hh] at hH
      refine FnF.mk' Tryz.func247 rfl rfl Tryz.ntmps247 rfl ?_
      repeat first|refine gd ?_|intro _|refine aD @hM ?_|refine aD @sP ?_|refine aD @hH ?_
      (apply aA rfl rfl bB)
      · exact ⟨_,_,rfl,rfl⟩
      · exact aB
     |false=>
      simp only [hh] at hH
      by_cases hf:(s.ps.length:Int)=s.most
      · have e2:cT s x=⟨s.cores,s.most,[],true⟩:=by simp [cT,e1,hh,hf]
        rw [e1,e2]
        refine FnF.mk' Tryz.func247 rfl rfl Tryz.ntmps247 rfl ?_
        repeat first|refine gd ?_|intro _|refine aD @hM ?_|refine aD @sP ?_|refine aD @hH ?_
        (apply aA rfl rfl bB)
        · exact ⟨none,0,rfl,rfl⟩
        · refine Ent.trans ?_ (aM Ent.refl)
          exact aB
      · have e2:cT s x=⟨s.cores,s.most,b3n x s.ps,s.all⟩:=by simp [cT,e1,hh,hf]
        rw [e1,e2]
        have hlo:=d4d s.ps x
        have hI:=fun F p c vb=>a7z (F:=F) (p:=p) (c:=c) (vb:=vb) (i:=yV s.ps x) (l:=s.ps) (x:=x) hlo hn
        refine FnF.mk' Tryz.func247 rfl rfl Tryz.ntmps247 rfl ?_
        repeat first|refine gd ?_|intro _|refine aD @hM ?_|refine aD @sP ?_|refine aD @hH ?_|refine aD @nP ?_|refine aD @hI ?_
        have hins:List.take (yV s.ps x) s.ps++x::List.drop (yV s.ps x) s.ps=b3n x s.ps:=rfl
        rw [hins,←a7v x s.ps]
        (apply aA rfl rfl bB)
        · exact ⟨_,_,rfl,rfl⟩
        · exact aB
end
section
theorem a2q:∀ {l m:List Int},l.Pairwise (· < ·)→m.Pairwise (· < ·)→(∀ c,c∈l↔c∈m)→l=m
  | [],[],_,_,_=>rfl
  | [],b::m,_,_,h=>absurd ((h b).2 (by simp)) (by simp)
  |a::l,[],_,_,h=>absurd ((h a).1 (by simp)) (by simp)
  |a::l,b::m,hl,hm,h=>by
   rw [List.pairwise_cons] at hl hm
   have hab:a=b:=by
     have h1:=(h a).1 (by simp)
     have h2:=(h b).2 (by simp)
     rcases List.mem_cons.1 h1 with e|e
     · exact e
     · rcases List.mem_cons.1 h2 with e2|e2
       · exact e2.symm
       · have:=hl.1 b e2;have:=hm.1 a e;omega
   subst hab
   rw [a2q hl.2 hm.2 fun c=>⟨fun hc=>?_,fun hc=>?_⟩]
   · rcases List.mem_cons.1 ((h c).1 (List.mem_cons_of_mem _ hc)) with e|e
     · have:=hl.1 c hc;omega
     · exact e
   · rcases List.mem_cons.1 ((h c).2 (List.mem_cons_of_mem _ hc)) with e|e
     · have:=hm.1 c hc;omega
     · exact e
theorem d3f (c x:Int) (l:List Int):x∈b3n c l↔x=c∨x∈l:=by
  unfold b3n
  rw [List.mem_append,List.mem_cons]
  have h:x∈l↔x∈l.take (yV l c)∨x∈l.drop (yV l c):=by rw [←List.mem_append,List.take_append_drop]
  rw [h]
  constructor
  · rintro (h|h|h)
    · exact .inr (.inl h)
    · exact .inl h
    · exact .inr (.inr h)
  · rintro (h|h|h)
    · exact .inr (.inl h)
    · exact .inl h
    · exact .inr (.inr h)
theorem d3g (l:List Int) (c:Int):l.take (yV l c)=l.takeWhile fun x=>decide (x<c):=by
  unfold yV
  induction l with
  |nil=>rfl
  |cons a r ih=>by_cases h:a<c<;>simp [h,ih]
theorem d3h (l:List Int) (c:Int):l.drop (yV l c)=l.dropWhile fun x=>decide (x<c):=by
  unfold yV
  induction l with
  |nil=>rfl
  |cons a r ih=>by_cases h:a<c<;>simp [h,ih]
theorem b6f {c:Int} {l:List Int} (h:l.Pairwise (· < ·)) (hc:¬c∈l):(b3n c l).Pairwise (· < ·):=by
  have hp:∀ x∈l.takeWhile (fun x=>decide (x<c)),x<c:=by
    have:∀ (r:List Int),∀ x∈r.takeWhile (fun x=>decide (x<c)),x<c:=by
      intro r
      induction r with
      |nil=>intro x hx;simp at hx
      |cons a r ih=>
       intro x hx
       by_cases ha:a<c
       · simp [ha] at hx
         rcases hx with rfl|hx
         · exact ha
         · exact ih x hx
       · simp [ha] at hx
    exact this l
  have hq:∀ x∈l.dropWhile (fun x=>decide (x<c)),c<x:=by
    have:∀ (r:List Int),r.Pairwise (· < ·)→(¬c∈r)→∀ x∈r.dropWhile (fun x=>decide (x<c)),c<x:=by
      intro r
      induction r with
      |nil=>intro _ _ x hx;simp at hx
      |cons a r ih=>
       intro hr hn x hx
       rw [List.pairwise_cons] at hr
       by_cases ha:a<c
       · simp [ha] at hx
         exact ih hr.2 (fun h=>hn (List.mem_cons_of_mem _ h)) x hx
       · simp [ha] at hx
         have:c≠a:=fun e=>hn (by simp [e])
         rcases hx with rfl|hx
         · omega
         · have:=hr.1 x hx;omega
    exact this l h hc
  unfold b3n
  rw [d3g,d3h,List.pairwise_append,List.pairwise_cons]
  refine ⟨h.sublist (List.takeWhile_sublist _),⟨hq,h.sublist (List.dropWhile_sublist _)⟩,fun x hx y hy=>?_⟩
  rcases List.mem_cons.1 hy with rfl|hy
  · exact hp x hx
  · have:=hp x hx;have:=hq y hy;omega
theorem b6g (n:Nat):(a2p n).Pairwise (· < ·):=by
  unfold a2p
  rw [List.pairwise_map]
  exact List.pairwise_lt_range.imp fun h=>by omega
theorem d3i {n:Nat} {c:Int}:c∈a2p n↔0≤c∧c<n:=by
  unfold a2p
  simp only [List.mem_map,List.mem_range]
  constructor
  · rintro ⟨i,hi,rfl⟩;omega
  · rintro ⟨h1,h2⟩;exact ⟨c.toNat,om,om⟩
theorem b6h {s:SSet} {x:Int} (h0:0≤x) (h1:x<s.cores) (hn:bN s x=false):s.all=false:=by
  cases ha:s.all with
  |false=>rfl
  |true=>simp [bN,ha] at hn;omega
attribute [local irreducible] Exit.then Exit.inBlock Code.wp WC WO WE WQ V bF tV d3 bW dF uH IntKind.wrap WR Code.rounds WT KO
end
section
instance:MapT Tryz.prog 126 e2h false:=⟨_,_,_,_,_,Tryz.underlying126,Tryz.underlying3,TZ.pf⟩
attribute [local irreducible] Exit.then Exit.inBlock Code.wp WC WO WE WQ V bF tV d3 bW dF uH IntKind.wrap WR Code.rounds WT KO
end
end Go.Sx
