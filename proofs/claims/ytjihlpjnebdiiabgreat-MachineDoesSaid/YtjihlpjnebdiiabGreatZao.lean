/- ArrHPl: several of my texts as one. My own work. -/
import Derived.Test.YtjihlpjnebdiiabGreatZak
set_option linter.unusedVariables false
set_option linter.unusedSectionVars false
set_option linter.unusedSimpArgs false
set_option maxRecDepth 100000
set_option maxHeartbeats 4000000
namespace Go.Sx
open Go Go.Proofs
section
theorem uz {c:au} {l:List Way} {aa:Int} (hI:cj c l) {k:Nat} (hk:k<l.length) (h:ib aa l[k]=true):bL c aa≤k∧bS c l aa=((k-bL c aa:Nat):Int):=by
  obtain ⟨h1,h2⟩:=jc.1 h;obtain ⟨a1,a2,a3,a4⟩:=hI k hk h1;rw [h2] at a1 a2 a3;refine ⟨a2,?_⟩;by_cases Po:bS c l aa<0
  ·exfalso;have:=D6 Po (k-bL c aa) (om) a1 (om);simp only [show bL c aa+(k-bL c aa)=k by omega] at this;rw [this] at h;cases h
  ·obtain ⟨i,hi⟩:∃ i:Nat,bS c l aa=i:=⟨(bS c l aa).toNat,om⟩;obtain ⟨b1,_,b2,_⟩:=ld hi;obtain ⟨b3,b4⟩:=jc.1 b2;have:=a4 _ b1 b3 (by rw [b4,h2]);omega
theorem D7 {c:au} {l:List Way} {aa:Int} (h:∀ k (hk:k<l.length),ib aa l[k]=false):bS c l aa= -1:=by
  by_cases Po:bS c l aa<0
  ·have:=(l5 c l aa).1;omega
  ·obtain ⟨i,hi⟩:∃ i:Nat,bS c l aa=i:=⟨(bS c l aa).toNat,om⟩;obtain ⟨b1,_,b2,_⟩:=ld hi;rw [h _ b1] at b2;cases b2
theorem QK {c:au} {l:List Way} {aa:Int} (hI:cj c l) (h:bS c l aa<0) {j:Nat} (hj:j<l.length):ib aa l[j]=false:=by
  cases e:ib aa l[j] with
  |false=>rfl
  |true=>have:=(uz hI hj e).2;omega
theorem By {c:au} {l:List Way} {aa:Int} {k:Nat} {w:Way} (hI:cj c l) (vA:cj c (l.set k w)) (hk:k<l.length) (h1:ib aa l[k]=false) (h2:ib aa w=false) :
    bS c (l.set k w) aa=bS c l aa∧bg c (l.set k w) aa=bg c l aa:=by
  by_cases Po:bS c l aa<0
  ·have e1:bS c l aa= -1:=by have:=(l5 c l aa).1;omega
   have e2:bS c (l.set k w) aa= -1:=D7 fun j hj=>by
     rw [List.length_set] at hj;by_cases e:k=j
     ·subst e;rw [List.getElem_set_self];exact h2
     ·rw [List.getElem_set_ne e];exact QK hI Po hj
   refine ⟨by rw [e1,e2],?_⟩;unfold bg;rw [if_pos (om),if_pos (om)]
  ·obtain ⟨i,hi⟩:∃ i:Nat,bS c l aa=i:=⟨(bS c l aa).toNat,om⟩;obtain ⟨b1,_,b2,_⟩:=ld hi;have kz:k≠bL c aa+i:=fun e=>by subst e;rw [b2] at h1;cases h1
   have b3:bL c aa+i<(l.set k w).length:=by rw [List.length_set];exact b1
   have b4:(l.set k w)[bL c aa+i]=l[bL c aa+i]:=List.getElem_set_ne kz _;have e2:bS c (l.set k w) aa=i:=by
     rw [(uz vA b3 (by rw [b4];exact b2)).2];omega
   exact ⟨by rw [hi,e2],by rw [jd e2 b3,b4,jd hi b1]⟩
theorem N0 {aa hK:Int} {w:Way} (h:ib hK w=true) (kz:hK≠aa):ib aa w=false:=by
  cases e:ib aa w with
  |false=>rfl
  |true=>exact absurd ((jc.1 h).2.symm.trans (jc.1 e).2) kz
theorem K9 {c:au} {l:List Way} {aa hK kV:Int} (hI:cj c l) (hx:hK≠aa):bS c (fJ c l hK kV) aa=bS c l aa∧bg c (fJ c l hK kV) aa=bg c l aa:=by
  have vA:=xi (aa:=hK) (kV:=kV) hI;unfold fJ at vA ⊢;by_cases h:oF c l hK kV=0
  ·rw [if_pos h] at vA ⊢;unfold oF at h;split at h
   ·rename_i h0;split at h
    ·split at h
     ·cases h
     ·rename_i hp ht;have cO:bG c hK=true:=by
        cases e:bG c hK with
        |true=>rfl
        |false=>rw [lG e] at h0;simp at h0;omega
      obtain ⟨k,hk⟩:∃ k:Nat,kV=k:=⟨kV.toNat,om⟩;subst hk;have xY:k<(cL c l hK).length:=by omega
      obtain ⟨h2,eg⟩:=k6 cO xY;rw [Int.toNat_natCast,←ia xY,eg] at ht;rw [Int.toNat_natCast] at vA ⊢;refine By hI vA h2 ?_ ?_
      ·simp [ib,ht]
      ·simp [ib,hx]
    ·cases h
   ·cases h
  ·rw [if_neg h];exact ⟨rfl,rfl⟩
theorem Bz {c:au} {l:List Way} {aa hK:Int} {w:Way} (hI:cj c l) (hp:¬bS c l hK= -1) (hl:w.aa=(bg c l hK).aa) (hx:hK≠aa) :
    bS c (l.set (bL c hK+(bS c l hK).toNat) w) aa=bS c l aa∧bg c (l.set (bL c hK+(bS c l hK).toNat) w) aa=bg c l aa:=by
  have vA:=xj hI hp hl;have h0:0≤bS c l hK:=by have:=(l5 c l hK).1;omega
  obtain ⟨i,hi⟩:∃ i:Nat,bS c l hK=i:=⟨(bS c l hK).toNat,om⟩;obtain ⟨b1,_,b2,_⟩:=ld hi;rw [jd hi b1] at hl;rw [hi,Int.toNat_natCast] at vA ⊢;refine By hI vA b1 (N0 b2 hx) ?_;have:=(jc.1 b2).2;simp [ib,hl,this,hx]
theorem La {c:au} {l:List Way} {aa hK st:Int} {w:Words} (hI:cj c l) (hx:hK≠aa):bS c (db c l hK st w) aa=bS c l aa∧bg c (db c l hK st w) aa=bg c l aa:=by
  unfold db;split
  ·rename_i h;exact Bz hI (fun hp=>by unfold lC at h;rw [if_pos hp] at h;cases h) rfl hx
  ·exact ⟨rfl,rfl⟩
theorem It {c:au} {l:List Way} {aa hK:Int} {lk:Bool} (hI:cj c l) (hx:hK≠aa):bS c (eZ c l hK lk) aa=bS c l aa∧bg c (eZ c l hK lk) aa=bg c l aa:=by
  unfold eZ;split
  ·rename_i h;exact Bz hI (fun hp=>by unfold rk at h;rw [if_pos hp] at h;cases h) rfl hx
  ·exact ⟨rfl,rfl⟩
theorem Di {c:au} {l:List Way} {aa:Int} {i:Nat} {w:Way} (hI:cj c l) (hi:bS c l aa=i) (hl:w.aa=aa) :
    (cr w=true→bS c (l.set (bL c aa+i) w) aa=i∧bg c (l.set (bL c aa+i) w) aa=w)∧(cr w=false→bS c (l.set (bL c aa+i) w) aa= -1):=by
  obtain ⟨b1,_,b2,_⟩:=ld hi;have Sb:=(jc.1 b2).2;have vA:=xj (w:=w) hI (by omega:¬bS c l aa= -1) (by rw [jd hi b1,Sb,hl]);rw [hi,Int.toNat_natCast] at vA;have b3:bL c aa+i<(l.set (bL c aa+i) w).length:=by rw [List.length_set];exact b1
  constructor
  ·intro ht;have e2:bS c (l.set (bL c aa+i) w) aa=i:=by
     rw [(uz vA b3 (by rw [List.getElem_set_self];exact jc.2 ⟨ht,hl⟩)).2];omega
   exact ⟨e2,by rw [jd e2 b3,List.getElem_set_self]⟩
  ·intro ht;refine D7 fun j hj=>?_;rw [List.length_set] at hj;by_cases e:bL c aa+i=j
   ·subst e;rw [List.getElem_set_self];simp [ib,ht]
   ·rw [List.getElem_set_ne e];cases ej:ib aa l[j] with
    |false=>rfl
    |true=>have:=uz hI hj ej;omega
theorem yr {c:au} {l:List Way} {aa:Int} {i:Nat} (hi:bS c l aa=i):(bg c l aa).aa=aa:=by
  obtain ⟨b1,_,b2,_⟩:=ld hi;rw [jd hi b1];exact (jc.1 b2).2
theorem wN {c:au} {l:List Way} {aa:Int} {i:Nat} (hi:bS c l aa=i):gI c l aa=true∧oY c l aa=i:=by
  unfold gI oY;rw [hi];exact ⟨by simp,if_neg (om)⟩
theorem Dj {c:au} {l:List Way} {aa:Int} (hi:bS c l aa= -1):gI c l aa=false∧oY c l aa=0∧bg c l aa= .zero:=by
  unfold gI oY bg;rw [hi];exact ⟨rfl,rfl,rfl⟩
theorem N1 {c:au} {l:List Way} {aa st:Int} {w:Words} (hI:cj c l) (he:lC c l aa st w=0) :
    gI c l aa=true∧(((bg c l aa).lk=true∨st≠0)→gI c (db c l aa st w) aa=true∧oY c (db c l aa st w) aa=oY c l aa∧bg c (db c l aa st w) aa=⟨st,aa,if st=0 then .zero else w,(bg c l aa).lk⟩)∧
    (((bg c l aa).lk=false∧st=0)→gI c (db c l aa st w) aa=false∧oY c (db c l aa st w) aa=0∧bg c (db c l aa st w) aa= .zero):=by
  have hp:¬bS c l aa= -1:=fun hp=>by unfold lC at he;rw [if_pos hp] at he;cases he
  have h0:0≤bS c l aa:=by have:=(l5 c l aa).1;omega
  obtain ⟨i,hi⟩:∃ i:Nat,bS c l aa=i:=⟨(bS c l aa).toNat,om⟩;have hl:=yr hi;have e1:db c l aa st w=l.set (bL c aa+i) { bg c l aa with st:=st,ag:=if st=0 then .zero else w}:=by
    unfold db;rw [if_pos he,hi,Int.toNat_natCast]
  rw [e1];obtain ⟨t1,t2⟩:=Di (w:={ bg c l aa with st:=st,ag:=if st=0 then .zero else w}) hI hi hl;refine ⟨(wN hi).1,fun h=>?_,fun h=>?_⟩
  ·obtain ⟨u1,u2⟩:=t1 (by rcases h with h|h<;>simp [cr,h]);refine ⟨(wN u1).1,by rw [(wN u1).2,(wN hi).2],?_⟩;rw [u2]
   show (⟨st,(bg c l aa).aa,_,_⟩:Way)=_;rw [hl]
  ·exact Dj (t2 (by simp [cr,h.1,h.2]))
end
end Go.Sx
