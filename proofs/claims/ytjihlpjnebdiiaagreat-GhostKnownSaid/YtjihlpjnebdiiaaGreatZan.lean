/- Hom5, HomPl2, Net, Ma, WiPl, MaL: several of my texts as one. My own work. -/
import Derived.Test.YtjihlpjnebdiiaaGreatZam
set_option linter.unusedVariables false
set_option linter.unusedSectionVars false
set_option linter.unusedSimpArgs false
set_option maxRecDepth 100000
set_option maxHeartbeats 4000000
namespace Go.Sx
open Go Go.Proofs
section
def a6t (c:Cfg):TEnt:=⟨-1,⟨c.cores,c.pointers,[],false⟩⟩
def c5b (c:Cfg) (l:List Int):List (Int×c2i):=l.foldl (fun m k=>kC m k (a6t c,none,0)) []
def d6f (c:Cfg) (l:List Int):List (Int×TEnt):=l.foldl (fun m k=>kC m k (a6t c)) []
theorem b3q (c:Cfg) (l:List Int):b8h (c5b c l)=d6f c l:=by
  have:∀ (l:List Int) (m:List (Int×c2i)),b8h (l.foldl (fun m k=>kC m k (a6t c,none,0)) m)=l.foldl (fun m k=>kC m k (a6t c)) (b8h m):=by
    intro l
    induction l with
    |nil=>intro m;rfl
    |cons a r ih=>intro m;rw [List.foldl_cons,List.foldl_cons,ih,pU]
  exact this l []
theorem a7x (c:Cfg) (l:List Int) (k:Int):fQ (d6f c l) k=if k∈l then some (a6t c) else none:=by
  have:∀ (l:List Int) (m:List (Int×TEnt)),fQ (l.foldl (fun m k=>kC m k (a6t c)) m) k=if k∈l then some (a6t c) else fQ m k:=by
    intro l
    induction l with
    |nil=>intro m;simp
    |cons a r ih=>
     intro m
     rw [List.foldl_cons,ih,v6]
     by_cases h1:k∈r
     · simp [h1]
     · by_cases h2:k=a<;>simp [h1,h2]
  exact this l []
def qB (c:Cfg) (num:Int):HomS:=⟨d6f c (iO c num),List.replicate (c.words*c.lines).toNat 0,[],0⟩
theorem d6g {c:Cfg} (h:aF c=true):c7 ⟨c.cores,c.pointers,[],false⟩=true:=by
  simp only [aF,fI,Bool.and_eq_true,decide_eq_true_eq] at h
  refine a4t (by dsimp only;omega) (by dsimp only;omega) (by dsimp only;omega) (by dsimp only;omega) (by simp;omega) (fun h=>by cases h) List.Pairwise.nil (fun c hc=>by cases hc)
def zY (c:Cfg) (num:Int):Bool:=aF c&& decide (0≤num∧num<c.homes)
theorem d3s {L M:List HP} {ps:List (Int×c2i)} {k:Int} {c:Cfg} (h:Ent L (All (b8g ps)::M)):Ent L (All (b8g (kC ps k (a6t c,none,0)))::M):=
  Ent.trans h (Ent.trans c5a (b8i ps k (a6t c,none,0)))
attribute [local irreducible] Exit.then Exit.inBlock Code.wp WC WO WE WQ V bF tV d3 bW dF uH IntKind.wrap WR Code.rounds WT KO
theorem tT {Q P:Prop} (k:Q) (h:Hid Q→P:=by
  intro k
  first
  |(refine aG ?_;refine q9 (id:=9) .false (pl:= .p 0 <| .p 1 <| .p 2 <| .p 4 <| .p 5 <| .p 7 <| .r 3 <| .r 6 <| .r 8 <| .e true [(9,.p 10 <| .p 11 <| .p 12 <| .e true [(13,.done)])]) k.out)):P:=h ⟨k⟩
theorem e6u {F:List HP} {c:Cfg} {num:Int} (hc:c.wf) (h:zY c num=true):FnF Tryz.prog 48 [c.val,.int .i64 num] [] F (fun r L'=>∃ b,r= .tuple [.pointer (some ⟨b,0,none⟩),.int .i64 0].toArray∧L'=[iV b c num (qB c num)]):=by
  simp only [zY,Bool.and_eq_true,decide_eq_true_eq] at h
  obtain ⟨hb,h0,h1⟩:=h
  have hM:=fun F=>c4z (F:=F) hc hb
  have hQ:=fun F=>e5o (F:=F) (b0u hb)
  have hI:kP num:=by have:=(iE hb).2.1;unfold kP;omega
  have hLi:=fun F=>b5q (F:=F) hc hI
  have hT:=fun F=>d8b (F:=F) (cores:=c.cores) (most:=c.pointers)
  simp only [d6g hb,if_true] at hT
  have hll:(iO c num).length≤1099511627776:=by
    have:=(iE hb).2.2.2
    unfold iO
    split
    · rw [b7k]
      unfold a5e
      refine Nat.le_trans (Nat.div_le_self _ _) ?_
      have:=(iE hb).2.1
      omega
    · simp
  unfold qB
  generalize iO c num=ll at hLi hll ⊢
  refine FnF.mk' Tryz.func48 rfl rfl Tryz.ntmps48 rfl ?_
  repeat first|refine go ?_|intro _|refine tT ?_|refine cM ?_|refine aD @hM ?_|refine aD @hQ ?_|refine aD @hLi ?_
  rename_i bc be bq bm b p cap
  apply bC (E0:=[(2,_),(10,_),(45,_),(46,_)]) (fun E0 (i:Nat)=>(47,.int .i64 i)::E0) (fun i=>Own 3 1 (.slice p ll.length cap) ll.length (aC ic ll)::Cells b 110 (e7q c num bm be bq 0)::MapAt bm e9u (c5b c (ll.take i))::All (b8g (c5b c (ll.take i)))::a3u bq c.buffer []::yP be c (List.replicate (c.words*c.lines).toNat 0)::Cells bc 24 c.cells::F) (fun i=>i≤ll.length) (fun i=>ll.length-i) 0
  · exact nB
  · exact Nat.zero_le _
  · simp only [List.take_zero,show c5b c []=[] from rfl]
    refine Ent.trans ?_ (Ent.cons (Ent.cons (Ent.cons fZ)))
    exact aB
  · intro i hi
    by_cases hlt:i<ll.length
    · have et:c5b c (ll.take (i+1))=kC (c5b c (ll.take i)) ll[i] (a6t c,none,0):=by
        rw [List.take_add_one,List.getElem?_eq_getElem hlt]
        show c5b c (_++[_])=_
        unfold c5b
        rw [List.foldl_append]
        rfl
      repeat first|refine go ?_|intro _|refine tT ?_|refine cM ?_|refine aD @hT ?_
      (apply p4;rfl;exact b6a;exact oD (xv:=(a6t c,none,0)) rfl rfl rfl inferInstance rfl;refine aN ?_)
      repeat first|refine go ?_|intro _|refine tT ?_|refine cM ?_
      refine aS (i+1) (om) (om) ?_ ?_
      · exact nB
      · rw [et];exact xW @d3s
    · have hil:i=ll.length:=by omega
      subst hil
      rw [List.take_length]
      repeat first|refine go ?_|intro _|refine tT ?_|refine cM ?_
      (apply aA rfl rfl bB)
      · exact ⟨_,rfl,rfl⟩
      · ((repeat (first|(with_reducible exact Ent.refl)|exact Ent.nil|(apply dQ;exact e6z)|(apply kR)|apply Ent.drop));all_goals (first|rfl|(with_reducible assumption)|(simp [b3q];done)|(simp [b3q];omega)|omega|(constructor<;>(simp [b3q])<;>omega)))
end
section
theorem c1n {e:TEnt} {m:Msg} (h:fF e m=0):(eF e m).s.cores=e.s.cores∧(eF e m).s.most=e.s.most:=by
  obtain ⟨hok,hk⟩:=l7 h
  obtain ⟨h1,h2,h3,h4,h5⟩:=m9 hok
  obtain ⟨a1,a2,a3⟩:=b7e h1 h4 h5
  unfold eF
  rw [if_pos h]
  rcases hk with ⟨k,ho⟩|k|k
  · rw [if_pos k]
    unfold mI
    rw [if_neg ho]
    split
    · exact ⟨a2,a3⟩
    · split
      · exact ⟨rfl,rfl⟩
      · exact ⟨a2,a3⟩
  · rw [if_neg (om),if_pos k]
    exact ⟨rfl,rfl⟩
  · rw [if_neg (om),if_neg (om)]
    unfold yY
    split<;>exact ⟨rfl,rfl⟩
theorem c1o {e:TEnt} {m:Msg} {w:Words} (h:fF e m=0):∀ y∈bR e m w,(4≤y.kind∧y.kind≤10)∧y.line=m.line∧y.src=m.dst:=by
  obtain ⟨hok,hk⟩:=l7 h
  intro y hy
  unfold bR at hy
  rw [if_pos h] at hy
  rcases hk with ⟨k,ho⟩|k|k
  · rw [if_pos k] at hy
    unfold kA at hy
    rw [if_neg ho] at hy
    split at hy
    · rw [List.mem_singleton] at hy;subst hy;exact ⟨⟨by simp [fR],by simp [fR]⟩,rfl,rfl⟩
    · split at hy<;>(rw [List.mem_singleton] at hy;subst hy;exact ⟨⟨by simp [fR],by simp [fR]⟩,rfl,rfl⟩)
  · rw [if_neg (om),if_pos k] at hy
    rcases List.mem_cons.1 hy with rfl|hy
    · unfold qJ
      split
      · exact ⟨⟨by simp [fR],by simp [fR]⟩,rfl,rfl⟩
      · split<;>exact ⟨⟨by simp [fR],by simp [fR]⟩,rfl,rfl⟩
    · obtain ⟨o,_,rfl⟩:=List.mem_map.1 hy
      exact ⟨⟨by simp [a3o,fR],by simp [a3o,fR]⟩,rfl,rfl⟩
  · rw [if_neg (om),if_neg (om)] at hy
    rw [List.mem_singleton] at hy;subst hy;exact ⟨⟨by simp [fR],by simp [fR]⟩,rfl,rfl⟩
theorem a1k {c:Cfg} {num:Int} (h:zY c num=true) (k:Int):k∈iO c num↔c0x c num k:=by
  simp only [zY,Bool.and_eq_true,decide_eq_true_eq] at h
  obtain ⟨hb,h0,h1⟩:=h
  have hB:=iE hb
  obtain ⟨H,eH⟩:∃ H:Nat,c.homes=H:=⟨c.homes.toNat,om⟩
  obtain ⟨n,en⟩:∃ n:Nat,c.lines=n:=⟨c.lines.toNat,om⟩
  obtain ⟨g,rfl⟩:∃ n:Nat,num=n:=⟨num.toNat,om⟩
  have r1:iO c g=b2s g H (a5e n g H):=by simp [iO,hb,eH,en];omega
  have hg:g<H:=by omega
  rw [r1]
  unfold c0x b2s
  rw [eH,en]
  simp only [List.mem_map,List.mem_range]
  constructor
  · rintro ⟨i,hi,rfl⟩
    have:=(c1z (n:=n) (k:=i) hg).1 hi
    refine ⟨om,om,?_⟩
    have h3:(g+i*H) % H=g:=by rw [Nat.add_mul_mod_self_right];exact Nat.mod_eq_of_lt hg
    exact_mod_cast h3
  · rintro ⟨k0,k1,k2⟩
    obtain ⟨k,rfl⟩:∃ n:Nat,k=n:=⟨k.toNat,om⟩
    have h3:k % H=g:=by exact_mod_cast k2
    have h4:=Nat.div_add_mod k H
    have h5:g+k / H*H=k:=by rw [Nat.mul_comm];omega
    refine ⟨k / H,(c1z (n:=n) (k:=k / H) hg).2 (om),by rw [h5]⟩
theorem e2b {c:Cfg} {num:Int} (h:zY c num=true):HmI c num (qB c num):=by
  have h0:=h
  simp only [zY,Bool.and_eq_true,decide_eq_true_eq] at h0
  refine ⟨h0.1,h0.2,fun k=>?_,fun k e he=>?_,fun x hx=>absurd hx (List.not_mem_nil),fun x hx=>absurd hx (List.not_mem_nil),?_⟩
  · show (fQ (d6f c (iO c num)) k).isSome=_
    rw [a7x]
    by_cases hk:c0x c num k
    · rw [if_pos ((a1k h k).2 hk),decide_eq_true hk];rfl
    · rw [if_neg (fun hh=>hk ((a1k h k).1 hh)),decide_eq_false hk];rfl
  · have he':fQ (d6f c (iO c num)) k=some e:=he
    rw [a7x] at he'
    split at he'
    · cases he'
      have hb:=iE h0.1
      exact ⟨tZ (d6g h0.1) (by simp [a6t]) (by simp only [a6t];omega),rfl,rfl⟩
    · cases he'
  · have:=b0u h0.1
    show ((0:Nat):Int)≤_
    omega
theorem d6o {c:Cfg} {num:Int} {s:HomS} (h:HmI c num s) {q:List QE} (hr:∀ x∈q,mB c num x.m 0=true) (hs:∀ x∈q,∀ y∈x.sends,(4≤y.kind∧y.kind≤10)∧y.line=x.m.line∧y.src=num) (hl:(q.length:Int)≤c.buffer) (o:Int):HmI c num ⟨s.es,s.ms,q,o⟩:=
  ⟨h.ok,h.nm,h.own,h.may,hr,hs,hl⟩
theorem e2c {c:Cfg} {num:Int} {s:HomS} (h:HmI c num s) (m:Msg):HmI c num (iP c num s m):=by
  unfold iP
  split
  · rename_i hm
    refine d6o h ?_ ?_ ?_ s.odd
    all_goals unfold qZ
    · intro x hx
      split at hx
      · rcases List.mem_append.1 hx with hx|hx
        · exact h.req x hx
        · rw [List.mem_singleton] at hx;subst hx;exact hm
      · exact h.req x hx
    · intro x hx
      split at hx
      · rcases List.mem_append.1 hx with hx|hx
        · exact h.snd x hx
        · rw [List.mem_singleton] at hx;subst hx;intro y hy;cases hy
      · exact h.snd x hx
    · have hl:=h.len
      split
      · rename_i he
        have:¬(s.q.length:Int)=c.buffer:=fun hh=>by
          unfold xZ at he
          split at he
          · cases he
          · simp [hh] at he
        rw [List.length_append,List.length_singleton]
        omega
      · exact hl
  · exact h
theorem a1l {c:Cfg} {num:Int} {s:HomS} (h:HmI c num s) (n:Nat) (o:Int):HmI c num ⟨s.es,s.ms,s.q.eraseIdx n,o⟩:=by
  refine d6o h (fun x hx=>h.req x (List.mem_of_mem_eraseIdx hx)) (fun x hx=>h.snd x (List.mem_of_mem_eraseIdx hx)) ?_ o
  have:=h.len
  have:=List.length_eraseIdx_le s.q n
  omega
theorem d3t {c:Cfg} {num:Int} {s:HomS} (h:HmI c num s) (m:Msg):HmI c num (gV c num s m):=by
  unfold gV sZ
  split
  · split
    · exact h
    · exact a1l h _ s.odd
  · exact h
theorem zZ {α:Type} {l:List α} {n:Nat} {a x:α} (h:x∈l.set n a):x∈l∨x=a:=List.mem_or_eq_of_mem_set h
theorem d3u {c:Cfg} {num:Int} {s:HomS} (h:HmI c num s) (n:Int):HmI c num { s with q:=cS s.q n}:=by
  unfold cS
  split
  · rename_i he
    split
    · exact a1l h _ s.odd
    · have hin:b2d s.q n=true:=by
        cases hc:b2d s.q n with
        |true=>rfl
        |false=>simp [lY,hc] at he
      have hm:=wQ hin
      refine d6o h ?_ ?_ (by rw [List.length_set];exact h.len) s.odd
      · intro x hx
        rcases zZ hx with hx|rfl
        · exact h.req x hx
        · exact h.req (a3t s.q n) hm
      · intro x hx
        rcases zZ hx with hx|rfl
        · exact h.snd x hx
        · intro y hy
          exact h.snd (a3t s.q n) hm y (List.mem_of_mem_drop hy)
  · exact h
theorem d3v {c:Cfg} {num:Int} {s:HomS} (h:HmI c num s) {n:Int} (hr:eJ s.q n=true) (h0:fF (aJ s (a1f s n).line) (a1f s n)=0):HmI c num (nX c s n):=by
  have hm:=wQ (b0c hr)
  have hmine:mB c num (a1f s n) 0=true:=h.req _ hm
  obtain ⟨f1,f2,f3,f4,f5⟩:=jI h.ok hmine
  obtain ⟨g1,g2,g3,g4⟩:=rN h f3
  have hz:=c1n h0
  refine ⟨h.ok,h.nm,fun k=>?_,fun k e he=>?_,?_,?_,?_⟩
  · show (fQ (kC s.es _ _) k).isSome=_
    rw [v6]
    split
    · rename_i hk;subst hk;rw [decide_eq_true f3];rfl
    · exact h.own k
  · have he':fQ (kC s.es (a1f s n).line (eF (aJ s (a1f s n).line) (a1f s n))) k=some e:=he
    rw [v6] at he'
    split at he'
    · cases he'
      exact ⟨d0j h0,by rw [hz.1,g3],by rw [hz.2,g4]⟩
    · exact h.may k e he'
  · intro x hx
    have hx':x∈bO s.q n (bR (aJ s (a1f s n).line) (a1f s n) (aI c s.ms (a1f s n).line)):=hx
    unfold bO at hx'
    split at hx'
    · rcases zZ hx' with hx|rfl
      · exact h.req x hx
      · exact hmine
    · exact h.req x hx'
  · intro x hx
    have hx':x∈bO s.q n (bR (aJ s (a1f s n).line) (a1f s n) (aI c s.ms (a1f s n).line)):=hx
    unfold bO at hx'
    split at hx'
    · rcases zZ hx' with hx|rfl
      · exact h.snd x hx
      · intro y hy
        have:=c1o h0 y hy
        rw [f5] at this
        exact this
    · exact h.snd x hx'
  · show ((bO s.q n _).length:Int)≤_
    unfold bO
    split
    · rw [List.length_set];exact h.len
    · exact h.len
theorem d3w {c:Cfg} {num:Int} {s:HomS} (h:HmI c num s) (n:Int) (l:L3):HmI c num (bY c s n l):=by
  unfold bY
  split
  · rename_i hr
    unfold kO
    split
    · rename_i h0;exact d3v h hr h0
    · exact a1l h _ _
  · split
    · exact d3u h n
    · exact h
theorem e6v {c:Cfg} {s:HomS} (n:Int) (l:L3):s.odd≤(bY c s n l).odd∧(bY c s n l).odd≤s.odd+1:=by
  unfold bY kO nX d5q
  split
  · split
    · exact ⟨Int.le_refl _,by show s.odd≤_;omega⟩
    · exact ⟨by show s.odd≤s.odd+1;omega,Int.le_refl _⟩
  · split
    · exact ⟨Int.le_refl _,by show s.odd≤_;omega⟩
    · exact ⟨Int.le_refl _,om⟩
end
section
structure Nets where
  l0:List Msg
  l1:List Msg
  l2:List Msg
abbrev Nets.no:Nets:=⟨[],[],[]⟩
def tU (k:Int):Bool:=decide (0≤k∧k<3)
def l4 (n:Nets) (k:Int):List Msg:=if k=0 then n.l0 else if k=1 then n.l1 else if k=2 then n.l2 else []
def a2t (n:Nets) (k:Int) (l:List Msg):Nets:=if k=0 then ⟨l,n.l1,n.l2⟩ else if k=1 then ⟨n.l0,l,n.l2⟩ else if k=2 then ⟨n.l0,n.l1,l⟩ else n
def wF (c:Cfg) (k:Int):Int:=if k=0 then c.r0 else if k=1 then c.r1 else if k=2 then c.r2 else 0
def cA (c:Cfg) (n:Nets) (k:Int):Int:=wF c k-(l4 n k).length
def bD (n:Nets) (k i:Int):Msg:=e4n .zero (l4 n k) i
def jN (n:Nets) (k i:Int):Bool:=e2f (l4 n k) i
def c2o (n:Nets) (k i:Int):Int:=c0h (l4 n k) i
def aL (n:Nets) (k i:Int):Nets:=a2t n k (pH (l4 n k) i)
def xU (c:Cfg) (n:Nets) (m:Msg):Int:=if d6 c m then d8o (wF c (dJ m.kind)) (l4 n (dJ m.kind)) else 1
def gH (c:Cfg) (n:Nets) (m:Msg):Nets:=if d6 c m then a2t n (dJ m.kind) (a3p (wF c (dJ m.kind)) (l4 n (dJ m.kind)) m) else n
def lV (n:Nets):List Msg:=n.l0++n.l1++n.l2
def vU (n:Nets) (line:Int):List Msg:=(lV n).filter fun m=>decide (m.line=line)
theorem nE {k:Int} (h:tU k=true):k=0∨k=1∨k=2:=by simp [tU] at h;omega
theorem a0s {n:Nets} {k:Int} (h:tU k=false):l4 n k=[]:=by
  simp only [tU,decide_eq_false_iff_not] at h
  unfold l4;rw [if_neg (om),if_neg (om),if_neg (om)]
theorem d3x {c:Cfg} {k:Int} (h:tU k=false):wF c k=0:=by
  simp only [tU,decide_eq_false_iff_not] at h
  unfold wF;rw [if_neg (om),if_neg (om),if_neg (om)]
theorem e2d {n:Nets} {k:Int} {l:List Msg} (h:tU k=false):a2t n k l=n:=by
  simp only [tU,decide_eq_false_iff_not] at h
  unfold a2t;rw [if_neg (om),if_neg (om),if_neg (om)]
theorem d3y {c:Cfg} {m:Msg} (h:d6 c m):dJ m.kind=0∨dJ m.kind=1∨dJ m.kind=2:=by
  have:=h.2.1
  unfold dJ;split<;>(try split)<;>(try split)<;>omega
abbrev mX (c:Cfg) (b0 b1 b2:Nat):List Value:=[.int .i64 c.cores,.int .i64 c.homes,.int .i64 c.sets,.int .i64 c.ways,.int .i64 c.words,.int .i64 c.lines,.int .i64 c.pointers,.int .i64 c.mshrs,.int .i64 c.buffer,.int .i64 c.writebacks,.int .i64 c.r0,.int .i64 c.r1,.int .i64 c.r2,.pointer (some ⟨b0,0,none⟩),.pointer (some ⟨b1,0,none⟩),.pointer (some ⟨b2,0,none⟩)]
theorem c2p {α:Type} {T e:TypeId} {sz:Nat} {enc:α→List Value} {b:Nat} {room:Int} {l:List α} {L:List HP} {w:World} (h:d3 (RL T e sz enc b room l::L) w):(l.length:Int)≤room∧room≤4096:=by
  obtain ⟨⟨p,c0⟩,hx⟩:=gW h
  simp only [oI] at hx
  exact iW (aR (aR hx))
def e3d (T TB TM:TypeId) (b:Nat) (c:Cfg) (n:Nets):HP:=
  Ex fun q:Nat×Nat×Nat=>[Cells b T (mX c q.1 q.2.1 q.2.2),RL TB TM 15 mc q.1 c.r0 n.l0,RL TB TM 15 mc q.2.1 c.r1 n.l1,RL TB TM 15 mc q.2.2 c.r2 n.l2,Fact (aF c=true)]
theorem jV {T TB TM:TypeId} {b:Nat} {c:Cfg} {n:Nets} {b0 b1 b2:Nat} {L M:List HP}
    (h:Ent L (Cells b T (mX c b0 b1 b2)::RL TB TM 15 mc b0 c.r0 n.l0::RL TB TM 15 mc b1 c.r1 n.l1::RL TB TM 15 mc b2 c.r2 n.l2::M)) (hc:aF c=true):Ent L (e3d T TB TM b c n::M):=by
  refine Ent.trans h (Ent.trans ?_ (i0 (p:=fun q:Nat×Nat×Nat=>[Cells b T (mX c q.1 q.2.1 q.2.2),RL TB TM 15 mc q.1 c.r0 n.l0,RL TB TM 15 mc q.2.1 c.r1 n.l1,RL TB TM 15 mc q.2.2 c.r2 n.l2,Fact (aF c=true)]) (b0,b1,b2)))
  exact Ent.cons (Ent.cons (Ent.cons (Ent.cons (cY hc))))
theorem e2e {T TB TM:TypeId} {b:Nat} {c:Cfg} {n:Nets} {L:List HP} {w:World} (h:d3 (e3d T TB TM b c n::L) w):∃ b0 b1 b2,(aF c=true∧(n.l0.length:Int)≤c.r0∧(n.l1.length:Int)≤c.r1∧(n.l2.length:Int)≤c.r2)∧
    d3 (Cells b T (mX c b0 b1 b2)::RL TB TM 15 mc b0 c.r0 n.l0::RL TB TM 15 mc b1 c.r1 n.l1::RL TB TM 15 mc b2 c.r2 n.l2::L) w:=by
  obtain ⟨⟨b0,b1,b2⟩,hx⟩:=gW h
  simp only [oI] at hx
  have hf:=iW (aR (aR (aR (aR hx))))
  have h2:d3 (Cells b T (mX c b0 b1 b2)::RL TB TM 15 mc b0 c.r0 n.l0::RL TB TM 15 mc b1 c.r1 n.l1::RL TB TM 15 mc b2 c.r2 n.l2::L) w:=(Ent.cons (Ent.cons (Ent.cons (Ent.cons (Ent.drop Ent.refl))))) _ hx
  exact ⟨b0,b1,b2,⟨hf,(c2p ((Ent.drop Ent.refl).sat h2)).1,(c2p ((Ent.drop (Ent.drop Ent.refl)).sat h2)).1,(c2p ((Ent.drop (Ent.drop (Ent.drop Ent.refl))).sat h2)).1⟩,h2⟩
section
variable {T TB TM:TypeId} {b:Nat} {c:Cfg} {n:Nets} {P:Program} {N:Nat} {env:Env} {L:List HP} {Q:Exit→Act→World→Prop}
theorem vV {co:Code} (h:∀ b0 b1 b2,(aF c=true∧(n.l0.length:Int)≤c.r0∧(n.l1.length:Int)≤c.r1∧(n.l2.length:Int)≤c.r2)→WC P N co env (Cells b T (mX c b0 b1 b2)::RL TB TM 15 mc b0 c.r0 n.l0::RL TB TM 15 mc b1 c.r1 n.l1::RL TB TM 15 mc b2 c.r2 n.l2::L) Q):WC P N co env (e3d T TB TM b c n::L) Q:=by
  intro a w ha hw
  obtain ⟨b0,b1,b2,hf,hx⟩:=e2e hw
  exact h b0 b1 b2 hf a w ha hx
end
attribute [local irreducible] Exit.then Exit.inBlock Code.wp WC WO WE WQ V bF tV d3 bW dF uH IntKind.wrap WR Code.rounds WT KO
abbrev oB:=e3d 94 179 99
theorem a1m {Q P:Prop} (k:Q) (h:Hid Q→P:=by
  intro k
  first
  |(refine aG ?_;apply mT (id:=8) .true [] (pl:= .p 0 <| .p 1 <| .p 2 <| .p 7 <| .p 8 <| .e true [(3,.p 4 <| .p 5 <| .p 6 <| .p 9 <| .e false [(10,.done)])]);exact pN;kernel_rfl;kernel_rfl;exact Ent.nil;exact k.out)):P:=h ⟨k⟩
theorem c5c {F:List HP} {c:Cfg} (hw:c.wf) (hc:aF c=true):FnF Tryz.prog 45 [c.val] [] F (fun r L'=>∃ b,r= .tuple [.pointer (some ⟨b,0,none⟩),.int .i64 0].toArray∧L'=[oB b c .no]):=by
  have hC:=fun F=>dC (F:=F) hw
  simp only [d4,hc,if_true] at hC
  have hr:(1≤c.r0∧c.r0≤4096)∧(1≤c.r1∧c.r1≤4096)∧(1≤c.r2∧c.r2≤4096):=by
    simp only [aF,fI,Bool.and_eq_true,decide_eq_true_eq] at hc
    omega
  obtain ⟨h0,h1,h2⟩:=hr
  have hB0:=fun F=>u8 (F:=F) h0
  have hB1:=fun F=>u8 (F:=F) h1
  have hB2:=fun F=>u8 (F:=F) h2
  refine FnF.mk' Tryz.func45 rfl rfl Tryz.ntmps45 rfl ?_
  repeat first|refine go ?_|intro _|refine a1m ?_|refine cM ?_|refine aD @hC ?_
  refine b0x 4 ?_
  repeat first|refine go ?_|intro _|refine a1m ?_|refine cM ?_|refine aD @hB0 ?_|refine aD @hB1 ?_|refine aD @hB2 ?_
  (apply aA rfl rfl bB)
  · exact ⟨_,rfl,rfl⟩
  · rename_i bc b w2 w1 w0
    change Ent (bG w0 c.r2 []::bG w1 c.r1 []::bG w2 c.r0 []::Cells b 94 (mX c w2 w1 w0)::_) _
    (apply jV;(focus (exact aB));all_goals exact mG)
theorem c1p {F:List HP} {c:Cfg} (hw:c.wf) (hc:aF c=false):FnF Tryz.prog 45 [c.val] [] F (fun r L'=>r= .tuple [.pointer none,.int .i64 1].toArray∧L'=[]):=by
  have hC:=fun F=>dC (F:=F) hw
  simp only [d4,hc,Bool.false_eq_true,if_false] at hC
  refine FnF.mk' Tryz.func45 rfl rfl Tryz.ntmps45 rfl ?_
  repeat first|refine go ?_|intro _|refine a1m ?_|refine cM ?_|refine aD @hC ?_
  exact aU
theorem b3r {F:List HP} {k:Int}:FnF Tryz.prog 55 [.int .i64 k] [] F (fun r L'=>r= .bool (tU k)∧L'=[]):=by
  refine FnF.mk' Tryz.func55 rfl rfl Tryz.ntmps55 rfl ?_
  repeat' (first|refine gd ?_|intro _|refine mH ?_ ?_|fail)
  all_goals (apply aA rfl rfl bB;(refine ⟨congrArg Value.bool ?_,rfl⟩;(first|(refine decide_eq_decide.2 ?_)|(refine (decide_eq_true ?_).symm)|(refine (decide_eq_false ?_).symm));(first|omega|(simp only [tU];omega)));exact iC)
theorem vW {F:List HP} {b:Nat} {c:Cfg} {n:Nets} {k:Int}:FnF Tryz.prog 99 [.pointer (some ⟨b,0,none⟩),.int .i64 k] [oB b c n] F (fun r L'=>r= .int .i64 (cA c n k)∧L'=[oB b c n]):=by
  have hH:=fun F=>b3r (F:=F) (k:=k)
  refine FnF.mk' Tryz.func99 rfl rfl Tryz.ntmps99 rfl ?_
  refine vV fun b0 b1 b2 ⟨hc,hn0,hn1,hn2⟩=>?_
  cases h:tU k with
  |true=>
   rw [h] at hH
   rcases nE h with rfl|rfl|rfl
   · repeat first|refine gd ?_|intro _|refine aD @hH ?_|refine aD @lU ?_
     (apply aA rfl rfl bB)
     · exact ⟨rfl,rfl⟩
     · (apply jV;(focus (exact aB));all_goals exact mG)
   · repeat first|refine gd ?_|intro _|refine aD @hH ?_|refine aD @lU ?_
     (apply aA rfl rfl bB)
     · exact ⟨rfl,rfl⟩
     · (apply jV;(focus (exact aB));all_goals exact mG)
   · repeat first|refine gd ?_|intro _|refine aD @hH ?_|refine aD @lU ?_
     (apply aA rfl rfl bB)
     · exact ⟨rfl,rfl⟩
     · (apply jV;(focus (exact aB));all_goals exact mG)
  |false=>
   rw [h] at hH
   repeat first|refine gd ?_|intro _|refine aD @hH ?_
   (apply aA rfl rfl bB)
   · exact ⟨by simp [cA,d3x h,a0s h],rfl⟩
   · (apply jV;(focus (exact aB));all_goals exact mG)
theorem a8w {F:List HP} {b:Nat} {c:Cfg} {n:Nets} {k i:Int}:FnF Tryz.prog 98 [.pointer (some ⟨b,0,none⟩),.int .i64 k,.int .i64 i] [oB b c n] F (fun r L'=>r= .tuple [mv (bD n k i),.bool (jN n k i)].toArray∧L'=[oB b c n]):=by
  have hH:=fun F=>b3r (F:=F) (k:=k)
  refine FnF.mk' Tryz.func98 rfl rfl Tryz.ntmps98 rfl ?_
  refine vV fun b0 b1 b2 ⟨hc,hn0,hn1,hn2⟩=>?_
  cases h:tU k with
  |true=>
   rw [h] at hH
   rcases nE h with rfl|rfl|rfl
   · repeat first|refine gd ?_|intro _|refine aD @hH ?_|refine aD @pI ?_
     (apply aA rfl rfl bB)
     · exact ⟨rfl,rfl⟩
     · (apply jV;(focus (exact aB));all_goals exact mG)
   · repeat first|refine gd ?_|intro _|refine aD @hH ?_|refine aD @pI ?_
     (apply aA rfl rfl bB)
     · exact ⟨rfl,rfl⟩
     · (apply jV;(focus (exact aB));all_goals exact mG)
   · repeat first|refine gd ?_|intro _|refine aD @hH ?_|refine aD @pI ?_
     (apply aA rfl rfl bB)
     · exact ⟨rfl,rfl⟩
     · (apply jV;(focus (exact aB));all_goals exact mG)
  |false=>
   rw [h] at hH
   have e1:bD n k i= .zero:=by simp [bD,a0s h,e4n,e2f]
   have e2:jN n k i=false:=by simp [jN,a0s h,e2f]
   repeat first|refine gd ?_|intro _|refine aD @hH ?_
   (apply aA rfl rfl bB)
   · rw [e1,e2];exact ⟨rfl,rfl⟩
   · (apply jV;(focus (exact aB));all_goals exact mG)
theorem z6 {F:List HP} {b:Nat} {c:Cfg} {n:Nets} {k i:Int}:FnF Tryz.prog 101 [.pointer (some ⟨b,0,none⟩),.int .i64 k,.int .i64 i] [oB b c n] F (fun r L'=>r= .tuple [mv (bD n k i),.int .i64 (c2o n k i)].toArray∧L'=[oB b c (aL n k i)]):=by
  have hH:=fun F=>b3r (F:=F) (k:=k)
  refine FnF.mk' Tryz.func101 rfl rfl Tryz.ntmps101 rfl ?_
  refine vV fun b0 b1 b2 ⟨hc,hn0,hn1,hn2⟩=>?_
  cases h:tU k with
  |true=>
   rw [h] at hH
   rcases nE h with rfl|rfl|rfl
   · have e3:aL n 0 i=⟨pH n.l0 i,n.l1,n.l2⟩:=rfl
     rw [e3]
     repeat first|refine gd ?_|intro _|refine aD @hH ?_|refine aD @sS ?_
     (apply aA rfl rfl bB)
     · exact ⟨rfl,rfl⟩
     · (apply jV;(focus (exact aB));all_goals exact mG)
   · have e3:aL n 1 i=⟨n.l0,pH n.l1 i,n.l2⟩:=rfl
     rw [e3]
     repeat first|refine gd ?_|intro _|refine aD @hH ?_|refine aD @sS ?_
     (apply aA rfl rfl bB)
     · exact ⟨rfl,rfl⟩
     · (apply jV;(focus (exact aB));all_goals exact mG)
   · have e3:aL n 2 i=⟨n.l0,n.l1,pH n.l2 i⟩:=rfl
     rw [e3]
     repeat first|refine gd ?_|intro _|refine aD @hH ?_|refine aD @sS ?_
     (apply aA rfl rfl bB)
     · exact ⟨rfl,rfl⟩
     · (apply jV;(focus (exact aB));all_goals exact mG)
  |false=>
   rw [h] at hH
   have e1:bD n k i= .zero:=by simp [bD,a0s h,e4n,e2f]
   have e2:c2o n k i=5:=by simp [c2o,a0s h,c0h,e2f]
   have e3:aL n k i=n:=e2d h
   repeat first|refine gd ?_|intro _|refine aD @hH ?_
   (apply aA rfl rfl bB)
   · rw [e1,e2];exact ⟨rfl,rfl⟩
   · rw [e3];(apply jV;(focus (exact aB));all_goals exact mG)
theorem qC {Q P:Prop} (k:Q) (h:Hid Q→P:=by
  intro k
  first
  |(refine aG ?_;refine q9 (id:=1) .true (pl:= .p 0 <| .p 1 <| .p 2 <| .r 3 <| .r 4 <| .e true [(5,.p 6 <| .done)]) k.out)
  |(refine aG ?_;refine q9 (id:=3) .true (pl:= .p 0 <| .p 1 <| .p 4 <| .p 5 <| .r 2 <| .e true [(3,.p 6 <| .e false [(7,.e false [(8,.e false [(9,.p 10 <| .done)])]),(8,.e false [(7,.e false [(9,.p 10 <| .done)])])]),(8,.e true [(3,.p 6 <| .e false [(7,.e false [(9,.p 10 <| .done)])])])]) k.out)):P:=h ⟨k⟩
theorem d3z {F:List HP} {b:Nat} {c:Cfg} {n:Nets} {m:Msg} (hw:c.wf):FnF Tryz.prog 152 [.pointer (some ⟨b,0,none⟩),mv m] [oB b c n] F (fun r L'=>r= .int .i64 (xU c n m)∧L'=[oB b c (gH c n m)]):=by
  have hM:=fun F=>b2y (F:=F) (c:=c) (m:=m) hw
  have hN:=fun F=>qP (F:=F) (k:=m.kind)
  refine FnF.mk' Tryz.func152 rfl rfl Tryz.ntmps152 rfl ?_
  refine vV fun b0 b1 b2 ⟨hc,hn0,hn1,hn2⟩=>?_
  by_cases h:d6 c m
  · simp only [decide_eq_true h] at hM
    have e1:xU c n m=d8o (wF c (dJ m.kind)) (l4 n (dJ m.kind)):=if_pos h
    have e2:gH c n m=a2t n (dJ m.kind) (a3p (wF c (dJ m.kind)) (l4 n (dJ m.kind)) m):=if_pos h
    rw [e1,e2]
    rcases d3y h with e|e|e
    · rw [e] at hN ⊢
      have e3:a2t n 0 (a3p (wF c 0) (l4 n 0) m)=⟨a3p c.r0 n.l0 m,n.l1,n.l2⟩:=rfl
      rw [e3]
      repeat' (first|refine go ?_|intro _|refine qC ?_|refine cM ?_|refine aD @hM ?_|refine aD @hN ?_|refine aD @u9 ?_|refine mH ?_ ?_|fail)
      all_goals (apply aA rfl rfl bB)
      all_goals first|exact ⟨rfl,rfl⟩|(apply jV;(focus (exact aB));all_goals exact mG)
    · rw [e] at hN ⊢
      have e3:a2t n 1 (a3p (wF c 1) (l4 n 1) m)=⟨n.l0,a3p c.r1 n.l1 m,n.l2⟩:=rfl
      rw [e3]
      repeat' (first|refine go ?_|intro _|refine qC ?_|refine cM ?_|refine aD @hM ?_|refine aD @hN ?_|refine aD @u9 ?_|refine mH ?_ ?_|fail)
      all_goals (apply aA rfl rfl bB)
      all_goals first|exact ⟨rfl,rfl⟩|(apply jV;(focus (exact aB));all_goals exact mG)
    · rw [e] at hN ⊢
      have e3:a2t n 2 (a3p (wF c 2) (l4 n 2) m)=⟨n.l0,n.l1,a3p c.r2 n.l2 m⟩:=rfl
      rw [e3]
      repeat' (first|refine go ?_|intro _|refine qC ?_|refine cM ?_|refine aD @hM ?_|refine aD @hN ?_|refine aD @u9 ?_|refine mH ?_ ?_|fail)
      all_goals (apply aA rfl rfl bB)
      all_goals first|exact ⟨rfl,rfl⟩|(apply jV;(focus (exact aB));all_goals exact mG)
  · simp only [decide_eq_false h] at hM
    have e1:xU c n m=1:=if_neg h
    have e2:gH c n m=n:=if_neg h
    rw [e1,e2]
    repeat first|refine go ?_|intro _|refine qC ?_|refine cM ?_|refine aD @hM ?_
    (apply aA rfl rfl bB)
    · exact ⟨rfl,rfl⟩
    · (apply jV;(focus (exact aB));all_goals exact mG)
end
section
structure CoS where
  l:List Op3
  rs:List Int
  tr:List (Int×Bool)
structure Com where
  core:Int
  pos:Int
  op:Op3
  res:Int
structure MaS where
  ks:List CoS
  cs:List CaS
  hs:List HomS
  n:Nets
  tr:List Com
  odd:Int
abbrev coZ:CoS:=⟨[],[],[]⟩
abbrev caZ:CaS:=⟨[],[],[]⟩
abbrev zA:HomS:=⟨[],[],[],0⟩
def iK (s:MaS) (i:Int):CoS:=s.ks.getD i.toNat coZ
def cI (s:MaS) (i:Int):CaS:=s.cs.getD i.toNat caZ
def dH (s:MaS) (i:Int):HomS:=s.hs.getD i.toNat zA
def b3s (s:MaS) (i:Int) (k:CoS):MaS:=⟨s.ks.set i.toNat k,s.cs,s.hs,s.n,s.tr,s.odd⟩
def dW (s:MaS) (i:Int) (k:CaS):MaS:=⟨s.ks,s.cs.set i.toNat k,s.hs,s.n,s.tr,s.odd⟩
def dI (s:MaS) (i:Int) (k:HomS):MaS:=⟨s.ks,s.cs,s.hs.set i.toNat k,s.n,s.tr,s.odd⟩
def gI (s:MaS) (n:Nets):MaS:=⟨s.ks,s.cs,s.hs,n,s.tr,s.odd⟩
def qD (s:MaS) (b:Bool):MaS:=⟨s.ks,s.cs,s.hs,s.n,s.tr,if b then s.odd+1 else s.odd⟩
def nO (k:CoS):Bool:=uJ k.l k.rs
def j9 (k:CoS):Op3:=x6 k.l k.rs
def b4y (k:CoS) (n:Int):CoS:=⟨k.l,k.rs++[n],b2o k.tr k.rs.length⟩
def qE (k:CoS) (d:Int):CoS:=⟨k.l,k.rs,kC k.tr ((k.rs.length:Int)+d) true⟩
def q8 (s:MaS) (i:Int) (x:Op3) (n:Int):MaS:=⟨s.ks.set i.toNat (b4y (iK s i) n),s.cs,s.hs,s.n,s.tr++[⟨i,(iK s i).rs.length,x,n⟩],s.odd⟩
def d9 (c:Cfg) (s:MaS) (m:Msg):MaS:=gI s (gH c s.n m)
def a8x (c:Cfg) (s:MaS) (m:Msg):Bool:=decide (xU c s.n m=0)
def c8 (c:Cfg) (x:Op3):Int:=cQ c x.addr
def uG (c:Cfg) (s:MaS) (i:Int) (x:Op3):Bool:=decide (mM c (cI s i) x=0)
def mY (c:Cfg) (s:MaS) (i:Int) (x:Op3):MaS:=if uG c s i x then q8 (dW s i (fG c (cI s i) x)) i x (pJ c (cI s i) x) else s
def e9l (c:Cfg) (s:MaS) (i:Int):MaS:=d9 c (dW s i (gG c (cI s i))) (n8 c i (cI s i))
def e3e (c:Cfg) (s:MaS) (i:Int) (x:Op3):MaS:=d9 c (dW s i (cO c (cI s i) (c8 c x) (cP x))) (fO c i (cI s i) (c8 c x) (cP x))
def uN (c:Cfg) (s:MaS) (i:Int) (x:Op3):Int:=dT c (cI s i) (c8 c x) (cP x)
def lS (c:Cfg) (x:Op3):Int:=s9 c (c8 c x)
def b8v (c:Cfg) (s:MaS) (i:Int) (x:Op3) (w:Int):MaS:=
  if mL c (cI s i) (lS c x) w then d9 c (dW s i (gQ c (cI s i) (lS c x) w)) (tH c i (cI s i) (lS c x) w) else dW s i (gQ c (cI s i) (lS c x) w)
def fC (c:Cfg) (s:MaS) (i w:Int):Bool:=
  if 0<cA c s.n 2∧kH (cI s i)=true then a8x c s (n8 c i (cI s i))
  else if nO (iK s i)=false then false
  else if (j9 (iK s i)).kind=4 then decide ((cI s i).mis.length=0)
  else if uG c s i (j9 (iK s i)) then true
  else if cA c s.n 0=0 then false
  else if uN c s i (j9 (iK s i))=0 then a8x c s (fO c i (cI s i) (c8 c (j9 (iK s i))) (cP (j9 (iK s i))))
  else if uN c s i (j9 (iK s i))=5 then decide (oG c (cI s i) (lS c (j9 (iK s i))) (w.tmod c.ways)=0)&& (!mL c (cI s i) (lS c (j9 (iK s i))) (w.tmod c.ways)|| a8x c s (tH c i (cI s i) (lS c (j9 (iK s i))) (w.tmod c.ways)))
  else false
def c9 (c:Cfg) (s:MaS) (i w:Int):MaS:=
  if 0<cA c s.n 2∧kH (cI s i)=true then e9l c s i
  else if nO (iK s i)=false then s
  else if (j9 (iK s i)).kind=4 then (if (cI s i).mis.length=0 then q8 s i (j9 (iK s i)) 0 else s)
  else if uG c s i (j9 (iK s i)) then mY c s i (j9 (iK s i))
  else if cA c s.n 0=0 then s
  else if uN c s i (j9 (iK s i))=0 then e3e c s i (j9 (iK s i))
  else if uN c s i (j9 (iK s i))=5 then b8v c s i (j9 (iK s i)) (w.tmod c.ways)
  else s
def dN (c:Cfg) (s:MaS) (m:Msg):MaS:=
  if dK c m.dst (cI s m.dst) m then d9 c (qD (dW s m.dst (bH c m.dst (cI s m.dst) m)) (decide (bI c m.dst (cI s m.dst) m≠0))) (gT c m.dst (cI s m.dst) m)
  else qD (dW s m.dst (bH c m.dst (cI s m.dst) m)) (decide (bI c m.dst (cI s m.dst) m≠0))
def kK (c:Cfg) (s:MaS) (m:Msg):MaS:=
  if nO (iK s m.dst)=true∧(j9 (iK s m.dst)).kind≠4∧c8 c (j9 (iK s m.dst))=m.line then mY c s m.dst (j9 (iK s m.dst)) else s
def a3k (c:Cfg) (s:MaS) (m:Msg):MaS:=qD (dI s m.dst (gV c m.dst (dH s m.dst) m)) (decide (gU c m.dst (dH s m.dst) m≠0))
def jW (c:Cfg) (s:MaS) (k i:Int):Bool:=
  if jN s.n k i=false∨(k=1∧cA c s.n 2=0) then false
  else if k=0 then decide (l3 c (bD s.n 0 i).dst (dH s (bD s.n 0 i).dst) (bD s.n 0 i)=0)
  else true
def eX (c:Cfg) (s:MaS) (k i:Int):MaS:=
  if jN s.n k i=false∨(k=1∧cA c s.n 2=0) then s
  else if k=0 then (if l3 c (bD s.n 0 i).dst (dH s (bD s.n 0 i).dst) (bD s.n 0 i)=0 then gI (dI s (bD s.n 0 i).dst (iP c (bD s.n 0 i).dst (dH s (bD s.n 0 i).dst) (bD s.n 0 i))) (aL s.n 0 i) else s)
  else if k=1 then dN c (gI s (aL s.n 1 i)) (bD s.n 1 i)
  else if (bD s.n k i).kind=11 then a3k c (gI s (aL s.n k i)) (bD s.n k i)
  else kK c (dN c (gI s (aL s.n k i)) (bD s.n k i)) (bD s.n k i)
def d6p (c:Cfg) (s:MaS):L3:=(cA c s.n 0,cA c s.n 1,cA c s.n 2)
def xV (c:Cfg) (s:MaS) (i j:Int):Bool:=oH (dH s i) j (d6p c s)
def dG (c:Cfg) (s:MaS) (i j:Int):MaS:=
  if d7 (dH s i) j (d6p c s) then d9 c (dI s i (bY c (dH s i) j (d6p c s))) (fU (dH s i) j (d6p c s)) else dI s i (bY c (dH s i) j (d6p c s))
def a6u (k:CoS) (d:Int):Bool:=iM k.l k.rs k.tr d
def a2y (k:CoS) (d:Int):Op3:=qH k.l k.rs k.tr d
def mF (c:Cfg) (s:MaS) (i d:Int):Bool:=
  if a6u (iK s i) d=false∨cA c s.n 0=0 then false
  else if uN c s i (a2y (iK s i) d)=0 then a8x c s (fO c i (cI s i) (c8 c (a2y (iK s i) d)) (cP (a2y (iK s i) d)))
  else false
def fM (c:Cfg) (s:MaS) (i d:Int):MaS:=
  if a6u (iK s i) d=false∨cA c s.n 0=0 then s
  else if uN c s i (a2y (iK s i) d)=0 then e3e c (b3s s i (qE (iK s i) d)) i (a2y (iK s i) d)
  else s
structure Pk where
  kind:Int
  a:Int
  b:Int
def c8z (n:Int) (k:Nat):Bool:=decide (0≤n∧n<k)
def iX (c:Cfg) (s:MaS) (p:Pk):Bool:=
  if p.a<0∨p.b<0 then false
  else if p.kind=1 then jW c s p.a p.b
  else if p.kind=2∧c8z p.a s.hs.length=true then xV c s p.a p.b
  else if p.kind=0∧c8z p.a s.ks.length=true then fC c s p.a p.b
  else if p.kind=3∧c8z p.a s.ks.length=true then mF c s p.a (1+p.b.tmod 4)
  else false
def d5 (c:Cfg) (s:MaS) (p:Pk):MaS:=
  if p.a<0∨p.b<0 then s
  else if p.kind=1 then eX c s p.a p.b
  else if p.kind=2∧c8z p.a s.hs.length=true then dG c s p.a p.b
  else if p.kind=0∧c8z p.a s.ks.length=true then c9 c s p.a p.b
  else if p.kind=3∧c8z p.a s.ks.length=true then fM c s p.a (1+p.b.tmod 4)
  else s
abbrev uO (c:Cfg):CaS:=⟨List.replicate (c.sets*c.ways).toNat .zero,[],[]⟩
def cW (c:Cfg) (ps:List (List Op3)):MaS:=⟨ps.map fun l=>⟨l,[],[]⟩,ps.map fun _=>uO c,(List.range c.homes.toNat).map fun (i:Nat)=>qB c (i:Int),.no,[],0⟩
def a6v (c:Cfg) (ps:List (List Op3)):Bool:=aF c&& decide ((ps.length:Int)=c.cores)&& ps.all (kS c)
end
section
def jC (c:Cfg) (l:List Com):List Int:=l.foldl (fun ms x=>jU ms x.op) (List.replicate (c.words*c.lines).toNat 0)
def c1q (c:Cfg) (l:List Com) (addr:Int):Int:=if aF c then xT (jC c l) addr else 0
theorem c8i {c:Cfg} {l:List Com} {i:Nat} (hi:i<l.length):jC c (l.take (i+1))=jU (jC c (l.take i)) l[i].op:=by
  unfold jC
  rw [List.take_add_one,List.getElem?_eq_getElem hi,Option.toList_some,List.foldl_append]
  rfl
theorem d4a (c:Cfg) (l:List Com):(jC c l).length=(c.words*c.lines).toNat:=by
  have:∀ (l:List Com) (ms:List Int),(l.foldl (fun ms x=>jU ms x.op) ms).length=ms.length:=by
    intro l
    induction l with
    |nil=>intro ms;rfl
    |cons a r ih=>intro ms;rw [List.foldl_cons,ih,c1k]
  unfold jC;rw [this,List.length_replicate]
def b8w (l:List Com) (i:Nat) (k:Int):Nat:=(l.take i).countP fun y=>decide (y.core=k)
theorem c8j {l:List Com} {i:Nat} (hi:i<l.length) (k:Int):b8w l (i+1) k=b8w l i k+if l[i].core=k then 1 else 0:=by
  unfold b8w
  rw [List.take_add_one,List.getElem?_eq_getElem hi,Option.toList_some,List.countP_append]
  simp [List.countP_cons]
end
section
structure MaL (c:Cfg) (n:Nat) (s:MaS):Prop where
  ok:aF c=true
  lk:(s.ks.length:Int)=c.cores
  la:(s.cs.length:Int)=c.cores
  lh:(s.hs.length:Int)=c.homes
  kp:∀ k∈s.ks,kS c k.l=true∧k.rs.length≤k.l.length
  ca:∀ k∈s.cs,mO c n k
  hm:∀ (i:Nat) x,s.hs[i]? =some x→HmI c (i:Int) x∧0≤x.odd∧x.odd≤n
  nt:∀ k,∀ m∈l4 s.n k,d6 c m∧dJ m.kind=k
  rm:∀ k,tU k=true→((l4 s.n k).length:Int)≤wF c k
  od:0≤s.odd∧s.odd≤n
theorem d4b {α:Type} {P:α→Prop} {l:List α} {i:Nat} {z:α} (h:∀ x∈l,P x) (hz:P z):P (l.getD i z):=by
  rw [List.getD_eq_getElem?_getD]
  cases e:l[i]? with
  |none=>exact hz
  |some x=>exact h x (List.mem_of_getElem? e)
theorem f0q {c:Cfg} {n:Nat}:mO c n caZ:=d5h c n 0
section
variable {c:Cfg} {n:Nat} {s:MaS}
theorem MaL.mono (h:MaL c n s) {n':Nat} (hn:n≤n'):MaL c n' s:=
  ⟨h.ok,h.lk,h.la,h.lh,h.kp,fun k hk=>d9b hn (h.ca k hk),fun i x hx=>by obtain ⟨a,b,d⟩:=h.hm i x hx;exact ⟨a,b,om⟩,h.nt,h.rm,by have:=h.od;omega⟩
theorem MaL.cai (h:MaL c n s) (i:Int):mO c n (cI s i):=d4b (P:=mO c n) h.ca f0q
theorem MaL.hmi (h:MaL c n s) {i:Int} (h0:0≤i) (h1:i<c.homes):HmI c i (dH s i)∧0≤(dH s i).odd∧(dH s i).odd≤n:=by
  have hl:i.toNat<s.hs.length:=by have:=h.lh;omega
  have:=h.hm i.toNat _ (List.getElem?_eq_getElem hl)
  have e:((i.toNat:Nat):Int)=i:=by omega
  rw [e] at this
  unfold dH
  rw [List.getD_eq_getElem?_getD,List.getElem?_eq_getElem hl]
  exact this
theorem MaL.setA (h:MaL c n s) {i:Int} {k:CaS} (hk:mO c n k):MaL c n (dW s i k):=
  ⟨h.ok,h.lk,by show ((s.cs.set _ _).length:Int)=_;rw [List.length_set];exact h.la,h.lh,h.kp,fT h.ca hk,h.hm,h.nt,h.rm,h.od⟩
theorem MaL.setH (h:MaL c n s) {i:Int} {k:HomS} (h0:0≤i) (hk:HmI c i k∧0≤k.odd∧k.odd≤n):MaL c n (dI s i k):=
  ⟨h.ok,h.lk,h.la,by show ((s.hs.set _ _).length:Int)=_;rw [List.length_set];exact h.lh,h.kp,h.ca,fun j x hx=>by
    change (s.hs.set i.toNat k)[j]? =some x at hx
    rw [List.getElem?_set] at hx
    split at hx
    · rename_i e
      split at hx
      · cases hx
        have:(j:Int)=i:=by omega
        rw [this];exact hk
      · cases hx
    · exact h.hm j x hx,h.nt,h.rm,h.od⟩
theorem MaL.setK (h:MaL c n s) {i:Int} {k:CoS} (hk:kS c k.l=true∧k.rs.length≤k.l.length):MaL c n (b3s s i k):=
  ⟨h.ok,by show ((s.ks.set _ _).length:Int)=_;rw [List.length_set];exact h.lk,h.la,h.lh,fT h.kp hk,h.ca,h.hm,h.nt,h.rm,h.od⟩
theorem wG {x:Nets} {k j:Int} {l:List Msg} (hk:tU k=true):l4 (a2t x k l) j=if j=k then l else l4 x j:=by
  rcases nE hk with rfl|rfl|rfl<;>simp only [a2t,l4]<;>grind
theorem MaL.send (h:MaL c n s) (m:Msg):MaL c n (d9 c s m):=by
  unfold d9 gH
  by_cases hm:d6 c m
  · rw [if_pos hm]
    have hk:tU (dJ m.kind)=true:=by
      obtain ⟨_,h2,_⟩:=hm
      unfold dJ tU
      split<;>(try split)<;>(try split)<;>first|(simp;done)|omega
    refine ⟨h.ok,h.lk,h.la,h.lh,h.kp,h.ca,h.hm,fun k x hx=>?_,fun k hk'=>?_,h.od⟩
    · change x∈l4 (a2t s.n _ _) k at hx
      rw [wG hk] at hx
      split at hx
      · rename_i e
        subst e
        unfold a3p at hx
        split at hx
        · exact h.nt _ x hx
        · rcases List.mem_append.1 hx with g|g
          · exact h.nt _ x g
          · obtain rfl:=List.mem_singleton.1 g
            exact ⟨hm,rfl⟩
      · exact h.nt k x hx
    · show ((l4 (a2t s.n _ _) k).length:Int)≤_
      rw [wG hk]
      split
      · rename_i e
        subst e
        exact d8p (h.rm _ hk)
      · exact h.rm k hk'
  · rw [if_neg hm];exact h
theorem MaL.take (h:MaL c n s) (k i:Int):MaL c n (gI s (aL s.n k i)):=by
  have hsub:∀ {l:List Msg} {x:Msg},x∈pH l i→x∈l:=fun {l x} hx=>by
    unfold pH at hx
    split at hx
    · exact List.mem_of_mem_eraseIdx hx
    · exact hx
  have hlen:∀ {l:List Msg},(pH l i).length≤l.length:=fun {l}=>by
    unfold pH
    split
    · exact List.length_eraseIdx_le _ _
    · exact Nat.le_refl _
  by_cases hk:tU k=true
  · refine ⟨h.ok,h.lk,h.la,h.lh,h.kp,h.ca,h.hm,fun j x hx=>?_,fun j hj=>?_,h.od⟩
    · change x∈l4 (a2t s.n k (pH (l4 s.n k) i)) j at hx
      rw [wG hk] at hx
      split at hx
      · rename_i e;subst e;exact h.nt _ x (hsub hx)
      · exact h.nt j x hx
    · show ((l4 (a2t s.n k (pH (l4 s.n k) i)) j).length:Int)≤_
      rw [wG hk]
      split
      · rename_i e;subst e
        have:=h.rm _ hk;have:=hlen (l:=l4 s.n j);omega
      · exact h.rm j hj
  · have:aL s.n k i=s.n:=by
      unfold aL a2t
      have hk':¬(0≤k∧k<3):=by simpa [tU] using hk
      rw [if_neg (om),if_neg (om),if_neg (om)]
    rw [this];exact h
theorem MaL.odd (h:MaL c n s) (b:Bool):MaL c (n+1) (qD s b):=by
  have h':=h.mono (Nat.le_succ n)
  refine ⟨h'.ok,h'.lk,h'.la,h'.lh,h'.kp,h'.ca,h'.hm,h'.nt,h'.rm,?_⟩
  have:=h.od
  show 0≤(if b then s.odd+1 else s.odd)∧(if b then s.odd+1 else s.odd)≤_
  split<;>omega
theorem d8 {x:Nets} {k i:Int} (h:jN x k i=true):bD x k i∈l4 x k:=by
  unfold jN at h
  unfold bD e4n
  rw [h]
  unfold e2f at h
  have h:=of_decide_eq_true h
  have hl:i.toNat<(l4 x k).length:=by omega
  show (l4 x k).getD i.toNat .zero∈_
  rw [List.getD_eq_getElem?_getD,List.getElem?_eq_getElem hl]
  exact List.getElem_mem hl
theorem c8k {m:Msg} (hc:aF c=true) (hl:0≤m.line∧m.line<c.lines):0≤qY c m∧qY c m<c.homes:=by
  have:=(iE hc).2.1
  unfold qY
  rw [Int.tmod_eq_emod_of_nonneg hl.1]
  exact ⟨Int.emod_nonneg _ (om),Int.emod_lt_of_pos _ (om)⟩
theorem pY {m:Msg} (h:d6 c m) (hh:cE m.kind):0≤m.dst∧m.dst<c.homes:=by
  obtain ⟨g1,g2,g3,g4,g5⟩:=h
  unfold jD at g4
  rw [if_pos hh] at g4
  rw [g4.2.1]
  exact c8k g1 g3
theorem n4 {m:Msg} (h:d6 c m) (hh:¬cE m.kind):0≤m.dst∧m.dst<c.cores:=by
  obtain ⟨g1,g2,g3,g4,g5⟩:=h
  unfold jD at g4
  rw [if_neg hh] at g4
  split at g4
  · exact g4.2.2.2.1
  · split at g4
    · exact g4.2.2.2.1
    · split at g4
      · exact g4.2.2.1
      · split at g4
        · exact g4.2.1
        · split at g4
          · exact g4.2.1
          · exact g4.2.1
theorem MaL.com (h:MaL c n s) {i:Int} {x:Op3} {v:Int} (hh:nO (iK s i)=true):MaL c n (q8 s i x v):=by
  by_cases hi:i.toNat<s.ks.length
  · have e:iK s i=s.ks[i.toNat]:=by unfold iK;rw [List.getD_eq_getElem?_getD,List.getElem?_eq_getElem hi];rfl
    have hk:=h.kp _ (List.getElem_mem hi)
    rw [←e] at hk
    have hlt:(iK s i).rs.length≠(iK s i).l.length:=by simpa [nO,uJ] using hh
    have h2:=h.setK (i:=i) (k:=b4y (iK s i) v) ⟨hk.1,by show ((iK s i).rs++[v]).length≤_;rw [List.length_append];simp;show _≤(iK s i).l.length;omega⟩
    exact ⟨h2.ok,h2.lk,h2.la,h2.lh,h2.kp,h2.ca,h2.hm,h2.nt,h2.rm,h2.od⟩
  · have e:iK s i=coZ:=by unfold iK;rw [List.getD_eq_getElem?_getD,List.getElem?_eq_none (om)];rfl
    rw [e] at hh;cases hh
theorem MaL.does (h:MaL c n s) {i:Int} {x:Op3} (hh:nO (iK s i)=true):MaL c n (mY c s i x):=by
  unfold mY
  split
  · exact (h.setA (e8j (h.cai i))).com hh
  · exact h
theorem MaL.ev (h:MaL c n s) {i w:Int} {x:Op3}:MaL c n (b8v c s i x w):=by
  unfold b8v
  split
  · exact (h.setA (e2t (h.cai i))).send _
  · exact h.setA (e2t (h.cai i))
theorem MaL.act (h:MaL c n s) {i w:Int}:MaL c n (c9 c s i w):=by
  unfold c9
  split
  · exact (h.setA (e4z (h.cai i))).send _
  · split
    · exact h
    · rename_i hh
      have hh:nO (iK s i)=true:=by simpa using hh
      split
      · split
        · exact h.com hh
        · exact h
      · split
        · exact h.does hh
        · split
          · exact h
          · split
            · exact (h.setA (d5g (h.cai i))).send _
            · split
              · exact h.ev
              · exact h
theorem MaL.taken (h:MaL c n s) (m:Msg):MaL c (n+1) (dN c s m):=by
  have h1:=(h.mono (Nat.le_succ n)).setA (i:=m.dst) (k:=bH c m.dst (cI s m.dst) m) (d9c (h.cai m.dst))
  have h2:∀ b:Bool,MaL c (n+1) (qD (dW s m.dst (bH c m.dst (cI s m.dst) m)) b):=fun b=>by
    refine ⟨h1.ok,h1.lk,h1.la,h1.lh,h1.kp,h1.ca,h1.hm,h1.nt,h1.rm,?_⟩
    have:=h.od
    show 0≤(if b then s.odd+1 else s.odd)∧(if b then s.odd+1 else s.odd)≤_
    split<;>omega
  unfold dN
  split
  · exact (h2 _).send _
  · exact h2 _
theorem MaL.thn (h:MaL c n s) (m:Msg):MaL c n (kK c s m):=by
  unfold kK
  split
  · rename_i g;exact h.does g.1
  · exact h
theorem c1r {i:Int} {k:HomS} {m:Msg}:(iP c i k m).odd=k.odd:=by unfold iP;split<;>rfl
theorem b6k {i:Int} {k:HomS} {m:Msg}:(gV c i k m).odd=k.odd:=by unfold gV;split<;>rfl
theorem MaL.del (h:MaL c n s) (k i:Int):MaL c (n+1) (eX c s k i):=by
  have hm:=h.mono (Nat.le_succ n)
  unfold eX
  split
  · exact hm
  · rename_i g
    have hb:jN s.n k i=true:=by cases e:jN s.n k i with|true=>rfl|false=>exact absurd (.inl e) g
    have hmem:=h.nt k _ (d8 hb)
    have ht:=h.take k i
    split
    · rename_i hk0
      subst hk0
      have hh:cE (bD s.n 0 i).kind:=by
        have:=hmem.2
        unfold dJ at this
        unfold cE
        split at this
        · exact .inl (by assumption)
        · split at this
          · omega
          · split at this<;>omega
      have hr:=pY hmem.1 hh
      split
      · have hI:=h.hmi hr.1 hr.2
        have:=h.setH (i:=(bD s.n 0 i).dst) (k:=iP c (bD s.n 0 i).dst (dH s (bD s.n 0 i).dst) (bD s.n 0 i)) hr.1 ⟨e2c hI.1 _,by rw [c1r];exact hI.2⟩
        exact (this.take 0 i).mono (Nat.le_succ n)
      · exact hm
    · split
      · rename_i hk1;subst hk1;exact ht.taken _
      · split
        · rename_i h11
          have hr:=pY hmem.1 (.inr h11)
          have hI:=ht.hmi hr.1 hr.2
          have:=ht.setH (i:=(bD s.n k i).dst) (k:=gV c (bD s.n k i).dst (dH (gI s (aL s.n k i)) (bD s.n k i).dst) (bD s.n k i)) hr.1 ⟨d3t hI.1 _,by rw [b6k];exact hI.2⟩
          exact this.odd _
        · exact (ht.taken _).thn _
theorem MaL.work (h:MaL c n s) {i j:Int} (h0:0≤i) (h1:i<c.homes):MaL c (n+1) (dG c s i j):=by
  have hI:=h.hmi h0 h1
  have ho:=e6v (c:=c) (s:=dH s i) j (d6p c s)
  have:=(h.mono (Nat.le_succ n)).setH (i:=i) (k:=bY c (dH s i) j (d6p c s)) h0 ⟨d3w hI.1 _ _,om,om⟩
  unfold dG
  split
  · exact this.send _
  · exact this
theorem MaL.look (h:MaL c n s) {i d:Int}:MaL c n (fM c s i d):=by
  unfold fM
  split
  · exact h
  · split
    · have hk:kS c (qE (iK s i) d).l=true∧(qE (iK s i) d).rs.length≤(qE (iK s i) d).l.length∨¬i.toNat<s.ks.length:=by
        by_cases hi:i.toNat<s.ks.length
        · left
          have e:iK s i=s.ks[i.toNat]:=by unfold iK;rw [List.getD_eq_getElem?_getD,List.getElem?_eq_getElem hi];rfl
          have hk:=h.kp _ (List.getElem_mem hi)
          rw [←e] at hk
          exact hk
        · exact .inr hi
      have h2:MaL c n (b3s s i (qE (iK s i) d)):=by
        rcases hk with hk|hk
        · exact h.setK hk
        · have:b3s s i (qE (iK s i) d)=s:=by unfold b3s;rw [List.set_eq_of_length_le (om)]
          rw [this];exact h
      exact (h2.setA (d5g (h.cai i))).send _
    · exact h
theorem MaL.pick (h:MaL c n s) (p:Pk):MaL c (n+1) (d5 c s p):=by
  have hm:=h.mono (Nat.le_succ n)
  unfold d5
  split
  · exact hm
  · rename_i g
    split
    · exact h.del _ _
    · split
      · rename_i g2
        have:=g2.2
        have hl:=h.lh
        simp only [c8z,decide_eq_true_eq] at this
        exact h.work (om) (om)
      · split
        · exact h.act.mono (Nat.le_succ n)
        · split
          · exact h.look.mono (Nat.le_succ n)
          · exact hm
theorem MaL.new {ps:List (List Op3)} (h:a6v c ps=true):MaL c 0 (cW c ps):=by
  simp only [a6v,Bool.and_eq_true,decide_eq_true_eq,List.all_eq_true] at h
  obtain ⟨⟨hc,hl⟩,hp⟩:=h
  have hb:=iE hc
  refine ⟨hc,by show ((ps.map _).length:Int)=_;rw [List.length_map];exact hl,by show ((ps.map _).length:Int)=_;rw [List.length_map];exact hl,?_,?_,?_,?_,?_,?_,⟨by show (0:Int)≤0;omega,by show (0:Int)≤0;omega⟩⟩
  · show (((List.range c.homes.toNat).map _).length:Int)=_
    rw [List.length_map,List.length_range]
    have:=hb.2.1
    omega
  · intro k hk
    obtain ⟨l,hl,rfl⟩:=List.mem_map.1 hk
    exact ⟨hp l hl,Nat.zero_le _⟩
  · intro k hk
    obtain ⟨l,hl,rfl⟩:=List.mem_map.1 hk
    exact d5h c 0 _
  · intro i x hx
    change ((List.range c.homes.toNat).map _)[i]? =some x at hx
    rw [List.getElem?_map] at hx
    cases e:(List.range c.homes.toNat)[i]? with
    |none=>rw [e] at hx;cases hx
    |some j=>
     rw [e] at hx
     cases hx
     obtain ⟨hi,e⟩:=List.getElem?_eq_some_iff.1 e
     rw [List.getElem_range] at e
     subst e
     rw [List.length_range] at hi
     exact ⟨e2b (by unfold zY;rw [hc,decide_eq_true (om)];rfl),by show (0:Int)≤0;omega,by show (0:Int)≤0;omega⟩
  · intro k m hm
    simp only [cW,l4] at hm
    split at hm<;>(try split at hm)<;>(try split at hm)<;>cases hm
  · intro k hk
    simp only [aF,fI,Bool.and_eq_true,decide_eq_true_eq] at hc
    rcases nE hk with rfl|rfl|rfl<;>simp only [cW,l4,wF]<;>simp<;>omega
def eY (c:Cfg) (s:MaS) (l:List Pk):MaS:=l.foldl (d5 c) s
theorem zB {l:List Pk} {i:Nat} (hi:i<l.length):eY c s (l.take (i+1))=d5 c (eY c s (l.take i)) l[i]:=by
  unfold eY
  rw [List.take_add_one,List.getElem?_eq_getElem hi,Option.toList_some,List.foldl_append]
  rfl
end
end
end Go.Sx
