/- Hom5, HomPl2, Net, Ma, CaE, WiPl: several of my texts as one. My own work. -/
import Derived.Test.YtjihlpjnebdiiaaGreatZal
set_option linter.unusedVariables false
set_option linter.unusedSectionVars false
set_option linter.unusedSimpArgs false
set_option maxRecDepth 100000
set_option maxHeartbeats 4000000
namespace Go.Sx
open Go Go.Proofs
section
def a7c (c:Cfg):TEnt:=⟨-1,⟨c.cores,c.pointers,[],false⟩⟩
def c6q (c:Cfg) (l:List Int):List (Int×c5b):=l.foldl (fun m k=>lS m k (a7c c,none,0)) []
def d8h (c:Cfg) (l:List Int):List (Int×TEnt):=l.foldl (fun m k=>lS m k (a7c c)) []
theorem b5g (c:Cfg) (l:List Int):c4t (c6q c l)=d8h c l:=by
  have:∀ (l:List Int) (m:List (Int×c5b)),c4t (l.foldl (fun m k=>lS m k (a7c c,none,0)) m)=l.foldl (fun m k=>lS m k (a7c c)) (c4t m):=by
    intro l
    induction l with
    |nil=>intro m;rfl
    |cons a r ih=>intro m;rw [List.foldl_cons,List.foldl_cons,ih,qR]
  exact this l []
theorem a9x (c:Cfg) (l:List Int) (k:Int):iE (d8h c l) k=if k∈l then some (a7c c) else none:=by
  have:∀ (l:List Int) (m:List (Int×TEnt)),iE (l.foldl (fun m k=>lS m k (a7c c)) m) k=if k∈l then some (a7c c) else iE m k:=by
    intro l
    induction l with
    |nil=>intro m;simp
    |cons a r ih=>
     intro m
     rw [List.foldl_cons,ih,pL]
     by_cases h1:k∈r
     · simp [h1]
     · by_cases h2:k=a<;>simp [h1,h2]
  exact this l []
def qZ (c:Cfg) (num:Int):HomS:=⟨d8h c (jF c num),List.replicate (c.words*c.lines).toNat 0,[],0⟩
theorem d8i {c:Cfg} (h:aF c=true):d6 ⟨c.cores,c.pointers,[],false⟩=true:=by
  simp only [aF,gI,Bool.and_eq_true,decide_eq_true_eq] at h
  refine a9c (by dsimp only;omega) (by dsimp only;omega) (by dsimp only;omega) (by dsimp only;omega) (by simp;omega) (fun h=>by cases h) List.Pairwise.nil (fun c hc=>by cases hc)
def a1k (c:Cfg) (num:Int):Bool:=aF c&& decide (0≤num∧num<c.homes)
theorem d3t {L M:List HP} {ps:List (Int×c5b)} {k:Int} {c:Cfg} (h:Ent L (All (b9v ps)::M)):Ent L (All (b9v (lS ps k (a7c c,none,0)))::M):=
  Ent.trans h (Ent.trans c5x (b9w ps k (a7c c,none,0)))
attribute [local irreducible] Exit.then Exit.inBlock Code.wp WC WO WE WQ V bT vL fP cY eI v8 IntKind.wrap WR Code.rounds WT KO
theorem t0 {Q P:Prop} (k:Q) (h:Hid Q→P:=by
  intro k
  first
  |(refine aI ?_;refine uU (id:=9) .false (pl:= .p 0 <| .p 1 <| .p 2 <| .p 4 <| .p 5 <| .p 7 <| .r 3 <| .r 6 <| .r 8 <| .e true [(9,.p 10 <| .p 11 <| .p 12 <| .e true [(13,.done)])]) k.out)):P:=h ⟨k⟩
theorem e8m {F:List HP} {c:Cfg} {num:Int} (hc:c.wf) (h:a1k c num=true):FnF Tryz.prog 48 [c.val,.int .i64 num] [] F (fun r L'=>∃ b,r= .tuple [.pointer (some ⟨b,0,none⟩),.int .i64 0].toArray∧L'=[jD b c num (qZ c num)]):=by
  simp only [a1k,Bool.and_eq_true,decide_eq_true_eq] at h
  obtain ⟨hb,h0,h1⟩:=h
  have hM:=fun F=>b6m (F:=F) hc hb
  have hQ:=fun F=>e8a (F:=F) (a3d hb)
  have hI:nA num:=by have:=(gP hb).2.1;unfold nA;omega
  have hLi:=fun F=>b8f (F:=F) hc hI
  have hT:=fun F=>e5s (F:=F) (cores:=c.cores) (most:=c.pointers)
  simp only [d8i hb,if_true] at hT
  have hll:(jF c num).length≤1099511627776:=by
    have:=(gP hb).2.2.2
    unfold jF
    split
    · rw [c0g]
      unfold a7p
      refine Nat.le_trans (Nat.div_le_self _ _) ?_
      have:=(gP hb).2.1
      omega
    · simp
  unfold qZ
  generalize jF c num=ll at hLi hll ⊢
  refine FnF.mk' Tryz.func48 rfl rfl Tryz.ntmps48 rfl ?_
  repeat first|refine go ?_|intro _|refine t0 ?_|refine dM ?_|refine aD @hM ?_|refine aD @hQ ?_|refine aD @hLi ?_
  rename_i bc be bq bm b p cap
  apply aW (E0:=[(2,_),(10,_),(45,_),(46,_)]) (fun E0 (i:Nat)=>(47,.int .i64 i)::E0) (fun i=>Own 3 1 (.slice p ll.length cap) ll.length (aC ic ll)::Cells b 110 (f1r c num bm be bq 0)::MapAt bm f4f (c6q c (ll.take i))::All (b9v (c6q c (ll.take i)))::a6f bq c.buffer []::zN be c (List.replicate (c.words*c.lines).toNat 0)::Cells bc 24 c.cells::F) (fun i=>i≤ll.length) (fun i=>ll.length-i) 0
  · exact m9
  · exact Nat.zero_le _
  · simp only [List.take_zero,show c6q c []=[] from rfl]
    refine Ent.trans ?_ (Ent.cons (Ent.cons (Ent.cons yD)))
    exact aB
  · intro i hi
    by_cases hlt:i<ll.length
    · have et:c6q c (ll.take (i+1))=lS (c6q c (ll.take i)) ll[i] (a7c c,none,0):=by
        rw [List.take_add_one,List.getElem?_eq_getElem hlt]
        show c6q c (_++[_])=_
        unfold c6q
        rw [List.foldl_append]
        rfl
      repeat first|refine go ?_|intro _|refine t0 ?_|refine dM ?_|refine aD @hT ?_
      (apply qW;rfl;exact b8u;exact pH (xv:=(a7c c,none,0)) rfl rfl rfl inferInstance rfl;refine aM ?_)
      repeat first|refine go ?_|intro _|refine t0 ?_|refine dM ?_
      refine aT (i+1) (om) (om) ?_ ?_
      · exact m9
      · rw [et];exact zR @d3t
    · have hil:i=ll.length:=by omega
      subst hil
      rw [List.take_length]
      repeat first|refine go ?_|intro _|refine t0 ?_|refine dM ?_
      (apply aA rfl rfl bH)
      · exact ⟨_,rfl,rfl⟩
      · ((repeat (first|(with_reducible exact Ent.refl)|exact Ent.nil|(apply iS;exact f1n)|(apply nJ)|apply Ent.drop));all_goals (first|rfl|(with_reducible assumption)|(simp [b5g];done)|(simp [b5g];omega)|omega|(constructor<;>(simp [b5g])<;>omega)))
end
section
theorem c2s {e:TEnt} {m:Msg} (h:gC e m=0):(fY e m).s.cores=e.s.cores∧(fY e m).s.most=e.s.most:=by
  obtain ⟨hok,hk⟩:=lP h
  obtain ⟨h1,h2,h3,h4,h5⟩:=mP hok
  obtain ⟨a1,a2,a3⟩:=c1i h1 h4 h5
  unfold fY
  rw [if_pos h]
  rcases hk with ⟨k,ho⟩|k|k
  · rw [if_pos k]
    unfold n8
    rw [if_neg ho]
    split
    · exact ⟨a2,a3⟩
    · split
      · exact ⟨rfl,rfl⟩
      · exact ⟨a2,a3⟩
  · rw [if_neg (om),if_pos k]
    exact ⟨rfl,rfl⟩
  · rw [if_neg (om),if_neg (om)]
    unfold a0w
    split<;>exact ⟨rfl,rfl⟩
theorem c2t {e:TEnt} {m:Msg} {w:Words} (h:gC e m=0):∀ y∈cA e m w,(4≤y.kind∧y.kind≤10)∧y.line=m.line∧y.src=m.dst:=by
  obtain ⟨hok,hk⟩:=lP h
  intro y hy
  unfold cA at hy
  rw [if_pos h] at hy
  rcases hk with ⟨k,ho⟩|k|k
  · rw [if_pos k] at hy
    unfold kF at hy
    rw [if_neg ho] at hy
    split at hy
    · rw [List.mem_singleton] at hy;subst hy;exact ⟨⟨by simp [gS],by simp [gS]⟩,rfl,rfl⟩
    · split at hy<;>(rw [List.mem_singleton] at hy;subst hy;exact ⟨⟨by simp [gS],by simp [gS]⟩,rfl,rfl⟩)
  · rw [if_neg (om),if_pos k] at hy
    rcases List.mem_cons.1 hy with rfl|hy
    · unfold pX
      split
      · exact ⟨⟨by simp [gS],by simp [gS]⟩,rfl,rfl⟩
      · split<;>exact ⟨⟨by simp [gS],by simp [gS]⟩,rfl,rfl⟩
    · obtain ⟨o,_,rfl⟩:=List.mem_map.1 hy
      exact ⟨⟨by simp [a4z,gS],by simp [a4z,gS]⟩,rfl,rfl⟩
  · rw [if_neg (om),if_neg (om)] at hy
    rw [List.mem_singleton] at hy;subst hy;exact ⟨⟨by simp [gS],by simp [gS]⟩,rfl,rfl⟩
theorem a3e {c:Cfg} {num:Int} (h:a1k c num=true) (k:Int):k∈jF c num↔c2j c num k:=by
  simp only [a1k,Bool.and_eq_true,decide_eq_true_eq] at h
  obtain ⟨hb,h0,h1⟩:=h
  have hB:=gP hb
  obtain ⟨H,eH⟩:∃ H:Nat,c.homes=H:=⟨c.homes.toNat,om⟩
  obtain ⟨n,en⟩:∃ n:Nat,c.lines=n:=⟨c.lines.toNat,om⟩
  obtain ⟨g,rfl⟩:∃ n:Nat,num=n:=⟨num.toNat,om⟩
  have r1:jF c g=b5k g H (a7p n g H):=by simp [jF,hb,eH,en];omega
  have hg:g<H:=by omega
  rw [r1]
  unfold c2j b5k
  rw [eH,en]
  simp only [List.mem_map,List.mem_range]
  constructor
  · rintro ⟨i,hi,rfl⟩
    have:=(c5h (n:=n) (k:=i) hg).1 hi
    refine ⟨om,om,?_⟩
    have h3:(g+i*H) % H=g:=by rw [Nat.add_mul_mod_self_right];exact Nat.mod_eq_of_lt hg
    exact_mod_cast h3
  · rintro ⟨k0,k1,k2⟩
    obtain ⟨k,rfl⟩:∃ n:Nat,k=n:=⟨k.toNat,om⟩
    have h3:k % H=g:=by exact_mod_cast k2
    have h4:=Nat.div_add_mod k H
    have h5:g+k / H*H=k:=by rw [Nat.mul_comm];omega
    refine ⟨k / H,(c5h (n:=n) (k:=k / H) hg).2 (om),by rw [h5]⟩
theorem e2d {c:Cfg} {num:Int} (h:a1k c num=true):HmI c num (qZ c num):=by
  have h0:=h
  simp only [a1k,Bool.and_eq_true,decide_eq_true_eq] at h0
  refine ⟨h0.1,h0.2,fun k=>?_,fun k e he=>?_,fun x hx=>absurd hx (List.not_mem_nil),fun x hx=>absurd hx (List.not_mem_nil),?_⟩
  · show (iE (d8h c (jF c num)) k).isSome=_
    rw [a9x]
    by_cases hk:c2j c num k
    · rw [if_pos ((a3e h k).2 hk),decide_eq_true hk];rfl
    · rw [if_neg (fun hh=>hk ((a3e h k).1 hh)),decide_eq_false hk];rfl
  · have he':iE (d8h c (jF c num)) k=some e:=he
    rw [a9x] at he'
    split at he'
    · cases he'
      have hb:=gP h0.1
      exact ⟨vF (d8i h0.1) (by simp [a7c]) (by simp only [a7c];omega),rfl,rfl⟩
    · cases he'
  · have:=a3d h0.1
    show ((0:Nat):Int)≤_
    omega
theorem e0c {c:Cfg} {num:Int} {s:HomS} (h:HmI c num s) {q:List QE} (hr:∀ x∈q,lR c num x.m 0=true) (hs:∀ x∈q,∀ y∈x.sends,(4≤y.kind∧y.kind≤10)∧y.line=x.m.line∧y.src=num) (hl:(q.length:Int)≤c.buffer) (o:Int):HmI c num ⟨s.es,s.ms,q,o⟩:=
  ⟨h.ok,h.nm,h.own,h.may,hr,hs,hl⟩
theorem e2e {c:Cfg} {num:Int} {s:HomS} (h:HmI c num s) (m:Msg):HmI c num (iZ c num s m):=by
  unfold iZ
  split
  · rename_i hm
    refine e0c h ?_ ?_ ?_ s.odd
    all_goals unfold r7
    · intro x hx
      split at hx
      · rcases List.mem_append.1 hx with hx|hx
        · exact h.req x hx
        · rw [List.mem_singleton] at hx;subst hx;exact hm
      · exact h.req x hx
    · intro x hx
      split at hx
      · rcases List.mem_append.1 hx with hx|hx
        · exact h.snd x hx
        · rw [List.mem_singleton] at hx;subst hx;intro y hy;cases hy
      · exact h.snd x hx
    · have hl:=h.len
      split
      · rename_i he
        have:¬(s.q.length:Int)=c.buffer:=fun hh=>by
          unfold xN at he
          split at he
          · cases he
          · simp [hh] at he
        rw [List.length_append,List.length_singleton]
        omega
      · exact hl
  · exact h
theorem a3f {c:Cfg} {num:Int} {s:HomS} (h:HmI c num s) (n:Nat) (o:Int):HmI c num ⟨s.es,s.ms,s.q.eraseIdx n,o⟩:=by
  refine e0c h (fun x hx=>h.req x (List.mem_of_mem_eraseIdx hx)) (fun x hx=>h.snd x (List.mem_of_mem_eraseIdx hx)) ?_ o
  have:=h.len
  have:=List.length_eraseIdx_le s.q n
  omega
theorem d3u {c:Cfg} {num:Int} {s:HomS} (h:HmI c num s) (m:Msg):HmI c num (fI c num s m):=by
  unfold fI r8
  split
  · split
    · exact h
    · exact a3f h _ s.odd
  · exact h
theorem a1l {α:Type} {l:List α} {n:Nat} {a x:α} (h:x∈l.set n a):x∈l∨x=a:=List.mem_or_eq_of_mem_set h
theorem d3v {c:Cfg} {num:Int} {s:HomS} (h:HmI c num s) (n:Int):HmI c num { s with q:=cN s.q n}:=by
  unfold cN
  split
  · rename_i he
    split
    · exact a3f h _ s.odd
    · have hin:a9o s.q n=true:=by
        cases hc:a9o s.q n with
        |true=>rfl
        |false=>simp [lB,hc] at he
      have hm:=yU hin
      refine e0c h ?_ ?_ (by rw [List.length_set];exact h.len) s.odd
      · intro x hx
        rcases a1l hx with hx|rfl
        · exact h.req x hx
        · exact h.req (a3x s.q n) hm
      · intro x hx
        rcases a1l hx with hx|rfl
        · exact h.snd x hx
        · intro y hy
          exact h.snd (a3x s.q n) hm y (List.mem_of_mem_drop hy)
  · exact h
theorem d3w {c:Cfg} {num:Int} {s:HomS} (h:HmI c num s) {n:Int} (hr:eZ s.q n=true) (h0:gC (aR s (a2k s n).line) (a2k s n)=0):HmI c num (i7 c s n):=by
  have hm:=yU (b3r hr)
  have hmine:lR c num (a2k s n) 0=true:=h.req _ hm
  obtain ⟨f1,f2,f3,f4,f5⟩:=iD h.ok hmine
  obtain ⟨g1,g2,g3,g4⟩:=sH h f3
  have hz:=c2s h0
  refine ⟨h.ok,h.nm,fun k=>?_,fun k e he=>?_,?_,?_,?_⟩
  · show (iE (lS s.es _ _) k).isSome=_
    rw [pL]
    split
    · rename_i hk;subst hk;rw [decide_eq_true f3];rfl
    · exact h.own k
  · have he':iE (lS s.es (a2k s n).line (fY (aR s (a2k s n).line) (a2k s n))) k=some e:=he
    rw [pL] at he'
    split at he'
    · cases he'
      exact ⟨d6z h0,by rw [hz.1,g3],by rw [hz.2,g4]⟩
    · exact h.may k e he'
  · intro x hx
    have hx':x∈cD s.q n (cA (aR s (a2k s n).line) (a2k s n) (aJ c s.ms (a2k s n).line)):=hx
    unfold cD at hx'
    split at hx'
    · rcases a1l hx' with hx|rfl
      · exact h.req x hx
      · exact hmine
    · exact h.req x hx'
  · intro x hx
    have hx':x∈cD s.q n (cA (aR s (a2k s n).line) (a2k s n) (aJ c s.ms (a2k s n).line)):=hx
    unfold cD at hx'
    split at hx'
    · rcases a1l hx' with hx|rfl
      · exact h.snd x hx
      · intro y hy
        have:=c2t h0 y hy
        rw [f5] at this
        exact this
    · exact h.snd x hx'
  · show ((cD s.q n _).length:Int)≤_
    unfold cD
    split
    · rw [List.length_set];exact h.len
    · exact h.len
theorem d3x {c:Cfg} {num:Int} {s:HomS} (h:HmI c num s) (n:Int) (l:L3):HmI c num (cE c s n l):=by
  unfold cE
  split
  · rename_i hr
    unfold kV
    split
    · rename_i h0;exact d3w h hr h0
    · exact a3f h _ _
  · split
    · exact d3v h n
    · exact h
theorem e8n {c:Cfg} {s:HomS} (n:Int) (l:L3):s.odd≤(cE c s n l).odd∧(cE c s n l).odd≤s.odd+1:=by
  unfold cE kV i7 d7z
  split
  · split
    · exact ⟨Int.le_refl _,by show s.odd≤_;omega⟩
    · exact ⟨by show s.odd≤s.odd+1;omega,Int.le_refl _⟩
  · split
    · exact ⟨Int.le_refl _,by show s.odd≤_;omega⟩
    · exact ⟨Int.le_refl _,om⟩
end
section
structure Nets where
  l0:List Msg
  l1:List Msg
  l2:List Msg
abbrev Nets.no:Nets:=⟨[],[],[]⟩
def rS (k:Int):Bool:=decide (0≤k∧k<3)
def eY (n:Nets) (k:Int):List Msg:=if k=0 then n.l0 else if k=1 then n.l1 else if k=2 then n.l2 else []
def a4h (n:Nets) (k:Int) (l:List Msg):Nets:=if k=0 then ⟨l,n.l1,n.l2⟩ else if k=1 then ⟨n.l0,l,n.l2⟩ else if k=2 then ⟨n.l0,n.l1,l⟩ else n
def q6 (c:Cfg) (k:Int):Int:=if k=0 then c.r0 else if k=1 then c.r1 else if k=2 then c.r2 else 0
def cB (c:Cfg) (n:Nets) (k:Int):Int:=q6 c k-(eY n k).length
def aG (n:Nets) (k i:Int):Msg:=e6z .zero (eY n k) i
def gN (n:Nets) (k i:Int):Bool:=d4w (eY n k) i
def c5e (n:Nets) (k i:Int):Int:=c3j (eY n k) i
def aH (n:Nets) (k i:Int):Nets:=a4h n k (oQ (eY n k) i)
def vK (c:Cfg) (n:Nets) (m:Msg):Int:=if fG c m then d8o (q6 c (c6 m.kind)) (eY n (c6 m.kind)) else 1
def eJ (c:Cfg) (n:Nets) (m:Msg):Nets:=if fG c m then a4h n (c6 m.kind) (a4o (q6 c (c6 m.kind)) (eY n (c6 m.kind)) m) else n
def nY (n:Nets):List Msg:=n.l0++n.l1++n.l2
theorem mJ {k:Int} (h:rS k=true):k=0∨k=1∨k=2:=by simp [rS] at h;omega
theorem yK {n:Nets} {k:Int} (h:rS k=false):eY n k=[]:=by
  simp only [rS,decide_eq_false_iff_not] at h
  unfold eY;rw [if_neg (om),if_neg (om),if_neg (om)]
theorem d3y {c:Cfg} {k:Int} (h:rS k=false):q6 c k=0:=by
  simp only [rS,decide_eq_false_iff_not] at h
  unfold q6;rw [if_neg (om),if_neg (om),if_neg (om)]
theorem e2f {n:Nets} {k:Int} {l:List Msg} (h:rS k=false):a4h n k l=n:=by
  simp only [rS,decide_eq_false_iff_not] at h
  unfold a4h;rw [if_neg (om),if_neg (om),if_neg (om)]
theorem c0a {c:Cfg} {m:Msg} (h:fG c m):c6 m.kind=0∨c6 m.kind=1∨c6 m.kind=2:=by
  have:=h.2.1
  unfold c6;split<;>(try split)<;>(try split)<;>omega
abbrev nB (c:Cfg) (b0 b1 b2:Nat):List Value:=[.int .i64 c.cores,.int .i64 c.homes,.int .i64 c.sets,.int .i64 c.ways,.int .i64 c.words,.int .i64 c.lines,.int .i64 c.pointers,.int .i64 c.mshrs,.int .i64 c.buffer,.int .i64 c.writebacks,.int .i64 c.r0,.int .i64 c.r1,.int .i64 c.r2,.pointer (some ⟨b0,0,none⟩),.pointer (some ⟨b1,0,none⟩),.pointer (some ⟨b2,0,none⟩)]
theorem c5f {α:Type} {T e:TypeId} {sz:Nat} {enc:α→List Value} {b:Nat} {room:Int} {l:List α} {L:List HP} {w:World} (h:fP (RL T e sz enc b room l::L) w):(l.length:Int)≤room∧room≤4096:=by
  obtain ⟨⟨p,c0⟩,hx⟩:=kD h
  simp only [pO] at hx
  exact jK (aU (aU hx))
def e6u (T TB TM:TypeId) (b:Nat) (c:Cfg) (n:Nets):HP:=
  Ex fun q:Nat×Nat×Nat=>[Cells b T (nB c q.1 q.2.1 q.2.2),RL TB TM 15 mc q.1 c.r0 n.l0,RL TB TM 15 mc q.2.1 c.r1 n.l1,RL TB TM 15 mc q.2.2 c.r2 n.l2,Fact (aF c=true)]
theorem gY {T TB TM:TypeId} {b:Nat} {c:Cfg} {n:Nets} {b0 b1 b2:Nat} {L M:List HP}
    (h:Ent L (Cells b T (nB c b0 b1 b2)::RL TB TM 15 mc b0 c.r0 n.l0::RL TB TM 15 mc b1 c.r1 n.l1::RL TB TM 15 mc b2 c.r2 n.l2::M)) (hc:aF c=true):Ent L (e6u T TB TM b c n::M):=by
  refine Ent.trans h (Ent.trans ?_ (kW (p:=fun q:Nat×Nat×Nat=>[Cells b T (nB c q.1 q.2.1 q.2.2),RL TB TM 15 mc q.1 c.r0 n.l0,RL TB TM 15 mc q.2.1 c.r1 n.l1,RL TB TM 15 mc q.2.2 c.r2 n.l2,Fact (aF c=true)]) (b0,b1,b2)))
  exact Ent.cons (Ent.cons (Ent.cons (Ent.cons (dS hc))))
theorem e2g {T TB TM:TypeId} {b:Nat} {c:Cfg} {n:Nets} {L:List HP} {w:World} (h:fP (e6u T TB TM b c n::L) w):∃ b0 b1 b2,(aF c=true∧(n.l0.length:Int)≤c.r0∧(n.l1.length:Int)≤c.r1∧(n.l2.length:Int)≤c.r2)∧
    fP (Cells b T (nB c b0 b1 b2)::RL TB TM 15 mc b0 c.r0 n.l0::RL TB TM 15 mc b1 c.r1 n.l1::RL TB TM 15 mc b2 c.r2 n.l2::L) w:=by
  obtain ⟨⟨b0,b1,b2⟩,hx⟩:=kD h
  simp only [pO] at hx
  have hf:=jK (aU (aU (aU (aU hx))))
  have h2:fP (Cells b T (nB c b0 b1 b2)::RL TB TM 15 mc b0 c.r0 n.l0::RL TB TM 15 mc b1 c.r1 n.l1::RL TB TM 15 mc b2 c.r2 n.l2::L) w:=(Ent.cons (Ent.cons (Ent.cons (Ent.cons (Ent.drop Ent.refl))))) _ hx
  exact ⟨b0,b1,b2,⟨hf,(c5f ((Ent.drop Ent.refl).sat h2)).1,(c5f ((Ent.drop (Ent.drop Ent.refl)).sat h2)).1,(c5f ((Ent.drop (Ent.drop (Ent.drop Ent.refl))).sat h2)).1⟩,h2⟩
section
variable {T TB TM:TypeId} {b:Nat} {c:Cfg} {n:Nets} {P:Program} {N:Nat} {env:Env} {L:List HP} {Q:Exit→Act→World→Prop}
theorem sY {co:Code} (h:∀ b0 b1 b2,(aF c=true∧(n.l0.length:Int)≤c.r0∧(n.l1.length:Int)≤c.r1∧(n.l2.length:Int)≤c.r2)→WC P N co env (Cells b T (nB c b0 b1 b2)::RL TB TM 15 mc b0 c.r0 n.l0::RL TB TM 15 mc b1 c.r1 n.l1::RL TB TM 15 mc b2 c.r2 n.l2::L) Q):WC P N co env (e6u T TB TM b c n::L) Q:=by
  intro a w ha hw
  obtain ⟨b0,b1,b2,hf,hx⟩:=e2g hw
  exact h b0 b1 b2 hf a w ha hx
end
attribute [local irreducible] Exit.then Exit.inBlock Code.wp WC WO WE WQ V bT vL fP cY eI v8 IntKind.wrap WR Code.rounds WT KO
abbrev nQ:=e6u 94 179 99
theorem a3g {Q P:Prop} (k:Q) (h:Hid Q→P:=by
  intro k
  first
  |(refine aI ?_;apply pV (id:=8) .true [] (pl:= .p 0 <| .p 1 <| .p 2 <| .p 7 <| .p 8 <| .e true [(3,.p 4 <| .p 5 <| .p 6 <| .p 9 <| .e false [(10,.done)])]);exact sD;kernel_rfl;kernel_rfl;exact Ent.nil;exact k.out)):P:=h ⟨k⟩
theorem c6r {F:List HP} {c:Cfg} (hw:c.wf) (hc:aF c=true):FnF Tryz.prog 45 [c.val] [] F (fun r L'=>∃ b,r= .tuple [.pointer (some ⟨b,0,none⟩),.int .i64 0].toArray∧L'=[nQ b c .no]):=by
  have hC:=fun F=>dK (F:=F) hw
  simp only [eD,hc,if_true] at hC
  have hr:(1≤c.r0∧c.r0≤4096)∧(1≤c.r1∧c.r1≤4096)∧(1≤c.r2∧c.r2≤4096):=by
    simp only [aF,gI,Bool.and_eq_true,decide_eq_true_eq] at hc
    omega
  obtain ⟨h0,h1,h2⟩:=hr
  have hB0:=fun F=>vZ (F:=F) h0
  have hB1:=fun F=>vZ (F:=F) h1
  have hB2:=fun F=>vZ (F:=F) h2
  refine FnF.mk' Tryz.func45 rfl rfl Tryz.ntmps45 rfl ?_
  repeat first|refine go ?_|intro _|refine a3g ?_|refine dM ?_|refine aD @hC ?_
  refine b3v 4 ?_
  repeat first|refine go ?_|intro _|refine a3g ?_|refine dM ?_|refine aD @hB0 ?_|refine aD @hB1 ?_|refine aD @hB2 ?_
  (apply aA rfl rfl bH)
  · exact ⟨_,rfl,rfl⟩
  · rename_i bc b w2 w1 w0
    change Ent (bL w0 c.r2 []::bL w1 c.r1 []::bL w2 c.r0 []::Cells b 94 (nB c w2 w1 w0)::_) _
    (apply gY;(focus (exact aB));all_goals exact mZ)
theorem c2u {F:List HP} {c:Cfg} (hw:c.wf) (hc:aF c=false):FnF Tryz.prog 45 [c.val] [] F (fun r L'=>r= .tuple [.pointer none,.int .i64 1].toArray∧L'=[]):=by
  have hC:=fun F=>dK (F:=F) hw
  simp only [eD,hc,Bool.false_eq_true,if_false] at hC
  refine FnF.mk' Tryz.func45 rfl rfl Tryz.ntmps45 rfl ?_
  repeat first|refine go ?_|intro _|refine a3g ?_|refine dM ?_|refine aD @hC ?_
  exact bF
theorem a7d {F:List HP} {k:Int}:FnF Tryz.prog 55 [.int .i64 k] [] F (fun r L'=>r= .bool (rS k)∧L'=[]):=by
  refine FnF.mk' Tryz.func55 rfl rfl Tryz.ntmps55 rfl ?_
  repeat' (first|refine gd ?_|intro _|refine nV ?_ ?_|fail)
  all_goals (apply aA rfl rfl bH;(refine ⟨congrArg Value.bool ?_,rfl⟩;(first|(refine decide_eq_decide.2 ?_)|(refine (decide_eq_true ?_).symm)|(refine (decide_eq_false ?_).symm));(first|omega|(simp only [rS];omega)));exact jM)
theorem wY {F:List HP} {b:Nat} {c:Cfg} {n:Nets} {k:Int}:FnF Tryz.prog 99 [.pointer (some ⟨b,0,none⟩),.int .i64 k] [nQ b c n] F (fun r L'=>r= .int .i64 (cB c n k)∧L'=[nQ b c n]):=by
  have hH:=fun F=>a7d (F:=F) (k:=k)
  refine FnF.mk' Tryz.func99 rfl rfl Tryz.ntmps99 rfl ?_
  refine sY fun b0 b1 b2 ⟨hc,hn0,hn1,hn2⟩=>?_
  cases h:rS k with
  |true=>
   rw [h] at hH
   rcases mJ h with rfl|rfl|rfl
   · repeat first|refine gd ?_|intro _|refine aD @hH ?_|refine aD @mY ?_
     (apply aA rfl rfl bH)
     · exact ⟨rfl,rfl⟩
     · (apply gY;(focus (exact aB));all_goals exact mZ)
   · repeat first|refine gd ?_|intro _|refine aD @hH ?_|refine aD @mY ?_
     (apply aA rfl rfl bH)
     · exact ⟨rfl,rfl⟩
     · (apply gY;(focus (exact aB));all_goals exact mZ)
   · repeat first|refine gd ?_|intro _|refine aD @hH ?_|refine aD @mY ?_
     (apply aA rfl rfl bH)
     · exact ⟨rfl,rfl⟩
     · (apply gY;(focus (exact aB));all_goals exact mZ)
  |false=>
   rw [h] at hH
   repeat first|refine gd ?_|intro _|refine aD @hH ?_
   (apply aA rfl rfl bH)
   · exact ⟨by simp [cB,d3y h,yK h],rfl⟩
   · (apply gY;(focus (exact aB));all_goals exact mZ)
theorem b1j {F:List HP} {b:Nat} {c:Cfg} {n:Nets} {k i:Int}:FnF Tryz.prog 98 [.pointer (some ⟨b,0,none⟩),.int .i64 k,.int .i64 i] [nQ b c n] F (fun r L'=>r= .tuple [mv (aG n k i),.bool (gN n k i)].toArray∧L'=[nQ b c n]):=by
  have hH:=fun F=>a7d (F:=F) (k:=k)
  refine FnF.mk' Tryz.func98 rfl rfl Tryz.ntmps98 rfl ?_
  refine sY fun b0 b1 b2 ⟨hc,hn0,hn1,hn2⟩=>?_
  cases h:rS k with
  |true=>
   rw [h] at hH
   rcases mJ h with rfl|rfl|rfl
   · repeat first|refine gd ?_|intro _|refine aD @hH ?_|refine aD @qJ ?_
     (apply aA rfl rfl bH)
     · exact ⟨rfl,rfl⟩
     · (apply gY;(focus (exact aB));all_goals exact mZ)
   · repeat first|refine gd ?_|intro _|refine aD @hH ?_|refine aD @qJ ?_
     (apply aA rfl rfl bH)
     · exact ⟨rfl,rfl⟩
     · (apply gY;(focus (exact aB));all_goals exact mZ)
   · repeat first|refine gd ?_|intro _|refine aD @hH ?_|refine aD @qJ ?_
     (apply aA rfl rfl bH)
     · exact ⟨rfl,rfl⟩
     · (apply gY;(focus (exact aB));all_goals exact mZ)
  |false=>
   rw [h] at hH
   have e1:aG n k i= .zero:=by simp [aG,yK h,e6z,d4w]
   have e2:gN n k i=false:=by simp [gN,yK h,d4w]
   repeat first|refine gd ?_|intro _|refine aD @hH ?_
   (apply aA rfl rfl bH)
   · rw [e1,e2];exact ⟨rfl,rfl⟩
   · (apply gY;(focus (exact aB));all_goals exact mZ)
theorem a1m {F:List HP} {b:Nat} {c:Cfg} {n:Nets} {k i:Int}:FnF Tryz.prog 101 [.pointer (some ⟨b,0,none⟩),.int .i64 k,.int .i64 i] [nQ b c n] F (fun r L'=>r= .tuple [mv (aG n k i),.int .i64 (c5e n k i)].toArray∧L'=[nQ b c (aH n k i)]):=by
  have hH:=fun F=>a7d (F:=F) (k:=k)
  refine FnF.mk' Tryz.func101 rfl rfl Tryz.ntmps101 rfl ?_
  refine sY fun b0 b1 b2 ⟨hc,hn0,hn1,hn2⟩=>?_
  cases h:rS k with
  |true=>
   rw [h] at hH
   rcases mJ h with rfl|rfl|rfl
   · have e3:aH n 0 i=⟨oQ n.l0 i,n.l1,n.l2⟩:=rfl
     rw [e3]
     repeat first|refine gd ?_|intro _|refine aD @hH ?_|refine aD @tN ?_
     (apply aA rfl rfl bH)
     · exact ⟨rfl,rfl⟩
     · (apply gY;(focus (exact aB));all_goals exact mZ)
   · have e3:aH n 1 i=⟨n.l0,oQ n.l1 i,n.l2⟩:=rfl
     rw [e3]
     repeat first|refine gd ?_|intro _|refine aD @hH ?_|refine aD @tN ?_
     (apply aA rfl rfl bH)
     · exact ⟨rfl,rfl⟩
     · (apply gY;(focus (exact aB));all_goals exact mZ)
   · have e3:aH n 2 i=⟨n.l0,n.l1,oQ n.l2 i⟩:=rfl
     rw [e3]
     repeat first|refine gd ?_|intro _|refine aD @hH ?_|refine aD @tN ?_
     (apply aA rfl rfl bH)
     · exact ⟨rfl,rfl⟩
     · (apply gY;(focus (exact aB));all_goals exact mZ)
  |false=>
   rw [h] at hH
   have e1:aG n k i= .zero:=by simp [aG,yK h,e6z,d4w]
   have e2:c5e n k i=5:=by simp [c5e,yK h,c3j,d4w]
   have e3:aH n k i=n:=e2f h
   repeat first|refine gd ?_|intro _|refine aD @hH ?_
   (apply aA rfl rfl bH)
   · rw [e1,e2];exact ⟨rfl,rfl⟩
   · rw [e3];(apply gY;(focus (exact aB));all_goals exact mZ)
theorem d3z {F:List HP} {b:Nat} {c:Cfg} {n:Nets} {k:Int}:FnF Tryz.prog 21 [.pointer (some ⟨b,0,none⟩),.int .i64 k] [nQ b c n] F (fun r L'=>∃ p q,r= .slice p (eY n k).length q∧L'=[Own 99 15 (.slice p (eY n k).length q) (eY n k).length (aC mc (eY n k)),nQ b c n]):=by
  have hH:=fun F=>a7d (F:=F) (k:=k)
  refine FnF.mk' Tryz.func21 rfl rfl Tryz.ntmps21 rfl ?_
  refine sY fun b0 b1 b2 ⟨hc,hn0,hn1,hn2⟩=>?_
  cases h:rS k with
  |true=>
   rw [h] at hH
   rcases mJ h with rfl|rfl|rfl
   · repeat first|refine gd ?_|intro _|refine aD @hH ?_|refine aD @kL ?_
     (apply aA rfl rfl bH)
     · exact ⟨_,_,rfl,rfl⟩
     · refine Ent.cons ?_
       (apply gY;(focus (exact aB));all_goals exact mZ)
   · repeat first|refine gd ?_|intro _|refine aD @hH ?_|refine aD @kL ?_
     (apply aA rfl rfl bH)
     · exact ⟨_,_,rfl,rfl⟩
     · refine Ent.cons ?_
       (apply gY;(focus (exact aB));all_goals exact mZ)
   · repeat first|refine gd ?_|intro _|refine aD @hH ?_|refine aD @kL ?_
     (apply aA rfl rfl bH)
     · exact ⟨_,_,rfl,rfl⟩
     · refine Ent.cons ?_
       (apply gY;(focus (exact aB));all_goals exact mZ)
  |false=>
   rw [h] at hH
   rw [yK h]
   repeat first|refine gd ?_|intro _|refine aD @hH ?_
   (apply aA rfl rfl bH)
   · exact ⟨none,0,rfl,rfl⟩
   · refine Ent.trans ?_ (aO Ent.refl)
     (apply gY;(focus (exact aB));all_goals exact mZ)
theorem q7 {Q P:Prop} (k:Q) (h:Hid Q→P:=by
  intro k
  first
  |(refine aI ?_;refine uU (id:=1) .true (pl:= .p 0 <| .p 1 <| .p 2 <| .r 3 <| .r 4 <| .e true [(5,.p 6 <| .done)]) k.out)
  |(refine aI ?_;refine uU (id:=3) .true (pl:= .p 0 <| .p 1 <| .p 4 <| .p 5 <| .r 2 <| .e true [(3,.p 6 <| .e false [(7,.e false [(8,.e false [(9,.p 10 <| .done)])]),(8,.e false [(7,.e false [(9,.p 10 <| .done)])])]),(8,.e true [(3,.p 6 <| .e false [(7,.e false [(9,.p 10 <| .done)])])])]) k.out)):P:=h ⟨k⟩
theorem d4a {F:List HP} {b:Nat} {c:Cfg} {n:Nets} {m:Msg} (hw:c.wf):FnF Tryz.prog 152 [.pointer (some ⟨b,0,none⟩),mv m] [nQ b c n] F (fun r L'=>r= .int .i64 (vK c n m)∧L'=[nQ b c (eJ c n m)]):=by
  have hM:=fun F=>b5s (F:=F) (c:=c) (m:=m) hw
  have hN:=fun F=>rP (F:=F) (k:=m.kind)
  refine FnF.mk' Tryz.func152 rfl rfl Tryz.ntmps152 rfl ?_
  refine sY fun b0 b1 b2 ⟨hc,hn0,hn1,hn2⟩=>?_
  by_cases h:fG c m
  · simp only [decide_eq_true h] at hM
    have e1:vK c n m=d8o (q6 c (c6 m.kind)) (eY n (c6 m.kind)):=if_pos h
    have e2:eJ c n m=a4h n (c6 m.kind) (a4o (q6 c (c6 m.kind)) (eY n (c6 m.kind)) m):=if_pos h
    rw [e1,e2]
    rcases c0a h with e|e|e
    · rw [e] at hN ⊢
      have e3:a4h n 0 (a4o (q6 c 0) (eY n 0) m)=⟨a4o c.r0 n.l0 m,n.l1,n.l2⟩:=rfl
      rw [e3]
      repeat' (first|refine go ?_|intro _|refine q7 ?_|refine dM ?_|refine aD @hM ?_|refine aD @hN ?_|refine aD @v5 ?_|refine nV ?_ ?_|fail)
      all_goals (apply aA rfl rfl bH)
      all_goals first|exact ⟨rfl,rfl⟩|(apply gY;(focus (exact aB));all_goals exact mZ)
    · rw [e] at hN ⊢
      have e3:a4h n 1 (a4o (q6 c 1) (eY n 1) m)=⟨n.l0,a4o c.r1 n.l1 m,n.l2⟩:=rfl
      rw [e3]
      repeat' (first|refine go ?_|intro _|refine q7 ?_|refine dM ?_|refine aD @hM ?_|refine aD @hN ?_|refine aD @v5 ?_|refine nV ?_ ?_|fail)
      all_goals (apply aA rfl rfl bH)
      all_goals first|exact ⟨rfl,rfl⟩|(apply gY;(focus (exact aB));all_goals exact mZ)
    · rw [e] at hN ⊢
      have e3:a4h n 2 (a4o (q6 c 2) (eY n 2) m)=⟨n.l0,n.l1,a4o c.r2 n.l2 m⟩:=rfl
      rw [e3]
      repeat' (first|refine go ?_|intro _|refine q7 ?_|refine dM ?_|refine aD @hM ?_|refine aD @hN ?_|refine aD @v5 ?_|refine nV ?_ ?_|fail)
      all_goals (apply aA rfl rfl bH)
      all_goals first|exact ⟨rfl,rfl⟩|(apply gY;(focus (exact aB));all_goals exact mZ)
  · simp only [decide_eq_false h] at hM
    have e1:vK c n m=1:=if_neg h
    have e2:eJ c n m=n:=if_neg h
    rw [e1,e2]
    repeat first|refine go ?_|intro _|refine q7 ?_|refine dM ?_|refine aD @hM ?_
    (apply aA rfl rfl bH)
    · exact ⟨rfl,rfl⟩
    · (apply gY;(focus (exact aB));all_goals exact mZ)
end
section
structure CoS where
  l:List Op3
  rs:List Int
  tr:List (Int×Bool)
structure Com where
  core:Int
  pos:Int
  op:Op3
  res:Int
structure MaS where
  ks:List CoS
  cs:List CaS
  hs:List HomS
  n:Nets
  tr:List Com
  odd:Int
abbrev coZ:CoS:=⟨[],[],[]⟩
abbrev caZ:CaS:=⟨[],[],[]⟩
abbrev a5e:HomS:=⟨[],[],[],0⟩
def cO (s:MaS) (i:Int):CoS:=s.ks.getD i.toNat coZ
def bI (s:MaS) (i:Int):CaS:=s.cs.getD i.toNat caZ
def bU (s:MaS) (i:Int):HomS:=s.hs.getD i.toNat a5e
def a6a (s:MaS) (i:Int) (k:CoS):MaS:=⟨s.ks.set i.toNat k,s.cs,s.hs,s.n,s.tr,s.odd⟩
def dN (s:MaS) (i:Int) (k:CaS):MaS:=⟨s.ks,s.cs.set i.toNat k,s.hs,s.n,s.tr,s.odd⟩
def dU (s:MaS) (i:Int) (k:HomS):MaS:=⟨s.ks,s.cs,s.hs.set i.toNat k,s.n,s.tr,s.odd⟩
def dZ (s:MaS) (n:Nets):MaS:=⟨s.ks,s.cs,s.hs,n,s.tr,s.odd⟩
def j9 (s:MaS) (b:Bool):MaS:=⟨s.ks,s.cs,s.hs,s.n,s.tr,if b then s.odd+1 else s.odd⟩
def gH (k:CoS):Bool:=qA k.l k.rs
def bV (k:CoS):Op3:=zV k.l k.rs
def sB (k:CoS) (n:Int):CoS:=⟨k.l,k.rs++[n],b1i k.tr k.rs.length⟩
def iO (k:CoS) (d:Int):CoS:=⟨k.l,k.rs,lS k.tr ((k.rs.length:Int)+d) true⟩
def lF (k:CoS):Int:=(k.l.length:Int)-k.rs.length
def nZ (s:MaS) (i:Int) (x:Op3) (n:Int):MaS:=⟨s.ks.set i.toNat (sB (cO s i) n),s.cs,s.hs,s.n,s.tr++[⟨i,(cO s i).rs.length,x,n⟩],s.odd⟩
def dX (c:Cfg) (s:MaS) (m:Msg):MaS:=dZ s (eJ c s.n m)
def s4 (c:Cfg) (s:MaS) (m:Msg):Bool:=decide (vK c s.n m=0)
def bB (c:Cfg) (x:Op3):Int:=bS c x.addr
def lG (c:Cfg) (s:MaS) (i:Int) (x:Op3):Bool:=decide (mW c (bI s i) x=0)
def jE (c:Cfg) (s:MaS) (i:Int) (x:Op3):MaS:=if lG c s i x then nZ (dN s i (dR c (bI s i) x)) i x (lN c (bI s i) x) else s
def d1s (c:Cfg) (s:MaS) (i:Int):MaS:=dX c (dN s i (dY c (bI s i))) (jG c i (bI s i))
def a7e (c:Cfg) (s:MaS) (i:Int) (x:Op3):MaS:=dX c (dN s i (bM c (bI s i) (bB c x) (bD x))) (d9 c i (bI s i) (bB c x) (bD x))
def nC (c:Cfg) (s:MaS) (i:Int) (x:Op3):Int:=dV c (bI s i) (bB c x) (bD x)
def eU (c:Cfg) (x:Op3):Int:=nK c (bB c x)
def a7f (c:Cfg) (s:MaS) (i:Int) (x:Op3) (w:Int):MaS:=
  if kZ c (bI s i) (eU c x) w then dX c (dN s i (d5 c (bI s i) (eU c x) w)) (mV c i (bI s i) (eU c x) w) else dN s i (d5 c (bI s i) (eU c x) w)
def dO (c:Cfg) (s:MaS) (i w:Int):Bool:=
  if 0<cB c s.n 2∧gD (bI s i)=true then s4 c s (jG c i (bI s i))
  else if gH (cO s i)=false then false
  else if (bV (cO s i)).kind=4 then decide ((bI s i).mis.length=0)
  else if lG c s i (bV (cO s i)) then true
  else if cB c s.n 0=0 then false
  else if nC c s i (bV (cO s i))=0 then s4 c s (d9 c i (bI s i) (bB c (bV (cO s i))) (bD (bV (cO s i))))
  else if nC c s i (bV (cO s i))=5 then decide (lM c (bI s i) (eU c (bV (cO s i))) (w.tmod c.ways)=0)&& (!kZ c (bI s i) (eU c (bV (cO s i))) (w.tmod c.ways)|| s4 c s (mV c i (bI s i) (eU c (bV (cO s i))) (w.tmod c.ways)))
  else false
def c8 (c:Cfg) (s:MaS) (i w:Int):MaS:=
  if 0<cB c s.n 2∧gD (bI s i)=true then d1s c s i
  else if gH (cO s i)=false then s
  else if (bV (cO s i)).kind=4 then (if (bI s i).mis.length=0 then nZ s i (bV (cO s i)) 0 else s)
  else if lG c s i (bV (cO s i)) then jE c s i (bV (cO s i))
  else if cB c s.n 0=0 then s
  else if nC c s i (bV (cO s i))=0 then a7e c s i (bV (cO s i))
  else if nC c s i (bV (cO s i))=5 then a7f c s i (bV (cO s i)) (w.tmod c.ways)
  else s
def dD (c:Cfg) (s:MaS) (m:Msg):MaS:=
  if dP c m.dst (bI s m.dst) m then dX c (j9 (dN s m.dst (aS c m.dst (bI s m.dst) m)) (decide (bO c m.dst (bI s m.dst) m≠0))) (eF c m.dst (bI s m.dst) m)
  else j9 (dN s m.dst (aS c m.dst (bI s m.dst) m)) (decide (bO c m.dst (bI s m.dst) m≠0))
def i3 (c:Cfg) (s:MaS) (m:Msg):MaS:=
  if gH (cO s m.dst)=true∧(bV (cO s m.dst)).kind≠4∧bB c (bV (cO s m.dst))=m.line then jE c s m.dst (bV (cO s m.dst)) else s
def yL (c:Cfg) (s:MaS) (m:Msg):MaS:=j9 (dU s m.dst (fI c m.dst (bU s m.dst) m)) (decide (iK c m.dst (bU s m.dst) m≠0))
def fQ (c:Cfg) (s:MaS) (k i:Int):Bool:=
  if gN s.n k i=false∨(k=1∧cB c s.n 2=0) then false
  else if k=0 then decide (lC c (aG s.n 0 i).dst (bU s (aG s.n 0 i).dst) (aG s.n 0 i)=0)
  else true
def d8 (c:Cfg) (s:MaS) (k i:Int):MaS:=
  if gN s.n k i=false∨(k=1∧cB c s.n 2=0) then s
  else if k=0 then (if lC c (aG s.n 0 i).dst (bU s (aG s.n 0 i).dst) (aG s.n 0 i)=0 then dZ (dU s (aG s.n 0 i).dst (iZ c (aG s.n 0 i).dst (bU s (aG s.n 0 i).dst) (aG s.n 0 i))) (aH s.n 0 i) else s)
  else if k=1 then dD c (dZ s (aH s.n 1 i)) (aG s.n 1 i)
  else if (aG s.n k i).kind=11 then yL c (dZ s (aH s.n k i)) (aG s.n k i)
  else i3 c (dD c (dZ s (aH s.n k i)) (aG s.n k i)) (aG s.n k i)
def d1v (c:Cfg) (s:MaS):L3:=(cB c s.n 0,cB c s.n 1,cB c s.n 2)
def kA (c:Cfg) (s:MaS) (i j:Int):Bool:=mT (bU s i) j (d1v c s)
def c7 (c:Cfg) (s:MaS) (i j:Int):MaS:=
  if e7 (bU s i) j (d1v c s) then dX c (dU s i (cE c (bU s i) j (d1v c s))) (fZ (bU s i) j (d1v c s)) else dU s i (cE c (bU s i) j (d1v c s))
def xT (k:CoS) (d:Int):Bool:=iY k.l k.rs k.tr d
def iF (k:CoS) (d:Int):Op3:=rF k.l k.rs k.tr d
def jI (c:Cfg) (s:MaS) (i d:Int):Bool:=
  if xT (cO s i) d=false∨cB c s.n 0=0 then false
  else if nC c s i (iF (cO s i) d)=0 then s4 c s (d9 c i (bI s i) (bB c (iF (cO s i) d)) (bD (iF (cO s i) d)))
  else false
def eE (c:Cfg) (s:MaS) (i d:Int):MaS:=
  if xT (cO s i) d=false∨cB c s.n 0=0 then s
  else if nC c s i (iF (cO s i) d)=0 then a7e c (a6a s i (iO (cO s i) d)) i (iF (cO s i) d)
  else s
structure Pk where
  kind:Int
  a:Int
  b:Int
def inN (n:Int) (k:Nat):Bool:=decide (0≤n∧n<k)
def bN (c:Cfg) (s:MaS) (p:Pk):Bool:=
  if p.a<0∨p.b<0 then false
  else if p.kind=1 then fQ c s p.a p.b
  else if p.kind=2∧inN p.a s.hs.length=true then kA c s p.a p.b
  else if p.kind=0∧inN p.a s.ks.length=true then dO c s p.a p.b
  else if p.kind=3∧inN p.a s.ks.length=true then jI c s p.a (1+p.b.tmod 4)
  else false
def bY (c:Cfg) (s:MaS) (p:Pk):MaS:=
  if p.a<0∨p.b<0 then s
  else if p.kind=1 then d8 c s p.a p.b
  else if p.kind=2∧inN p.a s.hs.length=true then c7 c s p.a p.b
  else if p.kind=0∧inN p.a s.ks.length=true then c8 c s p.a p.b
  else if p.kind=3∧inN p.a s.ks.length=true then eE c s p.a (1+p.b.tmod 4)
  else s
abbrev qE (c:Cfg):CaS:=⟨List.replicate (c.sets*c.ways).toNat .zero,[],[]⟩
def bK (c:Cfg) (ps:List (List Op3)):MaS:=⟨ps.map fun l=>⟨l,[],[]⟩,ps.map fun _=>qE c,(List.range c.homes.toNat).map fun (i:Nat)=>qZ c (i:Int),.no,[],0⟩
def nE (c:Cfg) (ps:List (List Op3)):Bool:=aF c&& decide ((ps.length:Int)=c.cores)&& ps.all (lW c)
def bR (s:MaS):Bool:=decide (nY s.n=[])&& s.ks.all (fun k=>decide (lF k=0))&& s.cs.all (fun a=>decide (a.mis=[]∧a.buf=[]))&& s.hs.all fun h=>decide (h.q.length=0)
end
section
abbrev c9w (m:Miss):Int:=m.line
abbrev d4b (m:WbE):Int:=m.line
def f2i (m:Miss):AMs Words:=⟨m.kind,m.needs,m.got,m.own,m.words,m.granted,m.owes⟩
def yB (k:CaS) (x:Int):Option (AMs Words):=(fk c9w k.mis x).map f2i
def b4j (k:CaS) (x:Int):Option (Words×Bool):=(fk d4b k.buf x).map fun e=>(e.words,e.live)
abbrev a0o (c:Cfg) (k:CaS) (x:Int):Int:=z6 c k.ways x
abbrev b6v (c:Cfg) (k:CaS) (x:Int):Words:=b3s c k.ways x
section
variable {c:Cfg} {n:Nat} {k:CaS} {line:Int}
theorem d8j {l:List Miss} (h:dB l line=true):∃ i,∃ hi:i<l.length,rJ l line=i∧cV l line=l[i]∧l[i].line=line∧∀ j (hj:j<l.length),j<i→l[j].line≠l[i].line:=by
  obtain ⟨i,hi,h1,h2,h3⟩:=d8x (f:=c9w) (l:=l) (x:=line) (of_decide_eq_true h:0≤rJ l line)
  refine ⟨i,hi,h1,?_,h2,h3⟩
  unfold cV rJ
  rw [h1];simp [hi]
theorem d8k {l:List Miss} (h:dB l line=true):fk c9w l line=some (cV l line):=by
  obtain ⟨i,hi,e1,e2,e3,e4⟩:=d8j h
  rw [e2,←e3];exact b7d (f:=c9w) hi e4
theorem b1k {l:List Miss} (h:dB l line=false):fk c9w l line=none:=d8y (f:=c9w) (l:=l) (x:=line) (of_decide_eq_false h:¬0≤rJ l line)
theorem e8o {l:List Miss} {m:Miss} (h:fk c9w l line=some m):dB l line=true∧cV l line=m:=by
  cases e:dB l line with
  |false=>rw [b1k e] at h;cases h
  |true=>rw [d8k e] at h;cases h;exact ⟨rfl,rfl⟩
theorem e2h {l:List Miss} {a:Miss} (h:dB l line=true) (ha:a.line=(cV l line).line) (x:Int):fk c9w (l.set (rJ l line).toNat a) x=if x=line then some a else fk c9w l x:=by
  obtain ⟨i,hi,e1,e2,e3,e4⟩:=d8j h
  rw [e1,Int.toNat_natCast]
  have:=d8w (f:=c9w) (a:=a) hi (by show a.line=l[i].line;rw [ha,e2]) e4 x
  have e3':c9w l[i]=line:=e3
  rw [this,e3']
theorem c5g {l:List WbE} (h:lJ l line=true):∃ i,∃ hi:i<l.length,f9 l line=i∧uO l line=l[i]∧l[i].line=line∧∀ j (hj:j<l.length),j<i→l[j].line≠l[i].line:=by
  obtain ⟨i,hi,h1,h2,h3⟩:=d8x (f:=d4b) (l:=l) (x:=line) (of_decide_eq_true h:0≤f9 l line)
  refine ⟨i,hi,h1,?_,h2,h3⟩
  unfold uO f9
  rw [h1];simp [hi]
theorem e6v {l:List WbE} (h:lJ l line=true):fk d4b l line=some (uO l line):=by
  obtain ⟨i,hi,e1,e2,e3,e4⟩:=c5g h
  rw [e2,←e3];exact b7d (f:=d4b) hi e4
theorem c2v {l:List WbE} (h:lJ l line=false):fk d4b l line=none:=d8y (f:=d4b) (l:=l) (x:=line) (of_decide_eq_false h:¬0≤f9 l line)
theorem f2j {l:List WbE} {m:WbE} (h:fk d4b l line=some m):lJ l line=true∧uO l line=m:=by
  cases e:lJ l line with
  |false=>rw [c2v e] at h;cases h
  |true=>rw [e6v e] at h;cases h;exact ⟨rfl,rfl⟩
structure CaEv (c:Cfg) (k k':CaS) (st:Int→Int) (wd:Int→Words) (ms:Int→Option (AMs Words)) (bf:Int→Option (Words×Bool)):Prop where
  st:∀ x,a0o c k' x=st x
  wd:∀ x,a0o c k' x≠0→b6v c k' x=wd x
  ms:∀ x,yB k' x=ms x
  bf:∀ x,b4j k' x=bf x
theorem e8p {kind:Int} (h:lD c n k) (he:dV c k line kind=0) :
    CaEv c k (bM c k line kind) (a0o c k) (b6v c k) (fun x=>if x=line then some ⟨kind,-1,0,0,.zero,false,false⟩ else yB k x) (b4j k)∧yB k line=none∧b4j k line=none∧(kind=1∧a0o c k line=0∨kind=2∧a0o c k line≠2∧a0o c k line≠4):=by
  have hk:bM c k line kind=⟨if jA c k.ways line then fS c k.ways line true else kR c k.ways line (cZ c k.ways line),jS c.mshrs k.mis line kind,k.buf⟩:=by unfold bM;rw [if_pos he]
  have he0:=he
  unfold dV at he
  split at he
  · cases he
  · rename_i g1
    split at he
    · cases he
    · rename_i g2
      split at he
      · cases he
      · rename_i g3
        split at he
        · cases he
        · rename_i g4
          have m0:dB k.mis line=false:=by cases e:dB k.mis line with|false=>rfl|true=>exact absurd (.inl e) g2
          have b0:lJ k.buf line=false:=by cases e:lJ k.buf line with|false=>rfl|true=>exact absurd (.inr (.inl e)) g2
          have c0:mU c k line kind=false:=by cases e:mU c k line kind with|false=>rfl|true=>exact absurd (.inr (.inr e)) g2
          have hkd:kind=1∨kind=2:=by omega
          have ho:jS c.mshrs k.mis line kind=k.mis++[⟨line,kind,-1,0,0,.zero,false,false⟩]:=by
            have e0:q9 c.mshrs k.mis line kind=0:=by
              unfold q9
              rw [if_neg (om),if_neg (by rw [m0];simp),if_neg g3]
            unfold jS
            rw [if_pos e0]
          have hways:∀ x,z6 c (bM c k line kind).ways x=z6 c k.ways x∧(z6 c k.ways x≠0→b3s c (bM c k line kind).ways x=b3s c k.ways x):=by
            rw [hk]
            dsimp only
            split
            · exact fun x=>a8i h.1.1 x
            · rename_i gf
              intro x
              have hv:vw c k.ways line=none:=by
                have:=qU (c:=c) (l:=k.ways) (line:=line)
                cases e:vw c k.ways line with
                |none=>rfl
                |some y=>rw [e] at this;exact absurd this gf
              have hf:¬cZ c k.ways line<0:=fun g=>g4 ⟨by simpa using gf,g⟩
              exact ⟨(d8z h.1.1 hf hv x).1,fun _=>(d8z h.1.1 hf hv x).2⟩
          refine ⟨⟨fun x=>(hways x).1,fun x hx=>(hways x).2 (by rw [←(hways x).1];exact hx),fun x=>?_,fun x=>by rw [hk];rfl⟩,by unfold yB;rw [b1k m0];rfl,by unfold b4j;rw [c2v b0];rfl,?_⟩
          · unfold yB
            rw [hk]
            dsimp only
            rw [ho,yV,u8,d8v]
            by_cases hx:x=line
            · subst hx;rw [if_pos rfl,b1k m0,if_pos rfl];rfl
            · rw [if_neg hx,if_neg (Ne.symm hx)];cases fk c9w k.mis x<;>rfl
          · unfold mU at c0
            rcases hkd with rfl|rfl
            · left
              rw [if_pos rfl] at c0
              exact ⟨rfl,by have:=of_decide_eq_false c0;unfold a0o z6;omega⟩
            · right
              rw [if_neg (om)] at c0
              have:=of_decide_eq_false c0
              exact ⟨rfl,by unfold a0o z6;omega,by unfold a0o z6;omega⟩
theorem e8q {l:List WbE} {a:WbE} (h:lJ l line=true) (ha:a.line=(uO l line).line) (x:Int):fk d4b (l.set (f9 l line).toNat a) x=if x=line then some a else fk d4b l x:=by
  obtain ⟨i,hi,e1,e2,e3,e4⟩:=c5g h
  rw [e1,Int.toNat_natCast]
  have:=d8w (f:=d4b) (a:=a) hi (by show a.line=l[i].line;rw [ha,e2]) e4 x
  have e3':d4b l[i]=line:=e3
  rw [this,e3']
theorem a9y {w:Way} (h:w.st≠0):bC w=true:=by unfold bC;simp [h]
theorem f2k {sw w:Int} (h:lD c n k) (he:lM c k sw w=0):∃ y:Way,y=oH c k.ways sw w∧a0o c k y.line=y.st∧b6v c k y.line=y.words∧y.st≠0∧yB k y.line=none∧
    CaEv c k (d5 c k sw w) (fun x=>if x=y.line then 0 else a0o c k x) (b6v c k) (yB k) (fun x=>if x=y.line∧2≤y.st then some (y.words,true) else b4j k x):=by
  refine ⟨_,rfl,?_⟩
  have hk:d5 c k sw w=⟨fD c k.ways (oH c k.ways sw w).line 0 .zero,k.mis,if 2≤(oH c k.ways sw w).st then mD c.writebacks k.buf (oH c k.ways sw w).line (oH c k.ways sw w).words else k.buf⟩:=by unfold d5;rw [if_pos he]
  rw [hk]
  unfold lM at he
  split at he
  · cases he
  · rename_i g1
    split at he
    · cases he
    · rename_i g2
      split at he
      · cases he
      · rename_i g3
        have hst:(oH c k.ways sw w).st≠0:=fun e=>g1 (.inr e)
        have hv:=b7o h.1.1 (vH hst) (a9y hst)
        have hlk:(oH c k.ways sw w).lk=false:=by simpa using g2
        have hm0:dB k.mis (oH c k.ways sw w).line=false:=by
          cases e:dB k.mis (oH c k.ways sw w).line with
          |false=>rfl
          |true=>
           obtain ⟨w1,h1,h2⟩:=h.2.1.ml _ (x8.1 e)
           rw [hv] at h1;cases h1;rw [hlk] at h2;cases h2
        have hs:pE c k.ways (oH c k.ways sw w).line 0 .zero=0:=a2q (by rw [hv];rfl) (om) (tH c)
        refine ⟨by unfold a0o;rw [rK,hv];rfl,by unfold b6v;rw [yW,hv];rfl,hst,by unfold yB;rw [b1k hm0];rfl,⟨fun x=>(pN h.1.1 hs x).1,fun x hx=>?_,fun x=>rfl,fun x=>?_⟩⟩
        · have e1:=(pN h.1.1 hs x).2 hx
          have e0:=(pN h.1.1 hs x).1
          refine Eq.trans e1 ?_
          by_cases hxl:x=(oH c k.ways sw w).line
          · rw [if_pos hxl] at e0;exact absurd e0 hx
          · rw [if_neg hxl]
        · unfold b4j
          dsimp only
          by_cases h2:2≤(oH c k.ways sw w).st
          · rw [if_pos h2]
            have hp:pZ c.writebacks k.buf (oH c k.ways sw w).line=0:=Decidable.byContradiction fun e=>g3 ⟨h2,e⟩
            unfold pZ at hp
            split at hp
            · cases hp
            · rename_i p1
              split at hp
              · cases hp
              · rename_i p2
                unfold mD
                rw [if_neg p1,if_neg p2,yV,u8,d8v]
                by_cases hx:x=(oH c k.ways sw w).line
                · rw [hx,c2v (by simpa using p1),if_pos rfl,if_pos ⟨rfl,h2⟩];rfl
                · rw [if_neg (Ne.symm hx),if_neg (fun g=>hx g.1)]
                  cases fk d4b k.buf x<;>rfl
          · rw [if_neg h2,if_neg (fun g=>h2 g.2)]
theorem e2i {st:Int} {g:Bool} (h:lD c n k) (hst:0≤st∧st≤4) (he:iM c k line=0) :
    (2≤a0o c k line∧mM c k line=b6v c k line∧CaEv c k (cQ c k line st g) (fun x=>if x=line then st else a0o c k x) (b6v c k) (yB k) (b4j k))
    ∨(a0o c k line<2∧b4j k line=some (mM c k line,true)∧CaEv c k (cQ c k line st g) (a0o c k) (b6v c k) (yB k) (fun x=>if x=line∧g=true then some (mM c k line,false) else b4j k x)):=by
  unfold iM at he
  unfold mM cQ
  by_cases h2:2≤(aP c k.ways line).st
  · left
    rw [if_pos h2,if_pos h2]
    obtain ⟨y,hv,_⟩:=a3m (c:=c) (l:=k.ways) (line:=line) (by show (aP c k.ways line).st≠0;omega)
    have hs:pE c k.ways line st (aP c k.ways line).words=0:=a2q (by rw [hv];rfl) hst (by rw [(a2u hv).2.2.2.2];exact (h.2.1.wd _ _ hv).1)
    refine ⟨h2,rfl,⟨fun x=>(pN h.1.1 hs x).1,fun x hx=>?_,fun x=>rfl,fun x=>rfl⟩⟩
    refine Eq.trans ((pN h.1.1 hs x).2 hx) ?_
    by_cases hxl:x=line
    · rw [if_pos hxl,hxl];rfl
    · rw [if_neg hxl]
  · right
    rw [if_neg h2] at he
    rw [if_neg h2,if_neg h2]
    have hw:lK k.buf line=0:=Decidable.byContradiction fun e=>by rw [if_neg e] at he;cases he
    unfold lK at hw
    split at hw
    · rename_i b1
      split at hw
      · rename_i b2
        have hb:fk d4b k.buf line=some (uO k.buf line):=e6v b1
        have hw2:mQ k.buf line=(uO k.buf line).words:=by unfold mQ;rw [b1,b2];rfl
        refine ⟨by show (aP c k.ways line).st<2;omega,by unfold b4j;rw [hb,hw2,Option.map_some,b2],?_⟩
        cases g with
        |false=>exact ⟨fun x=>rfl,fun x _=>rfl,fun x=>rfl,fun x=>(if_neg (by simp)).symm⟩
        |true=>
         refine ⟨fun x=>rfl,fun x _=>rfl,fun x=>rfl,fun x=>?_⟩
         show (fk d4b (kH k.buf line) x).map _=_
         unfold kH
         rw [if_pos (by rw [b1,b2];rfl),e8q (a:=⟨(uO k.buf line).line,(uO k.buf line).words,false⟩) b1 rfl]
         by_cases hx:x=line
         · rw [if_pos hx,if_pos ⟨hx,rfl⟩,hw2];rfl
         · rw [if_neg hx,if_neg (fun e=>hx e.1)];rfl
      · cases hw
    · cases hw
theorem e2j (h:lD c n k) (hs:a0o c k line=1):CaEv c k (i5 c k line) (fun x=>if x=line then 0 else a0o c k x) (b6v c k) (yB k) (b4j k):=by
  unfold i5
  have hs':(aP c k.ways line).st=1:=hs
  rw [if_pos hs']
  obtain ⟨y,hv,_⟩:=a3m (c:=c) (l:=k.ways) (line:=line) (by show (aP c k.ways line).st≠0;omega)
  have he:pE c k.ways line 0 .zero=0:=a2q (by rw [hv];rfl) (om) (tH c)
  refine ⟨fun x=>(pN h.1.1 he x).1,fun x hx=>?_,fun x=>rfl,fun x=>rfl⟩
  have e0:=(pN h.1.1 he x).1
  refine Eq.trans ((pN h.1.1 he x).2 hx) ?_
  by_cases hxl:x=line
  · rw [if_pos hxl] at e0;exact absurd e0 hx
  · rw [if_neg hxl]
theorem e2k (hs:a0o c k line≠1):i5 c k line=k:=by
  unfold i5
  rw [if_neg (show ¬(aP c k.ways line).st=1 from hs)]
theorem e2l (h:lD c n k):CaEv c k (b2g k line) (a0o c k) (b6v c k) (yB k) (fun x=>if x=line then none else b4j k x):=by
  refine ⟨fun x=>rfl,fun x _=>rfl,fun x=>rfl,fun x=>?_⟩
  show (fk d4b (mR k.buf line) x).map _=_
  unfold mR
  split
  · rename_i b1
    obtain ⟨i,hi,e1,e2,e3,e4⟩:=c5g b1
    rw [e1,Int.toNat_natCast,c0r (f:=d4b) hi h.2.1.bd,show d4b k.buf[i]=line from e3]
    by_cases hx:x=line
    · rw [if_pos hx,if_pos hx];rfl
    · rw [if_neg hx,if_neg hx];rfl
  · rename_i b1
    by_cases hx:x=line
    · rw [if_pos hx,hx,c2v (by simpa using b1)];rfl
    · rw [if_neg hx];rfl
theorem b1l {l:List Miss} {b:List WbE} {w:List Way} {m:AMs Words} (h:yB ⟨w,l,b⟩ line=some m):dB l line=true∧f2i (cV l line)=m:=by
  unfold yB at h
  dsimp only at h
  cases e:fk c9w l line with
  |none=>rw [e] at h;cases h
  |some a=>
   rw [e] at h
   obtain ⟨g1,g2⟩:=e8o e
   rw [g2]
   exact ⟨g1,by simpa using h⟩
theorem a7g {a:Miss} (hin:dB k.mis line=true) (ha:a.line=(cV k.mis line).line) (x:Int):yB ⟨k.ways,k.mis.set (rJ k.mis line).toNat a,k.buf⟩ x=if x=line then some (f2i a) else yB k x:=by
  unfold yB
  dsimp only
  rw [e2h hin ha]
  by_cases hx:x=line
  · rw [if_pos hx,if_pos hx];rfl
  · rw [if_neg hx,if_neg hx]
theorem a9z {acks own:Int} {w:Words} {m:AMs Words} (hm:yB k line=some m) (hn:m.needs= -1) (hg:m.got≤acks) (hk:(m.kind=2∧own=4)∨(m.kind=1∧acks=0∧(own=1∨own=2))) :
    iV k.mis line acks own=0∧CaEv c k ⟨k.ways,iW k.mis line acks own w,k.buf⟩ (a0o c k) (b6v c k) (fun x=>if x=line then some { m with needs:=acks,own:=own,w:=w} else yB k x) (b4j k):=by
  obtain ⟨hin,rfl⟩:=b1l (w:=k.ways) (b:=k.buf) hm
  have he:iV k.mis line acks own=0:=by
    unfold iV a8e
    rw [if_pos hin,if_pos]
    have h1:(cV k.mis line).needs= -1:=hn
    have h2:(cV k.mis line).got≤acks:=hg
    rw [decide_eq_true (And.intro h1 h2),Bool.true_and]
    rcases hk with ⟨h3,h4⟩|⟨h3,h4,h5⟩
    · rw [if_pos (show (cV k.mis line).kind=2 from h3)];exact decide_eq_true h4
    · rw [if_neg (by have:(cV k.mis line).kind=1:=h3;omega)];exact decide_eq_true ⟨h4,h5⟩
  refine ⟨he,fun x=>rfl,fun x _=>rfl,fun x=>?_,fun x=>rfl⟩
  unfold iW
  rw [if_pos he]
  exact a7g (a:={ cV k.mis line with needs:=acks,own:=own,words:=w}) hin rfl x
theorem b3f {acks:Int} {m:AMs Words} (hm:yB k line=some m) (hn:m.needs= -1) (hg:m.got≤acks) (hk:m.kind=2) :
    iV k.mis line acks 4=0∧CaEv c k ⟨k.ways,gL k.mis line acks,k.buf⟩ (a0o c k) (b6v c k) (fun x=>if x=line then some { m with needs:=acks,own:=4,w:= .zero,gr:=true} else yB k x) (b4j k):=by
  have he:=(a9z (c:=c) (w:= .zero) (own:=4) hm hn hg (.inl ⟨hk,rfl⟩)).1
  obtain ⟨hin,rfl⟩:=b1l (w:=k.ways) (b:=k.buf) hm
  refine ⟨he,fun x=>rfl,fun x _=>rfl,fun x=>?_,fun x=>rfl⟩
  unfold gL
  rw [if_pos he]
  exact a7g (a:={ cV k.mis line with needs:=acks,own:=4,words:= .zero,granted:=true}) hin rfl x
theorem c6s {m:AMs Words} (hm:yB k line=some m) (hk:m.kind≠1) (hn:m.needs≠m.got) :
    xD k.mis line=0∧CaEv c k ⟨k.ways,nS k.mis line,k.buf⟩ (a0o c k) (b6v c k) (fun x=>if x=line then some { m with got:=m.got+1} else yB k x) (b4j k):=by
  obtain ⟨hin,rfl⟩:=b1l (w:=k.ways) (b:=k.buf) hm
  have he:xD k.mis line=0:=by
    unfold xD
    rw [if_pos hin,if_neg]
    rintro (g|g)
    · exact hk g
    · exact hn g
  refine ⟨he,fun x=>rfl,fun x _=>rfl,fun x=>?_,fun x=>rfl⟩
  unfold nS
  rw [if_pos he]
  exact a7g (a:={ cV k.mis line with got:=(cV k.mis line).got+1}) hin rfl x
theorem c6t {m:AMs Words} (h:lD c n k) (hm:yB k line=some m) (h1:m.needs=m.got) (h2:m.ow=false) (h3:0≤m.own∧m.own≤4) :
    CaEv c k (cC c k line) (fun x=>if x=line then m.own else a0o c k x) (fun x=>if x=line then (if m.gr=true then b6v c k line else m.w) else b6v c k x) (fun x=>if x=line then some { m with ow:=true} else yB k x) (b4j k):=by
  obtain ⟨hin,rfl⟩:=b1l (w:=k.ways) (b:=k.buf) hm
  have hb:yT k.mis line=true:=by
    unfold yT
    have g2:(cV k.mis line).owes=false:=h2
    rw [hin,g2,decide_eq_true (show (cV k.mis line).needs=(cV k.mis line).got from h1)];rfl
  have hM:vU k.mis line=cV k.mis line:=by unfold vU;rw [if_pos hb]
  have hk:cC c k line=⟨fD c k.ways line (cV k.mis line).own (if (cV k.mis line).granted=true then (aP c k.ways line).words else (cV k.mis line).words),sO k.mis line,k.buf⟩:=by unfold cC;rw [if_pos hb,hM]
  obtain ⟨y,hv,_⟩:=h.2.1.ml line (x8.1 hin)
  have hs:pE c k.ways line (cV k.mis line).own (if (cV k.mis line).granted=true then (aP c k.ways line).words else (cV k.mis line).words)=0:=by
    refine a2q (by rw [hv];rfl) h3 ?_
    split
    · exact b0o (a0z h.2.2.1)
    · exact b0o (a6z h.2.2.2.1)
  rw [hk]
  refine ⟨fun x=>(pN h.1.1 hs x).1,fun x hx=>(pN h.1.1 hs x).2 hx,fun x=>?_,fun x=>rfl⟩
  have:sO k.mis line=k.mis.set (rJ k.mis line).toNat { cV k.mis line with owes:=true}:=by unfold sO;rw [if_pos hb]
  show yB ⟨_,sO k.mis line,_⟩ x=_
  rw [this]
  exact a7g (a:={ cV k.mis line with owes:=true}) hin rfl x
theorem a3h {m:AMs Words} (hm:yB k line=some m) (h1:m.needs≠m.got∨m.ow=true):cC c k line=k:=by
  obtain ⟨hin,rfl⟩:=b1l (w:=k.ways) (b:=k.buf) hm
  have hb:yT k.mis line=false:=by
    unfold yT
    rcases h1 with g|g
    · rw [decide_eq_false (show ¬(cV k.mis line).needs=(cV k.mis line).got from g),Bool.and_false]
    · rw [show (cV k.mis line).owes=true from g,Bool.not_true,Bool.and_false,Bool.false_and]
  unfold cC
  rw [hb];rfl
theorem e8r (h:lD c n k) (hb:gD k=true):(∃ m,yB k (cG k)=some m∧m.ow=true)∧CaEv c k (dY c k) (a0o c k) (b6v c k) (fun x=>if x=cG k then none else yB k x) (b4j k):=by
  obtain ⟨he,i,hi,e1,e2,e3⟩:=a3s h.2.1.nd hb
  have hin:dB k.mis (cG k)=true:=decide_eq_true (by rw [e1];omega)
  have hat:cV k.mis (cG k)=k.mis[i]:=by unfold cV;rw [e1,Int.toNat_natCast,List.getD_eq_getElem?_getD,List.getElem?_eq_getElem hi];rfl
  have hk:dY c k=⟨fS c k.ways (cG k) false,i4 k.mis (cG k),k.buf⟩:=by unfold dY;rw [if_pos hb]
  refine ⟨⟨f2i (cV k.mis (cG k)),by unfold yB;rw [d8k hin];rfl,by rw [hat];exact e3⟩,?_⟩
  rw [hk]
  refine ⟨fun x=>(a8i h.1.1 x).1,fun x hx=>(a8i h.1.1 x).2 (by rw [←(a8i (lk:=false) (line:=cG k) h.1.1 x).1];exact hx),fun x=>?_,fun x=>rfl⟩
  show (fk c9w (i4 k.mis (cG k)) x).map f2i=_
  unfold i4
  rw [if_pos he,e1,Int.toNat_natCast,c0r (f:=c9w) hi h.2.1.nd,show c9w k.mis[i]=cG k from e2.symm]
  by_cases hx:x=cG k
  · rw [if_pos hx,if_pos hx];rfl
  · rw [if_neg hx,if_neg hx];rfl
theorem f2l {x:Op3} (h:lD c n k) (he:mW c k x=0) :
    (x.kind=1∧dR c k x=k∧a0o c k (bS c x.addr)≠0∧d7f c x=0)
    ∨(x.kind≠1∧(a0o c k (bS c x.addr)=2∨a0o c k (bS c x.addr)=4)∧d7f c x=0
     ∧CaEv c k (dR c k x) (fun y=>if y=bS c x.addr then 4 else a0o c k y) (fun y=>if y=bS c x.addr then d2d c (b6v c k (bS c x.addr)) x else b6v c k y) (yB k) (b4j k)):=by
  have he0:=he
  unfold mW at he
  split at he
  · rename_i ha
    split at he
    · rename_i hc
      unfold mU bD at hc
      by_cases hk:x.kind=1
      · left
        rw [if_pos hk,if_pos rfl] at hc
        exact ⟨hk,by unfold dR;rw [if_neg (fun g=>g.2 hk)],of_decide_eq_true hc,ha⟩
      · right
        rw [if_neg hk,if_neg (om)] at hc
        have hc:=of_decide_eq_true hc
        obtain ⟨y,hv,_⟩:=a3m (c:=c) (l:=k.ways) (line:=bS c x.addr) (by show (aP c k.ways (bS c x.addr)).st≠0;omega)
        have hs:pE c k.ways (bS c x.addr) 4 (d2d c (aP c k.ways (bS c x.addr)).words x)=0:=a2q (by rw [hv];rfl) (om) (b0o (f3u (a0z h.2.2.1)))
        have hK:dR c k x=⟨fD c k.ways (bS c x.addr) 4 (d2d c (aP c k.ways (bS c x.addr)).words x),k.mis,k.buf⟩:=by unfold dR;rw [if_pos ⟨he0,hk⟩]
        refine ⟨hk,hc,ha,?_⟩
        rw [hK]
        exact ⟨fun y=>(pN h.1.1 hs y).1,fun y hy=>(pN h.1.1 hs y).2 hy,fun y=>rfl,fun y=>rfl⟩
    · cases he
  · rename_i ha;exact absurd he ha
end
end
section
def iL (c:Cfg) (l:List Com):List Int:=l.foldl (fun ms x=>kQ ms x.op) (List.replicate (c.words*c.lines).toNat 0)
def d1w (c:Cfg) (l:List Com) (addr:Int):Int:=if aF c then zP (iL c l) addr else 0
theorem b3g {c:Cfg} {l:List Com} {i:Nat} (hi:i<l.length):iL c (l.take (i+1))=kQ (iL c (l.take i)) l[i].op:=by
  unfold iL
  rw [List.take_add_one,List.getElem?_eq_getElem hi,Option.toList_some,List.foldl_append]
  rfl
theorem d4c (c:Cfg) (l:List Com):(iL c l).length=(c.words*c.lines).toNat:=by
  have:∀ (l:List Com) (ms:List Int),(l.foldl (fun ms x=>kQ ms x.op) ms).length=ms.length:=by
    intro l
    induction l with
    |nil=>intro ms;rfl
    |cons a r ih=>intro ms;rw [List.foldl_cons,ih,c4o]
  unfold iL;rw [this,List.length_replicate]
def yM (l:List Com) (i:Nat) (k:Int):Nat:=(l.take i).countP fun y=>decide (y.core=k)
def zY (c:Cfg) (ps:List (List Op3)) (l:List Com) (i:Nat):Bool:=match l[i]? with
  |none=>false
  |some x=>decide (0≤x.core∧x.core<c.cores)&& decide (x.pos=yM l i x.core)&& decide (x.pos<((ps.getD x.core.toNat []).length:Int))&& decide (x.op=(ps.getD x.core.toNat []).getD x.pos.toNat .zero)
     && decide (pD (iL c (l.take i)) x.op=0)&& decide (nD (iL c (l.take i)) x.op=x.res)
def c0b (c:Cfg) (ps:List (List Op3)) (l:List Com):Nat:=(List.range l.length).findIdx fun i=> !zY c ps l i
def a7h (c:Cfg) (ps:List (List Op3)):Bool:=aF c&& decide ((ps.length:Int)=c.cores)
def d1x (c:Cfg) (ps:List (List Op3)) (l:List Com):Int:=if a7h c ps then (c0b c ps l:Int) else 0
def d1y (c:Cfg) (ps:List (List Op3)) (l:List Com):Int:=if a7h c ps then (if c0b c ps l=l.length then 0 else 7) else 1
theorem e2m {c:Cfg} {ps:List (List Op3)} {l:List Com} {i:Nat} (hi:i<l.length) (h:∀ j,j<i→zY c ps l j=true) (h2:zY c ps l i=false):c0b c ps l=i:=by
  unfold c0b
  rw [List.findIdx_eq (by simpa using hi)]
  exact ⟨by simpa using h2,fun j hj=>by simpa using h j hj⟩
theorem c0c {c:Cfg} {ps:List (List Op3)} {l:List Com} (h:∀ j,j<l.length→zY c ps l j=true):c0b c ps l=l.length:=by
  unfold c0b
  rw [List.findIdx_eq_length.2,List.length_range]
  intro x hx
  have:=h x (List.mem_range.1 hx)
  simp [this]
theorem b3h {l:List Com} {i:Nat} (hi:i<l.length) (k:Int):yM l (i+1) k=yM l i k+if l[i].core=k then 1 else 0:=by
  unfold yM
  rw [List.take_add_one,List.getElem?_eq_getElem hi,Option.toList_some,List.countP_append]
  simp [List.countP_cons]
theorem e2n (l:List Com) (i:Nat) (k:Int):yM l i k≤i:=by
  unfold yM
  exact Nat.le_trans List.countP_le_length (by rw [List.length_take];omega)
def e6w (n:Nat) (l:List Com) (i:Nat):List Int:=(List.range n).map fun (k:Nat)=>(yM l i (k:Int):Int)
theorem d4d (n:Nat) (l:List Com):e6w n l 0=List.replicate n 0:=by
  unfold e6w
  apply List.ext_getElem (by simp)
  intro j h1 h2
  simp [yM]
theorem d4e {n:Nat} {l:List Com} {i k:Nat} (hi:i<l.length) (hk:k<n) (h:l[i].core=k):e6w n l (i+1)=(e6w n l i).set k ((yM l i (k:Int):Int)+1):=by
  unfold e6w
  apply List.ext_getElem (by simp)
  intro j h1 h2
  rw [List.getElem_set]
  simp only [List.getElem_map,List.getElem_range]
  rw [b3h hi]
  by_cases e:k=j
  · subst e;rw [if_pos rfl,if_pos h];simp
  · rw [if_neg e,if_neg (by rw [h];omega)];simp
end
end Go.Sx
