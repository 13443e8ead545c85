/- Lg, MaEn, MaRd, FaM, FaE: several of my texts as one. My own work. -/
import Derived.Test.YtjihlpjnebdiiaaGreatZay
set_option linter.unusedVariables false
set_option linter.unusedSectionVars false
set_option linter.unusedSimpArgs false
set_option maxRecDepth 100000
set_option maxHeartbeats 4000000
namespace Go.Sx
open Go Go.Proofs
section
def rL (ps:List (List Op3)):Nat:=(ps.map List.length).sum
def u9 (c:Cfg) (ps:List (List Op3)) (k:Int):Bool:=decide ((8<c.cores∧c.cores≤64)∨(32<c.lines∧c.lines≤1024)∨80<rL ps∨100<ps.length∨300<k)
theorem b3t {ps:List PrQ} {i:Nat} (hi:i<ps.length):rL ((ps.take (i+1)).map (·.1))=rL ((ps.take i).map (·.1))+ps[i].1.length:=by
  unfold rL
  rw [List.take_add_one,List.getElem?_eq_getElem hi,Option.toList_some,List.map_append,List.map_append,List.sum_append]
  simp
theorem c7q {ps:List PrQ} (i:Nat):rL ((ps.take i).map (·.1))≤rL (ps.map (·.1)):=by
  have:ps.map (·.1)=(ps.take i).map (·.1)++(ps.drop i).map (·.1):=by rw [←List.map_append,List.take_append_drop]
  unfold rL
  rw [this,List.map_append,List.sum_append]
  omega
theorem b0p {ps:List (List Op3)} {l:List Op3} (h:l∈ps):l.length≤rL ps:=by
  unfold rL
  induction ps with
  |nil=>cases h
  |cons a r ih=>
   rw [List.map_cons,List.sum_cons]
   rcases List.mem_cons.1 h with rfl|h
   · omega
   · have:=ih h;omega
attribute [local irreducible] Exit.then Exit.inBlock Code.wp WC WO WE WQ V bT vL fP cY eI v8 IntKind.wrap WR Code.rounds WT KO
theorem a3n {F:List HP} {c:Cfg} {ps:List PrQ} {v:Value} {k:Int} (hk:RdL F 1 v ps.length (aC b6n ps)) (hp:ps.length≤1000000000000000) (hn:∀ p∈ps,p.1.length≤1000000000000000) :
    FnF Tryz.prog 16 [c.val,v,.int .i64 k] [] F (fun r L'=>r= .bool (u9 c (ps.map (·.1)) k)∧L'=[]):=by
  refine FnF.mk' Tryz.func16 rfl rfl Tryz.ntmps16 rfl ?_
  repeat first|refine gd ?_|intro _
  rename_i b3
  apply aW (E0:=[(1,_),(2,_),(3,_)]) (fun E0 (i:Nat)=>(8,.int .i64 i)::(7,.int .i64 (rL ((ps.take i).map (·.1))))::E0) (fun _=>Cells b3 24 c.cells::F) (fun i=>i≤ps.length∧rL ((ps.take i).map (·.1))≤1000000000000080) (fun i=>ps.length-i) 0
  · exact m9
  · exact ⟨Nat.zero_le _,by simp [rL]⟩
  · exact aB
  · rintro i ⟨hi,hb⟩
    by_cases hlt:i<ps.length∧rL ((ps.take i).map (·.1))≤80
    · obtain ⟨hlt,h80⟩:=hlt
      have hst:=b3t hlt
      have hl:=hn _ (List.getElem_mem hlt)
      generalize rL ((ps.take i).map (·.1))=t at hst h80 hb ⊢
      repeat first|refine gd ?_|intro _
      refine aT (i+1) (om) ⟨om,om⟩ ?_ ?_
      · simp only [hst];exact m9
      · exact aB
    · have htot:80<rL (ps.map (·.1))↔80<rL ((ps.take i).map (·.1)):=by
        by_cases h1:80<rL ((ps.take i).map (·.1))
        · have:=c7q (ps:=ps) i;constructor<;>intro<;>omega
        · have h2:i=ps.length:=by omega
          rw [h2,List.take_length]
      have hex:¬(i:Int)<ps.length∨¬((rL ((ps.take i).map (·.1)):Nat):Int)≤80:=by omega
      unfold u9
      simp only [htot,List.length_map]
      generalize rL ((ps.take i).map (·.1))=t at hlt hb hex ⊢
      rcases hex with hex|hex
      all_goals repeat' (first|refine gd ?_|intro _|refine nV ?_ ?_|fail)
      all_goals (apply aA rfl rfl bH;(refine ⟨congrArg Value.bool ?_,rfl⟩;(first|(refine decide_eq_decide.2 ?_)|(refine (decide_eq_true ?_).symm)|(refine (decide_eq_false ?_).symm));(first|omega|(simp only [];omega)));exact jM)
end
section
def OldPs (W:World) (ps:List PrQ):Prop:=∀ p∈ps,ROld W 3 (.slice p.2.1 p.1.length p.2.2) p.1.length (aC oc p.1)
theorem OldPs.rd {W:World} {ps:List PrQ} (k:OldPs W ps) (L:List HP):RdPr (Old W::L) ps:=⟨fun p hp=>by haveI:=k p hp;exact inferInstance⟩
theorem z7 {c:Cfg} {ps:List (List Op3)} {k:Int} (h:u9 c ps k=false):¬(8<c.cores∧c.cores≤64)∧¬(32<c.lines∧c.lines≤1024)∧rL ps≤80∧ps.length≤100∧k≤300:=by
  simp only [u9,decide_eq_false_iff_not] at h
  omega
abbrev d5v (ps:List PrQ):List (List Op3):=ps.map (·.1)
theorem d9d {c:Cfg} {ps:List (List Op3)} (h:nE c ps=true) (l:List Pk) (i:Nat) (hi:i≤l.length):MaI c ps i (cM c (bK c ps) (l.take i)):=by
  have:=(MaI.new h).picks (l.take i)
  rw [List.length_take,Nat.min_eq_left hi,Nat.zero_add] at this
  exact this
theorem d9e {c:Cfg} {ps:List (List Op3)} (h:nE c ps=true) (l:List Pk) (i:Nat) (hi:i≤l.length):(cM c (bK c ps) (l.take i)).tr.length≤i:=by
  have:=d6m (MaL.new h) (l.take i)
  have e:(bK c ps).tr.length=0:=rfl
  rw [List.length_take,Nat.min_eq_left hi,e] at this
  omega
attribute [local irreducible] Exit.then Exit.inBlock Code.wp WC WO WE WQ V bT vL fP cY eI v8 IntKind.wrap WR Code.rounds WT KO
theorem z8 {F:List HP} {b:Nat} {c:Cfg} {ps:List (List Op3)} {l:List Pk} {x:MaX} {i:Nat} (hw:c.wf) (hok:nE c ps=true) (hl:l.length≤300) (hp:∀ p∈l,Pk.wf p) (hi:i<l.length) (hx:a2v c (cM c (bK c ps) (l.take i)) x) :
    FnF Tryz.prog 18 [.pointer (some ⟨b,0,none⟩),f5z l[i]] [i9 b c (cM c (bK c ps) (l.take i)) x] F (fun r L'=>∃ pt:Option Addr×Nat,r= .bool (bN c (cM c (bK c ps) (l.take i)) l[i])∧L'=[i9 b c (cM c (bK c ps) (l.take (i+1))) { x with pt:=pt}]):=by
  have h:=b6g (F:=F) (b:=b) (x:=x) (p:=l[i]) hw (d9d hok l i (om)).l (om) (by have:=d9e hok l i (om);omega) (hp _ (List.getElem_mem hi)) hx
  rw [←b4x hi] at h
  exact h
end
section
open Go Go.Proofs Go.ChangeShapes Go.WideShapes
theorem e0h {H:Type} (enc:TypeId×Value→H) (W:World) {cs:List Value} (h:LeafsOkS enc Tryz.prog W (List.replicate 3 (.int .i64)) cs):∃ x:Pk,x.wf∧cs=e6l x∧(e6l x).all one=true:=by
  simp only [List.replicate] at h
  obtain ⟨a0,cs,rfl,w0,h⟩:=z3 enc _ W h
  obtain ⟨a1,cs,rfl,w1,h⟩:=z3 enc _ W h
  obtain ⟨a2,cs,rfl,w2,h⟩:=z3 enc _ W h
  obtain rfl:=a7v enc _ W h
  exact ⟨⟨a0,a1,a2⟩,⟨w0,w1,w2⟩,rfl,rfl⟩
theorem d9f {W:World} {ps:List PrQ} (h:∀ p∈ps,PrQ.ok W p):OldPs W ps:=fun p hp=>(h p hp).1
theorem b7e {n k b:Nat} (h:n*b≤reachBytes) (hb:b=k) (h0:0<k):n≤1000000000000000:=by
  subst hb
  have hr:reachBytes=140737488351232:=rfl
  rw [hr] at h
  have:n*1≤n*b:=Nat.mul_le_mul_left n h0
  omega
theorem e7c {W:World} {F:List HP} {f:FuncId} {c:Cfg} {ps:List PrQ} {u v:Value} {l:List Pk} (hp:∀ p∈ps,PrQ.ok W p) (kp:ROld W 1 u ps.length (aC b6n ps)) (bp:ps.length*Tryz.prog.bytesOf 61≤reachBytes) (k:ROld W 3 v l.length (aC e6l l)) (bl:l.length*Tryz.prog.bytesOf 34≤reachBytes)
    (law:∀ (pu pv:Option Addr) (cu cv:Nat),ROld W 3 (.slice pv l.length cv) l.length (aC e6l l)→l.length≤1000000000000000→ROld W 1 (.slice pu ps.length cu) ps.length (aC b6n ps)→ps.length≤1000000000000000→(∀ p∈ps,p.1.length≤1000000000000000)→OldPs W ps→
      FnF Tryz.prog f [c.val,.slice pu ps.length cu,.slice pv l.length cv] [Old W] F (fun r L'=>r= .bool true∧L'=[Old W])) :
    FnF Tryz.prog f [c.val,u,v] [Old W] F (fun r L'=>r= .bool true∧L'=[Old W]):=by
  obtain ⟨pu,cu,rfl⟩:=oN kp
  obtain ⟨pv,cv,rfl⟩:=oN k
  exact law pu pv cu cv k (b7e (k:=24) bl (by kernel_rfl) (by decide)) kp (b7e (k:=24) bp (by kernel_rfl) (by decide)) (fun p h=>(hp p h).2.2) (d9f hp)
end
section
section
variable {c:Cfg} {ps:List (List Op3)} {n:Nat} {s:MaS}
def d9g (c:Cfg) (k:CaS):Prop:=∀ e∈k.buf,aL c e.line=true
def xF (c:Cfg) (s:MaS):Prop:=(∀ a∈s.cs,d9g c a)∧∀ i (hi:i<s.cs.length),s.cs[i].ways.length=(c.sets*c.ways).toNat
theorem a1c {k k':CaS} (h:d9g c k) (e:k'.buf=k.buf):d9g c k':=by unfold d9g;rw [e];exact h
theorem f2w {k k':CaS} (h:d9g c k) (e:∀ x∈k'.buf.map (·.line),x∈k.buf.map (·.line)):d9g c k':=fun x hx=>by
  obtain ⟨y,hy,e2⟩:=List.mem_map.1 (e _ (List.mem_map.2 ⟨x,hx,rfl⟩))
  rw [←e2];exact h y hy
theorem b0q (k:CaS) (line:Int):(cC c k line).buf=k.buf:=by unfold cC;split<;>rfl
theorem d9h {k:CaS} (h:d9g c k) (line kind:Int):d9g c (bM c k line kind):=a1c h (by unfold bM;split<;>rfl)
theorem e9y {k:CaS} (h:d9g c k):d9g c (dY c k):=a1c h (by unfold dY;split<;>rfl)
theorem f2x {k:CaS} (h:d9g c k) (x:Op3):d9g c (dR c k x):=a1c h (by unfold dR;split<;>rfl)
theorem e4o {l:List Way} {sw w:Int} (hI:cF c l) (h:(oH c l sw w).st≠0):aL c (oH c l sw w).line=true:=by
  obtain ⟨i,hi,e⟩:=List.getElem_of_mem (vH h)
  rw [←e] at h ⊢
  exact (hI i hi (a9y h)).1
theorem f2y {k:CaS} (hI:cF c k.ways) (h:d9g c k) (sw w:Int):d9g c (d5 c k sw w):=by
  unfold d5
  split
  · rename_i he
    have hst:(oH c k.ways sw w).st≠0:=fun g=>by
      unfold lM at he
      rw [if_pos (.inr g)] at he;cases he
    intro e hx
    dsimp only at hx
    split at hx
    · unfold mD at hx
      split at hx
      · exact h e hx
      · split at hx
        · exact h e hx
        · rcases List.mem_append.1 hx with g|g
          · exact h e g
          · obtain rfl:=List.mem_singleton.1 g
            exact e4o hI hst
    · exact h e hx
  · exact h
theorem e4p {k:CaS} (h:d9g c k) (core:Int) (m:Msg):d9g c (aS c core k m):=by
  have htell:∀ (line st:Int) (g:Bool),d9g c (cQ c k line st g):=fun line st g=>by
    unfold cQ
    split
    · exact h
    · split
      · exact f2w h (by dsimp only;intro x hx;rwa [c8i] at hx)
      · exact h
  unfold aS
  split
  · split
    · exact htell _ _ _
    · split
      · exact htell _ _ _
      · split
        · split
          · exact a1c h (by unfold i5;split<;>rfl)
          · exact h
        · split
          · exact a1c h (by unfold lH;split<;>first|rfl|(rw [b0q]))
          · split
            · exact a1c h (by unfold sC;split<;>first|rfl|(rw [b0q]))
            · split
              · exact a1c h (by unfold pB;split<;>first|rfl|(rw [b0q]))
              · refine fun e he=>h e ?_
                change e∈mR k.buf m.line at he
                unfold mR at he
                split at he
                · exact List.mem_of_mem_eraseIdx he
                · exact he
  · exact h
theorem d9i (k:CaS) (line kind:Int):(bM c k line kind).ways.length=k.ways.length:=by
  unfold bM
  split
  · dsimp only;split
    · exact b2n
    · exact b9l
  · rfl
theorem f2z (k:CaS) (sw w:Int):(d5 c k sw w).ways.length=k.ways.length:=by unfold d5;split<;>first|exact wQ|rfl
theorem e9z (k:CaS):(dY c k).ways.length=k.ways.length:=by unfold dY;split<;>first|exact b2n|rfl
theorem f3a (k:CaS) (x:Op3):(dR c k x).ways.length=k.ways.length:=by unfold dR;split<;>first|exact wQ|rfl
theorem b5z (k:CaS) (line:Int):(cC c k line).ways.length=k.ways.length:=by unfold cC;split<;>first|exact wQ|rfl
theorem e4q (k:CaS) (core:Int) (m:Msg):(aS c core k m).ways.length=k.ways.length:=by
  have htell:∀ (line st:Int) (g:Bool),(cQ c k line st g).ways.length=k.ways.length:=fun line st g=>by
    unfold cQ
    split
    · exact wQ
    · split<;>rfl
  unfold aS
  split
  · split
    · exact htell _ _ _
    · split
      · exact htell _ _ _
      · split
        · split
          · unfold i5;split<;>first|exact wQ|rfl
          · rfl
        · split
          · unfold lH;split<;>first|rfl|exact b5z _ _
          · split
            · unfold sC;split<;>first|rfl|exact b5z _ _
            · split
              · unfold pB;split<;>first|rfl|exact b5z _ _
              · rfl
  · rfl
theorem yX {i:Int} {k:CaS} (h:xF c s) (hk:d9g c k) (hl:k.ways.length=(bI s i).ways.length):xF c (dN s i k):=by
  refine ⟨fun a ha=>?_,fun j hj=>?_⟩
  · rcases List.mem_or_eq_of_mem_set ha with g|rfl
    · exact h.1 a g
    · exact hk
  · change j<(s.cs.set i.toNat k).length at hj
    rw [List.length_set] at hj
    show ((s.cs.set i.toNat k)[j]'(by rw [List.length_set];exact hj)).ways.length=_
    rw [List.getElem_set]
    split
    · rename_i e
      have:bI s i=s.cs[j]:=by unfold bI;rw [e,List.getD_eq_getElem?_getD,List.getElem?_eq_getElem hj];rfl
      rw [hl,this];exact h.2 j hj
    · exact h.2 j hj
theorem a5p (h:xF c s) (i:Int):d9g c (bI s i):=nN (P:=d9g c) h.1 (fun e he=>by cases he)
theorem c0s (h:xF c s) (i:Int) (x:Op3):xF c (jE c s i x):=by
  unfold jE
  split
  · exact yX (s:=s) h (f2x (a5p h i) x) (f3a _ _)
  · exact h
theorem e4r (hl:MaL c n s) (h:xF c s) (i w:Int):xF c (c8 c s i w):=by
  unfold c8
  split
  · exact yX (s:=s) h (e9y (a5p h i)) (e9z _)
  · split
    · exact h
    · split
      · split<;>exact h
      · split
        · exact c0s h i _
        · split
          · exact h
          · split
            · exact yX (s:=s) h (d9h (a5p h i) _ _) (d9i _ _ _)
            · split
              · have:=yX (s:=s) (i:=i) h (f2y (hl.cai i).1.1 (a5p h i) (eU c (bV (cO s i))) (w.tmod c.ways)) (f2z _ _ _)
                unfold a7f
                split<;>exact this
              · exact h
theorem c0t (h:xF c s) (m:Msg):xF c (dD c s m):=by
  have:=yX (s:=s) (i:=m.dst) h (e4p (a5p h m.dst) m.dst m) (e4q _ _ _)
  unfold dD
  split<;>exact this
theorem d5w (h:xF c s) (m:Msg):xF c (i3 c s m):=by
  unfold i3
  split
  · exact c0s h _ _
  · exact h
theorem e4s (h:xF c s) (k i:Int):xF c (d8 c s k i):=by
  unfold d8
  split
  · exact h
  · split
    · split<;>exact h
    · split
      · exact c0t (s:=dZ s (aH s.n 1 i)) h _
      · split
        · exact h
        · exact d5w (c0t (s:=dZ s (aH s.n k i)) h _) _
theorem d5x (hl:MaL c n s) (h:xF c s) (p:Pk):xF c (bY c s p):=by
  unfold bY
  split
  · exact h
  · split
    · exact e4s h _ _
    · split
      · unfold c7;split<;>exact h
      · split
        · exact e4r hl h _ _
        · split
          · unfold eE
            split
            · exact h
            · split
              · exact yX (s:=a6a s p.a _) h (d9h (a5p h p.a) _ _) (d9i _ _ _)
              · exact h
          · exact h
theorem e4t:xF c (bK c ps):=by
  refine ⟨fun a ha=>?_,fun i hi=>?_⟩
  · obtain ⟨_,_,rfl⟩:=List.mem_map.1 ha
    intro e he;cases he
  · have:(bK c ps).cs[i]∈(bK c ps).cs:=List.getElem_mem hi
    obtain ⟨_,_,e⟩:=List.mem_map.1 this
    rw [←e,List.length_replicate]
theorem b0r {k:Int} (h:eY s.n k≠[]):gN s.n k 0=true:=by
  unfold gN d4w
  have:0<(eY s.n k).length:=List.length_pos_iff.2 h
  exact decide_eq_true (om)
theorem d0u (hc:aF c=true):1≤q6 c 0∧1≤q6 c 1∧1≤q6 c 2:=by
  have:=sK hc
  refine ⟨?_,?_,?_⟩
  · show 1≤c.r0;omega
  · show 1≤c.r1;omega
  · show 1≤c.r2;omega
theorem qN (hc:aF c=true) {k:Int} (hk:k=0∨k=1∨k=2) (h:eY s.n k=[]):0<cB c s.n k:=by
  have:=d0u hc
  unfold cB
  rw [h]
  rcases hk with rfl|rfl|rfl<;>simp<;>omega
theorem c3t (hl:MaL c n s) (hf:vO c s) {d:Int} (hd:0≤d∧d<c.homes) (h1:eY s.n 1=[]) (h2:eY s.n 2=[])
    (hw:∀ j:Nat,j<(bU s d).q.length→kA c s d j=false):(∀ e∈(bU s d).q,e.sends=[])∧((bU s d).q≠[]→∃ e r,(bU s d).q=e::r∧e.st=true∧e.m.kind≠3):=by
  have hI:=(hl.hmi hd.1 hd.2).1
  have hF:=vJ hf hl hd
  have g1:=qN hl.ok (.inr (.inl rfl)) h1
  have g2:=qN hl.ok (.inr (.inr rfl)) h2
  have hs:∀ e∈(bU s d).q,e.sends=[]:=by
    intro e he
    obtain ⟨j,hj,rfl⟩:=List.getElem_of_mem he
    cases es:(bU s d).q[j].sends with
    |nil=>rfl
    |cons y r=>
     exfalso
     have hin:a9o (bU s d).q (j:Int)=true:=by unfold a9o;exact decide_eq_true (om)
     have hat:a3x (bU s d).q (j:Int)=(bU s d).q[j]:=by unfold a3x;rw [if_pos hin,Int.toNat_natCast,List.getD_eq_getElem?_getD,List.getElem?_eq_getElem hj];rfl
     have hnb:jC (bU s d).q (j:Int)=true:=by unfold jC;rw [hin,hat,es];rfl
     have hnm:gK (bU s d).q (j:Int)=y:=by unfold gK;rw [if_pos hnb,hat,es];rfl
     have hk:=(hI.snd _ (List.getElem_mem hj) y (by rw [es];exact List.mem_cons_self ..)).1
     have hgo:gX (bU s d) (j:Int) (d1v c s)=true:=by
       unfold gX
       rw [hnb,hnm,Bool.true_and]
       refine decide_eq_true ?_
       unfold e1p d1v
       rcases c5j hk with e|e
       · rw [e,if_neg (by decide),if_pos rfl];exact g1
       · rw [e,if_neg (by decide),if_neg (by decide)];exact g2
     have:=hw j hj
     unfold kA mT at this
     split at this
     · cases this
     · rw [hgo] at this;cases this
  refine ⟨hs,fun hne=>?_⟩
  cases eq:(bU s d).q with
  |nil=>exact absurd eq hne
  |cons e r=>
   have hj:0<(bU s d).q.length:=by rw [eq];simp
   have e0:(bU s d).q[0]=e:=by simp [eq]
   have hin:a9o (bU s d).q ((0:Nat):Int)=true:=by unfold a9o;exact decide_eq_true (om)
   have hat:a3x (bU s d).q ((0:Nat):Int)=e:=by unfold a3x;rw [if_pos hin,Int.toNat_natCast,List.getD_eq_getElem?_getD,List.getElem?_eq_getElem hj,e0];rfl
   have hst:e.st=true:=by
     cases hst:e.st with
     |true=>rfl
     |false=>
      exfalso
      have hr:eZ (bU s d).q ((0:Nat):Int)=true:=by
        unfold eZ
        rw [hin,hat,hst]
        rfl
      have:=hw 0 hj
      unfold kA mT at this
      rw [if_pos hr] at this;cases this
   refine ⟨e,r,rfl,hst,fun h3=>?_⟩
   exact hF.sp e (by rw [eq];exact List.mem_cons_self ..) h3 hst (hs e (by rw [eq];exact List.mem_cons_self ..))
theorem d5y (hl:MaL c n s) {r line:Int} (h:(fA c s line).ms r≠none):0≤r∧r<c.cores:=by
  have key:fE s r≠caZ:=fun e=>h (by show yB (fE s r) line=none;rw [e];rfl)
  have h1:0≤r:=Decidable.byContradiction fun g=>key (if_neg g)
  refine ⟨h1,Decidable.byContradiction fun g=>key ?_⟩
  have:=hl.la
  unfold fE bI
  rw [if_pos h1,List.getD_eq_getElem?_getD,List.getElem?_eq_none (om)];rfl
theorem b8s (h:MaI c ps n s) {w:Int} (h1:eY s.n 1=[]) (h2:eY s.n 2=[])
    (hw:∀ d:Int,0≤d→d<c.homes→∀ j:Nat,j<(bU s d).q.length→kA c s d j=false) (ha:∀ i:Int,0≤i→i<c.cores→dO c s i w=false) {d:Int} (hd:0≤d∧d<c.homes):(bU s d).q=[]:=by
  refine Decidable.byContradiction fun hne=>?_
  obtain ⟨hs,hq⟩:=c3t h.l h.f hd h1 h2 (hw d hd.1 hd.2)
  obtain ⟨e,r,eq,hst,hk3⟩:=hq hne
  have hI:=(h.l.hmi hd.1 hd.2).1
  obtain ⟨f1,f2,f3,f4,f5⟩:=iD hI.ok (hI.req e (by rw [eq];exact List.mem_cons_self ..))
  have hlk:aL c e.m.line=true:=by unfold aL;rw [h.l.ok,decide_eq_true ⟨f3.1,f3.2.1⟩];rfl
  have hlh:cU c e.m.line=d:=by unfold cU;rw [if_pos hlk];exact f3.2.2
  have e0:aN c s e.m.line=bU s d:=by unfold aN;rw [hlh]
  obtain ⟨hLI,hNF⟩:=h.t.1 _ hlk
  have hact:(fA c s e.m.line).act=some (e.m.kind,e.m.src):=by
    show gZ e.m.line (aN c s e.m.line).q=_
    rw [e0,eq]
    unfold gZ
    rw [List.find?_cons_of_pos (by simp [hst,hk3])]
    rfl
  have hfly:(fA c s e.m.line).fly=[]:=by
    show (b8q e.m.line (s.n.l1++s.n.l2)++oP e.m.line (aN c s e.m.line).q).map qM=[]
    rw [e0,a2s fun x hx _=>hs x hx]
    have a1:s.n.l1=[]:=h1
    have a2:s.n.l2=[]:=h2
    rw [a1,a2];rfl
  have ct0:(fA c s e.m.line).ct=0:=by unfold LV.ct;rw [hfly];rfl
  have ci0:(fA c s e.m.line).ci=0:=by unfold LV.ci;rw [hfly];rfl
  have cd0:(fA c s e.m.line).cd=0:=by unfold LV.cd;rw [hfly];rfl
  have how:∀ m,(fA c s e.m.line).ms e.m.src=some m→m.ow=true→False:=fun m gm go=>by
    obtain ⟨r0,r1⟩:=d5y h.l (show (fA c s e.m.line).ms e.m.src≠none by rw [gm];simp)
    have gm':(fk c9w (bI s e.m.src).mis e.m.line).map f2i=some m:=by
      have:fE s e.m.src=bI s e.m.src:=if_pos r0
      rw [←this];exact gm
    have hb:gD (bI s e.m.src)=true:=by
      cases g:fk c9w (bI s e.m.src).mis e.m.line with
      |none=>rw [g] at gm';cases gm'
      |some a=>
       rw [g] at gm'
       obtain ⟨k1,k2⟩:=b5x g
       have ga:a.owes=true:=by
         cases gm';exact go
       unfold gD jH
       refine decide_eq_true (Decidable.byContradiction fun hg=>?_)
       have:=(dL (p:=fun m:Miss=>m.owes) (l:=(bI s e.m.src).mis) (om)).2 a k1
       rw [ga] at this;cases this
    have g2:=qN h.l.ok (.inr (.inr rfl)) h2
    have:=ha e.m.src r0 r1
    unfold dO at this
    rw [if_pos ⟨g2,hb⟩,b3w h.l ⟨r0,r1⟩ g2 hb] at this
    cases this
  rcases hLI.p _ _ hact with ⟨m,g⟩|⟨m,g⟩|⟨m,g⟩|g
  · have:=g.2.2.2.2.2.2.1;omega
  · have hn:m.needs=m.got:=by have:=g.2.2.2.1;rw [ci0] at this;simpa using this
    exact how m g.1 (hNF _ m g.1 hn)
  · exact how m g.1 g.2.2.2.2.1
  · omega
theorem d0v (hl:MaL c n s) (h:∀ d:Int,0≤d∧d<c.homes→(bU s d).q=[]):∀ x∈s.hs,x.q=[]:=by
  intro x hx
  obtain ⟨i,hi,rfl⟩:=List.getElem_of_mem hx
  have:=h i ⟨om,by have:=hl.lh;omega⟩
  unfold bU at this
  rw [Int.toNat_natCast,List.getD_eq_getElem?_getD,List.getElem?_eq_getElem hi] at this
  exact this
theorem d5z (hq:∀ x∈s.hs,x.q=[]) (line:Int):(aN c s line).q=[]:=by
  unfold aN bU
  rw [List.getD_eq_getElem?_getD]
  cases e:s.hs[(cU c line).toNat]? with
  |none=>rfl
  |some x=>exact hq x (List.mem_of_getElem? e)
theorem b4t (h:MaI c ps n s) (hB:xF c s) (h0:eY s.n 0=[]) (h1:eY s.n 1=[]) (h2:eY s.n 2=[]) (hq:∀ x∈s.hs,x.q=[]):∀ a∈s.cs,a.mis=[]∧a.buf=[]:=by
  have a0:s.n.l0=[]:=h0
  have a1:s.n.l1=[]:=h1
  have a2:s.n.l2=[]:=h2
  have hv:∀ line,(fA c s line).act=none∧(fA c s line).rq=[]∧(fA c s line).fly=[]:=fun line=>by
    have e:=d5z (c:=c) hq line
    refine ⟨?_,?_,?_⟩
    · show gZ line (aN c s line).q=none;rw [e];rfl
    · show (b8q line s.n.l0++oC line (aN c s line).q).map qM=[];rw [e,a0];rfl
    · show (b8q line (s.n.l1++s.n.l2)++oP line (aN c s line).q).map qM=[];rw [e,a1,a2];rfl
  intro a ha
  obtain ⟨i,hi,rfl⟩:=List.getElem_of_mem ha
  have ei:s.cs.getD i caZ=s.cs[i]:=by rw [List.getD_eq_getElem?_getD,List.getElem?_eq_getElem hi];rfl
  have hx:lD c n s.cs[i]:=h.l.ca _ (List.getElem_mem hi)
  constructor
  · cases e:s.cs[i].mis with
    |nil=>rfl
    |cons m r=>
     exfalso
     have hm:m∈(s.cs.getD i caZ).mis:=by rw [ei,e];exact List.mem_cons_self ..
     have hmv:=d6n (line:=m.line) h i hm rfl
     have hok:aL c m.line=true:=(hx.1.2.2 m (by rw [e];exact List.mem_cons_self ..)).1
     obtain ⟨v1,v2,v3⟩:=hv m.line
     have:=((h.t.1 _ hok).1.g1 _ _ hmv (fT v1 _)).1
     unfold LV.cg at this
     rw [v2] at this
     simp at this
  · cases e:s.cs[i].buf with
    |nil=>rfl
    |cons b r=>
     exfalso
     obtain ⟨v1,v2,v3⟩:=hv b.line
     have hok:aL c b.line=true:=hB.1 _ (List.getElem_mem hi) b (by rw [e];exact List.mem_cons_self ..)
     · have hbf:∃ w l,(fA c s b.line).bf i=some (w,l):=by
         have:(fA c s b.line).bf i=(fk d4b (s.cs.getD i caZ).buf b.line).map fun e=>(e.words,e.live):=by
           show b4j (fE s (i:Int)) b.line=_
           rw [e0k];rfl
         rw [this,ei,e]
         rw [u8,if_pos rfl]
         exact ⟨_,_,rfl⟩
       obtain ⟨w,l,hbf⟩:=hbf
       have:=((h.t.1 _ hok).1.b1 _ _ _ hbf).1
       unfold LV.cp LV.ck at this
       rw [v2,v3] at this
       simp at this
theorem d6a {k:CaS} (hc:aF c=true) {line w:Int} (hl:aL c line=true) (hn:k.ways.length=(c.sets*c.ways).toNat) (hf:cZ c k.ways line<0) (hw:0≤w∧w<c.ways):pF c (nK c line) w=true∧bC (oH c k.ways (nK c line) w)=true:=by
  obtain ⟨f1,f2,f3,f4,f5,f6⟩:=bG hc
  have hs:1≤c.sets:=by
    obtain ⟨j,hj,e⟩:=f3
    rw [e]
    have:(0:Int)<2^j:=Int.pow_pos (by decide)
    omega
  have hr0:=Int.emod_nonneg line (show c.sets≠0 by omega)
  have hr1:=Int.emod_lt_of_pos line (show 0<c.sets by omega)
  have eS:nK c line=line % c.sets:=by unfold nK;rw [if_pos hl]
  have hin:pF c (nK c line) w=true:=by unfold pF;rw [eS];exact decide_eq_true ⟨hr0,hr1,hw.1,hw.2⟩
  refine ⟨hin,?_⟩
  have hmul:0≤c.sets*c.ways:=Int.mul_nonneg (om) (om)
  obtain ⟨l1,l2⟩:=wJ hc (show (k.ways.length:Int)=c.sets*c.ways by omega) hl
  unfold oH
  rw [if_pos hin]
  have:=(dL (p:=fun w=> !bC w) (l:=bW c k.ways line) (show ¬0≤cZ c k.ways line by omega)).2
  unfold cT at l2
  have hlt:(nK c line).toNat*c.ways.toNat+w.toNat<k.ways.length:=by omega
  have hm:k.ways[(nK c line).toNat*c.ways.toNat+w.toNat]∈bW c k.ways line:=by
    unfold bW
    rw [if_pos hl]
    refine List.mem_iff_getElem.2 ⟨w.toNat,?_,?_⟩
    · unfold cT;rw [List.length_take,List.length_drop];omega
    · rw [List.getElem_take,List.getElem_drop];rfl
  have:=this _ hm
  rw [List.getD_eq_getElem?_getD,List.getElem?_eq_getElem hlt]
  simpa using this
theorem c0u (hl:MaL c n s) (hB:xF c s) {i:Int} (hi:0≤i∧i<c.cores):(bI s i).ways.length=(c.sets*c.ways).toNat:=by
  have:=hl.la
  have hlt:i.toNat<s.cs.length:=by omega
  unfold bI
  rw [List.getD_eq_getElem?_getD,List.getElem?_eq_getElem hlt]
  exact hB.2 _ hlt
theorem f0a {l:List Way} {sw w:Int} (h:pF c sw w=true) (hn:l.length=(c.sets*c.ways).toNat):oH c l sw w∈l:=by
  unfold oH
  rw [if_pos h]
  unfold pF at h
  have h:=of_decide_eq_true h
  obtain ⟨W,eW⟩:∃ n:Nat,c.ways=n:=⟨c.ways.toNat,om⟩
  obtain ⟨S,eS⟩:∃ n:Nat,c.sets=n:=⟨c.sets.toNat,om⟩
  obtain ⟨x,rfl⟩:∃ n:Nat,sw=n:=⟨sw.toNat,om⟩
  obtain ⟨y,rfl⟩:∃ n:Nat,w=n:=⟨w.toNat,om⟩
  rw [eW,eS] at hn
  have hm:((S:Int)*(W:Int)).toNat=S*W:=by exact_mod_cast Int.toNat_natCast (S*W)
  rw [hm] at hn
  rw [eW]
  have hx:x+1≤S:=by omega
  have h2:=Nat.mul_le_mul_right W hx
  rw [Nat.add_mul,Nat.one_mul] at h2
  have hlt:((x:Int)).toNat*((W:Int)).toNat+((y:Int)).toNat<l.length:=by simp only [Int.toNat_natCast];omega
  rw [List.getD_eq_getElem?_getD,List.getElem?_eq_getElem hlt]
  exact List.getElem_mem hlt
theorem c3u (h:MaI c ps n s) (hB:xF c s) (h0:eY s.n 0=[]) (h2:eY s.n 2=[]) (hc:∀ a∈s.cs,a.mis=[]∧a.buf=[]) {i w:Int} (hi:0≤i∧i<c.cores) (hw:0≤w) (ha:dO c s i w=false):gH (cO s i)=false:=by
  cases hh:gH (cO s i) with
  |false=>rfl
  |true=>
   exfalso
   have hmb:(bI s i).mis=[]∧(bI s i).buf=[]:=nN (P:=fun a:CaS=>a.mis=[]∧a.buf=[]) hc ⟨rfl,rfl⟩
   have hJ:=(h.l.cai i).2.1
   have hI:=(h.l.cai i).1.1
   have hfb:gD (bI s i)=false:=by unfold gD jH;rw [hmb.1];rfl
   have g0:=qN h.l.ok (.inl rfl) h0
   obtain ⟨o1,o2⟩:=c2l h.l hh
   unfold dO at ha
   rw [if_neg (by rw [hfb];simp),if_neg (by rw [hh];simp)] at ha
   by_cases h4:(bV (cO s i)).kind=4
   · rw [if_pos h4,hmb.1] at ha;cases ha
   · rw [if_neg h4] at ha
     have hok:fR c (bV (cO s i)).addr=true:=by
       unfold fR
       unfold fO at o2
       rw [if_pos h.l.ok] at o2
       unfold sQ at o1
       rw [if_neg h4] at o1
       have:0≤(bV (cO s i)).addr:=by
         split at o1
         · simp at o1;exact o1.1.1
         · split at o1
           · simp at o1;exact o1.1.1.1
           · cases o1
       rw [h.l.ok,decide_eq_true ⟨this,o2⟩];rfl
     have hap:d7f c (bV (cO s i))=0:=by
       unfold d7f xJ
       rw [hok,o1,decide_eq_false h4];rfl
     have hdo:lG c s i (bV (cO s i))=false:=by
       cases e:lG c s i (bV (cO s i)) with
       |false=>rfl
       |true=>rw [if_pos e] at ha;cases ha
     rw [if_neg (by rw [hdo];simp),if_neg (om)] at ha
     have hcan:mU c (bI s i) (bB c (bV (cO s i))) (bD (bV (cO s i)))=false:=by
       cases e:mU c (bI s i) (bB c (bV (cO s i))) (bD (bV (cO s i))) with
       |false=>rfl
       |true=>
        unfold lG mW at hdo
        rw [if_pos hap] at hdo
        unfold bB at e
        rw [e] at hdo;cases hdo
     have hw8:=dF h.l.ok
     have hl:aL c (bB c (bV (cO s i)))=true:=by
       have hok':=hok
       simp only [fR,Bool.and_eq_true,decide_eq_true_eq] at hok'
       unfold bB bS
       rw [if_pos hok]
       unfold aL
       rw [h.l.ok,decide_eq_true ⟨Int.ediv_nonneg hok'.2.1 (om),Int.ediv_lt_of_lt_mul (om) (by rw [Int.mul_comm];exact hok'.2.2)⟩];rfl
     have hkd:bD (bV (cO s i))=1∨bD (bV (cO s i))=2:=by unfold bD;split<;>simp
     have hms:1≤c.mshrs:=(sK h.l.ok).1.1
     have hmi:dB (bI s i).mis (bB c (bV (cO s i)))=false:=by unfold dB rJ;rw [hmb.1];rfl
     have hwb:lJ (bI s i).buf (bB c (bV (cO s i)))=false:=by unfold lJ f9;rw [hmb.2];rfl
     have hE:nC c s i (bV (cO s i))=if jA c (bI s i).ways (bB c (bV (cO s i)))=false∧cZ c (bI s i).ways (bB c (bV (cO s i)))<0 then 5 else 0:=by
       unfold nC dV
       rw [if_neg (by rw [hl];simp;omega),if_neg (by rw [hmi,hwb,hcan];simp),if_neg (by rw [hmb.1];simp;omega)]
     by_cases hf:jA c (bI s i).ways (bB c (bV (cO s i)))=false∧cZ c (bI s i).ways (bB c (bV (cO s i)))<0
     · rw [if_pos hf] at hE
       rw [if_neg (om),if_pos hE] at ha
       have hwy:1≤c.ways:=(bG h.l.ok).2.2.2.2.2.1
       have hr0:=Int.emod_nonneg w (show c.ways≠0 by omega)
       have hr1:=Int.emod_lt_of_pos w (show 0<c.ways by omega)
       have eT:w.tmod c.ways=w % c.ways:=Int.tmod_eq_emod_of_nonneg hw
       rw [eT] at ha
       obtain ⟨t1,t2⟩:=d6a (k:=bI s i) h.l.ok hl (c0u h.l hB hi) hf.2 ⟨hr0,hr1⟩
       have t1':pF c (eU c (bV (cO s i))) (w % c.ways)=true:=t1
       have hlk:(oH c (bI s i).ways (eU c (bV (cO s i))) (w % c.ways)).lk=false:=by
         cases e:(oH c (bI s i).ways (eU c (bV (cO s i))) (w % c.ways)).lk with
         |false=>rfl
         |true=>
          have ht:bC (oH c (bI s i).ways (eU c (bV (cO s i))) (w % c.ways))=true:=t2
          have hv:=b7o hI (f0a t1' (c0u h.l hB hi)) ht
          have:=hJ.lm _ _ hv e
          unfold iI at this
          rw [hmb.1] at this;cases this
       have hst:(oH c (bI s i).ways (eU c (bV (cO s i))) (w % c.ways)).st≠0:=by
         have t2':bC (oH c (bI s i).ways (eU c (bV (cO s i))) (w % c.ways))=true:=t2
         unfold bC at t2'
         rw [hlk] at t2'
         simpa using t2'
       have hwr:1≤c.writebacks:=(sK h.l.ok).2.2.1.1
       have hpe:pZ c.writebacks (bI s i).buf (oH c (bI s i).ways (eU c (bV (cO s i))) (w % c.ways)).line=0:=by
         unfold pZ lJ f9
         rw [hmb.2]
         show (if decide (0≤bA _ [])=true then (6:Int) else if ((([]:List WbE).length:Nat):Int)=c.writebacks then 4 else 0)=0
         rw [if_neg (by simp [bA]),if_neg (by simp;omega)]
       have hev:lM c (bI s i) (eU c (bV (cO s i))) (w % c.ways)=0:=by
         unfold lM
         rw [if_neg (by rw [t1'];simp [hst]),if_neg (by rw [hlk];simp),if_neg (fun g=>g.2 hpe)]
       rw [decide_eq_true hev,Bool.true_and] at ha
       cases hb:kZ c (bI s i) (eU c (bV (cO s i))) (w % c.ways) with
       |false=>rw [hb] at ha;cases ha
       |true=>rw [hb,c1h h.l hi (om) hb] at ha;cases ha
     · rw [if_neg hf] at hE
       have:=a3r h.l hi (show cB c s.n 0≠0 by omega) hE
       rw [if_pos hE,this] at ha;cases ha
theorem b8t (h:MaI c ps n s) (hB:xF c s) {w:Int} (hw:0≤w) (h0:∀ k:Int,k=0∨k=1∨k=2→∀ j:Nat,j<(eY s.n k).length→fQ c s k j=false)
    (h1:∀ d:Int,0≤d→d<c.homes→∀ j:Nat,j<(bU s d).q.length→kA c s d j=false) (h2:∀ i:Int,0≤i→i<c.cores→dO c s i w=false):bR s=true:=by
  have e2:eY s.n 2=[]:=Decidable.byContradiction fun hne=>by
    have hb:=b0r hne
    have:=h0 2 (.inr (.inr rfl)) 0 (List.length_pos_iff.2 hne)
    unfold fQ at this
    rw [if_neg (by rw [show ((0:Nat):Int)=0 from rfl,hb];simp),if_neg (by decide)] at this
    cases this
  have g2:=qN h.l.ok (.inr (.inr rfl)) e2
  have e1:eY s.n 1=[]:=Decidable.byContradiction fun hne=>by
    have hb:=b0r hne
    have:=h0 1 (.inr (.inl rfl)) 0 (List.length_pos_iff.2 hne)
    unfold fQ at this
    rw [if_neg (by rw [show ((0:Nat):Int)=0 from rfl,hb];simp;omega),if_neg (by decide)] at this
    cases this
  have hq:=d0v h.l fun d hd=>b8s h e1 e2 h1 h2 hd
  have e0:eY s.n 0=[]:=Decidable.byContradiction fun hne=>by
    have hb:=b0r hne
    have hmem:=h.l.nt 0 _ (dQ hb)
    have hh:cK (aG s.n 0 0).kind:=by
      have:=hmem.2
      unfold c6 at this
      unfold cK
      split at this
      · exact .inl (by assumption)
      · split at this
        · omega
        · split at this<;>omega
    have hr:=lO hmem.1 hh
    have hk:1≤(aG s.n 0 0).kind∧(aG s.n 0 0).kind≤3:=by
      rcases hh with g|g
      · exact g
      · have:=hmem.2;rw [g] at this;exact absurd this (by decide)
    have:=h0 0 (.inl rfl) 0 (List.length_pos_iff.2 hne)
    unfold fQ at this
    rw [show ((0:Nat):Int)=0 from rfl] at this
    rw [if_neg (by rw [hb];simp),if_pos rfl] at this
    have hx:=of_decide_eq_false this
    refine hx ?_
    unfold lC lR
    rw [decide_eq_true hmem.1,decide_eq_true hmem.2,decide_eq_true hh,decide_eq_true rfl]
    have hqd:(bU s (aG s.n 0 0).dst).q=[]:=nN (P:=fun x:HomS=>x.q=[]) hq rfl
    have hbuf:=(sK h.l.ok).2.1.1
    simp only [Bool.and_self,if_true]
    unfold xN
    rw [if_neg (om),hqd,if_neg (by simp;omega)]
  have hca:=b4t h hB e0 e1 e2 hq
  have a0:s.n.l0=[]:=e0
  have a1:s.n.l1=[]:=e1
  have a2:s.n.l2=[]:=e2
  unfold bR
  have hk:s.ks.all (fun k=>decide (lF k=0))=true:=by
    rw [List.all_eq_true]
    intro k hk
    obtain ⟨i,hi,rfl⟩:=List.getElem_of_mem hk
    have hlk:=h.l.lk
    have hii:(0:Int)≤(i:Int)∧(i:Int)<c.cores:=by omega
    have:=c3u h hB e0 e2 hca hii hw (h2 i hii.1 hii.2)
    have ek:cO s (i:Int)=s.ks[i]:=by unfold cO;rw [Int.toNat_natCast,List.getD_eq_getElem?_getD,List.getElem?_eq_getElem hi];rfl
    rw [ek] at this
    unfold gH qA at this
    simp at this
    unfold lF
    exact decide_eq_true (om)
  have hc':s.cs.all (fun a=>decide (a.mis=[]∧a.buf=[]))=true:=List.all_eq_true.2 fun a ha=>decide_eq_true (hca a ha)
  have hh':s.hs.all (fun x=>decide (x.q.length=0))=true:=List.all_eq_true.2 fun x hx=>decide_eq_true (by rw [hq x hx];rfl)
  rw [hk,hc',hh',decide_eq_true (show nY s.n=[] by unfold nY;rw [a0,a1,a2];rfl)]
  rfl
end
end
section
def iP {α:Type} (f:α→Nat) (l:List α):Nat:=(l.map f).sum
theorem vA {α:Type} (f:α→Nat):iP f []=0:=rfl
theorem fN {α:Type} (f:α→Nat) (a:α) (l:List α):iP f (a::l)=f a+iP f l:=by unfold iP;rw [List.map_cons,List.sum_cons]
theorem qO {α:Type} (f:α→Nat) (l m:List α):iP f (l++m)=iP f l+iP f m:=by
  induction l with
  |nil=>rw [List.nil_append,vA];omega
  |cons a l ih=>rw [List.cons_append,fN,fN,ih];omega
theorem a5q {α:Type} (f:α→Nat) {l:List α} {i:Nat} (hi:i<l.length):iP f l=iP f (l.eraseIdx i)+f l[i]:=by
  obtain ⟨e,_,e3⟩:=b7c hi
  have h:iP f l=iP f (l.take i++l[i]::l.drop (i+1)):=congrArg (iP f) e
  rw [h,e3,qO,qO,fN];omega
theorem b6a {α:Type} (f:α→Nat) {l:List α} {i:Nat} (hi:i<l.length) (x:α):iP f (l.set i x)=iP f (l.eraseIdx i)+f x:=by
  obtain ⟨_,e2,e3⟩:=b7c hi
  rw [e2,e3,qO,qO,fN];omega
theorem mO {α:Type} {f g:α→Nat} {l:List α} (h:∀ x∈l,f x=g x):iP f l=iP g l:=by
  unfold iP;rw [List.map_congr_left h]
theorem e4u {f g:Nat→Nat} {n i:Nat} (hi:i<n) (h:∀ j,j<n→j≠i→g j=f j):iP g (List.range n)+f i=iP f (List.range n)+g i:=by
  induction n with
  |zero=>omega
  |succ n ih=>
   rw [List.range_succ,qO,qO,fN,fN,vA,vA]
   by_cases hn:i=n
   · subst hn
     have:iP g (List.range i)=iP f (List.range i):=mO fun j hj=>h j (by have:=List.mem_range.1 hj;omega) (by have:=List.mem_range.1 hj;omega)
     omega
   · have:=ih (om) fun j hj=>h j (om)
     have:=h n (om) (om)
     omega
def wA (c:Cfg):Nat:=3*c.cores.toNat+9
def wM (c:Cfg) (m:Msg):Nat:=if m.kind=3 then 4 else 3*c.cores.toNat+1
def wS (m:Msg):Nat:=if m.kind=4∨m.kind=5∨m.kind=6 then 3 else 2
def wE (c:Cfg) (e:QE):Nat:=if e.st then iP wS e.sends else if e.m.kind=3 then 3 else 3*c.cores.toNat
def wN (c:Cfg) (n:Nets):Nat:=iP (wM c) n.l0+2*n.l1.length+n.l2.length
def wH (c:Cfg) (x:HomS):Nat:=iP (wE c) x.q
def wC (a:CaS):Nat:=2*a.mis.length+5*a.ways.countP bC
def wU (tr:List (Int×Bool)) (p:Nat):Nat:=if (iE tr (p:Int)).getD false then 0 else 1
def uI (a:CaS) (line kind:Int):Bool:=a.mis.any fun m=>decide (m.line=line)&& !m.owes&& (decide (m.kind=2)|| decide (kind=1))
def wD (c:Cfg) (k:CoS) (a:CaS):Nat:=if gH k=true∧(bV k).kind≠4∧uI a (bB c (bV k)) (bD (bV k))=true then 1 else 0
def wO (c:Cfg) (k:CoS):Nat:=iP (fun p=>1+wA c*wU k.tr p) ((List.range k.l.length).drop k.rs.length)
def wK (c:Cfg) (k:CoS) (a:CaS):Nat:=wO c k+wA c*(k.l.length-k.rs.length-wD c k a)
def wI (c:Cfg) (s:MaS) (i:Nat):Nat:=wK c (s.ks.getD i coZ) (s.cs.getD i caZ)+wC (s.cs.getD i caZ)
def wT (c:Cfg) (s:MaS):Nat:=iP (wI c s) (List.range c.cores.toNat)+wN c s.n+iP (wH c) s.hs
section
variable {c:Cfg} {ps:List (List Op3)} {n:Nat} {s:MaS}
theorem f3b (k:CoS) (a:CaS):wD c k a≤1:=by unfold wD;split<;>omega
theorem e4v {k:CoS} (h:k.rs.length<k.l.length):wO c k=1+wA c*wU k.tr k.rs.length+iP (fun p=>1+wA c*wU k.tr p) ((List.range k.l.length).drop (k.rs.length+1)):=by
  unfold wO
  rw [List.drop_eq_getElem_cons (by simpa using h),fN,List.getElem_range]
theorem d6b {m r p:Nat} (h:p∈(List.range m).drop r):r≤p∧p<m:=by
  obtain ⟨j,hj,e⟩:=List.getElem_of_mem h
  rw [List.getElem_drop,List.getElem_range] at e
  simp at hj
  omega
theorem e4w {l:List (Int×Bool)} {k j:Int} (h:j≠k):iE (b1i l k) j=iE l j:=by
  unfold b1i
  induction l with
  |nil=>rfl
  |cons p r ih=>
   rw [List.eraseP_cons]
   by_cases hp:p.1=k
   · rw [decide_eq_true hp]
     simp only [cond_true]
     rw [iR,if_neg (om)]
   · rw [decide_eq_false hp]
     simp only [cond_false]
     rw [iR,iR,ih]
theorem b1v {α:Type} {l:List α} {i j:Nat} {a d:α}:(l.set i a).getD j d=if j=i∧i<l.length then a else l.getD j d:=by
  rw [List.getD_eq_getElem?_getD,List.getElem?_set,List.getD_eq_getElem?_getD]
  by_cases h:i=j
  · subst h
    by_cases h2:i<l.length<;>simp [h2]
  · rw [if_neg h,if_neg (fun g=>h g.1.symm)]
theorem c5k {k:CoS} {a a':CaS} {v:Int} (h:gH k=true) (hl:k.rs.length≤k.l.length):wK c (sB k v) a'+1≤wK c k a:=by
  have hlt:k.rs.length<k.l.length:=by
    unfold gH qA at h
    simp at h
    omega
  unfold wK
  rw [e4v hlt]
  have e1:wO c (sB k v)=iP (fun p=>1+wA c*wU k.tr p) ((List.range k.l.length).drop (k.rs.length+1)):=by
    unfold wO sB
    dsimp only
    rw [List.length_append,List.length_singleton]
    refine mO fun p hp=>?_
    have:=d6b hp
    unfold wU
    rw [e4w (om)]
  have e2:(sB k v).l.length-(sB k v).rs.length-wD c (sB k v) a'≤k.l.length-k.rs.length-wD c k a:=by
    have:=f3b (c:=c) k a
    show k.l.length-(k.rs++[v]).length-_≤_
    rw [List.length_append,List.length_singleton]
    omega
  have:=Nat.mul_le_mul_left (wA c) e2
  rw [e1]
  omega
theorem a8l {k:CoS} {a a':CaS} (h:uI a (bB c (bV k)) (bD (bV k))=true→uI a' (bB c (bV k)) (bD (bV k))=true):wK c k a'≤wK c k a:=by
  have:wD c k a≤wD c k a':=by
    unfold wD
    by_cases g:gH k=true∧(bV k).kind≠4∧uI a (bB c (bV k)) (bD (bV k))=true
    · rw [if_pos g,if_pos ⟨g.1,g.2.1,h g.2.2⟩];exact Nat.le_refl _
    · rw [if_neg g];exact Nat.zero_le _
  unfold wK
  have:=Nat.mul_le_mul_left (wA c) (show k.l.length-k.rs.length-wD c k a'≤k.l.length-k.rs.length-wD c k a by omega)
  omega
theorem c7r {k:CoS} {a a':CaS} (h:a'.mis=a.mis):wK c k a'=wK c k a:=by
  unfold wK wD uI;rw [h]
theorem a8m {l:List Way} {i:Nat} (hi:i<l.length) (x:Way):(l.set i x).countP bC+(if bC l[i] then 1 else 0)=l.countP bC+if bC x then 1 else 0:=by
  rw [List.countP_set hi]
  have:bC l[i]=true→1≤l.countP bC:=fun h=>List.countP_pos_iff.2 ⟨_,List.getElem_mem hi,h⟩
  split
  · rename_i h;have:=this h;omega
  · omega
theorem c5l {l:List Way} {line:Int} (hp:cJ c l line≠ -1):∃ i,∃ hi:i<l.length,cT c line+(cJ c l line).toNat=i∧l[i]=aP c l line∧bC l[i]=true:=by
  have h0:0≤cJ c l line:=by
    refine Decidable.byContradiction fun g=>hp ?_
    exact (dL (p:=oG line) (l:=bW c l line) (show ¬0≤cJ c l line from g)).1
  obtain ⟨j,hj,e,h1,_⟩:=cR (p:=oG line) (l:=bW c l line) h0
  have e':cJ c l line=j:=e
  unfold bW at hj
  split at hj
  · rename_i hl
    have hj':=hj
    rw [List.length_take,List.length_drop] at hj'
    have hi:cT c line+j<l.length:=by omega
    have ej:(bW c l line)[j]'(by unfold bW;rw [if_pos hl];exact hj)=l[cT c line+j]:=by
      unfold bW
      simp only [if_pos hl,List.getElem_take,List.getElem_drop]
    refine ⟨cT c line+j,hi,by rw [e',Int.toNat_natCast],?_,?_⟩
    · unfold aP
      rw [if_neg (om),e',Int.toNat_natCast,List.getD_eq_getElem?_getD,List.getElem?_eq_getElem (by unfold bW;rw [if_pos hl];exact hj),ej];rfl
    · have h1':oG line ((bW c l line)[j]'(by unfold bW;rw [if_pos hl];exact hj))=true:=h1
      rw [ej] at h1'
      unfold oG at h1'
      simp only [Bool.and_eq_true] at h1'
      exact h1'.1
  · cases hj
theorem c0v {l:List Way} {line:Int} {lk:Bool}:(fS c l line lk).countP bC≤l.countP bC:=by
  unfold fS
  split
  · rename_i h
    have hp:cJ c l line≠ -1:=fun g=>by unfold a5d at h;rw [if_pos g] at h;cases h
    obtain ⟨i,hi,e,ew,ht⟩:=c5l hp
    rw [e]
    have:=a8m hi { aP c l line with lk:=lk}
    rw [ht,if_pos rfl] at this
    split at this<;>omega
  · exact Nat.le_refl _
theorem a1u {l:List Way} {line st:Int} {w:Words}:(fD c l line st w).countP bC≤l.countP bC:=by
  unfold fD
  split
  · rename_i h
    have hp:cJ c l line≠ -1:=fun g=>by unfold pE at h;rw [if_pos g] at h;cases h
    obtain ⟨i,hi,e,ew,ht⟩:=c5l hp
    rw [e]
    have:=a8m hi { aP c l line with st:=st,words:=if st=0 then .zero else w}
    rw [ht,if_pos rfl] at this
    have h1:∀ b:Bool,(if b=true then 1 else 0)≤1:=fun b=>by cases b<;>decide
    have:=h1 (bC { aP c l line with st:=st,words:=if st=0 then .zero else w})
    omega
  · exact Nat.le_refl _
theorem e4x {l:List Way} {line way:Int}:(kR c l line way).countP bC≤l.countP bC+1:=by
  unfold kR
  split
  · by_cases hi:cT c line+way.toNat<l.length
    · have:=a8m hi ⟨0,line,.zero,true⟩
      split at this<;>split at this<;>omega
    · rw [List.set_eq_of_length_le (om)];omega
  · omega
theorem b0s (k:CaS) (line:Int):(cC c k line).ways.countP bC≤k.ways.countP bC:=by
  unfold cC;split
  · exact a1u
  · exact Nat.le_refl _
theorem d6c (k:CaS) (core:Int) (m:Msg):(aS c core k m).ways.countP bC≤k.ways.countP bC:=by
  have htell:∀ (line st:Int) (g:Bool),(cQ c k line st g).ways.countP bC≤k.ways.countP bC:=fun line st g=>by
    unfold cQ
    split
    · exact a1u
    · split<;>exact Nat.le_refl _
  unfold aS
  split
  · split
    · exact htell _ _ _
    · split
      · exact htell _ _ _
      · split
        · split
          · unfold i5;split
            · exact a1u
            · exact Nat.le_refl _
          · exact Nat.le_refl _
        · split
          · unfold lH;split
            · exact b0s _ _
            · exact Nat.le_refl _
          · split
            · unfold sC;split
              · exact b0s _ _
              · exact Nat.le_refl _
            · split
              · unfold pB;split
                · exact b0s _ _
                · exact Nat.le_refl _
              · exact Nat.le_refl _
  · exact Nat.le_refl _
theorem e4y (k:CaS) (core:Int) (m:Msg):(aS c core k m).mis.length=k.mis.length:=by
  have h:=congrArg List.length (a9h (l:=k.mis) (line:=m.line) (acks:=m.acks) (own:=m.own) (w:=m.words))
  have h2:=congrArg List.length (a2b (l:=k.mis) (line:=m.line) (acks:=m.acks))
  have h3:=congrArg List.length (b7q (l:=k.mis) (line:=m.line))
  simp only [List.length_map] at h h2 h3
  have hfill:∀ (k:CaS) (line:Int),(cC c k line).mis.length=k.mis.length:=fun k line=>by
    have h4:=congrArg List.length (d9q (l:=k.mis) (line:=line))
    simp only [List.length_map] at h4
    unfold cC
    split
    · exact h4
    · rfl
  unfold aS
  split
  · split
    · unfold cQ;split
      · rfl
      · split<;>rfl
    · split
      · unfold cQ;split
        · rfl
        · split<;>rfl
      · split
        · split
          · unfold i5;split<;>rfl
          · rfl
        · split
          · unfold lH;split
            · rw [hfill];exact h
            · rfl
          · split
            · unfold sC;split
              · rw [hfill];exact h2
              · rfl
            · split
              · unfold pB;split
                · rw [hfill];exact h3
                · rfl
              · rfl
  · rfl
theorem z9 {i:Int} {a':CaS} (hl:MaL c n s) (hi:0≤i∧i<c.cores) (k':CoS) {d:Nat} (h:wK c k' a'+wC a'+d≤wK c (cO s i) (bI s i)+wC (bI s i)) {s':MaS} (hk:s'.ks=s.ks.set i.toNat k') (hc:s'.cs=s.cs.set i.toNat a') :
    iP (wI c s') (List.range c.cores.toNat)+d≤iP (wI c s) (List.range c.cores.toNat):=by
  have h1:=hl.lk
  have h2:=hl.la
  have hu:=e4u (f:=wI c s) (g:=wI c s') (n:=c.cores.toNat) (i:=i.toNat) (om) fun j hj hne=>by
    unfold wI
    rw [hk,hc,b1v,b1v,if_neg (fun g=>hne g.1),if_neg (fun g=>hne g.1)]
  have e1:wI c s' i.toNat=wK c k' a'+wC a':=by
    unfold wI
    rw [hk,hc,b1v,b1v,if_pos ⟨rfl,om⟩,if_pos ⟨rfl,om⟩]
  have e2:wI c s i.toNat=wK c (cO s i) (bI s i)+wC (bI s i):=rfl
  omega
theorem vB (i:Int):s.ks=s.ks.set i.toNat (cO s i):=by unfold cO;rw [bP]
theorem e4z (i:Int):s.cs=s.cs.set i.toNat (bI s i):=by unfold bI;rw [bP]
def wX (c:Cfg) (m:Msg):Nat:=if c6 m.kind=0 then wM c m else if c6 m.kind=1 then 2 else 1
theorem yY (x:Nets) (m:Msg):wN c (eJ c x m)≤wN c x+wX c m:=by
  unfold eJ
  split
  · rename_i hm
    have key:∀ k:Int,eY x k=eY x k:=fun _=>rfl
    unfold a4o
    rcases c0a hm with g|g|g
    · rw [g]
      have e:wX c m=wM c m:=by unfold wX;rw [if_pos g]
      rw [e]
      show iP (wM c) (if _ then x.l0 else x.l0++[m])+2*x.l1.length+x.l2.length≤iP (wM c) x.l0+2*x.l1.length+x.l2.length+_
      split
      · omega
      · rw [qO,fN,vA];omega
    · rw [g]
      have e:wX c m=2:=by unfold wX;rw [if_neg (om),if_pos g]
      rw [e]
      show iP (wM c) x.l0+2*(if _ then x.l1 else x.l1++[m]).length+x.l2.length≤iP (wM c) x.l0+2*x.l1.length+x.l2.length+_
      split
      · omega
      · rw [List.length_append,List.length_singleton];omega
    · rw [g]
      have e:wX c m=1:=by unfold wX;rw [if_neg (om),if_neg (om)]
      rw [e]
      show iP (wM c) x.l0+2*x.l1.length+(if _ then x.l2 else x.l2++[m]).length≤iP (wM c) x.l0+2*x.l1.length+x.l2.length+_
      split
      · omega
      · rw [List.length_append,List.length_singleton];omega
  · omega
theorem a8n {x:Nets} {k j:Int} (h:gN x k j=true):wN c (aH x k j)+(if k=0 then wM c (aG x k j) else if k=1 then 2 else 1)=wN c x:=by
  have hi:0≤j∧j<(eY x k).length:=by unfold gN d4w at h;exact of_decide_eq_true h
  have hj:j.toNat<(eY x k).length:=by omega
  have hT:oQ (eY x k) j=(eY x k).eraseIdx j.toNat:=by unfold oQ;rw [show d4w (eY x k) j=true from h];rfl
  have hM:aG x k j=(eY x k)[j.toNat]:=by
    unfold aG e6z
    rw [show d4w (eY x k) j=true from h,if_pos rfl,List.getD_eq_getElem?_getD,List.getElem?_eq_getElem hj];rfl
  unfold aH
  rw [hT]
  rcases b5y h with rfl|rfl|rfl
  · rw [if_pos rfl,hM]
    show iP (wM c) (x.l0.eraseIdx j.toNat)+2*x.l1.length+x.l2.length+wM c (x.l0[j.toNat]'hj)=iP (wM c) x.l0+2*x.l1.length+x.l2.length
    have:=a5q (wM c) (l:=x.l0) (i:=j.toNat) hj
    omega
  · rw [if_neg (by decide),if_pos rfl]
    have hj':j.toNat<x.l1.length:=hj
    show iP (wM c) x.l0+2*(x.l1.eraseIdx j.toNat).length+x.l2.length+2=iP (wM c) x.l0+2*x.l1.length+x.l2.length
    rw [List.length_eraseIdx_of_lt hj'];omega
  · rw [if_neg (by decide),if_neg (by decide)]
    have hj':j.toNat<x.l2.length:=hj
    show iP (wM c) x.l0+2*x.l1.length+(x.l2.eraseIdx j.toNat).length+1=iP (wM c) x.l0+2*x.l1.length+x.l2.length
    rw [List.length_eraseIdx_of_lt hj'];omega
end
end
end Go.Sx
