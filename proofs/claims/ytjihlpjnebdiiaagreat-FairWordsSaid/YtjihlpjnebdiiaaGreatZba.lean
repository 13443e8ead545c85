/- FaF, FaG, FaR, FaW, FaW1, FaW2: several of my texts as one. My own work. -/
import Derived.Test.YtjihlpjnebdiiaaGreatZaz
set_option linter.unusedVariables false
set_option linter.unusedSectionVars false
set_option linter.unusedSimpArgs false
set_option maxRecDepth 100000
set_option maxHeartbeats 4000000
namespace Go.Sx
open Go Go.Proofs
section
section
variable {c:Cfg} {ps:List (List Op3)} {n:Nat} {s:MaS}
theorem b0k {a:CaS} (hn:(iI a).Nodup) {L kd:Int}:uI a L kd=true↔∃ m,yB a L=some m∧m.ow=false∧(m.kind=2∨kd=1):=by
  unfold uI
  rw [List.any_eq_true]
  constructor
  · rintro ⟨m,hm,hp⟩
    simp at hp
    obtain ⟨j,hj,rfl⟩:=List.getElem_of_mem hm
    have:=b7d (f:=c9w) hj fun k hk hkj e=>by
      exact (List.pairwise_iff_getElem.1 hn) k j (by simpa [iI] using hk) (by simpa [iI] using hj) hkj (by simpa [iI] using e)
    have e2:c9w a.mis[j]=L:=hp.1.1
    rw [e2] at this
    exact ⟨f2i a.mis[j],by unfold yB;rw [this];rfl,hp.1.2,hp.2⟩
  · rintro ⟨m,hm,h1,h2⟩
    unfold yB at hm
    cases e:fk c9w a.mis L with
    |none=>rw [e] at hm;cases hm
    |some x=>
     rw [e] at hm
     obtain ⟨g1,g2⟩:=b5x e
     cases hm
     have g2':x.line=L:=g2
     have h1':x.owes=false:=h1
     refine ⟨x,g1,?_⟩
     have h2':x.kind=2∨kd=1:=h2
     rcases h2' with h|h<;>simp [g2',h1',h]
theorem e9h {k:CaS} (h:lD c n k) (hb:gD k=true):wC (dY c k)+2≤wC k∧∀ L kd,uI k L kd=true→uI (dY c k) L kd=true:=by
  obtain ⟨he,i,hi,e1,e2,e3⟩:=a3s h.2.1.nd hb
  have hk:dY c k=⟨fS c k.ways (cG k) false,k.mis.eraseIdx i,k.buf⟩:=by
    unfold dY
    rw [if_pos hb]
    unfold i4
    rw [if_pos he,e1,Int.toNat_natCast]
  rw [hk]
  refine ⟨?_,fun L kd hs=>?_⟩
  · unfold wC
    dsimp only
    have:=c0v (c:=c) (l:=k.ways) (line:=cG k) (lk:=false)
    rw [List.length_eraseIdx_of_lt hi]
    omega
  · unfold uI at hs ⊢
    obtain ⟨m,hm,hp⟩:=List.any_eq_true.1 hs
    refine List.any_eq_true.2 ⟨m,?_,hp⟩
    obtain ⟨j,hj,rfl⟩:=List.getElem_of_mem hm
    refine List.mem_eraseIdx_iff_getElem.2 ⟨j,hj,fun g=>?_,rfl⟩
    subst g
    rw [e3] at hp
    simp at hp
theorem d8s {k:CaS} {line kind:Int} (he:dV c k line kind=0):wC (bM c k line kind)≤wC k+7∧(∀ L kd,uI k L kd=true→uI (bM c k line kind) L kd=true)∧(∀ kd,uI k line kd=false)∧∀ kd,kind=2∨kd=1→uI (bM c k line kind) line kd=true:=by
  have hk:bM c k line kind=⟨if jA c k.ways line then fS c k.ways line true else kR c k.ways line (cZ c k.ways line),jS c.mshrs k.mis line kind,k.buf⟩:=by unfold bM;rw [if_pos he]
  have he':=he
  unfold dV at he'
  split at he'
  · cases he'
  · rename_i g1
    split at he'
    · cases he'
    · rename_i g2
      split at he'
      · cases he'
      · rename_i g3
        have m0:dB k.mis line=false:=by cases e:dB k.mis line with|false=>rfl|true=>exact absurd (.inl e) g2
        have ho:jS c.mshrs k.mis line kind=k.mis++[⟨line,kind,-1,0,0,.zero,false,false⟩]:=by
          have e0:q9 c.mshrs k.mis line kind=0:=by
            unfold q9
            rw [if_neg (om),if_neg (by rw [m0];simp),if_neg g3]
          unfold jS
          rw [if_pos e0]
        rw [hk,ho]
        refine ⟨?_,fun L kd hs=>?_,fun kd=>?_,fun kd hkd=>?_⟩
        · unfold wC
          dsimp only
          rw [List.length_append,List.length_singleton]
          split
          · have:=c0v (c:=c) (l:=k.ways) (line:=line) (lk:=true);omega
          · have:=e4x (c:=c) (l:=k.ways) (line:=line) (way:=cZ c k.ways line);omega
        · unfold uI at hs ⊢
          dsimp only
          rw [List.any_append,hs];rfl
        · cases e:uI k line kd with
          |false=>rfl
          |true=>
           unfold uI at e
           obtain ⟨m,hm,hp⟩:=List.any_eq_true.1 e
           simp at hp
           have:=b1k m0
           rw [a8h] at this
           exact absurd hp.1.1 (this m hm)
        · unfold uI
          dsimp only
          rw [List.any_append]
          rcases hkd with h|h<;>simp [h]
theorem f2u {k:CaS} (hI:cF c k.ways) {sw w:Int} (he:lM c k sw w=0):wC (d5 c k sw w)+5≤wC k∧(d5 c k sw w).mis=k.mis:=by
  have hk:d5 c k sw w=⟨fD c k.ways (oH c k.ways sw w).line 0 .zero,k.mis,if 2≤(oH c k.ways sw w).st then mD c.writebacks k.buf (oH c k.ways sw w).line (oH c k.ways sw w).words else k.buf⟩:=by unfold d5;rw [if_pos he]
  rw [hk]
  refine ⟨?_,rfl⟩
  unfold lM at he
  split at he
  · cases he
  · rename_i g1
    split at he
    · cases he
    · rename_i g2
      have hst:(oH c k.ways sw w).st≠0:=fun g=>g1 (.inr g)
      have hlk:(oH c k.ways sw w).lk=false:=by cases e:(oH c k.ways sw w).lk with|false=>rfl|true=>exact absurd e g2
      have hv:=b7o hI (vH hst) (a9y hst)
      obtain ⟨_,_,_,_,hfw⟩:=a2u hv
      have hp:cJ c k.ways (oH c k.ways sw w).line≠ -1:=fun g=>by rw [rZ g] at hv;cases hv
      obtain ⟨i,hi,e,ew,ht⟩:=c5l hp
      have hset:pE c k.ways (oH c k.ways sw w).line 0 .zero=0:=by
        unfold pE
        rw [if_neg hp,if_neg]
        rw [tH];simp
      have hL:fD c k.ways (oH c k.ways sw w).line 0 .zero=k.ways.set i ⟨0,(oH c k.ways sw w).line,.zero,(oH c k.ways sw w).lk⟩:=by
        unfold fD
        rw [if_pos hset,e,hfw];rfl
      unfold wC
      dsimp only
      rw [hL]
      have:=a8m hi ⟨0,(oH c k.ways sw w).line,.zero,(oH c k.ways sw w).lk⟩
      rw [ht,if_pos rfl] at this
      have h0:bC ⟨0,(oH c k.ways sw w).line,.zero,(oH c k.ways sw w).lk⟩=false:=by unfold bC;rw [hlk];rfl
      rw [h0] at this
      simp only [Bool.false_eq_true,if_false] at this
      omega
theorem e7b (k:CaS) (x:Op3):wC (dR c k x)≤wC k∧(dR c k x).mis=k.mis:=by
  unfold dR
  split
  · refine ⟨?_,rfl⟩
    unfold wC
    dsimp only
    have:=a1u (c:=c) (l:=k.ways) (line:=bS c x.addr) (st:=4) (w:=d2d c (aP c k.ways (bS c x.addr)).words x)
    omega
  · exact ⟨Nat.le_refl _,rfl⟩
theorem c7j (k:CaS) (core:Int) (m:Msg):wC (aS c core k m)≤wC k:=by
  unfold wC
  have:=d6c (c:=c) k core m
  have:=e4y (c:=c) k core m
  omega
theorem c7k {α:Type} {f g:α→Nat} {l:List α} (hl:l.Nodup) {x:α} (hx:x∈l) (h:∀ y∈l,y≠x→g y=f y):iP g l+f x=iP f l+g x:=by
  induction l with
  |nil=>cases hx
  |cons a l ih=>
   rw [fN,fN]
   obtain ⟨h1,h2⟩:=List.nodup_cons.1 hl
   rcases List.mem_cons.1 hx with rfl|hx'
   · have:iP g l=iP f l:=mO fun y hy=>h y (List.mem_cons_of_mem _ hy) (fun e=>h1 (e▸hy))
     omega
   · have:=ih h2 hx' fun y hy=>h y (List.mem_cons_of_mem _ hy)
     have:=h a (List.mem_cons_self ..) (fun e=>h1 (e▸hx'))
     omega
theorem e9i {k:CoS} {d:Int} (h:xT k d=true):wO c (iO k d)+wA c=wO c k:=by
  unfold xT iY at h
  simp only [Bool.and_eq_true,Bool.not_eq_true'] at h
  obtain ⟨h1,h2⟩:=h
  unfold oS at h1
  simp at h1
  obtain ⟨p,hp⟩:∃ p:Nat,(k.rs.length:Int)+d=p:=⟨((k.rs.length:Int)+d).toNat,om⟩
  have hmem:p∈(List.range k.l.length).drop k.rs.length:=by
    refine List.mem_iff_getElem.2 ⟨p-k.rs.length,by simp;omega,?_⟩
    rw [List.getElem_drop,List.getElem_range];omega
  have hnd:((List.range k.l.length).drop k.rs.length).Nodup:=List.Nodup.sublist (List.drop_sublist _ _) List.nodup_range
  have:=c7k (f:=fun p=>1+wA c*wU k.tr p) (g:=fun p=>1+wA c*wU (iO k d).tr p) hnd hmem fun y hy hne=>by
    unfold wU iO
    dsimp only
    rw [pL,hp,if_neg (show ¬((y:Int)=(p:Int)) by omega)]
  have e1:wU k.tr p=1:=by
    unfold wU
    rw [←hp,h2];rfl
  have e2:wU (iO k d).tr p=0:=by
    unfold wU iO
    dsimp only
    rw [pL,hp,if_pos rfl];rfl
  rw [e1,e2] at this
  have e3:wO c (iO k d)=iP (fun p=>1+wA c*wU (iO k d).tr p) ((List.range k.l.length).drop k.rs.length):=rfl
  have e4:wO c k=iP (fun p=>1+wA c*wU k.tr p) ((List.range k.l.length).drop k.rs.length):=rfl
  rw [e3,e4]
  simp only [Nat.mul_one,Nat.mul_zero] at this
  omega
theorem b5w {core kind line:Int} {w:Words}:wX c (cP c core kind line w)=if c6 kind=0 then (if kind=3 then 4 else 3*c.cores.toNat+1) else if c6 kind=1 then 2 else 1:=rfl
theorem ko (hl:MaL c n s) {i:Int} (hi:0≤i∧i<c.cores):(cO s i).rs.length≤(cO s i).l.length:=by
  have:=hl.lk
  have hlt:i.toNat<s.ks.length:=by omega
  have e:cO s i=s.ks[i.toNat]:=by unfold cO;rw [List.getD_eq_getElem?_getD,List.getElem?_eq_getElem hlt];rfl
  rw [e]
  exact (hl.kp _ (List.getElem_mem hlt)).2
theorem e9j (hl:MaL c n s) {i:Int} (hi:0≤i∧i<c.cores) (hb:gD (bI s i)=true):wT c (d1s c s i)+1≤wT c s:=by
  obtain ⟨g1,g2⟩:=e9h (hl.cai i) hb
  have hK:=a8l (c:=c) (k:=cO s i) (a:=bI s i) (a':=dY c (bI s i)) (g2 _ _)
  have hI:=z9 hl hi (cO s i) (a':=dY c (bI s i)) (d:=2) (om) (s':=d1s c s i) (vB i) rfl
  have hm:wX c (jG c i (bI s i))=1:=by
    unfold jG
    rw [if_pos hb,b5w];rfl
  have hN:=yY (c:=c) s.n (jG c i (bI s i))
  show iP (wI c (d1s c s i)) (List.range c.cores.toNat)+wN c (eJ c s.n (jG c i (bI s i)))+iP (wH c) s.hs+1≤iP (wI c s) (List.range c.cores.toNat)+wN c s.n+iP (wH c) s.hs
  omega
theorem e3t (hl:MaL c n s) {i:Int} (hi:0≤i∧i<c.cores) {x:Op3} (hh:gH (cO s i)=true) (hd:lG c s i x=true):wT c (jE c s i x)+1≤wT c s:=by
  have e:jE c s i x=nZ (dN s i (dR c (bI s i) x)) i x (lN c (bI s i) x):=by unfold jE;rw [if_pos hd]
  rw [e]
  obtain ⟨g1,g2⟩:=e7b (c:=c) (bI s i) x
  have hK:=c5k (c:=c) (k:=cO s i) (a:=bI s i) (a':=dR c (bI s i) x) (v:=lN c (bI s i) x) hh (ko hl hi)
  have hI:=z9 hl hi (sB (cO s i) (lN c (bI s i) x)) (a':=dR c (bI s i) x) (d:=1) (om) (s':=nZ (dN s i (dR c (bI s i) x)) i x (lN c (bI s i) x)) rfl rfl
  show iP _ _+wN c s.n+iP (wH c) s.hs+1≤iP (wI c s) (List.range c.cores.toNat)+wN c s.n+iP (wH c) s.hs
  omega
theorem e9k (hl:MaL c n s) {i:Int} (hi:0≤i∧i<c.cores) {x:Op3} {v:Int} (hh:gH (cO s i)=true):wT c (nZ s i x v)+1≤wT c s:=by
  have hK:=c5k (c:=c) (k:=cO s i) (a:=bI s i) (a':=bI s i) (v:=v) hh (ko hl hi)
  have hI:=z9 hl hi (sB (cO s i) v) (a':=bI s i) (d:=1) (om) (s':=nZ s i x v) rfl (e4z i)
  show iP _ _+wN c s.n+iP (wH c) s.hs+1≤iP (wI c s) (List.range c.cores.toNat)+wN c s.n+iP (wH c) s.hs
  omega
theorem a8f (x:Op3):bD x=1∨bD x=2:=by unfold bD;split<;>simp
theorem d8t {i line kind:Int} {k:CaS} (hk:kind=1∨kind=2) (he:dV c k line kind=0):wX c (d9 c i k line kind)=3*c.cores.toNat+1:=by
  unfold d9
  rw [if_pos he,b5w]
  rcases hk with rfl|rfl<;>rfl
theorem e9l (hl:MaL c n s) {i:Int} (hi:0≤i∧i<c.cores) (hh:gH (cO s i)=true) (h4:(bV (cO s i)).kind≠4) (he:nC c s i (bV (cO s i))=0):wT c (a7e c s i (bV (cO s i)))+1≤wT c s:=by
  obtain ⟨g1,g2,g3,g4⟩:=d8s he
  have hk:=a8f (bV (cO s i))
  have d0:wD c (cO s i) (bI s i)=0:=by unfold wD;rw [if_neg (by rw [g3];simp)]
  have d1:wD c (cO s i) (bM c (bI s i) (bB c (bV (cO s i))) (bD (bV (cO s i))))=1:=by
    unfold wD
    rw [if_pos ⟨hh,h4,g4 _ (om)⟩]
  have hlt:(cO s i).rs.length<(cO s i).l.length:=by
    have:=ko hl hi
    unfold gH qA at hh
    simp at hh
    omega
  have hK:wK c (cO s i) (bM c (bI s i) (bB c (bV (cO s i))) (bD (bV (cO s i))))+wA c=wK c (cO s i) (bI s i):=by
    unfold wK
    rw [d0,d1]
    have:(cO s i).l.length-(cO s i).rs.length-0=((cO s i).l.length-(cO s i).rs.length-1)+1:=by omega
    rw [this,Nat.mul_add,Nat.mul_one];omega
  have hA:wA c=3*c.cores.toNat+9:=rfl
  have hI:=z9 hl hi (cO s i) (a':=bM c (bI s i) (bB c (bV (cO s i))) (bD (bV (cO s i)))) (d:=3*c.cores.toNat+2) (om) (s':=a7e c s i (bV (cO s i))) (vB i) rfl
  have hN:=yY (c:=c) s.n (d9 c i (bI s i) (bB c (bV (cO s i))) (bD (bV (cO s i))))
  rw [d8t hk he] at hN
  show iP (wI c (a7e c s i (bV (cO s i)))) (List.range c.cores.toNat)+wN c (eJ c s.n _)+iP (wH c) s.hs+1≤iP (wI c s) (List.range c.cores.toNat)+wN c s.n+iP (wH c) s.hs
  omega
theorem e3u (hl:MaL c n s) {i d:Int} (hi:0≤i∧i<c.cores) (ha:xT (cO s i) d=true) (he:nC c s i (iF (cO s i) d)=0):wT c (a7e c (a6a s i (iO (cO s i) d)) i (iF (cO s i) d))+1≤wT c s:=by
  obtain ⟨g1,g2,g3,g4⟩:=d8s he
  have hk:=a8f (iF (cO s i) d)
  have hO:=e9i (c:=c) ha
  have hK:wK c (iO (cO s i) d) (bM c (bI s i) (bB c (iF (cO s i) d)) (bD (iF (cO s i) d)))+wA c≤wK c (cO s i) (bI s i):=by
    have hm:=a8l (c:=c) (k:=cO s i) (a:=bI s i) (a':=bM c (bI s i) (bB c (iF (cO s i) d)) (bD (iF (cO s i) d))) (g2 _ _)
    have:wK c (iO (cO s i) d) (bM c (bI s i) (bB c (iF (cO s i) d)) (bD (iF (cO s i) d)))+wA c=wK c (cO s i) (bM c (bI s i) (bB c (iF (cO s i) d)) (bD (iF (cO s i) d))):=by
      unfold wK
      have e:wD c (iO (cO s i) d) (bM c (bI s i) (bB c (iF (cO s i) d)) (bD (iF (cO s i) d)))=wD c (cO s i) (bM c (bI s i) (bB c (iF (cO s i) d)) (bD (iF (cO s i) d))):=rfl
      rw [e]
      show wO c (iO (cO s i) d)+wA c*((cO s i).l.length-(cO s i).rs.length-_)+wA c=_
      omega
    omega
  have hA:wA c=3*c.cores.toNat+9:=rfl
  have hI:=z9 hl hi (iO (cO s i) d) (a':=bM c (bI s i) (bB c (iF (cO s i) d)) (bD (iF (cO s i) d))) (d:=3*c.cores.toNat+2) (om) (s':=a7e c (a6a s i (iO (cO s i) d)) i (iF (cO s i) d)) rfl rfl
  have hN:=yY (c:=c) s.n (d9 c i (bI s i) (bB c (iF (cO s i) d)) (bD (iF (cO s i) d)))
  rw [d8t hk he] at hN
  show iP (wI c (a7e c (a6a s i (iO (cO s i) d)) i (iF (cO s i) d))) (List.range c.cores.toNat)+wN c (eJ c s.n (d9 c i (bI s i) (bB c (iF (cO s i) d)) (bD (iF (cO s i) d))))+iP (wH c) s.hs+1≤iP (wI c s) (List.range c.cores.toNat)+wN c s.n+iP (wH c) s.hs
  omega
theorem f2v (hl:MaL c n s) {i w:Int} {x:Op3} (hi:0≤i∧i<c.cores) (he:lM c (bI s i) (eU c x) w=0):wT c (a7f c s i x w)+1≤wT c s:=by
  obtain ⟨g1,g2⟩:=f2u (hl.cai i).1.1 he
  have hK:=c7r (c:=c) (k:=cO s i) g2
  unfold a7f
  split
  · rename_i hb
    have hI:=z9 hl hi (cO s i) (a':=d5 c (bI s i) (eU c x) w) (d:=5) (om) (s':=dX c (dN s i (d5 c (bI s i) (eU c x) w)) (mV c i (bI s i) (eU c x) w)) (vB i) rfl
    have hN:=yY (c:=c) s.n (mV c i (bI s i) (eU c x) w)
    have hm:wX c (mV c i (bI s i) (eU c x) w)=4:=by
      unfold mV
      rw [if_pos hb,b5w];rfl
    show iP (wI c (dX c _ _)) (List.range c.cores.toNat)+wN c (eJ c s.n (mV c i (bI s i) (eU c x) w))+iP (wH c) s.hs+1≤iP (wI c s) (List.range c.cores.toNat)+wN c s.n+iP (wH c) s.hs
    omega
  · have hI:=z9 hl hi (cO s i) (a':=d5 c (bI s i) (eU c x) w) (d:=5) (om) (s':=dN s i (d5 c (bI s i) (eU c x) w)) (vB i) rfl
    show iP _ _+wN c s.n+iP (wH c) s.hs+1≤iP (wI c s) (List.range c.cores.toNat)+wN c s.n+iP (wH c) s.hs
    omega
theorem e9m (hl:MaL c n s) {i w:Int} (hi:0≤i∧i<c.cores) (hb:dO c s i w=true):wT c (c8 c s i w)+1≤wT c s:=by
  unfold dO at hb
  unfold c8
  split at hb
  · rename_i g;rw [if_pos g];exact e9j hl hi g.2
  · rename_i g0
    rw [if_neg g0]
    split at hb
    · cases hb
    · rename_i hh
      have hh':gH (cO s i)=true:=by simpa using hh
      rw [if_neg hh]
      split at hb
      · rename_i h4
        rw [if_pos h4,if_pos (of_decide_eq_true hb)]
        exact e9k hl hi hh'
      · rename_i h4
        rw [if_neg h4]
        split at hb
        · rename_i hd;rw [if_pos hd];exact e3t hl hi hh' hd
        · rename_i hd
          rw [if_neg hd]
          split at hb
          · cases hb
          · rename_i hr
            rw [if_neg hr]
            split at hb
            · rename_i he;rw [if_pos he];exact e9l hl hi hh' h4 he
            · rename_i he
              rw [if_neg he]
              split at hb
              · rename_i h5
                rw [if_pos h5]
                simp only [Bool.and_eq_true,decide_eq_true_eq] at hb
                exact f2v hl hi hb.1
              · cases hb
theorem d5k (hl:MaL c n s) {i d:Int} (hi:0≤i∧i<c.cores) (hb:jI c s i d=true):wT c (eE c s i d)+1≤wT c s:=by
  unfold jI at hb
  unfold eE
  split at hb
  · cases hb
  · rename_i g
    rw [if_neg g]
    split at hb
    · rename_i he
      rw [if_pos he]
      exact e3u hl hi (by cases e:xT (cO s i) d with|true=>rfl|false=>exact absurd (.inl e) g) he
    · cases hb
end
end
section
section
variable {c:Cfg} {ps:List (List Op3)} {n:Nat} {s:MaS}
theorem b7b (hl:MaL c n s) {d:Int} (hd:0≤d∧d<c.homes) (x:HomS):iP (wH c) (s.hs.set d.toNat x)+wH c (bU s d)=iP (wH c) s.hs+wH c x:=by
  have hr:=c4y hl hd
  rw [b6a _ hr,a5q _ hr]
  have:bU s d=s.hs[d.toNat]:=by unfold bU;rw [List.getD_eq_getElem?_getD,List.getElem?_eq_getElem hr];rfl
  rw [this];omega
theorem d1u {s':MaS} (h1:s'.ks=s.ks) (h2:s'.cs=s.cs):iP (wI c s') (List.range c.cores.toNat)=iP (wI c s) (List.range c.cores.toNat):=by
  refine mO fun i _=>?_
  unfold wI;rw [h1,h2]
theorem e9n (hl:MaL c n s) {j:Int} (hb:gN s.n 0 j=true) (he:lC c (aG s.n 0 j).dst (bU s (aG s.n 0 j).dst) (aG s.n 0 j)=0) :
    wT c (dZ (dU s (aG s.n 0 j).dst (iZ c (aG s.n 0 j).dst (bU s (aG s.n 0 j).dst) (aG s.n 0 j))) (aH s.n 0 j))+1≤wT c s:=by
  have hmem:=hl.nt 0 _ (dQ hb)
  have hh:cK (aG s.n 0 j).kind:=by
    have:=hmem.2
    unfold c6 at this
    unfold cK
    split at this
    · exact .inl (by assumption)
    · split at this
      · omega
      · split at this<;>omega
  have hr:=lO hmem.1 hh
  rw [b2p he]
  have hN:=a8n (c:=c) hb
  rw [if_pos rfl] at hN
  have hH:=b7b hl hr ⟨(bU s (aG s.n 0 j).dst).es,(bU s (aG s.n 0 j).dst).ms,(bU s (aG s.n 0 j).dst).q++[⟨aG s.n 0 j,false,[]⟩],(bU s (aG s.n 0 j).dst).odd⟩
  have hX:wH c ⟨(bU s (aG s.n 0 j).dst).es,(bU s (aG s.n 0 j).dst).ms,(bU s (aG s.n 0 j).dst).q++[⟨aG s.n 0 j,false,[]⟩],(bU s (aG s.n 0 j).dst).odd⟩+1≤wH c (bU s (aG s.n 0 j).dst)+wM c (aG s.n 0 j):=by
    unfold wH
    dsimp only
    rw [qO,fN,vA]
    have:wE c ⟨aG s.n 0 j,false,[]⟩+1≤wM c (aG s.n 0 j):=by
      unfold wE wM
      dsimp only
      rw [if_neg (by decide)]
      split<;>omega
    omega
  have hI:=d1u (c:=c) (s:=s) (s':=dZ (dU s (aG s.n 0 j).dst ⟨(bU s (aG s.n 0 j).dst).es,(bU s (aG s.n 0 j).dst).ms,(bU s (aG s.n 0 j).dst).q++[⟨aG s.n 0 j,false,[]⟩],(bU s (aG s.n 0 j).dst).odd⟩) (aH s.n 0 j)) rfl rfl
  show iP _ _+wN c (aH s.n 0 j)+iP (wH c) (s.hs.set (aG s.n 0 j).dst.toNat _)+1≤iP (wI c s) (List.range c.cores.toNat)+wN c s.n+iP (wH c) s.hs
  omega
theorem c0p {k:CaS} {core:Int} {m:Msg} (hk:m.kind=4∨m.kind=5∨m.kind=6∨m.kind=10):(aS c core k m).mis=k.mis:=by
  have htell:∀ (line st:Int) (g:Bool),(cQ c k line st g).mis=k.mis:=fun line st g=>by
    unfold cQ
    split
    · rfl
    · split<;>rfl
  unfold aS
  split
  · split
    · exact htell _ _ _
    · split
      · exact htell _ _ _
      · split
        · split
          · unfold i5;split<;>rfl
          · rfl
        · rw [if_neg (om),if_neg (om),if_neg (om)];rfl
  · rfl
theorem d0o {k:CaS} {core:Int} {m:Msg}:c6 (eF c core k m).kind≠0∧c6 (eF c core k m).kind≠1:=by
  have hz:c6 Msg.zero.kind≠0∧c6 Msg.zero.kind≠1:=by decide
  have htell:∀ own,c6 (jJ c core k m own).kind≠0∧c6 (jJ c core k m own).kind≠1:=fun own=>by
    unfold jJ
    split
    · show c6 7≠0∧c6 7≠1;decide
    · exact hz
  unfold eF
  split
  · split
    · exact htell _
    · split
      · exact htell _
      · split
        · unfold a1a
          split
          · show c6 9≠0∧c6 9≠1;decide
          · exact hz
        · exact hz
  · exact hz
theorem e3v (hl:MaL c n s) {j:Int} (hb:gN s.n 1 j=true):wT c (dD c (dZ s (aH s.n 1 j)) (aG s.n 1 j))+1≤wT c s:=by
  have hmem:=hl.nt 1 _ (dQ hb)
  have hk:=xA hl hb
  have hk':(aG s.n 1 j).kind=4∨(aG s.n 1 j).kind=5∨(aG s.n 1 j).kind=6:=by
    unfold c6 at hk
    split at hk
    · omega
    · split at hk
      · omega
      · split at hk<;>omega
  have hd:=kY hmem.1 (by unfold cK;omega)
  have hN:=a8n (c:=c) hb
  rw [if_neg (by decide),if_pos rfl] at hN
  have hW:=c7j (c:=c) (bI s (aG s.n 1 j).dst) (aG s.n 1 j).dst (aG s.n 1 j)
  have hK:=c7r (c:=c) (k:=cO s (aG s.n 1 j).dst) (c0p (c:=c) (k:=bI s (aG s.n 1 j).dst) (core:=(aG s.n 1 j).dst) (m:=aG s.n 1 j) (om))
  have hS:=yY (c:=c) (aH s.n 1 j) (eF c (aG s.n 1 j).dst (bI s (aG s.n 1 j).dst) (aG s.n 1 j))
  have hx:wX c (eF c (aG s.n 1 j).dst (bI s (aG s.n 1 j).dst) (aG s.n 1 j))=1:=by
    obtain ⟨a,b⟩:=d0o (c:=c) (k:=bI s (aG s.n 1 j).dst) (core:=(aG s.n 1 j).dst) (m:=aG s.n 1 j)
    unfold wX
    rw [if_neg a,if_neg b]
  have key:∀ t:MaS,t.ks=s.ks→t.cs=s.cs.set (aG s.n 1 j).dst.toNat (aS c (aG s.n 1 j).dst (bI s (aG s.n 1 j).dst) (aG s.n 1 j))→iP (wI c t) (List.range c.cores.toNat)+0≤iP (wI c s) (List.range c.cores.toNat):=fun t e1 e2=>
    z9 hl hd (cO s (aG s.n 1 j).dst) (d:=0) (om) (e1.trans (vB _)) e2
  unfold dD
  split
  · have:=key (dX c (j9 (dN (dZ s (aH s.n 1 j)) (aG s.n 1 j).dst (aS c (aG s.n 1 j).dst (bI (dZ s (aH s.n 1 j)) (aG s.n 1 j).dst) (aG s.n 1 j))) (decide (bO c (aG s.n 1 j).dst (bI (dZ s (aH s.n 1 j)) (aG s.n 1 j).dst) (aG s.n 1 j)≠0))) (eF c (aG s.n 1 j).dst (bI (dZ s (aH s.n 1 j)) (aG s.n 1 j).dst) (aG s.n 1 j))) rfl rfl
    show iP (wI c (dX c _ _)) (List.range c.cores.toNat)+wN c (eJ c (aH s.n 1 j) (eF c (aG s.n 1 j).dst (bI s (aG s.n 1 j).dst) (aG s.n 1 j)))+iP (wH c) s.hs+1≤iP (wI c s) (List.range c.cores.toNat)+wN c s.n+iP (wH c) s.hs
    omega
  · have:=key (j9 (dN (dZ s (aH s.n 1 j)) (aG s.n 1 j).dst (aS c (aG s.n 1 j).dst (bI (dZ s (aH s.n 1 j)) (aG s.n 1 j).dst) (aG s.n 1 j))) (decide (bO c (aG s.n 1 j).dst (bI (dZ s (aH s.n 1 j)) (aG s.n 1 j).dst) (aG s.n 1 j)≠0))) rfl rfl
    show iP (wI c (j9 _ _)) (List.range c.cores.toNat)+wN c (aH s.n 1 j)+iP (wH c) s.hs+1≤iP (wI c s) (List.range c.cores.toNat)+wN c s.n+iP (wH c) s.hs
    omega
theorem b0l {n':Nat} {a k1:CaS} (hn0:(iI a).Nodup) (hx:lD c n' k1) {line:Int} {m m1:AMs Words} (hm0:yB a line=some m) (hm1:∀ x,yB k1 x=if x=line then some m1 else yB a x) (how:m.ow=false) (how1:m1.ow=false) (hk1:m1.kind=m.kind)
    (hown:(m1.kind=2∧(m1.needs=m1.got→m1.own=4))∨(m1.kind=1∧(m1.own=1∨m1.own=2))) {L kd:Int} (hkd:kd=1∨kd=2) (hs:uI a L kd=true) :
    uI (cC c k1 line) L kd=true∨(L=line∧mU c (cC c k1 line) L kd=true):=by
  obtain ⟨x,e1,e2,e3⟩:=(b0k hn0).1 hs
  have hn1:(iI k1).Nodup:=hx.2.1.nd
  have hL1:∃ y,yB k1 L=some y∧y.ow=false∧(y.kind=2∨kd=1):=by
    rw [hm1]
    by_cases g:L=line
    · rw [if_pos g]
      refine ⟨m1,rfl,how1,?_⟩
      subst g
      have:x=m:=by rw [hm0] at e1;cases e1;rfl
      subst this
      rcases e3 with g2|g2
      · exact .inl (hk1.trans g2)
      · exact .inr g2
    · rw [if_neg g];exact ⟨x,e1,e2,e3⟩
  have hm1l:yB k1 line=some m1:=by rw [hm1,if_pos rfl]
  by_cases hg:m1.needs=m1.got
  · have hrng:0≤m1.own∧m1.own≤4:=by
      rcases hown with ⟨a1,a2⟩|⟨a1,a2⟩
      · have:=a2 hg;omega
      · omega
    have ev:=c6t hx hm1l hg how1 hrng
    by_cases g:L=line
    · right
      refine ⟨g,?_⟩
      have hst:(aP c (cC c k1 line).ways L).st=m1.own:=by
        have:=ev.st L
        rw [if_pos g] at this
        exact this
      unfold mU
      rw [hst]
      obtain ⟨y,f1,f2,f3⟩:=hL1
      have hy:y=m1:=by rw [g,hm1l] at f1;cases f1;rfl
      subst hy
      rcases hkd with rfl|rfl
      · rw [if_pos rfl]
        refine decide_eq_true ?_
        rcases hown with ⟨a1,a2⟩|⟨a1,a2⟩
        · have:=a2 hg;omega
        · omega
      · rw [if_neg (by decide)]
        refine decide_eq_true ?_
        have f3':y.kind=2:=by omega
        rcases hown with ⟨a1,a2⟩|⟨a1,a2⟩
        · have:=a2 hg;omega
        · omega
    · left
      obtain ⟨y,f1,f2,f3⟩:=hL1
      have hx2:(iI (cC c k1 line)).Nodup:=by
        have:=(b7r (line:=line) hx.1.1 hx.2.1).nd
        exact this
      refine (b0k hx2).2 ⟨y,?_,f2,f3⟩
      rw [ev.ms,if_neg g];exact f1
  · left
    rw [a3h (c:=c) hm1l (.inl hg)]
    exact (b0k hn1).2 hL1
theorem d5l (h:LT c s) (hl:MaL c n s) {j:Int} (hb:gN s.n 2 j=true) (h11:(aG s.n 2 j).kind≠11) {L kd:Int} (hkd:kd=1∨kd=2) (hs:uI (bI s (aG s.n 2 j).dst) L kd=true) :
    uI (aS c (aG s.n 2 j).dst (bI s (aG s.n 2 j).dst) (aG s.n 2 j)) L kd=true∨(L=(aG s.n 2 j).line∧mU c (aS c (aG s.n 2 j).dst (bI s (aG s.n 2 j).dst) (aG s.n 2 j)) L kd=true):=by
  have hk:=xA hl hb
  have hmay:=(hl.nt 2 _ (dQ hb)).1
  have hk':(aG s.n 2 j).kind=7∨(aG s.n 2 j).kind=8∨(aG s.n 2 j).kind=9∨(aG s.n 2 j).kind=10:=by
    unfold c6 at hk
    split at hk
    · omega
    · split at hk
      · omega
      · split at hk<;>omega
  have hd:=kY hmay (by unfold cK;omega)
  have hlok:=uZ hmay
  have hok:=uX hmay (om)
  have hf:=(lE (c:=c) (line:=(aG s.n 2 j).line) hb (.inr rfl)).2
  rw [if_pos rfl] at hf
  have hLI:=(h.1 _ hlok).1
  have hx:=hl.cai (aG s.n 2 j).dst
  obtain ⟨v1,v2,v3,v4⟩:=e0o (c:=c) (s:=s) (line:=(aG s.n 2 j).line) hd.1
  generalize aG s.n 2 j=m at *
  have hin:=hf.mem_iff.2 (List.mem_cons_self ..)
  rcases hk' with g|g|g|g
  · have hA:qM m= .data m.dst m.own m.acks m.words:=f0l g
    rw [hA] at hin
    obtain ⟨a,a1,a2,a3,a4,a5⟩:=c0i hLI hin
    have a1':yB (bI s m.dst) m.line=some a:=v3.symm.trans a1
    obtain ⟨hE,ev⟩:=a9z (c:=c) (w:=m.words) a1' a2 a4 a5
    have hK:aS c m.dst (bI s m.dst) m=cC c ⟨(bI s m.dst).ways,iW (bI s m.dst).mis m.line m.acks m.own m.words,(bI s m.dst).buf⟩ m.line:=by
      unfold aS lH
      rw [if_pos hok,if_neg (om),if_neg (om),if_neg (om),if_pos g,if_pos hE]
    have hx':lD c (n+1) ⟨(bI s m.dst).ways,iW (bI s m.dst).mis m.line m.acks m.own m.words,(bI s m.dst).buf⟩:=
      ⟨⟨hx.1.1,hx.1.2.1,b6j (fun m hm=>vG (Nat.le_succ n) (hx.1.2.2 m hm))⟩,by
        have:=hx.2.1
        unfold c1v iI at this ⊢
        dsimp only
        rw [a9h];exact this,hx.2.2.1,b5f hx.2.2.2.1 (a9w hmay),hx.2.2.2.2⟩
    rw [hK]
    refine b0l hx.2.1.nd hx' a1' ev.ms a3 a3 rfl ?_ hkd hs
    rcases a5 with ⟨b1,b2⟩|⟨b1,b2,b3⟩
    · exact .inl ⟨b1,fun _=>b2⟩
    · exact .inr ⟨b1,b3⟩
  · have hA:qM m= .grant m.dst m.acks:=by
      unfold qM
      rw [if_neg (om),if_neg (om),if_neg (om),if_neg (om),if_neg (om),if_neg (om),if_pos g]
    rw [hA] at hin
    obtain ⟨a,a1,a2,a3,a4,a5,a6⟩:=a7r hLI hin
    have a1':yB (bI s m.dst) m.line=some a:=v3.symm.trans a1
    obtain ⟨hE,ev⟩:=b3f (c:=c) a1' a2 a4 a5
    have hGE:a5i c (bI s m.dst) m=0:=by
      unfold a5i
      have:(aP c (bI s m.dst).ways m.line).st=3:=v1.symm.trans a6
      rw [if_pos this,hE];rfl
    have hK:aS c m.dst (bI s m.dst) m=cC c ⟨(bI s m.dst).ways,gL (bI s m.dst).mis m.line m.acks,(bI s m.dst).buf⟩ m.line:=by
      unfold aS sC
      rw [if_pos hok,if_neg (om),if_neg (om),if_neg (om),if_neg (om),if_pos g,if_pos hGE]
    have hx':lD c (n+1) ⟨(bI s m.dst).ways,gL (bI s m.dst).mis m.line m.acks,(bI s m.dst).buf⟩:=
      ⟨⟨hx.1.1,hx.1.2.1,b0z (fun m hm=>vG (Nat.le_succ n) (hx.1.2.2 m hm))⟩,by
        have:=hx.2.1
        unfold c1v iI at this ⊢
        dsimp only
        rw [a2b];exact this,hx.2.2.1,a9v hx.2.2.2.1,hx.2.2.2.2⟩
    rw [hK]
    exact b0l hx.2.1.nd hx' a1' ev.ms a3 a3 rfl (.inl ⟨a5,fun _=>rfl⟩) hkd hs
  · have hA:qM m= .ack m.dst:=by
      unfold qM
      rw [if_neg (om),if_neg (om),if_neg (om),if_neg (om),if_neg (om),if_neg (om),if_neg (om),if_pos g]
    rw [hA] at hin
    obtain ⟨a,a1,a2,a3,a4,a5,a6⟩:=c0j hLI hin
    have a1':yB (bI s m.dst) m.line=some a:=v3.symm.trans a1
    obtain ⟨hE,ev⟩:=c6s (c:=c) a1' (om) a4
    have hK:aS c m.dst (bI s m.dst) m=cC c ⟨(bI s m.dst).ways,nS (bI s m.dst).mis m.line,(bI s m.dst).buf⟩ m.line:=by
      unfold aS pB
      rw [if_pos hok,if_neg (om),if_neg (om),if_neg (om),if_neg (om),if_neg (om),if_pos g,if_pos hE]
    have hx':lD c (n+1) ⟨(bI s m.dst).ways,nS (bI s m.dst).mis m.line,(bI s m.dst).buf⟩:=
      ⟨⟨hx.1.1,hx.1.2.1,c5o hx.1.2.2⟩,by
        have:=hx.2.1
        unfold c1v iI at this ⊢
        dsimp only
        rw [b7q];exact this,hx.2.2.1,c5c hx.2.2.2.1,hx.2.2.2.2⟩
    rw [hK]
    refine b0l hx.2.1.nd hx' a1' ev.ms a2 a2 rfl (.inl ⟨a3,fun e=>?_⟩) hkd hs
    have e':a.needs=a.got+1:=e
    exact a5 (om)
  · left
    have:=c0p (c:=c) (k:=bI s m.dst) (core:=m.dst) (m:=m) (om)
    unfold uI at hs ⊢
    rw [this];exact hs
theorem e3w (h:LT c s) (hl:MaL c n s) {j:Int} (hb:gN s.n 2 j=true) (h11:(aG s.n 2 j).kind≠11):wT c (i3 c (dD c (dZ s (aH s.n 2 j)) (aG s.n 2 j)) (aG s.n 2 j))+1≤wT c s:=by
  have hmem:=hl.nt 2 _ (dQ hb)
  have hk:=xA hl hb
  have hk':7≤(aG s.n 2 j).kind∧(aG s.n 2 j).kind≤10:=by
    unfold c6 at hk
    split at hk
    · omega
    · split at hk
      · omega
      · split at hk<;>omega
  have hd:=kY hmem.1 (by unfold cK;omega)
  have hN:=a8n (c:=c) hb
  rw [if_neg (by decide),if_neg (by decide)] at hN
  have hcan:=fun L kd hkd hs=>d5l (L:=L) (kd:=kd) h hl hb h11 hkd hs
  have hW:=c7j (c:=c) (bI s (aG s.n 2 j).dst) (aG s.n 2 j).dst (aG s.n 2 j)
  have hB:dP c (aG s.n 2 j).dst (bI s (aG s.n 2 j).dst) (aG s.n 2 j)=false:=by unfold dP;exact decide_eq_false (om)
  have hT:dD c (dZ s (aH s.n 2 j)) (aG s.n 2 j)=j9 (dN (dZ s (aH s.n 2 j)) (aG s.n 2 j).dst (aS c (aG s.n 2 j).dst (bI s (aG s.n 2 j).dst) (aG s.n 2 j))) (decide (bO c (aG s.n 2 j).dst (bI s (aG s.n 2 j).dst) (aG s.n 2 j)≠0)):=by
    unfold dD
    exact if_neg (by show ¬dP c (aG s.n 2 j).dst (bI s (aG s.n 2 j).dst) (aG s.n 2 j)=true;rw [hB];simp)
  rw [hT]
  have hkl:=ko hl hd
  have hop:=fun hh=>c2l (i:=(aG s.n 2 j).dst) hl hh
  have hla:=hl.la
  generalize aG s.n 2 j=m at *
  generalize hdo:decide (bO c m.dst (bI s m.dst) m≠0)=od at *
  generalize ha':aS c m.dst (bI s m.dst) m=a' at *
  generalize hn':aH s.n 2 j=n' at *
  have ea:bI (j9 (dN (dZ s n') m.dst a') od) m.dst=a':=by
    show (s.cs.set m.dst.toNat a').getD m.dst.toNat caZ=a'
    rw [b1v,if_pos ⟨rfl,om⟩]
  have ek:cO (j9 (dN (dZ s n') m.dst a') od) m.dst=cO s m.dst:=rfl
  unfold i3
  rw [ek]
  by_cases hc:gH (cO s m.dst)=true∧(bV (cO s m.dst)).kind≠4∧bB c (bV (cO s m.dst))=m.line
  · rw [if_pos hc]
    unfold jE
    cases hD:lG c (j9 (dN (dZ s n') m.dst a') od) m.dst (bV (cO s m.dst)) with
    |true=>
     rw [if_pos rfl,ea]
     obtain ⟨g1,g2⟩:=e7b (c:=c) a' (bV (cO s m.dst))
     have hK:=c5k (c:=c) (k:=cO s m.dst) (a:=bI s m.dst) (a':=dR c a' (bV (cO s m.dst))) (v:=lN c a' (bV (cO s m.dst))) hc.1 hkl
     have hI:=z9 hl hd (sB (cO s m.dst) (lN c a' (bV (cO s m.dst)))) (a':=dR c a' (bV (cO s m.dst))) (d:=1) (om) (s':=nZ (dN (j9 (dN (dZ s n') m.dst a') od) m.dst (dR c a' (bV (cO s m.dst)))) m.dst (bV (cO s m.dst)) (lN c a' (bV (cO s m.dst)))) rfl (by
       show (s.cs.set m.dst.toNat a').set m.dst.toNat _=_
       rw [List.set_set])
     show iP _ _+wN c n'+iP (wH c) s.hs+1≤iP (wI c s) (List.range c.cores.toNat)+wN c s.n+iP (wH c) s.hs
     omega
    |false=>
     rw [if_neg (by simp)]
     have hnot:mU c a' (bB c (bV (cO s m.dst))) (bD (bV (cO s m.dst)))=false:=by
       cases e:mU c a' (bB c (bV (cO s m.dst))) (bD (bV (cO s m.dst))) with
       |false=>rfl
       |true=>
        exfalso
        unfold lG at hD
        rw [ea] at hD
        obtain ⟨o1,o2⟩:=hop hc.1
        have hap:d7f c (bV (cO s m.dst))=0:=by
          have hok:fR c (bV (cO s m.dst)).addr=true:=by
            unfold fR
            unfold fO at o2
            rw [if_pos hl.ok] at o2
            unfold sQ at o1
            rw [if_neg hc.2.1] at o1
            have:0≤(bV (cO s m.dst)).addr:=by
              split at o1
              · simp at o1;exact o1.1.1
              · split at o1
                · simp at o1;exact o1.1.1.1
                · cases o1
            rw [hl.ok,decide_eq_true ⟨this,o2⟩];rfl
          unfold d7f xJ
          rw [hok,o1,decide_eq_false hc.2.1];rfl
        unfold mW at hD
        rw [if_pos hap] at hD
        unfold bB at e
        rw [e] at hD;cases hD
     have hK:=a8l (c:=c) (k:=cO s m.dst) (a:=bI s m.dst) (a':=a') fun hs=>by
       rcases hcan _ _ (a8f _) hs with g|⟨_,g⟩
       · exact g
       · rw [hnot] at g;cases g
     have hI:=z9 hl hd (cO s m.dst) (a':=a') (d:=0) (om) (s':=j9 (dN (dZ s n') m.dst a') od) (vB _) rfl
     show iP _ _+wN c n'+iP (wH c) s.hs+1≤iP (wI c s) (List.range c.cores.toNat)+wN c s.n+iP (wH c) s.hs
     omega
  · rw [if_neg hc]
    have hK:wK c (cO s m.dst) a'≤wK c (cO s m.dst) (bI s m.dst):=by
      by_cases hg:gH (cO s m.dst)=true∧(bV (cO s m.dst)).kind≠4
      · refine a8l fun hs=>?_
        rcases hcan _ _ (a8f _) hs with g|⟨g,_⟩
        · exact g
        · exact absurd ⟨hg.1,hg.2,g⟩ hc
      · have:wD c (cO s m.dst) a'=wD c (cO s m.dst) (bI s m.dst):=by
          unfold wD
          rw [if_neg (fun g=>hg ⟨g.1,g.2.1⟩),if_neg (fun g=>hg ⟨g.1,g.2.1⟩)]
        unfold wK
        rw [this];exact Nat.le_refl _
    have hI:=z9 hl hd (cO s m.dst) (a':=a') (d:=0) (om) (s':=j9 (dN (dZ s n') m.dst a') od) (vB _) rfl
    show iP _ _+wN c n'+iP (wH c) s.hs+1≤iP (wI c s) (List.range c.cores.toNat)+wN c s.n+iP (wH c) s.hs
    omega
theorem e3x (hl:MaL c n s) {j:Int} (hb:gN s.n 2 j=true) (h11:(aG s.n 2 j).kind=11):wT c (yL c (dZ s (aH s.n 2 j)) (aG s.n 2 j))+1≤wT c s:=by
  have hmem:=hl.nt 2 _ (dQ hb)
  have hr:=lO hmem.1 (.inr h11)
  have hN:=a8n (c:=c) hb
  rw [if_neg (by decide),if_neg (by decide)] at hN
  have hH:=b7b hl hr (fI c (aG s.n 2 j).dst (bU s (aG s.n 2 j).dst) (aG s.n 2 j))
  have hX:wH c (fI c (aG s.n 2 j).dst (bU s (aG s.n 2 j).dst) (aG s.n 2 j))≤wH c (bU s (aG s.n 2 j).dst):=by
    unfold fI
    split
    · unfold wH
      dsimp only
      unfold r8
      split
      · exact Nat.le_refl _
      · rename_i g
        obtain ⟨i,hi,e,_⟩:=cR (p:=lQ (aG s.n 2 j).line (aG s.n 2 j).src) (l:=(bU s (aG s.n 2 j).dst).q) (om)
        rw [e,Int.toNat_natCast]
        have:=a5q (wE c) hi
        omega
    · exact Nat.le_refl _
  have hI:=d1u (c:=c) (s:=s) (s':=yL c (dZ s (aH s.n 2 j)) (aG s.n 2 j)) rfl rfl
  show iP _ _+wN c (aH s.n 2 j)+iP (wH c) (s.hs.set (aG s.n 2 j).dst.toNat (fI c (aG s.n 2 j).dst (bU s (aG s.n 2 j).dst) (aG s.n 2 j)))+1≤iP (wI c s) (List.range c.cores.toNat)+wN c s.n+iP (wH c) s.hs
  omega
theorem e3y (h:LT c s) (hl:MaL c n s) {k j:Int} (hb:fQ c s k j=true):wT c (d8 c s k j)+1≤wT c s:=by
  unfold fQ at hb
  unfold d8
  split at hb
  · cases hb
  · rename_i g
    rw [if_neg g]
    have hn:gN s.n k j=true:=by cases e:gN s.n k j with|true=>rfl|false=>exact absurd (.inl e) g
    rcases b5y hn with rfl|rfl|rfl
    · rw [if_pos rfl] at hb ⊢
      rw [if_pos (of_decide_eq_true hb)]
      exact e9n hl hn (of_decide_eq_true hb)
    · rw [if_neg (by decide),if_pos rfl]
      exact e3v hl hn
    · rw [if_neg (by decide),if_neg (by decide)]
      split
      · rename_i h11;exact e3x hl hn h11
      · rename_i h11;exact e3w h hl hn h11
theorem e3z {α β:Type} (f:β→Nat) (g:α→β) (l:List α):iP f (l.map g)=iP (fun x=>f (g x)) l:=by unfold iP;rw [List.map_map];rfl
theorem xV {α:Type} (k:Nat) (l:List α):iP (fun _=>k) l=k*l.length:=by
  induction l with
  |nil=>rfl
  |cons a l ih=>rw [fN,ih,List.length_cons,Nat.mul_add];omega
theorem d0p:∀ {A B:List Int},A.Nodup→(∀ x∈A,x∈B)→A.length≤B.length:=by
  intro A
  induction A with
  |nil=>intro B _ _;exact Nat.zero_le _
  |cons a A ih=>
   intro B hn hs
   obtain ⟨h1,h2⟩:=List.nodup_cons.1 hn
   have ha:=hs a (List.mem_cons_self ..)
   have:=ih (B:=B.erase a) h2 fun x hx=>(List.mem_erase_of_ne (show x≠a from fun g=>h1 (g▸hx))).2 (hs x (List.mem_cons_of_mem _ hx))
   rw [List.length_erase_of_mem ha] at this
   have:=List.length_pos_of_mem ha
   rw [List.length_cons];omega
theorem e4a {e:TEnt} {m:Msg} (hm:d6 e.s=true) (h0:0≤m.src) (h1:m.src<e.s.cores) (h2:0≤e.o) (h3:e.o<e.s.cores) (hne:e.o≠m.src):(e8 e m).length+2≤e.s.cores.toNat:=by
  unfold e8 a4y jR
  have hl:(u5 e.s.cores.toNat).length=e.s.cores.toNat:=by unfold u5;simp
  have hnd:(u5 e.s.cores.toNat).Nodup:=by
    unfold u5
    exact List.pairwise_map.2 (List.nodup_range.imp fun h g=>h (by exact_mod_cast g))
  have hin:∀ x:Int,0≤x→x<e.s.cores→x∈u5 e.s.cores.toNat:=fun x x0 x1=>List.mem_map.2 ⟨x.toNat,List.mem_range.2 (om),om⟩
  have:(((u5 e.s.cores.toNat).filter fun c=>cS e.s c&& !decide (c∈[m.src,e.o]))++[m.src,e.o]).length≤(u5 e.s.cores.toNat).length:=by
    refine d0p ?_ fun x hx=>?_
    · refine List.nodup_append.2 ⟨hnd.filter _,?_,fun a ha b hb=>?_⟩
      · simp;exact fun g=>hne g.symm
      · rintro rfl
        have h1:=(List.mem_filter.1 ha).2
        simp at h1 hb
        rcases hb with g|g
        · exact h1.2.1 g
        · exact h1.2.2 g
    · rcases List.mem_append.1 hx with g|g
      · exact (List.mem_filter.1 g).1
      · rcases List.mem_cons.1 g with rfl|g
        · exact hin _ h0 h1
        · obtain rfl:=List.mem_singleton.1 g
          exact hin _ h2 h3
  rw [List.length_append] at this
  have e2:[m.src,e.o].length=2:=rfl
  omega
theorem e4b {d:Int} {x:HomS} (hI:HmI c d x) {m:Msg} (hm:lR c d m 0=true) (hE:gC (aR x m.line) m=0) (w:Words):iP wS (cA (aR x m.line) m w)+1≤if m.kind=3 then 3 else 3*c.cores.toNat:=by
  obtain ⟨f1,f2,f3,f4,f5⟩:=iD hI.ok hm
  obtain ⟨_,g2,g3,_⟩:=sH hI f3
  have hc:=(gP hI.ok).1
  generalize aR x m.line=e at *
  obtain ⟨hok,hk⟩:=lP hE
  obtain ⟨h1,h2,h3,h4,h5⟩:=mP hok
  unfold cA
  rw [if_pos hE]
  have one:∀ y:Msg,iP wS [y]=wS y:=fun y=>by rw [fN,vA,Nat.add_zero]
  rcases hk with ⟨k,ho⟩|k|k
  · rw [if_pos k,if_neg (om)]
    unfold kF
    rw [if_neg ho]
    split
    · rw [one]
      show 3+1≤_
      omega
    · split
      · rw [one];show 2+1≤_;omega
      · rw [one];show 2+1≤_;omega
  · rw [if_neg (om),if_pos k,if_neg (om)]
    unfold tG
    rw [fN,e3z]
    have hc3:(iP (fun x=>wS (a4z m x)) (e8 e m))=3*(e8 e m).length:=xV 3 _
    rw [hc3]
    have hol:=d9b h1 h4 h5
    unfold pX
    split
    · show 2+_+1≤_;omega
    · split
      · show 2+_+1≤_;omega
      · rename_i q1 q2
        have:=e4a h1 h4 h5 (om) h3 q2
        show 3+_+1≤_;omega
  · rw [if_neg (om),if_neg (om),if_pos k,one]
    show 2+1≤3;omega
theorem e4c (h:LT c s) (hl:MaL c n s) (hf:vO c s) {d j:Int} (hd:0≤d∧d<c.homes) (hb:kA c s d j=true):wT c (c7 c s d j)+1≤wT c s:=by
  have hI:=(hl.hmi hd.1 hd.2).1
  have hF:=vJ hf hl hd
  unfold kA mT at hb
  cases hr:eZ (bU s d).q j with
  |true=>
   obtain ⟨i,hi,rfl,ea,hst,hfr⟩:=xK hr
   obtain ⟨hE,hlk,hlh⟩:=c7n h hl hf hd hi hr
   have hm:=hI.req _ (List.getElem_mem hi)
   have hX:a2k (bU s d) (i:Int)=(bU s d).q[i].m:=by unfold a2k;rw [ea]
   have eW:c7 c s d (i:Int)=dU s d (i7 c (bU s d) (i:Int)):=by
     unfold c7 e7 cE kV
     rw [if_pos hr,if_pos hr,hX,if_pos hE];rfl
   have hS0:=(uN (w:=aJ c (bU s d).ms (bU s d).q[i].m.line) hE).1
   have hS:cA (aR (bU s d) (bU s d).q[i].m.line) (bU s d).q[i].m (aJ c (bU s d).ms (bU s d).q[i].m.line)≠[]:=fun g=>by rw [g] at hS0;exact absurd hS0 (Nat.lt_irrefl _)
   have eq:(i7 c (bU s d) (i:Int)).q=(bU s d).q.set i { (bU s d).q[i] with st:=true,sends:=cA (aR (bU s d) (bU s d).q[i].m.line) (bU s d).q[i].m (aJ c (bU s d).ms (bU s d).q[i].m.line)}:=by
     rw [←(a2i hF.q hi hr hS).1]
     exact (c7m hi rfl).q
   have hnx:=e4b hI hm hE (aJ c (bU s d).ms (bU s d).q[i].m.line)
   have hH:=b7b hl hd (i7 c (bU s d) (i:Int))
   have hX2:wH c (i7 c (bU s d) (i:Int))+1≤wH c (bU s d):=by
     unfold wH
     rw [eq,b6a _ hi,a5q (wE c) hi]
     have e1:wE c (bU s d).q[i]=if (bU s d).q[i].m.kind=3 then 3 else 3*c.cores.toNat:=by unfold wE;rw [hst];rfl
     have e2:wE c { (bU s d).q[i] with st:=true,sends:=cA (aR (bU s d) (bU s d).q[i].m.line) (bU s d).q[i].m (aJ c (bU s d).ms (bU s d).q[i].m.line)}=iP wS (cA (aR (bU s d) (bU s d).q[i].m.line) (bU s d).q[i].m (aJ c (bU s d).ms (bU s d).q[i].m.line)):=rfl
     rw [e1,e2]
     omega
   rw [eW]
   have hIc:=d1u (c:=c) (s:=s) (s':=dU s d (i7 c (bU s d) (i:Int))) rfl rfl
   show iP _ _+wN c s.n+iP (wH c) (s.hs.set d.toNat (i7 c (bU s d) (i:Int)))+1≤iP (wI c s) (List.range c.cores.toNat)+wN c s.n+iP (wH c) s.hs
   omega
  |false=>
   rw [hr,if_neg (by simp)] at hb
   have hgo:=hb
   unfold gX at hgo
   simp only [Bool.and_eq_true] at hgo
   have hnb:=hgo.1
   have hin:a9o (bU s d).q j=true:=by unfold jC at hnb;simp only [Bool.and_eq_true] at hnb;exact hnb.1
   obtain ⟨i,hi,rfl,ea⟩:=a5l hin
   cases es:(bU s d).q[i].sends with
   |nil=>unfold jC at hnb;rw [hin,ea,es] at hnb;cases hnb
   |cons y r=>
    have hnm:gK (bU s d).q (i:Int)=y:=by unfold gK;rw [if_pos hnb,ea,es];rfl
    have hk:=(hI.snd _ (List.getElem_mem hi) y (by rw [es];exact List.mem_cons_self ..)).1
    have hst:(bU s d).q[i].st=true:=by
      cases e:(bU s d).q[i].st with
      |true=>rfl
      |false=>have:=hF.q.2 _ (List.getElem_mem hi) e;rw [es] at this;cases this
    have hsq:wH c ⟨(bU s d).es,(bU s d).ms,cN (bU s d).q (i:Int),(bU s d).odd⟩+wS y≤wH c (bU s d):=by
      unfold wH
      dsimp only
      have hse:lB (bU s d).q (i:Int)=0:=by unfold lB;rw [if_pos hin,ea,es];rfl
      have e0:wE c (bU s d).q[i]=wS y+iP wS r:=by unfold wE;rw [hst,if_pos rfl,es,fN]
      unfold cN
      rw [if_pos hse,ea,Int.toNat_natCast]
      split
      · have:=a5q (wE c) hi;omega
      · rw [b6a _ hi,a5q (wE c) hi]
        have:wE c { (bU s d).q[i] with sends:=(bU s d).q[i].sends.drop 1}=iP wS r:=by
          unfold wE
          dsimp only
          rw [hst,if_pos rfl,es];rfl
        omega
    have hx:wX c y+1≤wS y:=by
      unfold wX wS
      rcases c5j hk with e|e
      · have:y.kind=4∨y.kind=5∨y.kind=6:=by
          unfold c6 at e
          split at e
          · omega
          · split at e
            · omega
            · split at e<;>omega
        rw [if_neg (om),if_pos e,if_pos this];omega
      · rw [if_neg (om),if_neg (om)]
        split<;>omega
    have eK:cE c (bU s d) (i:Int) (d1v c s)=⟨(bU s d).es,(bU s d).ms,cN (bU s d).q (i:Int),(bU s d).odd⟩:=by
      unfold cE
      rw [hr,hb];rfl
    have eM:fZ (bU s d) (i:Int) (d1v c s)=y:=by
      unfold fZ
      rw [hr,hb,hnm];rfl
    have eW:c7 c s d (i:Int)=dX c (dU s d ⟨(bU s d).es,(bU s d).ms,cN (bU s d).q (i:Int),(bU s d).odd⟩) y:=by
      unfold c7 e7
      rw [hr,hb,eK,eM];rfl
    rw [eW]
    have hH:=b7b hl hd ⟨(bU s d).es,(bU s d).ms,cN (bU s d).q (i:Int),(bU s d).odd⟩
    have hN:=yY (c:=c) s.n y
    have hIc:=d1u (c:=c) (s:=s) (s':=dX c (dU s d ⟨(bU s d).es,(bU s d).ms,cN (bU s d).q (i:Int),(bU s d).odd⟩) y) rfl rfl
    show iP _ _+wN c (eJ c s.n y)+iP (wH c) (s.hs.set d.toNat ⟨(bU s d).es,(bU s d).ms,cN (bU s d).q (i:Int),(bU s d).odd⟩)+1≤iP (wI c s) (List.range c.cores.toNat)+wN c s.n+iP (wH c) s.hs
    omega
theorem e4d (h:MaI c ps n s) {p:Pk} (hb:bN c s p=true):wT c (bY c s p)+1≤wT c s:=by
  have hlk:=h.l.lk
  have hlh:=h.l.lh
  unfold bN at hb
  unfold bY
  split at hb
  · cases hb
  · rename_i g
    rw [if_neg g]
    split at hb
    · rename_i g1;rw [if_pos g1];exact e3y h.t h.l hb
    · rename_i g1
      rw [if_neg g1]
      split at hb
      · rename_i g2
        rw [if_pos g2]
        have:=g2.2
        simp only [inN,decide_eq_true_eq] at this
        exact e4c h.t h.l h.f (om) hb
      · rename_i g2
        rw [if_neg g2]
        split at hb
        · rename_i g3
          rw [if_pos g3]
          have:=g3.2
          simp only [inN,decide_eq_true_eq] at this
          exact e9m h.l (om) hb
        · rename_i g3
          rw [if_neg g3]
          split at hb
          · rename_i g4
            rw [if_pos g4]
            have:=g4.2
            simp only [inN,decide_eq_true_eq] at this
            exact d5k h.l (om) hb
          · cases hb
theorem e9o (hok:nE c ps=true):wT c (bK c ps)=iP (fun l:List Op3=>l.length) ps*(6*c.cores.toNat+19):=by
  simp only [nE,Bool.and_eq_true,decide_eq_true_eq] at hok
  obtain ⟨⟨hc,hl⟩,_⟩:=hok
  unfold wT
  have h1:wN c (bK c ps).n=0:=rfl
  have h2:iP (wH c) (bK c ps).hs=0:=by
    have:iP (wH c) (bK c ps).hs=iP (fun _=>0) (bK c ps).hs:=mO fun x hx=>by
      obtain ⟨i,_,rfl⟩:=List.mem_map.1 hx
      rfl
    rw [this,xV];omega
  have h3:iP (wI c (bK c ps)) (List.range c.cores.toNat)=iP (fun i=>(ps.getD i []).length*(6*c.cores.toNat+19)) (List.range c.cores.toNat):=by
    refine mO fun i hi=>?_
    have hi':i<ps.length:=by have:=List.mem_range.1 hi;omega
    have ek:(bK c ps).ks.getD i coZ=⟨ps[i],[],[]⟩:=by
      show (ps.map fun l=>(⟨l,[],[]⟩:CoS)).getD i coZ=_
      rw [List.getD_eq_getElem?_getD,List.getElem?_map,List.getElem?_eq_getElem hi'];rfl
    have ea:(bK c ps).cs.getD i caZ=qE c:=by
      show (ps.map fun _=>qE c).getD i caZ=_
      rw [List.getD_eq_getElem?_getD,List.getElem?_map,List.getElem?_eq_getElem hi'];rfl
    have ep:ps.getD i []=ps[i]:=by rw [List.getD_eq_getElem?_getD,List.getElem?_eq_getElem hi'];rfl
    unfold wI
    rw [ek,ea,ep]
    have hC:wC (qE c)=0:=by
      unfold wC
      have:(List.replicate (c.sets*c.ways).toNat Way.zero).countP bC=0:=by
        rw [List.countP_eq_zero]
        intro w hw
        rw [(List.mem_replicate.1 hw).2];decide
      show 2*0+5*(List.replicate (c.sets*c.ways).toNat Way.zero).countP bC=0
      rw [this]
    have hD:wD c ⟨ps[i],[],[]⟩ (qE c)=0:=by
      unfold wD uI
      rw [if_neg];simp
    have hO:wO c ⟨ps[i],[],[]⟩=(1+wA c)*ps[i].length:=by
      unfold wO
      have:iP (fun p=>1+wA c*wU (⟨ps[i],[],[]⟩:CoS).tr p) ((List.range ps[i].length).drop 0)=iP (fun _=>1+wA c) (List.range ps[i].length):=by
        rw [List.drop_zero]
        refine mO fun p _=>?_
        show 1+wA c*1=_
        omega
      show iP _ ((List.range ps[i].length).drop 0)=_
      rw [this,xV,List.length_range]
    unfold wK
    rw [hC,hD,hO]
    show (1+wA c)*ps[i].length+wA c*(ps[i].length-0-0)+0=_
    have hA:wA c=3*c.cores.toNat+9:=rfl
    rw [hA]
    generalize ps[i].length=L
    generalize c.cores.toNat=N
    rw [Nat.sub_zero,Nat.sub_zero,Nat.add_zero,←Nat.add_mul,Nat.mul_comm L]
    congr 1
    omega
  rw [h1,h2,h3]
  have h4:∀ (l:List (List Op3)) (K:Nat),iP (fun i=>(l.getD i []).length*K) (List.range l.length)=iP (fun l:List Op3=>l.length) l*K:=by
    intro l K
    have:iP (fun i=>(l.getD i []).length*K) (List.range l.length)=iP (fun x:List Op3=>x.length*K) l:=by
      unfold iP
      congr 1
      apply List.ext_getElem (by simp)
      intro i a b
      simp at a b ⊢
      rw [List.getElem?_eq_getElem b];rfl
    rw [this]
    clear this
    induction l with
    |nil=>simp [vA]
    |cons a l ih=>rw [fN,fN,ih,Nat.add_mul]
  have hN:c.cores.toNat=ps.length:=by omega
  have:=h4 ps (6*c.cores.toNat+19)
  rw [←hN] at this
  omega
end
end
section
def mny (s:MaS) (kind a:Nat):Nat:=if kind=1 then (eY s.n a).length else (s.hs.getD a a5e).q.length
def trn (c:Cfg) (kind a:Nat):Nat→MaS→Nat→Nat→MaS×Nat
  |0,s,_,did=>(s,did)
  |f+1,s,j,did=>if bN c s ⟨kind,a,j⟩ then trn c kind a f (bY c s ⟨kind,a,j⟩) (if mny (bY c s ⟨kind,a,j⟩) kind a≥mny s kind a then j+1 else j) (did+1) else trn c kind a f (bY c s ⟨kind,a,j⟩) (j+1) did
def rdT (c:Cfg) (kind:Nat) (l:List Nat) (q:MaS×Nat):MaS×Nat:=l.foldl (fun q a=>((trn c kind a (mny q.1 kind a) q.1 0 0).1,q.2+(trn c kind a (mny q.1 kind a) q.1 0 0).2)) q
def rdA (c:Cfg) (w:Int) (l:List Nat) (q:MaS×Nat):MaS×Nat:=l.foldl (fun q (i:Nat)=>(bY c q.1 ⟨0,i,w⟩,if bN c q.1 ⟨0,i,w⟩ then q.2+1 else q.2)) q
def rd (c:Cfg) (s:MaS) (w:Int):MaS×Nat:=rdA c w (List.range c.cores.toNat) (rdT c 2 (List.range c.homes.toNat) (rdT c 1 (List.range 3) (s,0)))
def rn (c:Cfg):Nat→MaS→Nat→MaS×Nat
  |0,s,n=>(s,n)
  |f+1,s,n=>if bR s then (s,n) else rn c f (rd c s n).1 (n+1)
def eQ (c:Cfg) (ps:List (List Op3)):Int:=if nE c ps then (iP (fun l:List Op3=>l.length) ps:Int)*(6*c.cores+32)+1 else 0
def Mi (c:Cfg) (ps:List (List Op3)) (s:MaS):Prop:=(∃ n,MaI c ps n s)∧xF c s
section
variable {c:Cfg} {ps:List (List Op3)} {s:MaS}
theorem Mi.pick (h:Mi c ps s) (p:Pk):Mi c ps (bY c s p):=by
  obtain ⟨⟨n,h1⟩,h2⟩:=h
  exact ⟨⟨n+1,h1.pick p⟩,d5x h1.l h2 p⟩
theorem Mi.new (h:nE c ps=true):Mi c ps (bK c ps):=⟨⟨0,MaI.new h⟩,e4t⟩
theorem Mi.picks (h:Mi c ps s) (l:List Pk):Mi c ps (cM c s l):=by
  unfold cM
  induction l generalizing s with
  |nil=>exact h
  |cons p l ih=>rw [List.foldl_cons];exact ih (h.pick p)
theorem Mi.mono (h:Mi c ps s) (p:Pk):wT c (bY c s p)+(if bN c s p then 1 else 0)≤wT c s:=by
  obtain ⟨⟨n,h1⟩,h2⟩:=h
  cases e:bN c s p with
  |true=>have:=e4d h1 e;simpa using this
  |false=>rw [b3y h1.l e];simp
theorem Mi.idle (h:Mi c ps s) {p:Pk} (e:bN c s p=false):bY c s p=s:=by
  obtain ⟨⟨n,h1⟩,h2⟩:=h
  exact b3y h1.l e
theorem e9p {kind a:Nat} (f:Nat):∀ {s:MaS} (j did:Nat),Mi c ps s→Mi c ps (trn c kind a f s j did).1∧did≤(trn c kind a f s j did).2∧wT c (trn c kind a f s j did).1+((trn c kind a f s j did).2-did)≤wT c s
    ∧((trn c kind a f s j did).2=did→(trn c kind a f s j did).1=s∧∀ i,i<f→bN c s ⟨kind,a,((j+i:Nat):Int)⟩=false):=by
  induction f with
  |zero=>intro s j did h;exact ⟨h,Nat.le_refl _,by show wT c s+(did-did)≤_;omega,fun _=>⟨rfl,fun i hi=>absurd hi (Nat.not_lt_zero _)⟩⟩
  |succ f ih=>
   intro s j did h
   have hm:=h.mono ⟨kind,a,j⟩
   unfold trn
   cases e:bN c s ⟨kind,a,j⟩ with
   |true=>
    rw [e] at hm
    rw [if_pos rfl]
    obtain ⟨a1,a2,a3,a4⟩:=ih (if mny (bY c s ⟨kind,a,j⟩) kind a≥mny s kind a then j+1 else j) (did+1) (h.pick ⟨kind,a,j⟩)
    simp only [if_true] at hm
    exact ⟨a1,om,om,fun g=>by omega⟩
   |false=>
    rw [if_neg (by simp),h.idle e]
    obtain ⟨a1,a2,a3,a4⟩:=ih (j+1) did h
    refine ⟨a1,a2,a3,fun g=>?_⟩
    obtain ⟨b1,b2⟩:=a4 g
    refine ⟨b1,fun i hi=>?_⟩
    cases i with
    |zero=>exact e
    |succ i=>have:=b2 i (om);rw [show j+(i+1)=j+1+i by omega];exact this
theorem d8u {kind:Nat} (l:List Nat):∀ {q:MaS×Nat},Mi c ps q.1→Mi c ps (rdT c kind l q).1∧q.2≤(rdT c kind l q).2∧wT c (rdT c kind l q).1+((rdT c kind l q).2-q.2)≤wT c q.1
    ∧((rdT c kind l q).2=q.2→(rdT c kind l q).1=q.1∧∀ a∈l,∀ i,i<mny q.1 kind a→bN c q.1 ⟨kind,a,(i:Nat)⟩=false):=by
  induction l with
  |nil=>intro q h;exact ⟨h,Nat.le_refl _,by show wT c q.1+(q.2-q.2)≤_;omega,fun _=>⟨rfl,fun a ha=>absurd ha (List.not_mem_nil)⟩⟩
  |cons b l ih=>
   intro q h
   obtain ⟨a1,a2,a3,a4⟩:=e9p (kind:=kind) (a:=b) (mny q.1 kind b) 0 0 h
   have e:rdT c kind (b::l) q=rdT c kind l ((trn c kind b (mny q.1 kind b) q.1 0 0).1,q.2+(trn c kind b (mny q.1 kind b) q.1 0 0).2):=rfl
   rw [e]
   obtain ⟨b1,b2,b3,b4⟩:=ih (q:=((trn c kind b (mny q.1 kind b) q.1 0 0).1,q.2+(trn c kind b (mny q.1 kind b) q.1 0 0).2)) a1
   dsimp only at b2 b3 b4
   refine ⟨b1,om,om,fun g=>?_⟩
   obtain ⟨c1,c2⟩:=a4 (om)
   obtain ⟨d1,d2⟩:=b4 (om)
   rw [c1] at d1 d2
   refine ⟨by rw [c1];exact d1,fun x hx=>?_⟩
   rcases List.mem_cons.1 hx with rfl|hx
   · intro i hi
     have:=c2 i hi
     rwa [Nat.zero_add] at this
   · exact d2 x hx
theorem e9q {w:Int} (l:List Nat):∀ {q:MaS×Nat},Mi c ps q.1→Mi c ps (rdA c w l q).1∧q.2≤(rdA c w l q).2∧wT c (rdA c w l q).1+((rdA c w l q).2-q.2)≤wT c q.1
    ∧((rdA c w l q).2=q.2→(rdA c w l q).1=q.1∧∀ a∈l,bN c q.1 ⟨0,(a:Nat),w⟩=false):=by
  induction l with
  |nil=>intro q h;exact ⟨h,Nat.le_refl _,by show wT c q.1+(q.2-q.2)≤_;omega,fun _=>⟨rfl,fun a ha=>absurd ha (List.not_mem_nil)⟩⟩
  |cons b l ih=>
   intro q h
   have hm:=h.mono ⟨0,b,w⟩
   have e:rdA c w (b::l) q=rdA c w l (bY c q.1 ⟨0,b,w⟩,if bN c q.1 ⟨0,b,w⟩ then q.2+1 else q.2):=rfl
   rw [e]
   obtain ⟨b1,b2,b3,b4⟩:=ih (q:=(bY c q.1 ⟨0,b,w⟩,if bN c q.1 ⟨0,b,w⟩ then q.2+1 else q.2)) (h.pick ⟨0,b,w⟩)
   dsimp only at b2 b3 b4
   cases e2:bN c q.1 ⟨0,b,w⟩ with
   |true=>
    rw [e2] at hm b2 b3 b4
    simp only [if_true] at hm b2 b3 b4 ⊢
    exact ⟨by rw [e2] at b1;exact b1,om,om,fun g=>by omega⟩
   |false=>
    rw [e2] at b1 b2 b3 b4
    rw [h.idle e2] at b1 b2 b3 b4 ⊢
    simp only [Bool.false_eq_true,if_false] at b1 b2 b3 b4 ⊢
    refine ⟨b1,b2,b3,fun g=>?_⟩
    obtain ⟨d1,d2⟩:=b4 g
    refine ⟨d1,fun x hx=>?_⟩
    rcases List.mem_cons.1 hx with rfl|hx
    · exact e2
    · exact d2 x hx
theorem e0f (h:Mi c ps s) (w:Int):Mi c ps (rd c s w).1∧wT c (rd c s w).1+(rd c s w).2≤wT c s∧((rd c s w).2=0→(rd c s w).1=s∧(∀ a:Nat,a<3→∀ i,i<mny s 1 a→bN c s ⟨1,a,(i:Nat)⟩=false)
    ∧(∀ a:Nat,a<c.homes.toNat→∀ i,i<mny s 2 a→bN c s ⟨2,a,(i:Nat)⟩=false)∧∀ a:Nat,a<c.cores.toNat→bN c s ⟨0,a,w⟩=false):=by
  obtain ⟨a1,a2,a3,a4⟩:=d8u (c:=c) (ps:=ps) (kind:=1) (List.range 3) (q:=(s,0)) h
  obtain ⟨b1,b2,b3,b4⟩:=d8u (c:=c) (ps:=ps) (kind:=2) (List.range c.homes.toNat) a1
  obtain ⟨d1,d2,d3,d4⟩:=e9q (c:=c) (ps:=ps) (w:=w) (List.range c.cores.toNat) b1
  dsimp only at a2 a3 a4
  refine ⟨d1,by show wT c (rdA c w _ _).1+(rdA c w _ _).2≤_;omega,fun g=>?_⟩
  have g':(rdA c w (List.range c.cores.toNat) (rdT c 2 (List.range c.homes.toNat) (rdT c 1 (List.range 3) (s,0)))).2=0:=g
  obtain ⟨x1,x2⟩:=a4 (om)
  obtain ⟨y1,y2⟩:=b4 (om)
  obtain ⟨z1,z2⟩:=d4 (om)
  rw [x1] at y1 y2
  rw [y1] at z1 z2
  exact ⟨z1,fun a ha=>x2 a (List.mem_range.2 ha),fun a ha=>y2 a (List.mem_range.2 ha),fun a ha=>z2 a (List.mem_range.2 ha)⟩
theorem b0m (h:Mi c ps s) {w:Int} (hw:0≤w) (g:(rd c s w).2=0):bR s=true:=by
  obtain ⟨_,_,f⟩:=e0f h w
  obtain ⟨_,f1,f2,f3⟩:=f g
  obtain ⟨⟨n,h1⟩,h2⟩:=h
  have hlk:=h1.l.lk
  have hlh:=h1.l.lh
  refine b8t h1 h2 hw (fun k hk j hj=>?_) (fun d d0 d1 j hj=>?_) (fun i i0 i1=>?_)
  · obtain ⟨a,ha,rfl⟩:∃ a:Nat,a<3∧k=a:=⟨k.toNat,om,om⟩
    have:=f1 a ha j (by unfold mny;rw [if_pos rfl];exact hj)
    unfold bN at this
    dsimp only at this
    rw [if_neg (om),if_pos rfl] at this
    exact this
  · obtain ⟨a,rfl⟩:∃ a:Nat,d=a:=⟨d.toNat,om⟩
    have:=f2 a (om) j (by unfold mny;rw [if_neg (by decide)];exact hj)
    unfold bN at this
    dsimp only at this
    rw [if_neg (om),if_neg (by decide),if_pos ⟨rfl,by unfold inN;exact decide_eq_true (om)⟩] at this
    exact this
  · obtain ⟨a,rfl⟩:∃ a:Nat,i=a:=⟨i.toNat,om⟩
    have:=f3 a (om)
    unfold bN at this
    dsimp only at this
    rw [if_neg (om),if_neg (by decide),if_neg (fun e=>absurd e.1 (by decide)),if_pos ⟨rfl,by unfold inN;exact decide_eq_true (om)⟩] at this
    exact this
theorem d5m {kind a:Nat} (f:Nat) (h:Mi c ps s) (hb:∀ j:Nat,bN c s ⟨kind,a,j⟩=false):∀ j did,trn c kind a f s j did=(s,did):=by
  induction f with
  |zero=>intro j did;rfl
  |succ f ih=>
   intro j did
   unfold trn
   rw [if_neg (by rw [hb j];simp),h.idle (hb j)]
   exact ih _ _
theorem a8g (h:Mi c ps s) (hq:bR s=true) (k:Int) (hk:k≠3) (a b:Int):bN c s ⟨k,a,b⟩=false:=by
  obtain ⟨q1,q2,q3,q4⟩:=oM hq
  obtain ⟨⟨n,h1⟩,h2⟩:=h
  have hn:∀ k,eY s.n k=[]:=fun k=>by
    unfold nY at q1
    obtain ⟨x1,x2⟩:=List.append_eq_nil_iff.1 q1
    obtain ⟨x3,x4⟩:=List.append_eq_nil_iff.1 x1
    unfold eY
    split
    · exact x3
    · split
      · exact x4
      · split
        · exact x2
        · rfl
  have hb:∀ k i,gN s.n k i=false:=fun k i=>by
    unfold gN d4w
    rw [hn k]
    refine decide_eq_false ?_
    simp
  unfold bN
  split
  · rfl
  · split
    · unfold fQ
      rw [if_pos (.inl (hb _ _))]
    · split
      · have hqd:(bU s a).q=[]:=nN (P:=fun x:HomS=>x.q=[]) q4 rfl
        have hin:∀ j,a9o (bU s a).q j=false:=fun j=>by unfold a9o;rw [hqd];refine decide_eq_false ?_;simp
        unfold kA mT eZ gX jC
        rw [hin]
        simp
      · split
        · have hca:(bI s a).mis=[]∧(bI s a).buf=[]:=nN (P:=fun a:CaS=>a.mis=[]∧a.buf=[]) q3 ⟨rfl,rfl⟩
          have hko:gH (cO s a)=false:=by
            have:lF (cO s a)=0:=nN (P:=fun k:CoS=>lF k=0) q2 rfl
            unfold lF at this
            unfold gH qA
            rw [decide_eq_true (om)];rfl
          unfold dO
          rw [if_neg (by unfold gD jH;rw [hca.1];simp;intro _;decide),if_pos hko]
        · rw [if_neg (fun e=>hk e.1)]
theorem e4e (h:Mi c ps s) (hq:bR s=true) (w:Int):rd c s w=(s,0):=by
  have hT:∀ (kind:Nat) (hk:(kind:Int)≠3) (l:List Nat) (d:Nat),rdT c kind l (s,d)=(s,d):=fun kind hk l=>by
    induction l with
    |nil=>intro d;rfl
    |cons b l ih=>
     intro d
     have e:rdT c kind (b::l) (s,d)=rdT c kind l ((trn c kind b (mny s kind b) s 0 0).1,d+(trn c kind b (mny s kind b) s 0 0).2):=rfl
     rw [e,d5m _ h (fun j=>a8g h hq kind hk b j)]
     exact ih d
  have hA:∀ (l:List Nat) (d:Nat),rdA c w l (s,d)=(s,d):=fun l=>by
    induction l with
    |nil=>intro d;rfl
    |cons b l ih=>
     intro d
     have e:rdA c w (b::l) (s,d)=rdA c w l (bY c s ⟨0,b,w⟩,if bN c s ⟨0,b,w⟩ then d+1 else d):=rfl
     have hf:=a8g h hq 0 (by decide) b w
     rw [e,h.idle hf,hf]
     exact ih d
  unfold rd
  rw [hT 1 (by decide),hT 2 (by decide),hA]
theorem e9r (h:Mi c ps s) {w:Int} (hw:0≤w):(rd c s w).2=0↔bR s=true:=
  ⟨b0m h hw,fun hq=>by rw [e4e h hq]⟩
theorem e0g (f:Nat):∀ {s:MaS} (n:Nat),Mi c ps s→Mi c ps (rn c f s n).1∧(rn c f s n).2≤n+f∧(wT c s<f→bR (rn c f s n).1=true):=by
  induction f with
  |zero=>intro s n h;exact ⟨h,Nat.le_refl _,fun g=>absurd g (Nat.not_lt_zero _)⟩
  |succ f ih=>
   intro s n h
   unfold rn
   split
   · rename_i hq;exact ⟨h,by show n≤_;omega,fun _=>hq⟩
   · rename_i hq
     obtain ⟨r1,r2,_⟩:=e0f h (n:Int)
     obtain ⟨a1,a2,a3⟩:=ih (n+1) r1
     refine ⟨a1,om,fun g=>a3 ?_⟩
     have:(rd c s n).2≠0:=fun e=>hq (b0m h (om) e)
     omega
theorem d5n (h:Mi c ps s) (l:List Pk):wT c (cM c s l)≤wT c s:=by
  unfold cM
  induction l generalizing s with
  |nil=>exact Nat.le_refl _
  |cons p l ih=>
   rw [List.foldl_cons]
   have:=ih (h.pick p)
   have:=h.mono p
   omega
theorem a0t (hok:nE c ps=true) (l:List Pk):bR (rn c (eQ c ps).toNat (cM c (bK c ps) l) 0).1=true:=by
  have hM:=Mi.new hok
  refine (e0g (eQ c ps).toNat 0 (hM.picks l)).2.2 ?_
  have h1:=d5n hM l
  rw [e9o hok] at h1
  have hc:1≤c.cores:=by
    have:aF c=true:=by simp only [nE,Bool.and_eq_true] at hok;exact hok.1.1
    exact (gP this).1.1
  unfold eQ
  rw [if_pos hok]
  obtain ⟨N,eN⟩:∃ N:Nat,c.cores=N:=⟨c.cores.toNat,om⟩
  rw [eN] at h1 ⊢
  generalize iP (fun l:List Op3=>l.length) ps=T at *
  have e:((T:Int)*(6*(N:Int)+32)+1).toNat=T*(6*N+32)+1:=by exact_mod_cast Int.toNat_natCast (T*(6*N+32)+1)
  rw [e]
  have h2:T*(6*N+19)≤T*(6*N+32):=Nat.mul_le_mul_left T (om)
  have e3:((N:Int)).toNat=N:=rfl
  rw [e3] at h1
  omega
theorem d0q {N:Nat} (l:List Com) (h:∀ x∈l,0≤x.core∧x.core<N):l.length=iP (fun i=>l.countP fun y=>decide (y.core=((i:Nat):Int))) (List.range N):=by
  induction l with
  |nil=>
   have:iP (fun _=>0) (List.range N)=0:=by rw [xV];omega
   exact this.symm
  |cons x l ih=>
   have hx:=h x (List.mem_cons_self ..)
   have ih':=ih fun y hy=>h y (List.mem_cons_of_mem _ hy)
   obtain ⟨i,hi⟩:∃ i:Nat,x.core=i:=⟨x.core.toNat,om⟩
   have:=c7k (f:=fun i=>l.countP fun y=>decide (y.core=((i:Nat):Int))) (g:=fun i=>(x::l).countP fun y=>decide (y.core=((i:Nat):Int))) (l:=List.range N) List.nodup_range (x:=i) (List.mem_range.2 (om)) fun j _ hne=>by
     rw [List.countP_cons,if_neg]
     · rfl
     · rw [hi];simp;omega
   rw [List.countP_cons,if_pos (by simp [hi])] at this
   rw [List.length_cons,ih']
   omega
theorem e9s (h:Mi c ps s) (hq:bR s=true):s.tr.length=iP (fun l:List Op3=>l.length) ps:=by
  obtain ⟨⟨n,h1⟩,h2⟩:=h
  obtain ⟨q1,q2,q3,q4⟩:=oM hq
  have hlen:=h1.len
  have e1:=d0q (N:=ps.length) s.tr fun x hx=>by
    obtain ⟨j,hj,rfl⟩:=List.getElem_of_mem hx
    exact (h1.p.tr j _ (List.getElem?_eq_getElem hj)).1
  rw [e1]
  have e2:iP (fun i=>s.tr.countP fun y=>decide (y.core=((i:Nat):Int))) (List.range ps.length)=iP (fun i=>(ps.getD i []).length) (List.range ps.length):=mO fun i hi=>by
    have hi':i<ps.length:=List.mem_range.1 hi
    have hk:i<s.ks.length:=by have:=h1.l.lk;omega
    have hat:(rI s).1[i]? =some (s.ks[i].l,s.ks[i].rs):=by
      show (s.ks.map _)[i]? =_
      rw [List.getElem?_map,List.getElem?_eq_getElem hk];rfl
    have hc:=h1.p.ct i _ hat
    unfold yM at hc
    rw [List.take_length] at hc
    have hps:ps[i]? =some s.ks[i].l:=by
      rw [←h1.p.ln,List.getElem?_map,hat];rfl
    have hl0:=q2 _ (List.getElem_mem hk)
    unfold lF at hl0
    rw [List.getD_eq_getElem?_getD,hps]
    show s.tr.countP _=s.ks[i].l.length
    have hc':s.tr.countP (fun y=>decide (y.core=(i:Int)))=s.ks[i].rs.length:=hc
    omega
  rw [e2]
  unfold iP
  congr 1
  apply List.ext_getElem (by simp)
  intro i a b
  simp at a b ⊢
  rw [List.getElem?_eq_getElem b];rfl
end
end
section
def Fn (c:Cfg) (ps:List (List Op3)) (n:Nat) (s:MaS):Prop:=MaI c ps n s∧s.tr.length≤n
section
variable {c:Cfg} {ps:List (List Op3)} {n:Nat} {s:MaS}
theorem Fn.pick (h:Fn c ps n s) (p:Pk):Fn c ps (n+1) (bY c s p):=⟨h.1.pick p,by have:=e7i h.1.l p;have:=h.2;omega⟩
theorem Fn.mono (h:Fn c ps n s) {m:Nat} (hm:n≤m):Fn c ps m s:=⟨⟨h.1.l.mono hm,h.1.f,h.1.t,h.1.o,h.1.p⟩,Nat.le_trans h.2 hm⟩
theorem Fn.maf (h:Fn c ps n s) {s0:MaS} {x:MaX} (hx:a2v c s0 x) (pt:Option Addr×Nat):a2v c s { x with pt:=pt}:=by
  refine ⟨⟨?_,?_,?_⟩,hx.2⟩
  · have:=h.1.l.lk;have:=hx.2.1.1;dsimp only at *;omega
  · have:=h.1.l.la;have:=hx.2.1.2.1;dsimp only at *;omega
  · have:=h.1.l.lh;have:=hx.2.1.2.2;dsimp only at *;omega
theorem Fn.trn {kind a:Nat} (f:Nat):∀ {n:Nat} {s:MaS} (j did:Nat),Fn c ps n s→Fn c ps (n+f) (trn c kind a f s j did).1∧(trn c kind a f s j did).2≤did+f:=by
  induction f with
  |zero=>intro n s j did h;exact ⟨h,Nat.le_refl _⟩
  |succ f ih=>
   intro n s j did h
   unfold Go.Sx.trn
   split
   · obtain ⟨a1,a2⟩:=ih (if mny (bY c s ⟨kind,a,j⟩) kind a≥mny s kind a then j+1 else j) (did+1) (h.pick ⟨kind,a,j⟩)
     exact ⟨by rw [show n+(f+1)=n+1+f by omega];exact a1,om⟩
   · obtain ⟨a1,a2⟩:=ih (j+1) did (h.pick ⟨kind,a,j⟩)
     exact ⟨by rw [show n+(f+1)=n+1+f by omega];exact a1,om⟩
theorem Fn.mny (h:Fn c ps n s) {kind a:Nat} (hk:kind=1∧a<3∨kind=2∧(a:Int)<c.homes):mny s kind a≤64:=by
  unfold Go.Sx.mny
  rcases hk with ⟨rfl,ha⟩|⟨rfl,ha⟩
  · rw [if_pos rfl]
    have h1:=h.1.l.rm (a:Int) (by unfold rS;exact decide_eq_true (om))
    have h2:=a8c h.1.l.ok
    have:a=0∨a=1∨a=2:=by omega
    unfold q6 at h1
    rcases this with rfl|rfl|rfl<;>simp at h1 ⊢ <;>omega
  · rw [if_neg (by decide)]
    have hlh:=h.1.l.lh
    have hat:s.hs[a]? =some (s.hs.getD a a5e):=by rw [List.getD_eq_getElem?_getD,List.getElem?_eq_getElem (om)];rfl
    have:=(h.1.l.hm a _ hat).1.len
    have:=a3d h.1.l.ok
    omega
theorem xE {kind i:Nat} {q:MaS×Nat}:rdT c kind (List.range (i+1)) q=((trn c kind i (mny (rdT c kind (List.range i) q).1 kind i) (rdT c kind (List.range i) q).1 0 0).1,(rdT c kind (List.range i) q).2+(trn c kind i (mny (rdT c kind (List.range i) q).1 kind i) (rdT c kind (List.range i) q).1 0 0).2):=by
  unfold rdT
  rw [List.range_succ,List.foldl_append]
  rfl
theorem b0n {w:Int} {i:Nat} {q:MaS×Nat}:rdA c w (List.range (i+1)) q=(bY c (rdA c w (List.range i) q).1 ⟨0,i,w⟩,if bN c (rdA c w (List.range i) q).1 ⟨0,i,w⟩ then (rdA c w (List.range i) q).2+1 else (rdA c w (List.range i) q).2):=by
  unfold rdA
  rw [List.range_succ,List.foldl_append]
  rfl
theorem Fn.rdT {kind:Nat} {d:Nat}:∀ (i:Nat),(kind=1∧i≤3∨kind=2∧(i:Int)≤c.homes)→Fn c ps n s→Fn c ps (n+64*i) (rdT c kind (List.range i) (s,d)).1∧(rdT c kind (List.range i) (s,d)).2≤d+64*i:=by
  intro i
  induction i with
  |zero=>intro _ h;exact ⟨h,Nat.le_refl _⟩
  |succ i ih=>
   intro hk h
   obtain ⟨a1,a2⟩:=ih (om) h
   rw [xE]
   have hm:=a1.mny (kind:=kind) (a:=i) (om)
   obtain ⟨b1,b2⟩:=a1.trn (kind:=kind) (a:=i) (Go.Sx.mny (Go.Sx.rdT c kind (List.range i) (s,d)).1 kind i) 0 0
   exact ⟨b1.mono (om),by dsimp only;omega⟩
theorem Fn.rdA {w:Int} {d:Nat}:∀ (i:Nat),Fn c ps n s→Fn c ps (n+i) (rdA c w (List.range i) (s,d)).1∧(rdA c w (List.range i) (s,d)).2≤d+i:=by
  intro i
  induction i with
  |zero=>intro h;exact ⟨h,Nat.le_refl _⟩
  |succ i ih=>
   intro h
   obtain ⟨a1,a2⟩:=ih h
   rw [b0n]
   exact ⟨a1.pick _,by dsimp only;split<;>omega⟩
end
end
section
abbrev f3y (b bm ba:Nat) (a:Nat):HP:=All [Cells bm 29 [.pointer (some ⟨b,0,none⟩)],Cells ba 3 [.int .i64 a]]
theorem oZ {b bm ba a:Nat} {L:List HP}:Ent (f3y b bm ba a::L) (Cells bm 29 [.pointer (some ⟨b,0,none⟩)]::Cells ba 3 [.int .i64 a]::L):=kU
theorem mN {b bm ba a:Nat} {L:List HP}:Ent (Cells bm 29 [.pointer (some ⟨b,0,none⟩)]::Cells ba 3 [.int .i64 a]::L) (f3y b bm ba a::L):=iQ (ps:=[Cells bm 29 [.pointer (some ⟨b,0,none⟩)],Cells ba 3 [.int .i64 a]])
attribute [local irreducible] Exit.then Exit.inBlock Code.wp WC WO WE WQ V bT vL fP cY eI v8 IntKind.wrap WR Code.rounds WT KO
section
variable {b:Nat} {c:Cfg} {s:MaS} {x:MaX} {F:List HP} {n:Nat} {ps:List (List Op3)}
theorem b8r {Q P:Prop} (k:Q) (h:Hid Q→P:=by
  intro k
  first
  |(refine aI ?_;refine uU (id:=1) (.only []) (pl:= .r 0 <| .r 2 <| .e true [(1,.e true [(3,.p 4 <| .p 5 <| .done)])]) k.out)):P:=h ⟨k⟩
theorem d5o {bm ba a:Nat} (hx:a2v c s x):FnF Tryz.prog 86 [.pointer (some ⟨bm,0,none⟩),.pointer (some ⟨ba,0,none⟩)] [f3y b bm ba a,i9 b c s x] F (fun r L'=>r= .int .i64 (mny s 1 a)∧L'=[f3y b bm ba a,i9 b c s x]):=by
  have hN:=fun F=>f0i (F:=F) (b:=b) hx
  have hL:=fun F=>e5h (F:=F) (b:=b) (k:=(a:Int)) hx
  unfold mny
  rw [if_pos rfl]
  refine FnF.mk' Tryz.func86 rfl rfl Tryz.ntmps86 rfl ?_
  (first|refine n6 (oZ) ?_|refine yP (oZ) ?_|refine yQ (oZ) ?_)
  repeat' (first|refine go ?_|intro _|refine b8r ?_|refine dM ?_|refine aD @hN ?_|refine aD @hL ?_|apply zL|fail)
  all_goals
    (apply aA rfl rfl bH)
    · exact ⟨rfl,rfl⟩
    · refine Ent.trans ?_ mN
      exact aB
theorem d5p {bm ba a:Nat} (ha:a<x.hb.length) (hx:a2v c s x):FnF Tryz.prog 87 [.pointer (some ⟨bm,0,none⟩),.pointer (some ⟨ba,0,none⟩)] [f3y b bm ba a,i9 b c s x] F (fun r L'=>r= .int .i64 (mny s 2 a)∧L'=[f3y b bm ba a,i9 b c s x]):=by
  have hH:=fun F=>c8c (F:=F) (b:=b) (c:=c) (s:=s) (x:=x) (i:=a) ha
  have hQ:=fun F=>c1b (F:=F) (b:=b) (i:=a) ha hx
  unfold mny
  rw [if_neg (by decide)]
  refine FnF.mk' Tryz.func87 rfl rfl Tryz.ntmps87 rfl ?_
  (first|refine n6 (oZ) ?_|refine yP (oZ) ?_|refine yQ (oZ) ?_)
  repeat' (first|refine gd ?_|intro _|refine aD @hH ?_|refine aD @hQ ?_|apply zL|fail)
  all_goals
    (apply aA rfl rfl bH)
    · exact ⟨rfl,rfl⟩
    · refine Ent.trans ?_ mN
      exact aB
theorem c7l {kind a:Nat} {R:HP} {fk:FuncId} {first cap:List Value} (hw:c.wf) (hka:kind≤2∧a≤64) (hf:Fn c ps n s) (hn:n≤1000000000) (hm:∀ {n s},Fn c ps n s→mny s kind a≤64) (hx:a2v c s x)
    (H:∀ F s (x':MaX),x'.hb=x.hb→a2v c s x'→FnF Tryz.prog fk (first++[]++cap) [R,i9 b c s x'] F (fun r L'=>r= .int .i64 (mny s kind a)∧L'=[R,i9 b c s x'])) :
    FnF Tryz.prog 85 [.pointer (some ⟨b,0,none⟩),.int .i64 kind,.int .i64 a,.func (.func fk) first.toArray cap.toArray] [R,i9 b c s x] F
      (fun r L'=>∃ pt:Option Addr×Nat,r= .int .i64 (trn c kind a (mny s kind a) s 0 0).2∧L'=[R,i9 b c (trn c kind a (mny s kind a) s 0 0).1 { x with pt:=pt}]):=by
  have hH0:=fun F=>H F s x rfl hx
  have hm0:=hm hf
  generalize hT:trn c kind a (mny s kind a) s 0 0=T
  generalize mny s kind a=f at hH0 hT hm0
  refine FnF.mk' Tryz.func85 rfl rfl Tryz.ntmps85 rfl ?_
  repeat first|refine gd ?_|intro _|refine aD @hH0 ?_
  apply aW (E0:=[(0,_),(1,_),(2,_),(3,_),(13,_)]) (fun E0 (q:Nat×MaS×Nat×Nat×(Option Addr×Nat))=>(14,.int .i64 q.1)::(10,.int .i64 q.2.2.1)::(9,.int .i64 q.2.2.2.1)::E0) (fun q=>R::i9 b c q.2.1 { x with pt:=q.2.2.2.2}::F) (fun q=>q.1≤f∧trn c kind a (f-q.1) q.2.1 q.2.2.1 q.2.2.2.1=T∧Fn c ps (n+q.1) q.2.1∧q.2.2.1≤q.1∧q.2.2.2.1≤q.1) (fun q=>f-q.1) (0,s,0,0,x.pt)
  · exact m9
  · exact ⟨Nat.zero_le _,hT,hf,Nat.le_refl _,Nat.le_refl _⟩
  · dsimp only;exact aB
  · rintro ⟨k,s1,j,did,pt⟩ ⟨hk,hTk,hfk,hj,hd⟩
    dsimp only at hk hTk hfk hj hd ⊢
    have hx1:=hfk.maf hx pt
    by_cases hlt:k<f
    · have hH1:=fun F=>H F s1 { x with pt:=pt} rfl hx1
      have hP:=fun F=>b6g (F:=F) (b:=b) (s:=s1) (x:={ x with pt:=pt}) (p:=⟨kind,a,j⟩) hw hfk.1.l (om) (by have:=hfk.2;omega) ⟨by show nA (kind:Int);unfold nA;omega,by show nA (a:Int);unfold nA;omega,by show nA (j:Int);unfold nA;omega⟩ hx1
      have hf2:=hfk.pick ⟨kind,a,j⟩
      have hm1:=hm hfk
      have hm2:=hm hf2
      have hH2:=fun F pt2=>H F (bY c s1 ⟨kind,a,j⟩) { x with pt:=pt2} rfl (hf2.maf hx pt2)
      rw [show f-k=(f-(k+1))+1 by omega] at hTk
      unfold trn at hTk
      generalize hs2:bY c s1 ⟨kind,a,j⟩=s2 at *
      generalize mny s1 kind a=m1 at *
      generalize mny s2 kind a=m2 at *
      cases hb:bN c s1 ⟨kind,a,j⟩ with
      |false=>
       rw [hb] at hP hTk
       rw [if_neg (by simp)] at hTk
       repeat first|refine gd ?_|intro _|refine aD @hH1 ?_|refine aD @hP ?_
       rename_i pt2
       refine aT (k+1,s2,j+1,did,pt2) (by dsimp only;omega) ⟨by dsimp only;omega,hTk,hf2,by dsimp only;omega,by dsimp only;omega⟩ ?_ ?_
       · exact m9
       · dsimp only;exact aB
      |true=>
       rw [hb] at hP hTk
       rw [if_pos rfl] at hTk
       by_cases hge:m2≥m1
       · rw [if_pos hge] at hTk
         repeat first|refine gd ?_|intro _|refine aD @hH1 ?_|refine aD @hP ?_|refine aD @hH2 ?_
         rename_i pt2
         refine aT (k+1,s2,j+1,did+1,pt2) (by dsimp only;omega) ⟨by dsimp only;omega,hTk,hf2,by dsimp only;omega,by dsimp only;omega⟩ ?_ ?_
         · exact m9
         · dsimp only;exact aB
       · rw [if_neg hge] at hTk
         repeat first|refine gd ?_|intro _|refine aD @hH1 ?_|refine aD @hP ?_|refine aD @hH2 ?_
         rename_i pt2
         refine aT (k+1,s2,j,did+1,pt2) (by dsimp only;omega) ⟨by dsimp only;omega,hTk,hf2,by dsimp only;omega,by dsimp only;omega⟩ ?_ ?_
         · exact m9
         · dsimp only;exact aB
    · have hkf:k=f:=by omega
      subst hkf
      rw [Nat.sub_self] at hTk
      have hT2:T=(s1,did):=hTk.symm
      subst hT2
      repeat first|refine gd ?_|intro _
      (apply aA rfl rfl bH)
      · exact ⟨pt,rfl,rfl⟩
      · exact aB
end
end
section
attribute [local irreducible] Exit.then Exit.inBlock Code.wp WC WO WE WQ V bT vL fP cY eI v8 IntKind.wrap WR Code.rounds WT KO
section
variable {b:Nat} {c:Cfg} {s:MaS} {x:MaX} {F:List HP} {n:Nat} {ps:List (List Op3)}
theorem a1t {w:Int} (hw:c.wf) (h0:0≤w) (hwi:nA w) (hf:Fn c ps n s) (hn:n≤900000000) (hx:a2v c s x) :
    FnF Tryz.prog 41 [.pointer (some ⟨b,0,none⟩),c.val,.int .i64 w] [i9 b c s x] F (fun r L'=>∃ pt:Option Addr×Nat,r= .int .i64 (rd c s w).2∧L'=[i9 b c (rd c s w).1 { x with pt:=pt}]):=by
  have hck:=hf.1.l.ok
  have hcc:=(bG hck).1
  have hch:=p4 hck
  have hhb:(x.hb.length:Int)=c.homes:=hx.2.1.2.2
  obtain ⟨N,hN⟩:∃ N:Nat,c.cores=N:=⟨c.cores.toNat,om⟩
  obtain ⟨H,hH⟩:∃ H:Nat,c.homes=H:=⟨c.homes.toNat,om⟩
  unfold rd
  rw [hN,hH,Int.toNat_natCast,Int.toNat_natCast]
  refine FnF.mk' Tryz.func41 rfl rfl Tryz.ntmps41 rfl ?_
  repeat first|refine gd ?_|intro _
  rename_i b3 b4
  apply aW (E0:=[(2,_),(3,_),(4,_)]) (fun E0 (q:Nat×(Option Addr×Nat))=>(17,.int .i64 q.1)::(7,.int .i64 (rdT c 1 (List.range q.1) (s,0)).2)::E0) (fun q=>i9 b c (rdT c 1 (List.range q.1) (s,0)).1 { x with pt:=q.2}::Cells b4 24 c.cells::Cells b3 29 [.pointer (some ⟨b,0,none⟩)]::F) (fun q=>q.1≤3) (fun q=>3-q.1) (0,x.pt)
  · exact m9
  · exact Nat.zero_le _
  · show Ent _ (i9 b c s x::_::_::F)
    exact aB
  · rintro ⟨i,pt⟩ hi
    dsimp only at hi ⊢
    obtain ⟨hf1,hd1⟩:=hf.rdT (kind:=1) (d:=0) i (.inl ⟨rfl,hi⟩)
    have hx1:=hf1.maf hx pt
    by_cases hlt:i<3
    · have hm:=fun {n s} (h:Fn c ps n s)=>h.mny (kind:=1) (a:=i) (.inl ⟨rfl,hlt⟩)
      have hT:=fun F ba=>c7l (F:=F) (b:=b) (kind:=1) (a:=i) (R:=f3y b b3 ba i) (fk:=86) (first:=[]) (cap:=[.pointer (some ⟨b3,0,none⟩),.pointer (some ⟨ba,0,none⟩)]) hw ⟨om,om⟩ hf1 (om) hm hx1 (fun F s x' _ hx'=>d5o hx')
      obtain ⟨_,hd2⟩:=hf1.trn (kind:=1) (a:=i) (mny (rdT c 1 (List.range i) (s,0)).1 1 i) 0 0
      have hmi:=hm hf1
      have hs1:(rdT c 1 (List.range (i+1)) (s,0)).1=_:=congrArg Prod.fst xE
      have hs2:(rdT c 1 (List.range (i+1)) (s,0)).2=_:=congrArg Prod.snd xE
      dsimp only at hs1 hs2
      repeat first|refine gd ?_|intro _
      rename_i ba
      (first|refine aX (Cells ba 3 [.int .i64 i]) ?_|refine aY (Cells ba 3 [.int .i64 i]) ?_|refine aZ (Cells ba 3 [.int .i64 i]) ?_)
      (first|refine aX (Cells b3 29 [.pointer (some ⟨b,0,none⟩)]) ?_|refine aY (Cells b3 29 [.pointer (some ⟨b,0,none⟩)]) ?_|refine aZ (Cells b3 29 [.pointer (some ⟨b,0,none⟩)]) ?_)
      (first|refine n6 (mN) ?_|refine yP (mN) ?_|refine yQ (mN) ?_)
      repeat first|refine gd ?_|intro _|refine aD @hT ?_
      rename_i pt2
      refine aT (i+1,pt2) (by dsimp only;omega) (by dsimp only;omega) ?_ ?_
      · dsimp only
        rw [hs2]
        exact m9
      · dsimp only
        rw [hs1]
        refine Ent.trans oZ ?_
        exact aB
    · have hi3:i=3:=by omega
      subst hi3
      generalize rdT c 1 (List.range 3) (s,0)=q1 at *
      obtain ⟨s1,d1⟩:=q1
      dsimp only at hf1 hd1 hx1 ⊢
      repeat first|refine gd ?_|intro _
      rw [hH]
      apply aW (E0:=[(2,_),(3,_),(4,_),(28,_)]) (fun E0 (q:Nat×(Option Addr×Nat))=>(29,.int .i64 q.1)::(7,.int .i64 (rdT c 2 (List.range q.1) (s1,d1)).2)::E0) (fun q=>i9 b c (rdT c 2 (List.range q.1) (s1,d1)).1 { x with pt:=q.2}::Cells b4 24 c.cells::Cells b3 29 [.pointer (some ⟨b,0,none⟩)]::F) (fun q=>q.1≤H) (fun q=>H-q.1) (0,pt)
      · exact m9
      · exact Nat.zero_le _
      · show Ent _ (i9 b c s1 _::_::_::F)
        exact aB
      · rintro ⟨i,pt⟩ hi
        dsimp only at hi ⊢
        obtain ⟨hf2,hd2⟩:=hf1.rdT (kind:=2) (d:=d1) i (.inr ⟨rfl,om⟩)
        have hx2:=hf2.maf hx pt
        by_cases hlt:i<H
        · have hm:=fun {n s} (h:Fn c ps n s)=>h.mny (kind:=2) (a:=i) (.inr ⟨rfl,om⟩)
          have hT:=fun F ba=>c7l (F:=F) (b:=b) (kind:=2) (a:=i) (R:=f3y b b3 ba i) (fk:=87) (first:=[]) (cap:=[.pointer (some ⟨b3,0,none⟩),.pointer (some ⟨ba,0,none⟩)]) hw ⟨om,om⟩ hf2 (om) hm hx2 (fun F s x' e hx'=>d5p (by have e':x'.hb=x.hb:=e;rw [e'];omega) hx')
          obtain ⟨_,hd3⟩:=hf2.trn (kind:=2) (a:=i) (mny (rdT c 2 (List.range i) (s1,d1)).1 2 i) 0 0
          have hmi:=hm hf2
          have hs1:(rdT c 2 (List.range (i+1)) (s1,d1)).1=_:=congrArg Prod.fst xE
          have hs2:(rdT c 2 (List.range (i+1)) (s1,d1)).2=_:=congrArg Prod.snd xE
          dsimp only at hs1 hs2
          repeat first|refine gd ?_|intro _
          rename_i ba
          (first|refine aX (Cells ba 3 [.int .i64 i]) ?_|refine aY (Cells ba 3 [.int .i64 i]) ?_|refine aZ (Cells ba 3 [.int .i64 i]) ?_)
          (first|refine aX (Cells b3 29 [.pointer (some ⟨b,0,none⟩)]) ?_|refine aY (Cells b3 29 [.pointer (some ⟨b,0,none⟩)]) ?_|refine aZ (Cells b3 29 [.pointer (some ⟨b,0,none⟩)]) ?_)
          (first|refine n6 (mN) ?_|refine yP (mN) ?_|refine yQ (mN) ?_)
          repeat first|refine gd ?_|intro _|refine aD @hT ?_
          rename_i pt2
          refine aT (i+1,pt2) (by dsimp only;omega) (by dsimp only;omega) ?_ ?_
          · dsimp only
            rw [hs2]
            exact m9
          · dsimp only
            rw [hs1]
            refine Ent.trans oZ ?_
            exact aB
        · have hi3:i=H:=by omega
          subst hi3
          generalize rdT c 2 (List.range i) (s1,d1)=q2 at *
          obtain ⟨s2,d2⟩:=q2
          dsimp only at hf2 hd2 hx2 ⊢
          repeat first|refine gd ?_|intro _
          rw [hN]
          apply aW (E0:=[(2,_),(3,_),(40,_)]) (fun E0 (q:Nat×(Option Addr×Nat))=>(41,.int .i64 q.1)::(7,.int .i64 (rdA c w (List.range q.1) (s2,d2)).2)::E0) (fun q=>i9 b c (rdA c w (List.range q.1) (s2,d2)).1 { x with pt:=q.2}::Cells b3 29 [.pointer (some ⟨b,0,none⟩)]::F) (fun q=>q.1≤N) (fun q=>N-q.1) (0,pt)
          · exact m9
          · exact Nat.zero_le _
          · show Ent _ (i9 b c s2 _::_::F)
            exact aB
          · rintro ⟨k,pt⟩ hk
            dsimp only at hk ⊢
            obtain ⟨hf3,hd3⟩:=hf2.rdA (w:=w) (d:=d2) k
            have hx3:=hf3.maf hx pt
            by_cases hlt:k<N
            · have hP:=fun F=>b6g (F:=F) (b:=b) (s:=(rdA c w (List.range k) (s2,d2)).1) (x:={ x with pt:=pt}) (p:=⟨0,k,w⟩) hw hf3.1.l (om) (by have:=hf3.2;omega) ⟨by show nA 0;unfold nA;omega,by show nA (k:Int);unfold nA;omega,hwi⟩ hx3
              have hs1:(rdA c w (List.range (k+1)) (s2,d2)).1=_:=congrArg Prod.fst b0n
              have hs2:(rdA c w (List.range (k+1)) (s2,d2)).2=_:=congrArg Prod.snd b0n
              dsimp only at hs1 hs2
              cases hb:bN c (rdA c w (List.range k) (s2,d2)).1 ⟨0,k,w⟩ with
              |true=>
               rw [hb] at hP hs2
               rw [if_pos rfl] at hs2
               repeat first|refine gd ?_|intro _|refine aD @hP ?_
               rename_i pt2
               refine aT (k+1,pt2) (by dsimp only;omega) (by dsimp only;omega) ?_ ?_
               · dsimp only
                 rw [hs2]
                 exact m9
               · dsimp only
                 rw [hs1]
                 exact aB
              |false=>
               rw [hb] at hP hs2
               rw [if_neg (by simp)] at hs2
               repeat first|refine gd ?_|intro _|refine aD @hP ?_
               rename_i pt2
               refine aT (k+1,pt2) (by dsimp only;omega) (by dsimp only;omega) ?_ ?_
               · dsimp only
                 rw [hs2]
                 exact m9
               · dsimp only
                 rw [hs1]
                 exact aB
            · have hkN:k=N:=by omega
              subst hkN
              repeat first|refine gd ?_|intro _
              (apply aA rfl rfl bH)
              · exact ⟨pt,rfl,rfl⟩
              · exact aB
end
end
end Go.Sx
