/- GhL, GhLs: several of my texts as one. My own work. -/
import Derived.Test.YtjihlpjnebdiiaaGreatZbe
set_option linter.unusedVariables false
set_option linter.unusedSectionVars false
set_option linter.unusedSimpArgs false
set_option maxRecDepth 100000
set_option maxHeartbeats 4000000
namespace Go.Sx
open Go Go.Proofs
section
theorem c6m {α:Type} {l:List (Int×α)} {k:Int} {u:α} {e:Int×α} (h:e∈kC l k u):e=(k,u)∨e∈l:=by
  induction l with
  |nil=>exact .inl (List.mem_singleton.1 h)
  |cons a r ih=>
   unfold kC at h
   split at h
   · rcases List.mem_cons.1 h with h|h
     · exact .inl h
     · exact .inr (List.mem_cons_of_mem _ h)
   · rcases List.mem_cons.1 h with h|h
     · exact .inr (by rw [h];exact List.mem_cons_self)
     · rcases ih h with h|h
       · exact .inl h
       · exact .inr (List.mem_cons_of_mem _ h)
theorem c6n {n:Int} (h:kP n):IntKind.i64.wrap n=n:=uB (by unfold kP at h;omega) (by unfold kP at h;omega)
theorem d1a {x:Op3} (o1:uE x=true):0≤x.addr∧x.addr≤8191:=by
  unfold uE at o1
  split at o1
  · simp at o1;omega
  · split at o1
    · simp at o1;omega
    · split at o1
      · simp at o1;omega
      · cases o1
theorem d8j {a w:Int} (ha:0≤a∧a≤8191) (hw:1≤w):kP (a.tdiv w):=by
  unfold kP
  have h1:(a.tdiv w).natAbs≤a.natAbs:=by
    rw [Int.natAbs_tdiv]
    exact Nat.div_le_self _ _
  omega
attribute [local irreducible] Exit.then Exit.inBlock Code.wp WC WO WE WQ V bF tV d3 bW dF uH IntKind.wrap WR Code.rounds WT KO
theorem s8 {W:World} {F:List HP} {c:Cfg} {ps:List PrQ} {pu pv:Option Addr} {cu cv:Nat} {l:List Pk} {fk:FuncId} (hc:c.wf) [k:ROld W 3 (.slice pv l.length cv) l.length (aC d9v l)] (hl:l.length≤1000000000000000) (hpk:∀ p∈l,Pk.wf p) [kp:ROld W 1 (.slice pu ps.length cu) ps.length (aC c8m ps)] (hp:ps.length≤1000000000000000) (hn:∀ p∈ps,p.1.length≤1000000000000000) (kr:OldPs W ps)
    (T:∀ (F:List HP) (b n:Nat) (s:MaS) (x:MaX) (line:Int),MaI c (e7o ps) n s→s.tr.length≤1000000000000→kP line→yS c s x→FnF Tryz.prog fk [.pointer (some ⟨b,0,none⟩),c.val,.int .i64 line] [i7 b c s x] F (fun r L'=>r= .bool true∧L'=[i7 b c s x])) :
    FnF Tryz.prog 35 [c.val,.slice pu ps.length cu,.slice pv l.length cv,.func (.func fk) #[] #[]] [Old W] F (fun r L'=>r= .bool true∧L'=[Old W]):=by
  have hL:=fun F (kp:RdL F 1 (.slice pu ps.length cu) ps.length (aC c8m ps))=>c7v (F:=F) (c:=c) (ps:=ps) (k:=l.length) kp hp hn
  haveI:=kr.rd
  refine FnF.mk' Tryz.func35 rfl rfl Tryz.ntmps35 rfl ?_
  cases hla:a0o c (ps.map (·.1)) l.length with
  |true=>
   rw [hla] at hL
   repeat first|refine gd ?_|intro _|refine aD @vA ?_|refine aD @hL ?_
   exact aU
  |false=>
   rw [hla] at hL
   obtain ⟨_,_,htot,hps,hlen⟩:=c0s hla
   have hn2:∀ p∈ps,p.1.length≤1099511627776:=fun p h=>by have:=d2r (List.mem_map_of_mem (f:=(·.1)) h);omega
   cases hok:a6v c (ps.map (·.1)) with
   |false=>
    have hN:=fun F (kp:RdL F 1 (.slice pu ps.length cu) ps.length (aC c8m ps)) (kr:RdPr F ps)=>c6a (F:=F) hc kp kr hn2 hok
    repeat first|refine gd ?_|intro _|refine aD @vA ?_|refine aD @hL ?_|refine aD @hN ?_
    exact aU
   |true=>
    have hN:=fun F (kp:RdL F 1 (.slice pu ps.length cu) ps.length (aC c8m ps)) (kr:RdPr F ps)=>d4m (F:=F) hc kp kr hok
    have hck:aF c=true∧∀ p∈ps,kS c p.1=true:=by
      have:=hok
      simp only [a6v,Bool.and_eq_true,List.all_eq_true] at this
      exact ⟨this.1.1,fun p hp=>this.2 _ (List.mem_map_of_mem hp)⟩
    obtain ⟨hck,hpr⟩:=hck
    have hww:=dO hck
    repeat first|refine gd ?_|intro _|refine aD @vA ?_|refine aD @hL ?_|refine aD @hN ?_
    rename_i b4 bm bt
    (first|refine aW (e6y bm c (cW c (ps.map (·.1)))) ?_|refine aX (e6y bm c (cW c (ps.map (·.1)))) ?_|refine aY (e6y bm c (cW c (ps.map (·.1)))) ?_)
    first|refine a9w fun x=>?_|refine d0k fun x=>?_
    repeat first|refine gd ?_|intro _
    apply bC (E0:=[(2,_),(3,_),(4,_),(9,_),(11,_),(35,_),(36,_)]) (fun E0 (q:Nat×List (Int×Bool))=>(37,.int .i64 q.1)::E0) (fun q=>MapAt bt e2h q.2::i7 bm c (cW c (e7o ps)) x::Cells b4 24 c.cells::Old W::F) (fun q=>q.1≤ps.length∧∀ e∈q.2,kP e.1) (fun q=>ps.length-q.1) (0,[])
    · exact nB
    · exact ⟨Nat.zero_le _,fun e he=>by cases he⟩
    · dsimp only;exact aB
    · rintro ⟨i,mp⟩ ⟨hi,hmp⟩
      dsimp only at hi hmp ⊢
      by_cases hlt:i<ps.length
      · haveI krk:=d6j (kr.rd F) hlt
        have hpi:=hpr _ (List.getElem_mem hlt)
        have hlp:ps[i].1.length≤1099511627776:=hn2 _ (List.getElem_mem hlt)
        repeat first|refine gd ?_|intro _
        apply bC (E0:=[(2,_),(3,_),(4,_),(9,_),(11,_),(35,_),(36,_),(37,_),(41,_),(42,_)]) (fun E0 (q:Nat×List (Int×Bool))=>(43,.int .i64 q.1)::E0) (fun q=>MapAt bt e2h q.2::i7 bm c (cW c (e7o ps)) x::Cells b4 24 c.cells::Old W::F) (fun q=>q.1≤ps[i].1.length∧∀ e∈q.2,kP e.1) (fun q=>ps[i].1.length-q.1) (0,mp)
        · exact nB
        · exact ⟨Nat.zero_le _,hmp⟩
        · dsimp only;exact aB
        · rintro ⟨j,mq⟩ ⟨hj,hmq⟩
          dsimp only at hj hmq ⊢
          by_cases hjl:j<ps[i].1.length
          · have had:0≤ps[i].1[j].addr∧ps[i].1[j].addr≤8191:=by
              unfold kS at hpi
              simp only [Bool.and_eq_true,List.all_eq_true] at hpi
              exact d1a (hpi.1.1 _ (List.getElem_mem hjl)).1
            have hqi:=d8j had (show 1≤c.words by omega)
            have hwr:IntKind.i64.wrap (ps[i].1[j].addr.tdiv c.words)=ps[i].1[j].addr.tdiv c.words:=c6n hqi
            repeat first|refine gd ?_|intro _
            rw [hwr]
            refine aS (j+1,kC mq (ps[i].1[j].addr.tdiv c.words) true) (by dsimp only;omega) ⟨by dsimp only;omega,fun e he=>?_⟩ ?_ ?_
            · rcases c6m he with rfl|he
              · exact hqi
              · exact hmq e he
            · exact nB
            · dsimp only;exact aB
          · repeat first|refine gd ?_|intro _
            refine aS (i+1,mq) (by dsimp only;omega) ⟨by dsimp only;omega,hmq⟩ ?_ ?_
            · exact nB
            · dsimp only;exact aB
      · repeat first|refine gd ?_|intro _
        apply bC (E0:=[(3,_),(4,_),(9,_),(11,_),(55,_),(56,_)]) (fun E0 (q:Nat×(Option Addr×Nat))=>(57,.int .i64 q.1)::E0) (fun q=>i7 bm c (eY c (cW c (e7o ps)) (l.take q.1)) { x with pt:=q.2}::MapAt bt e2h mp::Cells b4 24 c.cells::Old W::F) (fun q=>q.1≤l.length) (fun q=>l.length-q.1) (0,x.pt)
        · exact nB
        · exact Nat.zero_le _
        · show Ent _ (i7 bm c (cW c (e7o ps)) x::_::_::Old W::F)
          exact aB
        · rintro ⟨k2,pt⟩ hk
          dsimp only at hk ⊢
          (first|refine aW (i7 bm c (eY c (cW c (e7o ps)) (l.take k2)) { x with pt:=pt}) ?_|refine aX (i7 bm c (eY c (cW c (e7o ps)) (l.take k2)) { x with pt:=pt}) ?_|refine aY (i7 bm c (eY c (cW c (e7o ps)) (l.take k2)) { x with pt:=pt}) ?_)
          refine b7a fun hx=>?_
          by_cases hkl:k2<l.length
          · have hP:=fun F=>c0t (F:=F) (b:=bm) hc hok (om) hpk hkl hx
            have hI:=b4h hok l (k2+1) (om)
            have ht:(eY c (cW c (e7o ps)) (l.take (k2+1))).tr.length≤k2+1:=b4i hok l (k2+1) (om)
            repeat first|refine gd ?_|intro _|refine aD @hP ?_
            rename_i bp pt2
            (first|refine aW (MapAt bt e2h mp) ?_|refine aX (MapAt bt e2h mp) ?_|refine aY (MapAt bt e2h mp) ?_)
            apply uC
            rfl
            apply d8f
            rfl
            rfl
            refine cB ?_
            intro it
            repeat first|rintro _ _ ⟨rfl,rfl⟩|refine e7p fun _=>?_|intro _|refine go ?_
            generalize hs:eY c (cW c (e7o ps)) (l.take (k2+1))=s at *
            generalize hx2:(⟨x.kb,x.ab,x.hb,x.pk,x.pa,x.ph,pt2,x.bn⟩:MaX)=x2
            have hf2:yS c s x2:=by
              rw [←hx2]
              exact ⟨⟨by have:=hI.l.lk;have:=hx.2.1.1;dsimp only at *;omega,by have:=hI.l.la;have:=hx.2.1.2.1;dsimp only at *;omega,by have:=hI.l.lh;have:=hx.2.1.2.2;dsimp only at *;omega⟩,hx.2⟩
            apply bC (E0:=[(3,_),(4,_),(9,_),(11,_),(55,_),(56,_),(57,_),(65,_)]) (fun E0 (q:Option (Int×Bool)×Nat)=>E0) (fun q=>MapIt bt it e2h mp q.1 q.2::i7 bm c s x2::Cells b4 24 c.cells::Old W::F) (fun _=>True) (fun q=>q.2) (none,mp.length)
            · exact nB
            · trivial
            · subst hx2
              dsimp only;exact aB
            · rintro ⟨cur,n2⟩ _
              dsimp only
              repeat first|rintro _ _ ⟨rfl,rfl⟩|refine e7p fun _=>?_|intro _|refine go ?_
              apply d8h
              rfl
              exact inferInstance
              rfl
              · intro key u n' hku hn'
                have hT:=fun F=>T F bm (k2+1) s x2 key hI (om) (hmp _ hku) hf2
                repeat first|refine gd ?_|intro _|refine aD @hT ?_
                refine aS (some (key,u),n') (by dsimp only;omega) trivial ?_ ?_
                · exact nB
                · dsimp only;exact aB
              · repeat first|refine gd ?_|intro _
                refine aS (k2+1,pt2) (by dsimp only;omega) (by dsimp only;omega) ?_ ?_
                · exact nB
                · dsimp only
                  rw [hs,hx2]
                  refine Ent.trans d0v ?_
                  exact aB
          · repeat first|refine gd ?_|intro _
            exact aU
end
section
open Go Go.Proofs Go.ChangeShapes Go.WideShapes
attribute [local irreducible] Exit.then Exit.inBlock Code.wp WC WO WE WQ V bF tV d3 bW dF uH IntKind.wrap WR Code.rounds WT KO
theorem b1r {W:World} {F:List HP} {c:Cfg} {ps:List PrQ} {pu pv:Option Addr} {cu cv:Nat} {l:List Pk} (hc:c.wf) [k:ROld W 3 (.slice pv l.length cv) l.length (aC d9v l)] (hl:l.length≤1000000000000000) (hpk:∀ p∈l,Pk.wf p) [kp:ROld W 1 (.slice pu ps.length cu) ps.length (aC c8m ps)] (hp:ps.length≤1000000000000000) (hn:∀ p∈ps,p.1.length≤1000000000000000) (kr:OldPs W ps) :
    FnF Tryz.prog 8 [c.val,.slice pu ps.length cu,.slice pv l.length cv] [Old W] F (fun r L'=>r= .bool true∧L'=[Old W]):=by
  have hE:=fun F=>s8 (F:=F) (pu:=pu) (pv:=pv) (cu:=cu) (cv:=cv) (fk:=36) hc hl hpk hp hn kr fun F b n s x line hI ht hi hx=>by have h:=b0a (F:=F) (b:=b) hi hx;rwa [a5v hI] at h
  refine FnF.mk' Tryz.func8 rfl rfl Tryz.ntmps8 rfl ?_
  repeat first|refine gd ?_|intro _|refine aD @hE ?_
  exact aU
theorem b1s {W:World} {F:List HP} {c:Cfg} {ps:List PrQ} {u v:Value} {l:List Pk} (hc:c.wf) (hp:∀ p∈ps,PrQ.ok W p) (hl:∀ p∈l,Pk.wf p) (kp:ROld W 1 u ps.length (aC c8m ps)) (bp:ps.length*Tryz.prog.bytesOf 61≤reachBytes) (k:ROld W 3 v l.length (aC d9v l)) (bl:l.length*Tryz.prog.bytesOf 34≤reachBytes) :
    FnF Tryz.prog 8 [c.val,u,v] [Old W] F (fun r L'=>r= .bool true∧L'=[Old W]):=
  c8q hp kp bp k bl fun pu pv cu cv a b d e g h=>b1r hc b hl e g h
theorem b5k {W:World} {F:List HP} {c:Cfg} {ps:List PrQ} {pu pv:Option Addr} {cu cv:Nat} {l:List Pk} (hc:c.wf) [k:ROld W 3 (.slice pv l.length cv) l.length (aC d9v l)] (hl:l.length≤1000000000000000) (hpk:∀ p∈l,Pk.wf p) [kp:ROld W 1 (.slice pu ps.length cu) ps.length (aC c8m ps)] (hp:ps.length≤1000000000000000) (hn:∀ p∈ps,p.1.length≤1000000000000000) (kr:OldPs W ps) :
    FnF Tryz.prog 9 [c.val,.slice pu ps.length cu,.slice pv l.length cv] [Old W] F (fun r L'=>r= .bool true∧L'=[Old W]):=by
  have hE:=fun F=>s8 (F:=F) (pu:=pu) (pv:=pv) (cu:=cu) (cv:=cv) (fk:=37) hc hl hpk hp hn kr fun F b n s x line hI ht hi hx=>by have h:=b8b (F:=F) (b:=b) hi hx (b4j hI line);rwa [b0m hI] at h
  refine FnF.mk' Tryz.func9 rfl rfl Tryz.ntmps9 rfl ?_
  repeat first|refine gd ?_|intro _|refine aD @hE ?_
  exact aU
theorem b5l {W:World} {F:List HP} {c:Cfg} {ps:List PrQ} {u v:Value} {l:List Pk} (hc:c.wf) (hp:∀ p∈ps,PrQ.ok W p) (hl:∀ p∈l,Pk.wf p) (kp:ROld W 1 u ps.length (aC c8m ps)) (bp:ps.length*Tryz.prog.bytesOf 61≤reachBytes) (k:ROld W 3 v l.length (aC d9v l)) (bl:l.length*Tryz.prog.bytesOf 34≤reachBytes) :
    FnF Tryz.prog 9 [c.val,u,v] [Old W] F (fun r L'=>r= .bool true∧L'=[Old W]):=
  c8q hp kp bp k bl fun pu pv cu cv a b d e g h=>b5k hc b hl e g h
theorem b5m {W:World} {F:List HP} {c:Cfg} {ps:List PrQ} {pu pv:Option Addr} {cu cv:Nat} {l:List Pk} (hc:c.wf) [k:ROld W 3 (.slice pv l.length cv) l.length (aC d9v l)] (hl:l.length≤1000000000000000) (hpk:∀ p∈l,Pk.wf p) [kp:ROld W 1 (.slice pu ps.length cu) ps.length (aC c8m ps)] (hp:ps.length≤1000000000000000) (hn:∀ p∈ps,p.1.length≤1000000000000000) (kr:OldPs W ps) :
    FnF Tryz.prog 10 [c.val,.slice pu ps.length cu,.slice pv l.length cv] [Old W] F (fun r L'=>r= .bool true∧L'=[Old W]):=by
  have hE:=fun F=>s8 (F:=F) (pu:=pu) (pv:=pv) (cu:=cu) (cv:=cv) (fk:=38) hc hl hpk hp hn kr fun F b n s x line hI ht hi hx=>by have h:=b7w (F:=F) (b:=b) hc hi hx ht (b4j hI line);rwa [b0o hI] at h
  refine FnF.mk' Tryz.func10 rfl rfl Tryz.ntmps10 rfl ?_
  repeat first|refine gd ?_|intro _|refine aD @hE ?_
  exact aU
theorem b5n {W:World} {F:List HP} {c:Cfg} {ps:List PrQ} {u v:Value} {l:List Pk} (hc:c.wf) (hp:∀ p∈ps,PrQ.ok W p) (hl:∀ p∈l,Pk.wf p) (kp:ROld W 1 u ps.length (aC c8m ps)) (bp:ps.length*Tryz.prog.bytesOf 61≤reachBytes) (k:ROld W 3 v l.length (aC d9v l)) (bl:l.length*Tryz.prog.bytesOf 34≤reachBytes) :
    FnF Tryz.prog 10 [c.val,u,v] [Old W] F (fun r L'=>r= .bool true∧L'=[Old W]):=
  c8q hp kp bp k bl fun pu pv cu cv a b d e g h=>b5m hc b hl e g h
theorem b5o {W:World} {F:List HP} {c:Cfg} {ps:List PrQ} {pu pv:Option Addr} {cu cv:Nat} {l:List Pk} (hc:c.wf) [k:ROld W 3 (.slice pv l.length cv) l.length (aC d9v l)] (hl:l.length≤1000000000000000) (hpk:∀ p∈l,Pk.wf p) [kp:ROld W 1 (.slice pu ps.length cu) ps.length (aC c8m ps)] (hp:ps.length≤1000000000000000) (hn:∀ p∈ps,p.1.length≤1000000000000000) (kr:OldPs W ps) :
    FnF Tryz.prog 11 [c.val,.slice pu ps.length cu,.slice pv l.length cv] [Old W] F (fun r L'=>r= .bool true∧L'=[Old W]):=by
  have hE:=fun F=>s8 (F:=F) (pu:=pu) (pv:=pv) (cu:=cu) (cv:=cv) (fk:=39) hc hl hpk hp hn kr fun F b n s x line hI ht hi hx=>by have h:=b8a (F:=F) (b:=b) hc hi hx (c2h hI line).1 (c2h hI line).2;rwa [b0p hI] at h
  refine FnF.mk' Tryz.func11 rfl rfl Tryz.ntmps11 rfl ?_
  repeat first|refine gd ?_|intro _|refine aD @hE ?_
  exact aU
theorem b5p {W:World} {F:List HP} {c:Cfg} {ps:List PrQ} {u v:Value} {l:List Pk} (hc:c.wf) (hp:∀ p∈ps,PrQ.ok W p) (hl:∀ p∈l,Pk.wf p) (kp:ROld W 1 u ps.length (aC c8m ps)) (bp:ps.length*Tryz.prog.bytesOf 61≤reachBytes) (k:ROld W 3 v l.length (aC d9v l)) (bl:l.length*Tryz.prog.bytesOf 34≤reachBytes) :
    FnF Tryz.prog 11 [c.val,u,v] [Old W] F (fun r L'=>r= .bool true∧L'=[Old W]):=
  c8q hp kp bp k bl fun pu pv cu cv a b d e g h=>b5o hc b hl e g h
end
end Go.Sx
