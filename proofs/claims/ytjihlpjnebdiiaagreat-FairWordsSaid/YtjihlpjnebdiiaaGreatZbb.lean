/- FaW3, FaAw, Wi: several of my texts as one. My own work. -/
import Derived.Test.YtjihlpjnebdiiaaGreatZba
set_option linter.unusedVariables false
set_option linter.unusedSectionVars false
set_option linter.unusedSimpArgs false
set_option maxRecDepth 100000
set_option maxHeartbeats 4000000
namespace Go.Sx
open Go Go.Proofs
section
theorem Fn.rd {c:Cfg} {ps:List (List Op3)} {n:Nat} {s:MaS} (h:Fn c ps n s) (w:Int):Fn c ps (n+2000) (rd c s w).1∧(rd c s w).2≤2000:=by
  have hck:=h.1.l.ok
  have hcc:=(bG hck).1
  have hch:=p4 hck
  obtain ⟨a1,a2⟩:=h.rdT (kind:=1) (d:=0) 3 (.inl ⟨rfl,Nat.le_refl _⟩)
  obtain ⟨b1,b2⟩:=a1.rdT (kind:=2) (d:=(Go.Sx.rdT c 1 (List.range 3) (s,0)).2) c.homes.toNat (.inr ⟨rfl,om⟩)
  obtain ⟨d1,d2⟩:=b1.rdA (w:=w) (d:=(Go.Sx.rdT c 2 (List.range c.homes.toNat) (Go.Sx.rdT c 1 (List.range 3) (s,0))).2) c.cores.toNat
  unfold Go.Sx.rd
  exact ⟨d1.mono (om),by
    have e1:((Go.Sx.rdT c 1 (List.range 3) (s,0)).1,(Go.Sx.rdT c 1 (List.range 3) (s,0)).2)=Go.Sx.rdT c 1 (List.range 3) (s,0):=rfl
    have e2:((Go.Sx.rdT c 2 (List.range c.homes.toNat) (Go.Sx.rdT c 1 (List.range 3) (s,0))).1,(Go.Sx.rdT c 2 (List.range c.homes.toNat) (Go.Sx.rdT c 1 (List.range 3) (s,0))).2)=Go.Sx.rdT c 2 (List.range c.homes.toNat) (Go.Sx.rdT c 1 (List.range 3) (s,0)):=rfl
    rw [e1] at b2
    rw [e2] at d2
    omega⟩
theorem d7j {ps:List PrQ} {i:Nat} (hi:i<ps.length):iP (fun l:List Op3=>l.length) ((ps.take (i+1)).map (·.1))=iP (fun l:List Op3=>l.length) ((ps.take i).map (·.1))+ps[i].1.length:=by
  rw [List.take_add_one,List.getElem?_eq_getElem hi,Option.toList_some,List.map_append,qO]
  rfl
attribute [local irreducible] Exit.then Exit.inBlock Code.wp WC WO WE WQ V bT vL fP cY eI v8 IntKind.wrap WR Code.rounds WT KO
section
variable {b:Nat} {c:Cfg} {s:MaS} {x:MaX} {F:List HP} {n:Nat} {ps:List (List Op3)}
theorem xL {ps:List PrQ} {v:Value} (hc:c.wf) (k:RdL F 1 v ps.length (aC b6n ps)) (kp:RdPr F ps) (hn:∀ p∈ps,p.1.length≤1099511627776):FnF Tryz.prog 43 [c.val,v] [] F (fun r L'=>r= .int .i64 (eQ c (ps.map (·.1)))∧L'=[]):=by
  have hC:=fun F=>dK (F:=F) hc
  refine FnF.mk' Tryz.func43 rfl rfl Tryz.ntmps43 rfl ?_
  cases hck:aF c with
  |false=>
   have e1:eD c=1:=by simp [eD,hck]
   have e2:eQ c (ps.map (·.1))=0:=by simp [eQ,nE,hck]
   rw [e1] at hC
   rw [e2]
   repeat first|refine gd ?_|intro _|refine aD @hC ?_
   exact bF
  |true=>
   have e1:eD c=0:=by simp [eD,hck]
   have hcc:=(bG hck).1
   rw [e1] at hC
   by_cases hlen:(ps.length:Int)=c.cores
   · repeat first|refine gd ?_|intro _|refine aD @hC ?_
     rename_i b2
     apply aW (E0:=[(2,_),(18,_),(19,_)]) (fun E0 (i:Nat)=>(20,.int .i64 i)::(5,.int .i64 (iP (fun l:List Op3=>l.length) ((ps.take i).map (·.1)):Nat))::E0) (fun _=>Cells b2 24 c.cells::F) (fun i=>i≤ps.length∧(∀ j (hj:j<ps.length),j<i→lW c ps[j].1=true)∧iP (fun l:List Op3=>l.length) ((ps.take i).map (·.1))≤64*i) (fun i=>ps.length-i) 0
     · exact m9
     · exact ⟨Nat.zero_le _,fun j _ h=>absurd h (Nat.not_lt_zero _),Nat.le_refl _⟩
     · exact aB
     · rintro i ⟨hi,hall,hsm⟩
       by_cases hlt:i<ps.length
       · haveI krk:=c4s kp hlt
         have hF:=fun F (k:RdL F 3 (.slice ps[i].2.1 ps[i].1.length ps[i].2.2) ps[i].1.length (aC oc ps[i].1))=>tU (F:=F) hc k (hn _ (List.getElem_mem hlt))
         have hst:=d7j hlt
         cases hp:lW c ps[i].1 with
         |false=>
          rw [hp] at hF
          have e2:eQ c (ps.map (·.1))=0:=by
            unfold eQ
            rw [if_neg]
            intro hok
            simp only [nE,Bool.and_eq_true,List.all_eq_true] at hok
            rw [hok.2 _ (List.mem_map_of_mem (List.getElem_mem hlt))] at hp
            cases hp
          rw [e2]
          repeat first|refine gd ?_|intro _|refine aD @hF ?_
          exact bF
         |true=>
          rw [hp] at hF
          have hpl:=a1i hp
          generalize iP (fun l:List Op3=>l.length) ((ps.take i).map (·.1))=a1 at *
          repeat first|refine gd ?_|intro _|refine aD @hF ?_
          refine aT (i+1) (om) ⟨om,fun j hj hji=>?_,om⟩ ?_ ?_
          · by_cases e:j=i
            · subst e;exact hp
            · exact hall j hj (om)
          · rw [hst]
            exact m9
          · exact aB
       · have hil:i=ps.length:=by omega
         subst hil
         rw [List.take_length] at hsm ⊢
         have hok:nE c (ps.map (·.1))=true:=by
           simp only [nE,Bool.and_eq_true,List.all_eq_true,decide_eq_true_eq,List.length_map]
           refine ⟨⟨hck,hlen⟩,fun l hl=>?_⟩
           obtain ⟨p,hp,rfl⟩:=List.mem_map.1 hl
           obtain ⟨j,hj,rfl⟩:=List.getElem_of_mem hp
           exact hall j hj hj
         have e2:eQ c (ps.map (·.1))=(iP (fun l:List Op3=>l.length) (ps.map (·.1)):Int)*(6*c.cores+32)+1:=by unfold eQ;rw [if_pos hok]
         rw [e2]
         generalize iP (fun l:List Op3=>l.length) (ps.map (·.1))=a1 at *
         have hmu:0≤(a1:Int)*(6*c.cores+32)∧(a1:Int)*(6*c.cores+32)≤4096*416:=⟨Int.mul_nonneg (om) (om),Int.mul_le_mul (om) (om) (om) (om)⟩
         repeat first|refine gd ?_|intro _
         exact bF
   · have e2:eQ c (ps.map (·.1))=0:=by simp [eQ,nE,hlen]
     rw [e2]
     repeat first|refine gd ?_|intro _|refine aD @hC ?_
     exact bF
theorem Fn.ks (h:Fn c ps n s):∀ k∈s.ks,k.rs.length≤k.l.length∧k.l.length≤64:=fun k hk=>⟨(h.1.l.kp k hk).2,a1i (h.1.l.kp k hk).1⟩
theorem d7k {f m:Nat} (h:bR s=true):rn c f s m=(s,m):=by
  cases f with
  |zero=>rfl
  |succ f=>unfold rn;rw [if_pos h]
theorem c5r {most:Int} (hw:c.wf) (hf:Fn c ps n s) (hn:n≤100000000) (hm:most≤10000) (hx:a2v c s x) :
    FnF Tryz.prog 44 [.pointer (some ⟨b,0,none⟩),c.val,.int .i64 most] [i9 b c s x] F (fun r L'=>∃ pt:Option Addr×Nat,r= .tuple [.int .i64 (rn c most.toNat s 0).2,.bool (bR (rn c most.toNat s 0).1)].toArray∧L'=[i9 b c (rn c most.toNat s 0).1 { x with pt:=pt}]):=by
  generalize hT:rn c most.toNat s 0=T
  refine FnF.mk' Tryz.func44 rfl rfl Tryz.ntmps44 rfl ?_
  repeat first|refine gd ?_|intro _
  rename_i b4
  apply aW (E0:=[(0,_),(2,_),(4,_)]) (fun E0 (q:Nat×MaS×(Option Addr×Nat))=>(8,.int .i64 q.1)::E0) (fun q=>i9 b c q.2.1 { x with pt:=q.2.2}::Cells b4 24 c.cells::F) (fun q=>q.1≤most.toNat∧rn c (most.toNat-q.1) q.2.1 q.1=T∧Fn c ps (n+2000*q.1) q.2.1) (fun q=>most.toNat-q.1) (0,s,x.pt)
  · exact m9
  · exact ⟨Nat.zero_le _,hT,hf⟩
  · dsimp only;exact aB
  · rintro ⟨i,s1,pt⟩ ⟨hi,hTi,hfi⟩
    dsimp only at hi hTi hfi ⊢
    have hxi:=hfi.maf hx pt
    have hQ:=fun F=>b0v (F:=F) (b:=b) hxi hfi.ks
    cases hq:bR s1 with
    |true=>
     rw [hq] at hQ
     rw [d7k hq] at hTi
     subst hTi
     repeat first|refine gd ?_|intro _|refine aD @hQ ?_
     (apply aA rfl rfl bH)
     · exact ⟨pt,by rw [hq];rfl,rfl⟩
     · exact aB
    |false=>
     rw [hq] at hQ
     by_cases hlt:(i:Int)<most
     · have hR:=fun F=>a1t (F:=F) (b:=b) (w:=(i:Int)) hw (om) (by unfold nA;omega) hfi (om) hxi
       have hf2:=(hfi.rd (i:Int)).1
       rw [show most.toNat-i=(most.toNat-(i+1))+1 by omega] at hTi
       unfold rn at hTi
       rw [if_neg (by rw [hq];simp)] at hTi
       repeat first|refine gd ?_|intro _|refine aD @hQ ?_|refine aD @hR ?_
       rename_i pt2
       refine aT (i+1,(rd c s1 i).1,pt2) (by dsimp only;omega) ⟨by dsimp only;omega,hTi,by
         have e:n+2000*(i+1)=n+2000*i+2000:=by omega
         show Fn c ps (n+2000*(i+1)) _
         rw [e];exact hf2⟩ ?_ ?_
       · exact m9
       · dsimp only;exact aB
     · have hz:most.toNat-i=0:=by omega
       rw [hz] at hTi
       have hT2:T=(s1,i):=hTi.symm
       subst hT2
       repeat first|refine gd ?_|intro _|refine aD @hQ ?_
       (apply aA rfl rfl bH)
       · exact ⟨pt,by rw [hq];rfl,rfl⟩
       · exact aB
theorem e6i {most:Int}:FnF Tryz.prog 44 [.pointer none,c.val,.int .i64 most] [] F (fun r L'=>r= .tuple [.int .i64 0,.bool false].toArray∧L'=[]):=by
  refine FnF.mk' Tryz.func44 rfl rfl Tryz.ntmps44 rfl ?_
  repeat first|refine gd ?_|intro _
  exact bF
theorem d1p {w:Int}:FnF Tryz.prog 41 [.pointer none,c.val,.int .i64 w] [] F (fun r L'=>r= .int .i64 0∧L'=[]):=by
  refine FnF.mk' Tryz.func41 rfl rfl Tryz.ntmps41 rfl ?_
  repeat first|refine gd ?_|intro _
  exact bF
def d9x (c:Cfg) (s:MaS):MaS:=if bR s then s else (rd c s 0).1
def d2e (c:Cfg) (s:MaS):Bool:= !bR s&& decide ((rd c s 0).2=0)
theorem Fn.stk (h:Fn c ps n s):Fn c ps (n+2000) (d9x c s):=by
  unfold d9x
  split
  · exact h.mono (om)
  · exact (h.rd 0).1
theorem b1b (hw:c.wf) (hf:Fn c ps n s) (hn:n≤100000000) (hx:a2v c s x) :
    FnF Tryz.prog 42 [.pointer (some ⟨b,0,none⟩),c.val] [i9 b c s x] F (fun r L'=>∃ pt:Option Addr×Nat,r= .bool (d2e c s)∧L'=[i9 b c (d9x c s) { x with pt:=pt}]):=by
  have hQ:=fun F=>b0v (F:=F) (b:=b) hx hf.ks
  have hR:=fun F=>a1t (F:=F) (b:=b) (w:=0) hw (om) (by unfold nA;omega) hf (om) hx
  unfold d2e d9x
  refine FnF.mk' Tryz.func42 rfl rfl Tryz.ntmps42 rfl ?_
  cases hq:bR s with
  |true=>
   rw [hq] at hQ
   rw [if_pos rfl]
   repeat first|refine gd ?_|intro _|refine aD @hQ ?_
   (apply aA rfl rfl bH)
   · exact ⟨x.pt,rfl,rfl⟩
   · exact aB
  |false=>
   rw [hq] at hQ
   rw [if_neg (by simp)]
   generalize rd c s 0=q at hR ⊢
   repeat first|refine gd ?_|intro _|refine aD @hQ ?_|refine aD @hR ?_
   rename_i pt
   (apply aA rfl rfl bH)
   · exact ⟨pt,congrArg Value.bool (by simp),rfl⟩
   · exact aB
end
end
section
abbrev f4h:Op3:=⟨2,1,5⟩
abbrev f4d:MaS:=bK c18 [[f4h]]
theorem f4e:nE c18 [[f4h]]=true:=by decide +kernel
theorem f5n:(rd c18 f4d 0).2=1∧d2e c18 (rd c18 f4d 0).1=false∧eQ c18 [[f4h]]=39∧eQ c18 []=0:=by decide +kernel
abbrev f5e:MaS:=d9x c18 (rd c18 f4d 0).1
theorem f5r:0<(rn c18 39 f5e 0).2∧bR (rn c18 39 f5e 0).1=true:=by decide +kernel
abbrev f4n (g1:Nat):List PrQ:=[([f4h],(some ⟨g1,0,none⟩,1))]
theorem d9y {L:List HP} {g1:Nat} [k1:RdL L 3 (.slice (some ⟨g1,0,none⟩) 1 1) 1 (aC oc [f4h])]:RdPr L (f4n g1):=⟨fun p hp=>by
  rcases List.mem_cons.1 hp with rfl|hp
  · exact k1
  · cases hp⟩
theorem f0z {c:Cfg} {ps:List (List Op3)} (h:nE c ps=true):Fn c ps 0 (bK c ps):=⟨MaI.new h,Nat.le_refl _⟩
theorem c5s {c:Cfg} {ps:List (List Op3)} (h:nE c ps=true) (l:List Pk) (i:Nat) (hi:i≤l.length):Fn c ps i (cM c (bK c ps) (l.take i)):=⟨d9d h l i hi,d9e h l i hi⟩
theorem Fn.rn {c:Cfg} {ps:List (List Op3)} (f:Nat):∀ {n:Nat} {s:MaS} (m:Nat),Fn c ps n s→Fn c ps (n+2000*f) (rn c f s m).1∧(rn c f s m).2≤m+f:=by
  induction f with
  |zero=>intro n s m h;exact ⟨h,Nat.le_refl _⟩
  |succ f ih=>
   intro n s m h
   unfold Go.Sx.rn
   split
   · exact ⟨h.mono (om),by dsimp only;omega⟩
   · obtain ⟨a1,a2⟩:=ih (m+1) (h.rd (m:Int)).1
     exact ⟨a1.mono (om),om⟩
attribute [local irreducible] Exit.then Exit.inBlock Code.wp WC WO WE WQ V bT vL fP cY eI v8 IntKind.wrap WR Code.rounds WT KO
theorem wG {Q P:Prop} (k:Q) (h:Hid Q→P:=by
  intro k
  first
  |(refine aI ?_;refine uU (id:=8) (.only [4,5]) (pl:= .p 0 <| .p 3 <| .r 2 <| .e true [(1,.e true [(4,.n [5] <| .e true [(5,.n [] <| .p 6 <| .p 7 <| .p 8 <| .p 9 <| .p 10 <| .done)])]),(4,.n [5] <| .r 1 <| .e true [(5,.n [] <| .p 6 <| .p 7 <| .p 8 <| .p 9 <| .p 10 <| .done)])]) k.out)):P:=h ⟨k⟩
theorem gB {F:List HP}:FnF Tryz.prog 40 [] [] F (fun r L'=>r= .bool true∧L'=[]):=by
  have hw:c18.wf:=c6l (by decide)
  refine FnF.mk' Tryz.func40 rfl rfl Tryz.ntmps40 rfl ?_
  repeat first|refine go ?_|intro _|refine wG ?_|refine dM ?_
  rename_i b1 g1 g2
  (first|refine n6 (Ent.trans (zM (n:=1) (c:=1) (sz:=1) rfl rfl) (Ent.cons (zM (n:=1) (c:=1) (sz:=3) rfl rfl))) ?_|refine yP (Ent.trans (zM (n:=1) (c:=1) (sz:=1) rfl rfl) (Ent.cons (zM (n:=1) (c:=1) (sz:=3) rfl rfl))) ?_|refine yQ (Ent.trans (zM (n:=1) (c:=1) (sz:=1) rfl rfl) (Ent.cons (zM (n:=1) (c:=1) (sz:=3) rfl rfl))) ?_)
  have hN:∀ F,RdL F 1 (.slice (some ⟨g2,0,none⟩) 1 1) 1 (aC b6n (f4n g1))→RdL F 3 (.slice (some ⟨g1,0,none⟩) 1 1) 1 (aC oc [f4h])→FnF Tryz.prog 17 [c18.val,.slice (some ⟨g2,0,none⟩) 1 1] [] F (fun r L'=>∃ b,r= .tuple [.pointer (some ⟨b,0,none⟩),.int .i64 0].toArray∧L'=[e0r b c18 f4d]):=fun F k1 k2=>b7t (F:=F) (ps:=f4n g1) hw k1 d9y f4e
  have hB:∀ F,RdL F 1 (.slice (some ⟨g2,0,none⟩) 1 1) 1 (aC b6n (f4n g1))→RdL F 3 (.slice (some ⟨g1,0,none⟩) 1 1) 1 (aC oc [f4h])→FnF Tryz.prog 43 [c18.val,.slice (some ⟨g2,0,none⟩) 1 1] [] F (fun r L'=>r= .int .i64 39∧L'=[]):=fun F k1 k2=>by
    have h:=xL (F:=F) (ps:=f4n g1) hw k1 d9y (fun p hp=>by
      rcases List.mem_cons.1 hp with rfl|hp
      · simp
      · cases hp)
    rwa [show eQ c18 ((f4n g1).map (·.1))=39 from f5n.2.2.1] at h
  have hB0:∀ F,FnF Tryz.prog 43 [c18.val,.slice none 0 0] [] F (fun r L'=>r= .int .i64 0∧L'=[]):=fun F=>by
    have h:=xL (F:=F) (ps:=[]) (v:= .slice none 0 0) hw qS ⟨fun p hp=>by cases hp⟩ (fun p hp=>by cases hp)
    rwa [show eQ c18 (([]:List PrQ).map (·.1))=0 from f5n.2.2.2] at h
  have z1:=fun F m=>e6i (F:=F) (c:=c18) (most:=m)
  have z2:=fun F w=>d1p (F:=F) (c:=c18) (w:=w)
  repeat first|refine go ?_|intro _|refine wG ?_|refine dM ?_|refine aD @hN ?_
  rename_i bm
  (first|refine aX (e0r bm c18 f4d) ?_|refine aY (e0r bm c18 f4d) ?_|refine aZ (e0r bm c18 f4d) ?_)
  refine x9 fun x=>?_
  refine d1d fun hx=>?_
  have f0:=f0z f4e
  have f1:=(f0.rd 0).1
  have f2:=f1.stk
  obtain ⟨f3,hn3⟩:=f2.rn 39 0
  have hR:=fun F=>a1t (F:=F) (b:=bm) (w:=0) hw (om) (by unfold nA;omega) f0 (om) hx
  have hS:=fun F pt=>b1b (F:=F) (b:=bm) hw f1 (om) (f1.maf hx pt)
  have hU:=fun F pt=>c5r (F:=F) (b:=bm) (most:=39) hw f2 (om) (om) (f2.maf hx pt)
  have hS2:=fun F pt=>b1b (F:=F) (b:=bm) hw f3 (om) (f3.maf hx pt)
  rw [f5n.1] at hR
  rw [f5n.2.1] at hS
  rw [show (39:Int).toNat=39 from rfl,f5r.2] at hU
  rw [show d2e c18 (rn c18 39 f5e 0).1=false by unfold d2e;rw [f5r.2];rfl] at hS2
  have hn0:=f5r.1
  generalize rn c18 39 f5e 0=T at *
  generalize d9x c18 T.1=sE at hS2
  generalize f5e=sZ at *
  generalize (rd c18 f4d 0).1=sA at *
  repeat' (first|refine go ?_|intro _|refine wG ?_|refine dM ?_|refine aD @hR ?_|refine aD @hS ?_|refine aD @hU ?_|refine aD @hB ?_|refine aD @hB0 ?_|refine aD @z1 ?_|refine aD @z2 ?_|refine aD @hS2 ?_|apply zL|fail)
  all_goals exact bF
end
section
def c8m (c:Cfg) (cs:List CaS) (line:Int):Option Words:=(cs.find? fun k=>decide (2≤(aP c k.ways line).st)).map fun k=>(aP c k.ways line).words
def rD (line:Int) (e:WbE):Bool:=decide (e.line=line)&& e.live
def c4p (cs:List CaS) (line:Int):Option Words:=(cs.findSome? fun k=>k.buf.find? (rD line)).map (·.words)
def b4e (c:Cfg) (s:MaS) (line:Int):Words:=match c8m c s.cs line with|some w=>w|none=>match c4p s.cs line with|some w=>w|none=>sX c (bU s (cU c line)) line
def d2f (c:Cfg) (s:MaS) (addr:Int):Int:=if fR c addr then (b4e c s (bS c addr)).list.getD (lL c addr).toNat 0 else 0
theorem c8n {c:Cfg} {cs:List CaS} {line:Int} (h:∀ i (hi:i<cs.length),¬2≤(aP c cs[i].ways line).st):c8m c cs line=none:=by
  unfold c8m
  rw [List.find?_eq_none.2]
  · rfl
  · intro k hk
    obtain ⟨i,hi,rfl⟩:=List.getElem_of_mem hk
    simpa using h i hi
theorem c8o {c:Cfg} {cs:List CaS} {line:Int} {i:Nat} (hi:i<cs.length) (h:∀ j (hj:j<cs.length),j<i→¬2≤(aP c cs[j].ways line).st) (h2:2≤(aP c cs[i].ways line).st):c8m c cs line=some (aP c cs[i].ways line).words:=by
  unfold c8m
  have:cs.find? (fun k=>decide (2≤(aP c k.ways line).st))=some cs[i]:=by
    rw [List.find?_eq_some_iff_getElem]
    exact ⟨by simpa using h2,i,hi,rfl,fun j hj=>by simpa using h j (om) hj⟩
  rw [this];rfl
theorem c8p {cs:List CaS} {line:Int} (h:∀ i (hi:i<cs.length),cs[i].buf.find? (rD line)=none):c4p cs line=none:=by
  unfold c4p
  rw [List.findSome?_eq_none_iff.2]
  · rfl
  · intro k hk
    obtain ⟨i,hi,rfl⟩:=List.getElem_of_mem hk
    exact h i hi
theorem e6j {cs:List CaS} {line:Int} {i:Nat} {e:WbE} (hi:i<cs.length) (h:∀ j (hj:j<cs.length),j<i→cs[j].buf.find? (rD line)=none) (h2:cs[i].buf.find? (rD line)=some e):c4p cs line=some e.words:=by
  unfold c4p
  have:∀ (l:List CaS) (i:Nat) (hi:i<l.length),(∀ j (hj:j<l.length),j<i→l[j].buf.find? (rD line)=none)→l[i].buf.find? (rD line)=some e→l.findSome? (fun k=>k.buf.find? (rD line))=some e:=by
    intro l
    induction l with
    |nil=>intro i hi;simp at hi
    |cons a r ih=>
     intro i hi h h2
     cases i with
     |zero=>rw [List.findSome?_cons];simp only [List.getElem_cons_zero] at h2;rw [h2]
     |succ i=>
      rw [List.findSome?_cons]
      have:=h 0 (by simp) (om)
      simp only [List.getElem_cons_zero] at this
      rw [this]
      exact ih i (by simpa using hi) (fun j hj hji=>by have:=h (j+1) (by simpa using hj) (om);simpa using this) (by simpa using h2)
  rw [this cs i hi h h2];rfl
theorem e7l (w:Words) {i:Nat} (h:i<8):(wc w)[0+((i:Nat):Int).toNat*1]? =some (.int .i64 (w.list.getD i 0)):=by
  rw [Int.toNat_natCast,Nat.zero_add,Nat.mul_one]
  match i,h with
  |0,_=>rfl|1,_=>rfl|2,_=>rfl|3,_=>rfl|4,_=>rfl|5,_=>rfl|6,_=>rfl|7,_=>rfl
theorem d1q {e:TypeId} {sz n:Nat} {v:Value} {xs:List Value} {P:Program} {N:Nat} {env:Env} {L:List HP} {Q:Exit→Act→World→Prop} {co:Code} (h:n≤9223372036854775807→WC P N co env (Own e sz v n xs::L) Q):WC P N co env (Own e sz v n xs::L) Q:=fun a w ha hw=>h (by
  rcases (a1n hw).2.2 with ⟨_,_,hn,_⟩|⟨g,cap,spare,hv,hnc,hm,_⟩
  · omega
  · simp only [maxLen] at hm;omega) a w ha hw
attribute [local irreducible] Exit.then Exit.inBlock Code.wp WC WO WE WQ V bT vL fP cY eI v8 IntKind.wrap WR Code.rounds WT KO
theorem d7l {F:List HP} {b:Nat} {c:Cfg} {s:MaS} {x:MaX} {addr:Int} (hc:c.wf) (ha:nA addr):FnF Tryz.prog 33 [.pointer (some ⟨b,0,none⟩),c.val,.int .i64 addr] [i9 b c s x] F
    (fun r L'=>r= .tuple [.int .i64 (d2f c s addr),.bool (fR c addr)].toArray∧L'=[i9 b c s x]):=by
  have hAd:=fun F=>t8 (F:=F) (c:=c) (a:=addr) hc ha
  refine FnF.mk' Tryz.func33 rfl rfl Tryz.ntmps33 rfl ?_
  cases hok:fR c addr with
  |false=>
   have he:zZ c addr≠0:=by unfold zZ;rw [hok];simp
   have hv:d2f c s addr=0:=by unfold d2f;rw [hok];rfl
   rw [hv]
   repeat first|refine gd ?_|intro _
   apply b0d (P:=Tryz.prog) (l:=0) (fun _:Unit=>[]) (fun _=>[]) (fun _=>False) (by rfl)
   · repeat first|refine gd ?_|intro _|refine aD @hAd ?_
     refine oK ?_
     repeat first|refine gd ?_|intro _
     exact bF
   · intro _ h
     exact absurd h id
  |true=>
   have he:zZ c addr=0:=by unfold zZ;rw [hok];rfl
   obtain ⟨hck,h0,h1⟩:=a1o hok
   have hcf:=dF hck
   have hline:aL c (bS c addr)=true:=by
     unfold bS aL
     rw [if_pos hok,hck]
     have:0≤addr / c.words:=Int.ediv_nonneg h0 (om)
     have:addr / c.words<c.lines:=Int.ediv_lt_of_lt_mul (om) (by rw [Int.mul_comm];exact h1)
     simp;omega
   have hlI:=uE hline
   have hLn:=fun F=>n3 (F:=F) (c:=c) (a:=bS c addr) hc hlI
   generalize hL:bS c addr=line at hline hlI hLn hAd
   have hH0:0≤cU c line∧cU c line<c.homes:=by
     unfold cU;rw [if_pos hline]
     have:=p4 hck
     exact ⟨Int.emod_nonneg _ (om),Int.emod_lt_of_pos _ (om)⟩
   obtain ⟨hn,hhn⟩:∃ n:Nat,cU c line=n:=⟨(cU c line).toNat,om⟩
   have hW0:0≤lL c addr∧lL c addr<c.words:=by
     unfold lL;rw [if_pos hok]
     exact ⟨Int.emod_nonneg _ (om),Int.emod_lt_of_pos _ (om)⟩
   obtain ⟨wn,hwn⟩:∃ n:Nat,lL c addr=n:=⟨(lL c addr).toNat,om⟩
   have hw8:wn<8:=by have:=hcf.2.1;omega
   have hv:d2f c s addr=(b4e c s line).list.getD wn 0:=by unfold d2f;rw [if_pos hok,hL,hwn];rfl
   rw [hv]
   rw [hhn] at hLn
   rw [hwn] at hAd
   repeat first|refine gd ?_|intro _
   rename_i b4
   apply b0d (P:=Tryz.prog) (l:=0) (fun q:Nat=>[(9,.int .i64 (wn:Int)),(15,.pointer (some ⟨q,0,none⟩))]) (fun q=>Cells q 97 (wc (b4e c s line))::i9 b c s x::F) (fun _=>True) (by rfl)
   · (first|refine aX (i9 b c s x) ?_|refine aY (i9 b c s x) ?_|refine aZ (i9 b c s x) ?_)
     refine a1y fun hf=>?_
     have hhb:hn<x.hb.length:=by have:=hf.2.1.2.2;omega
     have hHo:=fun F=>c8c (F:=F) (b:=b) (c:=c) (s:=s) (x:=x) hhb
     have hLi:=fun F=>e1o (F:=F) (b:=x.hb.getD hn 0) (c:=c) (num:=(hn:Int)) (s:=s.hs.getD hn a5e) (line:=line) hc hlI
     have hmH:bU s (cU c line)=s.hs.getD hn a5e:=by unfold bU;rw [hhn];rfl
     repeat first|refine gd ?_|intro _|refine aD @hAd ?_|refine aD @hLn ?_|refine aD @hHo ?_
     (first|refine aX (i9 b c s x) ?_|refine aY (i9 b c s x) ?_|refine aZ (i9 b c s x) ?_)
     refine c4e hn hhb ?_
     repeat first|refine gd ?_|intro _|refine aD @hLi ?_
     rename_i b15
     generalize hwH:sX c (s.hs.getD hn a5e) line=wH
     have hfin:b4e c s line=match c8m c s.cs line with|some w=>w|none=>match c4p s.cs line with|some w=>w|none=>wH:=by unfold b4e;rw [hmH,hwH]
     have hcl:s.cs.length=x.ab.length:=hf.1.2.1
     have hhl:s.hs.length=x.hb.length:=hf.1.2.2
     have hab:x.ab.length≤64:=by have:=(bG hck).1;have:=hf.2.1.2.1;omega
     have hcc:(x.ab.length:Int)=c.cores:=hf.2.1.2.1
     apply aW (E0:=[(0,_),(4,_),(8,_),(9,_),(15,_),(53,_)]) (fun E0 (i:Nat)=>(54,.int .i64 i)::E0) (fun _=>Cells b15 97 (wc wH)::i9 b c s x::Cells b4 24 c.cells::F) (fun i=>i≤x.ab.length∧∀ j (hj:j<s.cs.length),j<i→¬2≤(aP c s.cs[j].ways line).st) (fun i=>x.ab.length-i) 0
     · exact m9
     · exact ⟨Nat.zero_le _,fun j _ h=>absurd h (Nat.not_lt_zero _)⟩
     · exact zR @a3p
     · rintro i ⟨hi,hno⟩
       by_cases hlt:i<x.ab.length
       · have hCa:=fun F=>c1e (F:=F) (b:=b) (c:=c) (s:=s) (x:=x) hlt
         have hgi:s.cs.getD i caZ=s.cs[i]:=by simp [show i<s.cs.length by omega]
         have hLk:=fun F=>e3a (F:=F) (b:=x.ab.getD i 0) (c:=c) (core:=(i:Int)) (k:=s.cs.getD i caZ) (line:=line) hlI
         repeat first|refine gd ?_|intro _|refine aD @hCa ?_
         (first|refine aX (i9 b c s x) ?_|refine aY (i9 b c s x) ?_|refine aZ (i9 b c s x) ?_)
         refine a8y i hlt ?_
         by_cases h2:2≤(aP c (s.cs.getD i caZ).ways line).st
         · repeat first|refine gd ?_|intro _|refine aD @hLk ?_
           (repeat (first|refine c6w ?_|refine a0q ?_|refine yR ?_|refine a0r ?_))
           have hfw:wc (aP c (s.cs.getD i caZ).ways line).words=wc (b4e c s line):=by
             rw [hfin,hgi] at *
             rw [c8o (om) hno h2]
           refine c6x b15 trivial ?_ ?_
           · exact m9
           · simp only [←hfw]
             exact zR @x6
         · have hno2:i+1≤x.ab.length∧∀ j (hj:j<s.cs.length),j<i+1→¬2≤(aP c s.cs[j].ways line).st:=by
             refine ⟨om,fun j hj hji=>?_⟩
             by_cases e:j=i
             · subst e;rw [←hgi];exact h2
             · exact hno j hj (om)
           repeat first|refine gd ?_|intro _|refine aD @hLk ?_
           refine aT (i+1) (om) hno2 ?_ ?_
           · exact m9
           · exact zR @x6
       · have hf1:c8m c s.cs line=none:=c8n fun j hj=>hno j hj (om)
         have hfin2:b4e c s line=match c4p s.cs line with|some w=>w|none=>wH:=by rw [hfin,hf1]
         repeat first|refine gd ?_|intro _
         apply aW (E0:=[(0,_),(8,_),(9,_),(15,_),(72,_)]) (fun E0 (i:Nat)=>(73,.int .i64 i)::E0) (fun _=>Cells b15 97 (wc wH)::i9 b c s x::F) (fun i=>i≤x.ab.length∧∀ j (hj:j<s.cs.length),j<i→s.cs[j].buf.find? (rD line)=none) (fun i=>x.ab.length-i) 0
         · exact m9
         · exact ⟨Nat.zero_le _,fun j _ h=>absurd h (Nat.not_lt_zero _)⟩
         · exact aB
         · rintro i ⟨hi2,hnl⟩
           by_cases hlt2:i<x.ab.length
           · have hCa:=fun F=>c1e (F:=F) (b:=b) (c:=c) (s:=s) (x:=x) hlt2
             have hgi:s.cs.getD i caZ=s.cs[i]:=by simp [show i<s.cs.length by omega]
             have hWr:=fun F=>a7x (F:=F) (b:=x.ab.getD i 0) (c:=c) (core:=(i:Int)) (k:=s.cs.getD i caZ)
             repeat first|refine gd ?_|intro _|refine aD @hCa ?_
             (first|refine aX (i9 b c s x) ?_|refine aY (i9 b c s x) ?_|refine aZ (i9 b c s x) ?_)
             refine a8y i hlt2 ?_
             repeat first|refine gd ?_|intro _|refine aD @hWr ?_
             rename_i pw cw
             obtain ⟨bf,hbf⟩:∃ bf,(s.cs.getD i caZ).buf=bf:=⟨_,rfl⟩
             have hbf':s.cs[i].buf=bf:=by rw [←hgi];exact hbf
             rw [hbf]
             (first|refine aX (Own 125 10 (.slice pw bf.length cw) bf.length (aC bc bf)) ?_|refine aY (Own 125 10 (.slice pw bf.length cw) bf.length (aC bc bf)) ?_|refine aZ (Own 125 10 (.slice pw bf.length cw) bf.length (aC bc bf)) ?_)
             refine d1q fun hbm=>?_
             apply aW (E0:=[(0,_),(8,_),(9,_),(15,_),(72,_),(73,_),(79,_),(80,_)]) (fun E0 (j:Nat)=>(81,.int .i64 j)::E0) (fun _=>Own 125 10 (.slice pw bf.length cw) bf.length (aC bc bf)::Cells b15 97 (wc wH)::i9 b c s x::F) (fun j=>j≤bf.length∧∀ k (hk:k<bf.length),k<j→rD line bf[k]=false) (fun j=>bf.length-j) 0
             · exact m9
             · exact ⟨Nat.zero_le _,fun j _ h=>absurd h (Nat.not_lt_zero _)⟩
             · exact zR @x6
             · rintro j ⟨hj,hnj⟩
               by_cases hlt3:j<bf.length
               · by_cases h3:bf[j].line=line
                 · cases h4:bf[j].live with
                   |true=>
                    repeat first|refine gd ?_|intro _
                    (repeat (first|refine c6w ?_|refine a0q ?_|refine yR ?_|refine a0r ?_))
                    have hfw:wc bf[j].words=wc (b4e c s line):=by
                      have hfd:bf.find? (rD line)=some bf[j]:=by
                        rw [List.find?_eq_some_iff_getElem]
                        exact ⟨by simp [rD,h3,h4],j,hlt3,rfl,fun k hk=>by simp [hnj k (om) hk]⟩
                      rw [hfin2,e6j (i:=i) (om) hnl (by rw [hbf'];exact hfd)]
                    refine c6x b15 trivial ?_ ?_
                    · exact m9
                    · simp only [←hfw]
                      exact aB
                   |false=>
                    have hnj2:j+1≤bf.length∧∀ k (hk:k<bf.length),k<j+1→rD line bf[k]=false:=by
                      refine ⟨om,fun k hk hkj=>?_⟩
                      by_cases e:k=j
                      · subst e;simp [rD,h4]
                      · exact hnj k hk (om)
                    repeat first|refine gd ?_|intro _
                    refine aT (j+1) (om) hnj2 ?_ ?_
                    · exact m9
                    · exact aB
                 · have hnj2:j+1≤bf.length∧∀ k (hk:k<bf.length),k<j+1→rD line bf[k]=false:=by
                     refine ⟨om,fun k hk hkj=>?_⟩
                     by_cases e:k=j
                     · subst e;simp [rD,h3]
                     · exact hnj k hk (om)
                   repeat first|refine gd ?_|intro _
                   refine aT (j+1) (om) hnj2 ?_ ?_
                   · exact m9
                   · exact aB
               · have hnl2:i+1≤x.ab.length∧∀ j (hj:j<s.cs.length),j<i+1→s.cs[j].buf.find? (rD line)=none:=by
                   refine ⟨om,fun k hk hki=>?_⟩
                   by_cases e:k=i
                   · subst e
                     rw [hbf',List.find?_eq_none]
                     intro e he
                     obtain ⟨q,hq,rfl⟩:=List.getElem_of_mem he
                     simp [hnj q hq (om)]
                   · exact hnl k hk (om)
                 repeat first|refine gd ?_|intro _
                 refine aT (i+1) (om) hnl2 ?_ ?_
                 · exact m9
                 · exact aB
           · have hf2:c4p s.cs line=none:=c8p fun j hj=>hnl j hj (om)
             have hfin3:b4e c s line=wH:=by rw [hfin2,hf2]
             rw [hfin3]
             repeat first|refine gd ?_|intro _
             refine c0h ?_
             have hg:=e7l wH hw8
             repeat first|refine gd ?_|intro _
             refine oK ?_
             repeat first|refine gd ?_|intro _
             exact bF
   · rintro b15 _
     have hg:=e7l (b4e c s line) hw8
     repeat first|refine gd ?_|intro _
     refine oK ?_
     repeat first|refine gd ?_|intro _
     exact bF
end
end Go.Sx
