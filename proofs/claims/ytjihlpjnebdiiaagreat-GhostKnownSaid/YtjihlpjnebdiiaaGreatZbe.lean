/- GhW6, MaAw, MaEn, GhAw, MaRd: several of my texts as one. My own work. -/
import Derived.Test.YtjihlpjnebdiiaaGreatZbd
set_option linter.unusedVariables false
set_option linter.unusedSectionVars false
set_option linter.unusedSimpArgs false
set_option maxRecDepth 100000
set_option maxHeartbeats 4000000
namespace Go.Sx
open Go Go.Proofs
section
abbrev f0i (bl be:Nat) (line:Int) (e:TEnt) (a:Option Addr) (k:Nat):HP:=All [Cells bl 3 [.int .i64 line],Cells be 135 (d0f e a k),Own 3 1 (.slice a e.s.ps.length k) e.s.ps.length (aC ic e.s.ps)]
theorem a7m {bl be:Nat} {line:Int} {e:TEnt} {a:Option Addr} {k:Nat} {L:List HP}:Ent (f0i bl be line e a k::L) (Cells bl 3 [.int .i64 line]::Cells be 135 (d0f e a k)::Own 3 1 (.slice a e.s.ps.length k) e.s.ps.length (aC ic e.s.ps)::L):=i4
theorem e9 {bl be:Nat} {line:Int} {e:TEnt} {a:Option Addr} {k:Nat} {L:List HP}:Ent (Cells bl 3 [.int .i64 line]::Cells be 135 (d0f e a k)::Own 3 1 (.slice a e.s.ps.length k) e.s.ps.length (aC ic e.s.ps)::L) (f0i bl be line e a k::L):=gF (ps:=[Cells bl 3 [.int .i64 line],Cells be 135 (d0f e a k),Own 3 1 (.slice a e.s.ps.length k) e.s.ps.length (aC ic e.s.ps)])
attribute [local irreducible] Exit.then Exit.inBlock Code.wp WC WO WE WQ V bF tV d3 bW dF uH IntKind.wrap WR Code.rounds WT KO
section
variable {b:Nat} {c:Cfg} {s:MaS} {x:MaX} {F:List HP} {line:Int}
theorem c7h {i bl be:Nat} {e:TEnt} {a:Option Addr} {k:Nat} (hli:kP line) (hi:i<x.ab.length) (hx:yS c s x) (hm:rE e=true) :
    FnF Tryz.prog 82 [.int .i64 i,.pointer (some ⟨x.ab.getD i 0,0,none⟩),.pointer (some ⟨bl,0,none⟩),.pointer (some ⟨be,0,none⟩)] [f0i bl be line e a k,i7 b c s x] F
      (fun r L'=>r= .bool (d6q (iU c s line i)&& decide (e.o≠i)|| c8o (iU c s line i)&& decide (e.o≠i)&& !bN e.s i)∧L'=[f0i bl be line e a k,i7 b c s x]):=by
  have hL:=fun F=>c3l (F:=F) (b:=b) hi hx hli
  unfold iU
  generalize aT c (s.cs.getD i caZ).ways line=w at hL ⊢
  generalize iQ c (s.cs.getD i caZ).ways line=wb at hL
  have hO:=fun F=>b7f (F:=F) (w:=w)
  have hR:=fun F=>u5 (F:=F) (w:=w)
  refine FnF.mk' Tryz.func82 rfl rfl Tryz.ntmps82 rfl ?_
  (first|refine jR (a7m) ?_|refine nT (a7m) ?_|refine nU (a7m) ?_)
  have hsm:c7 e.s=true:=by
    unfold rE at hm
    simp only [Bool.and_eq_true] at hm
    exact hm.1.1
  have hSh:=fun F (hk:RdL F 1 (.slice a e.s.ps.length k) e.s.ps.length (aC ic e.s.ps))=>a6q (F:=F) (c:=(i:Int)) hk hsm
  by_cases h1:e.o=i
  · cases h2:d6q w with
    |true=>
     rw [h2] at hO
     cases h3:c8o w with
     |true=>
      rw [h3] at hR
      repeat first|refine gd ?_|intro _|refine aD @hL ?_|refine aD @hO ?_|refine aD @hR ?_
      (apply aA rfl rfl bB)
      · exact ⟨congrArg Value.bool (by simp [h1]),rfl⟩
      · refine Ent.trans ?_ e9
        exact aB
     |false=>
      rw [h3] at hR
      repeat first|refine gd ?_|intro _|refine aD @hL ?_|refine aD @hO ?_|refine aD @hR ?_
      (apply aA rfl rfl bB)
      · exact ⟨congrArg Value.bool (by simp [h1]),rfl⟩
      · refine Ent.trans ?_ e9
        exact aB
    |false=>
     rw [h2] at hO
     cases h3:c8o w with
     |true=>
      rw [h3] at hR
      repeat first|refine gd ?_|intro _|refine aD @hL ?_|refine aD @hO ?_|refine aD @hR ?_
      (apply aA rfl rfl bB)
      · exact ⟨congrArg Value.bool (by simp [h1]),rfl⟩
      · refine Ent.trans ?_ e9
        exact aB
     |false=>
      rw [h3] at hR
      repeat first|refine gd ?_|intro _|refine aD @hL ?_|refine aD @hO ?_|refine aD @hR ?_
      (apply aA rfl rfl bB)
      · exact ⟨congrArg Value.bool (by simp [h1]),rfl⟩
      · refine Ent.trans ?_ e9
        exact aB
  · cases h2:d6q w with
    |true=>
     rw [h2] at hO
     repeat first|refine gd ?_|intro _|refine aD @hL ?_|refine aD @hO ?_|refine aD @hR ?_
     (apply aA rfl rfl bB)
     · exact ⟨congrArg Value.bool (by simp [h1]),rfl⟩
     · refine Ent.trans ?_ e9
       exact aB
    |false=>
     rw [h2] at hO
     cases h3:c8o w with
     |true=>
      rw [h3] at hR
      repeat first|refine gd ?_|intro _|refine aD @hL ?_|refine aD @hO ?_|refine aD @hR ?_|refine aD @hSh ?_
      (apply aA rfl rfl bB)
      · exact ⟨congrArg Value.bool (by simp [h1]),rfl⟩
      · refine Ent.trans ?_ e9
        exact aB
     |false=>
      rw [h3] at hR
      repeat first|refine gd ?_|intro _|refine aD @hL ?_|refine aD @hO ?_|refine aD @hR ?_
      (apply aA rfl rfl bB)
      · exact ⟨congrArg Value.bool (by simp [h1]),rfl⟩
      · refine Ent.trans ?_ e9
        exact aB
theorem nI {Q P:Prop} (k:Q) (h:Hid Q→P:=by
  intro k
  first
  |(refine aG ?_;refine q9 (id:=3) (.only [12]) (pl:= .p 0 <| .p 2 <| .r 1 <| .r 3 <| .p 4 <| .r 6 <| .e true [(5,.e true [(7,.p 8 <| .p 9 <| .p 10 <| .e true [(11,.e true [(12,.n [] <| .p 13 <| .done)])]),(11,.e true [(7,.p 8 <| .p 9 <| .p 10 <| .e true [(12,.n [] <| .p 13 <| .done)])])]),(11,.e true [(5,.e true [(7,.p 8 <| .p 9 <| .p 10 <| .e true [(12,.n [] <| .p 13 <| .done)])])])]) k.out)):P:=h ⟨k⟩
theorem b8a (hc:c.wf) (hli:kP line) (hx:yS c s x) (hE:∀ d e,fQ (s.hs.getD d zA).es line=some e→rE e=true) (hE0:rJ c line=false→∀ d:Nat,line.tmod c.homes=d→rE (aJ (s.hs.getD d zA) line)=true):FnF Tryz.prog 39 [.pointer (some ⟨b,0,none⟩),c.val,.int .i64 line] [i7 b c s x] F (fun r L'=>r= .bool (a8o c s line)∧L'=[i7 b c s x]):=by
  have hN:=fun F=>a0c (F:=F) (c:=c) (line:=line) (b:=b)
  have hch:=rF hx.2.2
  unfold a8o
  refine FnF.mk' Tryz.func39 rfl rfl Tryz.ntmps39 rfl ?_
  cases h0:rJ c line with
  |true=>
   rw [h0] at hN
   repeat first|refine go ?_|intro _|refine nI ?_|refine cM ?_|refine aD @hN ?_
   exact aU
  |false=>
   rw [h0] at hN
   obtain ⟨hl0,hl1⟩:=a5p h0
   obtain ⟨d,hd,hdh,hdn⟩:=b3a hl0 hch.1
   have hhb:(x.hb.length:Int)=c.homes:=hx.2.1.2.2
   have hR:=fun F=>vP (F:=F) (b:=b) hc hli hx
   have hH:=fun F=>b2l (F:=F) (b:=b) (c:=c) (s:=s) (x:=x) (i:=d) (om)
   have hEn:=fun F=>d0o (F:=F) (b:=b) (i:=d) (line:=line) (om) hx (hE d)
   rw [←hd] at hH
   cases hg:n9 c s line with
   |false=>
    rw [hg] at hR
    repeat first|refine go ?_|intro _|refine nI ?_|refine cM ?_|refine aD @hN ?_|refine aD @hR ?_
    exact aU
   |true=>
    rw [hg] at hR
    unfold e7n
    rw [hdn]
    have hme:=hE0 h0 d hd
    generalize aJ (s.hs.getD d zA) line=e at hEn hme ⊢
    have hC:=fun F bl be a k=>rZ (F:=F) (b:=b) (c:=c) (s:=s) (x:=x) (fk:=82) (first:=[]) (cap:=[.pointer (some ⟨bl,0,none⟩),.pointer (some ⟨be,0,none⟩)]) (R:=f0i bl be line e a k) (p:=fun i=>d6q (iU c s line i)&& decide (e.o≠i)|| c8o (iU c s line i)&& decide (e.o≠i)&& !bN e.s i) hx (fun F i hi=>c7h (F:=F) hli hi hx hme)
    generalize a8z c (fun i=>d6q (iU c s line i)&& decide (e.o≠i)|| c8o (iU c s line i)&& decide (e.o≠i)&& !bN e.s i)=a1 at hC ⊢
    repeat' (first|refine go ?_|intro _|refine nI ?_|refine cM ?_|refine aD @hN ?_|refine aD @hR ?_|refine aD @hH ?_|refine aD @hEn ?_|apply mU|fail)
    · rename_i b4 b5 q b7
      (first|refine aW (Own 3 1 (.slice q.1 e.s.ps.length q.2) e.s.ps.length (aC ic e.s.ps)) ?_|refine aX (Own 3 1 (.slice q.1 e.s.ps.length q.2) e.s.ps.length (aC ic e.s.ps)) ?_|refine aY (Own 3 1 (.slice q.1 e.s.ps.length q.2) e.s.ps.length (aC ic e.s.ps)) ?_)
      (first|refine aW (Cells b7 135 (d0f e q.1 q.2)) ?_|refine aX (Cells b7 135 (d0f e q.1 q.2)) ?_|refine aY (Cells b7 135 (d0f e q.1 q.2)) ?_)
      (first|refine aW (Cells b5 3 [.int .i64 line]) ?_|refine aX (Cells b5 3 [.int .i64 line]) ?_|refine aY (Cells b5 3 [.int .i64 line]) ?_)
      (first|refine jR (e9) ?_|refine nT (e9) ?_|refine nU (e9) ?_)
      repeat first|refine go ?_|intro _|refine nI ?_|refine cM ?_|refine aD @hC ?_
      exact aU
    all_goals
      rename_i b4 b5 b7 q
      (first|refine aW (Own 3 1 (.slice q.1 e.s.ps.length q.2) e.s.ps.length (aC ic e.s.ps)) ?_|refine aX (Own 3 1 (.slice q.1 e.s.ps.length q.2) e.s.ps.length (aC ic e.s.ps)) ?_|refine aY (Own 3 1 (.slice q.1 e.s.ps.length q.2) e.s.ps.length (aC ic e.s.ps)) ?_)
      (first|refine aW (Cells b7 135 (d0f e q.1 q.2)) ?_|refine aX (Cells b7 135 (d0f e q.1 q.2)) ?_|refine aY (Cells b7 135 (d0f e q.1 q.2)) ?_)
      (first|refine aW (Cells b5 3 [.int .i64 line]) ?_|refine aX (Cells b5 3 [.int .i64 line]) ?_|refine aY (Cells b5 3 [.int .i64 line]) ?_)
      (first|refine jR (e9) ?_|refine nT (e9) ?_|refine nU (e9) ?_)
      repeat first|refine go ?_|intro _|refine nI ?_|refine cM ?_|refine aD @hC ?_
      exact aU
end
end
section
abbrev d9v (p:Pk):List Value:=[.int .i64 p.kind,.int .i64 p.a,.int .i64 p.b]
def Pk.wf (p:Pk):Prop:=kP p.kind∧kP p.a∧kP p.b
abbrev c18:Cfg:=⟨1,1,1,1,1,2,0,1,1,1,1,1,1⟩
abbrev f0j:Op3:=⟨3,1,5⟩
theorem e8m {c:Cfg} {n:Nat} {s:MaS} (h:MaL c n s) (p:Pk):(d5 c s p).tr.length≤s.tr.length+1:=by
  rcases c4w h p with g|⟨i,v,_,_,_,g⟩
  · have:(d5 c s p).tr=s.tr:=congrArg Prod.snd g
    rw [this];omega
  · have:(d5 c s p).tr=(q8 s i (j9 (iK s i)) v).tr:=congrArg Prod.snd g
    rw [this]
    show (s.tr++[_]).length≤_
    rw [List.length_append,List.length_singleton];omega
theorem d2f {c:Cfg} {n:Nat} {s:MaS} (h:MaL c n s) (l:List Pk):(eY c s l).tr.length≤s.tr.length+l.length:=by
  unfold eY
  induction l generalizing n s with
  |nil=>exact Nat.le_refl _
  |cons p l ih=>
   rw [List.foldl_cons,List.length_cons]
   have:=ih (h.pick p)
   have:=e8m h p
   omega
theorem wU {g n c sz:Nat} {T:TypeId} {l:List Value} {L:List HP} (hl:l.length=n*sz) (h1:l.all one=true):Ent (Cells g T l::L) (Rds sz (.slice (some ⟨g,0,none⟩) n c) n l::L):=fun h ⟨S,U,d,hp,hL⟩=>
  ⟨S,U,d,⟨hl,h1,.inr ⟨g,0,c,l.toArray,T,rfl,hp.pf,fun j u hu=>by simpa using hu⟩⟩,hL⟩
attribute [local irreducible] Exit.then Exit.inBlock Code.wp WC WO WE WQ V bF tV d3 bW dF uH IntKind.wrap WR Code.rounds WT KO
section
variable {F:List HP} {b:Nat} {c:Cfg} {s:MaS} {x:MaX}
end
end
section
def OldPs (W:World) (ps:List PrQ):Prop:=∀ p∈ps,ROld W 3 (.slice p.2.1 p.1.length p.2.2) p.1.length (aC oc p.1)
theorem OldPs.rd {W:World} {ps:List PrQ} (k:OldPs W ps) (L:List HP):RdPr (Old W::L) ps:=⟨fun p hp=>by haveI:=k p hp;exact inferInstance⟩
theorem c0s {c:Cfg} {ps:List (List Op3)} {k:Int} (h:a0o c ps k=false):¬(8<c.cores∧c.cores≤64)∧¬(32<c.lines∧c.lines≤1024)∧wX ps≤80∧ps.length≤100∧k≤300:=by
  simp only [a0o,decide_eq_false_iff_not] at h
  omega
abbrev e7o (ps:List PrQ):List (List Op3):=ps.map (·.1)
theorem b4h {c:Cfg} {ps:List (List Op3)} (h:a6v c ps=true) (l:List Pk) (i:Nat) (hi:i≤l.length):MaI c ps i (eY c (cW c ps) (l.take i)):=by
  have:=(MaI.new h).picks (l.take i)
  rw [List.length_take,Nat.min_eq_left hi,Nat.zero_add] at this
  exact this
theorem b4i {c:Cfg} {ps:List (List Op3)} (h:a6v c ps=true) (l:List Pk) (i:Nat) (hi:i≤l.length):(eY c (cW c ps) (l.take i)).tr.length≤i:=by
  have:=d2f (MaL.new h) (l.take i)
  have e:(cW c ps).tr.length=0:=rfl
  rw [List.length_take,Nat.min_eq_left hi,e] at this
  omega
attribute [local irreducible] Exit.then Exit.inBlock Code.wp WC WO WE WQ V bF tV d3 bW dF uH IntKind.wrap WR Code.rounds WT KO
theorem c0t {F:List HP} {b:Nat} {c:Cfg} {ps:List (List Op3)} {l:List Pk} {x:MaX} {i:Nat} (hw:c.wf) (hok:a6v c ps=true) (hl:l.length≤300) (hp:∀ p∈l,Pk.wf p) (hi:i<l.length) (hx:yS c (eY c (cW c ps) (l.take i)) x) :
    FnF Tryz.prog 18 [.pointer (some ⟨b,0,none⟩),f0z l[i]] [i7 b c (eY c (cW c ps) (l.take i)) x] F (fun r L'=>∃ pt:Option Addr×Nat,r= .bool (iX c (eY c (cW c ps) (l.take i)) l[i])∧L'=[i7 b c (eY c (cW c ps) (l.take (i+1))) { x with pt:=pt}]):=by
  have h:=c3k (F:=F) (b:=b) (x:=x) (p:=l[i]) hw (b4h hok l i (om)).l (om) (by have:=b4i hok l i (om);omega) (hp _ (List.getElem_mem hi)) hx
  rw [←zB hi] at h
  exact h
end
section
abbrev f1o:MaS:=cW c18 [[f0j]]
abbrev l20:List Pk:=[⟨0,0,0⟩,⟨1,0,0⟩,⟨2,0,0⟩,⟨2,0,0⟩]
def rL (i:Nat):MaS:=eY c18 f1o (l20.take i)
theorem d9w:a6v c18 [[f0j]]=true:=by decide +kernel
theorem f1p (i:Nat) (hi:i<4):d5 c18 (rL i) (l20.getD i ⟨0,0,0⟩)=rL (i+1):=by
  unfold rL
  have e:l20.getD i ⟨0,0,0⟩=l20[i]'hi:=by rw [List.getD_eq_getElem?_getD,List.getElem?_eq_getElem hi];rfl
  rw [zB hi,e]
theorem f1q (i:Nat) (hi:i<4):kP (l20.getD i ⟨0,0,0⟩).kind∧kP (l20.getD i ⟨0,0,0⟩).a∧kP (l20.getD i ⟨0,0,0⟩).b:=by
  have:i=0∨i=1∨i=2∨i=3:=by omega
  rcases this with rfl|rfl|rfl|rfl<;>(unfold kP;decide)
theorem f1c:n9 c18 (rL 0) 1=true∧n9 c18 (rL 4) 1=false∧n9 c18 (rL 4) 0=true:=by decide +kernel
abbrev f1d (g1:Nat):List PrQ:=[([f0j],(some ⟨g1,0,none⟩,1))]
theorem e5j {L:List HP} {g1:Nat} [k1:RdL L 3 (.slice (some ⟨g1,0,none⟩) 1 1) 1 (aC oc [f0j])]:RdPr L (f1d g1):=⟨fun p hp=>by
  rcases List.mem_cons.1 hp with rfl|hp
  · exact k1
  · cases hp⟩
theorem b4j {c:Cfg} {ps:List (List Op3)} {n:Nat} {s:MaS} (h:MaI c ps n s) (line:Int):(vU s.n line).length≤1000000:=by
  have h0:(s.n.l0.length:Int)≤c.r0:=h.l.rm 0 rfl
  have h1:(s.n.l1.length:Int)≤c.r1:=h.l.rm 1 rfl
  have h2:(s.n.l2.length:Int)≤c.r2:=h.l.rm 2 rfl
  have hr:=a4p h.l.ok
  have:(vU s.n line).length≤(lV s.n).length:=List.length_filter_le _ _
  have e:(lV s.n).length=s.n.l0.length+s.n.l1.length+s.n.l2.length:=by unfold lV;simp;omega
  omega
theorem c2h {c:Cfg} {ps:List (List Op3)} {n:Nat} {s:MaS} (h:MaI c ps n s) (line:Int):(∀ d e,fQ (s.hs.getD d zA).es line=some e→rE e=true)∧(rJ c line=false→∀ d:Nat,line.tmod c.homes=d→rE (aJ (s.hs.getD d zA) line)=true):=by
  have hch:=rF h.l.ok
  have hlh:=h.l.lh
  have h1:∀ d e,fQ (s.hs.getD d zA).es line=some e→rE e=true:=fun d e he=>by
    rw [List.getD_eq_getElem?_getD] at he
    cases hx:s.hs[d]? with
    |none=>rw [hx] at he;cases he
    |some y=>
     rw [hx] at he
     exact ((h.l.hm d y hx).1.may line e he).1
  refine ⟨h1,fun hn d hd=>?_⟩
  obtain ⟨hl0,hl1⟩:=a5p hn
  have hdh:(d:Int)<c.homes:=by rw [←hd];exact Int.tmod_lt_of_pos _ (om)
  have hx:s.hs[d]? =some (s.hs.getD d zA):=by rw [List.getD_eq_getElem?_getD,List.getElem?_eq_getElem (om)];rfl
  exact (rN (h.l.hm d _ hx).1 ⟨hl0,hl1,by rw [←hd,Int.tmod_eq_emod_of_nonneg hl0]⟩).2.1
attribute [local irreducible] Exit.then Exit.inBlock Code.wp WC WO WE WQ V bF tV d3 bW dF uH IntKind.wrap WR Code.rounds WT KO
section
variable {b:Nat} {c:Cfg} {s:MaS} {x:MaX} {F:List HP} {line:Int}
theorem b8b (hli:kP line) (hx:yS c s x) (hnl:(vU s.n line).length≤1000000):FnF Tryz.prog 37 [.pointer (some ⟨b,0,none⟩),c.val,.int .i64 line] [i7 b c s x] F (fun r L'=>r= .bool (a8m c s line)∧L'=[i7 b c s x]):=by
  have hN:=fun F=>a0c (F:=F) (c:=c) (line:=line) (b:=b)
  have hO:=fun F=>b0j (F:=F) (b:=b) hli hx hnl
  unfold a8m
  refine FnF.mk' Tryz.func37 rfl rfl Tryz.ntmps37 rfl ?_
  generalize pM c s line=a3 at hO ⊢
  cases h0:rJ c line with
  |true=>
   rw [h0] at hN
   repeat first|refine gd ?_|intro _|refine aD @hN ?_
   exact aU
  |false=>
   rw [h0] at hN
   repeat first|refine gd ?_|intro _|refine aD @hN ?_|refine aD @hO ?_
   exact aU
theorem b5v {Q P:Prop} (k:Q) (h:Hid Q→P:=by
  intro k
  first
  |(refine aG ?_;apply mT (id:=1) (.only [3,8,9,16,17]) _ (pl:= .p 0 <| .p 2 <| .r 1 <| .e true [(3,.n [8,9,16,17] <| .p 4 <| .p 5 <| .p 7 <| .e true [(6,.e true [(8,.n [9,16,17] <| .e true [(9,.n [16,17] <| .p 10 <| .p 11 <| .p 12 <| .p 13 <| .p 15 <| .e true [(14,.e true [(16,.n [17] <| .e true [(17,.n [] <| .p 18 <| .p 19 <| .p 20 <| .done)])]),(16,.n [17] <| .r 14 <| .e true [(17,.n [] <| .p 18 <| .p 19 <| .p 20 <| .done)])])])]),(8,.n [9,16,17] <| .r 6 <| .e true [(9,.n [16,17] <| .p 10 <| .p 11 <| .p 12 <| .p 13 <| .p 15 <| .e true [(14,.e true [(16,.n [17] <| .e true [(17,.n [] <| .p 18 <| .p 19 <| .p 20 <| .done)])]),(16,.n [17] <| .r 14 <| .e true [(17,.n [] <| .p 18 <| .p 19 <| .p 20 <| .done)])])])])]);exact pN;kernel_rfl;kernel_rfl;exact Ent.refl;exact k.out)):P:=h ⟨k⟩
theorem c0u:FnF Tryz.prog 36 [.pointer none,c.val,.int .i64 line] [] F (fun r L'=>r= .bool true∧L'=[]):=by
  have hN:=fun F=>vL (F:=F) (c:=c) (line:=line)
  refine FnF.mk' Tryz.func36 rfl rfl Tryz.ntmps36 rfl ?_
  repeat' (first|refine go ?_|intro _|refine b5v ?_|refine cM ?_|refine aD @hN ?_|apply mU|fail)
  all_goals exact aU
theorem c7i:FnF Tryz.prog 37 [.pointer none,c.val,.int .i64 line] [] F (fun r L'=>r= .bool true∧L'=[]):=by
  have hN:=fun F=>vL (F:=F) (c:=c) (line:=line)
  refine FnF.mk' Tryz.func37 rfl rfl Tryz.ntmps37 rfl ?_
  repeat first|refine gd ?_|intro _|refine aD @hN ?_
  exact aU
theorem b5w {Q P:Prop} (k:Q) (h:Hid Q→P:=by
  intro k
  first
  |(refine aG ?_;refine q9 (id:=3) (.only []) (pl:= .p 0 <| .p 5 <| .r 2 <| .e true [(1,.e true [(3,.p 4 <| .done)])]) k.out)):P:=h ⟨k⟩
theorem c7j:FnF Tryz.prog 80 [.pointer none,c.val,.int .i64 line] [] F (fun r L'=>r= .bool true∧L'=[]):=by
  have hN:=fun F=>vL (F:=F) (c:=c) (line:=line)
  refine FnF.mk' Tryz.func80 rfl rfl Tryz.ntmps80 rfl ?_
  repeat first|refine go ?_|intro _|refine b5w ?_|refine cM ?_|refine aD @hN ?_
  exact aU
theorem b5x {Q P:Prop} (k:Q) (h:Hid Q→P:=by
  intro k
  first
  |(refine aG ?_;refine q9 (id:=4) (.only [4,5]) (pl:= .p 0 <| .p 3 <| .r 2 <| .e true [(1,.e true [(4,.n [5] <| .e true [(5,.n [] <| .p 6 <| .done)])]),(4,.n [5] <| .r 1 <| .e true [(5,.n [] <| .p 6 <| .done)])]) k.out)
  |(refine aG ?_;refine q9 (id:=9) (.only [12]) (pl:= .p 0 <| .p 2 <| .r 1 <| .r 3 <| .p 4 <| .r 6 <| .e true [(5,.e true [(7,.p 8 <| .p 9 <| .p 10 <| .e true [(11,.e true [(12,.n [] <| .p 13 <| .done)])]),(11,.e true [(7,.p 8 <| .p 9 <| .p 10 <| .e true [(12,.n [] <| .p 13 <| .done)])])]),(11,.e true [(5,.e true [(7,.p 8 <| .p 9 <| .p 10 <| .e true [(12,.n [] <| .p 13 <| .done)])])])]) k.out)):P:=h ⟨k⟩
theorem c7k:FnF Tryz.prog 38 [.pointer none,c.val,.int .i64 line] [] F (fun r L'=>r= .bool true∧L'=[]):=by
  have hN:=fun F=>vL (F:=F) (c:=c) (line:=line)
  refine FnF.mk' Tryz.func38 rfl rfl Tryz.ntmps38 rfl ?_
  repeat first|refine go ?_|intro _|refine b5x ?_|refine cM ?_|refine aD @hN ?_
  exact aU
theorem b5y {Q P:Prop} (k:Q) (h:Hid Q→P:=by
  intro k
  first
  |(refine aG ?_;refine q9 (id:=3) (.only [12]) (pl:= .p 0 <| .p 2 <| .r 1 <| .r 3 <| .p 4 <| .r 6 <| .e true [(5,.e true [(7,.p 8 <| .p 9 <| .p 10 <| .e true [(11,.e true [(12,.n [] <| .p 13 <| .done)])]),(11,.e true [(7,.p 8 <| .p 9 <| .p 10 <| .e true [(12,.n [] <| .p 13 <| .done)])])]),(11,.e true [(5,.e true [(7,.p 8 <| .p 9 <| .p 10 <| .e true [(12,.n [] <| .p 13 <| .done)])])])]) k.out)):P:=h ⟨k⟩
theorem c7l:FnF Tryz.prog 39 [.pointer none,c.val,.int .i64 line] [] F (fun r L'=>r= .bool true∧L'=[]):=by
  have hN:=fun F=>vL (F:=F) (c:=c) (line:=line)
  refine FnF.mk' Tryz.func39 rfl rfl Tryz.ntmps39 rfl ?_
  repeat first|refine go ?_|intro _|refine b5y ?_|refine cM ?_|refine aD @hN ?_
  exact aU
end
theorem e5k {F:List HP} {b:Nat} {x:MaX} {i:Nat} (hi:i<4) (hx:yS c18 (rL i) x):FnF Tryz.prog 18 [.pointer (some ⟨b,0,none⟩),f0z (l20.getD i ⟨0,0,0⟩)] [i7 b c18 (rL i) x] F
    (fun r L'=>∃ pt:Option Addr×Nat,r= .bool (iX c18 (rL i) (l20.getD i ⟨0,0,0⟩))∧L'=[i7 b c18 (rL (i+1)) { x with pt:=pt}]):=by
  have hl4:l20.length=4:=rfl
  have hI:=b4h d9w l20 i (om)
  have ht:(rL i).tr.length≤i:=b4i d9w l20 i (om)
  have h:=c3k (F:=F) (b:=b) (c:=c18) (s:=rL i) (x:=x) (p:=l20.getD i ⟨0,0,0⟩) (b3d (by decide)) hI.l (om) (om) (f1q i hi) hx
  rw [f1p i hi] at h
  exact h
theorem vA {F:List HP}:FnF Tryz.prog 70 [] [] F (fun r L'=>r= .bool true∧L'=[]):=by
  have hw:c18.wf:=b3d (by decide)
  refine FnF.mk' Tryz.func70 rfl rfl Tryz.ntmps70 rfl ?_
  repeat first|refine gd ?_|intro _
  rename_i b1 g1 g2
  (first|refine jR (Ent.trans (wU (n:=1) (c:=1) (sz:=1) rfl rfl) (Ent.cons (wU (n:=1) (c:=1) (sz:=3) rfl rfl))) ?_|refine nT (Ent.trans (wU (n:=1) (c:=1) (sz:=1) rfl rfl) (Ent.cons (wU (n:=1) (c:=1) (sz:=3) rfl rfl))) ?_|refine nU (Ent.trans (wU (n:=1) (c:=1) (sz:=1) rfl rfl) (Ent.cons (wU (n:=1) (c:=1) (sz:=3) rfl rfl))) ?_)
  have hN:∀ F,RdL F 1 (.slice (some ⟨g2,0,none⟩) 1 1) 1 (aC c8m (f1d g1))→RdL F 3 (.slice (some ⟨g1,0,none⟩) 1 1) 1 (aC oc [f0j])→FnF Tryz.prog 17 [c18.val,.slice (some ⟨g2,0,none⟩) 1 1] [] F (fun r L'=>∃ b,r= .tuple [.pointer (some ⟨b,0,none⟩),.int .i64 0].toArray∧L'=[e6y b c18 (rL 0)]):=fun F k1 k2=>d4m (F:=F) (ps:=f1d g1) hw k1 e5j d9w
  repeat first|refine gd ?_|intro _|refine aD @hN ?_
  rename_i bm
  (first|refine aW (e6y bm c18 (rL 0)) ?_|refine aX (e6y bm c18 (rL 0)) ?_|refine aY (e6y bm c18 (rL 0)) ?_)
  refine a9w fun x=>?_
  refine c5q fun hx=>?_
  have hR0:=fun F=>vP (F:=F) (b:=bm) (line:=1) hw (by unfold kP;omega) hx
  rw [f1c.1] at hR0
  have z1:=fun F line=>c7j (F:=F) (c:=c18) (line:=line)
  have z2:=fun F line=>c0u (F:=F) (c:=c18) (line:=line)
  have z3:=fun F line=>c7i (F:=F) (c:=c18) (line:=line)
  have z4:=fun F line=>c7k (F:=F) (c:=c18) (line:=line)
  have z5:=fun F line=>c7l (F:=F) (c:=c18) (line:=line)
  repeat first|refine gd ?_|intro _|refine aD @hR0 ?_|refine aD @z1 ?_|refine aD @z2 ?_|refine aD @z3 ?_|refine aD @z4 ?_|refine aD @z5 ?_
  apply bC (E0:=[(1,_),(2,_),(53,_)]) (fun E0 (q:Nat×(Option Addr×Nat))=>(54,.int .i64 q.1)::E0) (fun q=>i7 bm c18 (rL q.1) { x with pt:=q.2}::Cells b1 24 c18.cells::F) (fun q=>q.1≤4) (fun q=>4-q.1) (0,x.pt)
  · exact nB
  · exact Nat.zero_le _
  · exact aB
  · rintro ⟨i,pt⟩ hi
    dsimp only at hi ⊢
    (first|refine aW (i7 bm c18 (rL i) { x with pt:=pt}) ?_|refine aX (i7 bm c18 (rL i) { x with pt:=pt}) ?_|refine aY (i7 bm c18 (rL i) { x with pt:=pt}) ?_)
    refine b7a fun hx2=>?_
    by_cases hlt:i<4
    · have hP:=fun F=>e5k (F:=F) (b:=bm) (i:=i) (om) hx2
      have hcase:i=0∨i=1∨i=2∨i=3:=by omega
      rcases hcase with rfl|rfl|rfl|rfl
      · repeat first|refine gd ?_|intro _|refine aD @hP ?_
        rename_i pt2
        refine aS (1,pt2) (by dsimp only;omega) (by dsimp only;omega) ?_ ?_
        · exact nB
        · exact aB
      · repeat first|refine gd ?_|intro _|refine aD @hP ?_
        rename_i pt2
        refine aS (2,pt2) (by dsimp only;omega) (by dsimp only;omega) ?_ ?_
        · exact nB
        · exact aB
      · repeat first|refine gd ?_|intro _|refine aD @hP ?_
        rename_i pt2
        refine aS (3,pt2) (by dsimp only;omega) (by dsimp only;omega) ?_ ?_
        · exact nB
        · exact aB
      · repeat first|refine gd ?_|intro _|refine aD @hP ?_
        rename_i pt2
        refine aS (4,pt2) (by dsimp only;omega) (by dsimp only;omega) ?_ ?_
        · exact nB
        · exact aB
    · have hi4:i=4:=by omega
      subst hi4
      have hI:=b4h d9w l20 4 (Nat.le_refl _)
      have ht:(rL 4).tr.length≤4:=b4i d9w l20 4 (Nat.le_refl _)
      have h1:kP 1:=by unfold kP;omega
      have hd:=c2h hI 1
      have hA:=fun F=>vP (F:=F) (b:=bm) (line:=1) hw h1 hx2
      have hB:=fun F=>vP (F:=F) (b:=bm) (line:=0) hw (by unfold kP;omega) hx2
      have hC:=fun F=>b0a (F:=F) (b:=bm) (line:=1) h1 hx2
      have hD:=fun F=>b8b (F:=F) (b:=bm) (line:=1) h1 hx2 (b4j hI 1)
      have hE:=fun F=>b7w (F:=F) (b:=bm) (line:=1) hw h1 hx2 (om) (b4j hI 1)
      have hG:=fun F=>b8a (F:=F) (b:=bm) (line:=1) hw h1 hx2 hd.1 hd.2
      rw [f1c.2.1] at hA
      rw [f1c.2.2] at hB
      rw [show a0n c18 (rL 4) 1=true from a5v hI] at hC
      rw [show a8m c18 (rL 4) 1=true from b0m hI] at hD
      rw [show a8n c18 (rL 4) 1=true from b0o hI] at hE
      rw [show a8o c18 (rL 4) 1=true from b0p hI] at hG
      repeat first|refine gd ?_|intro _|refine aD @hA ?_|refine aD @hB ?_|refine aD @hC ?_|refine aD @hD ?_|refine aD @hE ?_|refine aD @hG ?_
      exact aU
end
section
open Go Go.Proofs Go.ChangeShapes Go.WideShapes
theorem c8p {H:Type} (enc:TypeId×Value→H) (W:World) {cs:List Value} (h:LeafsOkS enc Tryz.prog W (List.replicate 3 (.int .i64)) cs):∃ x:Pk,x.wf∧cs=d9v x∧(d9v x).all one=true:=by
  simp only [List.replicate] at h
  obtain ⟨a0,cs,rfl,w0,h⟩:=yA enc _ W h
  obtain ⟨a1,cs,rfl,w1,h⟩:=yA enc _ W h
  obtain ⟨a2,cs,rfl,w2,h⟩:=yA enc _ W h
  obtain rfl:=a4s enc _ W h
  exact ⟨⟨a0,a1,a2⟩,⟨w0,w1,w2⟩,rfl,rfl⟩
theorem e5l {W:World} {ps:List PrQ} (h:∀ p∈ps,PrQ.ok W p):OldPs W ps:=fun p hp=>(h p hp).1
theorem d5n {n k b:Nat} (h:n*b≤reachBytes) (hb:b=k) (h0:0<k):n≤1000000000000000:=by
  subst hb
  have hr:reachBytes=140737488351232:=rfl
  rw [hr] at h
  have:n*1≤n*b:=Nat.mul_le_mul_left n h0
  omega
theorem c8q {W:World} {F:List HP} {f:FuncId} {c:Cfg} {ps:List PrQ} {u v:Value} {l:List Pk} (hp:∀ p∈ps,PrQ.ok W p) (kp:ROld W 1 u ps.length (aC c8m ps)) (bp:ps.length*Tryz.prog.bytesOf 61≤reachBytes) (k:ROld W 3 v l.length (aC d9v l)) (bl:l.length*Tryz.prog.bytesOf 34≤reachBytes)
    (law:∀ (pu pv:Option Addr) (cu cv:Nat),ROld W 3 (.slice pv l.length cv) l.length (aC d9v l)→l.length≤1000000000000000→ROld W 1 (.slice pu ps.length cu) ps.length (aC c8m ps)→ps.length≤1000000000000000→(∀ p∈ps,p.1.length≤1000000000000000)→OldPs W ps→
      FnF Tryz.prog f [c.val,.slice pu ps.length cu,.slice pv l.length cv] [Old W] F (fun r L'=>r= .bool true∧L'=[Old W])) :
    FnF Tryz.prog f [c.val,u,v] [Old W] F (fun r L'=>r= .bool true∧L'=[Old W]):=by
  obtain ⟨pu,cu,rfl⟩:=uZ kp
  obtain ⟨pv,cv,rfl⟩:=uZ k
  exact law pu pv cu cv k (d5n (k:=24) bl (by kernel_rfl) (by decide)) kp (d5n (k:=24) bp (by kernel_rfl) (by decide)) (fun p h=>(hp p h).2.2) (e5l hp)
end
end Go.Sx
