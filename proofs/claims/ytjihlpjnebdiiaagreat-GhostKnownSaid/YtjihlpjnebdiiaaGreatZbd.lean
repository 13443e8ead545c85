/- GhW2, GhW3, GhW4, GhW5: several of my texts as one. My own work. -/
import Derived.Test.YtjihlpjnebdiiaaGreatZbc
set_option linter.unusedVariables false
set_option linter.unusedSectionVars false
set_option linter.unusedSimpArgs false
set_option maxRecDepth 100000
set_option maxHeartbeats 4000000
namespace Go.Sx
open Go Go.Proofs
section
theorem c2e {α:Type} {l:List α} {P:α→Bool} {j:Nat} (h:j<l.length) (hp:P l[j]=true):l.any P=true:=List.any_eq_true.2 ⟨_,List.getElem_mem h,hp⟩
theorem c2f {α:Type} {l:List α} {P:α→Bool} (h:∀ j (hj:j<l.length),P l[j]=false):l.any P=false:=by
  rw [List.any_eq_false]
  intro x hx
  obtain ⟨j,hj,rfl⟩:=List.getElem_of_mem hx
  simp [h j hj]
attribute [local irreducible] Exit.then Exit.inBlock Code.wp WC WO WE WQ V bF tV d3 bW dF uH IntKind.wrap WR Code.rounds WT KO
section
variable {b:Nat} {c:Cfg} {s:MaS} {x:MaX} {F:List HP} {line:Int}
theorem c0l {i bl:Nat} (hi:i<x.ab.length) (hx:yS c s x):FnF Tryz.prog 132 [.int .i64 i,.pointer (some ⟨x.ab.getD i 0,0,none⟩),.pointer (some ⟨bl,0,none⟩)] [Cells bl 3 [.int .i64 line],i7 b c s x] F (fun r L'=>r= .bool (b7x s line i)∧L'=[Cells bl 3 [.int .i64 line],i7 b c s x]):=by
  have hM:=fun F=>a9x (F:=F) (b:=b) hi hx
  have hB:=fun F w=>a9z (F:=F) (w:=w)
  unfold b7x
  generalize (s.cs.getD i caZ).mis=l at hM ⊢
  refine FnF.mk' Tryz.func132 rfl rfl Tryz.ntmps132 rfl ?_
  repeat first|refine gd ?_|intro _|refine aD @hM ?_
  rename_i q
  apply bC (E0:=[(2,_),(9,_),(10,_)]) (fun E0 (j:Nat)=>(11,.int .i64 j)::E0) (fun _=>Own 182 15 (.slice q.1 l.length q.2) l.length (aC jF l)::i7 b c s x::Cells bl 3 [.int .i64 line]::F) (fun j=>j≤l.length∧∀ k (hk:k<l.length),k<j→(decide (l[k].line=line)&& decide (0≤l[k].needs)&& rK l[k].own&& !l[k].granted&& !l[k].owes)=false) (fun j=>l.length-j) 0
  · exact nB
  · exact ⟨Nat.zero_le _,fun k hk h=>absurd h (Nat.not_lt_zero _)⟩
  · exact aB
  · rintro j ⟨hj,hno⟩
    refine rD fun hmx=>?_
    by_cases hlt:j<l.length
    · have hnx:(decide (l[j].line=line)&& decide (0≤l[j].needs)&& rK l[j].own&& !l[j].granted&& !l[j].owes)=false→j+1≤l.length∧∀ k (hk:k<l.length),k<j+1→(decide (l[k].line=line)&& decide (0≤l[k].needs)&& rK l[k].own&& !l[k].granted&& !l[k].owes)=false:=fun h=>⟨om,fun k hk hkj=>by
        by_cases e:k=j
        · subst e;exact h
        · exact hno k hk (om)⟩
      have hyes:=c2e (P:=fun m:Miss=>decide (m.line=line)&& decide (0≤m.needs)&& rK m.own&& !m.granted&& !m.owes) hlt
      by_cases h1:l[j].line=line
      · by_cases h2:0≤l[j].needs
        · cases h3:rK l[j].own with
          |false=>
           have hBm:=fun F=>hB F l[j].own
           rw [h3] at hBm
           repeat first|refine gd ?_|intro _|refine aD @hBm ?_
           refine aS (j+1) (om) (hnx (by simp [h3])) ?_ ?_
           · exact nB
           · exact aB
          |true=>
           have hBm:=fun F=>hB F l[j].own
           rw [h3] at hBm
           cases h4:l[j].granted with
           |true=>
            repeat first|refine gd ?_|intro _|refine aD @hBm ?_
            refine aS (j+1) (om) (hnx (by simp [h4])) ?_ ?_
            · exact nB
            · exact aB
           |false=>
            cases h5:l[j].owes with
            |true=>
             repeat first|refine gd ?_|intro _|refine aD @hBm ?_
             refine aS (j+1) (om) (hnx (by simp [h5])) ?_ ?_
             · exact nB
             · exact aB
            |false=>
             rw [hyes (by simp [h1,h2,h3,h4,h5])]
             repeat first|refine gd ?_|intro _|refine aD @hBm ?_
             exact aU
        · repeat first|refine gd ?_|intro _|refine aD @hB ?_
          refine aS (j+1) (om) (hnx (by simp [h2])) ?_ ?_
          · exact nB
          · exact aB
      · repeat first|refine gd ?_|intro _|refine aD @hB ?_
        refine aS (j+1) (om) (hnx (by simp [h1])) ?_ ?_
        · exact nB
        · exact aB
    · have hjl:j=l.length:=by omega
      subst hjl
      have:=c2f (P:=fun m:Miss=>decide (m.line=line)&& decide (0≤m.needs)&& rK m.own&& !m.granted&& !m.owes) fun k hk=>hno k hk hk
      rw [this]
      repeat first|refine gd ?_|intro _
      exact aU
theorem d5i {p:Nat→Bool}:a8z c p≤c.cores.toNat:=by
  unfold a8z
  exact Nat.le_trans List.countP_le_length (by rw [List.length_range];exact Nat.le_refl _)
theorem nH {Q P:Prop} (k:Q) (h:Hid Q→P:=by
  intro k
  first
  |(refine aG ?_;refine q9 (id:=1) (.only [3,4]) (pl:= .p 0 <| .r 2 <| .e true [(1,.e true [(3,.n [4] <| .e true [(4,.n [] <| .p 5 <| .done)])]),(3,.n [4] <| .r 1 <| .e true [(4,.n [] <| .p 5 <| .done)])]) k.out)
  |(refine aG ?_;refine q9 (id:=2) (.only []) (pl:= .p 0 <| .p 5 <| .r 2 <| .e true [(1,.e true [(3,.p 4 <| .done)])]) k.out)):P:=h ⟨k⟩
theorem b0j (hli:kP line) (hx:yS c s x) (hnl:(vU s.n line).length≤1000000):FnF Tryz.prog 76 [.pointer (some ⟨b,0,none⟩),c.val,.int .i64 line] [i7 b c s x] F (fun r L'=>r= .int .i64 (pM c s line)∧L'=[i7 b c s x]):=by
  have hS:=fun F=>yD (F:=F) (line:=line) (fk:=83) (fi:= #[]) (ca:= #[]) (R:=All [])
  have hW:=fun F q=>a1b (F:=F) (b:=b) (c:=c) (s:=s) (x:=x) (line:=line) (q:=q) hli hx (fun F w=>b7f (F:=F) (w:=w))
  have hNx:=fun F=>d4n (F:=F) (b:=b) hx
  have hO:=fun F=>e2p (F:=F) (b:=b) (line:=line) hx
  have hcc:=(cK hx.2.2).1
  have l1:=d5i (c:=c) (p:=fun i=>d6q (iU c s line i))
  have l2:=d5i (c:=c) (p:=b7x s line)
  have hM:=fun F bl=>rZ (F:=F) (b:=b) (c:=c) (s:=s) (x:=x) (fk:=132) (first:=[]) (cap:=[.pointer (some ⟨bl,0,none⟩)]) (R:=Cells bl 3 [.int .i64 line]) (p:=b7x s line) hx (fun F i hi=>c0l (F:=F) (bl:=bl) hi hx)
  unfold pM d9p
  generalize vU s.n line=l at hO hnl ⊢
  generalize a8z c (fun i=>d6q (iU c s line i))=a1 at hW l1 ⊢
  generalize a8z c (b7x s line)=a2 at hM l2 ⊢
  refine FnF.mk' Tryz.func76 rfl rfl Tryz.ntmps76 rfl ?_
  (first|refine jR (Ent.trans fZ (Ent.cons Ent.refl)) ?_|refine nT (Ent.trans fZ (Ent.cons Ent.refl)) ?_|refine nU (Ent.trans fZ (Ent.cons Ent.refl)) ?_)
  repeat' (first|refine go ?_|intro _|refine nH ?_|refine cM ?_|refine aD @hS ?_|refine aD @hW ?_|refine aD @hNx ?_|refine aD @hO ?_|apply mU|fail)
  all_goals
    rename_i b4 b5 q1 q2
    apply bC (E0:=[(0,_),(4,_),(5,_),(18,_),(19,_)]) (fun E0 (j:Nat)=>(20,.int .i64 j)::(7,.int .i64 ((a1+(l.take j).countP fun m=>decide (m.kind=7)&& rK m.own:Nat):Int))::E0) (fun _=>Own 99 15 (.slice q2.1 l.length q2.2) l.length (aC mc l)::i7 b c s x::Cells b5 3 [.int .i64 line]::Cells b4 24 c.cells::F) (fun j=>j≤l.length) (fun j=>l.length-j) 0
    · exact nB
    · exact Nat.zero_le _
    · exact aB
    · rintro j hj
      by_cases hlt:j<l.length
      · have hle:(l.take j).countP (fun m=>decide (m.kind=7)&& rK m.own)≤j:=Nat.le_trans List.countP_le_length (by rw [List.length_take];omega)
        have hsu:(l.take (j+1)).countP (fun m=>decide (m.kind=7)&& rK m.own)=(l.take j).countP (fun m=>decide (m.kind=7)&& rK m.own)+if (decide (l[j].kind=7)&& rK l[j].own)=true then 1 else 0:=by
          rw [List.take_add_one,List.getElem?_eq_getElem hlt,Option.toList_some,List.countP_append,List.countP_singleton]
        have hB:=fun F=>a9z (F:=F) (w:=l[j].own)
        generalize (l.take j).countP (fun m=>decide (m.kind=7)&& rK m.own)=a3 at hsu hle ⊢
        by_cases h7:l[j].kind=7
        · cases h8:rK l[j].own with
          |true=>
           rw [h8] at hB
           rw [h7,h8] at hsu
           repeat first|refine go ?_|intro _|refine nH ?_|refine cM ?_|refine aD @hB ?_
           refine aS (j+1) (om) (om) ?_ ?_
           · rw [hsu]
             exact nB
           · exact aB
          |false=>
           rw [h8] at hB
           rw [h8,Bool.and_false] at hsu
           repeat first|refine go ?_|intro _|refine nH ?_|refine cM ?_|refine aD @hB ?_
           refine aS (j+1) (om) (om) ?_ ?_
           · rw [hsu]
             exact nB
           · exact aB
        · rw [decide_eq_false h7] at hsu
          repeat first|refine go ?_|intro _|refine nH ?_|refine cM ?_|refine aD @hB ?_
          refine aS (j+1) (om) (om) ?_ ?_
          · rw [hsu]
            exact nB
          · exact aB
      · have hjl:j=l.length:=by omega
        subst hjl
        rw [List.take_length]
        have hle:l.countP (fun m=>decide (m.kind=7)&& rK m.own)≤l.length:=List.countP_le_length
        generalize l.countP (fun m=>decide (m.kind=7)&& rK m.own)=a3 at hle ⊢
        repeat first|refine go ?_|intro _|refine nH ?_|refine cM ?_|refine aD @hM ?_
        (apply aA rfl rfl bB)
        · exact ⟨by simp,rfl⟩
        · exact aB
end
end
section
theorem d5j {α:Type} {l:List α} {P:α→Bool} {j:Nat} (h:j<l.length) (hp:P l[j]=false):l.all P=false:=by
  cases e:l.all P with
  |false=>rfl
  |true=>rw [List.all_eq_true.1 e _ (List.getElem_mem h)] at hp;cases hp
theorem c3z {α:Type} {l:List α} {P:α→Bool} (h:∀ j (hj:j<l.length),P l[j]=true):l.all P=true:=by
  rw [List.all_eq_true]
  intro x hx
  obtain ⟨j,hj,rfl⟩:=List.getElem_of_mem hx
  exact h j hj
theorem b3a {c:Cfg} {line:Int} (h0:0≤line) (h1:1≤c.homes):∃ d:Nat,line.tmod c.homes=d∧(d:Int)<c.homes∧(line.tmod c.homes).toNat=d:=by
  have h2:0≤line.tmod c.homes:=Int.tmod_nonneg _ h0
  have h3:line.tmod c.homes<c.homes:=Int.tmod_lt_of_pos _ (om)
  exact ⟨(line.tmod c.homes).toNat,om,om,rfl⟩
theorem a5p {c:Cfg} {line:Int} (h:rJ c line=false):0≤line∧line<c.lines:=by
  unfold rJ at h
  simp at h
  omega
attribute [local irreducible] Exit.then Exit.inBlock Code.wp WC WO WE WQ V bF tV d3 bW dF uH IntKind.wrap WR Code.rounds WT KO
section
variable {b:Nat} {c:Cfg} {s:MaS} {x:MaX} {F:List HP} {line:Int}
theorem c7a {i bl:Nat} (hi:i<x.ab.length) (hx:yS c s x):FnF Tryz.prog 133 [.int .i64 i,.pointer (some ⟨x.ab.getD i 0,0,none⟩),.pointer (some ⟨bl,0,none⟩)] [Cells bl 3 [.int .i64 line],i7 b c s x] F (fun r L'=>r= .bool (c0n s line i)∧L'=[Cells bl 3 [.int .i64 line],i7 b c s x]):=by
  have hM:=fun F=>a9x (F:=F) (b:=b) hi hx
  unfold c0n
  generalize (s.cs.getD i caZ).mis=l at hM ⊢
  refine FnF.mk' Tryz.func133 rfl rfl Tryz.ntmps133 rfl ?_
  repeat first|refine gd ?_|intro _|refine aD @hM ?_
  rename_i q
  apply bC (E0:=[(2,_),(9,_),(10,_)]) (fun E0 (j:Nat)=>(11,.int .i64 j)::E0) (fun _=>Own 182 15 (.slice q.1 l.length q.2) l.length (aC jF l)::i7 b c s x::Cells bl 3 [.int .i64 line]::F) (fun j=>j≤l.length∧∀ k (hk:k<l.length),k<j→(decide (l[k].line=line)&& decide (0≤l[k].needs))=false) (fun j=>l.length-j) 0
  · exact nB
  · exact ⟨Nat.zero_le _,fun k hk h=>absurd h (Nat.not_lt_zero _)⟩
  · exact aB
  · rintro j ⟨hj,hno⟩
    refine rD fun hmx=>?_
    by_cases hlt:j<l.length
    · have hnx:(decide (l[j].line=line)&& decide (0≤l[j].needs))=false→j+1≤l.length∧∀ k (hk:k<l.length),k<j+1→(decide (l[k].line=line)&& decide (0≤l[k].needs))=false:=fun h=>⟨om,fun k hk hkj=>by
        by_cases e:k=j
        · subst e;exact h
        · exact hno k hk (om)⟩
      have hyes:=c2e (P:=fun m:Miss=>decide (m.line=line)&& decide (0≤m.needs)) hlt
      by_cases h1:l[j].line=line
      · by_cases h2:0≤l[j].needs
        · rw [hyes (by simp [h1,h2])]
          repeat first|refine gd ?_|intro _
          exact aU
        · repeat first|refine gd ?_|intro _
          refine aS (j+1) (om) (hnx (by simp [h2])) ?_ ?_
          · exact nB
          · exact aB
      · repeat first|refine gd ?_|intro _
        refine aS (j+1) (om) (hnx (by simp [h1])) ?_ ?_
        · exact nB
        · exact aB
    · have hjl:j=l.length:=by omega
      subst hjl
      have:=c2f (P:=fun m:Miss=>decide (m.line=line)&& decide (0≤m.needs)) fun k hk=>hno k hk hk
      rw [this]
      repeat first|refine gd ?_|intro _
      exact aU
theorem gB {Q P:Prop} (k:Q) (h:Hid Q→P:=by
  intro k
  first
  |(refine aG ?_;refine q9 (id:=3) (.only []) (pl:= .p 0 <| .p 5 <| .r 2 <| .e true [(1,.e true [(3,.p 4 <| .done)])]) k.out)):P:=h ⟨k⟩
theorem vP (hc:c.wf) (hli:kP line) (hx:yS c s x):FnF Tryz.prog 80 [.pointer (some ⟨b,0,none⟩),c.val,.int .i64 line] [i7 b c s x] F (fun r L'=>r= .bool (n9 c s line)∧L'=[i7 b c s x]):=by
  have hN:=fun F=>a0c (F:=F) (c:=c) (line:=line) (b:=b)
  have hch:=rF hx.2.2
  unfold n9
  refine FnF.mk' Tryz.func80 rfl rfl Tryz.ntmps80 rfl ?_
  cases h0:rJ c line with
  |true=>
   rw [h0] at hN
   repeat first|refine go ?_|intro _|refine gB ?_|refine cM ?_|refine aD @hN ?_
   exact aU
  |false=>
   rw [h0] at hN
   obtain ⟨hl0,hl1⟩:=a5p h0
   obtain ⟨d,hd,hdh,hdn⟩:=b3a hl0 hch.1
   have hhb:(x.hb.length:Int)=c.homes:=hx.2.1.2.2
   have hNx:=fun F=>d4n (F:=F) (b:=b) hx
   have hO:=fun F=>e2p (F:=F) (b:=b) (line:=line) hx
   have hH:=fun F=>b2l (F:=F) (b:=b) (c:=c) (s:=s) (x:=x) (i:=d) (om)
   have hQ:=fun F=>d0n (F:=F) (b:=b) (i:=d) (om) hx
   rw [←hd] at hH
   have hM:=fun F bl=>rZ (F:=F) (b:=b) (c:=c) (s:=s) (x:=x) (fk:=133) (first:=[]) (cap:=[.pointer (some ⟨bl,0,none⟩)]) (R:=Cells bl 3 [.int .i64 line]) (p:=c0n s line) hx (fun F i hi=>c7a (F:=F) (bl:=bl) hi hx)
   unfold e7n
   rw [hdn]
   generalize vU s.n line=l at hO ⊢
   generalize (s.hs.getD d zA).q=q at hQ ⊢
   generalize a8z c (c0n s line)=a2 at hM ⊢
   rw [Bool.false_or]
   repeat' (first|refine go ?_|intro _|refine gB ?_|refine cM ?_|refine aD @hN ?_|refine aD @hNx ?_|refine aD @hO ?_|apply mU|fail)
   all_goals
     rename_i b4 b5 q1
     apply bC (E0:=[(0,_),(4,_),(5,_),(18,_),(19,_)]) (fun E0 (j:Nat)=>(20,.int .i64 j)::E0) (fun _=>Own 99 15 (.slice q1.1 l.length q1.2) l.length (aC mc l)::i7 b c s x::Cells b5 3 [.int .i64 line]::Cells b4 24 c.cells::F) (fun j=>j≤l.length∧∀ k (hk:k<l.length),k<j→decide (¬l[k].kind>3)=true) (fun j=>l.length-j) 0
     · exact nB
     · exact ⟨Nat.zero_le _,fun k hk h=>absurd h (Nat.not_lt_zero _)⟩
     · exact aB
     · rintro j ⟨hj,hno⟩
       refine rD fun hmx=>?_
       by_cases hlt:j<l.length
       · by_cases h1:l[j].kind>3
         · rw [d5j (P:=fun m:Msg=>decide (¬m.kind>3)) hlt (by simp [h1])]
           repeat first|refine go ?_|intro _|refine gB ?_|refine cM ?_
           exact aU
         · repeat first|refine go ?_|intro _|refine gB ?_|refine cM ?_
           refine aS (j+1) (om) ⟨om,fun k hk hkj=>?_⟩ ?_ ?_
           · by_cases e:k=j
             · subst e;exact decide_eq_true h1
             · exact hno k hk (om)
           · exact nB
           · exact aB
       · have hjl:j=l.length:=by omega
         subst hjl
         rw [c3z (P:=fun m:Msg=>decide (¬m.kind>3)) fun k hk=>hno k hk hk,Bool.true_and]
         repeat' (first|refine go ?_|intro _|refine gB ?_|refine cM ?_|refine aD @hH ?_|refine aD @hQ ?_|apply mU|fail)
         rename_i q2
         (first|refine aW (e8r 191 (.slice q2.1 q.length q2.2) q) ?_|refine aX (e8r 191 (.slice q2.1 q.length q2.2) q) ?_|refine aY (e8r 191 (.slice q2.1 q.length q2.2) q) ?_)
         refine e0e fun qs hqs=>?_
         subst hqs
         rw [List.length_map]
         apply bC (E0:=[(0,_),(4,_),(5,_),(34,_),(35,_)]) (fun E0 (j:Nat)=>(36,.int .i64 j)::E0) (fun _=>Own 191 17 (.slice q2.1 qs.length q2.2) qs.length (aC qc qs)::i7 b c s x::Cells b5 3 [.int .i64 line]::Cells b4 24 c.cells::F) (fun j=>j≤qs.length∧∀ k (hk:k<qs.length),k<j→(!(qs[k].1.st&& decide (qs[k].1.m.line=line)))=true) (fun j=>qs.length-j) 0
         · exact nB
         · exact ⟨Nat.zero_le _,fun k hk h=>absurd h (Nat.not_lt_zero _)⟩
         · exact aB
         · rintro j ⟨hj,hno⟩
           refine rD fun hmx=>?_
           by_cases hlt:j<qs.length
           · have hnx:(!(qs[j].1.st&& decide (qs[j].1.m.line=line)))=true→j+1≤qs.length∧∀ k (hk:k<qs.length),k<j+1→(!(qs[k].1.st&& decide (qs[k].1.m.line=line)))=true:=fun h=>⟨om,fun k hk hkj=>by
               by_cases e:k=j
               · subst e;exact h
               · exact hno k hk (om)⟩
             cases h1:qs[j].1.st with
             |false=>
              repeat first|refine go ?_|intro _|refine gB ?_|refine cM ?_
              refine aS (j+1) (om) (hnx (by simp [h1])) ?_ ?_
              · exact nB
              · exact aB
             |true=>
              by_cases h2:qs[j].1.m.line=line
              · rw [d5j (l:=qs.map (·.1)) (P:=fun e:QE=> !(e.st&& decide (e.m.line=line))) (j:=j) (by rw [List.length_map];exact hlt) (by simp [h1,h2])]
                repeat first|refine go ?_|intro _|refine gB ?_|refine cM ?_
                exact aU
              · repeat first|refine go ?_|intro _|refine gB ?_|refine cM ?_
                refine aS (j+1) (om) (hnx (by simp [h2])) ?_ ?_
                · exact nB
                · exact aB
           · have hjl:j=qs.length:=by omega
             subst hjl
             rw [c3z (l:=qs.map (·.1)) (P:=fun e:QE=> !(e.st&& decide (e.m.line=line))) fun k hk=>by
              rw [List.length_map] at hk
              simpa using hno k hk hk,Bool.true_and]
             repeat first|refine go ?_|intro _|refine gB ?_|refine cM ?_|refine aD @hM ?_
             exact aU
end
end
section
theorem d1l (f:Nat→Int) {i:Nat} (h:i<8):aQ (wc (Words.of ((List.range i).map f))) (0+((i:Nat):Int).toNat*1) [.int .i64 (f i)]=wc (Words.of ((List.range (i+1)).map f)):=by
  rw [Int.toNat_natCast,Nat.zero_add,Nat.mul_one]
  match i,h with
  |0,_=>rfl|1,_=>rfl|2,_=>rfl|3,_=>rfl|4,_=>rfl|5,_=>rfl|6,_=>rfl|7,_=>rfl
theorem c4a {a b:Words} (h:wc a=wc b):a=b:=by
  obtain ⟨a0,a1,a2,a3,a4,a5,a6,a7⟩:=a
  obtain ⟨b0,b1,b2,b3,b4,b5,b6,b7⟩:=b
  simp only [wc,List.cons.injEq,Value.int.injEq,true_and,and_true] at h
  obtain ⟨rfl,rfl,rfl,rfl,rfl,rfl,rfl,rfl⟩:=h
  rfl
attribute [local irreducible] Exit.then Exit.inBlock Code.wp WC WO WE WQ V bF tV d3 bW dF uH IntKind.wrap WR Code.rounds WT KO
section
variable {b:Nat} {c:Cfg} {s:MaS} {x:MaX} {F:List HP} {line:Int}
theorem e5a (hc:c.wf) (hx:yS c s x) (ht:s.tr.length≤1000000000000) (h0:0≤line) (h1:line<c.lines):FnF Tryz.prog 77 [.pointer (some ⟨b,0,none⟩),c.val,.int .i64 line] [i7 b c s x] F (fun r L'=>r=wv (c0o c s line)∧L'=[i7 b c s x]):=by
  have hT:=fun F=>d0p (F:=F) (b:=b) hx ht
  have hww:=dO hx.2.2
  have hm:0≤line*c.words∧line*c.words≤1024*8:=⟨Int.mul_nonneg h0 (om),Int.mul_le_mul (om) (om) (om) (om)⟩
  unfold c0o
  refine FnF.mk' Tryz.func77 rfl rfl Tryz.ntmps77 rfl ?_
  repeat first|refine gd ?_|intro _|refine aD @hT ?_
  rename_i b4 b6 b7 q
  apply bC (E0:=[(2,_),(4,_),(6,_),(7,_),(8,_),(13,_)]) (fun E0 (j:Nat)=>(14,.int .i64 j)::E0) (fun j=>Cells b7 97 (wc (Words.of ((List.range j).map fun (i:Nat)=>c1q c s.tr (line*c.words+i))))::Own 60 6 (.slice q.1 s.tr.length q.2) s.tr.length (aC e7d s.tr)::i7 b c s x::Cells b6 97 (wc .zero)::Cells b4 24 c.cells::F) (fun j=>j≤c.words.toNat) (fun j=>c.words.toNat-j) 0
  · exact nB
  · exact Nat.zero_le _
  · show Ent _ (Cells b7 _ (wc .zero)::_)
    exact aB
  · rintro j hj
    by_cases hlt:j<c.words.toNat
    · have hV:=fun F (k:RdL F 6 (.slice q.1 s.tr.length q.2) s.tr.length (aC e7d s.tr))=>d2o (F:=F) (c:=c) (addr:=line*c.words+(j:Int)) hc k (om)
      have hst:=d1l (fun i:Nat=>c1q c s.tr (line*c.words+i)) (i:=j) (om)
      have hbl:Nat.ble (0+((j:Nat):Int).toNat*1+1) (wc (Words.of ((List.range j).map fun (i:Nat)=>c1q c s.tr (line*c.words+i)))).length=true:=by
        show Nat.ble (0+((j:Nat):Int).toNat*1+1) 8=true
        rw [Int.toNat_natCast,Nat.ble_eq];omega
      repeat first|refine gd ?_|intro _|refine aD @hV ?_
      (apply uC;rfl;(apply uD (cs:=[.int .i64 (c1q c s.tr (line*c.words+(j:Int)))]);rfl;rfl;exact inferInstance;rfl;rfl;rfl;exact hbl);refine aN ?_)
      rw [hst]
      repeat first|refine gd ?_|intro _
      refine aS (j+1) (om) (om) ?_ ?_
      · exact nB
      · exact aB
    · have hjl:j=c.words.toNat:=by omega
      subst hjl
      repeat first|refine gd ?_|intro _
      exact aU
theorem c7b {w ws:Words} {y:Way} {bw:Nat}:FnF Tryz.prog 78 [e2g y,.pointer (some ⟨bw,0,none⟩)] [Cells bw 97 (wc ws)] F (fun r L'=>r= .bool (c8o y&& decide (y.words≠ws))∧L'=[Cells bw 97 (wc ws)]):=by
  have hR:=fun F=>u5 (F:=F) (w:=y)
  refine FnF.mk' Tryz.func78 rfl rfl Tryz.ntmps78 rfl ?_
  cases h0:c8o y with
  |false=>
   rw [h0] at hR
   repeat first|refine gd ?_|intro _|refine aD @hR ?_
   exact aU
  |true=>
   rw [h0] at hR
   by_cases h1:y.words=ws
   · have h2:¬(wc y.words≠wc ws):=fun h=>h (by rw [h1])
     repeat first|refine gd ?_|intro _|refine aD @hR ?_
     (apply aA rfl rfl bB;(first|exact lW|exact ⟨by simp [h1]<;>omega,rfl⟩);exact iC)
   · have h2:wc y.words≠wc ws:=fun h=>h1 (c4a h)
     repeat first|refine gd ?_|intro _|refine aD @hR ?_
     (apply aA rfl rfl bB)
     · exact ⟨congrArg Value.bool (Eq.trans (iJ h2) (by rw [decide_eq_true h1];rfl)),rfl⟩
     · exact aB
theorem c7c {i bl:Nat} (hi:i<x.ab.length) (hx:yS c s x):FnF Tryz.prog 79 [.int .i64 i,.pointer (some ⟨x.ab.getD i 0,0,none⟩),.pointer (some ⟨bl,0,none⟩)] [Cells bl 3 [.int .i64 line],i7 b c s x] F (fun r L'=>r= .bool (a5t s line i)∧L'=[Cells bl 3 [.int .i64 line],i7 b c s x]):=by
  have hM:=fun F=>b9n (F:=F) (b:=b) hi hx
  unfold a5t
  generalize (s.cs.getD i caZ).buf=l at hM ⊢
  refine FnF.mk' Tryz.func79 rfl rfl Tryz.ntmps79 rfl ?_
  repeat first|refine gd ?_|intro _|refine aD @hM ?_
  rename_i q
  apply bC (E0:=[(2,_),(9,_),(10,_)]) (fun E0 (j:Nat)=>(11,.int .i64 j)::E0) (fun _=>Own 125 10 (.slice q.1 l.length q.2) l.length (aC bc l)::i7 b c s x::Cells bl 3 [.int .i64 line]::F) (fun j=>j≤l.length∧∀ k (hk:k<l.length),k<j→(decide (l[k].line=line)&& l[k].live)=false) (fun j=>l.length-j) 0
  · exact nB
  · exact ⟨Nat.zero_le _,fun k hk h=>absurd h (Nat.not_lt_zero _)⟩
  · exact aB
  · rintro j ⟨hj,hno⟩
    refine rD fun hmx=>?_
    by_cases hlt:j<l.length
    · have hnx:(decide (l[j].line=line)&& l[j].live)=false→j+1≤l.length∧∀ k (hk:k<l.length),k<j+1→(decide (l[k].line=line)&& l[k].live)=false:=fun h=>⟨om,fun k hk hkj=>by
        by_cases e:k=j
        · subst e;exact h
        · exact hno k hk (om)⟩
      have hyes:=c2e (P:=fun m:WbE=>decide (m.line=line)&& m.live) hlt
      by_cases h1:l[j].line=line
      · cases h2:l[j].live with
        |true=>
         rw [hyes (by simp [h1,h2])]
         repeat first|refine gd ?_|intro _
         exact aU
        |false=>
         repeat first|refine gd ?_|intro _
         refine aS (j+1) (om) (hnx (by simp [h2])) ?_ ?_
         · exact nB
         · exact aB
      · repeat first|refine gd ?_|intro _
        refine aS (j+1) (om) (hnx (by simp [h1])) ?_ ?_
        · exact nB
        · exact aB
    · have hjl:j=l.length:=by omega
      subst hjl
      have:=c2f (P:=fun m:WbE=>decide (m.line=line)&& m.live) fun k hk=>hno k hk hk
      rw [this]
      repeat first|refine gd ?_|intro _
      exact aU
end
end
section
attribute [local irreducible] Exit.then Exit.inBlock Code.wp WC WO WE WQ V bF tV d3 bW dF uH IntKind.wrap WR Code.rounds WT KO
section
variable {b:Nat} {c:Cfg} {s:MaS} {x:MaX} {F:List HP} {line:Int}
theorem c7d {ws:Words} {bw:Nat} {q:Nat×Nat} (hli:kP line) (hx:yS c s x) :
    FnF Tryz.prog 72 [.pointer (some ⟨b,0,none⟩),c.val,.func (.func 129) #[] #[.pointer (some ⟨q.1,0,none⟩),.pointer (some ⟨q.2,0,none⟩)]] [e2q q line (.func (.func 78) #[] #[.pointer (some ⟨bw,0,none⟩)]) (Cells bw 97 (wc ws)),i7 b c s x] F
      (fun r L'=>r= .int .i64 (a8z c fun i=>c8o (iU c s line i)&& decide ((iU c s line i).words≠ws))∧L'=[e2q q line (.func (.func 78) #[] #[.pointer (some ⟨bw,0,none⟩)]) (Cells bw 97 (wc ws)),i7 b c s x]):=
  rZ (first:=[]) (cap:=[.pointer (some ⟨q.1,0,none⟩),.pointer (some ⟨q.2,0,none⟩)]) (R:=e2q q line (.func (.func 78) #[] #[.pointer (some ⟨bw,0,none⟩)]) (Cells bw 97 (wc ws))) (p:=fun i=>c8o (iU c s line i)&& decide ((iU c s line i).words≠ws)) hx fun F i hi=>
    a1u (first:=[]) (cap:=[.pointer (some ⟨bw,0,none⟩)]) (fk:=78) (R:=Cells bw 97 (wc ws)) (p:=fun y=>c8o y&& decide (y.words≠ws)) hli hi hx fun F w=>c7b (w:=ws)
theorem eZ {Q P:Prop} (k:Q) (h:Hid Q→P:=by
  intro k
  first
  |(refine aG ?_;refine q9 (id:=4) (.only [4,5]) (pl:= .p 0 <| .p 3 <| .r 2 <| .e true [(1,.e true [(4,.n [5] <| .e true [(5,.n [] <| .p 6 <| .done)])]),(4,.n [5] <| .r 1 <| .e true [(5,.n [] <| .p 6 <| .done)])]) k.out)
  |(refine aG ?_;refine q9 (id:=9) (.only [12]) (pl:= .p 0 <| .p 2 <| .r 1 <| .r 3 <| .p 4 <| .r 6 <| .e true [(5,.e true [(7,.p 8 <| .p 9 <| .p 10 <| .e true [(11,.e true [(12,.n [] <| .p 13 <| .done)])]),(11,.e true [(7,.p 8 <| .p 9 <| .p 10 <| .e true [(12,.n [] <| .p 13 <| .done)])])]),(11,.e true [(5,.e true [(7,.p 8 <| .p 9 <| .p 10 <| .e true [(12,.n [] <| .p 13 <| .done)])])])]) k.out)):P:=h ⟨k⟩
theorem b7w (hc:c.wf) (hli:kP line) (hx:yS c s x) (ht:s.tr.length≤1000000000000) (hnl:(vU s.n line).length≤1000000):FnF Tryz.prog 38 [.pointer (some ⟨b,0,none⟩),c.val,.int .i64 line] [i7 b c s x] F (fun r L'=>r= .bool (a8n c s line)∧L'=[i7 b c s x]):=by
  have hN:=fun F=>a0c (F:=F) (c:=c) (line:=line) (b:=b)
  have hch:=rF hx.2.2
  unfold a8n
  refine FnF.mk' Tryz.func38 rfl rfl Tryz.ntmps38 rfl ?_
  cases h0:rJ c line with
  |true=>
   rw [h0] at hN
   repeat first|refine go ?_|intro _|refine eZ ?_|refine cM ?_|refine aD @hN ?_
   exact aU
  |false=>
   rw [h0] at hN
   obtain ⟨hl0,hl1⟩:=a5p h0
   obtain ⟨d,hd,hdh,hdn⟩:=b3a hl0 hch.1
   have hhb:(x.hb.length:Int)=c.homes:=hx.2.1.2.2
   have hW:=fun F=>e5a (F:=F) (b:=b) hc hx ht hl0 hl1
   generalize c0o c s line=ws at hW ⊢
   have hS:=fun F bw=>yD (F:=F) (line:=line) (fk:=78) (fi:= #[]) (ca:= #[.pointer (some ⟨bw,0,none⟩)]) (R:=Cells bw 97 (wc ws))
   have hC:=fun F bw q=>c7d (F:=F) (b:=b) (c:=c) (s:=s) (x:=x) (line:=line) (ws:=ws) (bw:=bw) (q:=q) hli hx
   have hM:=fun F bl=>rZ (F:=F) (b:=b) (c:=c) (s:=s) (x:=x) (fk:=79) (first:=[]) (cap:=[.pointer (some ⟨bl,0,none⟩)]) (R:=Cells bl 3 [.int .i64 line]) (p:=a5t s line) hx (fun F i hi=>c7c (F:=F) (bl:=bl) hi hx)
   have hO:=fun F=>b0j (F:=F) (b:=b) hli hx hnl
   have hR:=fun F=>vP (F:=F) (b:=b) hc hli hx
   have hH:=fun F=>b2l (F:=F) (b:=b) (c:=c) (s:=s) (x:=x) (i:=d) (om)
   have hLn:=fun F=>d8e (F:=F) (b:=b) (i:=d) (line:=line) (om) hx hc hli
   rw [←hd] at hH
   unfold e7n
   rw [hdn]
   generalize sE c (s.hs.getD d zA) line=hw at hLn ⊢
   generalize a8z c (fun i=>c8o (iU c s line i)&& decide ((iU c s line i).words≠ws))=a1 at hC ⊢
   generalize a8z c (a5t s line)=a2 at hM ⊢
   generalize pM c s line=a3 at hO ⊢
   generalize n9 c s line=g1 at hR ⊢
   rw [Bool.false_or]
   repeat' (first|refine go ?_|intro _|refine eZ ?_|refine cM ?_|refine aD @hN ?_|refine aD @hW ?_|apply mU|fail)
   all_goals
     by_cases h1:a1=0
     case' neg=>
       repeat' (first|refine go ?_|intro _|refine eZ ?_|refine cM ?_|refine aD @hS ?_|refine aD @hC ?_|apply mU|fail)
       all_goals (apply aA rfl rfl bB;(first|exact lW|exact ⟨by simp [h1]<;>omega,rfl⟩);exact iC)
     subst h1
     repeat' (first|refine go ?_|intro _|refine eZ ?_|refine cM ?_|refine aD @hS ?_|refine aD @hC ?_|apply mU|fail)
     all_goals
       rename_i b4 b5 b7 q
       first
       |(first|refine aW (e2q q line (.func (.func 78) #[] #[.pointer (some ⟨b7,0,none⟩)]) (Cells b7 97 (wc ws))) ?_|refine aX (e2q q line (.func (.func 78) #[] #[.pointer (some ⟨b7,0,none⟩)]) (Cells b7 97 (wc ws))) ?_|refine aY (e2q q line (.func (.func 78) #[] #[.pointer (some ⟨b7,0,none⟩)]) (Cells b7 97 (wc ws))) ?_)
       (first|refine jR (rY) ?_|refine nT (rY) ?_|refine nU (rY) ?_)
       by_cases h2:0<a2
       · repeat first|refine go ?_|intro _|refine eZ ?_|refine cM ?_|refine aD @hM ?_
         (apply aA rfl rfl bB;(first|exact lW|exact ⟨by simp [h2]<;>omega,rfl⟩);exact iC)
       · by_cases h3:0<a3
         · repeat first|refine go ?_|intro _|refine eZ ?_|refine cM ?_|refine aD @hM ?_|refine aD @hO ?_
           (apply aA rfl rfl bB;(first|exact lW|exact ⟨by simp [h3]<;>omega,rfl⟩);exact iC)
         · cases g1 with
           |false=>
            repeat first|refine go ?_|intro _|refine eZ ?_|refine cM ?_|refine aD @hM ?_|refine aD @hO ?_|refine aD @hR ?_
            exact aU
           |true=>
            repeat' (first|refine go ?_|intro _|refine eZ ?_|refine cM ?_|refine aD @hM ?_|refine aD @hO ?_|refine aD @hR ?_|refine aD @hH ?_|refine aD @hLn ?_|apply mU|fail)
            all_goals
              by_cases h4:hw=ws
              · have h5:wc hw=wc ws:=by rw [h4]
                repeat first|refine go ?_|intro _|refine eZ ?_|refine cM ?_
                (apply aA rfl rfl bB)
                · exact ⟨congrArg Value.bool (Eq.trans (iJ h5) (by simp [h4])),rfl⟩
                · exact aB
              · have h5:¬wc hw=wc ws:=fun h=>h4 (c4a h)
                repeat first|refine go ?_|intro _|refine eZ ?_|refine cM ?_
                (apply aA rfl rfl bB)
                · exact ⟨congrArg Value.bool (Eq.trans (iR h5) (by simp [h2,h3,h4])),rfl⟩
                · exact aB
end
end
end Go.Sx
