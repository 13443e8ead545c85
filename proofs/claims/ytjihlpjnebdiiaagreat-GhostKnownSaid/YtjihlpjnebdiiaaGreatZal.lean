/- Qu2, Qu3, Hom, Hom2, HomPl, HomQ: several of my texts as one. My own work. -/
import Derived.Test.YtjihlpjnebdiiaaGreatZak
set_option linter.unusedVariables false
set_option linter.unusedSectionVars false
set_option linter.unusedSimpArgs false
set_option maxRecDepth 100000
set_option maxHeartbeats 4000000
namespace Go.Sx
open Go Go.Proofs
section
attribute [local irreducible] Exit.then Exit.inBlock Code.wp WC WO WE WQ V bF tV d3 bW dF uH IntKind.wrap WR Code.rounds WT KO
abbrev a3u:=e7l 189 191
theorem e5o {F:List HP} {room:Int} (h:1≤room∧room≤16):FnF Tryz.prog 95 [.int .i64 room] [] F (fun r L'=>∃ b,r= .tuple [.pointer (some ⟨b,0,none⟩),.int .i64 0].toArray∧L'=[a3u b room []]):=by
  refine FnF.mk' Tryz.func95 rfl rfl Tryz.ntmps95 rfl ?_
  repeat first|refine gd ?_|intro _
  (apply aA rfl rfl bB)
  · exact ⟨_,rfl,rfl⟩
  · exact o9 (ps:=[]) (Ent.cons (aM fZ)) rfl rfl rfl (by simp;omega) h.2 (by simp)
theorem c4d {F:List HP} {b:Nat} {room:Int} {l:List QE}:FnF Tryz.prog 179 [.pointer (some ⟨b,0,none⟩)] [a3u b room l] F (fun r L'=>r= .int .i64 (room-l.length)∧L'=[a3u b room l]):=by
  refine FnF.mk' Tryz.func179 rfl rfl Tryz.ntmps179 rfl ?_
  refine wJ fun p c ps hf=>?_
  obtain ⟨rfl,h1,h2,h3,hcp⟩:=hf
  repeat first|refine gd ?_|intro _
  (apply aA rfl rfl bB)
  · exact ⟨by rw [List.length_map];rfl,rfl⟩
  · exact xW @o9
theorem a3c {F:List HP} {b:Nat} {room:Int} {l:List QE} {n:Int}:FnF Tryz.prog 192 [.pointer (some ⟨b,0,none⟩),.int .i64 n] [a3u b room l] F (fun r L'=>r= .bool (b2d l n)∧L'=[a3u b room l]):=by
  refine FnF.mk' Tryz.func192 rfl rfl Tryz.ntmps192 rfl ?_
  refine wJ fun p c ps hf=>?_
  obtain ⟨rfl,h1,h2,h3,hcp⟩:=hf
  by_cases h:0≤n
  · repeat first|refine gd ?_|intro _
    (apply aA rfl rfl bB)
    · exact ⟨by simp [b2d,h],rfl⟩
    · exact xW @o9
  · repeat first|refine gd ?_|intro _
    (apply aA rfl rfl bB)
    · exact ⟨by simp [b2d,h],rfl⟩
    · exact xW @o9
theorem c7o {F:List HP} {b:Nat} {line:Int} {T:TypeId} {C:List Value→List HP} {e:QP} (k:CellsAt b F T [.int .i64 line] C) :
    FnF Tryz.prog 194 [qv e,.pointer (some ⟨b,0,none⟩)] [] F (fun r L'=>r= .bool (decide (e.1.m.line=line))∧L'=[]):=by
  refine FnF.mk' Tryz.func194 rfl rfl Tryz.ntmps194 rfl ?_
  repeat first|refine gd ?_|intro _
  exact aU
theorem b5z {F:List HP} {b:Nat} {line:Int} {T:TypeId} {C:List Value→List HP} {v:Value} {l:List QP} (k1:CellsAt b F T [.int .i64 line] C) (k:RdL F 17 v l.length (aC qc l)) (hn:l.length≤1099511627776) :
    FnF Tryz.prog 193 [v,.func (.func 194) [].toArray [.pointer (some ⟨b,0,none⟩)].toArray] [] F (fun r L'=>r= .bool (decide (0≤aV (fun e:QP=>decide (e.1.m.line=line)) l))∧L'=[]):=by
  have hI:=tF (F:=F) (first:=[]) (cap:=[.pointer (some ⟨b,0,none⟩)]) (fk:=194) (p:=fun e=>decide (e.1.m.line=line)) k hn (fun x _=>c7o k1)
  refine FnF.mk' Tryz.func193 rfl rfl Tryz.ntmps193 rfl ?_
  repeat first|refine gd ?_|intro _|refine aD @hI ?_
  exact aU
theorem d2j {ps:List QP} {n:Nat} {line:Int}:a4k (ps.map (·.1)) n line=decide (aV (fun e:QP=>decide (e.1.m.line=line)) (ps.take n)<0):=by
  rcases Int.lt_or_le (aV (fun e:QP=>decide (e.1.m.line=line)) (ps.take n)) 0 with h|h
  · obtain ⟨h1,h2⟩:=dY (p:=fun e:QP=>decide (e.1.m.line=line)) (l:=ps.take n) (om)
    have:a4k (ps.map (·.1)) n line=true:=by
      simp only [a4k,←List.map_take,List.all_map,List.all_eq_true]
      intro x hx
      have:=h2 x hx
      simpa using this
    rw [this,iJ h]
  · obtain ⟨i,hi,h1,h2,h3⟩:=cL h
    have:a4k (ps.map (·.1)) n line=false:=by
      simp only [a4k,←List.map_take,List.all_map,List.all_eq_false]
      exact ⟨_,List.getElem_mem hi,by simpa using h2⟩
    rw [this,iR (om)]
theorem a7n {F:List HP} {b:Nat} {room:Int} {l:List QE} {n:Int}:FnF Tryz.prog 147 [.pointer (some ⟨b,0,none⟩),.int .i64 n] [a3u b room l] F (fun r L'=>r= .bool (eJ l n)∧L'=[a3u b room l]):=by
  have hH:=fun F=>a3c (F:=F) (b:=b) (room:=room) (l:=l) (n:=n)
  cases e:b2d l n with
  |false=>
   rw [e] at hH
   refine FnF.mk' Tryz.func147 rfl rfl Tryz.ntmps147 rfl ?_
   repeat first|refine gd ?_|intro _|refine aD @hH ?_
   (apply aA rfl rfl bB)
   · exact ⟨by simp [eJ,e],rfl⟩
   · exact aB
  |true=>
   rw [e] at hH
   obtain ⟨i,hi,rfl,ea⟩:=a4m e
   refine FnF.mk' Tryz.func147 rfl rfl Tryz.ntmps147 rfl ?_
   repeat first|refine go ?_|intro _|refine aD @hH ?_
   (first|refine aW (a3u b room l) ?_|refine aX (a3u b room l) ?_|refine aY (a3u b room l) ?_)
   refine vI fun p c ps hf=>?_
   obtain ⟨rfl,h1,h2,h3,hcp⟩:=hf
   have hi':i<ps.length:=by simpa using hi
   have hst:(ps.map (·.1))[i]=ps[i].1:=by simp
   rw [hst] at ea
   cases es:ps[i].1.st with
   |true=>
    repeat first|refine gd ?_|intro _
    (apply aA rfl rfl bB)
    · exact ⟨by simp [eJ,ea,es],rfl⟩
    · exact xW @o9
   |false=>
    have htl:(ps.take i).length=i:=by rw [List.length_take];omega
    haveI kr:=fun L=>e3l (T:=191) (p:=p) (c:=c) (i:=i) (ps:=ps) (om) hcp L
    repeat first|refine gd ?_|intro _|refine aD @b5z ?_
    (apply aA rfl rfl bB)
    · exact ⟨by simp [eJ,ea,es,e,d2j],rfl⟩
    · exact xW @o9
theorem c7p {ps:List QP} {i:Nat} (hi:i<ps.length) (b:Bool):aQ (aC qc ps) (i*17+15) [.bool b]=aC qc (ps.set i ((⟨ps[i].1.m,b,ps[i].1.sends⟩:QE),ps[i].2)):=
  cZ (enc:=qc) (n:=17) (fun _=>rfl) ps i hi (j:=15) (cs:=[.bool b]) (x:=((⟨ps[i].1.m,b,ps[i].1.sends⟩:QE),ps[i].2)) (by simp) rfl
theorem b0q {ps:List QP} {i:Nat} (hi:i<ps.length) (s:List Msg) (a:Option Addr) (c:Nat):aQ (aC qc ps) (i*17+16) [.slice a s.length c]=aC qc (ps.set i ((⟨ps[i].1.m,ps[i].1.st,s⟩:QE),(a,c))):=
  cZ (enc:=qc) (n:=17) (fun _=>rfl) ps i hi (j:=16) (cs:=[.slice a s.length c]) (x:=((⟨ps[i].1.m,ps[i].1.st,s⟩:QE),(a,c))) (by simp) rfl
theorem tL {Q P:Prop} (k:Q) (h:Hid Q→P:=by
  intro k
  first
  |(refine aG ?_;refine q9 (id:=5) .true (pl:= .p 0 <| .p 1 <| .p 2 <| .p 3 <| .r 4 <| .r 5 <| .p 6 <| .e true [(7,.e true [(8,.p 9 <| .p 10 <| .e false [(11,.done)])])]) k.out)):P:=h ⟨k⟩
theorem e5p {F:List HP} {b:Nat} {room:Int} {l:List QE} {m:Msg}:FnF Tryz.prog 141 [.pointer (some ⟨b,0,none⟩),mv m] [a3u b room l] F (fun r L'=>r= .int .i64 (xZ room l m)∧L'=[a3u b room (qZ room l m)]):=by
  refine FnF.mk' Tryz.func141 rfl rfl Tryz.ntmps141 rfl ?_
  by_cases hk:m.kind<1∨m.kind>3
  · have e:xZ room l m=1:=by simp only [xZ,if_pos hk]
    have e2:qZ room l m=l:=by simp [qZ,e]
    rw [e,e2]
    by_cases h1:m.kind<1
    · repeat first|refine go ?_|intro _|refine tL ?_|refine cM ?_
      exact aU
    · repeat first|refine go ?_|intro _|refine tL ?_|refine cM ?_
      exact aU
  · by_cases hf:(l.length:Int)=room
    · have e:xZ room l m=4:=by simp only [xZ,if_neg hk,if_pos hf]
      have e2:qZ room l m=l:=by simp [qZ,e]
      rw [e,e2]
      repeat first|refine go ?_|intro _|refine tL ?_|refine cM ?_|refine aD @c4d ?_
      exact aU
    · have e:xZ room l m=0:=by simp only [xZ,if_neg hk,if_neg hf]
      have e2:qZ room l m=l++[⟨m,false,[]⟩]:=by simp [qZ,e]
      rw [e,e2]
      repeat first|refine go ?_|intro _|refine aD @c4d ?_
      (first|refine aW (a3u b room l) ?_|refine aX (a3u b room l) ?_|refine aY (a3u b room l) ?_)
      refine wJ fun p c ps hf=>?_
      obtain ⟨rfl,h1,h2,h3,hcp⟩:=hf
      repeat first|refine go ?_|intro _|refine tL ?_|refine cM ?_
      (apply aA rfl rfl bB)
      · exact ⟨rfl,rfl⟩
      · rw [List.length_map] at hf
        apply o9 (ps:=ps++[((⟨m,false,[]⟩:QE),(none,0))])
        · exact xW @c9j
        · simp
        · simp
        · rw [aZ,cG];rfl
        · simp;omega
        · exact h2
        · intro p hp
          rcases List.mem_append.1 hp with h|h
          · exact h3 p h
          · rw [List.mem_singleton.1 h];simp
theorem d2k {l:List Msg} {z:Msg} (h:0<l.length):l.headD z=l[(0:Int).toNat]'h:=by
  cases l with
  |nil=>simp at h
  |cons a r=>rfl
theorem b0r {α β:Type} (f:α→β) (l:List α) (i:Nat):(l.eraseIdx i).map f=(l.map f).eraseIdx i:=by
  induction l generalizing i with
  |nil=>rfl
  |cons a r ih=>cases i with
   |zero=>rfl
   |succ i=>simp [ih]
theorem b8d {ps:List QP} {i:Nat} {x:QP}:(ps.set i x).map (·.1)=(ps.map (·.1)).set i x.1:=by rw [List.map_set]
theorem b8e {ps:List QP} {i:Nat} {x:QP} (h3:∀ p∈ps,p.1.sends.length≤p.2.2∧p.1.sends.length≤1000) (hx:x.1.sends.length≤x.2.2∧x.1.sends.length≤1000):∀ p∈ps.set i x,p.1.sends.length≤p.2.2∧p.1.sends.length≤1000:=by
  intro p hp
  rcases List.mem_or_eq_of_mem_set hp with h|h
  · exact h3 p h
  · rw [h];exact hx
theorem tM {Q P:Prop} (k:Q) (h:Hid Q→P:=by
  intro k
  first
  |(refine aG ?_;refine q9 (id:=5) .false (pl:= .p 0 <| .p 1 <| .p 2 <| .p 4 <| .p 5 <| .p 6 <| .p 7 <| .p 9 <| .p 10 <| .r 3 <| .r 8 <| .e true [(11,.p 12 <| .p 13 <| .e true [(14,.p 15 <| .p 16 <| .e false [(17,.done)])])]) k.out)):P:=h ⟨k⟩
theorem b8f {F:List HP} {b:Nat} {room:Int} {l:List QE} {n:Int} {u:Value} {s:List Msg} (k:RdL F 15 u s.length (aC mc s)) (hs:s.length≤1000) :
    FnF Tryz.prog 196 [.pointer (some ⟨b,0,none⟩),.int .i64 n,u] [a3u b room l] F (fun r L'=>r= .int .i64 (kE l n s)∧L'=[a3u b room (bO l n s)]):=by
  have hH:=fun F=>a3c (F:=F) (b:=b) (room:=room) (l:=l) (n:=n)
  have hR:=fun F=>a7n (F:=F) (b:=b) (room:=room) (l:=l) (n:=n)
  cases e:b2d l n with
  |false=>
   have e1:kE l n s=5:=by simp [kE,e]
   have e2:bO l n s=l:=by simp [bO,e1]
   rw [e1,e2]
   rw [e] at hH
   refine FnF.mk' Tryz.func196 rfl rfl Tryz.ntmps196 rfl ?_
   repeat first|refine go ?_|intro _|refine tM ?_|refine cM ?_|refine aD @hH ?_
   exact aU
  |true=>
   rw [e] at hH
   cases er:eJ l n with
   |false=>
    have e1:kE l n s=7:=by simp [kE,e,er]
    have e2:bO l n s=l:=by simp [bO,e1]
    rw [e1,e2]
    rw [er] at hR
    refine FnF.mk' Tryz.func196 rfl rfl Tryz.ntmps196 rfl ?_
    repeat first|refine go ?_|intro _|refine tM ?_|refine cM ?_|refine aD @hH ?_|refine aD @hR ?_
    exact aU
   |true=>
    rw [er] at hR
    by_cases hz:s.length=0
    · have e1:kE l n s=7:=by simp [kE,e,er,hz]
      have e2:bO l n s=l:=by simp [bO,e1]
      rw [e1,e2]
      refine FnF.mk' Tryz.func196 rfl rfl Tryz.ntmps196 rfl ?_
      repeat first|refine go ?_|intro _|refine tM ?_|refine cM ?_|refine aD @hH ?_|refine aD @hR ?_
      exact aU
    · have e1:kE l n s=0:=by simp [kE,e,er,hz]
      obtain ⟨i,hi,rfl,ea⟩:=a4m e
      have e2:bO l i s=l.set i { l[i] with st:=true,sends:=s}:=by simp [bO,e1,ea]
      rw [e1,e2]
      refine FnF.mk' Tryz.func196 rfl rfl Tryz.ntmps196 rfl ?_
      repeat first|refine go ?_|intro _|refine aD @hH ?_|refine aD @hR ?_
      (first|refine aW (a3u b room l) ?_|refine aX (a3u b room l) ?_|refine aY (a3u b room l) ?_)
      refine wJ fun p c ps hf=>?_
      obtain ⟨rfl,h1,h2,h3,hcp⟩:=hf
      have hi':i<ps.length:=by simpa using hi
      (first|(refine eN (.slice p ps.length c) inferInstance (om) ?_;intro _)|(refine eQ (.slice p ps.length c) inferInstance (om) ?_;intro _))
      repeat first|refine go ?_|intro _|refine tM ?_|refine cM ?_|refine aD @sQ ?_
      rename_i p' c'
      have hi2:i<(ps.set i ((⟨ps[i].1.m,true,ps[i].1.sends⟩:QE),ps[i].2)).length:=by simpa using hi'
      rw [c7p hi' true,b0q hi2]
      simp only [List.getElem_set_self,List.set_set]
      have hset:=fun L M=>@d7a ps i hi' ((⟨ps[i].1.m,true,s⟩:QE),(p',c')) 99 L M
      (first|refine aW (Own 99 15 (.slice p' s.length c') s.length (aC mc s)) ?_|refine aX (Own 99 15 (.slice p' s.length c') s.length (aC mc s)) ?_|refine aY (Own 99 15 (.slice p' s.length c') s.length (aC mc s)) ?_)
      refine c5m fun hc'=>?_
      (apply aA rfl rfl bB)
      · exact ⟨rfl,rfl⟩
      · apply o9 (ps:=ps.set i ((⟨ps[i].1.m,true,s⟩:QE),(p',c')))
        · exact xW @hset
        · rw [b8d];simp
        · simp
        · rfl
        · simpa using h1
        · exact h2
        · exact b8e h3 ⟨hc',hs⟩
theorem e0d {F:List HP} {b:Nat} {room:Int} {l:List QE} {n:Int}:FnF Tryz.prog 149 [.pointer (some ⟨b,0,none⟩),.int .i64 n] [a3u b room l] F (fun r L'=>r= .tuple [mv (iL l n),.bool (lX l n)].toArray∧L'=[a3u b room l]):=by
  have hH:=fun F=>a3c (F:=F) (b:=b) (room:=room) (l:=l) (n:=n)
  cases e:b2d l n with
  |false=>
   have e1:lX l n=false:=by simp [lX,e]
   rw [e] at hH
   refine FnF.mk' Tryz.func149 rfl rfl Tryz.ntmps149 rfl ?_
   repeat first|refine gd ?_|intro _|refine aD @hH ?_
   (apply aA rfl rfl bB)
   · exact ⟨by simp [iL,e1,Msg.zero,Words.zero],rfl⟩
   · exact aB
  |true=>
   rw [e] at hH
   obtain ⟨i,hi,rfl,ea⟩:=a4m e
   refine FnF.mk' Tryz.func149 rfl rfl Tryz.ntmps149 rfl ?_
   repeat first|refine go ?_|intro _|refine aD @hH ?_
   (first|refine aW (a3u b room l) ?_|refine aX (a3u b room l) ?_|refine aY (a3u b room l) ?_)
   refine vI fun p c ps hf=>?_
   obtain ⟨rfl,h1,h2,h3,hcp⟩:=hf
   have hi':i<ps.length:=by simpa using hi
   have hst:(ps.map (·.1))[i]=ps[i].1:=by simp
   rw [hst] at ea
   by_cases hz:ps[i].1.sends.length=0
   · have e1:lX (ps.map (·.1)) i=false:=by simp [lX,ea,hz]
     repeat first|refine gd ?_|intro _
     (apply aA rfl rfl bB)
     · exact ⟨by simp [iL,e1,Msg.zero,Words.zero],rfl⟩
     · exact xW @o9
   · have e1:lX (ps.map (·.1)) i=true:=by simp [lX,ea,hz,e]
     haveI kr:=fun L=>c1v (ps:=ps) (p:=ps[i]) (List.getElem_mem hi') (L:=L)
     have hq:iL (ps.map (·.1)) i=ps[i].1.sends[Int.toNat 0]:=by simp only [iL,e1,if_true,ea];exact d2k (om)
     repeat first|refine gd ?_|intro _
     (apply aA rfl rfl bB)
     · exact ⟨by rw [hq,e1];rfl,rfl⟩
     · exact xW @o9
theorem c4e {F:List HP} {b:Nat} {room:Int} {l:List QE} {n:Int}:FnF Tryz.prog 151 [.pointer (some ⟨b,0,none⟩),.int .i64 n] [a3u b room l] F (fun r L'=>r= .int .i64 (lY l n)∧L'=[a3u b room (cS l n)]):=by
  have hH:=fun F=>a3c (F:=F) (b:=b) (room:=room) (l:=l) (n:=n)
  cases e:b2d l n with
  |false=>
   have e1:lY l n=5:=by simp [lY,e]
   have e2:cS l n=l:=by simp [cS,e1]
   rw [e1,e2]
   rw [e] at hH
   refine FnF.mk' Tryz.func151 rfl rfl Tryz.ntmps151 rfl ?_
   repeat first|refine gd ?_|intro _|refine aD @hH ?_
   exact aU
  |true=>
   rw [e] at hH
   obtain ⟨i,hi,rfl,ea⟩:=a4m e
   by_cases hz:l[i].sends.length=0
   · have e1:lY l i=7:=by simp [lY,e,ea,hz]
     have e2:cS l i=l:=by simp [cS,e1]
     rw [e1,e2]
     refine FnF.mk' Tryz.func151 rfl rfl Tryz.ntmps151 rfl ?_
     repeat first|refine go ?_|intro _|refine aD @hH ?_
     (first|refine aW (a3u b room l) ?_|refine aX (a3u b room l) ?_|refine aY (a3u b room l) ?_)
     refine vI fun p c ps hf=>?_
     obtain ⟨rfl,h1,h2,h3,hcp⟩:=hf
     have hi':i<ps.length:=by simpa using hi
     rw [List.getElem_map] at hz
     repeat first|refine gd ?_|intro _
     (apply aA rfl rfl bB)
     · exact ⟨rfl,rfl⟩
     · exact xW @o9
   · have e1:lY l i=0:=by simp [lY,e,ea,hz]
     have e2:cS l i=if l[i].sends.length=1∧l[i].m.kind=3 then l.eraseIdx i else l.set i { l[i] with sends:=l[i].sends.drop 1}:=by simp [cS,e1,ea]
     rw [e1,e2]
     refine FnF.mk' Tryz.func151 rfl rfl Tryz.ntmps151 rfl ?_
     repeat first|refine go ?_|intro _|refine aD @hH ?_
     (first|refine aW (a3u b room l) ?_|refine aX (a3u b room l) ?_|refine aY (a3u b room l) ?_)
     refine vI fun p c ps hf=>?_
     obtain ⟨rfl,h1,h2,h3,hcp⟩:=hf
     have hi':i<ps.length:=by simpa using hi
     rw [List.getElem_map] at hz ⊢
     have hcx:=h3 _ (List.getElem_mem hi')
     have hx:cut (.slice ps[i].2.1 ps[i].1.sends.length ps[i].2.2) (Int.toNat 1) ps[i].1.sends.length ps[i].1.sends.length 15= .slice (if ps[i].1.sends.length=1 then ps[i].2.1 else ps[i].2.1.map (·.add (1*15))) (ps[i].1.sends.drop 1).length (ps[i].1.sends.length-1):=by
       rw [List.length_drop];rfl
     have hsp:=b0q hi' (ps[i].1.sends.drop 1) (if ps[i].1.sends.length=1 then ps[i].2.1 else ps[i].2.1.map (·.add (1*15))) (ps[i].1.sends.length-1)
     have htl:=fun L M=>@c9k ps i hi' ((⟨ps[i].1.m,ps[i].1.st,ps[i].1.sends.drop 1⟩:QE),(if ps[i].1.sends.length=1 then ps[i].2.1 else ps[i].2.1.map (·.add (1*15)),ps[i].1.sends.length-1)) L M (om) hcx.1 rfl hx.symm
     (first|(refine eN (.slice p ps.length c) inferInstance (om) ?_;intro _)|(refine eQ (.slice p ps.length c) inferInstance (om) ?_;intro _))
     repeat first|refine gd ?_|intro _
     refine b3h (c3m rfl (Bnd.some rfl (om)) (b2p rfl) (b2p rfl) (fun h=>h) (om) (om) (om)) rfl ?_
     rw [hx]
     repeat first|refine gd ?_|intro _
     rw [hsp]
     generalize hX:(⟨ps[i].1.m,ps[i].1.st,ps[i].1.sends.drop 1⟩:QE)=X at htl ⊢
     generalize hY:((if ps[i].1.sends.length=1 then ps[i].2.1 else ps[i].2.1.map (·.add (1*15)),ps[i].1.sends.length-1):Option Addr×Nat)=Y at htl ⊢
     have hi2:i<(ps.set i (X,Y)).length:=by simpa using hi'
     have hk2:(ps.set i (X,Y))[i].1.m.kind=ps[i].1.m.kind:=by simp [←hX]
     have hln:(ps.set i (X,Y)).length=ps.length:=by simp
     have hc2:=b8e (i:=i) (x:=(X,Y)) h3 (by rw [←hX,←hY];simp;omega)
     by_cases hd:ps[i].1.sends.length=1∧ps[i].1.m.kind=3
     · obtain ⟨hd1,hd2⟩:=hd
       have hk3:(ps.set i (X,Y))[i].1.m.kind=3:=by rw [hk2];exact hd2
       rw [if_pos (show ps[i].1.sends.length=1∧ps[i].1.m.kind=3 from ⟨hd1,hd2⟩)]
       repeat first|refine gd ?_|intro _
       refine aD (@y0 (i:=i) (j:=i+1)) ?_
       repeat first|refine gd ?_|intro _
       (apply aA rfl rfl bB)
       · exact ⟨rfl,rfl⟩
       · apply o9 (ps:=(ps.set i (X,Y)).eraseIdx i)
         · rw [List.eraseIdx_set_eq]
           exact xW @c2v
         · rw [List.eraseIdx_set_eq,b0r]
         · rw [List.length_eraseIdx,hln];split<;>omega
         · rw [iA (enc:=qc) (n:=17) (fun _=>rfl),eE (enc:=qc) (n:=17) (fun _=>rfl)]
           simp [List.eraseIdx_eq_take_drop_succ]
         · rw [List.length_eraseIdx,hln];split<;>omega
         · exact h2
         · exact fun p hp=>hc2 p (List.mem_of_mem_eraseIdx hp)
     · rw [if_neg hd]
       have hend:∀ {L M:List HP} {p:Option Addr} {c:Nat},Ent L (Cells b 189 [.int .i64 room,.slice p ps.length c]::Own 191 17 (.slice p ps.length c) ps.length (aC qc (ps.set i (X,Y)))::All ((ps.set i (X,Y)).map b2i)::M)→Ent L (a3u b room ((ps.map (·.1)).set i X)::M):=fun h=>
         o9 (ps:=ps.set i (X,Y)) h (by rw [b8d]) (by rw [hln]) rfl (by rw [hln];exact h1) h2 hc2
       by_cases hd1:ps[i].1.sends.length=1
       · have hk3:(ps.set i (X,Y))[i].1.m.kind≠3:=by rw [hk2];exact fun h=>hd ⟨hd1,h⟩
         repeat first|refine gd ?_|intro _
         (apply aA rfl rfl bB)
         · exact ⟨rfl,rfl⟩
         · ((repeat (first|(with_reducible exact Ent.refl)|exact Ent.nil|(apply dQ;exact e6z)|(apply hend)|(apply htl)|apply Ent.drop));all_goals exact mG)
       · repeat first|refine gd ?_|intro _
         (apply aA rfl rfl bB)
         · exact ⟨rfl,rfl⟩
         · ((repeat (first|(with_reducible exact Ent.refl)|exact Ent.nil|(apply dQ;exact e6z)|(apply hend)|(apply htl)|apply Ent.drop));all_goals exact mG)
theorem c7q {α β:Type} (f:α→β) (p:β→Bool) (l:List α):aV p (l.map f)=aV (fun x=>p (f x)) l:=by
  unfold aV
  rw [List.findIdx?_map]
  rfl
theorem c0w {F:List HP} {b1 b2:Nat} {line src:Int} {T1 T2:TypeId} {C1 C2:List Value→List HP} {e:QP} (k1:CellsAt b1 F T1 [.int .i64 line] C1) (k2:CellsAt b2 F T2 [.int .i64 src] C2) :
    FnF Tryz.prog 189 [qv e,.pointer (some ⟨b1,0,none⟩),.pointer (some ⟨b2,0,none⟩)] [] F (fun r L'=>r= .bool (lR line src e.1)∧L'=[]):=by
  refine FnF.mk' Tryz.func189 rfl rfl Tryz.ntmps189 rfl ?_
  cases h1:e.1.st with
  |false=>
   repeat first|refine gd ?_|intro _
   (apply aA rfl rfl bB;(first|exact lW|exact ⟨by simp [lR,h1]<;>omega,rfl⟩);exact iC)
  |true=>
   by_cases h2:e.1.m.line=line
   · by_cases h3:e.1.m.src=src
     · by_cases h4:e.1.m.kind=3
       · repeat first|refine gd ?_|intro _
         (apply aA rfl rfl bB;(first|exact lW|exact ⟨by simp [lR,h1,h2,h3,h4]<;>omega,rfl⟩);exact iC)
       · repeat first|refine gd ?_|intro _
         (apply aA rfl rfl bB;(first|exact lW|exact ⟨by simp [lR,h1,h2,h3,h4]<;>omega,rfl⟩);exact iC)
     · repeat first|refine gd ?_|intro _
       (apply aA rfl rfl bB;(first|exact lW|exact ⟨by simp [lR,h1,h2,h3]<;>omega,rfl⟩);exact iC)
   · repeat first|refine gd ?_|intro _
     (apply aA rfl rfl bB;(first|exact lW|exact ⟨by simp [lR,h1,h2]<;>omega,rfl⟩);exact iC)
theorem c4f {F:List HP} {b1 b2:Nat} {line src:Int} {T1 T2:TypeId} {C1 C2:List Value→List HP} {v:Value} {l:List QP} (k1:CellsAt b1 F T1 [.int .i64 line] C1) (k2:CellsAt b2 F T2 [.int .i64 src] C2) (k:RdL F 17 v l.length (aC qc l)) (hn:l.length≤1099511627776) :
    FnF Tryz.prog 188 [v,.func (.func 189) [].toArray [.pointer (some ⟨b1,0,none⟩),.pointer (some ⟨b2,0,none⟩)].toArray] [] F (fun r L'=>r= .int .i64 (aV (lR line src) (l.map (·.1)))∧L'=[]):=by
  rw [c7q]
  exact tF (first:=[]) (p:=fun e=>lR line src e.1) k hn (fun x _=>c0w k1 k2)
theorem b0s {F:List HP} {b:Nat} {room:Int} {l:List QE} {line src:Int}:FnF Tryz.prog 144 [.pointer (some ⟨b,0,none⟩),.int .i64 line,.int .i64 src] [a3u b room l] F (fun r L'=>r= .int .i64 (a4l l line src)∧L'=[a3u b room (sZ l line src)]):=by
  refine FnF.mk' Tryz.func144 rfl rfl Tryz.ntmps144 rfl ?_
  refine wJ fun p c ps hf=>?_
  obtain ⟨rfl,h1,h2,h3,hcp⟩:=hf
  by_cases h:aV (lR line src) (ps.map (·.1))<0
  · have e1:a4l (ps.map (·.1)) line src=7:=by simp [a4l,h]
    have e2:sZ (ps.map (·.1)) line src=ps.map (·.1):=by simp [sZ,h]
    rw [e1,e2]
    repeat first|refine gd ?_|intro _|refine aD @c4f ?_
    (apply aA rfl rfl bB)
    · exact ⟨rfl,rfl⟩
    · exact xW @o9
  · have e1:a4l (ps.map (·.1)) line src=0:=by simp [a4l,h]
    have e2:sZ (ps.map (·.1)) line src=(ps.map (·.1)).eraseIdx (aV (lR line src) (ps.map (·.1))).toNat:=by simp [sZ,h]
    rw [e1,e2]
    obtain ⟨i,hi,g1,g2,g3⟩:=cL (p:=lR line src) (l:=ps.map (·.1)) (om)
    have hi':i<ps.length:=by simpa using hi
    have hI:=fun F b1 b2 v T1 T2 C1 C2=>c4f (F:=F) (b1:=b1) (b2:=b2) (v:=v) (T1:=T1) (T2:=T2) (C1:=C1) (C2:=C2) (line:=line) (src:=src) (l:=ps)
    simp only [g1] at hI
    rw [g1]
    repeat first|refine gd ?_|intro _|refine aD @hI ?_
    refine aD (@y0 (i:=i) (j:=i+1)) ?_
    repeat first|refine gd ?_|intro _
    (apply aA rfl rfl bB)
    · exact ⟨rfl,rfl⟩
    · apply o9 (ps:=ps.eraseIdx i)
      · exact xW @c2v
      · rw [b0r];simp
      · rw [List.length_eraseIdx];split<;>omega
      · rw [iA (enc:=qc) (n:=17) (fun _=>rfl),eE (enc:=qc) (n:=17) (fun _=>rfl)]
        simp [List.eraseIdx_eq_take_drop_succ]
      · rw [List.length_eraseIdx];split<;>omega
      · exact h2
      · exact fun p hp=>h3 p (List.mem_of_mem_eraseIdx hp)
end
section
def e8r (e:TypeId) (v:Value) (l:List QE):HP:=Ex fun qs:List QP=>[Own e 17 v qs.length (aC qc qs),All (qs.map b2i),Fact (qs.map (·.1)=l)]
section
variable {e:TypeId} {v:Value} {l:List QE}
theorem e8s {qs:List QP} {n:Nat} {xs:List Value} {L M:List HP} (h:Ent L (Own e 17 v n xs::All (qs.map b2i)::M)) (hl:qs.map (·.1)=l) (hn:n=qs.length) (hx:xs=aC qc qs):Ent L (e8r e v l::M):=by
  subst hn hx
  refine Ent.trans h (Ent.trans ?_ (i0 (p:=fun qs:List QP=>[Own e 17 v qs.length (aC qc qs),All (qs.map b2i),Fact (qs.map (·.1)=l)]) qs))
  exact Ent.cons (Ent.cons (cY hl))
theorem e5q {L:List HP} {w:World} (h:d3 (e8r e v l::L) w):∃ qs:List QP,qs.map (·.1)=l∧d3 (Own e 17 v qs.length (aC qc qs)::All (qs.map b2i)::L) w:=by
  obtain ⟨qs,hx⟩:=gW h
  simp only [oI] at hx
  have hf:=iW (aR (aR hx))
  exact ⟨qs,hf,(Ent.cons (Ent.cons (Ent.drop Ent.refl))) _ hx⟩
variable {P:Program} {N:Nat} {env:Env} {L:List HP} {Q:Exit→Act→World→Prop}
theorem e0e {c:Code} (h:∀ qs:List QP,qs.map (·.1)=l→WC P N c env (Own e 17 v qs.length (aC qc qs)::All (qs.map b2i)::L) Q):WC P N c env (e8r e v l::L) Q:=by
  intro a w ha hw
  obtain ⟨qs,hf,hx⟩:=e5q hw
  exact h qs hf a w ha hx
end
theorem d2l {qs:List QP} {x:QP} {T:TypeId} {L M:List HP} (h:Ent L (Own T 15 (.slice x.2.1 x.1.sends.length x.2.2) x.1.sends.length (aC mc x.1.sends)::All (qs.map b2i)::M)):Ent L (All ((qs++[x]).map b2i)::M):=
  Ent.trans h (Ent.trans b3p (a0r (f:=b2i) x))
attribute [local irreducible] Exit.then Exit.inBlock Code.wp WC WO WE WQ V bF tV d3 bW dF uH IntKind.wrap WR Code.rounds WT KO
theorem b0t {F:List HP} {p:QP} (k:RdL F 15 (.slice p.2.1 p.1.sends.length p.2.2) p.1.sends.length (aC mc p.1.sends)) (hn:p.1.sends.length≤1099511627776) :
    FnF Tryz.prog 119 [qv p] [] F (fun r L'=>∃ a c,r=qv (p.1,(a,c))∧L'=[Own 99 15 (.slice a p.1.sends.length c) p.1.sends.length (aC mc p.1.sends)]):=by
  refine FnF.mk' Tryz.func119 rfl rfl Tryz.ntmps119 rfl ?_
  repeat first|refine gd ?_|intro _|refine aD @sQ ?_
  rename_i a' c'
  (apply aA rfl rfl bB)
  · exact ⟨a',c',rfl,rfl⟩
  · exact aB
theorem d5o {F:List HP} {b:Nat} {room:Int} {l:List QE} {n:Int} (h:b2d l n=true) (hn:(a3t l n).sends.length≤1099511627776):FnF Tryz.prog 146 [.pointer (some ⟨b,0,none⟩),.int .i64 n] [a3u b room l] F
    (fun r L'=>∃ a c,r= .tuple [qv (a3t l n,(a,c)),.bool true].toArray∧L'=[Own 99 15 (.slice a (a3t l n).sends.length c) (a3t l n).sends.length (aC mc (a3t l n).sends),a3u b room l]):=by
  have hH:=fun F=>a3c (F:=F) (b:=b) (room:=room) (l:=l) (n:=n)
  rw [h] at hH
  obtain ⟨i,hi,rfl,ea⟩:=a4m h
  rw [ea] at hn ⊢
  refine FnF.mk' Tryz.func146 rfl rfl Tryz.ntmps146 rfl ?_
  repeat first|refine go ?_|intro _|refine aD @hH ?_
  (first|refine aW (a3u b room l) ?_|refine aX (a3u b room l) ?_|refine aY (a3u b room l) ?_)
  refine vI fun p c ps hf=>?_
  obtain ⟨rfl,h1,h2,h3,hcp⟩:=hf
  have hi':i<ps.length:=by simpa using hi
  rw [List.getElem_map] at hn ⊢
  haveI kr:=fun L=>c1v (ps:=ps) (p:=ps[i]) (List.getElem_mem hi') (L:=L)
  have hb:=(h3 _ (List.getElem_mem hi')).2
  repeat first|refine gd ?_|intro _|refine aD @b0t ?_
  (apply aA rfl rfl bB)
  · exact ⟨_,_,rfl,rfl⟩
  · exact xW @o9
theorem c7r {F:List HP} {b:Nat} {room:Int} {l:List QE} {n:Int} (h:b2d l n=false):FnF Tryz.prog 146 [.pointer (some ⟨b,0,none⟩),.int .i64 n] [a3u b room l] F
    (fun r L'=>r= .tuple [qv ((⟨.zero,false,[]⟩:QE),(none,0)),.bool false].toArray∧L'=[a3u b room l]):=by
  have hH:=fun F=>a3c (F:=F) (b:=b) (room:=room) (l:=l) (n:=n)
  rw [h] at hH
  refine FnF.mk' Tryz.func146 rfl rfl Tryz.ntmps146 rfl ?_
  repeat first|refine gd ?_|intro _|refine aD @hH ?_
  exact aU
theorem e0f {F:List HP} {b:Nat} {room:Int} {l:List QE}:FnF Tryz.prog 60 [.pointer (some ⟨b,0,none⟩)] [a3u b room l] F (fun r L'=>∃ p c,r= .slice p l.length c∧L'=[e8r 191 (.slice p l.length c) l,a3u b room l]):=by
  refine FnF.mk' Tryz.func60 rfl rfl Tryz.ntmps60 rfl ?_
  refine wJ fun p c ps hf=>?_
  obtain ⟨rfl,h1,h2,h3,hcp⟩:=hf
  repeat first|refine gd ?_|intro _
  apply bC (E0:=[(9,_),(10,_)]) (fun E0 (q:Nat×Option Addr×Nat×List QP)=>(11,.int .i64 q.1)::(3,.slice q.2.1 q.2.2.2.length q.2.2.1)::E0)
    (fun q=>Own 191 17 (.slice q.2.1 q.2.2.2.length q.2.2.1) q.2.2.2.length (aC qc q.2.2.2)::All (q.2.2.2.map b2i)::Cells b 189 [.int .i64 room,.slice p ps.length c]::Own 191 17 (.slice p ps.length c) ps.length (aC qc ps)::All (ps.map b2i)::F)
    (fun q=>q.1≤ps.length∧q.2.2.2.map (·.1)=(ps.take q.1).map (·.1)) (fun q=>ps.length-q.1) (0,none,0,[])
  · exact nB
  · exact ⟨Nat.zero_le _,by simp⟩
  · refine Ent.trans ?_ (aM fZ)
    exact aB
  · rintro ⟨i,p',c',qs⟩ ⟨hi,hqs⟩
    dsimp only at hi hqs ⊢
    have hlq:qs.length=min i ps.length:=by have:=congrArg List.length hqs;simpa using this
    by_cases hlt:i<ps.length
    · haveI kr:=fun L=>c1v (ps:=ps) (p:=ps[i]) (List.getElem_mem hlt) (L:=L)
      have hb:=(h3 _ (List.getElem_mem hlt)).2
      repeat first|refine gd ?_|intro _|refine aD @b0t ?_
      rename_i b1 a1 c1 b2 p2 c2
      refine aS (i+1,p2,c2,qs++[(ps[i].1,(a1,c1))]) (by dsimp only;omega) ⟨by dsimp only;omega,?_⟩ ?_ ?_
      · dsimp only;rw [List.map_append,hqs,List.map_take,List.map_take,List.take_add_one];simp [hlt]
      · dsimp only;rw [List.length_append,List.length_singleton];exact nB
      · dsimp only;rw [List.length_append,List.length_singleton,aZ,cG]
        exact xW @d2l
    · have hil:i=ps.length:=by omega
      subst hil
      rw [List.take_length] at hqs
      have hlq:qs.length=ps.length:=by have:=congrArg List.length hqs;simpa using this
      repeat first|refine gd ?_|intro _
      (apply aA rfl rfl bB)
      · exact ⟨p',c',by rw [List.length_map,hlq];rfl,rfl⟩
      · rw [List.length_map,←hlq]
        ((repeat (first|(with_reducible exact Ent.refl)|exact Ent.nil|(apply dQ;exact e6z)|(apply e8s)|(apply o9)|apply Ent.drop));all_goals exact mG)
end
section
structure HomS where
  es:List (Int×TEnt)
  ms:List Int
  q:List QE
  odd:Int
abbrev c2i:=TEnt×Option Addr×Nat
abbrev f0t (x:c2i):Value:= .slice x.2.1 x.1.s.ps.length x.2.2
abbrev e9u (x:c2i):Value:= .agg (d0f x.1 x.2.1 x.2.2).toArray
abbrev e9o (x:c2i):HP:=Rds 1 (f0t x) x.1.s.ps.length (aC ic x.1.s.ps)
abbrev b8g (ps:List (Int×c2i)):List HP:=ps.map fun p=>e9o p.2
abbrev b8h (ps:List (Int×c2i)):List (Int×TEnt):=ps.map fun p=>(p.1,p.2.1)
abbrev hz:c2i:=(.no,none,0)
theorem b3c (ps:List (Int×c2i)) (k:Int):fQ (b8h ps) k=(fQ ps k).map (·.1):=by
  induction ps with
  |nil=>rfl
  |cons p r ih=>
   show fQ ((p.1,p.2.1)::b8h r) k=_
   rw [lI,lI,ih]
   split<;>rfl
theorem pU (ps:List (Int×c2i)) (k:Int) (x:c2i):b8h (kC ps k x)=kC (b8h ps) k x.1:=by
  induction ps with
  |nil=>rfl
  |cons p r ih=>
   show b8h (if p.1=k then (k,x)::r else p::kC r k x)=if p.1=k then (k,x.1)::b8h r else (p.1,p.2.1)::kC (b8h r) k x.1
   split
   · rfl
   · show (p.1,p.2.1)::b8h (kC r k x)=_
     rw [ih]
theorem b8i {L:List HP} (ps:List (Int×c2i)) (k:Int) (x:c2i):Ent (e9o x::All (b8g ps)::L) (All (b8g (kC ps k x))::L):=by
  have h:∀ ps:List (Int×c2i),Ent (e9o x::(b8g ps++L)) (b8g (kC ps k x)++L):=by
    intro ps
    induction ps with
    |nil=>exact Ent.refl
    |cons p r ih=>
     show Ent (e9o x::e9o p.2::(b8g r++L)) (b8g (if p.1=k then (k,x)::r else p::kC r k x)++L)
     split
     · exact Ent.cons (Ent.drop Ent.refl)
     · exact Ent.trans (gR (List.Perm.swap _ _ _)) (Ent.cons ih)
  exact Ent.trans (Ent.cons i4) (Ent.trans (h ps) gF)
theorem c4g {L M:List HP} {T:TypeId} {ps:List (Int×c2i)} {k:Int} {x:c2i} (h:Ent L (Own T 1 (f0t x) x.1.s.ps.length (aC ic x.1.s.ps)::All (b8g ps)::M)):Ent L (All (b8g (kC ps k x))::M):=
  Ent.trans h (Ent.trans b3p (b8i ps k x))
theorem e5r {L:List HP} (ps:List (Int×c2i)) (k:Int):RdL (All (b8g ps)::L) 1 (f0t ((fQ ps k).getD hz)) ((fQ ps k).getD hz).1.s.ps.length (aC ic ((fQ ps k).getD hz).1.s.ps):=by
  cases e:fQ ps k with
  |none=>exact pS
  |some x=>
   obtain ⟨i,hi,h⟩:=List.getElem_of_mem (d0r e)
   have hx:ps[i].2=x:=by rw [h]
   have k:RdL (e9o ps[i].2::All ((ps.eraseIdx i).map fun p=>e9o p.2)::L) 1 (f0t ps[i].2) ps[i].2.1.s.ps.length (aC ic ps[i].2.1.s.ps):=RdL.rds
   have e:=vT (f:=fun p:Int×c2i=>e9o p.2) (L:=L) i hi
   rw [hx] at k
   rw [hx] at e
   exact ⟨fun w h=>k.len w (e.sat (by simpa using h)),fun w h=>k.ones w (e.sat (by simpa using h)),fun w h=>k.pf w (e.sat (by simpa using h))⟩
abbrev e7q (c:Cfg) (num:Int) (bm be bq:Nat) (odd:Int):List Value:=[.int .i64 c.cores,.int .i64 c.homes,.int .i64 c.sets,.int .i64 c.ways,.int .i64 c.words,.int .i64 c.lines,.int .i64 c.pointers,.int .i64 c.mshrs,.int .i64 c.buffer,.int .i64 c.writebacks,.int .i64 c.r0,.int .i64 c.r1,.int .i64 c.r2,.int .i64 num,.map (some bm),.pointer (some ⟨be,0,none⟩),.pointer (some ⟨bq,0,none⟩),.int .i64 odd]
def iV (b:Nat) (c:Cfg) (num:Int) (s:HomS):HP:=Ex fun x:(Nat×Nat×Nat)×List (Int×c2i)=>[Cells b 110 (e7q c num x.1.1 x.1.2.1 x.1.2.2 s.odd),MapAt x.1.1 e9u x.2,All (b8g x.2),yP x.1.2.1 c s.ms,e7l 189 191 x.1.2.2 c.buffer s.q,Fact (b8h x.2=s.es)]
theorem kR {b bm be bq:Nat} {c:Cfg} {num odd:Int} {ps:List (Int×c2i)} {es:List (Int×TEnt)} {ms:List Int} {q:List QE} {L M:List HP}
    (h:Ent L (Cells b 110 (e7q c num bm be bq odd)::MapAt bm e9u ps::All (b8g ps)::yP be c ms::e7l 189 191 bq c.buffer q::M)) (he:b8h ps=es):Ent L (iV b c num ⟨es,ms,q,odd⟩::M):=by
  refine Ent.trans h (Ent.trans ?_ (i0 (p:=fun x:(Nat×Nat×Nat)×List (Int×c2i)=>[Cells b 110 (e7q c num x.1.1 x.1.2.1 x.1.2.2 odd),MapAt x.1.1 e9u x.2,All (b8g x.2),yP x.1.2.1 c ms,e7l 189 191 x.1.2.2 c.buffer q,Fact (b8h x.2=es)]) ((bm,be,bq),ps)))
  exact Ent.cons (Ent.cons (Ent.cons (Ent.cons (Ent.cons (cY he)))))
theorem d5p {b:Nat} {c:Cfg} {num:Int} {s:HomS} {L:List HP} {w:World} (h:d3 (iV b c num s::L) w):∃ bm be bq,∃ ps:List (Int×c2i),b8h ps=s.es∧
    d3 (Cells b 110 (e7q c num bm be bq s.odd)::MapAt bm e9u ps::All (b8g ps)::yP be c s.ms::e7l 189 191 bq c.buffer s.q::L) w:=by
  obtain ⟨⟨⟨bm,be,bq⟩,ps⟩,hx⟩:=gW h
  simp only [oI] at hx
  exact ⟨bm,be,bq,ps,iW (aR (aR (aR (aR (aR hx))))),(Ent.cons (Ent.cons (Ent.cons (Ent.cons (Ent.cons (Ent.drop Ent.refl)))))) _ hx⟩
section
variable {b:Nat} {c:Cfg} {num:Int} {s:HomS} {P:Program} {N:Nat} {env:Env} {L:List HP} {Q:Exit→Act→World→Prop}
theorem jH {co:Code} (h:∀ bm be bq,∀ ps:List (Int×c2i),b8h ps=s.es→WC P N co env (Cells b 110 (e7q c num bm be bq s.odd)::MapAt bm e9u ps::All (b8g ps)::yP be c s.ms::e7l 189 191 bq c.buffer s.q::L) Q):WC P N co env (iV b c num s::L) Q:=by
  intro a w ha hw
  obtain ⟨bm,be,bq,ps,he,hx⟩:=d5p hw
  exact h bm be bq ps he a w ha hx
end
def mB (c:Cfg) (num:Int) (m:Msg) (net:Int):Bool:=decide (d6 c m)&& decide (dJ m.kind=net)&& decide (cE m.kind)&& decide (m.dst=num)
def l3 (c:Cfg) (num:Int) (s:HomS) (m:Msg):Int:=if mB c num m 0 then xZ c.buffer s.q m else 1
def iP (c:Cfg) (num:Int) (s:HomS) (m:Msg):HomS:=if mB c num m 0 then { s with q:=qZ c.buffer s.q m} else s
def gU (c:Cfg) (num:Int) (s:HomS) (m:Msg):Int:=if mB c num m 2 then a4l s.q m.line m.src else 1
def gV (c:Cfg) (num:Int) (s:HomS) (m:Msg):HomS:=if mB c num m 2 then { s with q:=sZ s.q m.line m.src} else s
def aJ (s:HomS) (line:Int):TEnt:=(fQ s.es line).getD .no
def pO (s:HomS) (line:Int):Bool:=(fQ s.es line).isSome
def sE (c:Cfg) (s:HomS) (line:Int):Words:=if pO s line then aI c s.ms line else .zero
attribute [local irreducible] Exit.then Exit.inBlock Code.wp WC WO WE WQ V bF tV d3 bW dF uH IntKind.wrap WR Code.rounds WT KO
instance:MapT Tryz.prog 106 e9u hz:=⟨_,_,_,_,_,Tryz.underlying106,Tryz.underlying3,TZ.pf⟩
theorem c4h {F:List HP} {b:Nat} {c:Cfg} {num:Int} {s:HomS} {m:Msg} {net:Int} (hc:c.wf):FnF Tryz.prog 140 [.pointer (some ⟨b,0,none⟩),mv m,.int .i64 net] [iV b c num s] F (fun r L'=>r= .bool (mB c num m net)∧L'=[iV b c num s]):=by
  have hM:=fun F=>b2y (F:=F) (c:=c) (m:=m) hc
  have hH:=fun F=>zL (F:=F) (k:=m.kind)
  obtain ⟨es,ms,q,odd⟩:=s
  refine FnF.mk' Tryz.func140 rfl rfl Tryz.ntmps140 rfl ?_
  refine jH fun bm be bq ps he=>?_
  by_cases h1:d6 c m
  · simp only [decide_eq_true h1] at hM
    by_cases h2:dJ m.kind=net
    · by_cases h3:cE m.kind
      · simp only [decide_eq_true h3] at hH
        repeat first|refine gd ?_|intro _|refine aD @hM ?_|refine aD @qP ?_|refine aD @hH ?_
        (apply aA rfl rfl bB)
        · exact ⟨by simp [mB,h1,h2,h3],rfl⟩
        · exact xW @kR
      · simp only [decide_eq_false h3] at hH
        repeat first|refine gd ?_|intro _|refine aD @hM ?_|refine aD @qP ?_|refine aD @hH ?_
        (apply aA rfl rfl bB)
        · exact ⟨by simp [mB,h1,h2,h3],rfl⟩
        · exact xW @kR
    · repeat first|refine gd ?_|intro _|refine aD @hM ?_|refine aD @qP ?_|refine aD @hH ?_
      (apply aA rfl rfl bB)
      · exact ⟨by simp [mB,h1,h2],rfl⟩
      · exact xW @kR
  · simp only [decide_eq_false h1] at hM
    repeat first|refine gd ?_|intro _|refine aD @hM ?_|refine aD @qP ?_|refine aD @hH ?_
    (apply aA rfl rfl bB)
    · exact ⟨by simp [mB,h1],rfl⟩
    · exact xW @kR
end
section
theorem e0g {s:SSet} (h:c7 s=true) (ha:s.all=false):i6 s [] s.cores.toNat=s.ps:=by
  obtain ⟨m1,m2,m3,m4,m5,m6,m7,m8⟩:=dB h
  refine a2q (a4u _ _ _) m7 fun c=>?_
  rw [c3h h]
  simp [bN,ha]
attribute [local irreducible] Exit.then Exit.inBlock Code.wp WC WO WE WQ V bF tV d3 bW dF uH IntKind.wrap WR Code.rounds WT KO
theorem a2g {Q P:Prop} (k:Q) (h:Hid Q→P:=by
  intro k
  first
  |(refine aG ?_;refine q9 (id:=3) .true (pl:= .p 0 <| .p 1 <| .p 2 <| .r 3 <| .r 4 <| .e true [(5,.p 6 <| .done)]) k.out)):P:=h ⟨k⟩
theorem c7s {F:List HP} {b:Nat} {c:Cfg} {num:Int} {s:HomS} {m:Msg} (hc:c.wf):FnF Tryz.prog 100 [.pointer (some ⟨b,0,none⟩),mv m] [iV b c num s] F (fun r L'=>r= .int .i64 (l3 c num s m)∧L'=[iV b c num (iP c num s m)]):=by
  have hM:=fun F=>c4h (F:=F) (b:=b) (num:=num) (s:=s) (m:=m) (net:=0) hc
  cases e:mB c num m 0 with
  |true=>
   simp only [e] at hM
   have e1:l3 c num s m=xZ c.buffer s.q m:=by simp [l3,e]
   have e2:iP c num s m=⟨s.es,s.ms,qZ c.buffer s.q m,s.odd⟩:=by simp [iP,e]
   rw [e1,e2]
   refine FnF.mk' Tryz.func100 rfl rfl Tryz.ntmps100 rfl ?_
   repeat first|refine go ?_|intro _|refine aD @hM ?_
   (first|refine aW (iV b c num s) ?_|refine aX (iV b c num s) ?_|refine aY (iV b c num s) ?_)
   refine jH fun bm be bq ps he=>?_
   repeat first|refine go ?_|intro _|refine a2g ?_|refine cM ?_|refine aD @e5p ?_
   (apply aA rfl rfl bB)
   · exact ⟨rfl,rfl⟩
   · exact xW @kR
  |false=>
   simp only [e] at hM
   have e1:l3 c num s m=1:=by simp [l3,e]
   have e2:iP c num s m=s:=by simp [iP,e]
   rw [e1,e2]
   refine FnF.mk' Tryz.func100 rfl rfl Tryz.ntmps100 rfl ?_
   repeat first|refine go ?_|intro _|refine a2g ?_|refine cM ?_|refine aD @hM ?_
   exact aU
theorem a2h {Q P:Prop} (k:Q) (h:Hid Q→P:=by
  intro k
  first
  |(refine aG ?_;refine q9 (id:=3) .true (pl:= .p 0 <| .p 1 <| .p 2 <| .p 4 <| .p 6 <| .r 3 <| .r 5 <| .r 7 <| .e true [(8,.p 9 <| .done)]) k.out)):P:=h ⟨k⟩
theorem e0h {F:List HP} {b:Nat} {c:Cfg} {num:Int} {s:HomS} {m:Msg} (hc:c.wf):FnF Tryz.prog 103 [.pointer (some ⟨b,0,none⟩),mv m] [iV b c num s] F (fun r L'=>r= .int .i64 (gU c num s m)∧L'=[iV b c num (gV c num s m)]):=by
  have hM:=fun F=>c4h (F:=F) (b:=b) (num:=num) (s:=s) (m:=m) (net:=2) hc
  cases e:mB c num m 2 with
  |true=>
   simp only [e] at hM
   have e1:gU c num s m=a4l s.q m.line m.src:=by simp [gU,e]
   have e2:gV c num s m=⟨s.es,s.ms,sZ s.q m.line m.src,s.odd⟩:=by simp [gV,e]
   rw [e1,e2]
   refine FnF.mk' Tryz.func103 rfl rfl Tryz.ntmps103 rfl ?_
   repeat first|refine go ?_|intro _|refine aD @hM ?_
   (first|refine aW (iV b c num s) ?_|refine aX (iV b c num s) ?_|refine aY (iV b c num s) ?_)
   refine jH fun bm be bq ps he=>?_
   repeat first|refine go ?_|intro _|refine a2h ?_|refine cM ?_|refine aD @b0s ?_
   (apply aA rfl rfl bB)
   · exact ⟨rfl,rfl⟩
   · exact xW @kR
  |false=>
   simp only [e] at hM
   have e1:gU c num s m=1:=by simp [gU,e]
   have e2:gV c num s m=s:=by simp [gV,e]
   rw [e1,e2]
   refine FnF.mk' Tryz.func103 rfl rfl Tryz.ntmps103 rfl ?_
   repeat first|refine go ?_|intro _|refine a2h ?_|refine cM ?_|refine aD @hM ?_
   exact aU
theorem d2m {F:List HP} {b:Nat} {c:Cfg} {num:Int} {s:HomS}:FnF Tryz.prog 28 [.pointer (some ⟨b,0,none⟩)] [iV b c num s] F (fun r L'=>∃ p k,r= .slice p s.q.length k∧L'=[e8r 191 (.slice p s.q.length k) s.q,iV b c num s]):=by
  obtain ⟨es,ms,q,odd⟩:=s
  refine FnF.mk' Tryz.func28 rfl rfl Tryz.ntmps28 rfl ?_
  refine jH fun bm be bq ps he=>?_
  repeat first|refine gd ?_|intro _|refine aD @e0f ?_
  (apply aA rfl rfl bB)
  · exact ⟨_,_,rfl,rfl⟩
  · exact xW @kR
theorem e0i {F:List HP} {b:Nat} {c:Cfg} {num:Int} {s:HomS} {line:Int} (hc:c.wf) (hl:kP line):FnF Tryz.prog 67 [.pointer (some ⟨b,0,none⟩),.int .i64 line] [iV b c num s] F (fun r L'=>r= .tuple [wv (sE c s line),.bool (pO s line)].toArray∧L'=[iV b c num s]):=by
  obtain ⟨es,ms,q,odd⟩:=s
  have hL:=fun F b=>b8s (F:=F) (b:=b) (c:=c) (ms:=ms) hc hl
  refine FnF.mk' Tryz.func67 rfl rfl Tryz.ntmps67 rfl ?_
  refine jH fun bm be bq ps he=>?_
  subst he
  have hg:=b3c ps line
  cases e:fQ ps line with
  |none=>
   have e1:pO ⟨b8h ps,ms,q,odd⟩ line=false:=by simp [pO,hg,e]
   have e2:sE c ⟨b8h ps,ms,q,odd⟩ line= .zero:=by simp [sE,e1]
   repeat first|rintro _ _ ⟨rfl,rfl⟩|refine e7p fun _=>?_|intro _|refine go ?_
   simp only [e,Option.isSome_none]
   repeat first|refine gd ?_|intro _
   (apply aA rfl rfl bB)
   · exact ⟨by rw [e1,e2];rfl,rfl⟩
   · exact xW @kR
  |some x=>
   have e1:pO ⟨b8h ps,ms,q,odd⟩ line=true:=by simp [pO,hg,e]
   have e2:sE c ⟨b8h ps,ms,q,odd⟩ line=aI c ms line:=by simp [sE,e1]
   repeat first|rintro _ _ ⟨rfl,rfl⟩|refine e7p fun _=>?_|intro _|refine go ?_
   simp only [e,Option.isSome_some]
   repeat first|refine gd ?_|intro _|refine aD @hL ?_
   (apply aA rfl rfl bB)
   · exact ⟨by rw [e1,e2];rfl,rfl⟩
   · exact xW @kR
theorem a2i {ps:List (Int×c2i)} {k:Int} {x:c2i} (e:fQ ps k=some x) (L:List HP):RdL (All (b8g ps)::L) 1 (.slice x.2.1 x.1.s.ps.length x.2.2) x.1.s.ps.length (aC ic x.1.s.ps):=by
  have:=e5r (L:=L) ps k
  rw [e] at this
  exact this
theorem d2n {F:List HP} {b:Nat} {c:Cfg} {num:Int} {s:HomS} {line:Int} (hE:∀ e,fQ s.es line=some e→rE e=true):FnF Tryz.prog 81 [.pointer (some ⟨b,0,none⟩),.int .i64 line] [iV b c num s] F
    (fun r L'=>∃ a k,r= .tuple [.agg (d0f (aJ s line) a k).toArray,.bool (pO s line)].toArray∧L'=[Own 3 1 (.slice a (aJ s line).s.ps.length k) (aJ s line).s.ps.length (aC ic (aJ s line).s.ps),iV b c num s]):=by
  obtain ⟨es,ms,q,odd⟩:=s
  refine FnF.mk' Tryz.func81 rfl rfl Tryz.ntmps81 rfl ?_
  refine jH fun bm be bq ps he=>?_
  subst he
  have hg:=b3c ps line
  cases e:fQ ps line with
  |none=>
   have e1:pO ⟨b8h ps,ms,q,odd⟩ line=false:=by simp [pO,hg,e]
   have e2:aJ ⟨b8h ps,ms,q,odd⟩ line= .no:=by simp [aJ,hg,e]
   rw [e1,e2]
   repeat first|rintro _ _ ⟨rfl,rfl⟩|refine e7p fun _=>?_|intro _|refine go ?_
   simp only [e,Option.isSome_none]
   repeat first|refine gd ?_|intro _
   (apply aA rfl rfl bB)
   · exact ⟨none,0,rfl,rfl⟩
   · refine aM ?_
     exact xW @kR
  |some x=>
   obtain ⟨en,a,k⟩:=x
   have e1:pO ⟨b8h ps,ms,q,odd⟩ line=true:=by simp [pO,hg,e]
   have e2:aJ ⟨b8h ps,ms,q,odd⟩ line=en:=by simp [aJ,hg,e]
   have hm:=hE en (by simp [hg,e])
   have hs:c7 en.s=true:=by simp only [rE,Bool.and_eq_true] at hm;exact hm.1.1
   haveI kr:=fun L=>a2i e L
   have hT:=fun F (hk:RdL F 1 (.slice a en.s.ps.length k) en.s.ps.length (aC ic en.s.ps))=>vE (F:=F) (u:= .slice none 0 0) (but:=[]) hk hs pS (by simp)
   rw [e1,e2]
   repeat first|rintro _ _ ⟨rfl,rfl⟩|refine e7p fun _=>?_|intro _|refine go ?_
   simp only [e,Option.isSome_some,Option.getD_some]
   cases ha:en.s.all with
   |true=>
    have hp:en.s.ps=[]:=(dB hs).2.2.2.2.2.1 ha
    repeat first|refine gd ?_|intro _|refine aD @hT ?_
    (apply aA rfl rfl bB)
    · exact ⟨none,0,by simp only [d0f,hp,List.length_nil];rfl,rfl⟩
    · rw [hp]
      refine aM ?_
      exact xW @kR
   |false=>
    have hp:=e0g hs ha
    simp only [hp] at hT
    repeat first|refine gd ?_|intro _|refine aD @hT ?_
    (apply aA rfl rfl bB)
    · exact ⟨_,_,rfl,rfl⟩
    · exact xW @kR
end
section
def c0x (c:Cfg) (num k:Int):Prop:=0≤k∧k<c.lines∧k % c.homes=num
instance (c:Cfg) (num k:Int):Decidable (c0x c num k):=by unfold c0x;infer_instance
structure HmI (c:Cfg) (num:Int) (s:HomS):Prop where
  ok:aF c=true
  nm:0≤num∧num<c.homes
  own:∀ k,pO s k=decide (c0x c num k)
  may:∀ k e,fQ s.es k=some e→rE e=true∧e.s.cores=c.cores∧e.s.most=c.pointers
  req:∀ x∈s.q,mB c num x.m 0=true
  snd:∀ x∈s.q,∀ y∈x.sends,(4≤y.kind∧y.kind≤10)∧y.line=x.m.line∧y.src=num
  len:(s.q.length:Int)≤c.buffer
theorem b3d {c:Cfg} (h:aF c=true):c.wf:=by
  simp only [aF,fI,Bool.and_eq_true,decide_eq_true_eq] at h
  unfold Cfg.wf kP
  omega
theorem b0u {c:Cfg} (h:aF c=true):1≤c.buffer∧c.buffer≤16:=by
  simp only [aF,fI,Bool.and_eq_true,decide_eq_true_eq] at h
  omega
theorem jI {c:Cfg} {num:Int} {m:Msg} (hc:aF c=true) (h:mB c num m 0=true):d6 c m∧(1≤m.kind∧m.kind≤3)∧c0x c num m.line∧(0≤m.src∧m.src<c.cores)∧m.dst=num:=by
  simp only [mB,Bool.and_eq_true,decide_eq_true_eq] at h
  obtain ⟨⟨⟨h1,h2⟩,h3⟩,h4⟩:=h
  have hk:1≤m.kind∧m.kind≤3:=by
    unfold dJ at h2
    split at h2
    · assumption
    · split at h2
      · omega
      · split at h2<;>omega
  obtain ⟨g1,g2,g3,g4,g5⟩:=h1
  have hu:e2l c m:=by unfold jD at g4;rw [if_pos h3] at g4;exact g4
  obtain ⟨u1,u2,u3⟩:=hu
  have hh:=(iE hc).2.1
  refine ⟨⟨g1,g2,g3,g4,g5⟩,hk,⟨g3.1,g3.2,?_⟩,u1,h4⟩
  rw [←h4,u2]
  unfold qY
  rw [Int.tmod_eq_emod_of_nonneg g3.1]
theorem rN {c:Cfg} {num:Int} {s:HomS} (h:HmI c num s) {k:Int} (ho:c0x c num k):fQ s.es k=some (aJ s k)∧rE (aJ s k)=true∧(aJ s k).s.cores=c.cores∧(aJ s k).s.most=c.pointers:=by
  have h1:=h.own k
  rw [decide_eq_true ho] at h1
  unfold pO at h1
  cases e:fQ s.es k with
  |none=>rw [e] at h1;cases h1
  |some x=>
   have e2:aJ s k=x:=by unfold aJ;rw [e];rfl
   rw [e2]
   exact ⟨rfl,h.may k x e⟩
def a1f (s:HomS) (at':Int):Msg:=(a3t s.q at').m
def d5q (s:HomS) (at':Int):HomS:=⟨s.es,s.ms,s.q.eraseIdx at'.toNat,s.odd+1⟩
def nX (c:Cfg) (s:HomS) (at':Int):HomS:=
  ⟨kC s.es (a1f s at').line (eF (aJ s (a1f s at').line) (a1f s at')),if iH (aJ s (a1f s at').line) (a1f s at') then d6d c s.ms (a1f s at').line (a1f s at').words else s.ms,
    bO s.q at' (bR (aJ s (a1f s at').line) (a1f s at') (aI c s.ms (a1f s at').line)),s.odd⟩
def kO (c:Cfg) (s:HomS) (at':Int):HomS:=if fF (aJ s (a1f s at').line) (a1f s at')=0 then nX c s at' else d5q s at'
abbrev L3:=Int×Int×Int
abbrev f1r (l:L3):List Value:=[.int .i64 l.1,.int .i64 l.2.1,.int .i64 l.2.2]
def e2w (l:L3) (n:Int):Int:=if n=0 then l.1 else if n=1 then l.2.1 else l.2.2
def i5 (s:HomS) (at':Int) (l:L3):Bool:=lX s.q at'&& decide (0<e2w l (dJ (iL s.q at').kind))
def bY (c:Cfg) (s:HomS) (at':Int) (l:L3):HomS:=if eJ s.q at' then kO c s at' else if i5 s at' l then { s with q:=cS s.q at'} else s
def fU (s:HomS) (at':Int) (l:L3):Msg:=if eJ s.q at' then .zero else if i5 s at' l then iL s.q at' else .zero
def d7 (s:HomS) (at':Int) (l:L3):Bool:=if eJ s.q at' then false else i5 s at' l
def oH (s:HomS) (at':Int) (l:L3):Bool:=if eJ s.q at' then true else i5 s at' l
theorem a2j {c:Cfg} {num:Int} {s:HomS} (h:HmI c num s) {m:Msg} (hm:mB c num m 0=true):(fF (aJ s m.line) m=7∧m.kind=1∧(aJ s m.line).o=m.src)∨fF (aJ s m.line) m=0:=by
  obtain ⟨f1,f2,f3,f4,f5⟩:=jI h.ok hm
  obtain ⟨g1,g2,g3,_⟩:=rN h f3
  have hok:e7c (aJ s m.line) m=true:=by
    simp only [e7c,g2,Bool.true_and,Bool.and_eq_true,decide_eq_true_eq]
    omega
  unfold fF
  rw [if_pos hok]
  by_cases k1:m.kind=1
  · rw [if_pos k1]
    split
    · exact .inl ⟨rfl,k1,by assumption⟩
    · exact .inr rfl
  · rw [if_neg k1]
    right
    split
    · rfl
    · rw [if_pos (om)]
theorem e0j {q:List QE} {n:Int} {m:Msg} (hr:eJ q n=true) (hm:(a3t q n).m=m) (hk:m.kind≠3):sZ (cS (bO q n [m]) n) m.line m.src=q.eraseIdx n.toNat:=by
  have hr0:=hr
  obtain ⟨i,hi,rfl,ea,hs,hf⟩:=zM hr
  have hin:b2d q (i:Int)=true:=by simp only [b2d,decide_eq_true_eq];omega
  have e1:bO q i [m]=q.set i { q[i] with st:=true,sends:=[m]}:=by simp [bO,kE,hin,hr0,ea]
  rw [e1]
  have hm':q[i].m=m:=by rw [←ea];exact hm
  generalize hx:({ q[i] with st:=true,sends:=[m]}:QE)=x
  have x1:x.m=m:=by rw [←hx];exact hm'
  have x2:x.st=true:=by rw [←hx]
  have x3:x.sends=[m]:=by rw [←hx]
  have hin2:b2d (q.set i x) (i:Int)=true:=by simp only [b2d,decide_eq_true_eq,List.length_set];omega
  have ea2:a3t (q.set i x) i=x:=by simp [a3t,hin2,hi]
  have e2:cS (q.set i x) i=q.set i { x with sends:=[]}:=by
    simp [cS,lY,hin2,ea2,x3,x1,hk]
  rw [e2]
  generalize hy:({ x with sends:=[]}:QE)=y
  have y1:y.m=m:=by rw [←hy];exact x1
  have y2:y.st=true:=by rw [←hy];exact x2
  have y3:y.sends=[]:=by rw [←hy]
  have hix:aV (lR m.line m.src) (q.set i y)=i:=by
    refine jK (by simpa using hi) ?_ ?_
    · intro j hj hji
      have hj':j<q.length:=by simpa using hj
      rw [List.getElem_set_ne (om)]
      have:=hf j hj' hji
      rw [hm'] at this
      simp [lR,this]
    · simp [lR,y1,y2,y3,hk]
  unfold sZ
  rw [hix,if_neg (om),Int.toNat_natCast,List.eraseIdx_set_eq]
end
section
def oC (line:Int) (q:List QE):List Msg:=(q.filter fun e=>decide (e.m.line=line)&& !e.st).map (·.m)
def oP (line:Int) (q:List QE):List Msg:=(q.filter fun e=>decide (e.m.line=line)).flatMap (·.sends)
theorem qK (line:Int) (a b:List QE):oC line (a++b)=oC line a++oC line b:=by simp [oC]
theorem a8q (line:Int) (a b:List QE):oP line (a++b)=oP line a++oP line b:=by simp [oP]
theorem nY (line:Int) (e:QE) (b:List QE):oC line (e::b)=(if e.m.line=line∧e.st=false then [e.m] else [])++oC line b:=by
  unfold oC
  rw [List.filter_cons]
  by_cases h:e.m.line=line<;>cases hs:e.st<;>simp [h,hs]
theorem a5z (line:Int) (e:QE) (b:List QE):oP line (e::b)=(if e.m.line=line then e.sends else [])++oP line b:=by
  unfold oP
  rw [List.filter_cons]
  by_cases h:e.m.line=line<;>simp [h]
theorem a6a {line:Int} {q:List QE} (h:∀ e∈q,e.m.line=line→e.sends=[]):oP line q=[]:=by
  induction q with
  |nil=>rfl
  |cons e r ih=>
   rw [a5z,ih fun x hx=>h x (List.mem_cons_of_mem _ hx)]
   split
   · rename_i he;rw [h e (List.mem_cons_self ..) he];rfl
   · rfl
theorem e0k {line:Int} {q:List QE} (h:∀ e∈q,e.m.line≠line):oC line q=[]:=by
  induction q with
  |nil=>rfl
  |cons e r ih=>rw [nY,ih fun x hx=>h x (List.mem_cons_of_mem _ hx),if_neg (fun g=>h e (List.mem_cons_self ..) g.1)];rfl
theorem d6l {q:List QE} {i:Nat} (hi:i<q.length):q=q.take i++q[i]::q.drop (i+1)∧(∀ x,q.set i x=q.take i++x::q.drop (i+1))∧q.eraseIdx i=q.take i++q.drop (i+1):=by
  refine ⟨?_,fun x=>?_,List.eraseIdx_eq_take_drop_succ q i⟩
  · rw [←List.drop_eq_getElem_cons hi,List.take_append_drop]
  · rw [List.set_eq_take_append_cons_drop,if_pos hi]
theorem d5r {q:List QE} (h:a1p q) {i:Nat} (hi:i<q.length):∀ e∈q.drop (i+1),e.m.line=q[i].m.line→e.st=false∧e.sends=[]:=by
  intro e he hl
  obtain ⟨j,hj,rfl⟩:=List.getElem_of_mem he
  rw [List.getElem_drop] at hl ⊢
  have hj':i+1+j<q.length:=by simp at hj;omega
  have hs:=h.1 i (i+1+j) hi hj' (om) hl.symm
  exact ⟨hs,h.2 _ (List.getElem_mem _) hs⟩
theorem e5s {q:List QE} (h:a1p q) {i:Nat} (hi:i<q.length) (hs:q[i].st=true):∀ e∈q.take i,e.m.line≠q[i].m.line:=by
  intro e he hl
  obtain ⟨j,hj,rfl⟩:=List.getElem_of_mem he
  rw [List.getElem_take] at hl
  have hj':j<i:=by simp at hj;omega
  have:=h.1 j i (om) hi hj' hl
  rw [hs] at this;cases this
end
end Go.Sx
