/- Qu2, Qu3, Hom, Hom2, HomPl, CaV: several of my texts as one. My own work. -/
import Derived.Test.YtjihlpjnebdiiaaGreatZaj
set_option linter.unusedVariables false
set_option linter.unusedSectionVars false
set_option linter.unusedSimpArgs false
set_option maxRecDepth 100000
set_option maxHeartbeats 4000000
namespace Go.Sx
open Go Go.Proofs
section
attribute [local irreducible] Exit.then Exit.inBlock Code.wp WC WO WE WQ V bT vL fP cY eI v8 IntKind.wrap WR Code.rounds WT KO
abbrev a6f:=f1q 189 191
theorem e8a {F:List HP} {room:Int} (h:1≤room∧room≤16):FnF Tryz.prog 95 [.int .i64 room] [] F (fun r L'=>∃ b,r= .tuple [.pointer (some ⟨b,0,none⟩),.int .i64 0].toArray∧L'=[a6f b room []]):=by
  refine FnF.mk' Tryz.func95 rfl rfl Tryz.ntmps95 rfl ?_
  repeat first|refine gd ?_|intro _
  (apply aA rfl rfl bH)
  · exact ⟨_,rfl,rfl⟩
  · exact p9 (ps:=[]) (Ent.cons (aO yD)) rfl rfl rfl (by simp;omega) h.2 (by simp)
theorem c6f {F:List HP} {b:Nat} {room:Int} {l:List QE}:FnF Tryz.prog 179 [.pointer (some ⟨b,0,none⟩)] [a6f b room l] F (fun r L'=>r= .int .i64 (room-l.length)∧L'=[a6f b room l]):=by
  refine FnF.mk' Tryz.func179 rfl rfl Tryz.ntmps179 rfl ?_
  refine yE fun p c ps hf=>?_
  obtain ⟨rfl,h1,h2,h3,hcp⟩:=hf
  repeat first|refine gd ?_|intro _
  (apply aA rfl rfl bH)
  · exact ⟨by rw [List.length_map];rfl,rfl⟩
  · exact zR @p9
theorem a5o {F:List HP} {b:Nat} {room:Int} {l:List QE} {n:Int}:FnF Tryz.prog 192 [.pointer (some ⟨b,0,none⟩),.int .i64 n] [a6f b room l] F (fun r L'=>r= .bool (a9o l n)∧L'=[a6f b room l]):=by
  refine FnF.mk' Tryz.func192 rfl rfl Tryz.ntmps192 rfl ?_
  refine yE fun p c ps hf=>?_
  obtain ⟨rfl,h1,h2,h3,hcp⟩:=hf
  by_cases h:0≤n
  · repeat first|refine gd ?_|intro _
    (apply aA rfl rfl bH)
    · exact ⟨by simp [a9o,h],rfl⟩
    · exact zR @p9
  · repeat first|refine gd ?_|intro _
    (apply aA rfl rfl bH)
    · exact ⟨by simp [a9o,h],rfl⟩
    · exact zR @p9
theorem c9k {F:List HP} {b:Nat} {line:Int} {T:TypeId} {C:List Value→List HP} {e:QP} (k:CellsAt b F T [.int .i64 line] C) :
    FnF Tryz.prog 194 [qv e,.pointer (some ⟨b,0,none⟩)] [] F (fun r L'=>r= .bool (decide (e.1.m.line=line))∧L'=[]):=by
  refine FnF.mk' Tryz.func194 rfl rfl Tryz.ntmps194 rfl ?_
  repeat first|refine gd ?_|intro _
  exact bF
theorem b7z {F:List HP} {b:Nat} {line:Int} {T:TypeId} {C:List Value→List HP} {v:Value} {l:List QP} (k1:CellsAt b F T [.int .i64 line] C) (k:RdL F 17 v l.length (aC qc l)) (hn:l.length≤1099511627776) :
    FnF Tryz.prog 193 [v,.func (.func 194) [].toArray [.pointer (some ⟨b,0,none⟩)].toArray] [] F (fun r L'=>r= .bool (decide (0≤bA (fun e:QP=>decide (e.1.m.line=line)) l))∧L'=[]):=by
  have hI:=uD (F:=F) (first:=[]) (cap:=[.pointer (some ⟨b,0,none⟩)]) (fk:=194) (p:=fun e=>decide (e.1.m.line=line)) k hn (fun x _=>c9k k1)
  refine FnF.mk' Tryz.func193 rfl rfl Tryz.ntmps193 rfl ?_
  repeat first|refine gd ?_|intro _|refine aD @hI ?_
  exact bF
theorem d3e {ps:List QP} {n:Nat} {line:Int}:a6s (ps.map (·.1)) n line=decide (bA (fun e:QP=>decide (e.1.m.line=line)) (ps.take n)<0):=by
  rcases Int.lt_or_le (bA (fun e:QP=>decide (e.1.m.line=line)) (ps.take n)) 0 with h|h
  · obtain ⟨h1,h2⟩:=dL (p:=fun e:QP=>decide (e.1.m.line=line)) (l:=ps.take n) (om)
    have:a6s (ps.map (·.1)) n line=true:=by
      simp only [a6s,←List.map_take,List.all_map,List.all_eq_true]
      intro x hx
      have:=h2 x hx
      simpa using this
    rw [this,jP h]
  · obtain ⟨i,hi,h1,h2,h3⟩:=cR h
    have:a6s (ps.map (·.1)) n line=false:=by
      simp only [a6s,←List.map_take,List.all_map,List.all_eq_false]
      exact ⟨_,List.getElem_mem hi,by simpa using h2⟩
    rw [this,jQ (om)]
theorem a9u {F:List HP} {b:Nat} {room:Int} {l:List QE} {n:Int}:FnF Tryz.prog 147 [.pointer (some ⟨b,0,none⟩),.int .i64 n] [a6f b room l] F (fun r L'=>r= .bool (eZ l n)∧L'=[a6f b room l]):=by
  have hH:=fun F=>a5o (F:=F) (b:=b) (room:=room) (l:=l) (n:=n)
  cases e:a9o l n with
  |false=>
   rw [e] at hH
   refine FnF.mk' Tryz.func147 rfl rfl Tryz.ntmps147 rfl ?_
   repeat first|refine gd ?_|intro _|refine aD @hH ?_
   (apply aA rfl rfl bH)
   · exact ⟨by simp [eZ,e],rfl⟩
   · exact aB
  |true=>
   rw [e] at hH
   obtain ⟨i,hi,rfl,ea⟩:=a5l e
   refine FnF.mk' Tryz.func147 rfl rfl Tryz.ntmps147 rfl ?_
   repeat first|refine go ?_|intro _|refine aD @hH ?_
   (first|refine aX (a6f b room l) ?_|refine aY (a6f b room l) ?_|refine aZ (a6f b room l) ?_)
   refine wV fun p c ps hf=>?_
   obtain ⟨rfl,h1,h2,h3,hcp⟩:=hf
   have hi':i<ps.length:=by simpa using hi
   have hst:(ps.map (·.1))[i]=ps[i].1:=by simp
   rw [hst] at ea
   cases es:ps[i].1.st with
   |true=>
    repeat first|refine gd ?_|intro _
    (apply aA rfl rfl bH)
    · exact ⟨by simp [eZ,ea,es],rfl⟩
    · exact zR @p9
   |false=>
    have htl:(ps.take i).length=i:=by rw [List.length_take];omega
    haveI kr:=fun L=>e7o (T:=191) (p:=p) (c:=c) (i:=i) (ps:=ps) (om) hcp L
    repeat first|refine gd ?_|intro _|refine aD @b7z ?_
    (apply aA rfl rfl bH)
    · exact ⟨by simp [eZ,ea,es,e,d3e],rfl⟩
    · exact zR @p9
theorem c9l {ps:List QP} {i:Nat} (hi:i<ps.length) (b:Bool):aQ (aC qc ps) (i*17+15) [.bool b]=aC qc (ps.set i ((⟨ps[i].1.m,b,ps[i].1.sends⟩:QE),ps[i].2)):=
  dT (enc:=qc) (n:=17) (fun _=>rfl) ps i hi (j:=15) (cs:=[.bool b]) (x:=((⟨ps[i].1.m,b,ps[i].1.sends⟩:QE),ps[i].2)) (by simp) rfl
theorem b2y {ps:List QP} {i:Nat} (hi:i<ps.length) (s:List Msg) (a:Option Addr) (c:Nat):aQ (aC qc ps) (i*17+16) [.slice a s.length c]=aC qc (ps.set i ((⟨ps[i].1.m,ps[i].1.st,s⟩:QE),(a,c))):=
  dT (enc:=qc) (n:=17) (fun _=>rfl) ps i hi (j:=16) (cs:=[.slice a s.length c]) (x:=((⟨ps[i].1.m,ps[i].1.st,s⟩:QE),(a,c))) (by simp) rfl
theorem tX {Q P:Prop} (k:Q) (h:Hid Q→P:=by
  intro k
  first
  |(refine aI ?_;refine uU (id:=5) .true (pl:= .p 0 <| .p 1 <| .p 2 <| .p 3 <| .r 4 <| .r 5 <| .p 6 <| .e true [(7,.e true [(8,.p 9 <| .p 10 <| .e false [(11,.done)])])]) k.out)):P:=h ⟨k⟩
theorem e8b {F:List HP} {b:Nat} {room:Int} {l:List QE} {m:Msg}:FnF Tryz.prog 141 [.pointer (some ⟨b,0,none⟩),mv m] [a6f b room l] F (fun r L'=>r= .int .i64 (xN room l m)∧L'=[a6f b room (r7 room l m)]):=by
  refine FnF.mk' Tryz.func141 rfl rfl Tryz.ntmps141 rfl ?_
  by_cases hk:m.kind<1∨m.kind>3
  · have e:xN room l m=1:=by simp only [xN,if_pos hk]
    have e2:r7 room l m=l:=by simp [r7,e]
    rw [e,e2]
    by_cases h1:m.kind<1
    · repeat first|refine go ?_|intro _|refine tX ?_|refine dM ?_
      exact bF
    · repeat first|refine go ?_|intro _|refine tX ?_|refine dM ?_
      exact bF
  · by_cases hf:(l.length:Int)=room
    · have e:xN room l m=4:=by simp only [xN,if_neg hk,if_pos hf]
      have e2:r7 room l m=l:=by simp [r7,e]
      rw [e,e2]
      repeat first|refine go ?_|intro _|refine tX ?_|refine dM ?_|refine aD @c6f ?_
      exact bF
    · have e:xN room l m=0:=by simp only [xN,if_neg hk,if_neg hf]
      have e2:r7 room l m=l++[⟨m,false,[]⟩]:=by simp [r7,e]
      rw [e,e2]
      repeat first|refine go ?_|intro _|refine aD @c6f ?_
      (first|refine aX (a6f b room l) ?_|refine aY (a6f b room l) ?_|refine aZ (a6f b room l) ?_)
      refine yE fun p c ps hf=>?_
      obtain ⟨rfl,h1,h2,h3,hcp⟩:=hf
      repeat first|refine go ?_|intro _|refine tX ?_|refine dM ?_
      (apply aA rfl rfl bH)
      · exact ⟨rfl,rfl⟩
      · rw [List.length_map] at hf
        apply p9 (ps:=ps++[((⟨m,false,[]⟩:QE),(none,0))])
        · exact zR @d2n
        · simp
        · simp
        · rw [bJ,dW];rfl
        · simp;omega
        · exact h2
        · intro p hp
          rcases List.mem_append.1 hp with h|h
          · exact h3 p h
          · rw [List.mem_singleton.1 h];simp
theorem d3f {l:List Msg} {z:Msg} (h:0<l.length):l.headD z=l[(0:Int).toNat]'h:=by
  cases l with
  |nil=>simp at h
  |cons a r=>rfl
theorem b2z {α β:Type} (f:α→β) (l:List α) (i:Nat):(l.eraseIdx i).map f=(l.map f).eraseIdx i:=by
  induction l generalizing i with
  |nil=>rfl
  |cons a r ih=>cases i with
   |zero=>rfl
   |succ i=>simp [ih]
theorem b9s {ps:List QP} {i:Nat} {x:QP}:(ps.set i x).map (·.1)=(ps.map (·.1)).set i x.1:=by rw [List.map_set]
theorem b9t {ps:List QP} {i:Nat} {x:QP} (h3:∀ p∈ps,p.1.sends.length≤p.2.2∧p.1.sends.length≤1000) (hx:x.1.sends.length≤x.2.2∧x.1.sends.length≤1000):∀ p∈ps.set i x,p.1.sends.length≤p.2.2∧p.1.sends.length≤1000:=by
  intro p hp
  rcases List.mem_or_eq_of_mem_set hp with h|h
  · exact h3 p h
  · rw [h];exact hx
theorem tY {Q P:Prop} (k:Q) (h:Hid Q→P:=by
  intro k
  first
  |(refine aI ?_;refine uU (id:=5) .false (pl:= .p 0 <| .p 1 <| .p 2 <| .p 4 <| .p 5 <| .p 6 <| .p 7 <| .p 9 <| .p 10 <| .r 3 <| .r 8 <| .e true [(11,.p 12 <| .p 13 <| .e true [(14,.p 15 <| .p 16 <| .e false [(17,.done)])])]) k.out)):P:=h ⟨k⟩
theorem b9u {F:List HP} {b:Nat} {room:Int} {l:List QE} {n:Int} {u:Value} {s:List Msg} (k:RdL F 15 u s.length (aC mc s)) (hs:s.length≤1000) :
    FnF Tryz.prog 196 [.pointer (some ⟨b,0,none⟩),.int .i64 n,u] [a6f b room l] F (fun r L'=>r= .int .i64 (lA l n s)∧L'=[a6f b room (cD l n s)]):=by
  have hH:=fun F=>a5o (F:=F) (b:=b) (room:=room) (l:=l) (n:=n)
  have hR:=fun F=>a9u (F:=F) (b:=b) (room:=room) (l:=l) (n:=n)
  cases e:a9o l n with
  |false=>
   have e1:lA l n s=5:=by simp [lA,e]
   have e2:cD l n s=l:=by simp [cD,e1]
   rw [e1,e2]
   rw [e] at hH
   refine FnF.mk' Tryz.func196 rfl rfl Tryz.ntmps196 rfl ?_
   repeat first|refine go ?_|intro _|refine tY ?_|refine dM ?_|refine aD @hH ?_
   exact bF
  |true=>
   rw [e] at hH
   cases er:eZ l n with
   |false=>
    have e1:lA l n s=7:=by simp [lA,e,er]
    have e2:cD l n s=l:=by simp [cD,e1]
    rw [e1,e2]
    rw [er] at hR
    refine FnF.mk' Tryz.func196 rfl rfl Tryz.ntmps196 rfl ?_
    repeat first|refine go ?_|intro _|refine tY ?_|refine dM ?_|refine aD @hH ?_|refine aD @hR ?_
    exact bF
   |true=>
    rw [er] at hR
    by_cases hz:s.length=0
    · have e1:lA l n s=7:=by simp [lA,e,er,hz]
      have e2:cD l n s=l:=by simp [cD,e1]
      rw [e1,e2]
      refine FnF.mk' Tryz.func196 rfl rfl Tryz.ntmps196 rfl ?_
      repeat first|refine go ?_|intro _|refine tY ?_|refine dM ?_|refine aD @hH ?_|refine aD @hR ?_
      exact bF
    · have e1:lA l n s=0:=by simp [lA,e,er,hz]
      obtain ⟨i,hi,rfl,ea⟩:=a5l e
      have e2:cD l i s=l.set i { l[i] with st:=true,sends:=s}:=by simp [cD,e1,ea]
      rw [e1,e2]
      refine FnF.mk' Tryz.func196 rfl rfl Tryz.ntmps196 rfl ?_
      repeat first|refine go ?_|intro _|refine aD @hH ?_|refine aD @hR ?_
      (first|refine aX (a6f b room l) ?_|refine aY (a6f b room l) ?_|refine aZ (a6f b room l) ?_)
      refine yE fun p c ps hf=>?_
      obtain ⟨rfl,h1,h2,h3,hcp⟩:=hf
      have hi':i<ps.length:=by simpa using hi
      (first|(refine fJ (.slice p ps.length c) inferInstance (om) ?_;intro _)|(refine fM (.slice p ps.length c) inferInstance (om) ?_;intro _))
      repeat first|refine go ?_|intro _|refine tY ?_|refine dM ?_|refine aD @tM ?_
      rename_i p' c'
      have hi2:i<(ps.set i ((⟨ps[i].1.m,true,ps[i].1.sends⟩:QE),ps[i].2)).length:=by simpa using hi'
      rw [c9l hi' true,b2y hi2]
      simp only [List.getElem_set_self,List.set_set]
      have hset:=fun L M=>@e0y ps i hi' ((⟨ps[i].1.m,true,s⟩:QE),(p',c')) 99 L M
      (first|refine aX (Own 99 15 (.slice p' s.length c') s.length (aC mc s)) ?_|refine aY (Own 99 15 (.slice p' s.length c') s.length (aC mc s)) ?_|refine aZ (Own 99 15 (.slice p' s.length c') s.length (aC mc s)) ?_)
      refine c9a fun hc'=>?_
      (apply aA rfl rfl bH)
      · exact ⟨rfl,rfl⟩
      · apply p9 (ps:=ps.set i ((⟨ps[i].1.m,true,s⟩:QE),(p',c')))
        · exact zR @hset
        · rw [b9s];simp
        · simp
        · rfl
        · simpa using h1
        · exact h2
        · exact b9t h3 ⟨hc',hs⟩
theorem e1l {F:List HP} {b:Nat} {room:Int} {l:List QE} {n:Int}:FnF Tryz.prog 149 [.pointer (some ⟨b,0,none⟩),.int .i64 n] [a6f b room l] F (fun r L'=>r= .tuple [mv (gK l n),.bool (jC l n)].toArray∧L'=[a6f b room l]):=by
  have hH:=fun F=>a5o (F:=F) (b:=b) (room:=room) (l:=l) (n:=n)
  cases e:a9o l n with
  |false=>
   have e1:jC l n=false:=by simp [jC,e]
   rw [e] at hH
   refine FnF.mk' Tryz.func149 rfl rfl Tryz.ntmps149 rfl ?_
   repeat first|refine gd ?_|intro _|refine aD @hH ?_
   (apply aA rfl rfl bH)
   · exact ⟨by simp [gK,e1,Msg.zero,Words.zero],rfl⟩
   · exact aB
  |true=>
   rw [e] at hH
   obtain ⟨i,hi,rfl,ea⟩:=a5l e
   refine FnF.mk' Tryz.func149 rfl rfl Tryz.ntmps149 rfl ?_
   repeat first|refine go ?_|intro _|refine aD @hH ?_
   (first|refine aX (a6f b room l) ?_|refine aY (a6f b room l) ?_|refine aZ (a6f b room l) ?_)
   refine wV fun p c ps hf=>?_
   obtain ⟨rfl,h1,h2,h3,hcp⟩:=hf
   have hi':i<ps.length:=by simpa using hi
   have hst:(ps.map (·.1))[i]=ps[i].1:=by simp
   rw [hst] at ea
   by_cases hz:ps[i].1.sends.length=0
   · have e1:jC (ps.map (·.1)) i=false:=by simp [jC,ea,hz]
     repeat first|refine gd ?_|intro _
     (apply aA rfl rfl bH)
     · exact ⟨by simp [gK,e1,Msg.zero,Words.zero],rfl⟩
     · exact zR @p9
   · have e1:jC (ps.map (·.1)) i=true:=by simp [jC,ea,hz,e]
     haveI kr:=fun L=>c4x (ps:=ps) (p:=ps[i]) (List.getElem_mem hi') (L:=L)
     have hq:gK (ps.map (·.1)) i=ps[i].1.sends[Int.toNat 0]:=by simp only [gK,e1,if_true,ea];exact d3f (om)
     repeat first|refine gd ?_|intro _
     (apply aA rfl rfl bH)
     · exact ⟨by rw [hq,e1];rfl,rfl⟩
     · exact zR @p9
theorem c6g {F:List HP} {b:Nat} {room:Int} {l:List QE} {n:Int}:FnF Tryz.prog 151 [.pointer (some ⟨b,0,none⟩),.int .i64 n] [a6f b room l] F (fun r L'=>r= .int .i64 (lB l n)∧L'=[a6f b room (cN l n)]):=by
  have hH:=fun F=>a5o (F:=F) (b:=b) (room:=room) (l:=l) (n:=n)
  cases e:a9o l n with
  |false=>
   have e1:lB l n=5:=by simp [lB,e]
   have e2:cN l n=l:=by simp [cN,e1]
   rw [e1,e2]
   rw [e] at hH
   refine FnF.mk' Tryz.func151 rfl rfl Tryz.ntmps151 rfl ?_
   repeat first|refine gd ?_|intro _|refine aD @hH ?_
   exact bF
  |true=>
   rw [e] at hH
   obtain ⟨i,hi,rfl,ea⟩:=a5l e
   by_cases hz:l[i].sends.length=0
   · have e1:lB l i=7:=by simp [lB,e,ea,hz]
     have e2:cN l i=l:=by simp [cN,e1]
     rw [e1,e2]
     refine FnF.mk' Tryz.func151 rfl rfl Tryz.ntmps151 rfl ?_
     repeat first|refine go ?_|intro _|refine aD @hH ?_
     (first|refine aX (a6f b room l) ?_|refine aY (a6f b room l) ?_|refine aZ (a6f b room l) ?_)
     refine wV fun p c ps hf=>?_
     obtain ⟨rfl,h1,h2,h3,hcp⟩:=hf
     have hi':i<ps.length:=by simpa using hi
     rw [List.getElem_map] at hz
     repeat first|refine gd ?_|intro _
     (apply aA rfl rfl bH)
     · exact ⟨rfl,rfl⟩
     · exact zR @p9
   · have e1:lB l i=0:=by simp [lB,e,ea,hz]
     have e2:cN l i=if l[i].sends.length=1∧l[i].m.kind=3 then l.eraseIdx i else l.set i { l[i] with sends:=l[i].sends.drop 1}:=by simp [cN,e1,ea]
     rw [e1,e2]
     refine FnF.mk' Tryz.func151 rfl rfl Tryz.ntmps151 rfl ?_
     repeat first|refine go ?_|intro _|refine aD @hH ?_
     (first|refine aX (a6f b room l) ?_|refine aY (a6f b room l) ?_|refine aZ (a6f b room l) ?_)
     refine wV fun p c ps hf=>?_
     obtain ⟨rfl,h1,h2,h3,hcp⟩:=hf
     have hi':i<ps.length:=by simpa using hi
     rw [List.getElem_map] at hz ⊢
     have hcx:=h3 _ (List.getElem_mem hi')
     have hx:cut (.slice ps[i].2.1 ps[i].1.sends.length ps[i].2.2) (Int.toNat 1) ps[i].1.sends.length ps[i].1.sends.length 15= .slice (if ps[i].1.sends.length=1 then ps[i].2.1 else ps[i].2.1.map (·.add (1*15))) (ps[i].1.sends.drop 1).length (ps[i].1.sends.length-1):=by
       rw [List.length_drop];rfl
     have hsp:=b2y hi' (ps[i].1.sends.drop 1) (if ps[i].1.sends.length=1 then ps[i].2.1 else ps[i].2.1.map (·.add (1*15))) (ps[i].1.sends.length-1)
     have htl:=fun L M=>@d2o ps i hi' ((⟨ps[i].1.m,ps[i].1.st,ps[i].1.sends.drop 1⟩:QE),(if ps[i].1.sends.length=1 then ps[i].2.1 else ps[i].2.1.map (·.add (1*15)),ps[i].1.sends.length-1)) L M (om) hcx.1 rfl hx.symm
     (first|(refine fJ (.slice p ps.length c) inferInstance (om) ?_;intro _)|(refine fM (.slice p ps.length c) inferInstance (om) ?_;intro _))
     repeat first|refine gd ?_|intro _
     refine b6d (c6u rfl (Bnd.some rfl (om)) (b5h rfl) (b5h rfl) (fun h=>h) (om) (om) (om)) rfl ?_
     rw [hx]
     repeat first|refine gd ?_|intro _
     rw [hsp]
     generalize hX:(⟨ps[i].1.m,ps[i].1.st,ps[i].1.sends.drop 1⟩:QE)=X at htl ⊢
     generalize hY:((if ps[i].1.sends.length=1 then ps[i].2.1 else ps[i].2.1.map (·.add (1*15)),ps[i].1.sends.length-1):Option Addr×Nat)=Y at htl ⊢
     have hi2:i<(ps.set i (X,Y)).length:=by simpa using hi'
     have hk2:(ps.set i (X,Y))[i].1.m.kind=ps[i].1.m.kind:=by simp [←hX]
     have hln:(ps.set i (X,Y)).length=ps.length:=by simp
     have hc2:=b9t (i:=i) (x:=(X,Y)) h3 (by rw [←hX,←hY];simp;omega)
     by_cases hd:ps[i].1.sends.length=1∧ps[i].1.m.kind=3
     · obtain ⟨hd1,hd2⟩:=hd
       have hk3:(ps.set i (X,Y))[i].1.m.kind=3:=by rw [hk2];exact hd2
       rw [if_pos (show ps[i].1.sends.length=1∧ps[i].1.m.kind=3 from ⟨hd1,hd2⟩)]
       repeat first|refine gd ?_|intro _
       refine aD (@a0s (i:=i) (j:=i+1)) ?_
       repeat first|refine gd ?_|intro _
       (apply aA rfl rfl bH)
       · exact ⟨rfl,rfl⟩
       · apply p9 (ps:=(ps.set i (X,Y)).eraseIdx i)
         · rw [List.eraseIdx_set_eq]
           exact zR @c5z
         · rw [List.eraseIdx_set_eq,b2z]
         · rw [List.length_eraseIdx,hln];split<;>omega
         · rw [iU (enc:=qc) (n:=17) (fun _=>rfl),fV (enc:=qc) (n:=17) (fun _=>rfl)]
           simp [List.eraseIdx_eq_take_drop_succ]
         · rw [List.length_eraseIdx,hln];split<;>omega
         · exact h2
         · exact fun p hp=>hc2 p (List.mem_of_mem_eraseIdx hp)
     · rw [if_neg hd]
       have hend:∀ {L M:List HP} {p:Option Addr} {c:Nat},Ent L (Cells b 189 [.int .i64 room,.slice p ps.length c]::Own 191 17 (.slice p ps.length c) ps.length (aC qc (ps.set i (X,Y)))::All ((ps.set i (X,Y)).map b7u)::M)→Ent L (a6f b room ((ps.map (·.1)).set i X)::M):=fun h=>
         p9 (ps:=ps.set i (X,Y)) h (by rw [b9s]) (by rw [hln]) rfl (by rw [hln];exact h1) h2 hc2
       by_cases hd1:ps[i].1.sends.length=1
       · have hk3:(ps.set i (X,Y))[i].1.m.kind≠3:=by rw [hk2];exact fun h=>hd ⟨hd1,h⟩
         repeat first|refine gd ?_|intro _
         (apply aA rfl rfl bH)
         · exact ⟨rfl,rfl⟩
         · ((repeat (first|(with_reducible exact Ent.refl)|exact Ent.nil|(apply iS;exact f1n)|(apply hend)|(apply htl)|apply Ent.drop));all_goals exact mZ)
       · repeat first|refine gd ?_|intro _
         (apply aA rfl rfl bH)
         · exact ⟨rfl,rfl⟩
         · ((repeat (first|(with_reducible exact Ent.refl)|exact Ent.nil|(apply iS;exact f1n)|(apply hend)|(apply htl)|apply Ent.drop));all_goals exact mZ)
theorem c9m {α β:Type} (f:α→β) (p:β→Bool) (l:List α):bA p (l.map f)=bA (fun x=>p (f x)) l:=by
  unfold bA
  rw [List.findIdx?_map]
  rfl
theorem c2i {F:List HP} {b1 b2:Nat} {line src:Int} {T1 T2:TypeId} {C1 C2:List Value→List HP} {e:QP} (k1:CellsAt b1 F T1 [.int .i64 line] C1) (k2:CellsAt b2 F T2 [.int .i64 src] C2) :
    FnF Tryz.prog 189 [qv e,.pointer (some ⟨b1,0,none⟩),.pointer (some ⟨b2,0,none⟩)] [] F (fun r L'=>r= .bool (lQ line src e.1)∧L'=[]):=by
  refine FnF.mk' Tryz.func189 rfl rfl Tryz.ntmps189 rfl ?_
  cases h1:e.1.st with
  |false=>
   repeat first|refine gd ?_|intro _
   (apply aA rfl rfl bH;(first|exact oO|exact ⟨by simp [lQ,h1]<;>omega,rfl⟩);exact jM)
  |true=>
   by_cases h2:e.1.m.line=line
   · by_cases h3:e.1.m.src=src
     · by_cases h4:e.1.m.kind=3
       · repeat first|refine gd ?_|intro _
         (apply aA rfl rfl bH;(first|exact oO|exact ⟨by simp [lQ,h1,h2,h3,h4]<;>omega,rfl⟩);exact jM)
       · repeat first|refine gd ?_|intro _
         (apply aA rfl rfl bH;(first|exact oO|exact ⟨by simp [lQ,h1,h2,h3,h4]<;>omega,rfl⟩);exact jM)
     · repeat first|refine gd ?_|intro _
       (apply aA rfl rfl bH;(first|exact oO|exact ⟨by simp [lQ,h1,h2,h3]<;>omega,rfl⟩);exact jM)
   · repeat first|refine gd ?_|intro _
     (apply aA rfl rfl bH;(first|exact oO|exact ⟨by simp [lQ,h1,h2]<;>omega,rfl⟩);exact jM)
theorem c6h {F:List HP} {b1 b2:Nat} {line src:Int} {T1 T2:TypeId} {C1 C2:List Value→List HP} {v:Value} {l:List QP} (k1:CellsAt b1 F T1 [.int .i64 line] C1) (k2:CellsAt b2 F T2 [.int .i64 src] C2) (k:RdL F 17 v l.length (aC qc l)) (hn:l.length≤1099511627776) :
    FnF Tryz.prog 188 [v,.func (.func 189) [].toArray [.pointer (some ⟨b1,0,none⟩),.pointer (some ⟨b2,0,none⟩)].toArray] [] F (fun r L'=>r= .int .i64 (bA (lQ line src) (l.map (·.1)))∧L'=[]):=by
  rw [c9m]
  exact uD (first:=[]) (p:=fun e=>lQ line src e.1) k hn (fun x _=>c2i k1 k2)
theorem b3a {F:List HP} {b:Nat} {room:Int} {l:List QE} {line src:Int}:FnF Tryz.prog 144 [.pointer (some ⟨b,0,none⟩),.int .i64 line,.int .i64 src] [a6f b room l] F (fun r L'=>r= .int .i64 (a6t l line src)∧L'=[a6f b room (r8 l line src)]):=by
  refine FnF.mk' Tryz.func144 rfl rfl Tryz.ntmps144 rfl ?_
  refine yE fun p c ps hf=>?_
  obtain ⟨rfl,h1,h2,h3,hcp⟩:=hf
  by_cases h:bA (lQ line src) (ps.map (·.1))<0
  · have e1:a6t (ps.map (·.1)) line src=7:=by simp [a6t,h]
    have e2:r8 (ps.map (·.1)) line src=ps.map (·.1):=by simp [r8,h]
    rw [e1,e2]
    repeat first|refine gd ?_|intro _|refine aD @c6h ?_
    (apply aA rfl rfl bH)
    · exact ⟨rfl,rfl⟩
    · exact zR @p9
  · have e1:a6t (ps.map (·.1)) line src=0:=by simp [a6t,h]
    have e2:r8 (ps.map (·.1)) line src=(ps.map (·.1)).eraseIdx (bA (lQ line src) (ps.map (·.1))).toNat:=by simp [r8,h]
    rw [e1,e2]
    obtain ⟨i,hi,g1,g2,g3⟩:=cR (p:=lQ line src) (l:=ps.map (·.1)) (om)
    have hi':i<ps.length:=by simpa using hi
    have hI:=fun F b1 b2 v T1 T2 C1 C2=>c6h (F:=F) (b1:=b1) (b2:=b2) (v:=v) (T1:=T1) (T2:=T2) (C1:=C1) (C2:=C2) (line:=line) (src:=src) (l:=ps)
    simp only [g1] at hI
    rw [g1]
    repeat first|refine gd ?_|intro _|refine aD @hI ?_
    refine aD (@a0s (i:=i) (j:=i+1)) ?_
    repeat first|refine gd ?_|intro _
    (apply aA rfl rfl bH)
    · exact ⟨rfl,rfl⟩
    · apply p9 (ps:=ps.eraseIdx i)
      · exact zR @c5z
      · rw [b2z];simp
      · rw [List.length_eraseIdx];split<;>omega
      · rw [iU (enc:=qc) (n:=17) (fun _=>rfl),fV (enc:=qc) (n:=17) (fun _=>rfl)]
        simp [List.eraseIdx_eq_take_drop_succ]
      · rw [List.length_eraseIdx];split<;>omega
      · exact h2
      · exact fun p hp=>h3 p (List.mem_of_mem_eraseIdx hp)
end
section
def f5g (e:TypeId) (v:Value) (l:List QE):HP:=Ex fun qs:List QP=>[Own e 17 v qs.length (aC qc qs),All (qs.map b7u),Fact (qs.map (·.1)=l)]
section
variable {e:TypeId} {v:Value} {l:List QE}
theorem f2a {qs:List QP} {n:Nat} {xs:List Value} {L M:List HP} (h:Ent L (Own e 17 v n xs::All (qs.map b7u)::M)) (hl:qs.map (·.1)=l) (hn:n=qs.length) (hx:xs=aC qc qs):Ent L (f5g e v l::M):=by
  subst hn hx
  refine Ent.trans h (Ent.trans ?_ (kW (p:=fun qs:List QP=>[Own e 17 v qs.length (aC qc qs),All (qs.map b7u),Fact (qs.map (·.1)=l)]) qs))
  exact Ent.cons (Ent.cons (dS hl))
variable {P:Program} {N:Nat} {env:Env} {L:List HP} {Q:Exit→Act→World→Prop}
end
theorem d3g {qs:List QP} {x:QP} {T:TypeId} {L M:List HP} (h:Ent L (Own T 15 (.slice x.2.1 x.1.sends.length x.2.2) x.1.sends.length (aC mc x.1.sends)::All (qs.map b7u)::M)):Ent L (All ((qs++[x]).map b7u)::M):=
  Ent.trans h (Ent.trans b5d (a2h (f:=b7u) x))
attribute [local irreducible] Exit.then Exit.inBlock Code.wp WC WO WE WQ V bT vL fP cY eI v8 IntKind.wrap WR Code.rounds WT KO
theorem b3b {F:List HP} {p:QP} (k:RdL F 15 (.slice p.2.1 p.1.sends.length p.2.2) p.1.sends.length (aC mc p.1.sends)) (hn:p.1.sends.length≤1099511627776) :
    FnF Tryz.prog 119 [qv p] [] F (fun r L'=>∃ a c,r=qv (p.1,(a,c))∧L'=[Own 99 15 (.slice a p.1.sends.length c) p.1.sends.length (aC mc p.1.sends)]):=by
  refine FnF.mk' Tryz.func119 rfl rfl Tryz.ntmps119 rfl ?_
  repeat first|refine gd ?_|intro _|refine aD @tM ?_
  rename_i a' c'
  (apply aA rfl rfl bH)
  · exact ⟨a',c',rfl,rfl⟩
  · exact aB
theorem d7x {F:List HP} {b:Nat} {room:Int} {l:List QE} {n:Int} (h:a9o l n=true) (hn:(a3x l n).sends.length≤1099511627776):FnF Tryz.prog 146 [.pointer (some ⟨b,0,none⟩),.int .i64 n] [a6f b room l] F
    (fun r L'=>∃ a c,r= .tuple [qv (a3x l n,(a,c)),.bool true].toArray∧L'=[Own 99 15 (.slice a (a3x l n).sends.length c) (a3x l n).sends.length (aC mc (a3x l n).sends),a6f b room l]):=by
  have hH:=fun F=>a5o (F:=F) (b:=b) (room:=room) (l:=l) (n:=n)
  rw [h] at hH
  obtain ⟨i,hi,rfl,ea⟩:=a5l h
  rw [ea] at hn ⊢
  refine FnF.mk' Tryz.func146 rfl rfl Tryz.ntmps146 rfl ?_
  repeat first|refine go ?_|intro _|refine aD @hH ?_
  (first|refine aX (a6f b room l) ?_|refine aY (a6f b room l) ?_|refine aZ (a6f b room l) ?_)
  refine wV fun p c ps hf=>?_
  obtain ⟨rfl,h1,h2,h3,hcp⟩:=hf
  have hi':i<ps.length:=by simpa using hi
  rw [List.getElem_map] at hn ⊢
  haveI kr:=fun L=>c4x (ps:=ps) (p:=ps[i]) (List.getElem_mem hi') (L:=L)
  have hb:=(h3 _ (List.getElem_mem hi')).2
  repeat first|refine gd ?_|intro _|refine aD @b3b ?_
  (apply aA rfl rfl bH)
  · exact ⟨_,_,rfl,rfl⟩
  · exact zR @p9
theorem c9n {F:List HP} {b:Nat} {room:Int} {l:List QE} {n:Int} (h:a9o l n=false):FnF Tryz.prog 146 [.pointer (some ⟨b,0,none⟩),.int .i64 n] [a6f b room l] F
    (fun r L'=>r= .tuple [qv ((⟨.zero,false,[]⟩:QE),(none,0)),.bool false].toArray∧L'=[a6f b room l]):=by
  have hH:=fun F=>a5o (F:=F) (b:=b) (room:=room) (l:=l) (n:=n)
  rw [h] at hH
  refine FnF.mk' Tryz.func146 rfl rfl Tryz.ntmps146 rfl ?_
  repeat first|refine gd ?_|intro _|refine aD @hH ?_
  exact bF
theorem e1m {F:List HP} {b:Nat} {room:Int} {l:List QE}:FnF Tryz.prog 60 [.pointer (some ⟨b,0,none⟩)] [a6f b room l] F (fun r L'=>∃ p c,r= .slice p l.length c∧L'=[f5g 191 (.slice p l.length c) l,a6f b room l]):=by
  refine FnF.mk' Tryz.func60 rfl rfl Tryz.ntmps60 rfl ?_
  refine yE fun p c ps hf=>?_
  obtain ⟨rfl,h1,h2,h3,hcp⟩:=hf
  repeat first|refine gd ?_|intro _
  apply aW (E0:=[(9,_),(10,_)]) (fun E0 (q:Nat×Option Addr×Nat×List QP)=>(11,.int .i64 q.1)::(3,.slice q.2.1 q.2.2.2.length q.2.2.1)::E0)
    (fun q=>Own 191 17 (.slice q.2.1 q.2.2.2.length q.2.2.1) q.2.2.2.length (aC qc q.2.2.2)::All (q.2.2.2.map b7u)::Cells b 189 [.int .i64 room,.slice p ps.length c]::Own 191 17 (.slice p ps.length c) ps.length (aC qc ps)::All (ps.map b7u)::F)
    (fun q=>q.1≤ps.length∧q.2.2.2.map (·.1)=(ps.take q.1).map (·.1)) (fun q=>ps.length-q.1) (0,none,0,[])
  · exact m9
  · exact ⟨Nat.zero_le _,by simp⟩
  · refine Ent.trans ?_ (aO yD)
    exact aB
  · rintro ⟨i,p',c',qs⟩ ⟨hi,hqs⟩
    dsimp only at hi hqs ⊢
    have hlq:qs.length=min i ps.length:=by have:=congrArg List.length hqs;simpa using this
    by_cases hlt:i<ps.length
    · haveI kr:=fun L=>c4x (ps:=ps) (p:=ps[i]) (List.getElem_mem hlt) (L:=L)
      have hb:=(h3 _ (List.getElem_mem hlt)).2
      repeat first|refine gd ?_|intro _|refine aD @b3b ?_
      rename_i b1 a1 c1 b2 p2 c2
      refine aT (i+1,p2,c2,qs++[(ps[i].1,(a1,c1))]) (by dsimp only;omega) ⟨by dsimp only;omega,?_⟩ ?_ ?_
      · dsimp only;rw [List.map_append,hqs,List.map_take,List.map_take,List.take_add_one];simp [hlt]
      · dsimp only;rw [List.length_append,List.length_singleton];exact m9
      · dsimp only;rw [List.length_append,List.length_singleton,bJ,dW]
        exact zR @d3g
    · have hil:i=ps.length:=by omega
      subst hil
      rw [List.take_length] at hqs
      have hlq:qs.length=ps.length:=by have:=congrArg List.length hqs;simpa using this
      repeat first|refine gd ?_|intro _
      (apply aA rfl rfl bH)
      · exact ⟨p',c',by rw [List.length_map,hlq];rfl,rfl⟩
      · rw [List.length_map,←hlq]
        ((repeat (first|(with_reducible exact Ent.refl)|exact Ent.nil|(apply iS;exact f1n)|(apply f2a)|(apply p9)|apply Ent.drop));all_goals exact mZ)
end
section
structure HomS where
  es:List (Int×TEnt)
  ms:List Int
  q:List QE
  odd:Int
abbrev c5b:=TEnt×Option Addr×Nat
abbrev f5h (x:c5b):Value:= .slice x.2.1 x.1.s.ps.length x.2.2
abbrev f4f (x:c5b):Value:= .agg (f4a x.1 x.2.1 x.2.2).toArray
abbrev f3t (x:c5b):HP:=Rds 1 (f5h x) x.1.s.ps.length (aC ic x.1.s.ps)
abbrev b9v (ps:List (Int×c5b)):List HP:=ps.map fun p=>f3t p.2
abbrev c4t (ps:List (Int×c5b)):List (Int×TEnt):=ps.map fun p=>(p.1,p.2.1)
abbrev hz:c5b:=(.no,none,0)
theorem c6i (ps:List (Int×c5b)) (k:Int):iE (c4t ps) k=(iE ps k).map (·.1):=by
  induction ps with
  |nil=>rfl
  |cons p r ih=>
   show iE ((p.1,p.2.1)::c4t r) k=_
   rw [iR,iR,ih]
   split<;>rfl
theorem qR (ps:List (Int×c5b)) (k:Int) (x:c5b):c4t (lS ps k x)=lS (c4t ps) k x.1:=by
  induction ps with
  |nil=>rfl
  |cons p r ih=>
   show c4t (if p.1=k then (k,x)::r else p::lS r k x)=if p.1=k then (k,x.1)::c4t r else (p.1,p.2.1)::lS (c4t r) k x.1
   split
   · rfl
   · show (p.1,p.2.1)::c4t (lS r k x)=_
     rw [ih]
theorem b9w {L:List HP} (ps:List (Int×c5b)) (k:Int) (x:c5b):Ent (f3t x::All (b9v ps)::L) (All (b9v (lS ps k x))::L):=by
  have h:∀ ps:List (Int×c5b),Ent (f3t x::(b9v ps++L)) (b9v (lS ps k x)++L):=by
    intro ps
    induction ps with
    |nil=>exact Ent.refl
    |cons p r ih=>
     show Ent (f3t x::f3t p.2::(b9v r++L)) (b9v (if p.1=k then (k,x)::r else p::lS r k x)++L)
     split
     · exact Ent.cons (Ent.drop Ent.refl)
     · exact Ent.trans (iA (List.Perm.swap _ _ _)) (Ent.cons ih)
  exact Ent.trans (Ent.cons kU) (Ent.trans (h ps) iQ)
theorem c6j {L M:List HP} {T:TypeId} {ps:List (Int×c5b)} {k:Int} {x:c5b} (h:Ent L (Own T 1 (f5h x) x.1.s.ps.length (aC ic x.1.s.ps)::All (b9v ps)::M)):Ent L (All (b9v (lS ps k x))::M):=
  Ent.trans h (Ent.trans b5d (b9w ps k x))
theorem e8c {L:List HP} (ps:List (Int×c5b)) (k:Int):RdL (All (b9v ps)::L) 1 (f5h ((iE ps k).getD hz)) ((iE ps k).getD hz).1.s.ps.length (aC ic ((iE ps k).getD hz).1.s.ps):=by
  cases e:iE ps k with
  |none=>exact qS
  |some x=>
   obtain ⟨i,hi,h⟩:=List.getElem_of_mem (d3p e)
   have hx:ps[i].2=x:=by rw [h]
   have k:RdL (f3t ps[i].2::All ((ps.eraseIdx i).map fun p=>f3t p.2)::L) 1 (f5h ps[i].2) ps[i].2.1.s.ps.length (aC ic ps[i].2.1.s.ps):=RdL.rds
   have e:=wR (f:=fun p:Int×c5b=>f3t p.2) (L:=L) i hi
   rw [hx] at k
   rw [hx] at e
   exact ⟨fun w h=>k.len w (e.sat (by simpa using h)),fun w h=>k.ones w (e.sat (by simpa using h)),fun w h=>k.pf w (e.sat (by simpa using h))⟩
abbrev f1r (c:Cfg) (num:Int) (bm be bq:Nat) (odd:Int):List Value:=[.int .i64 c.cores,.int .i64 c.homes,.int .i64 c.sets,.int .i64 c.ways,.int .i64 c.words,.int .i64 c.lines,.int .i64 c.pointers,.int .i64 c.mshrs,.int .i64 c.buffer,.int .i64 c.writebacks,.int .i64 c.r0,.int .i64 c.r1,.int .i64 c.r2,.int .i64 num,.map (some bm),.pointer (some ⟨be,0,none⟩),.pointer (some ⟨bq,0,none⟩),.int .i64 odd]
def jD (b:Nat) (c:Cfg) (num:Int) (s:HomS):HP:=Ex fun x:(Nat×Nat×Nat)×List (Int×c5b)=>[Cells b 110 (f1r c num x.1.1 x.1.2.1 x.1.2.2 s.odd),MapAt x.1.1 f4f x.2,All (b9v x.2),zN x.1.2.1 c s.ms,f1q 189 191 x.1.2.2 c.buffer s.q,Fact (c4t x.2=s.es)]
theorem nJ {b bm be bq:Nat} {c:Cfg} {num odd:Int} {ps:List (Int×c5b)} {es:List (Int×TEnt)} {ms:List Int} {q:List QE} {L M:List HP}
    (h:Ent L (Cells b 110 (f1r c num bm be bq odd)::MapAt bm f4f ps::All (b9v ps)::zN be c ms::f1q 189 191 bq c.buffer q::M)) (he:c4t ps=es):Ent L (jD b c num ⟨es,ms,q,odd⟩::M):=by
  refine Ent.trans h (Ent.trans ?_ (kW (p:=fun x:(Nat×Nat×Nat)×List (Int×c5b)=>[Cells b 110 (f1r c num x.1.1 x.1.2.1 x.1.2.2 odd),MapAt x.1.1 f4f x.2,All (b9v x.2),zN x.1.2.1 c ms,f1q 189 191 x.1.2.2 c.buffer q,Fact (c4t x.2=es)]) ((bm,be,bq),ps)))
  exact Ent.cons (Ent.cons (Ent.cons (Ent.cons (Ent.cons (dS he)))))
theorem d7y {b:Nat} {c:Cfg} {num:Int} {s:HomS} {L:List HP} {w:World} (h:fP (jD b c num s::L) w):∃ bm be bq,∃ ps:List (Int×c5b),c4t ps=s.es∧
    fP (Cells b 110 (f1r c num bm be bq s.odd)::MapAt bm f4f ps::All (b9v ps)::zN be c s.ms::f1q 189 191 bq c.buffer s.q::L) w:=by
  obtain ⟨⟨⟨bm,be,bq⟩,ps⟩,hx⟩:=kD h
  simp only [pO] at hx
  exact ⟨bm,be,bq,ps,jK (aU (aU (aU (aU (aU hx))))),(Ent.cons (Ent.cons (Ent.cons (Ent.cons (Ent.cons (Ent.drop Ent.refl)))))) _ hx⟩
section
variable {b:Nat} {c:Cfg} {num:Int} {s:HomS} {P:Program} {N:Nat} {env:Env} {L:List HP} {Q:Exit→Act→World→Prop}
theorem j0 {co:Code} (h:∀ bm be bq,∀ ps:List (Int×c5b),c4t ps=s.es→WC P N co env (Cells b 110 (f1r c num bm be bq s.odd)::MapAt bm f4f ps::All (b9v ps)::zN be c s.ms::f1q 189 191 bq c.buffer s.q::L) Q):WC P N co env (jD b c num s::L) Q:=by
  intro a w ha hw
  obtain ⟨bm,be,bq,ps,he,hx⟩:=d7y hw
  exact h bm be bq ps he a w ha hx
end
def lR (c:Cfg) (num:Int) (m:Msg) (net:Int):Bool:=decide (fG c m)&& decide (c6 m.kind=net)&& decide (cK m.kind)&& decide (m.dst=num)
def lC (c:Cfg) (num:Int) (s:HomS) (m:Msg):Int:=if lR c num m 0 then xN c.buffer s.q m else 1
def iZ (c:Cfg) (num:Int) (s:HomS) (m:Msg):HomS:=if lR c num m 0 then { s with q:=r7 c.buffer s.q m} else s
def iK (c:Cfg) (num:Int) (s:HomS) (m:Msg):Int:=if lR c num m 2 then a6t s.q m.line m.src else 1
def fI (c:Cfg) (num:Int) (s:HomS) (m:Msg):HomS:=if lR c num m 2 then { s with q:=r8 s.q m.line m.src} else s
def aR (s:HomS) (line:Int):TEnt:=(iE s.es line).getD .no
def a1j (s:HomS) (line:Int):Bool:=(iE s.es line).isSome
def sX (c:Cfg) (s:HomS) (line:Int):Words:=if a1j s line then aJ c s.ms line else .zero
attribute [local irreducible] Exit.then Exit.inBlock Code.wp WC WO WE WQ V bT vL fP cY eI v8 IntKind.wrap WR Code.rounds WT KO
instance:MapT Tryz.prog 106 f4f hz:=⟨_,_,_,_,_,Tryz.underlying106,Tryz.underlying3,TZ.pf⟩
theorem c6k {F:List HP} {b:Nat} {c:Cfg} {num:Int} {s:HomS} {m:Msg} {net:Int} (hc:c.wf):FnF Tryz.prog 140 [.pointer (some ⟨b,0,none⟩),mv m,.int .i64 net] [jD b c num s] F (fun r L'=>r= .bool (lR c num m net)∧L'=[jD b c num s]):=by
  have hM:=fun F=>b5s (F:=F) (c:=c) (m:=m) hc
  have hH:=fun F=>a1h (F:=F) (k:=m.kind)
  obtain ⟨es,ms,q,odd⟩:=s
  refine FnF.mk' Tryz.func140 rfl rfl Tryz.ntmps140 rfl ?_
  refine j0 fun bm be bq ps he=>?_
  by_cases h1:fG c m
  · simp only [decide_eq_true h1] at hM
    by_cases h2:c6 m.kind=net
    · by_cases h3:cK m.kind
      · simp only [decide_eq_true h3] at hH
        repeat first|refine gd ?_|intro _|refine aD @hM ?_|refine aD @rP ?_|refine aD @hH ?_
        (apply aA rfl rfl bH)
        · exact ⟨by simp [lR,h1,h2,h3],rfl⟩
        · exact zR @nJ
      · simp only [decide_eq_false h3] at hH
        repeat first|refine gd ?_|intro _|refine aD @hM ?_|refine aD @rP ?_|refine aD @hH ?_
        (apply aA rfl rfl bH)
        · exact ⟨by simp [lR,h1,h2,h3],rfl⟩
        · exact zR @nJ
    · repeat first|refine gd ?_|intro _|refine aD @hM ?_|refine aD @rP ?_|refine aD @hH ?_
      (apply aA rfl rfl bH)
      · exact ⟨by simp [lR,h1,h2],rfl⟩
      · exact zR @nJ
  · simp only [decide_eq_false h1] at hM
    repeat first|refine gd ?_|intro _|refine aD @hM ?_|refine aD @rP ?_|refine aD @hH ?_
    (apply aA rfl rfl bH)
    · exact ⟨by simp [lR,h1],rfl⟩
    · exact zR @nJ
end
section
attribute [local irreducible] Exit.then Exit.inBlock Code.wp WC WO WE WQ V bT vL fP cY eI v8 IntKind.wrap WR Code.rounds WT KO
theorem a4c {Q P:Prop} (k:Q) (h:Hid Q→P:=by
  intro k
  first
  |(refine aI ?_;refine uU (id:=3) .true (pl:= .p 0 <| .p 1 <| .p 2 <| .r 3 <| .r 4 <| .e true [(5,.p 6 <| .done)]) k.out)):P:=h ⟨k⟩
theorem c9o {F:List HP} {b:Nat} {c:Cfg} {num:Int} {s:HomS} {m:Msg} (hc:c.wf):FnF Tryz.prog 100 [.pointer (some ⟨b,0,none⟩),mv m] [jD b c num s] F (fun r L'=>r= .int .i64 (lC c num s m)∧L'=[jD b c num (iZ c num s m)]):=by
  have hM:=fun F=>c6k (F:=F) (b:=b) (num:=num) (s:=s) (m:=m) (net:=0) hc
  cases e:lR c num m 0 with
  |true=>
   simp only [e] at hM
   have e1:lC c num s m=xN c.buffer s.q m:=by simp [lC,e]
   have e2:iZ c num s m=⟨s.es,s.ms,r7 c.buffer s.q m,s.odd⟩:=by simp [iZ,e]
   rw [e1,e2]
   refine FnF.mk' Tryz.func100 rfl rfl Tryz.ntmps100 rfl ?_
   repeat first|refine go ?_|intro _|refine aD @hM ?_
   (first|refine aX (jD b c num s) ?_|refine aY (jD b c num s) ?_|refine aZ (jD b c num s) ?_)
   refine j0 fun bm be bq ps he=>?_
   repeat first|refine go ?_|intro _|refine a4c ?_|refine dM ?_|refine aD @e8b ?_
   (apply aA rfl rfl bH)
   · exact ⟨rfl,rfl⟩
   · exact zR @nJ
  |false=>
   simp only [e] at hM
   have e1:lC c num s m=1:=by simp [lC,e]
   have e2:iZ c num s m=s:=by simp [iZ,e]
   rw [e1,e2]
   refine FnF.mk' Tryz.func100 rfl rfl Tryz.ntmps100 rfl ?_
   repeat first|refine go ?_|intro _|refine a4c ?_|refine dM ?_|refine aD @hM ?_
   exact bF
theorem a4d {Q P:Prop} (k:Q) (h:Hid Q→P:=by
  intro k
  first
  |(refine aI ?_;refine uU (id:=3) .true (pl:= .p 0 <| .p 1 <| .p 2 <| .p 4 <| .p 6 <| .r 3 <| .r 5 <| .r 7 <| .e true [(8,.p 9 <| .done)]) k.out)):P:=h ⟨k⟩
theorem e1n {F:List HP} {b:Nat} {c:Cfg} {num:Int} {s:HomS} {m:Msg} (hc:c.wf):FnF Tryz.prog 103 [.pointer (some ⟨b,0,none⟩),mv m] [jD b c num s] F (fun r L'=>r= .int .i64 (iK c num s m)∧L'=[jD b c num (fI c num s m)]):=by
  have hM:=fun F=>c6k (F:=F) (b:=b) (num:=num) (s:=s) (m:=m) (net:=2) hc
  cases e:lR c num m 2 with
  |true=>
   simp only [e] at hM
   have e1:iK c num s m=a6t s.q m.line m.src:=by simp [iK,e]
   have e2:fI c num s m=⟨s.es,s.ms,r8 s.q m.line m.src,s.odd⟩:=by simp [fI,e]
   rw [e1,e2]
   refine FnF.mk' Tryz.func103 rfl rfl Tryz.ntmps103 rfl ?_
   repeat first|refine go ?_|intro _|refine aD @hM ?_
   (first|refine aX (jD b c num s) ?_|refine aY (jD b c num s) ?_|refine aZ (jD b c num s) ?_)
   refine j0 fun bm be bq ps he=>?_
   repeat first|refine go ?_|intro _|refine a4d ?_|refine dM ?_|refine aD @b3a ?_
   (apply aA rfl rfl bH)
   · exact ⟨rfl,rfl⟩
   · exact zR @nJ
  |false=>
   simp only [e] at hM
   have e1:iK c num s m=1:=by simp [iK,e]
   have e2:fI c num s m=s:=by simp [fI,e]
   rw [e1,e2]
   refine FnF.mk' Tryz.func103 rfl rfl Tryz.ntmps103 rfl ?_
   repeat first|refine go ?_|intro _|refine a4d ?_|refine dM ?_|refine aD @hM ?_
   exact bF
theorem e8d {F:List HP} {b:Nat} {c:Cfg} {num:Int} {s:HomS}:FnF Tryz.prog 54 [.pointer (some ⟨b,0,none⟩)] [jD b c num s] F (fun r L'=>r= .int .i64 s.odd∧L'=[jD b c num s]):=by
  obtain ⟨es,ms,q,odd⟩:=s
  refine FnF.mk' Tryz.func54 rfl rfl Tryz.ntmps54 rfl ?_
  refine j0 fun bm be bq ps he=>?_
  repeat first|refine gd ?_|intro _
  (apply aA rfl rfl bH)
  · exact ⟨rfl,rfl⟩
  · exact zR @nJ
theorem d3h {F:List HP} {b:Nat} {c:Cfg} {num:Int} {s:HomS}:FnF Tryz.prog 28 [.pointer (some ⟨b,0,none⟩)] [jD b c num s] F (fun r L'=>∃ p k,r= .slice p s.q.length k∧L'=[f5g 191 (.slice p s.q.length k) s.q,jD b c num s]):=by
  obtain ⟨es,ms,q,odd⟩:=s
  refine FnF.mk' Tryz.func28 rfl rfl Tryz.ntmps28 rfl ?_
  refine j0 fun bm be bq ps he=>?_
  repeat first|refine gd ?_|intro _|refine aD @e1m ?_
  (apply aA rfl rfl bH)
  · exact ⟨_,_,rfl,rfl⟩
  · exact zR @nJ
theorem e1o {F:List HP} {b:Nat} {c:Cfg} {num:Int} {s:HomS} {line:Int} (hc:c.wf) (hl:nA line):FnF Tryz.prog 67 [.pointer (some ⟨b,0,none⟩),.int .i64 line] [jD b c num s] F (fun r L'=>r= .tuple [wv (sX c s line),.bool (a1j s line)].toArray∧L'=[jD b c num s]):=by
  obtain ⟨es,ms,q,odd⟩:=s
  have hL:=fun F b=>c1p (F:=F) (b:=b) (c:=c) (ms:=ms) hc hl
  refine FnF.mk' Tryz.func67 rfl rfl Tryz.ntmps67 rfl ?_
  refine j0 fun bm be bq ps he=>?_
  subst he
  have hg:=c6i ps line
  cases e:iE ps line with
  |none=>
   have e1:a1j ⟨c4t ps,ms,q,odd⟩ line=false:=by simp [a1j,hg,e]
   have e2:sX c ⟨c4t ps,ms,q,odd⟩ line= .zero:=by simp [sX,e1]
   repeat first|rintro _ _ ⟨rfl,rfl⟩|refine f4k fun _=>?_|intro _|refine go ?_
   simp only [e,Option.isSome_none]
   repeat first|refine gd ?_|intro _
   (apply aA rfl rfl bH)
   · exact ⟨by rw [e1,e2];rfl,rfl⟩
   · exact zR @nJ
  |some x=>
   have e1:a1j ⟨c4t ps,ms,q,odd⟩ line=true:=by simp [a1j,hg,e]
   have e2:sX c ⟨c4t ps,ms,q,odd⟩ line=aJ c ms line:=by simp [sX,e1]
   repeat first|rintro _ _ ⟨rfl,rfl⟩|refine f4k fun _=>?_|intro _|refine go ?_
   simp only [e,Option.isSome_some]
   repeat first|refine gd ?_|intro _|refine aD @hL ?_
   (apply aA rfl rfl bH)
   · exact ⟨by rw [e1,e2];rfl,rfl⟩
   · exact zR @nJ
theorem b8a {ps:List (Int×c5b)} {k:Int} {x:c5b} (e:iE ps k=some x) (L:List HP):RdL (All (b9v ps)::L) 1 (.slice x.2.1 x.1.s.ps.length x.2.2) x.1.s.ps.length (aC ic x.1.s.ps):=by
  have:=e8c (L:=L) ps k
  rw [e] at this
  exact this
end
section
def c2j (c:Cfg) (num k:Int):Prop:=0≤k∧k<c.lines∧k % c.homes=num
instance (c:Cfg) (num k:Int):Decidable (c2j c num k):=by unfold c2j;infer_instance
structure HmI (c:Cfg) (num:Int) (s:HomS):Prop where
  ok:aF c=true
  nm:0≤num∧num<c.homes
  own:∀ k,a1j s k=decide (c2j c num k)
  may:∀ k e,iE s.es k=some e→a6d e=true∧e.s.cores=c.cores∧e.s.most=c.pointers
  req:∀ x∈s.q,lR c num x.m 0=true
  snd:∀ x∈s.q,∀ y∈x.sends,(4≤y.kind∧y.kind≤10)∧y.line=x.m.line∧y.src=num
  len:(s.q.length:Int)≤c.buffer
theorem c6l {c:Cfg} (h:aF c=true):c.wf:=by
  simp only [aF,gI,Bool.and_eq_true,decide_eq_true_eq] at h
  unfold Cfg.wf nA
  omega
theorem a3d {c:Cfg} (h:aF c=true):1≤c.buffer∧c.buffer≤16:=by
  simp only [aF,gI,Bool.and_eq_true,decide_eq_true_eq] at h
  omega
theorem iD {c:Cfg} {num:Int} {m:Msg} (hc:aF c=true) (h:lR c num m 0=true):fG c m∧(1≤m.kind∧m.kind≤3)∧c2j c num m.line∧(0≤m.src∧m.src<c.cores)∧m.dst=num:=by
  simp only [lR,Bool.and_eq_true,decide_eq_true_eq] at h
  obtain ⟨⟨⟨h1,h2⟩,h3⟩,h4⟩:=h
  have hk:1≤m.kind∧m.kind≤3:=by
    unfold c6 at h2
    split at h2
    · assumption
    · split at h2
      · omega
      · split at h2<;>omega
  obtain ⟨g1,g2,g3,g4,g5⟩:=h1
  have hu:e6p c m:=by unfold jY at g4;rw [if_pos h3] at g4;exact g4
  obtain ⟨u1,u2,u3⟩:=hu
  have hh:=(gP hc).2.1
  refine ⟨⟨g1,g2,g3,g4,g5⟩,hk,⟨g3.1,g3.2,?_⟩,u1,h4⟩
  rw [←h4,u2]
  unfold r9
  rw [Int.tmod_eq_emod_of_nonneg g3.1]
theorem sH {c:Cfg} {num:Int} {s:HomS} (h:HmI c num s) {k:Int} (ho:c2j c num k):iE s.es k=some (aR s k)∧a6d (aR s k)=true∧(aR s k).s.cores=c.cores∧(aR s k).s.most=c.pointers:=by
  have h1:=h.own k
  rw [decide_eq_true ho] at h1
  unfold a1j at h1
  cases e:iE s.es k with
  |none=>rw [e] at h1;cases h1
  |some x=>
   have e2:aR s k=x:=by unfold aR;rw [e];rfl
   rw [e2]
   exact ⟨rfl,h.may k x e⟩
def a2k (s:HomS) (at':Int):Msg:=(a3x s.q at').m
def d7z (s:HomS) (at':Int):HomS:=⟨s.es,s.ms,s.q.eraseIdx at'.toNat,s.odd+1⟩
def i7 (c:Cfg) (s:HomS) (at':Int):HomS:=
  ⟨lS s.es (a2k s at').line (fY (aR s (a2k s at').line) (a2k s at')),if jB (aR s (a2k s at').line) (a2k s at') then d9u c s.ms (a2k s at').line (a2k s at').words else s.ms,
    cD s.q at' (cA (aR s (a2k s at').line) (a2k s at') (aJ c s.ms (a2k s at').line)),s.odd⟩
def kV (c:Cfg) (s:HomS) (at':Int):HomS:=if gC (aR s (a2k s at').line) (a2k s at')=0 then i7 c s at' else d7z s at'
abbrev L3:=Int×Int×Int
abbrev f6a (l:L3):List Value:=[.int .i64 l.1,.int .i64 l.2.1,.int .i64 l.2.2]
def e1p (l:L3) (n:Int):Int:=if n=0 then l.1 else if n=1 then l.2.1 else l.2.2
def gX (s:HomS) (at':Int) (l:L3):Bool:=jC s.q at'&& decide (0<e1p l (c6 (gK s.q at').kind))
def cE (c:Cfg) (s:HomS) (at':Int) (l:L3):HomS:=if eZ s.q at' then kV c s at' else if gX s at' l then { s with q:=cN s.q at'} else s
def fZ (s:HomS) (at':Int) (l:L3):Msg:=if eZ s.q at' then .zero else if gX s at' l then gK s.q at' else .zero
def e7 (s:HomS) (at':Int) (l:L3):Bool:=if eZ s.q at' then false else gX s at' l
def mT (s:HomS) (at':Int) (l:L3):Bool:=if eZ s.q at' then true else gX s at' l
theorem a4e {c:Cfg} {num:Int} {s:HomS} (h:HmI c num s) {m:Msg} (hm:lR c num m 0=true):(gC (aR s m.line) m=7∧m.kind=1∧(aR s m.line).o=m.src)∨gC (aR s m.line) m=0:=by
  obtain ⟨f1,f2,f3,f4,f5⟩:=iD h.ok hm
  obtain ⟨g1,g2,g3,_⟩:=sH h f3
  have hok:f1o (aR s m.line) m=true:=by
    simp only [f1o,g2,Bool.true_and,Bool.and_eq_true,decide_eq_true_eq]
    omega
  unfold gC
  rw [if_pos hok]
  by_cases k1:m.kind=1
  · rw [if_pos k1]
    split
    · exact .inl ⟨rfl,k1,by assumption⟩
    · exact .inr rfl
  · rw [if_neg k1]
    right
    split
    · rfl
    · rw [if_pos (om)]
theorem e1q {q:List QE} {n:Int} {m:Msg} (hr:eZ q n=true) (hm:(a3x q n).m=m) (hk:m.kind≠3):r8 (cN (cD q n [m]) n) m.line m.src=q.eraseIdx n.toNat:=by
  have hr0:=hr
  obtain ⟨i,hi,rfl,ea,hs,hf⟩:=xK hr
  have hin:a9o q (i:Int)=true:=by simp only [a9o,decide_eq_true_eq];omega
  have e1:cD q i [m]=q.set i { q[i] with st:=true,sends:=[m]}:=by simp [cD,lA,hin,hr0,ea]
  rw [e1]
  have hm':q[i].m=m:=by rw [←ea];exact hm
  generalize hx:({ q[i] with st:=true,sends:=[m]}:QE)=x
  have x1:x.m=m:=by rw [←hx];exact hm'
  have x2:x.st=true:=by rw [←hx]
  have x3:x.sends=[m]:=by rw [←hx]
  have hin2:a9o (q.set i x) (i:Int)=true:=by simp only [a9o,decide_eq_true_eq,List.length_set];omega
  have ea2:a3x (q.set i x) i=x:=by simp [a3x,hin2,hi]
  have e2:cN (q.set i x) i=q.set i { x with sends:=[]}:=by
    simp [cN,lB,hin2,ea2,x3,x1,hk]
  rw [e2]
  generalize hy:({ x with sends:=[]}:QE)=y
  have y1:y.m=m:=by rw [←hy];exact x1
  have y2:y.st=true:=by rw [←hy];exact x2
  have y3:y.sends=[]:=by rw [←hy]
  have hix:bA (lQ m.line m.src) (q.set i y)=i:=by
    refine kG (by simpa using hi) ?_ ?_
    · intro j hj hji
      have hj':j<q.length:=by simpa using hj
      rw [List.getElem_set_ne (om)]
      have:=hf j hj' hji
      rw [hm'] at this
      simp [lQ,this]
    · simp [lQ,y1,y2,y3,hk]
  unfold r8
  rw [hix,if_neg (om),Int.toNat_natCast,List.eraseIdx_set_eq]
end
section
def e1r (c:Cfg) (k:CaS):Prop:=(∀ w∈k.ways,bX c w.words)∧(∀ m∈k.mis,bX c m.words)∧(∀ e∈k.buf,bX c e.words)
section
variable {c:Cfg} {k:CaS}
theorem eR (c:Cfg):bX c .zero:=fun i hi=>by
  have:Words.zero.at i=0:=by
    rcases i with _|_|_|_|_|_|_|_|i
    all_goals first|rfl|omega
  unfold uW
  rw [this]
  omega
theorem a0z {l:List Way} {line:Int} (h:∀ w∈l,bX c w.words):bX c (aP c l line).words:=b4a (P:=fun w=>bX c w.words) h (eR c)
theorem c2k {l:List Way} {line st:Int} {u:Words} (h:∀ w∈l,bX c w.words) (hw:bX c u):∀ w∈fD c l line st u,bX c w.words:=by
  unfold fD
  split
  · refine gO (P:=fun w:Way=>bX c w.words) h ?_
    dsimp only
    split
    · exact eR c
    · exact hw
  · exact h
theorem d8a {l:List Way} {line:Int} {lk:Bool} (h:∀ w∈l,bX c w.words):∀ w∈fS c l line lk,bX c w.words:=by
  unfold fS
  split
  · exact gO (P:=fun w:Way=>bX c w.words) h (a0z h)
  · exact h
theorem f2b {l:List Way} {line way:Int} (h:∀ w∈l,bX c w.words):∀ w∈kR c l line way,bX c w.words:=by
  unfold kR
  split
  · exact gO (P:=fun w:Way=>bX c w.words) h (eR c)
  · exact h
theorem a6z {l:List Miss} {line:Int} (h:∀ m∈l,bX c m.words):bX c (cV l line).words:=by
  unfold cV
  rw [List.getD_eq_getElem?_getD]
  cases e:l[(rJ l line).toNat]? with
  |none=>exact eR c
  |some x=>exact h x (List.mem_of_getElem? e)
theorem d8b {l:List WbE} {line:Int} (h:∀ m∈l,bX c m.words):bX c (uO l line).words:=by
  unfold uO
  rw [List.getD_eq_getElem?_getD]
  cases e:l[(f9 l line).toNat]? with
  |none=>exact eR c
  |some x=>exact h x (List.mem_of_getElem? e)
theorem b5f {l:List Miss} {line acks own:Int} {u:Words} (h:∀ m∈l,bX c m.words) (hm:bX c u):∀ m∈iW l line acks own u,bX c m.words:=by
  unfold iW
  split
  · exact gO (P:=fun m:Miss=>bX c m.words) h hm
  · exact h
theorem a9v {l:List Miss} {line acks:Int} (h:∀ m∈l,bX c m.words):∀ m∈gL l line acks,bX c m.words:=by
  unfold gL
  split
  · exact gO (P:=fun m:Miss=>bX c m.words) h (eR c)
  · exact h
theorem c5c {l:List Miss} {line:Int} (h:∀ m∈l,bX c m.words):∀ m∈nS l line,bX c m.words:=by
  unfold nS
  split
  · exact gO (P:=fun m:Miss=>bX c m.words) h (a6z (c:=c) h)
  · exact h
theorem e8e {l:List Miss} {line:Int} (h:∀ m∈l,bX c m.words):∀ m∈sO l line,bX c m.words:=by
  unfold sO
  split
  · exact gO (P:=fun m:Miss=>bX c m.words) h (a6z (c:=c) h)
  · exact h
theorem c5d (h:e1r c k) (line:Int):e1r c (cC c k line):=by
  unfold cC
  split
  · rename_i h0
    refine ⟨c2k h.1 ?_,e8e h.2.1,h.2.2⟩
    split
    · exact a0z h.1
    · unfold vU;rw [if_pos h0];exact a6z h.2.1
  · exact h
theorem f2c (h:e1r c k) (line kind:Int):e1r c (bM c k line kind):=by
  unfold bM
  split
  · refine ⟨?_,?_,h.2.2⟩
    · dsimp only;split
      · exact d8a h.1
      · exact f2b h.1
    · show ∀ m∈jS c.mshrs k.mis line kind,_
      unfold jS
      split
      · intro m hm
        rcases List.mem_append.1 hm with g|g
        · exact h.2.1 m g
        · obtain rfl:=List.mem_singleton.1 g
          exact eR c
      · exact h.2.1
  · exact h
theorem e0b (h:∀ w∈k.ways,bX c w.words) (s w:Int):bX c (oH c k.ways s w).words:=by
  by_cases h0:(oH c k.ways s w).st=0
  · unfold oH at h0 ⊢
    split
    · rw [List.getD_eq_getElem?_getD]
      cases e:k.ways[s.toNat*c.ways.toNat+w.toNat]? with
      |none=>exact eR c
      |some x=>exact h x (List.mem_of_getElem? e)
    · exact eR c
  · exact h _ (vH h0)
theorem f4p (h:e1r c k) (s w:Int):e1r c (d5 c k s w):=by
  unfold d5
  split
  · refine ⟨c2k h.1 (eR c),h.2.1,?_⟩
    dsimp only
    split
    · unfold mD
      split
      · exact h.2.2
      · split
        · exact h.2.2
        · intro m hm
          rcases List.mem_append.1 hm with g|g
          · exact h.2.2 m g
          · obtain rfl:=List.mem_singleton.1 g
            exact e0b h.1 s w
    · exact h.2.2
  · exact h
theorem d8c (h:e1r c k) (line st:Int) (g:Bool):e1r c (cQ c k line st g):=by
  unfold cQ
  split
  · exact ⟨c2k h.1 (a0z h.1),h.2.1,h.2.2⟩
  · split
    · refine ⟨h.1,h.2.1,?_⟩
      show ∀ e∈kH k.buf line,_
      unfold kH
      split
      · exact gO (P:=fun e:WbE=>bX c e.words) h.2.2 (d8b (c:=c) h.2.2)
      · exact h.2.2
    · exact h
theorem a9w {m:Msg} (h:fG c m):bX c m.words:=by
  have h5:=h.2.2.2.2
  unfold iX at h5
  split at h5
  · exact h5
  · rw [h5];exact eR c
theorem e8f {core:Int} {m:Msg} (h:e1r c k):e1r c (aS c core k m):=by
  unfold aS
  split
  · rename_i hok
    have hm:bX c m.words:=by
      unfold nL at hok
      simp only [Bool.and_eq_true,decide_eq_true_eq] at hok
      exact a9w hok.1.1
    split
    · exact d8c h _ _ _
    · split
      · exact d8c h _ _ _
      · split
        · split
          · unfold i5
            split
            · exact ⟨c2k h.1 (eR c),h.2.1,h.2.2⟩
            · exact h
          · exact h
        · split
          · unfold lH
            split
            · exact c5d (k:=⟨k.ways,iW k.mis m.line m.acks m.own m.words,k.buf⟩) ⟨h.1,b5f h.2.1 hm,h.2.2⟩ _
            · exact h
          · split
            · unfold sC
              split
              · exact c5d (k:=⟨k.ways,gL k.mis m.line m.acks,k.buf⟩) ⟨h.1,a9v h.2.1,h.2.2⟩ _
              · exact h
            · split
              · unfold pB
                split
                · exact c5d (k:=⟨k.ways,nS k.mis m.line,k.buf⟩) ⟨h.1,c5c h.2.1,h.2.2⟩ _
                · exact h
              · refine ⟨h.1,h.2.1,?_⟩
                show ∀ e∈mR k.buf m.line,_
                unfold mR
                split
                · exact fun e he=>h.2.2 e (List.mem_of_mem_eraseIdx he)
                · exact h.2.2
  · exact h
theorem f2d (h:e1r c k):e1r c (dY c k):=by
  unfold dY
  split
  · refine ⟨d8a h.1,?_,h.2.2⟩
    show ∀ m∈i4 k.mis (cG k),_
    unfold i4
    split
    · exact fun m hm=>h.2.1 m (List.mem_of_mem_eraseIdx hm)
    · exact h.2.1
  · exact h
theorem f3u {w:Words} {x:Op3} (h:bX c w):bX c (d2d c w x):=by
  unfold d2d
  split
  · rename_i hok
    unfold xJ at hok
    simp only [Bool.and_eq_true] at hok
    obtain ⟨⟨h1,h2⟩,h3⟩:=hok
    obtain ⟨hck,g0,g1⟩:=a1o h1
    have hcb:=gP hck
    have hw:0≤lL c x.addr∧lL c x.addr<c.words:=by
      unfold lL;rw [if_pos h1]
      exact ⟨Int.emod_nonneg _ (om),Int.emod_lt_of_pos _ (om)⟩
    unfold kP
    split
    · rename_i hk
      have hv: -2147483648≤x.value∧x.value≤2147483647:=by
        unfold sQ at h2
        rw [if_neg (om),if_neg (om),if_pos hk] at h2
        simp only [Bool.and_eq_true,decide_eq_true_eq] at h2
        exact ⟨h2.1.2,h2.2⟩
      obtain ⟨i,hi⟩:∃ i:Nat,(lL c x.addr).toNat=i:=⟨_,rfl⟩
      rw [hi]
      intro j hj
      have hat:(Words.of (w.list.set i x.value)).at j=if i=j then x.value else w.at j:=by
        have hlen:(w.list.set i x.value).length=8:=by rw [List.length_set];rfl
        unfold Words.at
        rw [Words.list_of hlen,List.getD_eq_getElem?_getD,List.getElem?_set]
        have hj':j<w.list.length:=hj
        split
        · rename_i e;subst e;rw [if_pos hj'];rfl
        · rw [←List.getD_eq_getElem?_getD]
      unfold uW
      rw [hat]
      split
      · exact ⟨hv.1,hv.2,fun g=>by omega⟩
      · exact h j hj
    · rw [Words.of_list];exact h
  · exact eR c
theorem f4q (h:e1r c k) (x:Op3):e1r c (dR c k x):=by
  unfold dR
  split
  · exact ⟨c2k h.1 (f3u (a0z h.1)),h.2.1,h.2.2⟩
  · exact h
theorem f2e (c:Cfg) (n:Nat):e1r c ⟨List.replicate n .zero,[],[]⟩:=by
  refine ⟨fun w hw=>?_,?_,?_⟩
  · obtain ⟨_,rfl⟩:=List.mem_replicate.1 hw;exact eR c
  · intro m hm;cases hm
  · intro m hm;cases hm
end
def lD (c:Cfg) (n:Nat) (k:CaS):Prop:=oA c n k∧c1v c k∧e1r c k
section
variable {c:Cfg} {n:Nat} {k:CaS}
theorem e1s {n':Nat} (hn:n≤n') (h:lD c n k):lD c n' k:=⟨a9d hn h.1,h.2⟩
theorem d8d {line kind:Int} (h:lD c n k):lD c n (bM c k line kind):=⟨e5v h.1,f3q h.1.1 h.2.1,f2c h.2.2 _ _⟩
theorem e6t {s w:Int} (h:lD c n k):lD c n (d5 c k s w):=⟨f0p h.1,f5b h.1.1 h.2.1,f4p h.2.2 _ _⟩
theorem e1t {core:Int} {m:Msg} (h:lD c n k):lD c (n+1) (aS c core k m):=⟨d7b h.1,f0t h.1.1 h.2.1,e8f h.2.2⟩
theorem e8g (h:lD c n k):lD c n (dY c k):=⟨e5w h.1,f3r h.1.1 h.2.1,f2d h.2.2⟩
theorem f2f {x:Op3} (h:lD c n k):lD c n (dR c k x):=⟨f0q h.1,f5c h.1.1 h.2.1,f4q h.2.2 _⟩
theorem d8e (c:Cfg) (n m:Nat):lD c n ⟨List.replicate m .zero,[],[]⟩:=⟨d1l c n m,f3s c m,f2e c m⟩
end
end
end Go.Sx
