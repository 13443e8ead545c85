/- Msh, Msh2, Msh3, Msh4, Msh5, Msh6: several of my texts as one. My own work. -/
import Derived.Test.YtjihlpjnebdiiaaGreatZaa
set_option linter.unusedVariables false
set_option linter.unusedSectionVars false
set_option linter.unusedSimpArgs false
set_option maxRecDepth 100000
set_option maxHeartbeats 4000000
namespace Go.Sx
open Go Go.Proofs
section
def rJ (l:List Miss) (line:Int):Int:=bA (fun m=>decide (m.line=line)) l
def cV (l:List Miss) (line:Int):Miss:=l.getD (rJ l line).toNat .zero
def dB (l:List Miss) (line:Int):Bool:=decide (0≤rJ l line)
def q9 (room:Int) (l:List Miss) (line kind:Int):Int:=if kind≠1∧kind≠2 then 1 else if dB l line then 6 else if (l.length:Int)=room then 4 else 0
def jS (room:Int) (l:List Miss) (line kind:Int):List Miss:=if q9 room l line kind=0 then l++[⟨line,kind,-1,0,0,.zero,false,false⟩] else l
def jH (l:List Miss):Int:=bA (fun m=>m.owes) l
theorem oY {l:List Miss} {line:Int} (h:dB l line=true):∃ i:Nat,∃ hi:i<l.length,rJ l line=i∧cV l line=l[i]∧l[i].line=line:=by
  obtain ⟨i,hi,h1,h2,_⟩:=cR (of_decide_eq_true h)
  refine ⟨i,hi,h1,?_,by simpa using h2⟩
  unfold cV rJ
  rw [h1];simp [hi]
theorem e3m {l:List Miss} {line:Int} (h:dB l line=false):rJ l line= -1:=(dL (of_decide_eq_false h)).1
attribute [local irreducible] Exit.then Exit.inBlock Code.wp WC WO WE WQ V bT vL fP cY eI v8 IntKind.wrap WR Code.rounds WT KO
abbrev d0m (b:Nat) (room:Int) (l:List Miss):HP:=RL 184 182 15 k9 b room l
theorem e3n {F:List HP} {room:Int} (h:1≤room∧room≤8):FnF Tryz.prog 93 [.int .i64 room] [] F (fun r L'=>∃ b,r= .tuple [.pointer (some ⟨b,0,none⟩),.int .i64 0].toArray∧L'=[d0m b room []]):=by
  refine FnF.mk' Tryz.func93 rfl rfl Tryz.ntmps93 rfl ?_
  repeat first|refine gd ?_|intro _
  (apply aA rfl rfl bH)
  · exact ⟨_,rfl,rfl⟩
  · exact eX (l:=[]) (Ent.cons (aO Ent.refl)) rfl rfl (by simp;omega)
theorem e3o {F:List HP} {b:Nat} {line:Int} {T:TypeId} {C:List Value→List HP} {m:Miss} (k:CellsAt b F T [.int .i64 line] C) :
    FnF Tryz.prog 231 [f4i m,.pointer (some ⟨b,0,none⟩)] [] F (fun r L'=>r= .bool (decide (m.line=line))∧L'=[]):=by
  refine FnF.mk' Tryz.func231 rfl rfl Tryz.ntmps231 rfl ?_
  repeat first|refine gd ?_|intro _
  exact bF
theorem c3r {F:List HP} {m:Miss}:FnF Tryz.prog 200 [f4i m] [] F (fun r L'=>r= .bool m.owes∧L'=[]):=by
  refine FnF.mk' Tryz.func200 rfl rfl Tryz.ntmps200 rfl ?_
  repeat first|refine gd ?_|intro _
  exact bF
theorem nM {F:List HP} {b:Nat} {room:Int} {l:List Miss}:FnF Tryz.prog 58 [.pointer (some ⟨b,0,none⟩)] [d0m b room l] F (fun r L'=>∃ p c,r= .slice p l.length c∧L'=[Own 182 15 (.slice p l.length c) l.length (aC k9 l),d0m b room l]):=by
  refine FnF.mk' Tryz.func58 rfl rfl Tryz.ntmps58 rfl ?_
  refine i8 fun p c hl=>?_
  repeat first|refine gd ?_|intro _|refine aD @b1t ?_
  (apply aA rfl rfl bH)
  · exact ⟨_,_,rfl,rfl⟩
  · exact zR @eX
theorem e3p {F:List HP} {b bl:Nat} {room:Int} {l:List Miss} {line:Int} {p:Option Addr} {c:Nat} {C:List Value→List HP} (k1:CellsAt bl F 3 [.int .i64 line] C) (hn:l.length≤4096) :
    FnF Tryz.prog 199 [.pointer (some ⟨b,0,none⟩),.func (.func 231) [].toArray [.pointer (some ⟨bl,0,none⟩)].toArray] [Cells b 184 [.int .i64 room,.slice p l.length c],Own 182 15 (.slice p l.length c) l.length (aC k9 l)] F
      (fun r L'=>r= .int .i64 (rJ l line)∧L'=[Cells b 184 [.int .i64 room,.slice p l.length c],Own 182 15 (.slice p l.length c) l.length (aC k9 l)]):=by
  have hI:=fun F (C:List Value→List HP) (k1':CellsAt bl F 3 [.int .i64 line] C) (k:RdL F 15 (.slice p l.length c) l.length (aC k9 l))=>
    mS (F:=F) (v:= .slice p l.length c) (l:=l) (fk:=231) (first:=[]) (cap:=[.pointer (some ⟨bl,0,none⟩)]) (p:=fun m=>decide (m.line=line)) k (om) (fun x _=>e3o k1')
  refine FnF.mk' Tryz.func199 rfl rfl Tryz.ntmps199 rfl ?_
  repeat first|refine gd ?_|intro _|refine aD @hI ?_
  (apply aA rfl rfl bH;(first|exact oO|exact ⟨by simp [rJ]<;>omega,rfl⟩);exact jM)
theorem u7 {F:List HP} {b:Nat} {room:Int} {l:List Miss} {line:Int} {p:Option Addr} {c:Nat} (hn:l.length≤4096) :
    FnF Tryz.prog 201 [.pointer (some ⟨b,0,none⟩),.int .i64 line] [Cells b 184 [.int .i64 room,.slice p l.length c],Own 182 15 (.slice p l.length c) l.length (aC k9 l)] F
      (fun r L'=>r= .pointer (if dB l line then some ⟨pb (.slice p l.length c),po (.slice p l.length c)+(rJ l line).toNat*15,none⟩ else none)∧L'=[Cells b 184 [.int .i64 room,.slice p l.length c],Own 182 15 (.slice p l.length c) l.length (aC k9 l)]):=by
  have hA:=fun F (bl:Nat) (C:List Value→List HP) (k1:CellsAt bl F 3 [.int .i64 line] C)=>e3p (F:=F) (b:=b) (room:=room) (l:=l) (p:=p) (c:=c) k1 hn
  cases h:dB l line with
  |true=>
   obtain ⟨i,hi,e1,_,_⟩:=oY h
   rw [e1] at hA
   rw [e1,if_pos rfl,Int.toNat_natCast]
   refine FnF.mk' Tryz.func201 rfl rfl Tryz.ntmps201 rfl ?_
   repeat first|refine gd ?_|intro _|refine aD @hA ?_
   exact bF
  |false=>
   rw [e3m h] at hA
   rw [if_neg Bool.false_ne_true]
   refine FnF.mk' Tryz.func201 rfl rfl Tryz.ntmps201 rfl ?_
   repeat first|refine gd ?_|intro _|refine aD @hA ?_
   exact bF
end
section
def b1u (l:List Miss) (line:Int):Miss:=if dB l line then cV l line else .zero
def a8e (m:Miss) (acks own:Int):Bool:=decide (m.needs= -1∧m.got≤acks)&& (if m.kind=2 then decide (own=4) else decide (acks=0∧(own=1∨own=2)))
def iV (l:List Miss) (line acks own:Int):Int:=if dB l line then (if a8e (cV l line) acks own then 0 else 7) else 5
def iW (l:List Miss) (line acks own:Int) (w:Words):List Miss:=if iV l line acks own=0 then l.set (rJ l line).toNat { cV l line with needs:=acks,own:=own,words:=w} else l
attribute [local irreducible] Exit.then Exit.inBlock Code.wp WC WO WE WQ V bT vL fP cY eI v8 IntKind.wrap WR Code.rounds WT KO
theorem d5i {F:List HP} {b:Nat} {room:Int} {l:List Miss} {line kind:Int} :
    FnF Tryz.prog 163 [.pointer (some ⟨b,0,none⟩),.int .i64 line,.int .i64 kind] [d0m b room l] F (fun r L'=>r= .int .i64 (q9 room l line kind)∧L'=[d0m b room (jS room l line kind)]):=by
  refine FnF.mk' Tryz.func163 rfl rfl Tryz.ntmps163 rfl ?_
  by_cases hk:kind≠1∧kind≠2
  · have e1:q9 room l line kind=1:=if_pos hk
    have e2:jS room l line kind=l:=by unfold jS;rw [e1];rfl
    obtain ⟨hk1,hk2⟩:=hk
    rw [e1,e2]
    repeat first|refine gd ?_|intro _
    exact bF
  · refine i8 fun p c hl=>?_
    have hO:=fun F=>u7 (F:=F) (b:=b) (room:=room) (l:=l) (line:=line) (p:=p) (c:=c) (om)
    have hkk:kind=1∨¬kind=1∧kind=2:=by omega
    cases h:dB l line with
    |true=>
     have e1:q9 room l line kind=6:=by unfold q9;rw [if_neg hk,if_pos h]
     have e2:jS room l line kind=l:=by unfold jS;rw [e1];rfl
     rw [e1,e2]
     rw [if_pos h] at hO
     rcases hkk with h1|⟨h1,h2⟩
     · repeat first|refine gd ?_|intro _|refine aD @hO ?_
       (apply aA rfl rfl bH)
       · exact ⟨rfl,rfl⟩
       · (apply eX;(focus (exact aB));all_goals exact mZ)
     · repeat first|refine gd ?_|intro _|refine aD @hO ?_
       (apply aA rfl rfl bH)
       · exact ⟨rfl,rfl⟩
       · (apply eX;(focus (exact aB));all_goals exact mZ)
    |false=>
     rw [h,if_neg Bool.false_ne_true] at hO
     by_cases hf:(l.length:Int)=room
     · have e1:q9 room l line kind=4:=by unfold q9;rw [if_neg hk,h,if_neg Bool.false_ne_true,if_pos hf]
       have e2:jS room l line kind=l:=by unfold jS;rw [e1];rfl
       rw [e1,e2]
       rcases hkk with h1|⟨h1,h2⟩
       · repeat first|refine gd ?_|intro _|refine aD @hO ?_
         (apply aA rfl rfl bH)
         · exact ⟨rfl,rfl⟩
         · (apply eX;(focus (exact aB));all_goals exact mZ)
       · repeat first|refine gd ?_|intro _|refine aD @hO ?_
         (apply aA rfl rfl bH)
         · exact ⟨rfl,rfl⟩
         · (apply eX;(focus (exact aB));all_goals exact mZ)
     · have e1:q9 room l line kind=0:=by unfold q9;rw [if_neg hk,h,if_neg Bool.false_ne_true,if_neg hf]
       have e2:jS room l line kind=l++[⟨line,kind,-1,0,0,.zero,false,false⟩]:=by unfold jS;rw [e1];rfl
       rw [e1,e2]
       rcases hkk with h1|⟨h1,h2⟩
       · repeat first|refine gd ?_|intro _|refine aD @hO ?_
         (apply aA rfl rfl bH)
         · exact ⟨rfl,rfl⟩
         · (apply eX;(focus (exact aB));all_goals (first|rfl|(with_reducible assumption)|(simp [bJ,dW];done)|(simp [bJ,dW];omega)|omega|(constructor<;>(simp [bJ,dW])<;>omega)))
       · repeat first|refine gd ?_|intro _|refine aD @hO ?_
         (apply aA rfl rfl bH)
         · exact ⟨rfl,rfl⟩
         · (apply eX;(focus (exact aB));all_goals (first|rfl|(with_reducible assumption)|(simp [bJ,dW];done)|(simp [bJ,dW];omega)|omega|(constructor<;>(simp [bJ,dW])<;>omega)))
theorem e3q {F:List HP} {b:Nat} {room:Int} {l:List Miss} {line:Int} :
    FnF Tryz.prog 158 [.pointer (some ⟨b,0,none⟩),.int .i64 line] [d0m b room l] F (fun r L'=>r= .tuple [f4i (b1u l line),.bool (dB l line)].toArray∧L'=[d0m b room l]):=by
  refine FnF.mk' Tryz.func158 rfl rfl Tryz.ntmps158 rfl ?_
  refine i8 fun p c hl=>?_
  have hO:=fun F=>u7 (F:=F) (b:=b) (room:=room) (l:=l) (line:=line) (p:=p) (c:=c) (om)
  cases h:dB l line with
  |true=>
   obtain ⟨i,hi,e1,e2,_⟩:=oY h
   have e3:b1u l line=l[i]:=by unfold b1u;rw [if_pos h,e2]
   rw [e3]
   rw [if_pos h,e1,Int.toNat_natCast] at hO
   repeat first|refine gd ?_|intro _|refine aD @hO ?_
   (apply aA rfl rfl bH)
   · exact ⟨rfl,rfl⟩
   · (apply eX;(focus (exact aB));all_goals exact mZ)
  |false=>
   have e3:b1u l line= .zero:=by unfold b1u;rw [h];rfl
   rw [e3]
   rw [h,if_neg Bool.false_ne_true] at hO
   repeat first|refine gd ?_|intro _|refine aD @hO ?_
   (apply aA rfl rfl bH)
   · exact ⟨rfl,rfl⟩
   · (apply eX;(focus (exact aB));all_goals exact mZ)
end
section
attribute [local irreducible] Exit.then Exit.inBlock Code.wp WC WO WE WQ V bT vL fP cY eI v8 IntKind.wrap WR Code.rounds WT KO
theorem d5j {F:List HP} {l:List Miss} {i:Nat} {acks own:Int} {p:Option Addr} {c:Nat} (hi:i<l.length) (hn:l.length≤4096) :
    FnF Tryz.prog 242 [.pointer (some ⟨pb (.slice p l.length c),po (.slice p l.length c)+i*15,none⟩),.int .i64 acks,.int .i64 own] [Own 182 15 (.slice p l.length c) l.length (aC k9 l)] F
      (fun r L'=>r= .bool (a8e l[i] acks own)∧L'=[Own 182 15 (.slice p l.length c) l.length (aC k9 l)]):=by
  refine FnF.mk' Tryz.func242 rfl rfl Tryz.ntmps242 rfl ?_
  unfold a8e
  by_cases h1:l[i].needs= -1
  · by_cases h2:acks<l[i].got
    · rw [decide_eq_false (om),Bool.false_and]
      repeat first|refine gd ?_|intro _
      exact bF
    · rw [decide_eq_true (om),Bool.true_and]
      by_cases h3:l[i].kind=2
      · rw [if_pos h3]
        repeat first|refine gd ?_|intro _
        exact bF
      · rw [if_neg h3]
        by_cases h4:acks=0
        · by_cases h5:own=1
          · repeat first|refine gd ?_|intro _
            (apply aA rfl rfl bH;(first|exact oO|exact ⟨by simp [h4,h5]<;>omega,rfl⟩);exact jM)
          · repeat first|refine gd ?_|intro _
            (apply aA rfl rfl bH;(first|exact oO|exact ⟨by simp [h4,h5]<;>omega,rfl⟩);exact jM)
        · repeat first|refine gd ?_|intro _
          (apply aA rfl rfl bH;(first|exact oO|exact ⟨by simp [h4]<;>omega,rfl⟩);exact jM)
  · rw [decide_eq_false (om),Bool.false_and]
    repeat first|refine gd ?_|intro _
    exact bF
end
section
theorem f2q {l:List Miss} {i:Nat} (hi:i<l.length) (x:Int):aQ (aC k9 l) (i*15+2) [.int .i64 x]=aC k9 (l.set i { l[i] with needs:=x}):=
  dT (enc:=k9) (n:=15) (fun _=>rfl) l i hi (j:=2) (cs:=[.int .i64 x]) (x:={ l[i] with needs:=x}) (by simp) rfl
theorem f2r {l:List Miss} {i:Nat} (hi:i<l.length) (x:Int):aQ (aC k9 l) (i*15+3) [.int .i64 x]=aC k9 (l.set i { l[i] with got:=x}):=
  dT (enc:=k9) (n:=15) (fun _=>rfl) l i hi (j:=3) (cs:=[.int .i64 x]) (x:={ l[i] with got:=x}) (by simp) rfl
theorem f2s {l:List Miss} {i:Nat} (hi:i<l.length) (x:Int):aQ (aC k9 l) (i*15+4) [.int .i64 x]=aC k9 (l.set i { l[i] with own:=x}):=
  dT (enc:=k9) (n:=15) (fun _=>rfl) l i hi (j:=4) (cs:=[.int .i64 x]) (x:={ l[i] with own:=x}) (by simp) rfl
theorem f2t {l:List Miss} {i:Nat} (hi:i<l.length) (x:Words):aQ (aC k9 l) (i*15+5) (wc x)=aC k9 (l.set i { l[i] with words:=x}):=
  dT (enc:=k9) (n:=15) (fun _=>rfl) l i hi (j:=5) (cs:=wc x) (x:={ l[i] with words:=x}) (by simp) rfl
theorem e9f {l:List Miss} {i:Nat} (hi:i<l.length) (x:Bool):aQ (aC k9 l) (i*15+13) [.bool x]=aC k9 (l.set i { l[i] with granted:=x}):=
  dT (enc:=k9) (n:=15) (fun _=>rfl) l i hi (j:=13) (cs:=[.bool x]) (x:={ l[i] with granted:=x}) (by simp) rfl
theorem e9g {l:List Miss} {i:Nat} (hi:i<l.length) (x:Bool):aQ (aC k9 l) (i*15+14) [.bool x]=aC k9 (l.set i { l[i] with owes:=x}):=
  dT (enc:=k9) (n:=15) (fun _=>rfl) l i hi (j:=14) (cs:=[.bool x]) (x:={ l[i] with owes:=x}) (by simp) rfl
def xD (l:List Miss) (line:Int):Int:=if dB l line then (if (cV l line).kind=1∨(cV l line).needs=(cV l line).got then 7 else 0) else 5
def nS (l:List Miss) (line:Int):List Miss:=if xD l line=0 then l.set (rJ l line).toNat { cV l line with got:=(cV l line).got+1} else l
attribute [local irreducible] Exit.then Exit.inBlock Code.wp WC WO WE WQ V bT vL fP cY eI v8 IntKind.wrap WR Code.rounds WT KO
theorem e3r {F:List HP} {b:Nat} {room:Int} {l:List Miss} {line:Int} (hg:∀ m∈l,-9223372036854775808≤m.got∧m.got≤9223372036854775806) :
    FnF Tryz.prog 224 [.pointer (some ⟨b,0,none⟩),.int .i64 line] [d0m b room l] F (fun r L'=>r= .int .i64 (xD l line)∧L'=[d0m b room (nS l line)]):=by
  refine FnF.mk' Tryz.func224 rfl rfl Tryz.ntmps224 rfl ?_
  refine i8 fun p c hl=>?_
  have hO:=fun F=>u7 (F:=F) (b:=b) (room:=room) (l:=l) (line:=line) (p:=p) (c:=c) (om)
  cases h:dB l line with
  |false=>
   have e1:xD l line=5:=by unfold xD;rw [h];rfl
   have e2:nS l line=l:=by unfold nS;rw [e1];rfl
   rw [e1,e2]
   rw [h,if_neg Bool.false_ne_true] at hO
   repeat first|refine gd ?_|intro _|refine aD @hO ?_
   (apply aA rfl rfl bH)
   · exact ⟨rfl,rfl⟩
   · (apply eX;(focus (exact aB));all_goals exact mZ)
  |true=>
   obtain ⟨i,hi,e0,ea,_⟩:=oY h
   rw [if_pos h,e0,Int.toNat_natCast] at hO
   have hgi:=hg _ (List.getElem_mem hi)
   by_cases h1:l[i].kind=1
   · have e1:xD l line=7:=by unfold xD;rw [if_pos h,ea,if_pos (.inl h1)]
     have e2:nS l line=l:=by unfold nS;rw [e1];rfl
     rw [e1,e2]
     repeat' (first|refine gd ?_|intro _|refine aD @hO ?_|refine nV ?_ ?_|fail)
     all_goals (apply aA rfl rfl bH)
     all_goals first|exact ⟨rfl,rfl⟩|(apply eX;(focus (exact aB));all_goals exact mZ)
   · by_cases h2:l[i].needs=l[i].got
     · have e1:xD l line=7:=by unfold xD;rw [if_pos h,ea,if_pos (.inr h2)]
       have e2:nS l line=l:=by unfold nS;rw [e1];rfl
       rw [e1,e2]
       repeat' (first|refine gd ?_|intro _|refine aD @hO ?_|refine nV ?_ ?_|fail)
       all_goals (apply aA rfl rfl bH)
       all_goals first|exact ⟨rfl,rfl⟩|(apply eX;(focus (exact aB));all_goals exact mZ)
     · have e1:xD l line=0:=by unfold xD;rw [if_pos h,ea,if_neg (om)]
       have e2:nS l line=l.set i { l[i] with got:=l[i].got+1}:=by unfold nS;rw [if_pos e1,e0,Int.toNat_natCast,ea]
       rw [e1,e2]
       repeat' (first|refine gd ?_|intro _|refine aD @hO ?_|refine nV ?_ ?_|fail)
       all_goals rw [f2r hi]
       all_goals (apply aA rfl rfl bH)
       all_goals first|exact ⟨rfl,rfl⟩|(rw [show l.length=(l.set i { l[i] with got:=l[i].got+1}).length by simp];(apply eX;(focus (exact aB));all_goals exact mZ))
end
section
attribute [local irreducible] Exit.then Exit.inBlock Code.wp WC WO WE WQ V bT vL fP cY eI v8 IntKind.wrap WR Code.rounds WT KO
theorem v6 {Q P:Prop} (k:Q) (h:Hid Q→P:=by
  intro k
  first
  |(refine aI ?_;apply pV (id:=6) .true [] (pl:= .p 0 <| .p 1 <| .p 2 <| .p 3 <| .p 4 <| .p 6 <| .p 7 <| .e true [(5,.e true [(8,.p 9 <| .p 10 <| .e false [(11,.p 12 <| .p 13 <| .e false [(14,.done)])])]),(8,.p 9 <| .p 10 <| .e false [(5,.e false [(11,.p 12 <| .p 13 <| .e false [(14,.done)])]),(11,.e false [(5,.p 12 <| .p 13 <| .e false [(14,.done)])])])]);exact sD;kernel_rfl;kernel_rfl;exact Ent.nil;exact k.out)):P:=h ⟨k⟩
theorem c0o {F:List HP} {b:Nat} {room:Int} {l:List Miss} {line acks own:Int} {w:Words} :
    FnF Tryz.prog 222 [.pointer (some ⟨b,0,none⟩),.int .i64 line,.int .i64 acks,.int .i64 own,wv w] [d0m b room l] F (fun r L'=>r= .int .i64 (iV l line acks own)∧L'=[d0m b room (iW l line acks own w)]):=by
  refine FnF.mk' Tryz.func222 rfl rfl Tryz.ntmps222 rfl ?_
  refine i8 fun p c hl=>?_
  have hO:=fun F=>u7 (F:=F) (b:=b) (room:=room) (l:=l) (line:=line) (p:=p) (c:=c) (om)
  cases h:dB l line with
  |false=>
   have e1:iV l line acks own=5:=by unfold iV;rw [h];rfl
   have e2:iW l line acks own w=l:=by unfold iW;rw [e1];rfl
   rw [e1,e2]
   rw [h,if_neg Bool.false_ne_true] at hO
   repeat first|refine go ?_|intro _|refine v6 ?_|refine dM ?_|refine aD @hO ?_
   (apply aA rfl rfl bH)
   · exact ⟨rfl,rfl⟩
   · (apply eX;(focus (exact aB));all_goals exact mZ)
  |true=>
   obtain ⟨i,hi,e0,ea,_⟩:=oY h
   rw [if_pos h,e0,Int.toNat_natCast] at hO
   have hF:=fun F=>d5j (F:=F) (l:=l) (i:=i) (acks:=acks) (own:=own) (p:=p) (c:=c) hi (om)
   cases hf:a8e l[i] acks own with
   |false=>
    rw [hf] at hF
    have e1:iV l line acks own=7:=by unfold iV;rw [if_pos h,ea,hf];rfl
    have e2:iW l line acks own w=l:=by unfold iW;rw [e1];rfl
    rw [e1,e2]
    repeat first|refine go ?_|intro _|refine v6 ?_|refine dM ?_|refine aD @hO ?_|refine aD @hF ?_
    (apply aA rfl rfl bH)
    · exact ⟨rfl,rfl⟩
    · (apply eX;(focus (exact aB));all_goals exact mZ)
   |true=>
    rw [hf] at hF
    have e1:iV l line acks own=0:=by unfold iV;rw [if_pos h,ea,hf];rfl
    have e2:iW l line acks own w=l.set i { l[i] with needs:=acks,own:=own,words:=w}:=by unfold iW;rw [if_pos e1,e0,Int.toNat_natCast,ea]
    rw [e1,e2]
    have hs:∀ x y,i<((l.set i x).set i y).length:=fun x y=>by simpa using hi
    have hs1:∀ x,i<(l.set i x).length:=fun x=>by simpa using hi
    repeat' (first|refine go ?_|intro _|refine v6 ?_|refine dM ?_|refine aD @hO ?_|refine aD @hF ?_|refine nV ?_ ?_|fail)
    all_goals simp only [f2q,f2s,f2t,hi,hs,hs1,List.set_set,List.getElem_set_self]
    all_goals (apply aA rfl rfl bH)
    all_goals first|exact ⟨rfl,rfl⟩|(rw [show l.length=(l.set i { l[i] with needs:=acks,own:=own,words:=w}).length by simp];(apply eX;(focus (exact aB));all_goals exact mZ))
end
section
def yT (l:List Miss) (line:Int):Bool:=dB l line&& !(cV l line).owes&& decide ((cV l line).needs=(cV l line).got)
def vU (l:List Miss) (line:Int):Miss:=if yT l line then cV l line else .zero
def sO (l:List Miss) (line:Int):List Miss:=if yT l line then l.set (rJ l line).toNat { cV l line with owes:=true} else l
attribute [local irreducible] Exit.then Exit.inBlock Code.wp WC WO WE WQ V bT vL fP cY eI v8 IntKind.wrap WR Code.rounds WT KO
theorem e3s {F:List HP} {b:Nat} {room:Int} {l:List Miss} {line:Int} :
    FnF Tryz.prog 241 [.pointer (some ⟨b,0,none⟩),.int .i64 line] [d0m b room l] F (fun r L'=>r= .tuple [f4i (vU l line),.bool (yT l line)].toArray∧L'=[d0m b room (sO l line)]):=by
  refine FnF.mk' Tryz.func241 rfl rfl Tryz.ntmps241 rfl ?_
  refine i8 fun p c hl=>?_
  have hO:=fun F=>u7 (F:=F) (b:=b) (room:=room) (l:=l) (line:=line) (p:=p) (c:=c) (om)
  cases h:dB l line with
  |false=>
   have e1:yT l line=false:=by unfold yT;rw [h];rfl
   have e2:sO l line=l:=by unfold sO;rw [e1];rfl
   have e3:vU l line= .zero:=by unfold vU;rw [e1];rfl
   rw [e1,e2,e3]
   rw [h,if_neg Bool.false_ne_true] at hO
   repeat' (first|refine gd ?_|intro _|refine aD @hO ?_|refine nV ?_ ?_|fail)
   all_goals (apply aA rfl rfl bH)
   all_goals first|exact ⟨rfl,rfl⟩|(apply eX;(focus (exact aB));all_goals exact mZ)
  |true=>
   obtain ⟨i,hi,e0,ea,_⟩:=oY h
   rw [if_pos h,e0,Int.toNat_natCast] at hO
   cases h1:l[i].owes with
   |true=>
    have e1:yT l line=false:=by unfold yT;rw [ea,h1];simp
    have e2:sO l line=l:=by unfold sO;rw [e1];rfl
    have e3:vU l line= .zero:=by unfold vU;rw [e1];rfl
    rw [e1,e2,e3]
    repeat' (first|refine gd ?_|intro _|refine aD @hO ?_|refine nV ?_ ?_|fail)
    all_goals (apply aA rfl rfl bH)
    all_goals first|exact ⟨rfl,rfl⟩|(apply eX;(focus (exact aB));all_goals exact mZ)
   |false=>
    by_cases h2:l[i].needs=l[i].got
    · have e1:yT l line=true:=by unfold yT;rw [h,ea,h1];simp [h2]
      have e2:sO l line=l.set i { l[i] with owes:=true}:=by unfold sO;rw [if_pos e1,e0,Int.toNat_natCast,ea]
      have e3:vU l line=l[i]:=by unfold vU;rw [if_pos e1,ea]
      rw [e1,e2,e3]
      repeat' (first|refine gd ?_|intro _|refine aD @hO ?_|refine nV ?_ ?_|fail)
      all_goals rw [e9g hi]
      all_goals (apply aA rfl rfl bH)
      all_goals first|exact ⟨rfl,rfl⟩|(rw [show l.length=(l.set i { l[i] with owes:=true}).length by simp];(apply eX;(focus (exact aB));all_goals exact mZ))
    · have e1:yT l line=false:=by unfold yT;rw [h,ea,h1];simp [h2]
      have e2:sO l line=l:=by unfold sO;rw [e1];rfl
      have e3:vU l line= .zero:=by unfold vU;rw [e1];rfl
      rw [e1,e2,e3]
      repeat' (first|refine gd ?_|intro _|refine aD @hO ?_|refine nV ?_ ?_|fail)
      all_goals (apply aA rfl rfl bH)
      all_goals first|exact ⟨rfl,rfl⟩|(apply eX;(focus (exact aB));all_goals exact mZ)
theorem d0n {F:List HP} {b:Nat} {room:Int} {l:List Miss} :
    FnF Tryz.prog 153 [.pointer (some ⟨b,0,none⟩)] [d0m b room l] F (fun r L'=>r= .tuple [.int .i64 (if 0≤jH l then (l.getD (jH l).toNat .zero).line else 0),.bool (decide (0≤jH l))].toArray∧L'=[d0m b room l]):=by
  have hat:∀ F (p:Option Addr) (c:Nat),l.length≤4096→FnF Tryz.prog 199 [.pointer (some ⟨b,0,none⟩),.func (.func 200) [].toArray [].toArray] [Cells b 184 [.int .i64 room,.slice p l.length c],Own 182 15 (.slice p l.length c) l.length (aC k9 l)] F
   (fun r L'=>r= .int .i64 (jH l)∧L'=[Cells b 184 [.int .i64 room,.slice p l.length c],Own 182 15 (.slice p l.length c) l.length (aC k9 l)]):=fun F p c hn=>by
    have hI:=fun F (k:RdL F 15 (.slice p l.length c) l.length (aC k9 l))=>mS (F:=F) (v:= .slice p l.length c) (l:=l) (fk:=200) (first:=[]) (cap:=[]) (p:=fun m=>m.owes) k (om) (fun x _=>c3r)
    refine FnF.mk' Tryz.func199 rfl rfl Tryz.ntmps199 rfl ?_
    repeat first|refine gd ?_|intro _|refine aD @hI ?_
    (apply aA rfl rfl bH;(first|exact oO|exact ⟨by simp [jH]<;>omega,rfl⟩);exact jM)
  refine FnF.mk' Tryz.func153 rfl rfl Tryz.ntmps153 rfl ?_
  refine i8 fun p c hl=>?_
  have hA:=fun F=>hat F p c (om)
  by_cases h:0≤jH l
  · obtain ⟨i,hi,e0,_⟩:=cR h
    have e0':jH l=i:=e0
    rw [if_pos h,decide_eq_true h]
    rw [e0'] at hA
    rw [e0',Int.toNat_natCast,←lI hi]
    repeat first|refine gd ?_|intro _|refine aD @hA ?_
    (apply aA rfl rfl bH)
    · exact ⟨rfl,rfl⟩
    · (apply eX;(focus (exact aB));all_goals exact mZ)
  · have e0:jH l= -1:=(dL h).1
    rw [if_neg h,decide_eq_false h]
    rw [e0] at hA
    repeat first|refine gd ?_|intro _|refine aD @hA ?_
    (apply aA rfl rfl bH)
    · exact ⟨rfl,rfl⟩
    · (apply eX;(focus (exact aB));all_goals exact mZ)
end
end Go.Sx
