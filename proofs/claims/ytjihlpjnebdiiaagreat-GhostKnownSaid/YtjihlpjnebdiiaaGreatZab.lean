/- Msh2, Msh3, Msh4, Msh5, Msh6, Msh7: several of my texts as one. My own work. -/
import Derived.Test.YtjihlpjnebdiiaaGreatZaa
set_option linter.unusedVariables false
set_option linter.unusedSectionVars false
set_option linter.unusedSimpArgs false
set_option maxRecDepth 100000
set_option maxHeartbeats 4000000
namespace Go.Sx
open Go Go.Proofs
section
def a8p (l:List Miss) (line:Int):Miss:=if cR l line then bV l line else .zero
def a5y (m:Miss) (acks own:Int):Bool:=decide (m.needs= -1∧m.got≤acks)&& (if m.kind=2 then decide (own=4) else decide (acks=0∧(own=1∨own=2)))
def iB (l:List Miss) (line acks own:Int):Int:=if cR l line then (if a5y (bV l line) acks own then 0 else 7) else 5
def iS (l:List Miss) (line acks own:Int) (w:Words):List Miss:=if iB l line acks own=0 then l.set (qS l line).toNat { bV l line with needs:=acks,own:=own,words:=w} else l
attribute [local irreducible] Exit.then Exit.inBlock Code.wp WC WO WE WQ V bF tV d3 bW dF uH IntKind.wrap WR Code.rounds WT KO
theorem d2h {F:List HP} {b:Nat} {room:Int} {l:List Miss} {line kind:Int} :
    FnF Tryz.prog 163 [.pointer (some ⟨b,0,none⟩),.int .i64 line,.int .i64 kind] [c6w b room l] F (fun r L'=>r= .int .i64 (tG room l line kind)∧L'=[c6w b room (kL room l line kind)]):=by
  refine FnF.mk' Tryz.func163 rfl rfl Tryz.ntmps163 rfl ?_
  by_cases hk:kind≠1∧kind≠2
  · have e1:tG room l line kind=1:=if_pos hk
    have e2:kL room l line kind=l:=by unfold kL;rw [e1];rfl
    obtain ⟨hk1,hk2⟩:=hk
    rw [e1,e2]
    repeat first|refine gd ?_|intro _
    exact aU
  · refine iF fun p c hl=>?_
    have hO:=fun F=>t6 (F:=F) (b:=b) (room:=room) (l:=l) (line:=line) (p:=p) (c:=c) (om)
    have hkk:kind=1∨¬kind=1∧kind=2:=by omega
    cases h:cR l line with
    |true=>
     have e1:tG room l line kind=6:=by unfold tG;rw [if_neg hk,if_pos h]
     have e2:kL room l line kind=l:=by unfold kL;rw [e1];rfl
     rw [e1,e2]
     rw [if_pos h] at hO
     rcases hkk with h1|⟨h1,h2⟩
     · repeat first|refine gd ?_|intro _|refine aD @hO ?_
       (apply aA rfl rfl bB)
       · exact ⟨rfl,rfl⟩
       · (apply dR;(focus (exact aB));all_goals exact mG)
     · repeat first|refine gd ?_|intro _|refine aD @hO ?_
       (apply aA rfl rfl bB)
       · exact ⟨rfl,rfl⟩
       · (apply dR;(focus (exact aB));all_goals exact mG)
    |false=>
     rw [h,if_neg Bool.false_ne_true] at hO
     by_cases hf:(l.length:Int)=room
     · have e1:tG room l line kind=4:=by unfold tG;rw [if_neg hk,h,if_neg Bool.false_ne_true,if_pos hf]
       have e2:kL room l line kind=l:=by unfold kL;rw [e1];rfl
       rw [e1,e2]
       rcases hkk with h1|⟨h1,h2⟩
       · repeat first|refine gd ?_|intro _|refine aD @hO ?_
         (apply aA rfl rfl bB)
         · exact ⟨rfl,rfl⟩
         · (apply dR;(focus (exact aB));all_goals exact mG)
       · repeat first|refine gd ?_|intro _|refine aD @hO ?_
         (apply aA rfl rfl bB)
         · exact ⟨rfl,rfl⟩
         · (apply dR;(focus (exact aB));all_goals exact mG)
     · have e1:tG room l line kind=0:=by unfold tG;rw [if_neg hk,h,if_neg Bool.false_ne_true,if_neg hf]
       have e2:kL room l line kind=l++[⟨line,kind,-1,0,0,.zero,false,false⟩]:=by unfold kL;rw [e1];rfl
       rw [e1,e2]
       rcases hkk with h1|⟨h1,h2⟩
       · repeat first|refine gd ?_|intro _|refine aD @hO ?_
         (apply aA rfl rfl bB)
         · exact ⟨rfl,rfl⟩
         · (apply dR;(focus (exact aB));all_goals (first|rfl|(with_reducible assumption)|(simp [aZ,cG];done)|(simp [aZ,cG];omega)|omega|(constructor<;>(simp [aZ,cG])<;>omega)))
       · repeat first|refine gd ?_|intro _|refine aD @hO ?_
         (apply aA rfl rfl bB)
         · exact ⟨rfl,rfl⟩
         · (apply dR;(focus (exact aB));all_goals (first|rfl|(with_reducible assumption)|(simp [aZ,cG];done)|(simp [aZ,cG];omega)|omega|(constructor<;>(simp [aZ,cG])<;>omega)))
theorem d9x {F:List HP} {b:Nat} {room:Int} {l:List Miss} {line:Int} :
    FnF Tryz.prog 158 [.pointer (some ⟨b,0,none⟩),.int .i64 line] [c6w b room l] F (fun r L'=>r= .tuple [e9v (a8p l line),.bool (cR l line)].toArray∧L'=[c6w b room l]):=by
  refine FnF.mk' Tryz.func158 rfl rfl Tryz.ntmps158 rfl ?_
  refine iF fun p c hl=>?_
  have hO:=fun F=>t6 (F:=F) (b:=b) (room:=room) (l:=l) (line:=line) (p:=p) (c:=c) (om)
  cases h:cR l line with
  |true=>
   obtain ⟨i,hi,e1,e2,_⟩:=nV h
   have e3:a8p l line=l[i]:=by unfold a8p;rw [if_pos h,e2]
   rw [e3]
   rw [if_pos h,e1,Int.toNat_natCast] at hO
   repeat first|refine gd ?_|intro _|refine aD @hO ?_
   (apply aA rfl rfl bB)
   · exact ⟨rfl,rfl⟩
   · (apply dR;(focus (exact aB));all_goals exact mG)
  |false=>
   have e3:a8p l line= .zero:=by unfold a8p;rw [h];rfl
   rw [e3]
   rw [h,if_neg Bool.false_ne_true] at hO
   repeat first|refine gd ?_|intro _|refine aD @hO ?_
   (apply aA rfl rfl bB)
   · exact ⟨rfl,rfl⟩
   · (apply dR;(focus (exact aB));all_goals exact mG)
end
section
attribute [local irreducible] Exit.then Exit.inBlock Code.wp WC WO WE WQ V bF tV d3 bW dF uH IntKind.wrap WR Code.rounds WT KO
theorem d2i {F:List HP} {l:List Miss} {i:Nat} {acks own:Int} {p:Option Addr} {c:Nat} (hi:i<l.length) (hn:l.length≤4096) :
    FnF Tryz.prog 242 [.pointer (some ⟨pb (.slice p l.length c),po (.slice p l.length c)+i*15,none⟩),.int .i64 acks,.int .i64 own] [Own 182 15 (.slice p l.length c) l.length (aC jF l)] F
      (fun r L'=>r= .bool (a5y l[i] acks own)∧L'=[Own 182 15 (.slice p l.length c) l.length (aC jF l)]):=by
  refine FnF.mk' Tryz.func242 rfl rfl Tryz.ntmps242 rfl ?_
  unfold a5y
  by_cases h1:l[i].needs= -1
  · by_cases h2:acks<l[i].got
    · rw [decide_eq_false (om),Bool.false_and]
      repeat first|refine gd ?_|intro _
      exact aU
    · rw [decide_eq_true (om),Bool.true_and]
      by_cases h3:l[i].kind=2
      · rw [if_pos h3]
        repeat first|refine gd ?_|intro _
        exact aU
      · rw [if_neg h3]
        by_cases h4:acks=0
        · by_cases h5:own=1
          · repeat first|refine gd ?_|intro _
            (apply aA rfl rfl bB;(first|exact lW|exact ⟨by simp [h4,h5]<;>omega,rfl⟩);exact iC)
          · repeat first|refine gd ?_|intro _
            (apply aA rfl rfl bB;(first|exact lW|exact ⟨by simp [h4,h5]<;>omega,rfl⟩);exact iC)
        · repeat first|refine gd ?_|intro _
          (apply aA rfl rfl bB;(first|exact lW|exact ⟨by simp [h4]<;>omega,rfl⟩);exact iC)
  · rw [decide_eq_false (om),Bool.false_and]
    repeat first|refine gd ?_|intro _
    exact aU
end
section
theorem e8n {l:List Miss} {i:Nat} (hi:i<l.length) (x:Int):aQ (aC jF l) (i*15+2) [.int .i64 x]=aC jF (l.set i { l[i] with needs:=x}):=
  cZ (enc:=jF) (n:=15) (fun _=>rfl) l i hi (j:=2) (cs:=[.int .i64 x]) (x:={ l[i] with needs:=x}) (by simp) rfl
theorem e8o {l:List Miss} {i:Nat} (hi:i<l.length) (x:Int):aQ (aC jF l) (i*15+3) [.int .i64 x]=aC jF (l.set i { l[i] with got:=x}):=
  cZ (enc:=jF) (n:=15) (fun _=>rfl) l i hi (j:=3) (cs:=[.int .i64 x]) (x:={ l[i] with got:=x}) (by simp) rfl
theorem e8p {l:List Miss} {i:Nat} (hi:i<l.length) (x:Int):aQ (aC jF l) (i*15+4) [.int .i64 x]=aC jF (l.set i { l[i] with own:=x}):=
  cZ (enc:=jF) (n:=15) (fun _=>rfl) l i hi (j:=4) (cs:=[.int .i64 x]) (x:={ l[i] with own:=x}) (by simp) rfl
theorem e8q {l:List Miss} {i:Nat} (hi:i<l.length) (x:Words):aQ (aC jF l) (i*15+5) (wc x)=aC jF (l.set i { l[i] with words:=x}):=
  cZ (enc:=jF) (n:=15) (fun _=>rfl) l i hi (j:=5) (cs:=wc x) (x:={ l[i] with words:=x}) (by simp) rfl
theorem e5m {l:List Miss} {i:Nat} (hi:i<l.length) (x:Bool):aQ (aC jF l) (i*15+13) [.bool x]=aC jF (l.set i { l[i] with granted:=x}):=
  cZ (enc:=jF) (n:=15) (fun _=>rfl) l i hi (j:=13) (cs:=[.bool x]) (x:={ l[i] with granted:=x}) (by simp) rfl
theorem e5n {l:List Miss} {i:Nat} (hi:i<l.length) (x:Bool):aQ (aC jF l) (i*15+14) [.bool x]=aC jF (l.set i { l[i] with owes:=x}):=
  cZ (enc:=jF) (n:=15) (fun _=>rfl) l i hi (j:=14) (cs:=[.bool x]) (x:={ l[i] with owes:=x}) (by simp) rfl
def vQ (l:List Miss) (line:Int):Int:=if cR l line then (if (bV l line).kind=1∨(bV l line).needs=(bV l line).got then 7 else 0) else 5
def nJ (l:List Miss) (line:Int):List Miss:=if vQ l line=0 then l.set (qS l line).toNat { bV l line with got:=(bV l line).got+1} else l
attribute [local irreducible] Exit.then Exit.inBlock Code.wp WC WO WE WQ V bF tV d3 bW dF uH IntKind.wrap WR Code.rounds WT KO
theorem d9y {F:List HP} {b:Nat} {room:Int} {l:List Miss} {line:Int} (hg:∀ m∈l,-9223372036854775808≤m.got∧m.got≤9223372036854775806) :
    FnF Tryz.prog 224 [.pointer (some ⟨b,0,none⟩),.int .i64 line] [c6w b room l] F (fun r L'=>r= .int .i64 (vQ l line)∧L'=[c6w b room (nJ l line)]):=by
  refine FnF.mk' Tryz.func224 rfl rfl Tryz.ntmps224 rfl ?_
  refine iF fun p c hl=>?_
  have hO:=fun F=>t6 (F:=F) (b:=b) (room:=room) (l:=l) (line:=line) (p:=p) (c:=c) (om)
  cases h:cR l line with
  |false=>
   have e1:vQ l line=5:=by unfold vQ;rw [h];rfl
   have e2:nJ l line=l:=by unfold nJ;rw [e1];rfl
   rw [e1,e2]
   rw [h,if_neg Bool.false_ne_true] at hO
   repeat first|refine gd ?_|intro _|refine aD @hO ?_
   (apply aA rfl rfl bB)
   · exact ⟨rfl,rfl⟩
   · (apply dR;(focus (exact aB));all_goals exact mG)
  |true=>
   obtain ⟨i,hi,e0,ea,_⟩:=nV h
   rw [if_pos h,e0,Int.toNat_natCast] at hO
   have hgi:=hg _ (List.getElem_mem hi)
   by_cases h1:l[i].kind=1
   · have e1:vQ l line=7:=by unfold vQ;rw [if_pos h,ea,if_pos (.inl h1)]
     have e2:nJ l line=l:=by unfold nJ;rw [e1];rfl
     rw [e1,e2]
     repeat' (first|refine gd ?_|intro _|refine aD @hO ?_|refine mH ?_ ?_|fail)
     all_goals (apply aA rfl rfl bB)
     all_goals first|exact ⟨rfl,rfl⟩|(apply dR;(focus (exact aB));all_goals exact mG)
   · by_cases h2:l[i].needs=l[i].got
     · have e1:vQ l line=7:=by unfold vQ;rw [if_pos h,ea,if_pos (.inr h2)]
       have e2:nJ l line=l:=by unfold nJ;rw [e1];rfl
       rw [e1,e2]
       repeat' (first|refine gd ?_|intro _|refine aD @hO ?_|refine mH ?_ ?_|fail)
       all_goals (apply aA rfl rfl bB)
       all_goals first|exact ⟨rfl,rfl⟩|(apply dR;(focus (exact aB));all_goals exact mG)
     · have e1:vQ l line=0:=by unfold vQ;rw [if_pos h,ea,if_neg (om)]
       have e2:nJ l line=l.set i { l[i] with got:=l[i].got+1}:=by unfold nJ;rw [if_pos e1,e0,Int.toNat_natCast,ea]
       rw [e1,e2]
       repeat' (first|refine gd ?_|intro _|refine aD @hO ?_|refine mH ?_ ?_|fail)
       all_goals rw [e8o hi]
       all_goals (apply aA rfl rfl bB)
       all_goals first|exact ⟨rfl,rfl⟩|(rw [show l.length=(l.set i { l[i] with got:=l[i].got+1}).length by simp];(apply dR;(focus (exact aB));all_goals exact mG))
end
section
attribute [local irreducible] Exit.then Exit.inBlock Code.wp WC WO WE WQ V bF tV d3 bW dF uH IntKind.wrap WR Code.rounds WT KO
theorem vB {Q P:Prop} (k:Q) (h:Hid Q→P:=by
  intro k
  first
  |(refine aG ?_;apply mT (id:=6) .true [] (pl:= .p 0 <| .p 1 <| .p 2 <| .p 3 <| .p 4 <| .p 6 <| .p 7 <| .e true [(5,.e true [(8,.p 9 <| .p 10 <| .e false [(11,.p 12 <| .p 13 <| .e false [(14,.done)])])]),(8,.p 9 <| .p 10 <| .e false [(5,.e false [(11,.p 12 <| .p 13 <| .e false [(14,.done)])]),(11,.e false [(5,.p 12 <| .p 13 <| .e false [(14,.done)])])])]);exact pN;kernel_rfl;kernel_rfl;exact Ent.nil;exact k.out)):P:=h ⟨k⟩
theorem b8c {F:List HP} {b:Nat} {room:Int} {l:List Miss} {line acks own:Int} {w:Words} :
    FnF Tryz.prog 222 [.pointer (some ⟨b,0,none⟩),.int .i64 line,.int .i64 acks,.int .i64 own,wv w] [c6w b room l] F (fun r L'=>r= .int .i64 (iB l line acks own)∧L'=[c6w b room (iS l line acks own w)]):=by
  refine FnF.mk' Tryz.func222 rfl rfl Tryz.ntmps222 rfl ?_
  refine iF fun p c hl=>?_
  have hO:=fun F=>t6 (F:=F) (b:=b) (room:=room) (l:=l) (line:=line) (p:=p) (c:=c) (om)
  cases h:cR l line with
  |false=>
   have e1:iB l line acks own=5:=by unfold iB;rw [h];rfl
   have e2:iS l line acks own w=l:=by unfold iS;rw [e1];rfl
   rw [e1,e2]
   rw [h,if_neg Bool.false_ne_true] at hO
   repeat first|refine go ?_|intro _|refine vB ?_|refine cM ?_|refine aD @hO ?_
   (apply aA rfl rfl bB)
   · exact ⟨rfl,rfl⟩
   · (apply dR;(focus (exact aB));all_goals exact mG)
  |true=>
   obtain ⟨i,hi,e0,ea,_⟩:=nV h
   rw [if_pos h,e0,Int.toNat_natCast] at hO
   have hF:=fun F=>d2i (F:=F) (l:=l) (i:=i) (acks:=acks) (own:=own) (p:=p) (c:=c) hi (om)
   cases hf:a5y l[i] acks own with
   |false=>
    rw [hf] at hF
    have e1:iB l line acks own=7:=by unfold iB;rw [if_pos h,ea,hf];rfl
    have e2:iS l line acks own w=l:=by unfold iS;rw [e1];rfl
    rw [e1,e2]
    repeat first|refine go ?_|intro _|refine vB ?_|refine cM ?_|refine aD @hO ?_|refine aD @hF ?_
    (apply aA rfl rfl bB)
    · exact ⟨rfl,rfl⟩
    · (apply dR;(focus (exact aB));all_goals exact mG)
   |true=>
    rw [hf] at hF
    have e1:iB l line acks own=0:=by unfold iB;rw [if_pos h,ea,hf];rfl
    have e2:iS l line acks own w=l.set i { l[i] with needs:=acks,own:=own,words:=w}:=by unfold iS;rw [if_pos e1,e0,Int.toNat_natCast,ea]
    rw [e1,e2]
    have hs:∀ x y,i<((l.set i x).set i y).length:=fun x y=>by simpa using hi
    have hs1:∀ x,i<(l.set i x).length:=fun x=>by simpa using hi
    repeat' (first|refine go ?_|intro _|refine vB ?_|refine cM ?_|refine aD @hO ?_|refine aD @hF ?_|refine mH ?_ ?_|fail)
    all_goals simp only [e8n,e8p,e8q,hi,hs,hs1,List.set_set,List.getElem_set_self]
    all_goals (apply aA rfl rfl bB)
    all_goals first|exact ⟨rfl,rfl⟩|(rw [show l.length=(l.set i { l[i] with needs:=acks,own:=own,words:=w}).length by simp];(apply dR;(focus (exact aB));all_goals exact mG))
end
section
def wV (l:List Miss) (line:Int):Bool:=cR l line&& !(bV l line).owes&& decide ((bV l line).needs=(bV l line).got)
def uV (l:List Miss) (line:Int):Miss:=if wV l line then bV l line else .zero
def rM (l:List Miss) (line:Int):List Miss:=if wV l line then l.set (qS l line).toNat { bV l line with owes:=true} else l
attribute [local irreducible] Exit.then Exit.inBlock Code.wp WC WO WE WQ V bF tV d3 bW dF uH IntKind.wrap WR Code.rounds WT KO
theorem d9z {F:List HP} {b:Nat} {room:Int} {l:List Miss} {line:Int} :
    FnF Tryz.prog 241 [.pointer (some ⟨b,0,none⟩),.int .i64 line] [c6w b room l] F (fun r L'=>r= .tuple [e9v (uV l line),.bool (wV l line)].toArray∧L'=[c6w b room (rM l line)]):=by
  refine FnF.mk' Tryz.func241 rfl rfl Tryz.ntmps241 rfl ?_
  refine iF fun p c hl=>?_
  have hO:=fun F=>t6 (F:=F) (b:=b) (room:=room) (l:=l) (line:=line) (p:=p) (c:=c) (om)
  cases h:cR l line with
  |false=>
   have e1:wV l line=false:=by unfold wV;rw [h];rfl
   have e2:rM l line=l:=by unfold rM;rw [e1];rfl
   have e3:uV l line= .zero:=by unfold uV;rw [e1];rfl
   rw [e1,e2,e3]
   rw [h,if_neg Bool.false_ne_true] at hO
   repeat' (first|refine gd ?_|intro _|refine aD @hO ?_|refine mH ?_ ?_|fail)
   all_goals (apply aA rfl rfl bB)
   all_goals first|exact ⟨rfl,rfl⟩|(apply dR;(focus (exact aB));all_goals exact mG)
  |true=>
   obtain ⟨i,hi,e0,ea,_⟩:=nV h
   rw [if_pos h,e0,Int.toNat_natCast] at hO
   cases h1:l[i].owes with
   |true=>
    have e1:wV l line=false:=by unfold wV;rw [ea,h1];simp
    have e2:rM l line=l:=by unfold rM;rw [e1];rfl
    have e3:uV l line= .zero:=by unfold uV;rw [e1];rfl
    rw [e1,e2,e3]
    repeat' (first|refine gd ?_|intro _|refine aD @hO ?_|refine mH ?_ ?_|fail)
    all_goals (apply aA rfl rfl bB)
    all_goals first|exact ⟨rfl,rfl⟩|(apply dR;(focus (exact aB));all_goals exact mG)
   |false=>
    by_cases h2:l[i].needs=l[i].got
    · have e1:wV l line=true:=by unfold wV;rw [h,ea,h1];simp [h2]
      have e2:rM l line=l.set i { l[i] with owes:=true}:=by unfold rM;rw [if_pos e1,e0,Int.toNat_natCast,ea]
      have e3:uV l line=l[i]:=by unfold uV;rw [if_pos e1,ea]
      rw [e1,e2,e3]
      repeat' (first|refine gd ?_|intro _|refine aD @hO ?_|refine mH ?_ ?_|fail)
      all_goals rw [e5n hi]
      all_goals (apply aA rfl rfl bB)
      all_goals first|exact ⟨rfl,rfl⟩|(rw [show l.length=(l.set i { l[i] with owes:=true}).length by simp];(apply dR;(focus (exact aB));all_goals exact mG))
    · have e1:wV l line=false:=by unfold wV;rw [h,ea,h1];simp [h2]
      have e2:rM l line=l:=by unfold rM;rw [e1];rfl
      have e3:uV l line= .zero:=by unfold uV;rw [e1];rfl
      rw [e1,e2,e3]
      repeat' (first|refine gd ?_|intro _|refine aD @hO ?_|refine mH ?_ ?_|fail)
      all_goals (apply aA rfl rfl bB)
      all_goals first|exact ⟨rfl,rfl⟩|(apply dR;(focus (exact aB));all_goals exact mG)
theorem c7m {F:List HP} {b:Nat} {room:Int} {l:List Miss} :
    FnF Tryz.prog 153 [.pointer (some ⟨b,0,none⟩)] [c6w b room l] F (fun r L'=>r= .tuple [.int .i64 (if 0≤kG l then (l.getD (kG l).toNat .zero).line else 0),.bool (decide (0≤kG l))].toArray∧L'=[c6w b room l]):=by
  have hat:∀ F (p:Option Addr) (c:Nat),l.length≤4096→FnF Tryz.prog 199 [.pointer (some ⟨b,0,none⟩),.func (.func 200) [].toArray [].toArray] [Cells b 184 [.int .i64 room,.slice p l.length c],Own 182 15 (.slice p l.length c) l.length (aC jF l)] F
   (fun r L'=>r= .int .i64 (kG l)∧L'=[Cells b 184 [.int .i64 room,.slice p l.length c],Own 182 15 (.slice p l.length c) l.length (aC jF l)]):=fun F p c hn=>by
    have hI:=fun F (k:RdL F 15 (.slice p l.length c) l.length (aC jF l))=>lQ (F:=F) (v:= .slice p l.length c) (l:=l) (fk:=200) (first:=[]) (cap:=[]) (p:=fun m=>m.owes) k (om) (fun x _=>c0i)
    refine FnF.mk' Tryz.func199 rfl rfl Tryz.ntmps199 rfl ?_
    repeat first|refine gd ?_|intro _|refine aD @hI ?_
    (apply aA rfl rfl bB;(first|exact lW|exact ⟨by simp [kG]<;>omega,rfl⟩);exact iC)
  refine FnF.mk' Tryz.func153 rfl rfl Tryz.ntmps153 rfl ?_
  refine iF fun p c hl=>?_
  have hA:=fun F=>hat F p c (om)
  by_cases h:0≤kG l
  · obtain ⟨i,hi,e0,_⟩:=cL h
    have e0':kG l=i:=e0
    rw [if_pos h,decide_eq_true h]
    rw [e0'] at hA
    rw [e0',Int.toNat_natCast,←kI hi]
    repeat first|refine gd ?_|intro _|refine aD @hA ?_
    (apply aA rfl rfl bB)
    · exact ⟨rfl,rfl⟩
    · (apply dR;(focus (exact aB));all_goals exact mG)
  · have e0:kG l= -1:=(dY h).1
    rw [if_neg h,decide_eq_false h]
    rw [e0] at hA
    repeat first|refine gd ?_|intro _|refine aD @hA ?_
    (apply aA rfl rfl bB)
    · exact ⟨rfl,rfl⟩
    · (apply dR;(focus (exact aB));all_goals exact mG)
end
section
theorem b1y {α:Type} {q:α→Bool} {l:List α} {i:Nat} (hi:i<l.length) {x:α} (h:q x=q l[i]):aV q (l.set i x)=aV q l:=by
  have key:∀ j (hj:j<l.length),∀ hj':j<(l.set i x).length,q (l.set i x)[j]=q l[j]:=fun j hj hj'=>by
    by_cases e:i=j
    · subst e;rw [List.getElem_set_self,h]
    · rw [List.getElem_set_ne e]
  by_cases hn:0≤aV q l
  · obtain ⟨j,hj,e,h1,h2⟩:=cL hn
    have hj':j<(l.set i x).length:=by rw [List.length_set];exact hj
    rw [e]
    refine jK hj' (fun k hk hlt=>?_) ?_
    · rw [List.length_set] at hk
      rw [key k hk];exact h2 k hk hlt
    · rw [key j hj];exact h1
  · obtain ⟨e,h1⟩:=dY hn
    rw [e]
    refine fX fun j hj _=>?_
    rw [List.length_set] at hj
    rw [key j hj];exact h1 _ (List.getElem_mem hj)
def gZ (l:List Miss) (line acks:Int):List Miss:=if iB l line acks 4=0 then l.set (qS l line).toNat { bV l line with needs:=acks,own:=4,words:= .zero,granted:=true} else l
attribute [local irreducible] Exit.then Exit.inBlock Code.wp WC WO WE WQ V bF tV d3 bW dF uH IntKind.wrap WR Code.rounds WT KO
theorem c7n {F:List HP} {b:Nat} {room:Int} {l:List Miss} {line acks:Int} :
    FnF Tryz.prog 223 [.pointer (some ⟨b,0,none⟩),.int .i64 line,.int .i64 acks] [c6w b room l] F (fun r L'=>r= .int .i64 (iB l line acks 4)∧L'=[c6w b room (gZ l line acks)]):=by
  have hD:=fun F=>b8c (F:=F) (b:=b) (room:=room) (l:=l) (line:=line) (acks:=acks) (own:=4) (w:= .zero)
  refine FnF.mk' Tryz.func223 rfl rfl Tryz.ntmps223 rfl ?_
  by_cases h:iB l line acks 4=0
  · have hin:cR l line=true:=by
      cases e:cR l line with
      |true=>rfl
      |false=>unfold iB at h;rw [e] at h;cases h
    obtain ⟨i,hi,e0,ea,el⟩:=nV hin
    have e1:iS l line acks 4 .zero=l.set i { l[i] with needs:=acks,own:=4,words:= .zero}:=by unfold iS;rw [if_pos h,e0,Int.toNat_natCast,ea]
    have e2:gZ l line acks=l.set i { l[i] with needs:=acks,own:=4,words:= .zero,granted:=true}:=by unfold gZ;rw [if_pos h,e0,Int.toNat_natCast,ea]
    have e3:qS (l.set i { l[i] with needs:=acks,own:=4,words:= .zero}) line=i:=by
      have h9:=b1y (q:=fun m:Miss=>decide (m.line=line)) (l:=l) (i:=i) (x:={ l[i] with needs:=acks,own:=4,words:= .zero}) hi rfl
      exact h9.trans e0
    have e4:cR (l.set i { l[i] with needs:=acks,own:=4,words:= .zero}) line=true:=by unfold cR;rw [e3];simp
    rw [h,e1] at hD
    rw [h,e2]
    have hi2:i<(l.set i { l[i] with needs:=acks,own:=4,words:= .zero}).length:=by rw [List.length_set];exact hi
    repeat first|refine gd ?_|intro _|refine aD @hD ?_
    (first|refine aW (c6w b room (l.set i { l[i] with needs:=acks,own:=4,words:= .zero})) ?_|refine aX (c6w b room (l.set i { l[i] with needs:=acks,own:=4,words:= .zero})) ?_|refine aY (c6w b room (l.set i { l[i] with needs:=acks,own:=4,words:= .zero})) ?_)
    refine pX fun p c hl=>?_
    have hO:=fun F=>t6 (F:=F) (b:=b) (room:=room) (l:=l.set i { l[i] with needs:=acks,own:=4,words:= .zero}) (line:=line) (p:=p) (c:=c) (om)
    rw [if_pos e4,e3,Int.toNat_natCast] at hO
    repeat first|refine gd ?_|intro _|refine aD @hO ?_
    rw [e5m hi2]
    simp only [List.set_set,List.getElem_set_self]
    (apply aA rfl rfl bB)
    · exact ⟨rfl,rfl⟩
    · rw [show (l.set i { l[i] with needs:=acks,own:=4,words:= .zero}).length=(l.set i { l[i] with needs:=acks,own:=4,words:= .zero,granted:=true}).length by simp] at hl ⊢
      (apply dR;(focus (exact aB));all_goals exact mG)
  · have e2:gZ l line acks=l:=if_neg h
    have e1:iS l line acks 4 .zero=l:=if_neg h
    rw [e1] at hD
    rw [e2]
    repeat first|refine gd ?_|intro _|refine aD @hD ?_
    exact aU
end
end Go.Sx
