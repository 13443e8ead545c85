/- Msh, Msh2, Msh3, Msh4, Msh5, Msh6: several of my texts as one. My own work. -/
import Derived.Test.YtjihlpjnebdiiaaGreatZr
import Derived.Test.YtjihlpjnebdiiaaGreatZaa
set_option linter.unusedVariables false
set_option linter.unusedSectionVars false
set_option linter.unusedSimpArgs false
/- What files of misses do. The program's. My own work. -/
namespace Go.Sx
open Go Go.Proofs
def misP (l:List Miss) (line:Int):Int:=indexBy (fun m=>decide (m.line=line)) l
def misAt (l:List Miss) (line:Int):Miss:=l.getD (misP l line).toNat .zero
def misIn (l:List Miss) (line:Int):Bool:=decide (0≤misP l line)
def openE (room:Int) (l:List Miss) (line kind:Int):Int:=if kind≠1∧kind≠2 then 1 else if misIn l line then 6 else if (l.length:Int)=room then 4 else 0
def openL (room:Int) (l:List Miss) (line kind:Int):List Miss:=if openE room l line kind=0 then l++[⟨line,kind,-1,0,0,.zero,false,false⟩] else l
def owingP (l:List Miss):Int:=indexBy (fun m=>m.owes) l
theorem misIn_t {l:List Miss} {line:Int} (h:misIn l line=true):∃ i:Nat,∃ hi:i<l.length,misP l line=i∧misAt l line=l[i]∧l[i].line=line:=by
  obtain ⟨i,hi,h1,h2,_⟩:=indexBy_nat (of_decide_eq_true h)
  refine ⟨i,hi,h1,?_,by simpa using h2⟩
  unfold misAt misP
  rw [h1];simp [hi]
theorem misIn_f {l:List Miss} {line:Int} (h:misIn l line=false):misP l line= -1:=(indexBy_neg (of_decide_eq_false h)).1
set_option maxRecDepth 100000
set_option maxHeartbeats 4000000
attribute [local irreducible] Go.Exit.then Go.Exit.inBlock Go.Code.wp WC WO WE WQ V LoopQ FnQ Sat Star band bor IntKind.wrap WR Code.rounds WT KO
abbrev Msh (b:Nat) (room:Int) (l:List Miss):HP:=RL 184 182 15 msc' b room l
theorem msh_New {F:List HP} {room:Int} (h:1≤room∧room≤8):FnF Tryz.prog 93 [.int .i64 room] [] F (fun r L'=>∃ b,r= .tuple [.pointer (some ⟨b,0,none⟩),.int .i64 0].toArray∧L'=[Msh b room []]):=by
  refine FnF.mk' Tryz.func93 rfl rfl Tryz.ntmps93 rfl ?_
  repeat (first|refine gd ?_|intro _)
  (apply WE_ret rfl rfl zqR)
  · exact ⟨_,rfl,rfl⟩
  · exact RL_in (l:=[]) (Ent.cons (own_empty Ent.refl)) rfl rfl (by simp;omega)
theorem msh_of1 {F:List HP} {b:Nat} {line:Int} {T:TypeId} {C:List Value→List HP} {m:Miss} (k:CellsAt b F T [.int .i64 line] C) :
    FnF Tryz.prog 231 [msv m,.pointer (some ⟨b,0,none⟩)] [] F (fun r L'=>r= .bool (decide (m.line=line))∧L'=[]):=by
  refine FnF.mk' Tryz.func231 rfl rfl Tryz.ntmps231 rfl ?_
  repeat (first|refine gd ?_|intro _)
  exact fin0
theorem msh_owing1 {F:List HP} {m:Miss}:FnF Tryz.prog 200 [msv m] [] F (fun r L'=>r= .bool m.owes∧L'=[]):=by
  refine FnF.mk' Tryz.func200 rfl rfl Tryz.ntmps200 rfl ?_
  repeat (first|refine gd ?_|intro _)
  exact fin0
theorem msh_List {F:List HP} {b:Nat} {room:Int} {l:List Miss}:FnF Tryz.prog 58 [.pointer (some ⟨b,0,none⟩)] [Msh b room l] F (fun r L'=>∃ p c,r= .slice p l.length c∧L'=[Own 182 15 (.slice p l.length c) l.length (flat msc' l),Msh b room l]):=by
  refine FnF.mk' Tryz.func58 rfl rfl Tryz.ntmps58 rfl ?_
  refine RL_open fun p c hl=>?_
  repeat (first|refine gd ?_|intro _|refine cal @sl_Clone_miss ?_)
  (apply WE_ret rfl rfl zqR)
  · exact ⟨_,_,rfl,rfl⟩
  · exact enx @RL_in
theorem msh_atO {F:List HP} {b bl:Nat} {room:Int} {l:List Miss} {line:Int} {p:Option Addr} {c:Nat} {C:List Value→List HP} (k1:CellsAt bl F 3 [.int .i64 line] C) (hn:l.length≤4096) :
    FnF Tryz.prog 199 [.pointer (some ⟨b,0,none⟩),.func (.func 231) [].toArray [.pointer (some ⟨bl,0,none⟩)].toArray] [Cells b 184 [.int .i64 room,.slice p l.length c],Own 182 15 (.slice p l.length c) l.length (flat msc' l)] F
      (fun r L'=>r= .int .i64 (misP l line)∧L'=[Cells b 184 [.int .i64 room,.slice p l.length c],Own 182 15 (.slice p l.length c) l.length (flat msc' l)]):=by
  have hI:=fun F (C:List Value→List HP) (k1':CellsAt bl F 3 [.int .i64 line] C) (k:RdL F 15 (.slice p l.length c) l.length (flat msc' l))=>
    sl_IndexFunc_miss (F:=F) (v:= .slice p l.length c) (l:=l) (fk:=231) (first:=[]) (cap:=[.pointer (some ⟨bl,0,none⟩)]) (p:=fun m=>decide (m.line=line)) k (by omega) (fun x _=>msh_of1 k1')
  refine FnF.mk' Tryz.func199 rfl rfl Tryz.ntmps199 rfl ?_
  repeat (first|refine gd ?_|intro _|refine cal @hI ?_)
  (apply WE_ret rfl rfl zqR;(first|exact zqL|exact ⟨by simp [misP]<;>omega,rfl⟩);exact zqN)
theorem msh_ofO {F:List HP} {b:Nat} {room:Int} {l:List Miss} {line:Int} {p:Option Addr} {c:Nat} (hn:l.length≤4096) :
    FnF Tryz.prog 201 [.pointer (some ⟨b,0,none⟩),.int .i64 line] [Cells b 184 [.int .i64 room,.slice p l.length c],Own 182 15 (.slice p l.length c) l.length (flat msc' l)] F
      (fun r L'=>r= .pointer (if misIn l line then some ⟨pb (.slice p l.length c),po (.slice p l.length c)+(misP l line).toNat*15,none⟩ else none)∧L'=[Cells b 184 [.int .i64 room,.slice p l.length c],Own 182 15 (.slice p l.length c) l.length (flat msc' l)]):=by
  have hA:=fun F (bl:Nat) (C:List Value→List HP) (k1:CellsAt bl F 3 [.int .i64 line] C)=>msh_atO (F:=F) (b:=b) (room:=room) (l:=l) (p:=p) (c:=c) k1 hn
  cases h:misIn l line with
  |true=>
   obtain ⟨i,hi,e1,_,_⟩:=misIn_t h
   rw [e1] at hA
   rw [e1,if_pos rfl,Int.toNat_natCast]
   refine FnF.mk' Tryz.func201 rfl rfl Tryz.ntmps201 rfl ?_
   repeat (first|refine gd ?_|intro _|refine cal @hA ?_)
   exact fin0
  |false=>
   rw [misIn_f h] at hA
   rw [if_neg Bool.false_ne_true]
   refine FnF.mk' Tryz.func201 rfl rfl Tryz.ntmps201 rfl ?_
   repeat (first|refine gd ?_|intro _|refine cal @hA ?_)
   exact fin0
end Go.Sx

/- What files of misses do, second part. The program's. My own work. -/
namespace Go.Sx
open Go Go.Proofs
def misGet (l:List Miss) (line:Int):Miss:=if misIn l line then misAt l line else .zero
def fitsM (m:Miss) (acks own:Int):Bool:=decide (m.needs= -1∧m.got≤acks)&& (if m.kind=2 then decide (own=4) else decide (acks=0∧(own=1∨own=2)))
def dataE (l:List Miss) (line acks own:Int):Int:=if misIn l line then (if fitsM (misAt l line) acks own then 0 else 7) else 5
def dataL (l:List Miss) (line acks own:Int) (w:Words):List Miss:=if dataE l line acks own=0 then l.set (misP l line).toNat { misAt l line with needs:=acks,own:=own,words:=w} else l
set_option maxRecDepth 100000
set_option maxHeartbeats 4000000
attribute [local irreducible] Go.Exit.then Go.Exit.inBlock Go.Code.wp WC WO WE WQ V LoopQ FnQ Sat Star band bor IntKind.wrap WR Code.rounds WT KO
theorem msh_Open {F:List HP} {b:Nat} {room:Int} {l:List Miss} {line kind:Int} :
    FnF Tryz.prog 163 [.pointer (some ⟨b,0,none⟩),.int .i64 line,.int .i64 kind] [Msh b room l] F (fun r L'=>r= .int .i64 (openE room l line kind)∧L'=[Msh b room (openL room l line kind)]):=by
  refine FnF.mk' Tryz.func163 rfl rfl Tryz.ntmps163 rfl ?_
  by_cases hk:kind≠1∧kind≠2
  · have e1:openE room l line kind=1:=if_pos hk
    have e2:openL room l line kind=l:=by unfold openL;rw [e1];rfl
    obtain ⟨hk1,hk2⟩:=hk
    rw [e1,e2]
    repeat (first|refine gd ?_|intro _)
    exact fin0
  · refine RL_open fun p c hl=>?_
    have hO:=fun F=>msh_ofO (F:=F) (b:=b) (room:=room) (l:=l) (line:=line) (p:=p) (c:=c) (by omega)
    have hkk:kind=1∨¬kind=1∧kind=2:=by omega
    cases h:misIn l line with
    |true=>
     have e1:openE room l line kind=6:=by unfold openE;rw [if_neg hk,if_pos h]
     have e2:openL room l line kind=l:=by unfold openL;rw [e1];rfl
     rw [e1,e2]
     rw [if_pos h] at hO
     rcases hkk with h1|⟨h1,h2⟩
     · repeat (first|refine gd ?_|intro _|refine cal @hO ?_)
       (apply WE_ret rfl rfl zqR)
       · exact ⟨rfl,rfl⟩
       · (apply RL_in;(focus (exact entu0));all_goals exact zqS)
     · repeat (first|refine gd ?_|intro _|refine cal @hO ?_)
       (apply WE_ret rfl rfl zqR)
       · exact ⟨rfl,rfl⟩
       · (apply RL_in;(focus (exact entu0));all_goals exact zqS)
    |false=>
     rw [h,if_neg Bool.false_ne_true] at hO
     by_cases hf:(l.length:Int)=room
     · have e1:openE room l line kind=4:=by unfold openE;rw [if_neg hk,h,if_neg Bool.false_ne_true,if_pos hf]
       have e2:openL room l line kind=l:=by unfold openL;rw [e1];rfl
       rw [e1,e2]
       rcases hkk with h1|⟨h1,h2⟩
       · repeat (first|refine gd ?_|intro _|refine cal @hO ?_)
         (apply WE_ret rfl rfl zqR)
         · exact ⟨rfl,rfl⟩
         · (apply RL_in;(focus (exact entu0));all_goals exact zqS)
       · repeat (first|refine gd ?_|intro _|refine cal @hO ?_)
         (apply WE_ret rfl rfl zqR)
         · exact ⟨rfl,rfl⟩
         · (apply RL_in;(focus (exact entu0));all_goals exact zqS)
     · have e1:openE room l line kind=0:=by unfold openE;rw [if_neg hk,h,if_neg Bool.false_ne_true,if_neg hf]
       have e2:openL room l line kind=l++[⟨line,kind,-1,0,0,.zero,false,false⟩]:=by unfold openL;rw [e1];rfl
       rw [e1,e2]
       rcases hkk with h1|⟨h1,h2⟩
       · repeat (first|refine gd ?_|intro _|refine cal @hO ?_)
         (apply WE_ret rfl rfl zqR)
         · exact ⟨rfl,rfl⟩
         · (apply RL_in;(focus (exact entu0));all_goals (first|rfl|(with_reducible assumption)|(simp [flat_append,flat_one];done)|(simp [flat_append,flat_one];omega)|omega|(constructor<;>(simp [flat_append,flat_one])<;>omega)))
       · repeat (first|refine gd ?_|intro _|refine cal @hO ?_)
         (apply WE_ret rfl rfl zqR)
         · exact ⟨rfl,rfl⟩
         · (apply RL_in;(focus (exact entu0));all_goals (first|rfl|(with_reducible assumption)|(simp [flat_append,flat_one];done)|(simp [flat_append,flat_one];omega)|omega|(constructor<;>(simp [flat_append,flat_one])<;>omega)))
theorem msh_Get {F:List HP} {b:Nat} {room:Int} {l:List Miss} {line:Int} :
    FnF Tryz.prog 158 [.pointer (some ⟨b,0,none⟩),.int .i64 line] [Msh b room l] F (fun r L'=>r= .tuple [msv (misGet l line),.bool (misIn l line)].toArray∧L'=[Msh b room l]):=by
  refine FnF.mk' Tryz.func158 rfl rfl Tryz.ntmps158 rfl ?_
  refine RL_open fun p c hl=>?_
  have hO:=fun F=>msh_ofO (F:=F) (b:=b) (room:=room) (l:=l) (line:=line) (p:=p) (c:=c) (by omega)
  cases h:misIn l line with
  |true=>
   obtain ⟨i,hi,e1,e2,_⟩:=misIn_t h
   have e3:misGet l line=l[i]:=by unfold misGet;rw [if_pos h,e2]
   rw [e3]
   rw [if_pos h,e1,Int.toNat_natCast] at hO
   repeat (first|refine gd ?_|intro _|refine cal @hO ?_)
   (apply WE_ret rfl rfl zqR)
   · exact ⟨rfl,rfl⟩
   · (apply RL_in;(focus (exact entu0));all_goals exact zqS)
  |false=>
   have e3:misGet l line= .zero:=by unfold misGet;rw [h];rfl
   rw [e3]
   rw [h,if_neg Bool.false_ne_true] at hO
   repeat (first|refine gd ?_|intro _|refine cal @hO ?_)
   (apply WE_ret rfl rfl zqR)
   · exact ⟨rfl,rfl⟩
   · (apply RL_in;(focus (exact entu0));all_goals exact zqS)
end Go.Sx

/- What files of misses do, third part. The program's. My own work. -/
namespace Go.Sx
open Go Go.Proofs
set_option maxRecDepth 100000
set_option maxHeartbeats 4000000
attribute [local irreducible] Go.Exit.then Go.Exit.inBlock Go.Code.wp WC WO WE WQ V LoopQ FnQ Sat Star band bor IntKind.wrap WR Code.rounds WT KO
theorem msh_fits {F:List HP} {l:List Miss} {i:Nat} {acks own:Int} {p:Option Addr} {c:Nat} (hi:i<l.length) (hn:l.length≤4096) :
    FnF Tryz.prog 242 [.pointer (some ⟨pb (.slice p l.length c),po (.slice p l.length c)+i*15,none⟩),.int .i64 acks,.int .i64 own] [Own 182 15 (.slice p l.length c) l.length (flat msc' l)] F
      (fun r L'=>r= .bool (fitsM l[i] acks own)∧L'=[Own 182 15 (.slice p l.length c) l.length (flat msc' l)]):=by
  refine FnF.mk' Tryz.func242 rfl rfl Tryz.ntmps242 rfl ?_
  unfold fitsM
  by_cases h1:l[i].needs= -1
  · by_cases h2:acks<l[i].got
    · rw [decide_eq_false (by omega),Bool.false_and]
      repeat (first|refine gd ?_|intro _)
      exact fin0
    · rw [decide_eq_true (by omega),Bool.true_and]
      by_cases h3:l[i].kind=2
      · rw [if_pos h3]
        repeat (first|refine gd ?_|intro _)
        exact fin0
      · rw [if_neg h3]
        by_cases h4:acks=0
        · by_cases h5:own=1
          · repeat (first|refine gd ?_|intro _)
            (apply WE_ret rfl rfl zqR;(first|exact zqL|exact ⟨by simp [h4,h5]<;>omega,rfl⟩);exact zqN)
          · repeat (first|refine gd ?_|intro _)
            (apply WE_ret rfl rfl zqR;(first|exact zqL|exact ⟨by simp [h4,h5]<;>omega,rfl⟩);exact zqN)
        · repeat (first|refine gd ?_|intro _)
          (apply WE_ret rfl rfl zqR;(first|exact zqL|exact ⟨by simp [h4]<;>omega,rfl⟩);exact zqN)
  · rw [decide_eq_false (by omega),Bool.false_and]
    repeat (first|refine gd ?_|intro _)
    exact fin0
end Go.Sx

/- What files of misses do, fourth part. The program's. My own work. -/
namespace Go.Sx
open Go Go.Proofs
theorem mis_n {l:List Miss} {i:Nat} (hi:i<l.length) (x:Int):splice (flat msc' l) (i*15+2) [.int .i64 x]=flat msc' (l.set i { l[i] with needs:=x}):=
  splice_flatJ (enc:=msc') (n:=15) (fun _=>rfl) l i hi (j:=2) (cs:=[.int .i64 x]) (x:={ l[i] with needs:=x}) (by simp) rfl
theorem mis_g {l:List Miss} {i:Nat} (hi:i<l.length) (x:Int):splice (flat msc' l) (i*15+3) [.int .i64 x]=flat msc' (l.set i { l[i] with got:=x}):=
  splice_flatJ (enc:=msc') (n:=15) (fun _=>rfl) l i hi (j:=3) (cs:=[.int .i64 x]) (x:={ l[i] with got:=x}) (by simp) rfl
theorem mis_o {l:List Miss} {i:Nat} (hi:i<l.length) (x:Int):splice (flat msc' l) (i*15+4) [.int .i64 x]=flat msc' (l.set i { l[i] with own:=x}):=
  splice_flatJ (enc:=msc') (n:=15) (fun _=>rfl) l i hi (j:=4) (cs:=[.int .i64 x]) (x:={ l[i] with own:=x}) (by simp) rfl
theorem mis_w {l:List Miss} {i:Nat} (hi:i<l.length) (x:Words):splice (flat msc' l) (i*15+5) (wc x)=flat msc' (l.set i { l[i] with words:=x}):=
  splice_flatJ (enc:=msc') (n:=15) (fun _=>rfl) l i hi (j:=5) (cs:=wc x) (x:={ l[i] with words:=x}) (by simp) rfl
theorem mis_gr {l:List Miss} {i:Nat} (hi:i<l.length) (x:Bool):splice (flat msc' l) (i*15+13) [.bool x]=flat msc' (l.set i { l[i] with granted:=x}):=
  splice_flatJ (enc:=msc') (n:=15) (fun _=>rfl) l i hi (j:=13) (cs:=[.bool x]) (x:={ l[i] with granted:=x}) (by simp) rfl
theorem mis_ow {l:List Miss} {i:Nat} (hi:i<l.length) (x:Bool):splice (flat msc' l) (i*15+14) [.bool x]=flat msc' (l.set i { l[i] with owes:=x}):=
  splice_flatJ (enc:=msc') (n:=15) (fun _=>rfl) l i hi (j:=14) (cs:=[.bool x]) (x:={ l[i] with owes:=x}) (by simp) rfl
def ackE (l:List Miss) (line:Int):Int:=if misIn l line then (if (misAt l line).kind=1∨(misAt l line).needs=(misAt l line).got then 7 else 0) else 5
def ackL (l:List Miss) (line:Int):List Miss:=if ackE l line=0 then l.set (misP l line).toNat { misAt l line with got:=(misAt l line).got+1} else l
set_option maxRecDepth 100000
set_option maxHeartbeats 4000000
attribute [local irreducible] Go.Exit.then Go.Exit.inBlock Go.Code.wp WC WO WE WQ V LoopQ FnQ Sat Star band bor IntKind.wrap WR Code.rounds WT KO
theorem msh_Ack {F:List HP} {b:Nat} {room:Int} {l:List Miss} {line:Int} (hg:∀ m∈l,-9223372036854775808≤m.got∧m.got≤9223372036854775806) :
    FnF Tryz.prog 224 [.pointer (some ⟨b,0,none⟩),.int .i64 line] [Msh b room l] F (fun r L'=>r= .int .i64 (ackE l line)∧L'=[Msh b room (ackL l line)]):=by
  refine FnF.mk' Tryz.func224 rfl rfl Tryz.ntmps224 rfl ?_
  refine RL_open fun p c hl=>?_
  have hO:=fun F=>msh_ofO (F:=F) (b:=b) (room:=room) (l:=l) (line:=line) (p:=p) (c:=c) (by omega)
  cases h:misIn l line with
  |false=>
   have e1:ackE l line=5:=by unfold ackE;rw [h];rfl
   have e2:ackL l line=l:=by unfold ackL;rw [e1];rfl
   rw [e1,e2]
   rw [h,if_neg Bool.false_ne_true] at hO
   repeat (first|refine gd ?_|intro _|refine cal @hO ?_)
   (apply WE_ret rfl rfl zqR)
   · exact ⟨rfl,rfl⟩
   · (apply RL_in;(focus (exact entu0));all_goals exact zqS)
  |true=>
   obtain ⟨i,hi,e0,ea,_⟩:=misIn_t h
   rw [if_pos h,e0,Int.toNat_natCast] at hO
   have hgi:=hg _ (List.getElem_mem hi)
   by_cases h1:l[i].kind=1
   · have e1:ackE l line=7:=by unfold ackE;rw [if_pos h,ea,if_pos (.inl h1)]
     have e2:ackL l line=l:=by unfold ackL;rw [e1];rfl
     rw [e1,e2]
     repeat' (first|refine gd ?_|intro _|refine cal @hO ?_|refine spl ?_ ?_|fail)
     all_goals (apply WE_ret rfl rfl zqR)
     all_goals first|exact ⟨rfl,rfl⟩|(apply RL_in;(focus (exact entu0));all_goals exact zqS)
   · by_cases h2:l[i].needs=l[i].got
     · have e1:ackE l line=7:=by unfold ackE;rw [if_pos h,ea,if_pos (.inr h2)]
       have e2:ackL l line=l:=by unfold ackL;rw [e1];rfl
       rw [e1,e2]
       repeat' (first|refine gd ?_|intro _|refine cal @hO ?_|refine spl ?_ ?_|fail)
       all_goals (apply WE_ret rfl rfl zqR)
       all_goals first|exact ⟨rfl,rfl⟩|(apply RL_in;(focus (exact entu0));all_goals exact zqS)
     · have e1:ackE l line=0:=by unfold ackE;rw [if_pos h,ea,if_neg (by omega)]
       have e2:ackL l line=l.set i { l[i] with got:=l[i].got+1}:=by unfold ackL;rw [if_pos e1,e0,Int.toNat_natCast,ea]
       rw [e1,e2]
       repeat' (first|refine gd ?_|intro _|refine cal @hO ?_|refine spl ?_ ?_|fail)
       all_goals rw [mis_g hi]
       all_goals (apply WE_ret rfl rfl zqR)
       all_goals first|exact ⟨rfl,rfl⟩|(rw [show l.length=(l.set i { l[i] with got:=l[i].got+1}).length by simp];(apply RL_in;(focus (exact entu0));all_goals exact zqS))
end Go.Sx

/- What files of misses do, fifth part. The program's. My own work. -/
namespace Go.Sx
open Go Go.Proofs
set_option maxRecDepth 100000
set_option maxHeartbeats 4000000
attribute [local irreducible] Go.Exit.then Go.Exit.inBlock Go.Code.wp WC WO WE WQ V LoopQ FnQ Sat Star band bor IntKind.wrap WR Code.rounds WT KO
theorem dr_Msh5_222 {Q P:Prop} (k:Q) (h:Hid Q→P:=by
  intro k
  first
  |(refine is_draw ?_;apply WC_mix (id:=6) .true [] (pl:= .p 0 <| .p 1 <| .p 2 <| .p 3 <| .p 4 <| .p 6 <| .p 7 <| .e true [(5,.e true [(8,.p 9 <| .p 10 <| .e false [(11,.p 12 <| .p 13 <| .e false [(14,.done)])])]),(8,.p 9 <| .p 10 <| .e false [(5,.e false [(11,.p 12 <| .p 13 <| .e false [(14,.done)])]),(11,.e false [(5,.p 12 <| .p 13 <| .e false [(14,.done)])])])]);exact mixed;kernel_rfl;kernel_rfl;exact Ent.nil;exact k.out)):P:=h ⟨k⟩
theorem msh_Data {F:List HP} {b:Nat} {room:Int} {l:List Miss} {line acks own:Int} {w:Words} :
    FnF Tryz.prog 222 [.pointer (some ⟨b,0,none⟩),.int .i64 line,.int .i64 acks,.int .i64 own,wv w] [Msh b room l] F (fun r L'=>r= .int .i64 (dataE l line acks own)∧L'=[Msh b room (dataL l line acks own w)]):=by
  refine FnF.mk' Tryz.func222 rfl rfl Tryz.ntmps222 rfl ?_
  refine RL_open fun p c hl=>?_
  have hO:=fun F=>msh_ofO (F:=F) (b:=b) (room:=room) (l:=l) (line:=line) (p:=p) (c:=c) (by omega)
  cases h:misIn l line with
  |false=>
   have e1:dataE l line acks own=5:=by unfold dataE;rw [h];rfl
   have e2:dataL l line acks own w=l:=by unfold dataL;rw [e1];rfl
   rw [e1,e2]
   rw [h,if_neg Bool.false_ne_true] at hO
   repeat (first|refine go ?_|intro _|refine dr_Msh5_222 ?_|refine drq ?_|refine cal @hO ?_)
   (apply WE_ret rfl rfl zqR)
   · exact ⟨rfl,rfl⟩
   · (apply RL_in;(focus (exact entu0));all_goals exact zqS)
  |true=>
   obtain ⟨i,hi,e0,ea,_⟩:=misIn_t h
   rw [if_pos h,e0,Int.toNat_natCast] at hO
   have hF:=fun F=>msh_fits (F:=F) (l:=l) (i:=i) (acks:=acks) (own:=own) (p:=p) (c:=c) hi (by omega)
   cases hf:fitsM l[i] acks own with
   |false=>
    rw [hf] at hF
    have e1:dataE l line acks own=7:=by unfold dataE;rw [if_pos h,ea,hf];rfl
    have e2:dataL l line acks own w=l:=by unfold dataL;rw [e1];rfl
    rw [e1,e2]
    repeat (first|refine go ?_|intro _|refine dr_Msh5_222 ?_|refine drq ?_|refine cal @hO ?_|refine cal @hF ?_)
    (apply WE_ret rfl rfl zqR)
    · exact ⟨rfl,rfl⟩
    · (apply RL_in;(focus (exact entu0));all_goals exact zqS)
   |true=>
    rw [hf] at hF
    have e1:dataE l line acks own=0:=by unfold dataE;rw [if_pos h,ea,hf];rfl
    have e2:dataL l line acks own w=l.set i { l[i] with needs:=acks,own:=own,words:=w}:=by unfold dataL;rw [if_pos e1,e0,Int.toNat_natCast,ea]
    rw [e1,e2]
    have hs:∀ x y,i<((l.set i x).set i y).length:=fun x y=>by simpa using hi
    have hs1:∀ x,i<(l.set i x).length:=fun x=>by simpa using hi
    repeat' (first|refine go ?_|intro _|refine dr_Msh5_222 ?_|refine drq ?_|refine cal @hO ?_|refine cal @hF ?_|refine spl ?_ ?_|fail)
    all_goals simp only [mis_n,mis_o,mis_w,hi,hs,hs1,List.set_set,List.getElem_set_self]
    all_goals (apply WE_ret rfl rfl zqR)
    all_goals first|exact ⟨rfl,rfl⟩|(rw [show l.length=(l.set i { l[i] with needs:=acks,own:=own,words:=w}).length by simp];(apply RL_in;(focus (exact entu0));all_goals exact zqS))
end Go.Sx

/- What files of misses do, sixth part. The program's. My own work. -/
namespace Go.Sx
open Go Go.Proofs
def oweB (l:List Miss) (line:Int):Bool:=misIn l line&& !(misAt l line).owes&& decide ((misAt l line).needs=(misAt l line).got)
def oweM (l:List Miss) (line:Int):Miss:=if oweB l line then misAt l line else .zero
def oweL (l:List Miss) (line:Int):List Miss:=if oweB l line then l.set (misP l line).toNat { misAt l line with owes:=true} else l
set_option maxRecDepth 100000
set_option maxHeartbeats 4000000
attribute [local irreducible] Go.Exit.then Go.Exit.inBlock Go.Code.wp WC WO WE WQ V LoopQ FnQ Sat Star band bor IntKind.wrap WR Code.rounds WT KO
theorem msh_Owe {F:List HP} {b:Nat} {room:Int} {l:List Miss} {line:Int} :
    FnF Tryz.prog 241 [.pointer (some ⟨b,0,none⟩),.int .i64 line] [Msh b room l] F (fun r L'=>r= .tuple [msv (oweM l line),.bool (oweB l line)].toArray∧L'=[Msh b room (oweL l line)]):=by
  refine FnF.mk' Tryz.func241 rfl rfl Tryz.ntmps241 rfl ?_
  refine RL_open fun p c hl=>?_
  have hO:=fun F=>msh_ofO (F:=F) (b:=b) (room:=room) (l:=l) (line:=line) (p:=p) (c:=c) (by omega)
  cases h:misIn l line with
  |false=>
   have e1:oweB l line=false:=by unfold oweB;rw [h];rfl
   have e2:oweL l line=l:=by unfold oweL;rw [e1];rfl
   have e3:oweM l line= .zero:=by unfold oweM;rw [e1];rfl
   rw [e1,e2,e3]
   rw [h,if_neg Bool.false_ne_true] at hO
   repeat' (first|refine gd ?_|intro _|refine cal @hO ?_|refine spl ?_ ?_|fail)
   all_goals (apply WE_ret rfl rfl zqR)
   all_goals first|exact ⟨rfl,rfl⟩|(apply RL_in;(focus (exact entu0));all_goals exact zqS)
  |true=>
   obtain ⟨i,hi,e0,ea,_⟩:=misIn_t h
   rw [if_pos h,e0,Int.toNat_natCast] at hO
   cases h1:l[i].owes with
   |true=>
    have e1:oweB l line=false:=by unfold oweB;rw [ea,h1];simp
    have e2:oweL l line=l:=by unfold oweL;rw [e1];rfl
    have e3:oweM l line= .zero:=by unfold oweM;rw [e1];rfl
    rw [e1,e2,e3]
    repeat' (first|refine gd ?_|intro _|refine cal @hO ?_|refine spl ?_ ?_|fail)
    all_goals (apply WE_ret rfl rfl zqR)
    all_goals first|exact ⟨rfl,rfl⟩|(apply RL_in;(focus (exact entu0));all_goals exact zqS)
   |false=>
    by_cases h2:l[i].needs=l[i].got
    · have e1:oweB l line=true:=by unfold oweB;rw [h,ea,h1];simp [h2]
      have e2:oweL l line=l.set i { l[i] with owes:=true}:=by unfold oweL;rw [if_pos e1,e0,Int.toNat_natCast,ea]
      have e3:oweM l line=l[i]:=by unfold oweM;rw [if_pos e1,ea]
      rw [e1,e2,e3]
      repeat' (first|refine gd ?_|intro _|refine cal @hO ?_|refine spl ?_ ?_|fail)
      all_goals rw [mis_ow hi]
      all_goals (apply WE_ret rfl rfl zqR)
      all_goals first|exact ⟨rfl,rfl⟩|(rw [show l.length=(l.set i { l[i] with owes:=true}).length by simp];(apply RL_in;(focus (exact entu0));all_goals exact zqS))
    · have e1:oweB l line=false:=by unfold oweB;rw [h,ea,h1];simp [h2]
      have e2:oweL l line=l:=by unfold oweL;rw [e1];rfl
      have e3:oweM l line= .zero:=by unfold oweM;rw [e1];rfl
      rw [e1,e2,e3]
      repeat' (first|refine gd ?_|intro _|refine cal @hO ?_|refine spl ?_ ?_|fail)
      all_goals (apply WE_ret rfl rfl zqR)
      all_goals first|exact ⟨rfl,rfl⟩|(apply RL_in;(focus (exact entu0));all_goals exact zqS)
theorem msh_Owing {F:List HP} {b:Nat} {room:Int} {l:List Miss} :
    FnF Tryz.prog 153 [.pointer (some ⟨b,0,none⟩)] [Msh b room l] F (fun r L'=>r= .tuple [.int .i64 (if 0≤owingP l then (l.getD (owingP l).toNat .zero).line else 0),.bool (decide (0≤owingP l))].toArray∧L'=[Msh b room l]):=by
  have hat:∀ F (p:Option Addr) (c:Nat),l.length≤4096→FnF Tryz.prog 199 [.pointer (some ⟨b,0,none⟩),.func (.func 200) [].toArray [].toArray] [Cells b 184 [.int .i64 room,.slice p l.length c],Own 182 15 (.slice p l.length c) l.length (flat msc' l)] F
   (fun r L'=>r= .int .i64 (owingP l)∧L'=[Cells b 184 [.int .i64 room,.slice p l.length c],Own 182 15 (.slice p l.length c) l.length (flat msc' l)]):=fun F p c hn=>by
    have hI:=fun F (k:RdL F 15 (.slice p l.length c) l.length (flat msc' l))=>sl_IndexFunc_miss (F:=F) (v:= .slice p l.length c) (l:=l) (fk:=200) (first:=[]) (cap:=[]) (p:=fun m=>m.owes) k (by omega) (fun x _=>msh_owing1)
    refine FnF.mk' Tryz.func199 rfl rfl Tryz.ntmps199 rfl ?_
    repeat (first|refine gd ?_|intro _|refine cal @hI ?_)
    (apply WE_ret rfl rfl zqR;(first|exact zqL|exact ⟨by simp [owingP]<;>omega,rfl⟩);exact zqN)
  refine FnF.mk' Tryz.func153 rfl rfl Tryz.ntmps153 rfl ?_
  refine RL_open fun p c hl=>?_
  have hA:=fun F=>hat F p c (by omega)
  by_cases h:0≤owingP l
  · obtain ⟨i,hi,e0,_⟩:=indexBy_nat h
    have e0':owingP l=i:=e0
    rw [if_pos h,decide_eq_true h]
    rw [e0'] at hA
    rw [e0',Int.toNat_natCast,←getD_at hi]
    repeat (first|refine gd ?_|intro _|refine cal @hA ?_)
    (apply WE_ret rfl rfl zqR)
    · exact ⟨rfl,rfl⟩
    · (apply RL_in;(focus (exact entu0));all_goals exact zqS)
  · have e0:owingP l= -1:=(indexBy_neg h).1
    rw [if_neg h,decide_eq_false h]
    rw [e0] at hA
    repeat (first|refine gd ?_|intro _|refine cal @hA ?_)
    (apply WE_ret rfl rfl zqR)
    · exact ⟨rfl,rfl⟩
    · (apply RL_in;(focus (exact entu0));all_goals exact zqS)
end Go.Sx
