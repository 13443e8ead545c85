/- Wb, May, Mem, MemPl, Mem2, Queue: several of my texts as one. My own work. -/
import Derived.Test.YtjihlpjnebdiiaaGreatZr
import Derived.Test.YtjihlpjnebdiiaaGreatZaa
import Derived.Test.YtjihlpjnebdiiaaGreatZac
import Derived.Test.YtjihlpjnebdiiaaGreatMk
import Derived.Test.YtjihlpjnebdiiaaGreatZad
set_option linter.unusedVariables false
set_option linter.unusedSectionVars false
set_option linter.unusedSimpArgs false
/- What write-back buffers do, the program's. My own work. -/
namespace Go.Sx
open Go Go.Proofs
set_option maxRecDepth 100000
set_option maxHeartbeats 4000000
attribute [local irreducible] Go.Exit.then Go.Exit.inBlock Go.Code.wp WC WO WE WQ V LoopQ FnQ Sat Star band bor IntKind.wrap WR Code.rounds WT KO
def wbPlace (l:List WbE) (line:Int):Int:=indexBy (fun e=>decide (e.line=line)) l
def wbAt (l:List WbE) (line:Int):WbE:=l.getD (wbPlace l line).toNat ⟨0,.zero,false⟩
def wbIn (l:List WbE) (line:Int):Bool:=decide (0≤wbPlace l line)
def wbPutE (room:Int) (l:List WbE) (line:Int):Int:=if wbIn l line then 6 else if (l.length:Int)=room then 4 else 0
def wbPutL (room:Int) (l:List WbE) (line:Int) (w:Words):List WbE:=if wbIn l line then l else if (l.length:Int)=room then l else l++[⟨line,w,true⟩]
def wbTellE (l:List WbE) (line:Int):Int:=if wbIn l line then (if (wbAt l line).live then 0 else 7) else 5
def wbTellW (l:List WbE) (line:Int):Words:=if wbIn l line&& (wbAt l line).live then (wbAt l line).words else .zero
def wbGiveL (l:List WbE) (line:Int):List WbE:=if wbIn l line&& (wbAt l line).live then l.set (wbPlace l line).toNat { wbAt l line with live:=false} else l
def wbDropE (l:List WbE) (line:Int):Int:=if wbIn l line then 0 else 5
def wbDropL (l:List WbE) (line:Int):List WbE:=if wbIn l line then l.eraseIdx (wbPlace l line).toNat else l
def wbGet (l:List WbE) (line:Int):WbE:=if wbIn l line then wbAt l line else ⟨0,.zero,false⟩
theorem wbIn_t {l:List WbE} {line:Int} (h:wbIn l line=true):∃ i:Nat,∃ hi:i<l.length,wbPlace l line=i∧wbAt l line=l[i]∧l[i].line=line:=by
  obtain ⟨i,hi,h1,h2,_⟩:=indexBy_nat (of_decide_eq_true h)
  refine ⟨i,hi,h1,?_,by simpa using h2⟩
  unfold wbAt wbPlace
  rw [h1];simp [hi]
theorem wbIn_f {l:List WbE} {line:Int} (h:wbIn l line=false):wbPlace l line= -1:=(indexBy_neg (of_decide_eq_false h)).1
abbrev Wb (b:Nat) (room:Int) (l:List WbE):HP:=RL 187 125 10 bc b room l
theorem wb_New {F:List HP} {room:Int} (h:1≤room∧room≤8):FnF Tryz.prog 94 [.int .i64 room] [] F (fun r L'=>∃ b,r= .tuple [.pointer (some ⟨b,0,none⟩),.int .i64 0].toArray∧L'=[Wb b room []]):=by
  refine FnF.mk' Tryz.func94 rfl rfl Tryz.ntmps94 rfl ?_
  repeat (first|refine gd ?_|intro _)
  (apply WE_ret rfl rfl zqR)
  · exact ⟨_,rfl,rfl⟩
  · exact RL_in (l:=[]) (Ent.cons (own_empty Ent.refl)) rfl rfl (by simp;omega)
theorem wb_at1 {F:List HP} {b:Nat} {line:Int} {T:TypeId} {C:List Value→List HP} {e:WbE} (k:CellsAt b F T [.int .i64 line] C) :
    FnF Tryz.prog 233 [bv e,.pointer (some ⟨b,0,none⟩)] [] F (fun r L'=>r= .bool (decide (e.line=line))∧L'=[]):=by
  refine FnF.mk' Tryz.func233 rfl rfl Tryz.ntmps233 rfl ?_
  repeat (first|refine gd ?_|intro _)
  exact fin0
theorem wb_idx {F:List HP} {b:Nat} {line:Int} {T:TypeId} {C:List Value→List HP} {v:Value} {l:List WbE} (k1:CellsAt b F T [.int .i64 line] C) (k:RdL F 10 v l.length (flat bc l)) (hn:l.length≤1099511627776) :
    FnF Tryz.prog 232 [v,.func (.func 233) [].toArray [.pointer (some ⟨b,0,none⟩)].toArray] [] F (fun r L'=>r= .int .i64 (wbPlace l line)∧L'=[]):=
  sl_IndexFunc_wbe (first:=[]) (p:=fun e=>decide (e.line=line)) k hn (fun x _=>wb_at1 k1)
theorem wb_at {F:List HP} {b:Nat} {room:Int} {l:List WbE} {line:Int}:FnF Tryz.prog 203 [.pointer (some ⟨b,0,none⟩),.int .i64 line] [Wb b room l] F (fun r L'=>r= .int .i64 (wbPlace l line)∧L'=[Wb b room l]):=by
  refine FnF.mk' Tryz.func203 rfl rfl Tryz.ntmps203 rfl ?_
  refine RL_open fun p c hl=>?_
  repeat (first|refine gd ?_|intro _|refine cal @wb_idx ?_)
  (apply WE_ret rfl rfl zqR)
  · exact ⟨rfl,rfl⟩
  · (apply RL_in;(focus (exact entu0));all_goals exact zqS)
theorem wb_Left {F:List HP} {b:Nat} {room:Int} {l:List WbE}:FnF Tryz.prog 208 [.pointer (some ⟨b,0,none⟩)] [Wb b room l] F (fun r L'=>r= .int .i64 (room-l.length)∧L'=[Wb b room l]):=by
  refine FnF.mk' Tryz.func208 rfl rfl Tryz.ntmps208 rfl ?_
  refine RL_open fun p c hl=>?_
  repeat (first|refine gd ?_|intro _)
  (apply WE_ret rfl rfl zqR)
  · exact ⟨rfl,rfl⟩
  · (apply RL_in;(focus (exact entu0));all_goals exact zqS)
theorem dr_Wb_166 {Q P:Prop} (k:Q) (h:Hid Q→P:=by
  intro k
  first
  |(refine is_draw ?_;apply WC_mix (id:=5) .true _ (pl:= .p 0 <| .p 1 <| .p 2 <| .p 3 <| .p 5 <| .r 4 <| .r 6 <| .p 7 <| .e true [(8,.e true [(9,.p 10 <| .p 11 <| .e false [(12,.done)])])]);exact mixed;kernel_rfl;kernel_rfl;exact Ent.refl;exact k.out)):P:=h ⟨k⟩
theorem wb_Put {F:List HP} {b:Nat} {room:Int} {l:List WbE} {line:Int} {w:Words}:FnF Tryz.prog 166 [.pointer (some ⟨b,0,none⟩),.int .i64 line,wv w] [Wb b room l] F (fun r L'=>r= .int .i64 (wbPutE room l line)∧L'=[Wb b room (wbPutL room l line w)]):=by
  refine FnF.mk' Tryz.func166 rfl rfl Tryz.ntmps166 rfl ?_
  cases e:wbIn l line with
  |true=>
   have h0:0≤wbPlace l line:=of_decide_eq_true e
   repeat (first|refine go ?_|intro _|refine dr_Wb_166 ?_|refine drq ?_|refine cal @wb_at ?_)
   (apply WE_ret rfl rfl zqR)
   · exact ⟨by simp [wbPutE,e],rfl⟩
   · simp only [wbPutL,e,if_true];exact entu0
  |false=>
   have h0:=wbIn_f e
   by_cases hf:(l.length:Int)=room
   · repeat (first|refine go ?_|intro _|refine dr_Wb_166 ?_|refine drq ?_|refine cal @wb_at ?_|refine cal @wb_Left ?_)
     (apply WE_ret rfl rfl zqR)
     · exact ⟨by simp [wbPutE,e,hf],rfl⟩
     · simp only [wbPutL,e,hf,Bool.false_eq_true,if_false,if_true];exact entu0
   · repeat (first|refine go ?_|intro _|refine cal @wb_at ?_|refine cal @wb_Left ?_)
     (first|refine WO_front (Wb b room l) ?_|refine WC_front (Wb b room l) ?_|refine WE_front (Wb b room l) ?_)
     refine RL_open fun p c hl=>?_
     repeat (first|refine go ?_|intro _|refine dr_Wb_166 ?_|refine drq ?_)
     (apply WE_ret rfl rfl zqR)
     · exact ⟨by simp [wbPutE,e,hf],rfl⟩
     · simp only [wbPutL,e,hf,Bool.false_eq_true,if_false]
       (apply RL_in;(focus (exact entu0));all_goals exact zqS)
theorem wb_Share1 {F:List HP} {v:Value}:FnF Tryz.prog 239 [v] [] F (fun r L'=>r= .tuple [].toArray∧L'=[]):=by
  refine FnF.mk' Tryz.func239 rfl rfl Tryz.ntmps239 rfl ?_
  repeat (first|refine gd ?_|intro _)
  exact fin0
theorem wb_Give1 {F:List HP} {v:Value} {l:List WbE} {i:Nat} (hi:i<l.length) :
    FnF Tryz.prog 240 [.pointer (some ⟨pb v,po v+i*10,none⟩)] [Own 125 10 v l.length (flat bc l)] F (fun r L'=>r= .tuple [].toArray∧L'=[Own 125 10 v l.length (flat bc (l.set i { l[i] with live:=false}))]):=by
  refine FnF.mk' Tryz.func240 rfl rfl Tryz.ntmps240 rfl ?_
  repeat (first|refine gd ?_|intro _)
  rw [splice_flatJ (enc:=bc) (n:=10) (fun _=>rfl) l i hi (x:={ l[i] with live:=false}) (by simp) rfl]
  exact fin0
theorem wb_tell {F:List HP} {b:Nat} {room:Int} {l:List WbE} {line:Int} {fk:FuncId} {g:WbE→WbE}
    (H:∀ (F:List HP) (v:Value) (i:Nat) (hi:i<l.length),l[i].live=true→FnF Tryz.prog fk [.pointer (some ⟨pb v,po v+i*10,none⟩)] [Own 125 10 v l.length (flat bc l)] F (fun r L'=>r= .tuple [].toArray∧L'=[Own 125 10 v l.length (flat bc (l.set i (g l[i])))]))
    (hg:∀ e,(g e).words=e.words) :
    FnF Tryz.prog 238 [.pointer (some ⟨b,0,none⟩),.int .i64 line,.func (.func fk) [].toArray [].toArray] [Wb b room l] F
      (fun r L'=>r= .tuple [wv (wbTellW l line),.int .i64 (wbTellE l line)].toArray∧L'=[Wb b room (if wbIn l line&& (wbAt l line).live then l.set (wbPlace l line).toNat (g (wbAt l line)) else l)]):=by
  refine FnF.mk' Tryz.func238 rfl rfl Tryz.ntmps238 rfl ?_
  cases e:wbIn l line with
  |false=>
   have h0:=wbIn_f e
   repeat (first|refine gd ?_|intro _|refine cal @wb_at ?_)
   (apply WE_ret rfl rfl zqR)
   · exact ⟨by simp [wbTellE,wbTellW,e,Words.zero],rfl⟩
   · simp only [Bool.false_and,Bool.false_eq_true,if_false];exact entu0
  |true=>
   obtain ⟨i,hi,h1,h2,h3⟩:=wbIn_t e
   have hA:=fun F=>wb_at (F:=F) (b:=b) (room:=room) (l:=l) (line:=line)
   simp only [h1] at hA
   rw [h1,h2]
   have hn:(i:Int).toNat=i:=by omega
   cases hl:l[i].live with
   |false=>
    repeat (first|refine gd ?_|intro _|refine cal @hA ?_)
    (first|refine WO_front (Wb b room l) ?_|refine WC_front (Wb b room l) ?_|refine WE_front (Wb b room l) ?_)
    refine RL_openO fun p c hl0=>?_
    repeat (first|refine gd ?_|intro _)
    (apply WE_ret rfl rfl zqR)
    · exact ⟨by simp [wbTellE,wbTellW,e,h2,hl,Words.zero],rfl⟩
    · simp only [Bool.and_false,Bool.false_eq_true,if_false];exact enx @RL_in
   |true=>
    have hls:(l.set i (g l[i])).length=l.length:=List.length_set
    have hget:(l.set i (g l[i]))[i]'(by omega)=g l[i]:=by simp
    have hH:=fun F v=>H F v i hi hl
    repeat (first|refine gd ?_|intro _|refine cal @hA ?_)
    (first|refine WO_front (Wb b room l) ?_|refine WC_front (Wb b room l) ?_|refine WE_front (Wb b room l) ?_)
    refine RL_openO fun p c hl0=>?_
    (first|(refine WO_some (.slice p l.length c) inferInstance (by omega) ?_;intro _)|(refine WC_some (.slice p l.length c) inferInstance (by omega) ?_;intro _))
    repeat (first|refine gd ?_|intro _|refine cal @hH ?_)
    rw [hget,hg]
    (apply WE_ret rfl rfl zqR)
    · exact ⟨by simp [wbTellE,wbTellW,e,h2,hl],rfl⟩
    · simp only [Bool.and_true,if_true,hn]
      exact enx @RL_in
theorem wb_Share {F:List HP} {b:Nat} {room:Int} {l:List WbE} {line:Int}:FnF Tryz.prog 218 [.pointer (some ⟨b,0,none⟩),.int .i64 line] [Wb b room l] F (fun r L'=>r= .tuple [wv (wbTellW l line),.int .i64 (wbTellE l line)].toArray∧L'=[Wb b room l]):=by
  have hT:=fun F=>wb_tell (F:=F) (b:=b) (room:=room) (l:=l) (line:=line) (fk:=239) (g:=fun e=>e) (fun F v i hi hl=>by
    rw [List.set_getElem_self];exact wb_Share1.pure) (fun _=>rfl)
  have hs:(if (wbIn l line&& (wbAt l line).live)=true then l.set (wbPlace l line).toNat (wbAt l line) else l)=l:=by
    split
    · rename_i h
      obtain ⟨i,hi,h1,h2,h3⟩:=wbIn_t (Bool.and_eq_true_iff.1 h).1
      rw [h1,h2];simp
    · rfl
  simp only [hs] at hT
  refine FnF.mk' Tryz.func218 rfl rfl Tryz.ntmps218 rfl ?_
  repeat (first|refine gd ?_|intro _|refine cal @hT ?_)
  (apply WE_ret rfl rfl zqR)
  · exact ⟨rfl,rfl⟩
  · exact entu0
theorem wb_Give {F:List HP} {b:Nat} {room:Int} {l:List WbE} {line:Int}:FnF Tryz.prog 219 [.pointer (some ⟨b,0,none⟩),.int .i64 line] [Wb b room l] F (fun r L'=>r= .tuple [wv (wbTellW l line),.int .i64 (wbTellE l line)].toArray∧L'=[Wb b room (wbGiveL l line)]):=by
  have hT:=fun F=>wb_tell (F:=F) (b:=b) (room:=room) (l:=l) (line:=line) (fk:=240) (g:=fun e=>{ e with live:=false}) (fun F v i hi hl=>wb_Give1 hi) (fun _=>rfl)
  refine FnF.mk' Tryz.func219 rfl rfl Tryz.ntmps219 rfl ?_
  repeat (first|refine gd ?_|intro _|refine cal @hT ?_)
  (apply WE_ret rfl rfl zqR)
  · exact ⟨rfl,rfl⟩
  · unfold wbGiveL;exact entu0
theorem wb_Drop {F:List HP} {b:Nat} {room:Int} {l:List WbE} {line:Int}:FnF Tryz.prog 216 [.pointer (some ⟨b,0,none⟩),.int .i64 line] [Wb b room l] F (fun r L'=>r= .int .i64 (wbDropE l line)∧L'=[Wb b room (wbDropL l line)]):=by
  refine FnF.mk' Tryz.func216 rfl rfl Tryz.ntmps216 rfl ?_
  cases e:wbIn l line with
  |false=>
   have h0:=wbIn_f e
   repeat (first|refine gd ?_|intro _|refine cal @wb_at ?_)
   (apply WE_ret rfl rfl zqR)
   · exact ⟨by simp [wbDropE,e],rfl⟩
   · simp only [wbDropL,e,Bool.false_eq_true,if_false];exact entu0
  |true=>
   obtain ⟨i,hi,h1,h2,h3⟩:=wbIn_t e
   have hA:=fun F=>wb_at (F:=F) (b:=b) (room:=room) (l:=l) (line:=line)
   simp only [h1] at hA
   repeat (first|refine gd ?_|intro _|refine cal @hA ?_)
   (first|refine WO_front (Wb b room l) ?_|refine WC_front (Wb b room l) ?_|refine WE_front (Wb b room l) ?_)
   refine RL_openO fun p c hl0=>?_
   repeat (first|refine gd ?_|intro _)
   refine cal (@sl_Delete_wbe (i:=i) (j:=i+1)) ?_
   repeat (first|refine gd ?_|intro _)
   (apply WE_ret rfl rfl zqR)
   · exact ⟨by simp [wbDropE,e],rfl⟩
   · simp only [wbDropL,e,if_true,h1]
     apply RL_in
     · exact entu0
     · simp only [List.length_eraseIdx,Int.toNat_natCast];split<;>omega
     · rw [flat_take (enc:=bc) (n:=10) (fun _=>rfl),flat_drop (enc:=bc) (n:=10) (fun _=>rfl)]
       simp [List.eraseIdx_eq_take_drop_succ]
     · have:=List.length_eraseIdx_le l i
       simp only [Int.toNat_natCast]
       omega
theorem wb_Get {F:List HP} {b:Nat} {room:Int} {l:List WbE} {line:Int}:FnF Tryz.prog 159 [.pointer (some ⟨b,0,none⟩),.int .i64 line] [Wb b room l] F (fun r L'=>r= .tuple [bv (wbGet l line),.bool (wbIn l line)].toArray∧L'=[Wb b room l]):=by
  refine FnF.mk' Tryz.func159 rfl rfl Tryz.ntmps159 rfl ?_
  cases e:wbIn l line with
  |false=>
   have h0:=wbIn_f e
   repeat (first|refine gd ?_|intro _|refine cal @wb_at ?_)
   (apply WE_ret rfl rfl zqR)
   · exact ⟨by simp [wbGet,e,Words.zero],rfl⟩
   · exact entu0
  |true=>
   obtain ⟨i,hi,h1,h2,h3⟩:=wbIn_t e
   have hA:=fun F=>wb_at (F:=F) (b:=b) (room:=room) (l:=l) (line:=line)
   simp only [h1] at hA
   repeat (first|refine gd ?_|intro _|refine cal @hA ?_)
   (first|refine WO_front (Wb b room l) ?_|refine WC_front (Wb b room l) ?_|refine WE_front (Wb b room l) ?_)
   refine RL_openO fun p c hl0=>?_
   repeat (first|refine gd ?_|intro _)
   (apply WE_ret rfl rfl zqR)
   · exact ⟨by simp [wbGet,e,h2],rfl⟩
   · exact enx @RL_in
theorem wb_List {F:List HP} {b:Nat} {room:Int} {l:List WbE}:FnF Tryz.prog 59 [.pointer (some ⟨b,0,none⟩)] [Wb b room l] F (fun r L'=>∃ p c,r= .slice p l.length c∧L'=[Own 125 10 (.slice p l.length c) l.length (flat bc l),Wb b room l]):=by
  refine FnF.mk' Tryz.func59 rfl rfl Tryz.ntmps59 rfl ?_
  refine RL_open fun p c hl=>?_
  repeat (first|refine gd ?_|intro _|refine cal @sl_Clone_wbe ?_)
  (apply WE_ret rfl rfl zqR)
  · exact ⟨_,_,rfl,rfl⟩
  · refine Ent.cons ?_
    (apply RL_in;(focus (exact entu0));all_goals exact zqS)
end Go.Sx

/- What package program tells of operations and of programs. My own work. -/
namespace Go.Sx
open Go Go.Proofs
set_option maxRecDepth 100000
set_option maxHeartbeats 4000000
attribute [local irreducible] Go.Exit.then Go.Exit.inBlock Go.Code.wp WC WO WE WQ V LoopQ FnQ Sat Star band bor IntKind.wrap WR Code.rounds WT KO
def mayB (x:Op3):Bool:=if x.kind=4 then decide (x.addr=0)&& decide (x.value=0) else if x.kind=1 then decide (0≤x.addr)&& decide (x.addr≤8191)&& decide (x.value=0)
  else if x.kind=2∨x.kind=3 then decide (0≤x.addr)&& decide (x.addr≤8191)&& decide (-2147483648≤x.value)&& decide (x.value≤2147483647) else false
def progB (c:Cfg) (l:List Op3):Bool:=(l.all fun x=>mayB x&& decide (x.addr<sizeOf' c))&& checkB c&& decide (l.length≤64)
theorem program_May {F:List HP} {x:Op3}:FnF Tryz.prog 122 [ov x] [] F (fun r L'=>r= .bool (mayB x)∧L'=[]):=by
  refine FnF.mk' Tryz.func122 rfl rfl Tryz.ntmps122 rfl ?_
  repeat' (first|refine gd ?_|intro _|refine spl ?_ ?_|fail)
  all_goals (apply WE_ret rfl rfl zqR;(exact ⟨by first|(simp_all [mayB];done)|(simp_all [mayB];omega),rfl⟩);exact zqN)
theorem program_Fits {F:List HP} {c:Cfg} (hc:c.wf) {l:List Op3} {v:Value} (k:RdL F 3 v l.length (flat oc l)) (hn:l.length≤1099511627776):FnF Tryz.prog 89 [c.val,v] [] F (fun r L'=>r= .bool (progB c l)∧L'=[]):=by
  refine FnF.mk' Tryz.func89 rfl rfl Tryz.ntmps89 rfl ?_
  repeat (first|refine gd ?_|intro _)
  rename_i bc
  apply WC_loopE (E0:=[(1,_),(2,_),(7,_),(8,_)]) (fun E0 (j:Nat)=>(9,.int .i64 j)::E0) (fun _=>Cells bc 24 c.cells::F) (fun j=>j≤l.length∧∀ i (h:i<l.length),i<j→(mayB l[i]&& decide (l[i].addr<sizeOf' c))=true) (fun j=>l.length-j) 0
  · exact zqU
  · exact ⟨Nat.zero_le _,fun i h hi=>by omega⟩
  · exact entu0
  · rintro j ⟨hj,hall⟩
    by_cases hlt:j<l.length
    · cases hm:mayB l[j] with
      |false=>
       have hf:progB c l=false:=by
         have:(l.all fun x=>mayB x&& decide (x.addr<sizeOf' c))=false:=by
           rw [List.all_eq_false];exact ⟨_,List.getElem_mem hlt,by simp [hm]⟩
         simp [progB,this]
       have hM:=fun F=>program_May (F:=F) (x:=l[j])
       simp only [hm] at hM
       repeat (first|refine gd ?_|intro _|refine cal @hM ?_)
       (apply WE_ret rfl rfl zqR;(first|exact zqL|exact ⟨by simp [hf]<;>omega,rfl⟩);exact zqN)
      |true=>
       have hM:=fun F=>program_May (F:=F) (x:=l[j])
       simp only [hm] at hM
       by_cases hs:l[j].addr<sizeOf' c
       · repeat (first|refine gd ?_|intro _|refine cal @hM ?_|refine cal (shape_Size (c:=c)) ?_)
         refine WE_loop (j+1) (by omega) ⟨by omega,fun i h hi=>?_⟩ ?_ ?_
         · by_cases e:i=j
           · subst e;simp [hm,hs]
           · exact hall i h (by omega)
         · exact zqU
         · exact entu0
       · have hf:progB c l=false:=by
           have:(l.all fun x=>mayB x&& decide (x.addr<sizeOf' c))=false:=by
             rw [List.all_eq_false];exact ⟨_,List.getElem_mem hlt,by simp [hs]⟩
           simp [progB,this]
         repeat (first|refine gd ?_|intro _|refine cal @hM ?_|refine cal (shape_Size (c:=c)) ?_)
         (apply WE_ret rfl rfl zqR;(first|exact zqL|exact ⟨by simp [hf]<;>omega,rfl⟩);exact zqN)
    · have ha:(l.all fun x=>mayB x&& decide (x.addr<sizeOf' c))=true:=by
        rw [List.all_eq_true]
        intro x hx
        obtain ⟨i,hi,rfl⟩:=List.getElem_of_mem hx
        exact hall i hi (by omega)
      repeat (first|refine gd ?_|intro _|refine cal (shape_Check (c:=c)) ?_)
      cases e:checkB c
      · have e1:checkE c=1:=by simp [checkE,e]
        repeat (first|refine gd ?_|intro _)
        (apply WE_ret rfl rfl zqR;(first|exact zqL|exact ⟨by simp [progB,e]<;>omega,rfl⟩);exact zqN)
      · have e1:checkE c=0:=by simp [checkE,e]
        repeat (first|refine gd ?_|intro _)
        (apply WE_ret rfl rfl zqR;(first|exact zqL|exact ⟨by simp [progB,e,ha]<;>omega,rfl⟩);exact zqN)
end Go.Sx

/- What package memory does. My own work. -/
namespace Go.Sx
open Go Go.Proofs
theorem flat_ic_get {ms:List Int} {i:Nat} (hi:i<ms.length):(flat ic ms)[i]? =some (.int .i64 ms[i]):=by
  induction ms generalizing i with
  |nil=>simp at hi
  |cons a r ih=>
   cases i with
   |zero=>simp [flat]
   |succ i=>simpa [flat] using ih (i:=i) (by simpa using hi)
theorem flat_ic_len (ms:List Int):(flat ic ms).length=ms.length:=by
  have:=flat_length (enc:=ic) (n:=1) (fun _=>rfl) ms
  rwa [Nat.mul_one] at this
theorem splice_ic {ms:List Int} {i:Nat} (hi:i<ms.length) (v:Int):splice (flat ic ms) i [.int .i64 v]=flat ic (ms.set i v):=by
  have:=splice_flatJ0 (enc:=ic) (n:=1) (fun _=>rfl) ms i hi (cs:=[.int .i64 v]) (x:=v) (by simp) (by simp [splice])
  rwa [Nat.mul_one] at this
def MemB (b:Nat) (c:Cfg) (ms:List Int):HP:=
  Ex fun g:Nat=>[Cells b 198 (c.cells++[.slice (some ⟨g,0,none⟩) ms.length ms.length]),Cells g 3 (flat ic ms),Fact (checkB c=true∧(ms.length:Int)=c.words*c.lines∧ms.length≤8192)]
theorem mem_in {b g n:Nat} {c:Cfg} {ms:List Int} {xs:List Value} {L M:List HP}
    (h:Ent L (Cells b 198 (c.cells++[.slice (some ⟨g,0,none⟩) n n])::Cells g 3 xs::M)) (hn:n=ms.length) (hx:xs=flat ic ms) (hl:checkB c=true∧(ms.length:Int)=c.words*c.lines∧ms.length≤8192):Ent L (MemB b c ms::M):=by
  subst hn hx
  refine Ent.trans h (Ent.trans ?_ (ex_intro (p:=fun g:Nat=>[Cells b 198 (c.cells++[.slice (some ⟨g,0,none⟩) ms.length ms.length]),Cells g 3 (flat ic ms),Fact (checkB c=true∧(ms.length:Int)=c.words*c.lines∧ms.length≤8192)]) g))
  exact Ent.cons (Ent.cons (star_fact_mk hl))
theorem mem_sat {b:Nat} {c:Cfg} {ms:List Int} {L:List HP} {w:World} (h:Sat (MemB b c ms::L) w):(checkB c=true∧(ms.length:Int)=c.words*c.lines∧ms.length≤8192)∧
    ∃ g,Sat (Cells b 198 (c.cells++[.slice (some ⟨g,0,none⟩) ms.length ms.length])::Cells g 3 (flat ic ms)::L) w:=by
  obtain ⟨g,hx⟩:=star_ex h
  simp only [app] at hx
  have hf:=fact_of (star_drop (star_drop hx))
  exact ⟨hf,g,(Ent.cons (Ent.cons (Ent.drop Ent.refl))) _ hx⟩
theorem mem_open {b:Nat} {c0:Cfg} {ms:List Int} {P:Program} {N:Nat} {c:Code} {env:Env} {L:List HP} {Q:Exit→Act→World→Prop}
    (h:∀ g,(checkB c0=true∧(ms.length:Int)=c0.words*c0.lines∧ms.length≤8192)→WC P N c env (Cells b 198 (c0.cells++[.slice (some ⟨g,0,none⟩) ms.length ms.length])::Cells g 3 (flat ic ms)::L) Q):WC P N c env (MemB b c0 ms::L) Q:=by
  intro a w ha hw
  obtain ⟨hf,g,hx⟩:=mem_sat hw
  exact h g hf a w ha hx
set_option maxRecDepth 100000
set_option maxHeartbeats 4000000
attribute [local irreducible] Go.Exit.then Go.Exit.inBlock Go.Code.wp WC WO WE WQ V LoopQ FnQ Sat Star band bor IntKind.wrap WR Code.rounds WT KO
def touchL (ms:List Int) (i:Nat) (x:Op3):List Int:=if x.kind=2∨x.kind=3 then ms.set i x.value else ms
def touchE (ms:List Int) (i:Nat) (x:Op3):Int:=if x.kind=2 then 0 else ms.getD i 0
theorem mem_touch {F:List HP} {g T i:Nat} {ms:List Int} {x:Op3} (hi:i<ms.length):FnF Tryz.prog 123 [.pointer (some ⟨g,i,none⟩),ov x] [Cells g T (flat ic ms)] F (fun r L'=>r= .int .i64 (touchE ms i x)∧L'=[Cells g T (flat ic (touchL ms i x))]):=by
  have hg:=flat_ic_get hi
  refine FnF.mk' Tryz.func123 rfl rfl Tryz.ntmps123 rfl ?_
  repeat (first|refine gd ?_|intro _)
  have hle:Nat.ble (i+1) (flat ic ms).length=true:=by rw [flat_ic_len];exact Nat.ble_eq_true_of_le hi
  have hgd:ms.getD i 0=ms[i]:=by simp [hi]
  by_cases h2:x.kind=2
  · repeat (first|refine gd ?_|intro _)
    refine WO_k rfl (K_store (cs:=[.int .i64 x.value]) rfl rfl inferInstance rfl rfl rfl hle) (same_intro ?_)
    rw [splice_ic hi]
    repeat (first|refine gd ?_|intro _)
    (apply WE_ret rfl rfl zqR)
    · exact ⟨by simp [touchE,h2],rfl⟩
    · simp only [touchL,h2,true_or,if_true];exact entu0
  · by_cases h3:x.kind=3
    · repeat (first|refine gd ?_|intro _)
      refine WO_k rfl (K_store (cs:=[.int .i64 x.value]) rfl rfl inferInstance rfl rfl rfl hle) (same_intro ?_)
      rw [splice_ic hi]
      repeat (first|refine gd ?_|intro _)
      (apply WE_ret rfl rfl zqR)
      · exact ⟨by simp [touchE,h2,hi],rfl⟩
      · simp only [touchL,h3,or_true,if_true];exact entu0
    · repeat (first|refine gd ?_|intro _)
      (apply WE_ret rfl rfl zqR)
      · exact ⟨by simp [touchE,h2,hi],rfl⟩
      · simp only [touchL,h2,h3,or_self,if_false];exact entu0
theorem dr_Mem_63 {Q P:Prop} (k:Q) (h:Hid Q→P:=by
  intro k
  first
  |(refine is_draw ?_;apply WC_mix (id:=4) .false _ (pl:= .r 0 <| .r 1 <| .e true [(2,.e true [(3,.p 4 <| .e true [(5,.p 6 <| .p 7 <| .done)])])]);exact mixed;kernel_rfl;kernel_rfl;exact Ent.refl;exact k.out)):P:=h ⟨k⟩
theorem mem_New_no {F:List HP} {c:Cfg} (hc:c.wf) (h:checkB c=false):FnF Tryz.prog 63 [c.val] [] F (fun r L'=>r= .tuple [.pointer none,.int .i64 1].toArray∧L'=[]):=by
  have hE:=fun F=>shape_Check (F:=F) hc
  simp only [checkE,h,if_false,Bool.false_eq_true] at hE
  refine FnF.mk' Tryz.func63 rfl rfl Tryz.ntmps63 rfl ?_
  repeat (first|refine go ?_|intro _|refine dr_Mem_63 ?_|refine drq ?_|refine cal @hE ?_)
  exact fin0
theorem flat_ic_one (l:List Int):(flat ic l).all one=true:=by
  induction l with
  |nil=>rfl
  |cons a r ih=>simp [flat,one]
theorem rep_ic (n:Nat):List.replicate n (Value.int .i64 0)=flat ic (List.replicate n 0):=by
  induction n with
  |zero=>rfl
  |succ n ih=>rw [List.replicate_succ,List.replicate_succ,ih];rfl
theorem mem_New {F:List HP} {c:Cfg} (hc:c.wf) (h:checkB c=true):FnF Tryz.prog 63 [c.val] [] F (fun r L'=>∃ b,r= .tuple [.pointer (some ⟨b,0,none⟩),.int .i64 0].toArray∧L'=[MemB b c (List.replicate (c.words*c.lines).toNat 0)]):=by
  have hE:=fun F=>shape_Check (F:=F) hc
  simp only [checkE,h,if_true] at hE
  have hS:=fun F=>shape_Size (F:=F) hc
  simp only [sizeOf',h,if_true] at hS
  have hw:=check_words h
  have hm:=mul_bd (m:=8) (n:=1024) (a:=c.words) (b:=c.lines) (by omega) (by omega) (by omega) (by omega) (by omega)
  simp only [Int.reduceMul] at hm
  generalize hz:c.words*c.lines=z at hm hS ⊢
  refine FnF.mk' Tryz.func63 rfl rfl Tryz.ntmps63 rfl ?_
  repeat (first|refine go ?_|intro _|refine dr_Mem_63 ?_|refine drq ?_|refine cal @hE ?_|refine cal @hS ?_)
  (apply WE_ret rfl rfl zqR)
  · exact ⟨_,rfl,rfl⟩
  · rw [rep_ic]
    rename_i bc bs bm
    refine mem_in (g:=bs) (n:=z.toNat) (ms:=List.replicate z.toNat 0) (Ent.cons (Ent.cons (Ent.drop Ent.refl))) (by simp) rfl ?_
    exact ⟨h,by simp [hz];omega,by simp;omega⟩
def memIn (ms:List Int) (a:Int):Bool:=decide (0≤a∧a<ms.length)
def wordAt (ms:List Int) (a:Int):Int:=if memIn ms a then ms.getD a.toNat 0 else 0
def doOk (ms:List Int) (x:Op3):Bool:=mayB x&& decide (x.addr<ms.length)
def memDoV (ms:List Int) (x:Op3):Int:=if doOk ms x then (if x.kind=4 then 0 else touchE ms x.addr.toNat x) else 0
def memDoE (ms:List Int) (x:Op3):Int:=if doOk ms x then 0 else 1
def memDoL (ms:List Int) (x:Op3):List Int:=if doOk ms x then (if x.kind=4 then ms else touchL ms x.addr.toNat x) else ms
def lineF (c:Cfg) (line:Int):Nat:=(line*c.words).toNat
def lineL (c:Cfg) (ms:List Int) (line:Int):List Int:=(ms.drop (lineF c line)).take c.words.toNat
def lineWo (c:Cfg) (ms:List Int) (line:Int):Words:=if okJoin c line 0 then Words.of (lineL c ms line) else .zero
def tailZ (c:Cfg) (w:Words):Bool:=(w.list.drop c.words.toNat).all fun n=>decide (n=0)
def wrOk (c:Cfg) (line:Int) (w:Words):Bool:=okJoin c line 0&& tailZ c w
def wrE (c:Cfg) (line:Int) (w:Words):Int:=if wrOk c line w then 0 else 1
def wrL (c:Cfg) (ms:List Int) (line:Int) (w:Words):List Int:=if wrOk c line w then ms.take (lineF c line)++w.list.take c.words.toNat++ms.drop (lineF c line+c.words.toNat) else ms
def apOk (c:Cfg) (x:Op3):Bool:=okAddr c x.addr&& mayB x&& !decide (x.kind=4)
def apW (c:Cfg) (w:Words) (x:Op3):Words:=if apOk c x then Words.of (touchL w.list (addrW c x.addr).toNat x) else .zero
def apV (c:Cfg) (w:Words) (x:Op3):Int:=if apOk c x then touchE w.list (addrW c x.addr).toNat x else 0
def apE (c:Cfg) (x:Op3):Int:=if apOk c x then 0 else 1
theorem touchL_len (ms:List Int) (i:Nat) (x:Op3):(touchL ms i x).length=ms.length:=by unfold touchL;split<;>simp
theorem memDoL_len (ms:List Int) (x:Op3):(memDoL ms x).length=ms.length:=by unfold memDoL;split<;>(try split)<;>simp [touchL_len]
theorem may_facts {x:Op3} (h:mayB x=true):(x.kind=1∨x.kind=2∨x.kind=3∨x.kind=4)∧0≤x.addr∧x.addr≤8191:=by
  unfold mayB at h
  split at h
  · simp at h;omega
  · split at h
    · simp at h;omega
    · split at h
      · simp at h;omega
      · cases h
theorem join_facts {c:Cfg} {line:Int} {n:Nat} (h:okJoin c line 0=true) (hn:(n:Int)=c.words*c.lines):checkB c=true∧0≤line∧line<c.lines∧1≤c.words∧c.words≤8∧0≤line*c.words∧line*c.words+c.words≤n∧joinN c line 0=line*c.words:=by
  have h0:=h
  simp only [okJoin,Bool.and_eq_true,decide_eq_true_eq] at h
  have hw:=check_words h.1
  have h1:=Int.mul_nonneg (a:=line) (b:=c.words) (by omega) (by omega)
  have h2:(line+1)*c.words≤c.lines*c.words:=Int.mul_le_mul_of_nonneg_right (by omega) (by omega)
  rw [Int.add_mul,Int.one_mul,Int.mul_comm c.lines] at h2
  exact ⟨h.1,h.2.1,h.2.2.1,by omega,by omega,h1,by omega,by simp [joinN,h0]⟩
theorem mem_part_no {F:List HP} {b:Nat} {c:Cfg} {v:Value} {line:Int} (hc:c.wf) (hl:I64 line) (h:okJoin c line 0=false) :
    FnF Tryz.prog 170 [.pointer (some ⟨b,0,none⟩),.int .i64 line] [Cells b 198 (c.cells++[v])] F (fun r L'=>r= .slice none 0 0∧L'=[Cells b 198 (c.cells++[v])]):=by
  have hJ:=fun F=>split_Join (F:=F) (c:=c) (l:=line) (w:=0) hc hl (by unfold I64;omega)
  simp only [joinE,h,if_false,Bool.false_eq_true] at hJ
  refine FnF.mk' Tryz.func170 rfl rfl Tryz.ntmps170 rfl ?_
  repeat (first|refine gd ?_|intro _|refine cal @hJ ?_)
  exact fin0
theorem mem_part {F:List HP} {b g n:Nat} {c:Cfg} {line:Int} (hc:c.wf) (hl:I64 line) (h:okJoin c line 0=true) (hn:(n:Int)=c.words*c.lines) (hb:n≤8192) :
    FnF Tryz.prog 170 [.pointer (some ⟨b,0,none⟩),.int .i64 line] [Cells b 198 (c.cells++[.slice (some ⟨g,0,none⟩) n n])] F
      (fun r L'=>r= .slice (some ⟨g,lineF c line,none⟩) c.words.toNat (n-lineF c line)∧L'=[Cells b 198 (c.cells++[.slice (some ⟨g,0,none⟩) n n])]):=by
  have hJ:=fun F=>split_Join (F:=F) (c:=c) (l:=line) (w:=0) hc hl (by unfold I64;omega)
  obtain ⟨h1,h2,h3,h4,h5,h6,h7,h8⟩:=join_facts h hn
  simp only [joinE,h,if_true,h8] at hJ
  generalize hz:line*c.words=z at *
  have hf:lineF c line=z.toNat:=by unfold lineF;rw [hz]
  rw [hf]
  refine FnF.mk' Tryz.func170 rfl rfl Tryz.ntmps170 rfl ?_
  repeat (first|refine gd ?_|intro _|refine cal @hJ ?_)
  (apply WE_ret rfl rfl zqR)
  · refine ⟨?_,rfl⟩
    rw [cut_at (by omega)]
    have e1:(z+c.words).toNat-z.toNat=c.words.toNat:=by omega
    simp [e1]
  · exact entu0
end Go.Sx

/- Memories as lists: what was stored last is loaded; what is applied is what is done. My own work; names no program. -/
namespace Go.Sx
open Go Go.Proofs
theorem list_of_pad {l:List Int} (h:l.length≤8):(Words.of l).list=l++List.replicate (8-l.length) 0:=by
  match l,h with
  | [],_=>rfl
  | [a],_=>rfl
  | [a,b],_=>rfl
  | [a,b,c],_=>rfl
  | [a,b,c,d],_=>rfl
  | [a,b,c,d,e],_=>rfl
  | [a,b,c,d,e,f],_=>rfl
  | [a,b,c,d,e,f,g],_=>rfl
  | [a,b,c,d,e,f,g,i],_=>rfl
  |a::b::c::d::e::f::g::i::j::r,h=>exact absurd h (by simp)
theorem set_mid (A L B:List Int) (i:Nat) (h:i<L.length) (v:Int):(A++(L++B)).set (A.length+i) v=A++(L.set i v++B):=by
  rw [List.set_append_right _ _ (by omega),Nat.add_sub_cancel_left,List.set_append_left _ _ h]
theorem get_mid (A L B:List Int) (i:Nat) (h:i<L.length):(A++(L++B)).getD (A.length+i) 0=L.getD i 0:=by
  simp [List.getD_eq_getElem?_getD,List.getElem?_append_right,List.getElem?_append_left h]
theorem get_left (L B:List Int) (i:Nat) (h:i<L.length):(L++B).getD i 0=L.getD i 0:=by
  simp [List.getD_eq_getElem?_getD,List.getElem?_append_left h]
theorem touchL_mid (A L B:List Int) (i:Nat) (h:i<L.length) (x:Op3):touchL (A++(L++B)) (A.length+i) x=A++(touchL L i x++B):=by
  unfold touchL;split
  · exact set_mid A L B i h _
  · rfl
theorem apply_same {c:Cfg} {ms:List Int} {x:Op3} (hn:(ms.length:Int)=c.words*c.lines) (h:apOk c x=true) :
    okJoin c (addrL c x.addr) 0=true∧doOk ms x=true∧x.kind≠4∧0≤addrW c x.addr∧addrW c x.addr<8∧(lineWo c ms (addrL c x.addr)).list.getD (addrW c x.addr).toNat 0=wordAt ms x.addr∧
    wrOk c (addrL c x.addr) (apW c (lineWo c ms (addrL c x.addr)) x)=true∧wrL c ms (addrL c x.addr) (apW c (lineWo c ms (addrL c x.addr)) x)=memDoL ms x∧apV c (lineWo c ms (addrL c x.addr)) x=memDoV ms x:=by
  have h0:=h
  simp only [apOk,Bool.and_eq_true,Bool.not_eq_true',decide_eq_false_iff_not] at h
  obtain ⟨⟨ha,hm⟩,h4⟩:=h
  have ha0:=ha
  simp only [okAddr,Bool.and_eq_true,decide_eq_true_eq] at ha
  obtain ⟨hck,ha1,ha2⟩:=ha
  have hw:=check_words hck
  have eL:addrL c x.addr=x.addr / c.words:=by simp [addrL,ha0]
  have eW:addrW c x.addr=x.addr % c.words:=by simp [addrW,ha0]
  have hq:=Int.ediv_mul_add_emod x.addr c.words
  have hr0:=Int.emod_nonneg x.addr (show c.words≠0 by omega)
  have hr1:=Int.emod_lt_of_pos x.addr (show 0<c.words by omega)
  rw [eL,eW]
  generalize x.addr / c.words=q at *
  generalize x.addr % c.words=r at *
  have hql:q<c.lines:=by
    rcases Int.lt_or_le q c.lines with h|h
    · exact h
    · have:=Int.mul_le_mul_of_nonneg_right h (show 0≤c.words by omega)
      rw [Int.mul_comm c.lines] at this;omega
  have hq0:0≤q:=by
    rcases Int.lt_or_le q 0 with h|h
    · have:=Int.mul_le_mul_of_nonneg_right (show q≤ -1 by omega) (show 0≤c.words by omega)
      omega
    · exact h
  have hJ:okJoin c q 0=true:=by simp [okJoin,hck,hq0,hql];omega
  have hD:doOk ms x=true:=by simp [doOk,hm];omega
  obtain ⟨j1,j2,j3,j4,j5,j6,j7,j8⟩:=join_facts hJ hn
  have hfe:lineF c q=(q*c.words).toNat:=rfl
  generalize hz:q*c.words=z at *
  have hAl:(ms.take (lineF c q)).length=lineF c q:=by rw [List.length_take];omega
  have hLl:(lineL c ms q).length=c.words.toNat:=by unfold lineL;simp;omega
  have hms:ms=ms.take (lineF c q)++(lineL c ms q++ms.drop (lineF c q+c.words.toNat)):=by
    unfold lineL;rw [←List.drop_drop,List.take_append_drop,List.take_append_drop]
  have hat:x.addr.toNat=(ms.take (lineF c q)).length+r.toNat:=by omega
  have hri:r.toNat<(lineL c ms q).length:=by omega
  have hwl:(lineWo c ms q).list=lineL c ms q++List.replicate (8-(lineL c ms q).length) 0:=by simp only [lineWo,hJ,if_true];exact list_of_pad (by omega)
  have htl:touchL (lineWo c ms q).list r.toNat x=touchL (lineL c ms q) r.toNat x++List.replicate (8-(lineL c ms q).length) 0:=by
    rw [hwl]
    have:=touchL_mid [] (lineL c ms q) (List.replicate (8-(lineL c ms q).length) 0) r.toNat hri x
    simpa using this
  have hap:(apW c (lineWo c ms q) x).list=touchL (lineL c ms q) r.toNat x++List.replicate (8-(lineL c ms q).length) 0:=by
    simp only [apW,h0,if_true,eW]
    rw [Words.list_of (by rw [touchL_len];rfl),htl]
  have hget:(lineWo c ms q).list.getD r.toNat 0=ms.getD x.addr.toNat 0:=by
    rw [hwl,get_left _ _ _ hri,hat]
    conv=>rhs;rw [hms]
    have:=get_mid (ms.take (lineF c q)) (lineL c ms q) (ms.drop (lineF c q+c.words.toNat)) r.toNat hri
    rw [←this]
    congr 2
    rw [←hms]
  have hwo:wrOk c q (apW c (lineWo c ms q) x)=true:=by
    simp only [wrOk,hJ,Bool.true_and,tailZ]
    rw [hap,List.drop_left' (by rw [touchL_len];exact hLl)]
    simp
  refine ⟨hJ,hD,h4,hr0,by omega,?_,hwo,?_,?_⟩
  · rw [hget];simp [wordAt,memIn,ha1];intro h;omega
  · simp only [wrL,hwo,if_true]
    rw [hap,List.take_left' (by rw [touchL_len];exact hLl)]
    simp only [memDoL,hD,if_true,h4,if_false]
    rw [hat]
    conv=>rhs;rw [hms]
    have:=touchL_mid (ms.take (lineF c q)) (lineL c ms q) (ms.drop (lineF c q+c.words.toNat)) r.toNat hri x
    rw [List.append_assoc,←this]
    congr 2
    rw [←hms]
  · simp only [apV,h0,if_true,eW,memDoV,hD,h4,if_false,touchE,hget]
end Go.Sx

/- What package memory does: its exported functions. My own work. -/
namespace Go.Sx
open Go Go.Proofs
set_option maxRecDepth 100000
set_option maxHeartbeats 4000000
attribute [local irreducible] Go.Exit.then Go.Exit.inBlock Go.Code.wp WC WO WE WQ V LoopQ FnQ Sat Star band bor IntKind.wrap WR Code.rounds WT KO
theorem getD_ic {ms:List Int} {i:Nat} (hi:i<ms.length):(flat ic ms)[0+i*1]? =some (.int .i64 (ms.getD i 0)):=by
  rw [Nat.zero_add,Nat.mul_one,flat_ic_get hi];simp [hi]
theorem mem_Word {F:List HP} {b:Nat} {c:Cfg} {ms:List Int} {a:Int}:FnF Tryz.prog 69 [.pointer (some ⟨b,0,none⟩),.int .i64 a] [MemB b c ms] F (fun r L'=>r= .int .i64 (wordAt ms a)∧L'=[MemB b c ms]):=by
  refine FnF.mk' Tryz.func69 rfl rfl Tryz.ntmps69 rfl ?_
  refine mem_open fun g hf=>?_
  by_cases h0:0≤a
  · by_cases h1:a<ms.length
    · have hg:=getD_ic (ms:=ms) (i:=a.toNat) (by omega)
      repeat (first|refine gd ?_|intro _)
      (apply WE_ret rfl rfl zqR)
      · exact ⟨by simp [wordAt,memIn,h0,h1],rfl⟩
      · exact enx @mem_in
    · repeat (first|refine gd ?_|intro _)
      (apply WE_ret rfl rfl zqR)
      · exact ⟨by simp [wordAt,memIn,h1],rfl⟩
      · exact enx @mem_in
  · repeat (first|refine gd ?_|intro _)
    (apply WE_ret rfl rfl zqR)
    · exact ⟨by simp [wordAt,memIn,h0],rfl⟩
    · exact enx @mem_in
theorem dr_Mem2_64 {Q P:Prop} (k:Q) (h:Hid Q→P:=by
  intro k
  first
  |(refine is_draw ?_;apply WC_mix (id:=5) .true _ (pl:= .p 0 <| .p 1 <| .p 2 <| .p 4 <| .r 3 <| .r 5 <| .p 6 <| .r 7 <| .e true [(8,.p 9 <| .p 10 <| .done)]);exact mixed;kernel_rfl;kernel_rfl;exact Ent.refl;exact k.out)):P:=h ⟨k⟩
theorem mem_Do {F:List HP} {b:Nat} {c:Cfg} {ms:List Int} {x:Op3}:FnF Tryz.prog 64 [.pointer (some ⟨b,0,none⟩),ov x] [MemB b c ms] F (fun r L'=>r= .tuple [.int .i64 (memDoV ms x),.int .i64 (memDoE ms x)].toArray∧L'=[MemB b c (memDoL ms x)]):=by
  have hM:=fun F=>program_May (F:=F) (x:=x)
  cases e:mayB x with
  |false=>
   simp only [e] at hM
   have hd:doOk ms x=false:=by simp [doOk,e]
   refine FnF.mk' Tryz.func64 rfl rfl Tryz.ntmps64 rfl ?_
   refine mem_open fun g hf=>?_
   repeat (first|refine go ?_|intro _|refine dr_Mem2_64 ?_|refine drq ?_|refine cal @hM ?_)
   (apply WE_ret rfl rfl zqR)
   · exact ⟨by simp [memDoV,memDoE,hd],rfl⟩
   · simp only [memDoL,hd,Bool.false_eq_true,if_false];exact enx @mem_in
  |true=>
   simp only [e] at hM
   by_cases h1:x.addr<ms.length
   · have hd:doOk ms x=true:=by simp [doOk,e,h1]
     have hm:=may_facts e
     by_cases h4:x.kind=4
     · refine FnF.mk' Tryz.func64 rfl rfl Tryz.ntmps64 rfl ?_
       refine mem_open fun g hf=>?_
       repeat (first|refine go ?_|intro _|refine dr_Mem2_64 ?_|refine drq ?_|refine cal @hM ?_)
       (apply WE_ret rfl rfl zqR)
       · exact ⟨by simp [memDoV,memDoE,hd,h4],rfl⟩
       · simp only [memDoL,hd,h4,if_true];exact enx @mem_in
     · refine FnF.mk' Tryz.func64 rfl rfl Tryz.ntmps64 rfl ?_
       refine mem_open fun g hf=>?_
       repeat (first|refine go ?_|intro _|refine dr_Mem2_64 ?_|refine drq ?_|refine cal @hM ?_|refine cal @mem_touch ?_)
       (apply WE_ret rfl rfl zqR)
       · exact ⟨by simp [memDoV,memDoE,hd,h4],rfl⟩
       · simp only [memDoL,hd,h4,if_true,if_false,Nat.zero_add,Nat.mul_one]
         ((repeat (first|(with_reducible exact Ent.refl)|exact Ent.nil|(apply ent_pickE;exact zqP)|(apply mem_in)|apply Ent.drop));all_goals (first|rfl|(with_reducible assumption)|(simp [touchL_len];done)|(simp [touchL_len];omega)|omega|(constructor<;>(simp [touchL_len])<;>omega)))
   · have hd:doOk ms x=false:=by simp [doOk,h1]
     refine FnF.mk' Tryz.func64 rfl rfl Tryz.ntmps64 rfl ?_
     refine mem_open fun g hf=>?_
     repeat (first|refine go ?_|intro _|refine dr_Mem2_64 ?_|refine drq ?_|refine cal @hM ?_)
     (apply WE_ret rfl rfl zqR)
     · exact ⟨by simp [memDoV,memDoE,hd],rfl⟩
     · simp only [memDoL,hd,Bool.false_eq_true,if_false];exact enx @mem_in
theorem line_rd {c:Cfg} {ms:List Int} {line:Int} (hn:(ms.length:Int)=c.words*c.lines) (h:okJoin c line 0=true):lineF c line+c.words.toNat≤ms.length∧(lineL c ms line).length=c.words.toNat∧c.words.toNat≤8∧1≤c.words.toNat:=by
  obtain ⟨h1,h2,h3,h4,h5,h6,h7,h8⟩:=join_facts h hn
  have:lineF c line=(line*c.words).toNat:=rfl
  refine ⟨by omega,?_,by omega,by omega⟩
  simp [lineL];omega
theorem rd_line {g T:Nat} {c:Cfg} {ms:List Int} {line:Int} {L:List HP} (hn:(ms.length:Int)=c.words*c.lines) (h:okJoin c line 0=true) {cap:Nat} :
    RdL (Cells g T (flat ic ms)::L) 1 (.slice (some ⟨g,lineF c line,none⟩) c.words.toNat cap) c.words.toNat (flat ic (lineL c ms line)):=by
  have:=line_rd hn h
  have hx:((flat ic ms).drop (lineF c line)).take (c.words.toNat*1)=flat ic (lineL c ms line):=by
    have h1:=flat_drop (enc:=ic) (n:=1) (fun _=>rfl) ms (lineF c line)
    have h2:=flat_take (enc:=ic) (n:=1) (fun _=>rfl) (ms.drop (lineF c line)) c.words.toNat
    rw [Nat.mul_one] at h1 h2 ⊢
    rw [h1,h2];rfl
  have k:=rd_cells (L:=Cells g T (flat ic ms)::L) (o:=lineF c line) (m:=c.words.toNat) (c:=cap) (sz:=1) (b:=g) inferInstance (by rw [flat_ic_len];omega) (by rw [hx];exact flat_ic_one _)
  rwa [hx] at k
theorem mem_Line {F:List HP} {b:Nat} {c:Cfg} {ms:List Int} {line:Int} (hc:c.wf) (hl:I64 line):FnF Tryz.prog 127 [.pointer (some ⟨b,0,none⟩),.int .i64 line] [MemB b c ms] F (fun r L'=>r= .tuple [wv (lineWo c ms line),.int .i64 (joinE c line 0)].toArray∧L'=[MemB b c ms]):=by
  cases e:okJoin c line 0 with
  |false=>
   have hP:=fun F b v=>mem_part_no (F:=F) (b:=b) (v:=v) hc hl e
   refine FnF.mk' Tryz.func127 rfl rfl Tryz.ntmps127 rfl ?_
   refine mem_open fun g hf=>?_
   repeat (first|refine gd ?_|intro _|refine cal @hP ?_)
   (apply WE_ret rfl rfl zqR)
   · exact ⟨by simp [lineWo,joinE,e,Words.zero],rfl⟩
   · exact enx @mem_in
  |true=>
   refine FnF.mk' Tryz.func127 rfl rfl Tryz.ntmps127 rfl ?_
   refine mem_open fun g hf=>?_
   have hr:=line_rd hf.2.1 e
   have hP:=fun F=>mem_part (F:=F) (b:=b) (g:=g) hc hl e hf.2.1 hf.2.2
   haveI kr:=fun L=>rd_line (g:=g) (T:=3) (L:=L) (cap:=ms.length-lineF c line) hf.2.1 e
   have hsp:splice [.int .i64 0,.int .i64 0,.int .i64 0,.int .i64 0,.int .i64 0,.int .i64 0,.int .i64 0,.int .i64 0] 0 ((flat ic (lineL c ms line)).take (min c.words.toNat 8*1))=wc (Words.of (lineL c ms line)):=by
     rw [List.take_of_length_le (by rw [flat_ic_len];omega)]
     exact splice_words (by omega)
   repeat (first|refine gd ?_|intro _|refine cal @hP ?_)
   rw [hsp]
   repeat (first|refine gd ?_|intro _)
   (apply WE_ret rfl rfl zqR)
   · exact ⟨by simp [lineWo,joinE,e],rfl⟩
   · exact enx @mem_in
theorem touch_w {F:List HP} {g T i:Nat} {w:Words} {x:Op3} (hi:i<8):FnF Tryz.prog 123 [.pointer (some ⟨g,i,none⟩),ov x] [Cells g T (wc w)] F (fun r L'=>r= .int .i64 (touchE w.list i x)∧L'=[Cells g T (wc (Words.of (touchL w.list i x)))]):=by
  have h:=mem_touch (F:=F) (g:=g) (T:=T) (i:=i) (ms:=w.list) (x:=x) hi
  rw [flat_of (l:=touchL w.list i x) (by rw [touchL_len];rfl)] at h
  exact h
theorem flat_ic_map (l:List Int):flat ic l=l.map (Value.int .i64):=by
  induction l with
  |nil=>rfl
  |cons a r ih=>rw [List.map_cons,←ih];rfl
theorem copy_wr {ms:List Int} {w:Words} {f k:Nat} (h:f+k≤ms.length) (hk:k≤8):splice (flat ic ms) f ((wc w).take (min 8 k*1))=flat ic (ms.take f++w.list.take k++ms.drop (f+k)):=by
  have e:wc w=flat ic w.list:=rfl
  have hl:w.list.length=8:=rfl
  rw [show min 8 k*1=k by omega,e,flat_ic_map,flat_ic_map,flat_ic_map,splice]
  simp [List.map_take,List.map_drop,hl,Nat.min_eq_left hk]
instance (priority:=high) rd_cutw {bw T l:Nat} {w:Words} {L:List HP}:RdL (Cells bw T (wc w)::L) 1 (Sx.cut (.slice (some ⟨bw,0,none⟩) 8 8) l 8 8 1) (8-l) (flat ic (w.list.drop l)):=by
  by_cases hl:l≤8
  · have k0:RdL (Cells bw T (wc w)::L) 1 (.slice (some ⟨bw,0,none⟩) 8 8) 8 (wc w):=rd_lit inferInstance rfl rfl
    have k:=RdL.cut k0 hl (Nat.le_refl _) (Nat.le_refl _)
    have e:((wc w).drop (l*1)).take ((8-l)*1)=flat ic (w.list.drop l):=by
      rw [show wc w=flat ic w.list from rfl,flat_drop (enc:=ic) (n:=1) (fun _=>rfl),List.take_of_length_le]
      rw [flat_ic_len,List.length_drop]
      have:w.list.length=8:=rfl
      omega
    rwa [e] at k
  · have e:w.list.drop l=[]:=List.drop_eq_nil_of_le (by have:w.list.length=8:=rfl;omega)
    have e2:8-l=0:=by omega
    rw [e,e2]
    exact ⟨fun _ _=>by simp,fun _ _=>rfl,fun _ _=> .inl ⟨_,_,by simp [Sx.cut,e2];exact ⟨rfl,rfl⟩,rfl⟩⟩
theorem wr_len {ms:List Int} {w:Words} {f k:Nat} (h:f+k≤ms.length) (hk:k≤8):(ms.take f++w.list.take k++ms.drop (f+k)).length=ms.length:=by
  have hl:w.list.length=8:=rfl
  simp [hl,Nat.min_eq_left hk];omega
theorem mem_Write {F:List HP} {b:Nat} {c:Cfg} {ms:List Int} {line:Int} {w:Words} (hc:c.wf) (hl:I64 line):FnF Tryz.prog 197 [.pointer (some ⟨b,0,none⟩),.int .i64 line,wv w] [MemB b c ms] F (fun r L'=>r= .int .i64 (wrE c line w)∧L'=[MemB b c (wrL c ms line w)]):=by
  cases e:okJoin c line 0 with
  |false=>
   have hP:=fun F b v=>mem_part_no (F:=F) (b:=b) (v:=v) hc hl e
   have hw:wrOk c line w=false:=by simp [wrOk,e]
   refine FnF.mk' Tryz.func197 rfl rfl Tryz.ntmps197 rfl ?_
   refine mem_open fun g hf=>?_
   repeat (first|refine gd ?_|intro _|refine cal @hP ?_)
   (apply WE_ret rfl rfl zqR)
   · exact ⟨by simp [wrE,hw],rfl⟩
   · simp only [wrL,hw,Bool.false_eq_true,if_false];exact enx @mem_in
  |true=>
   refine FnF.mk' Tryz.func197 rfl rfl Tryz.ntmps197 rfl ?_
   refine mem_open fun g hf=>?_
   have hr:=line_rd hf.2.1 e
   have hj:=join_facts e hf.2.1
   have hP:=fun F=>mem_part (F:=F) (b:=b) (g:=g) hc hl e hf.2.1 hf.2.2
   have hfl:=flat_ic_len ms
   have hwl:(w.list.drop c.words.toNat).length=8-c.words.toNat:=by rw [List.length_drop];rfl
   repeat (first|refine gd ?_|intro _|refine cal @hP ?_)
   rename_i bw
   apply WC_loopE (E0:=[(5,_),(7,_),(20,_),(21,_)]) (fun E0 (i:Nat)=>(22,.int .i64 i)::E0) (fun _=>Cells bw 97 (wc w)::Cells b 198 (c.cells++[.slice (some ⟨g,0,none⟩) ms.length ms.length])::Cells g 3 (flat ic ms)::F) (fun i=>i≤8-c.words.toNat∧∀ j (h:j<(w.list.drop c.words.toNat).length),j<i→(w.list.drop c.words.toNat)[j]=0) (fun i=>8-i) 0
   · exact zqU
   · exact ⟨Nat.zero_le _,fun j h hj=>by omega⟩
   · exact entu0
   · rintro i ⟨hi,h1⟩
     by_cases hlt:i<8-c.words.toNat
     · have hlt':i<(w.list.drop c.words.toNat).length:=by omega
       by_cases h0:(w.list.drop c.words.toNat)[i]=0
       · repeat (first|refine gd ?_|intro _)
         refine WE_loop (i+1) (by omega) ⟨by omega,fun j h hj=>?_⟩ ?_ ?_
         · by_cases e:j=i
           · subst e;exact h0
           · exact h1 j h (by omega)
         · exact zqU
         · exact entu0
       · have hw:wrOk c line w=false:=by
           have:tailZ c w=false:=by
             unfold tailZ
             rw [List.all_eq_false];exact ⟨_,List.getElem_mem hlt',by simpa using h0⟩
           simp [wrOk,this]
         repeat (first|refine gd ?_|intro _)
         (apply WE_ret rfl rfl zqR)
         · exact ⟨by simp [wrE,hw],rfl⟩
         · simp only [wrL,hw,Bool.false_eq_true,if_false];exact enx @mem_in
     · have hw:wrOk c line w=true:=by
         have:tailZ c w=true:=by
           unfold tailZ
           rw [List.all_eq_true]
           intro x hx
           obtain ⟨j,hj,rfl⟩:=List.getElem_of_mem hx
           simpa using h1 j hj (by omega)
         simp [wrOk,this,e]
       repeat (first|refine gd ?_|intro _)
       (apply WE_ret rfl rfl zqR)
       · exact ⟨by simp [wrE,hw],rfl⟩
       · rw [copy_wr hr.1 hr.2.2.1]
         simp only [wrL,hw,if_true]
         apply mem_in
         · exact entu0
         · rw [wr_len hr.1 hr.2.2.1]
         · rfl
         · rw [wr_len hr.1 hr.2.2.1];exact hf
theorem dr_Mem2_191 {Q P:Prop} (k:Q) (h:Hid Q→P:=by
  intro k
  first
  |(refine is_draw ?_;apply WC_mix (id:=4) .true _ (pl:= .p 0 <| .p 1 <| .r 2 <| .e true [(3,.p 4 <| .done)]);exact mixed;kernel_rfl;kernel_rfl;exact Ent.refl;exact k.out)):P:=h ⟨k⟩
theorem mem_Apply {F:List HP} {c:Cfg} {w:Words} {x:Op3} (hc:c.wf) (hx:x.wf):FnF Tryz.prog 191 [c.val,wv w,ov x] [] F (fun r L'=>r= .tuple [wv (apW c w x),.int .i64 (apV c w x),.int .i64 (apE c x)].toArray∧L'=[]):=by
  have hA:=fun F=>split_Addr (F:=F) (c:=c) (a:=x.addr) hc hx.2.1
  have hM:=fun F=>program_May (F:=F) (x:=x)
  cases e1:okAddr c x.addr with
  |false=>
   have ha:apOk c x=false:=by simp [apOk,e1]
   simp only [addrE,e1,Bool.false_eq_true,if_false] at hA
   refine FnF.mk' Tryz.func191 rfl rfl Tryz.ntmps191 rfl ?_
   repeat (first|refine go ?_|intro _|refine dr_Mem2_191 ?_|refine drq ?_|refine cal @hA ?_)
   (apply WE_ret rfl rfl zqR)
   · exact ⟨by simp [apW,apV,apE,ha,Words.zero],rfl⟩
   · exact entu0
  |true=>
   simp only [addrE,e1,if_true] at hA
   cases e2:mayB x with
   |false=>
    have ha:apOk c x=false:=by simp [apOk,e2]
    simp only [e2] at hM
    refine FnF.mk' Tryz.func191 rfl rfl Tryz.ntmps191 rfl ?_
    repeat (first|refine go ?_|intro _|refine dr_Mem2_191 ?_|refine drq ?_|refine cal @hA ?_|refine cal @hM ?_)
    (apply WE_ret rfl rfl zqR)
    · exact ⟨by simp [apW,apV,apE,ha,Words.zero],rfl⟩
    · exact entu0
   |true=>
    simp only [e2] at hM
    by_cases e3:x.kind=4
    · have ha:apOk c x=false:=by simp [apOk,e3]
      refine FnF.mk' Tryz.func191 rfl rfl Tryz.ntmps191 rfl ?_
      repeat (first|refine go ?_|intro _|refine dr_Mem2_191 ?_|refine drq ?_|refine cal @hA ?_|refine cal @hM ?_)
      (apply WE_ret rfl rfl zqR)
      · exact ⟨by simp [apW,apV,apE,ha,Words.zero],rfl⟩
      · exact entu0
    · have ha:apOk c x=true:=by simp [apOk,e1,e2,e3]
      obtain ⟨_,_,_,q1,q2,_⟩:=apply_same (c:=c) (x:=x) (ms:=List.replicate (c.words*c.lines).toNat 0) (by
        have:=(addr_big e1).2
        simp;omega) ha
      refine FnF.mk' Tryz.func191 rfl rfl Tryz.ntmps191 rfl ?_
      repeat (first|refine go ?_|intro _|refine dr_Mem2_191 ?_|refine drq ?_|refine cal @hA ?_|refine cal @hM ?_|refine cal @touch_w ?_)
      (apply WE_ret rfl rfl zqR)
      · exact ⟨by simp [apW,apV,apE,ha],rfl⟩
      · exact entu0
end Go.Sx

/- What queues do, the program's. My own work. -/
namespace Go.Sx
open Go Go.Proofs
abbrev qrd (p:QP):HP:=Rds 15 (.slice p.2.1 p.1.sends.length p.2.2) p.1.sends.length (flat mc p.1.sends)
def QuB (T e:TypeId) (b:Nat) (room:Int) (l:List QE):HP:=
  Ex fun q:(Option Addr×Nat)×List QP=>[Cells b T [.int .i64 room,.slice q.1.1 q.2.length q.1.2],Own e 17 (.slice q.1.1 q.2.length q.1.2) q.2.length (flat qc q.2),All (q.2.map qrd),Fact (q.2.map (·.1)=l∧(q.2.length:Int)≤room∧room≤16∧∀ p∈q.2,p.1.sends.length≤p.2.2∧p.1.sends.length≤1000)]
section
variable {T e:TypeId} {b:Nat} {room:Int} {l:List QE}
theorem qu_in {n:Nat} {p:Option Addr} {c:Nat} {xs:List Value} {ps:List QP} {L M:List HP}
    (h:Ent L (Cells b T [.int .i64 room,.slice p n c]::Own e 17 (.slice p n c) n xs::All (ps.map qrd)::M)) (hl:ps.map (·.1)=l) (hn:n=ps.length) (hx:xs=flat qc ps) (h1:(ps.length:Int)≤room) (h2:room≤16) (h3:∀ p∈ps,p.1.sends.length≤p.2.2∧p.1.sends.length≤1000):Ent L (QuB T e b room l::M):=by
  subst hn hx
  refine Ent.trans h (Ent.trans ?_ (ex_intro (p:=fun q:(Option Addr×Nat)×List QP=>[Cells b T [.int .i64 room,.slice q.1.1 q.2.length q.1.2],Own e 17 (.slice q.1.1 q.2.length q.1.2) q.2.length (flat qc q.2),All (q.2.map qrd),Fact (q.2.map (·.1)=l∧(q.2.length:Int)≤room∧room≤16∧∀ p∈q.2,p.1.sends.length≤p.2.2∧p.1.sends.length≤1000)]) ((p,c),ps)))
  exact Ent.cons (Ent.cons (Ent.cons (star_fact_mk ⟨hl,h1,h2,h3⟩)))
theorem own_cap {T:TypeId} {sz n c:Nat} {p:Option Addr} {xs:List Value} {L:List HP} {w:World} (h:Sat (Own T sz (.slice p n c) n xs::L) w):n≤c:=by
  rcases (sat_own h).2.2 with ⟨q,h1,h2⟩|⟨g,cap,cur,h1,_,h3,_⟩
  · omega
  · cases h1;exact h3
theorem qu_sat {L:List HP} {w:World} (h:Sat (QuB T e b room l::L) w):∃ p c,∃ ps:List QP,(ps.map (·.1)=l∧(ps.length:Int)≤room∧room≤16∧(∀ p∈ps,p.1.sends.length≤p.2.2∧p.1.sends.length≤1000)∧ps.length≤c)∧
    Sat (Cells b T [.int .i64 room,.slice p ps.length c]::Own e 17 (.slice p ps.length c) ps.length (flat qc ps)::All (ps.map qrd)::L) w:=by
  obtain ⟨⟨⟨p,c⟩,ps⟩,hx⟩:=star_ex h
  simp only [app] at hx
  have hf:=fact_of (star_drop (star_drop (star_drop hx)))
  have hx2:Sat (Cells b T [.int .i64 room,.slice p ps.length c]::Own e 17 (.slice p ps.length c) ps.length (flat qc ps)::All (ps.map qrd)::L) w:=(Ent.cons (Ent.cons (Ent.cons (Ent.drop Ent.refl)))) _ hx
  exact ⟨p,c,ps,⟨hf.1,hf.2.1,hf.2.2.1,hf.2.2.2,own_cap (sat_tail hx2)⟩,hx2⟩
variable {P:Program} {N:Nat} {env:Env} {L:List HP} {Q:Exit→Act→World→Prop}
theorem qu_open {c:Code} (h:∀ p c0,∀ ps:List QP,(ps.map (·.1)=l∧(ps.length:Int)≤room∧room≤16∧(∀ p∈ps,p.1.sends.length≤p.2.2∧p.1.sends.length≤1000)∧ps.length≤c0)→WC P N c env (Cells b T [.int .i64 room,.slice p ps.length c0]::Own e 17 (.slice p ps.length c0) ps.length (flat qc ps)::All (ps.map qrd)::L) Q):WC P N c env (QuB T e b room l::L) Q:=by
  intro a w ha hw
  obtain ⟨p,c0,ps,hf,hx⟩:=qu_sat hw
  exact h p c0 ps hf a w ha hx
theorem qu_openO {all:Array Oper} {c:List Oper} (h:∀ p c0,∀ ps:List QP,(ps.map (·.1)=l∧(ps.length:Int)≤room∧room≤16∧(∀ p∈ps,p.1.sends.length≤p.2.2∧p.1.sends.length≤1000)∧ps.length≤c0)→WO P N all c env (Cells b T [.int .i64 room,.slice p ps.length c0]::Own e 17 (.slice p ps.length c0) ps.length (flat qc ps)::All (ps.map qrd)::L) Q):WO P N all c env (QuB T e b room l::L) Q:=by
  intro a w ha hw
  obtain ⟨p,c0,ps,hf,hx⟩:=qu_sat hw
  exact h p c0 ps hf a w ha hx
end
theorem all_add0 {ps:List QP} {m:Msg} {st:Bool} {a:Option Addr} {c:Nat} {L M:List HP} (h:Ent L (All (ps.map qrd)::M)):Ent L (All ((ps++[((⟨m,st,[]⟩:QE),(a,c))]).map qrd)::M):=
  Ent.trans h (Ent.trans rds_nil (all_add (f:=qrd) ((⟨m,st,[]⟩:QE),(a,c))))
theorem all_set {ps:List QP} {i:Nat} (hi:i<ps.length) {x:QP} {T:TypeId} {L M:List HP} (h:Ent L (Own T 15 (.slice x.2.1 x.1.sends.length x.2.2) x.1.sends.length (flat mc x.1.sends)::All (ps.map qrd)::M)):Ent L (All ((ps.set i x).map qrd)::M):=
  Ent.trans h (Ent.trans own_rds (Ent.trans (Ent.cons (all_erase i)) (all_put (f:=qrd) i hi x)))
theorem all_era {ps:List QP} {i:Nat} {L M:List HP} (h:Ent L (All (ps.map qrd)::M)):Ent L (All ((ps.eraseIdx i).map qrd)::M):=Ent.trans h (all_erase i)
theorem all_tail {ps:List QP} {i:Nat} (hi:i<ps.length) {x:QP} {L M:List HP} (hn:0<ps[i].1.sends.length) (hc:ps[i].1.sends.length≤ps[i].2.2) (h1:x.1.sends=ps[i].1.sends.drop 1)
    (h2:qsl x=cut (qsl ps[i]) 1 ps[i].1.sends.length ps[i].1.sends.length 15) (h:Ent L (All (ps.map qrd)::M)):Ent L (All ((ps.set i x).map qrd)::M):=by
  refine Ent.trans h (Ent.trans (all_take (f:=qrd) i hi) (Ent.trans (rds_cut (l:=1) (h:=ps[i].1.sends.length) (m:=ps[i].1.sends.length) (by omega) (Nat.le_refl _) (Nat.le_refl _)) (Ent.trans ?_ (all_put (f:=qrd) i hi x))))
  have e1:((flat mc ps[i].1.sends).drop (1*15)).take ((ps[i].1.sends.length-1)*15)=flat mc x.1.sends:=by
    rw [flat_drop (enc:=mc) (n:=15) (fun _=>rfl),flat_take (enc:=mc) (n:=15) (fun _=>rfl),h1,List.take_of_length_le (by simp)]
  have e2:x.1.sends.length=ps[i].1.sends.length-1:=by rw [h1];simp
  rw [e1]
  unfold qrd
  have h2':Value.slice x.2.1 x.1.sends.length x.2.2=cut (qsl ps[i]) 1 ps[i].1.sends.length ps[i].1.sends.length 15:=h2
  rw [h2',e2]
  exact Ent.refl
theorem rd_low {T:TypeId} {p:Option Addr} {c i:Nat} {ps:List QP} (hi:i≤ps.length) (hc:ps.length≤c) (L:List HP):RdL (Own T 17 (.slice p ps.length c) ps.length (flat qc ps)::L) 17 (cut (.slice p ps.length c) 0 i c 17) (ps.take i).length (flat qc (ps.take i)):=by
  have k0:RdL (Own T 17 (.slice p ps.length c) ps.length (flat qc ps)::L) 17 (.slice p ps.length c) ps.length (flat qc ps):=RdL.own
  have k:=RdL.cut (m:=c) k0 (Nat.zero_le i) hi (by omega)
  have e:((flat qc ps).drop (0*17)).take ((i-0)*17)=flat qc (ps.take i):=by
    rw [Nat.zero_mul,List.drop_zero,Nat.sub_zero,flat_take (enc:=qc) (n:=17) (fun _=>rfl)]
  rw [e] at k
  have e2:(ps.take i).length=i-0:=by rw [List.length_take];omega
  rw [e2];exact k
theorem WE_owncap {T:TypeId} {sz n c:Nat} {p:Option Addr} {xs:List Value} {N:Nat} {x:Exit} {env:Env} {L:List HP} {Q:Exit→Act→World→Prop} (h:n≤c→WE N x env (Own T sz (.slice p n c) n xs::L) Q):WE N x env (Own T sz (.slice p n c) n xs::L) Q:=
  fun a w ha hw=>h (own_cap hw) a w ha hw
theorem rd_all {ps:List QP} {p:QP} (hp:p∈ps) {L:List HP}:RdL (All (ps.map qrd)::L) 15 (qsl p) p.1.sends.length (flat mc p.1.sends):=by
  obtain ⟨i,hi,rfl⟩:=List.getElem_of_mem hp
  have k:RdL (qrd ps[i]::All ((ps.eraseIdx i).map qrd)::L) 15 (qsl ps[i]) ps[i].1.sends.length (flat mc ps[i].1.sends):=RdL.rds
  have e:=all_take (f:=qrd) (L:=L) i hi
  exact ⟨fun w h=>k.len w (e.sat h),fun w h=>k.ones w (e.sat h),fun w h=>k.pf w (e.sat h)⟩
def qaddE (room:Int) (l:List QE) (m:Msg):Int:=if m.kind<1∨m.kind>3 then 1 else if (l.length:Int)=room then 4 else 0
def qaddL (room:Int) (l:List QE) (m:Msg):List QE:=if qaddE room l m=0 then l++[⟨m,false,[]⟩] else l
def qin (l:List QE) (n:Int):Bool:=decide (0≤n∧n<l.length)
def qat (l:List QE) (n:Int):QE:=if qin l n then l.getD n.toNat ⟨.zero,false,[]⟩ else ⟨.zero,false,[]⟩
def qfree (l:List QE) (n:Nat) (line:Int):Bool:=(l.take n).all fun e=> !decide (e.m.line=line)
def qready (l:List QE) (n:Int):Bool:=qin l n&& !(qat l n).st&& qfree l n.toNat (qat l n).m.line
def qstartE (l:List QE) (n:Int) (s:List Msg):Int:=if qin l n then (if qready l n&& decide (s.length≠0) then 0 else 7) else 5
def qstartL (l:List QE) (n:Int) (s:List Msg):List QE:=if qstartE l n s=0 then l.set n.toNat { qat l n with st:=true,sends:=s} else l
def qnextB (l:List QE) (n:Int):Bool:=qin l n&& decide ((qat l n).sends.length≠0)
def qnextM (l:List QE) (n:Int):Msg:=if qnextB l n then (qat l n).sends.headD .zero else .zero
def qsentE (l:List QE) (n:Int):Int:=if qin l n then (if (qat l n).sends.length=0 then 7 else 0) else 5
def qsentL (l:List QE) (n:Int):List QE:=
  if qsentE l n=0 then (if (qat l n).sends.length=1∧(qat l n).m.kind=3 then l.eraseIdx n.toNat else l.set n.toNat { qat l n with sends:=(qat l n).sends.drop 1}) else l
def qgone (line src:Int) (e:QE):Bool:=e.st&& decide (e.m.line=line)&& decide (e.m.src=src)&& !decide (e.m.kind=3)&& decide (e.sends.length=0)
def qfinE (l:List QE) (line src:Int):Int:=if indexBy (qgone line src) l<0 then 7 else 0
def qfinL (l:List QE) (line src:Int):List QE:=if indexBy (qgone line src) l<0 then l else l.eraseIdx (indexBy (qgone line src) l).toNat
end Go.Sx
