/- Wb, May, Mem, MemPl, Mem2, QuPl: several of my texts as one. My own work. -/
import Derived.Test.YtjihlpjnebdiiaaGreatZad
set_option linter.unusedVariables false
set_option linter.unusedSectionVars false
set_option linter.unusedSimpArgs false
set_option maxRecDepth 100000
set_option maxHeartbeats 4000000
namespace Go.Sx
open Go Go.Proofs
section
attribute [local irreducible] Exit.then Exit.inBlock Code.wp WC WO WE WQ V bT vL fP cY eI v8 IntKind.wrap WR Code.rounds WT KO
def f9 (l:List WbE) (line:Int):Int:=bA (fun e=>decide (e.line=line)) l
def uO (l:List WbE) (line:Int):WbE:=l.getD (f9 l line).toNat ⟨0,.zero,false⟩
def lJ (l:List WbE) (line:Int):Bool:=decide (0≤f9 l line)
def pZ (room:Int) (l:List WbE) (line:Int):Int:=if lJ l line then 6 else if (l.length:Int)=room then 4 else 0
def mD (room:Int) (l:List WbE) (line:Int) (w:Words):List WbE:=if lJ l line then l else if (l.length:Int)=room then l else l++[⟨line,w,true⟩]
def lK (l:List WbE) (line:Int):Int:=if lJ l line then (if (uO l line).live then 0 else 7) else 5
def mQ (l:List WbE) (line:Int):Words:=if lJ l line&& (uO l line).live then (uO l line).words else .zero
def kH (l:List WbE) (line:Int):List WbE:=if lJ l line&& (uO l line).live then l.set (f9 l line).toNat { uO l line with live:=false} else l
def qQ (l:List WbE) (line:Int):Int:=if lJ l line then 0 else 5
def mR (l:List WbE) (line:Int):List WbE:=if lJ l line then l.eraseIdx (f9 l line).toNat else l
def e0n (l:List WbE) (line:Int):WbE:=if lJ l line then uO l line else ⟨0,.zero,false⟩
theorem a5x {l:List WbE} {line:Int} (h:lJ l line=true):∃ i:Nat,∃ hi:i<l.length,f9 l line=i∧uO l line=l[i]∧l[i].line=line:=by
  obtain ⟨i,hi,h1,h2,_⟩:=cR (of_decide_eq_true h)
  refine ⟨i,hi,h1,?_,by simpa using h2⟩
  unfold uO f9
  rw [h1];simp [hi]
theorem b7s {l:List WbE} {line:Int} (h:lJ l line=false):f9 l line= -1:=(dL (of_decide_eq_false h)).1
abbrev Wb (b:Nat) (room:Int) (l:List WbE):HP:=RL 187 125 10 bc b room l
theorem f0u {F:List HP} {room:Int} (h:1≤room∧room≤8):FnF Tryz.prog 94 [.int .i64 room] [] F (fun r L'=>∃ b,r= .tuple [.pointer (some ⟨b,0,none⟩),.int .i64 0].toArray∧L'=[Wb b room []]):=by
  refine FnF.mk' Tryz.func94 rfl rfl Tryz.ntmps94 rfl ?_
  repeat first|refine gd ?_|intro _
  (apply aA rfl rfl bH)
  · exact ⟨_,rfl,rfl⟩
  · exact eX (l:=[]) (Ent.cons (aO Ent.refl)) rfl rfl (by simp;omega)
theorem f0v {F:List HP} {b:Nat} {line:Int} {T:TypeId} {C:List Value→List HP} {e:WbE} (k:CellsAt b F T [.int .i64 line] C) :
    FnF Tryz.prog 233 [bv e,.pointer (some ⟨b,0,none⟩)] [] F (fun r L'=>r= .bool (decide (e.line=line))∧L'=[]):=by
  refine FnF.mk' Tryz.func233 rfl rfl Tryz.ntmps233 rfl ?_
  repeat first|refine gd ?_|intro _
  exact bF
theorem f0w {F:List HP} {b:Nat} {line:Int} {T:TypeId} {C:List Value→List HP} {v:Value} {l:List WbE} (k1:CellsAt b F T [.int .i64 line] C) (k:RdL F 10 v l.length (aC bc l)) (hn:l.length≤1099511627776) :
    FnF Tryz.prog 232 [v,.func (.func 233) [].toArray [.pointer (some ⟨b,0,none⟩)].toArray] [] F (fun r L'=>r= .int .i64 (f9 l line)∧L'=[]):=
  a2o (first:=[]) (p:=fun e=>decide (e.line=line)) k hn (fun x _=>f0v k1)
theorem a5k {F:List HP} {b:Nat} {room:Int} {l:List WbE} {line:Int}:FnF Tryz.prog 203 [.pointer (some ⟨b,0,none⟩),.int .i64 line] [Wb b room l] F (fun r L'=>r= .int .i64 (f9 l line)∧L'=[Wb b room l]):=by
  refine FnF.mk' Tryz.func203 rfl rfl Tryz.ntmps203 rfl ?_
  refine i8 fun p c hl=>?_
  repeat first|refine gd ?_|intro _|refine aD @f0w ?_
  (apply aA rfl rfl bH)
  · exact ⟨rfl,rfl⟩
  · (apply eX;(focus (exact aB));all_goals exact mZ)
theorem c8j {F:List HP} {b:Nat} {room:Int} {l:List WbE}:FnF Tryz.prog 208 [.pointer (some ⟨b,0,none⟩)] [Wb b room l] F (fun r L'=>r= .int .i64 (room-l.length)∧L'=[Wb b room l]):=by
  refine FnF.mk' Tryz.func208 rfl rfl Tryz.ntmps208 rfl ?_
  refine i8 fun p c hl=>?_
  repeat first|refine gd ?_|intro _
  (apply aA rfl rfl bH)
  · exact ⟨rfl,rfl⟩
  · (apply eX;(focus (exact aB));all_goals exact mZ)
theorem a3t {Q P:Prop} (k:Q) (h:Hid Q→P:=by
  intro k
  first
  |(refine aI ?_;refine uU (id:=5) .true (pl:= .p 0 <| .p 1 <| .p 2 <| .p 3 <| .p 5 <| .r 4 <| .r 6 <| .p 7 <| .e true [(8,.e true [(9,.p 10 <| .p 11 <| .e false [(12,.done)])])]) k.out)):P:=h ⟨k⟩
theorem f0x {F:List HP} {b:Nat} {room:Int} {l:List WbE} {line:Int} {w:Words}:FnF Tryz.prog 166 [.pointer (some ⟨b,0,none⟩),.int .i64 line,wv w] [Wb b room l] F (fun r L'=>r= .int .i64 (pZ room l line)∧L'=[Wb b room (mD room l line w)]):=by
  refine FnF.mk' Tryz.func166 rfl rfl Tryz.ntmps166 rfl ?_
  cases e:lJ l line with
  |true=>
   have h0:0≤f9 l line:=of_decide_eq_true e
   repeat first|refine go ?_|intro _|refine a3t ?_|refine dM ?_|refine aD @a5k ?_
   (apply aA rfl rfl bH)
   · exact ⟨by simp [pZ,e],rfl⟩
   · simp only [mD,e,if_true];exact aB
  |false=>
   have h0:=b7s e
   by_cases hf:(l.length:Int)=room
   · repeat first|refine go ?_|intro _|refine a3t ?_|refine dM ?_|refine aD @a5k ?_|refine aD @c8j ?_
     (apply aA rfl rfl bH)
     · exact ⟨by simp [pZ,e,hf],rfl⟩
     · simp only [mD,e,hf,Bool.false_eq_true,if_false,if_true];exact aB
   · repeat first|refine go ?_|intro _|refine aD @a5k ?_|refine aD @c8j ?_
     (first|refine aX (Wb b room l) ?_|refine aY (Wb b room l) ?_|refine aZ (Wb b room l) ?_)
     refine i8 fun p c hl=>?_
     repeat first|refine go ?_|intro _|refine a3t ?_|refine dM ?_
     (apply aA rfl rfl bH)
     · exact ⟨by simp [pZ,e,hf],rfl⟩
     · simp only [mD,e,hf,Bool.false_eq_true,if_false]
       (apply eX;(focus (exact aB));all_goals exact mZ)
theorem wb_Share1 {F:List HP} {v:Value}:FnF Tryz.prog 239 [v] [] F (fun r L'=>r= .tuple [].toArray∧L'=[]):=by
  refine FnF.mk' Tryz.func239 rfl rfl Tryz.ntmps239 rfl ?_
  repeat first|refine gd ?_|intro _
  exact bF
theorem d7d {F:List HP} {v:Value} {l:List WbE} {i:Nat} (hi:i<l.length) :
    FnF Tryz.prog 240 [.pointer (some ⟨pb v,po v+i*10,none⟩)] [Own 125 10 v l.length (aC bc l)] F (fun r L'=>r= .tuple [].toArray∧L'=[Own 125 10 v l.length (aC bc (l.set i { l[i] with live:=false}))]):=by
  refine FnF.mk' Tryz.func240 rfl rfl Tryz.ntmps240 rfl ?_
  repeat first|refine gd ?_|intro _
  rw [dT (enc:=bc) (n:=10) (fun _=>rfl) l i hi (x:={ l[i] with live:=false}) (by simp) rfl]
  exact bF
theorem c8k {F:List HP} {b:Nat} {room:Int} {l:List WbE} {line:Int} {fk:FuncId} {g:WbE→WbE}
    (H:∀ (F:List HP) (v:Value) (i:Nat) (hi:i<l.length),l[i].live=true→FnF Tryz.prog fk [.pointer (some ⟨pb v,po v+i*10,none⟩)] [Own 125 10 v l.length (aC bc l)] F (fun r L'=>r= .tuple [].toArray∧L'=[Own 125 10 v l.length (aC bc (l.set i (g l[i])))]))
    (hg:∀ e,(g e).words=e.words) :
    FnF Tryz.prog 238 [.pointer (some ⟨b,0,none⟩),.int .i64 line,.func (.func fk) [].toArray [].toArray] [Wb b room l] F
      (fun r L'=>r= .tuple [wv (mQ l line),.int .i64 (lK l line)].toArray∧L'=[Wb b room (if lJ l line&& (uO l line).live then l.set (f9 l line).toNat (g (uO l line)) else l)]):=by
  refine FnF.mk' Tryz.func238 rfl rfl Tryz.ntmps238 rfl ?_
  cases e:lJ l line with
  |false=>
   have h0:=b7s e
   repeat first|refine gd ?_|intro _|refine aD @a5k ?_
   (apply aA rfl rfl bH)
   · exact ⟨by simp [lK,mQ,e,Words.zero],rfl⟩
   · simp only [Bool.false_and,Bool.false_eq_true,if_false];exact aB
  |true=>
   obtain ⟨i,hi,h1,h2,h3⟩:=a5x e
   have hA:=fun F=>a5k (F:=F) (b:=b) (room:=room) (l:=l) (line:=line)
   simp only [h1] at hA
   rw [h1,h2]
   have hn:(i:Int).toNat=i:=by omega
   cases hl:l[i].live with
   |false=>
    repeat first|refine gd ?_|intro _|refine aD @hA ?_
    (first|refine aX (Wb b room l) ?_|refine aY (Wb b room l) ?_|refine aZ (Wb b room l) ?_)
    refine qV fun p c hl0=>?_
    repeat first|refine gd ?_|intro _
    (apply aA rfl rfl bH)
    · exact ⟨by simp [lK,mQ,e,h2,hl,Words.zero],rfl⟩
    · simp only [Bool.and_false,Bool.false_eq_true,if_false];exact zR @eX
   |true=>
    have hls:(l.set i (g l[i])).length=l.length:=List.length_set
    have hget:(l.set i (g l[i]))[i]'(om)=g l[i]:=by simp
    have hH:=fun F v=>H F v i hi hl
    repeat first|refine gd ?_|intro _|refine aD @hA ?_
    (first|refine aX (Wb b room l) ?_|refine aY (Wb b room l) ?_|refine aZ (Wb b room l) ?_)
    refine qV fun p c hl0=>?_
    (first|(refine fJ (.slice p l.length c) inferInstance (om) ?_;intro _)|(refine fM (.slice p l.length c) inferInstance (om) ?_;intro _))
    repeat first|refine gd ?_|intro _|refine aD @hH ?_
    rw [hget,hg]
    (apply aA rfl rfl bH)
    · exact ⟨by simp [lK,mQ,e,h2,hl],rfl⟩
    · simp only [Bool.and_true,if_true,hn]
      exact zR @eX
theorem d7e {F:List HP} {b:Nat} {room:Int} {l:List WbE} {line:Int}:FnF Tryz.prog 218 [.pointer (some ⟨b,0,none⟩),.int .i64 line] [Wb b room l] F (fun r L'=>r= .tuple [wv (mQ l line),.int .i64 (lK l line)].toArray∧L'=[Wb b room l]):=by
  have hT:=fun F=>c8k (F:=F) (b:=b) (room:=room) (l:=l) (line:=line) (fk:=239) (g:=fun e=>e) (fun F v i hi hl=>by
    rw [List.set_getElem_self];exact wb_Share1.pure) (fun _=>rfl)
  have hs:(if (lJ l line&& (uO l line).live)=true then l.set (f9 l line).toNat (uO l line) else l)=l:=by
    split
    · rename_i h
      obtain ⟨i,hi,h1,h2,h3⟩:=a5x (Bool.and_eq_true_iff.1 h).1
      rw [h1,h2];simp
    · rfl
  simp only [hs] at hT
  refine FnF.mk' Tryz.func218 rfl rfl Tryz.ntmps218 rfl ?_
  repeat first|refine gd ?_|intro _|refine aD @hT ?_
  (apply aA rfl rfl bH)
  · exact ⟨rfl,rfl⟩
  · exact aB
theorem e5y {F:List HP} {b:Nat} {room:Int} {l:List WbE} {line:Int}:FnF Tryz.prog 219 [.pointer (some ⟨b,0,none⟩),.int .i64 line] [Wb b room l] F (fun r L'=>r= .tuple [wv (mQ l line),.int .i64 (lK l line)].toArray∧L'=[Wb b room (kH l line)]):=by
  have hT:=fun F=>c8k (F:=F) (b:=b) (room:=room) (l:=l) (line:=line) (fk:=240) (g:=fun e=>{ e with live:=false}) (fun F v i hi hl=>d7d hi) (fun _=>rfl)
  refine FnF.mk' Tryz.func219 rfl rfl Tryz.ntmps219 rfl ?_
  repeat first|refine gd ?_|intro _|refine aD @hT ?_
  (apply aA rfl rfl bH)
  · exact ⟨rfl,rfl⟩
  · unfold kH;exact aB
theorem e5z {F:List HP} {b:Nat} {room:Int} {l:List WbE} {line:Int}:FnF Tryz.prog 216 [.pointer (some ⟨b,0,none⟩),.int .i64 line] [Wb b room l] F (fun r L'=>r= .int .i64 (qQ l line)∧L'=[Wb b room (mR l line)]):=by
  refine FnF.mk' Tryz.func216 rfl rfl Tryz.ntmps216 rfl ?_
  cases e:lJ l line with
  |false=>
   have h0:=b7s e
   repeat first|refine gd ?_|intro _|refine aD @a5k ?_
   (apply aA rfl rfl bH)
   · exact ⟨by simp [qQ,e],rfl⟩
   · simp only [mR,e,Bool.false_eq_true,if_false];exact aB
  |true=>
   obtain ⟨i,hi,h1,h2,h3⟩:=a5x e
   have hA:=fun F=>a5k (F:=F) (b:=b) (room:=room) (l:=l) (line:=line)
   simp only [h1] at hA
   repeat first|refine gd ?_|intro _|refine aD @hA ?_
   (first|refine aX (Wb b room l) ?_|refine aY (Wb b room l) ?_|refine aZ (Wb b room l) ?_)
   refine qV fun p c hl0=>?_
   repeat first|refine gd ?_|intro _
   refine aD (@b1s (i:=i) (j:=i+1)) ?_
   repeat first|refine gd ?_|intro _
   (apply aA rfl rfl bH)
   · exact ⟨by simp [qQ,e],rfl⟩
   · simp only [mR,e,if_true,h1]
     apply eX
     · exact aB
     · simp only [List.length_eraseIdx,Int.toNat_natCast];split<;>omega
     · rw [iU (enc:=bc) (n:=10) (fun _=>rfl),fV (enc:=bc) (n:=10) (fun _=>rfl)]
       simp [List.eraseIdx_eq_take_drop_succ]
     · have:=List.length_eraseIdx_le l i
       simp only [Int.toNat_natCast]
       omega
theorem f0y {F:List HP} {b:Nat} {room:Int} {l:List WbE} {line:Int}:FnF Tryz.prog 159 [.pointer (some ⟨b,0,none⟩),.int .i64 line] [Wb b room l] F (fun r L'=>r= .tuple [bv (e0n l line),.bool (lJ l line)].toArray∧L'=[Wb b room l]):=by
  refine FnF.mk' Tryz.func159 rfl rfl Tryz.ntmps159 rfl ?_
  cases e:lJ l line with
  |false=>
   have h0:=b7s e
   repeat first|refine gd ?_|intro _|refine aD @a5k ?_
   (apply aA rfl rfl bH)
   · exact ⟨by simp [e0n,e,Words.zero],rfl⟩
   · exact aB
  |true=>
   obtain ⟨i,hi,h1,h2,h3⟩:=a5x e
   have hA:=fun F=>a5k (F:=F) (b:=b) (room:=room) (l:=l) (line:=line)
   simp only [h1] at hA
   repeat first|refine gd ?_|intro _|refine aD @hA ?_
   (first|refine aX (Wb b room l) ?_|refine aY (Wb b room l) ?_|refine aZ (Wb b room l) ?_)
   refine qV fun p c hl0=>?_
   repeat first|refine gd ?_|intro _
   (apply aA rfl rfl bH)
   · exact ⟨by simp [e0n,e,h2],rfl⟩
   · exact zR @eX
theorem e6a {F:List HP} {b:Nat} {room:Int} {l:List WbE}:FnF Tryz.prog 59 [.pointer (some ⟨b,0,none⟩)] [Wb b room l] F (fun r L'=>∃ p c,r= .slice p l.length c∧L'=[Own 125 10 (.slice p l.length c) l.length (aC bc l),Wb b room l]):=by
  refine FnF.mk' Tryz.func59 rfl rfl Tryz.ntmps59 rfl ?_
  refine i8 fun p c hl=>?_
  repeat first|refine gd ?_|intro _|refine aD @b4r ?_
  (apply aA rfl rfl bH)
  · exact ⟨_,_,rfl,rfl⟩
  · refine Ent.cons ?_
    (apply eX;(focus (exact aB));all_goals exact mZ)
end
section
attribute [local irreducible] Exit.then Exit.inBlock Code.wp WC WO WE WQ V bT vL fP cY eI v8 IntKind.wrap WR Code.rounds WT KO
def sQ (x:Op3):Bool:=if x.kind=4 then decide (x.addr=0)&& decide (x.value=0) else if x.kind=1 then decide (0≤x.addr)&& decide (x.addr≤8191)&& decide (x.value=0)
  else if x.kind=2∨x.kind=3 then decide (0≤x.addr)&& decide (x.addr≤8191)&& decide (-2147483648≤x.value)&& decide (x.value≤2147483647) else false
def lW (c:Cfg) (l:List Op3):Bool:=(l.all fun x=>sQ x&& decide (x.addr<fO c))&& aF c&& decide (l.length≤64)
theorem rB {F:List HP} {x:Op3}:FnF Tryz.prog 122 [ov x] [] F (fun r L'=>r= .bool (sQ x)∧L'=[]):=by
  refine FnF.mk' Tryz.func122 rfl rfl Tryz.ntmps122 rfl ?_
  repeat' (first|refine gd ?_|intro _|refine nV ?_ ?_|fail)
  all_goals (apply aA rfl rfl bH;(exact ⟨by first|(simp_all [sQ];done)|(simp_all [sQ];omega),rfl⟩);exact jM)
theorem tU {F:List HP} {c:Cfg} (hc:c.wf) {l:List Op3} {v:Value} (k:RdL F 3 v l.length (aC oc l)) (hn:l.length≤1099511627776):FnF Tryz.prog 89 [c.val,v] [] F (fun r L'=>r= .bool (lW c l)∧L'=[]):=by
  refine FnF.mk' Tryz.func89 rfl rfl Tryz.ntmps89 rfl ?_
  repeat first|refine gd ?_|intro _
  rename_i bc
  apply aW (E0:=[(1,_),(2,_),(7,_),(8,_)]) (fun E0 (j:Nat)=>(9,.int .i64 j)::E0) (fun _=>Cells bc 24 c.cells::F) (fun j=>j≤l.length∧∀ i (h:i<l.length),i<j→(sQ l[i]&& decide (l[i].addr<fO c))=true) (fun j=>l.length-j) 0
  · exact m9
  · exact ⟨Nat.zero_le _,fun i h hi=>by omega⟩
  · exact aB
  · rintro j ⟨hj,hall⟩
    by_cases hlt:j<l.length
    · cases hm:sQ l[j] with
      |false=>
       have hf:lW c l=false:=by
         have:(l.all fun x=>sQ x&& decide (x.addr<fO c))=false:=by
           rw [List.all_eq_false];exact ⟨_,List.getElem_mem hlt,by simp [hm]⟩
         simp [lW,this]
       have hM:=fun F=>rB (F:=F) (x:=l[j])
       simp only [hm] at hM
       repeat first|refine gd ?_|intro _|refine aD @hM ?_
       (apply aA rfl rfl bH;(first|exact oO|exact ⟨by simp [hf]<;>omega,rfl⟩);exact jM)
      |true=>
       have hM:=fun F=>rB (F:=F) (x:=l[j])
       simp only [hm] at hM
       by_cases hs:l[j].addr<fO c
       · repeat first|refine gd ?_|intro _|refine aD @hM ?_|refine aD (lT (c:=c)) ?_
         refine aT (j+1) (om) ⟨om,fun i h hi=>?_⟩ ?_ ?_
         · by_cases e:i=j
           · subst e;simp [hm,hs]
           · exact hall i h (om)
         · exact m9
         · exact aB
       · have hf:lW c l=false:=by
           have:(l.all fun x=>sQ x&& decide (x.addr<fO c))=false:=by
             rw [List.all_eq_false];exact ⟨_,List.getElem_mem hlt,by simp [hs]⟩
           simp [lW,this]
         repeat first|refine gd ?_|intro _|refine aD @hM ?_|refine aD (lT (c:=c)) ?_
         (apply aA rfl rfl bH;(first|exact oO|exact ⟨by simp [hf]<;>omega,rfl⟩);exact jM)
    · have ha:(l.all fun x=>sQ x&& decide (x.addr<fO c))=true:=by
        rw [List.all_eq_true]
        intro x hx
        obtain ⟨i,hi,rfl⟩:=List.getElem_of_mem hx
        exact hall i hi (om)
      repeat first|refine gd ?_|intro _|refine aD (dK (c:=c)) ?_
      cases e:aF c
      · have e1:eD c=1:=by simp [eD,e]
        repeat first|refine gd ?_|intro _
        (apply aA rfl rfl bH;(first|exact oO|exact ⟨by simp [lW,e]<;>omega,rfl⟩);exact jM)
      · have e1:eD c=0:=by simp [eD,e]
        repeat first|refine gd ?_|intro _
        (apply aA rfl rfl bH;(first|exact oO|exact ⟨by simp [lW,e,ha]<;>omega,rfl⟩);exact jM)
end
section
theorem wB {ms:List Int} {i:Nat} (hi:i<ms.length):(aC ic ms)[i]? =some (.int .i64 ms[i]):=by
  induction ms generalizing i with
  |nil=>simp at hi
  |cons a r ih=>
   cases i with
   |zero=>simp [aC]
   |succ i=>simpa [aC] using ih (i:=i) (by simpa using hi)
theorem mE (ms:List Int):(aC ic ms).length=ms.length:=by
  have:=gV (enc:=ic) (n:=1) (fun _=>rfl) ms
  rwa [Nat.mul_one] at this
theorem a3u {ms:List Int} {i:Nat} (hi:i<ms.length) (v:Int):aQ (aC ic ms) i [.int .i64 v]=aC ic (ms.set i v):=by
  have:=b2c (enc:=ic) (n:=1) (fun _=>rfl) ms i hi (cs:=[.int .i64 v]) (x:=v) (by simp) (by simp [aQ])
  rwa [Nat.mul_one] at this
def zN (b:Nat) (c:Cfg) (ms:List Int):HP:=
  Ex fun g:Nat=>[Cells b 198 (c.cells++[.slice (some ⟨g,0,none⟩) ms.length ms.length]),Cells g 3 (aC ic ms),Fact (aF c=true∧(ms.length:Int)=c.words*c.lines∧ms.length≤8192)]
theorem pC {b g n:Nat} {c:Cfg} {ms:List Int} {xs:List Value} {L M:List HP}
    (h:Ent L (Cells b 198 (c.cells++[.slice (some ⟨g,0,none⟩) n n])::Cells g 3 xs::M)) (hn:n=ms.length) (hx:xs=aC ic ms) (hl:aF c=true∧(ms.length:Int)=c.words*c.lines∧ms.length≤8192):Ent L (zN b c ms::M):=by
  subst hn hx
  refine Ent.trans h (Ent.trans ?_ (kW (p:=fun g:Nat=>[Cells b 198 (c.cells++[.slice (some ⟨g,0,none⟩) ms.length ms.length]),Cells g 3 (aC ic ms),Fact (aF c=true∧(ms.length:Int)=c.words*c.lines∧ms.length≤8192)]) g))
  exact Ent.cons (Ent.cons (dS hl))
theorem e6b {b:Nat} {c:Cfg} {ms:List Int} {L:List HP} {w:World} (h:fP (zN b c ms::L) w):(aF c=true∧(ms.length:Int)=c.words*c.lines∧ms.length≤8192)∧
    ∃ g,fP (Cells b 198 (c.cells++[.slice (some ⟨g,0,none⟩) ms.length ms.length])::Cells g 3 (aC ic ms)::L) w:=by
  obtain ⟨g,hx⟩:=kD h
  simp only [pO] at hx
  have hf:=jK (aU (aU hx))
  exact ⟨hf,g,(Ent.cons (Ent.cons (Ent.drop Ent.refl))) _ hx⟩
theorem nO {b:Nat} {c0:Cfg} {ms:List Int} {P:Program} {N:Nat} {c:Code} {env:Env} {L:List HP} {Q:Exit→Act→World→Prop}
    (h:∀ g,(aF c0=true∧(ms.length:Int)=c0.words*c0.lines∧ms.length≤8192)→WC P N c env (Cells b 198 (c0.cells++[.slice (some ⟨g,0,none⟩) ms.length ms.length])::Cells g 3 (aC ic ms)::L) Q):WC P N c env (zN b c0 ms::L) Q:=by
  intro a w ha hw
  obtain ⟨hf,g,hx⟩:=e6b hw
  exact h g hf a w ha hx
attribute [local irreducible] Exit.then Exit.inBlock Code.wp WC WO WE WQ V bT vL fP cY eI v8 IntKind.wrap WR Code.rounds WT KO
def kP (ms:List Int) (i:Nat) (x:Op3):List Int:=if x.kind=2∨x.kind=3 then ms.set i x.value else ms
def zO (ms:List Int) (i:Nat) (x:Op3):Int:=if x.kind=2 then 0 else ms.getD i 0
theorem b4c {F:List HP} {g T i:Nat} {ms:List Int} {x:Op3} (hi:i<ms.length):FnF Tryz.prog 123 [.pointer (some ⟨g,i,none⟩),ov x] [Cells g T (aC ic ms)] F (fun r L'=>r= .int .i64 (zO ms i x)∧L'=[Cells g T (aC ic (kP ms i x))]):=by
  have hg:=wB hi
  refine FnF.mk' Tryz.func123 rfl rfl Tryz.ntmps123 rfl ?_
  repeat first|refine gd ?_|intro _
  have hle:Nat.ble (i+1) (aC ic ms).length=true:=by rw [mE];exact Nat.ble_eq_true_of_le hi
  have hgd:ms.getD i 0=ms[i]:=by simp [hi]
  by_cases h2:x.kind=2
  · repeat first|refine gd ?_|intro _
    refine xG rfl (vE (cs:=[.int .i64 x.value]) rfl rfl inferInstance rfl rfl rfl hle) (aM ?_)
    rw [a3u hi]
    repeat first|refine gd ?_|intro _
    (apply aA rfl rfl bH)
    · exact ⟨by simp [zO,h2],rfl⟩
    · simp only [kP,h2,true_or,if_true];exact aB
  · by_cases h3:x.kind=3
    · repeat first|refine gd ?_|intro _
      refine xG rfl (vE (cs:=[.int .i64 x.value]) rfl rfl inferInstance rfl rfl rfl hle) (aM ?_)
      rw [a3u hi]
      repeat first|refine gd ?_|intro _
      (apply aA rfl rfl bH)
      · exact ⟨by simp [zO,h2,hi],rfl⟩
      · simp only [kP,h3,or_true,if_true];exact aB
    · repeat first|refine gd ?_|intro _
      (apply aA rfl rfl bH)
      · exact ⟨by simp [zO,h2,hi],rfl⟩
      · simp only [kP,h2,h3,or_self,if_false];exact aB
theorem b4d {Q P:Prop} (k:Q) (h:Hid Q→P:=by
  intro k
  first
  |(refine aI ?_;refine uU (id:=4) .false (pl:= .r 0 <| .r 1 <| .e true [(2,.e true [(3,.p 4 <| .e true [(5,.p 6 <| .p 7 <| .done)])])]) k.out)):P:=h ⟨k⟩
theorem a9i {F:List HP} {c:Cfg} (hc:c.wf) (h:aF c=false):FnF Tryz.prog 63 [c.val] [] F (fun r L'=>r= .tuple [.pointer none,.int .i64 1].toArray∧L'=[]):=by
  have hE:=fun F=>dK (F:=F) hc
  simp only [eD,h,if_false,Bool.false_eq_true] at hE
  refine FnF.mk' Tryz.func63 rfl rfl Tryz.ntmps63 rfl ?_
  repeat first|refine go ?_|intro _|refine b4d ?_|refine dM ?_|refine aD @hE ?_
  exact bF
theorem b9f (l:List Int):(aC ic l).all one=true:=by
  induction l with
  |nil=>rfl
  |cons a r ih=>simp [aC,one]
theorem d9t (n:Nat):List.replicate n (Value.int .i64 0)=aC ic (List.replicate n 0):=by
  induction n with
  |zero=>rfl
  |succ n ih=>rw [List.replicate_succ,List.replicate_succ,ih];rfl
theorem b6m {F:List HP} {c:Cfg} (hc:c.wf) (h:aF c=true):FnF Tryz.prog 63 [c.val] [] F (fun r L'=>∃ b,r= .tuple [.pointer (some ⟨b,0,none⟩),.int .i64 0].toArray∧L'=[zN b c (List.replicate (c.words*c.lines).toNat 0)]):=by
  have hE:=fun F=>dK (F:=F) hc
  simp only [eD,h,if_true] at hE
  have hS:=fun F=>lT (F:=F) hc
  simp only [fO,h,if_true] at hS
  have hw:=dF h
  have hm:=b1p (m:=8) (n:=1024) (a:=c.words) (b:=c.lines) (om) (om) (om) (om) (om)
  simp only [Int.reduceMul] at hm
  generalize hz:c.words*c.lines=z at hm hS ⊢
  refine FnF.mk' Tryz.func63 rfl rfl Tryz.ntmps63 rfl ?_
  repeat first|refine go ?_|intro _|refine b4d ?_|refine dM ?_|refine aD @hE ?_|refine aD @hS ?_
  (apply aA rfl rfl bH)
  · exact ⟨_,rfl,rfl⟩
  · rw [d9t]
    rename_i bc bs bm
    refine pC (g:=bs) (n:=z.toNat) (ms:=List.replicate z.toNat 0) (Ent.cons (Ent.cons (Ent.drop Ent.refl))) (by simp) rfl ?_
    exact ⟨h,by simp [hz];omega,by simp;omega⟩
def c4n (ms:List Int) (a:Int):Bool:=decide (0≤a∧a<ms.length)
def zP (ms:List Int) (a:Int):Int:=if c4n ms a then ms.getD a.toNat 0 else 0
def a9j (ms:List Int) (x:Op3):Bool:=sQ x&& decide (x.addr<ms.length)
def nD (ms:List Int) (x:Op3):Int:=if a9j ms x then (if x.kind=4 then 0 else zO ms x.addr.toNat x) else 0
def pD (ms:List Int) (x:Op3):Int:=if a9j ms x then 0 else 1
def kQ (ms:List Int) (x:Op3):List Int:=if a9j ms x then (if x.kind=4 then ms else kP ms x.addr.toNat x) else ms
def gW (c:Cfg) (line:Int):Nat:=(line*c.words).toNat
def kI (c:Cfg) (ms:List Int) (line:Int):List Int:=(ms.drop (gW c line)).take c.words.toNat
def aJ (c:Cfg) (ms:List Int) (line:Int):Words:=if fF c line 0 then Words.of (kI c ms line) else .zero
def a2c (c:Cfg) (w:Words):Bool:=(w.list.drop c.words.toNat).all fun n=>decide (n=0)
def a0x (c:Cfg) (line:Int) (w:Words):Bool:=fF c line 0&& a2c c w
def f5m (c:Cfg) (line:Int) (w:Words):Int:=if a0x c line w then 0 else 1
def d9u (c:Cfg) (ms:List Int) (line:Int) (w:Words):List Int:=if a0x c line w then ms.take (gW c line)++w.list.take c.words.toNat++ms.drop (gW c line+c.words.toNat) else ms
def xJ (c:Cfg) (x:Op3):Bool:=fR c x.addr&& sQ x&& !decide (x.kind=4)
def d2d (c:Cfg) (w:Words) (x:Op3):Words:=if xJ c x then Words.of (kP w.list (lL c x.addr).toNat x) else .zero
def f1v (c:Cfg) (w:Words) (x:Op3):Int:=if xJ c x then zO w.list (lL c x.addr).toNat x else 0
def d7f (c:Cfg) (x:Op3):Int:=if xJ c x then 0 else 1
theorem kJ (ms:List Int) (i:Nat) (x:Op3):(kP ms i x).length=ms.length:=by unfold kP;split<;>simp
theorem c4o (ms:List Int) (x:Op3):(kQ ms x).length=ms.length:=by unfold kQ;split<;>(try split)<;>simp [kJ]
theorem d1m {x:Op3} (h:sQ x=true):(x.kind=1∨x.kind=2∨x.kind=3∨x.kind=4)∧0≤x.addr∧x.addr≤8191:=by
  unfold sQ at h
  split at h
  · simp at h;omega
  · split at h
    · simp at h;omega
    · split at h
      · simp at h;omega
      · cases h
theorem oB {c:Cfg} {line:Int} {n:Nat} (h:fF c line 0=true) (hn:(n:Int)=c.words*c.lines):aF c=true∧0≤line∧line<c.lines∧1≤c.words∧c.words≤8∧0≤line*c.words∧line*c.words+c.words≤n∧a5h c line 0=line*c.words:=by
  have h0:=h
  simp only [fF,Bool.and_eq_true,decide_eq_true_eq] at h
  have hw:=dF h.1
  have h1:=Int.mul_nonneg (a:=line) (b:=c.words) (om) (om)
  have h2:(line+1)*c.words≤c.lines*c.words:=Int.mul_le_mul_of_nonneg_right (om) (om)
  rw [Int.add_mul,Int.one_mul,Int.mul_comm c.lines] at h2
  exact ⟨h.1,h.2.1,h.2.2.1,om,om,h1,om,by simp [a5h,h0]⟩
theorem a5b {F:List HP} {b:Nat} {c:Cfg} {v:Value} {line:Int} (hc:c.wf) (hl:nA line) (h:fF c line 0=false) :
    FnF Tryz.prog 170 [.pointer (some ⟨b,0,none⟩),.int .i64 line] [Cells b 198 (c.cells++[v])] F (fun r L'=>r= .slice none 0 0∧L'=[Cells b 198 (c.cells++[v])]):=by
  have hJ:=fun F=>a7o (F:=F) (c:=c) (l:=line) (w:=0) hc hl (by unfold nA;omega)
  simp only [xU,h,if_false,Bool.false_eq_true] at hJ
  refine FnF.mk' Tryz.func170 rfl rfl Tryz.ntmps170 rfl ?_
  repeat first|refine gd ?_|intro _|refine aD @hJ ?_
  exact bF
theorem c1o {F:List HP} {b g n:Nat} {c:Cfg} {line:Int} (hc:c.wf) (hl:nA line) (h:fF c line 0=true) (hn:(n:Int)=c.words*c.lines) (hb:n≤8192) :
    FnF Tryz.prog 170 [.pointer (some ⟨b,0,none⟩),.int .i64 line] [Cells b 198 (c.cells++[.slice (some ⟨g,0,none⟩) n n])] F
      (fun r L'=>r= .slice (some ⟨g,gW c line,none⟩) c.words.toNat (n-gW c line)∧L'=[Cells b 198 (c.cells++[.slice (some ⟨g,0,none⟩) n n])]):=by
  have hJ:=fun F=>a7o (F:=F) (c:=c) (l:=line) (w:=0) hc hl (by unfold nA;omega)
  obtain ⟨h1,h2,h3,h4,h5,h6,h7,h8⟩:=oB h hn
  simp only [xU,h,if_true,h8] at hJ
  generalize hz:line*c.words=z at *
  have hf:gW c line=z.toNat:=by unfold gW;rw [hz]
  rw [hf]
  refine FnF.mk' Tryz.func170 rfl rfl Tryz.ntmps170 rfl ?_
  repeat first|refine gd ?_|intro _|refine aD @hJ ?_
  (apply aA rfl rfl bH)
  · refine ⟨?_,rfl⟩
    rw [o9 (om)]
    have e1:(z+c.words).toNat-z.toNat=c.words.toNat:=by omega
    simp [e1]
  · exact aB
end
section
theorem b9g {l:List Int} (h:l.length≤8):(Words.of l).list=l++List.replicate (8-l.length) 0:=by
  match l,h with
  | [],_=>rfl
  | [a],_=>rfl
  | [a,b],_=>rfl
  | [a,b,c],_=>rfl
  | [a,b,c,d],_=>rfl
  | [a,b,c,d,e],_=>rfl
  | [a,b,c,d,e,f],_=>rfl
  | [a,b,c,d,e,f,g],_=>rfl
  | [a,b,c,d,e,f,g,i],_=>rfl
  |a::b::c::d::e::f::g::i::j::r,h=>exact absurd h (by simp)
theorem e6c (A L B:List Int) (i:Nat) (h:i<L.length) (v:Int):(A++(L++B)).set (A.length+i) v=A++(L.set i v++B):=by
  rw [List.set_append_right _ _ (om),Nat.add_sub_cancel_left,List.set_append_left _ _ h]
theorem e6d (A L B:List Int) (i:Nat) (h:i<L.length):(A++(L++B)).getD (A.length+i) 0=L.getD i 0:=by
  simp [List.getD_eq_getElem?_getD,List.getElem?_append_right,List.getElem?_append_left h]
theorem d7g (L B:List Int) (i:Nat) (h:i<L.length):(L++B).getD i 0=L.getD i 0:=by
  simp [List.getD_eq_getElem?_getD,List.getElem?_append_left h]
theorem a9k (A L B:List Int) (i:Nat) (h:i<L.length) (x:Op3):kP (A++(L++B)) (A.length+i) x=A++(kP L i x++B):=by
  unfold kP;split
  · exact e6c A L B i h _
  · rfl
theorem uP {c:Cfg} {ms:List Int} {x:Op3} (hn:(ms.length:Int)=c.words*c.lines) (h:xJ c x=true) :
    fF c (bS c x.addr) 0=true∧a9j ms x=true∧x.kind≠4∧0≤lL c x.addr∧lL c x.addr<8∧(aJ c ms (bS c x.addr)).list.getD (lL c x.addr).toNat 0=zP ms x.addr∧
    a0x c (bS c x.addr) (d2d c (aJ c ms (bS c x.addr)) x)=true∧d9u c ms (bS c x.addr) (d2d c (aJ c ms (bS c x.addr)) x)=kQ ms x∧f1v c (aJ c ms (bS c x.addr)) x=nD ms x:=by
  have h0:=h
  simp only [xJ,Bool.and_eq_true,Bool.not_eq_true',decide_eq_false_iff_not] at h
  obtain ⟨⟨ha,hm⟩,h4⟩:=h
  have ha0:=ha
  simp only [fR,Bool.and_eq_true,decide_eq_true_eq] at ha
  obtain ⟨hck,ha1,ha2⟩:=ha
  have hw:=dF hck
  have eL:bS c x.addr=x.addr / c.words:=by simp [bS,ha0]
  have eW:lL c x.addr=x.addr % c.words:=by simp [lL,ha0]
  have hq:=Int.ediv_mul_add_emod x.addr c.words
  have hr0:=Int.emod_nonneg x.addr (show c.words≠0 by omega)
  have hr1:=Int.emod_lt_of_pos x.addr (show 0<c.words by omega)
  rw [eL,eW]
  generalize x.addr / c.words=q at *
  generalize x.addr % c.words=r at *
  have hql:q<c.lines:=by
    rcases Int.lt_or_le q c.lines with h|h
    · exact h
    · have:=Int.mul_le_mul_of_nonneg_right h (show 0≤c.words by omega)
      rw [Int.mul_comm c.lines] at this;omega
  have hq0:0≤q:=by
    rcases Int.lt_or_le q 0 with h|h
    · have:=Int.mul_le_mul_of_nonneg_right (show q≤ -1 by omega) (show 0≤c.words by omega)
      omega
    · exact h
  have hJ:fF c q 0=true:=by simp [fF,hck,hq0,hql];omega
  have hD:a9j ms x=true:=by simp [a9j,hm];omega
  obtain ⟨j1,j2,j3,j4,j5,j6,j7,j8⟩:=oB hJ hn
  have hfe:gW c q=(q*c.words).toNat:=rfl
  generalize hz:q*c.words=z at *
  have hAl:(ms.take (gW c q)).length=gW c q:=by rw [List.length_take];omega
  have hLl:(kI c ms q).length=c.words.toNat:=by unfold kI;simp;omega
  have hms:ms=ms.take (gW c q)++(kI c ms q++ms.drop (gW c q+c.words.toNat)):=by
    unfold kI;rw [←List.drop_drop,List.take_append_drop,List.take_append_drop]
  have hat:x.addr.toNat=(ms.take (gW c q)).length+r.toNat:=by omega
  have hri:r.toNat<(kI c ms q).length:=by omega
  have hwl:(aJ c ms q).list=kI c ms q++List.replicate (8-(kI c ms q).length) 0:=by simp only [aJ,hJ,if_true];exact b9g (om)
  have htl:kP (aJ c ms q).list r.toNat x=kP (kI c ms q) r.toNat x++List.replicate (8-(kI c ms q).length) 0:=by
    rw [hwl]
    have:=a9k [] (kI c ms q) (List.replicate (8-(kI c ms q).length) 0) r.toNat hri x
    simpa using this
  have hap:(d2d c (aJ c ms q) x).list=kP (kI c ms q) r.toNat x++List.replicate (8-(kI c ms q).length) 0:=by
    simp only [d2d,h0,if_true,eW]
    rw [Words.list_of (by rw [kJ];rfl),htl]
  have hget:(aJ c ms q).list.getD r.toNat 0=ms.getD x.addr.toNat 0:=by
    rw [hwl,d7g _ _ _ hri,hat]
    conv=>rhs;rw [hms]
    have:=e6d (ms.take (gW c q)) (kI c ms q) (ms.drop (gW c q+c.words.toNat)) r.toNat hri
    rw [←this]
    congr 2
    rw [←hms]
  have hwo:a0x c q (d2d c (aJ c ms q) x)=true:=by
    simp only [a0x,hJ,Bool.true_and,a2c]
    rw [hap,List.drop_left' (by rw [kJ];exact hLl)]
    simp
  refine ⟨hJ,hD,h4,hr0,om,?_,hwo,?_,?_⟩
  · rw [hget];simp [zP,c4n,ha1];intro h;omega
  · simp only [d9u,hwo,if_true]
    rw [hap,List.take_left' (by rw [kJ];exact hLl)]
    simp only [kQ,hD,if_true,h4,if_false]
    rw [hat]
    conv=>rhs;rw [hms]
    have:=a9k (ms.take (gW c q)) (kI c ms q) (ms.drop (gW c q+c.words.toNat)) r.toNat hri x
    rw [List.append_assoc,←this]
    congr 2
    rw [←hms]
  · simp only [f1v,h0,if_true,eW,nD,hD,h4,if_false,zO,hget]
end
section
attribute [local irreducible] Exit.then Exit.inBlock Code.wp WC WO WE WQ V bT vL fP cY eI v8 IntKind.wrap WR Code.rounds WT KO
theorem e6e {ms:List Int} {i:Nat} (hi:i<ms.length):(aC ic ms)[0+i*1]? =some (.int .i64 (ms.getD i 0)):=by
  rw [Nat.zero_add,Nat.mul_one,wB hi];simp [hi]
theorem d7h {F:List HP} {b:Nat} {c:Cfg} {ms:List Int} {a:Int}:FnF Tryz.prog 69 [.pointer (some ⟨b,0,none⟩),.int .i64 a] [zN b c ms] F (fun r L'=>r= .int .i64 (zP ms a)∧L'=[zN b c ms]):=by
  refine FnF.mk' Tryz.func69 rfl rfl Tryz.ntmps69 rfl ?_
  refine nO fun g hf=>?_
  by_cases h0:0≤a
  · by_cases h1:a<ms.length
    · have hg:=e6e (ms:=ms) (i:=a.toNat) (om)
      repeat first|refine gd ?_|intro _
      (apply aA rfl rfl bH)
      · exact ⟨by simp [zP,c4n,h0,h1],rfl⟩
      · exact zR @pC
    · repeat first|refine gd ?_|intro _
      (apply aA rfl rfl bH)
      · exact ⟨by simp [zP,c4n,h1],rfl⟩
      · exact zR @pC
  · repeat first|refine gd ?_|intro _
    (apply aA rfl rfl bH)
    · exact ⟨by simp [zP,c4n,h0],rfl⟩
    · exact zR @pC
theorem uQ {Q P:Prop} (k:Q) (h:Hid Q→P:=by
  intro k
  first
  |(refine aI ?_;refine uU (id:=5) .true (pl:= .p 0 <| .p 1 <| .p 2 <| .p 4 <| .r 3 <| .r 5 <| .p 6 <| .r 7 <| .e true [(8,.p 9 <| .p 10 <| .done)]) k.out)):P:=h ⟨k⟩
theorem d9v {F:List HP} {b:Nat} {c:Cfg} {ms:List Int} {x:Op3}:FnF Tryz.prog 64 [.pointer (some ⟨b,0,none⟩),ov x] [zN b c ms] F (fun r L'=>r= .tuple [.int .i64 (nD ms x),.int .i64 (pD ms x)].toArray∧L'=[zN b c (kQ ms x)]):=by
  have hM:=fun F=>rB (F:=F) (x:=x)
  cases e:sQ x with
  |false=>
   simp only [e] at hM
   have hd:a9j ms x=false:=by simp [a9j,e]
   refine FnF.mk' Tryz.func64 rfl rfl Tryz.ntmps64 rfl ?_
   refine nO fun g hf=>?_
   repeat first|refine go ?_|intro _|refine uQ ?_|refine dM ?_|refine aD @hM ?_
   (apply aA rfl rfl bH)
   · exact ⟨by simp [nD,pD,hd],rfl⟩
   · simp only [kQ,hd,Bool.false_eq_true,if_false];exact zR @pC
  |true=>
   simp only [e] at hM
   by_cases h1:x.addr<ms.length
   · have hd:a9j ms x=true:=by simp [a9j,e,h1]
     have hm:=d1m e
     by_cases h4:x.kind=4
     · refine FnF.mk' Tryz.func64 rfl rfl Tryz.ntmps64 rfl ?_
       refine nO fun g hf=>?_
       repeat first|refine go ?_|intro _|refine uQ ?_|refine dM ?_|refine aD @hM ?_
       (apply aA rfl rfl bH)
       · exact ⟨by simp [nD,pD,hd,h4],rfl⟩
       · simp only [kQ,hd,h4,if_true];exact zR @pC
     · refine FnF.mk' Tryz.func64 rfl rfl Tryz.ntmps64 rfl ?_
       refine nO fun g hf=>?_
       repeat first|refine go ?_|intro _|refine uQ ?_|refine dM ?_|refine aD @hM ?_|refine aD @b4c ?_
       (apply aA rfl rfl bH)
       · exact ⟨by simp [nD,pD,hd,h4],rfl⟩
       · simp only [kQ,hd,h4,if_true,if_false,Nat.zero_add,Nat.mul_one]
         ((repeat (first|(with_reducible exact Ent.refl)|exact Ent.nil|(apply iS;exact f1n)|(apply pC)|apply Ent.drop));all_goals (first|rfl|(with_reducible assumption)|(simp [kJ];done)|(simp [kJ];omega)|omega|(constructor<;>(simp [kJ])<;>omega)))
   · have hd:a9j ms x=false:=by simp [a9j,h1]
     refine FnF.mk' Tryz.func64 rfl rfl Tryz.ntmps64 rfl ?_
     refine nO fun g hf=>?_
     repeat first|refine go ?_|intro _|refine uQ ?_|refine dM ?_|refine aD @hM ?_
     (apply aA rfl rfl bH)
     · exact ⟨by simp [nD,pD,hd],rfl⟩
     · simp only [kQ,hd,Bool.false_eq_true,if_false];exact zR @pC
theorem zQ {c:Cfg} {ms:List Int} {line:Int} (hn:(ms.length:Int)=c.words*c.lines) (h:fF c line 0=true):gW c line+c.words.toNat≤ms.length∧(kI c ms line).length=c.words.toNat∧c.words.toNat≤8∧1≤c.words.toNat:=by
  obtain ⟨h1,h2,h3,h4,h5,h6,h7,h8⟩:=oB h hn
  have:gW c line=(line*c.words).toNat:=rfl
  refine ⟨om,?_,om,om⟩
  simp [kI];omega
theorem e6f {g T:Nat} {c:Cfg} {ms:List Int} {line:Int} {L:List HP} (hn:(ms.length:Int)=c.words*c.lines) (h:fF c line 0=true) {cap:Nat} :
    RdL (Cells g T (aC ic ms)::L) 1 (.slice (some ⟨g,gW c line,none⟩) c.words.toNat cap) c.words.toNat (aC ic (kI c ms line)):=by
  have:=zQ hn h
  have hx:((aC ic ms).drop (gW c line)).take (c.words.toNat*1)=aC ic (kI c ms line):=by
    have h1:=fV (enc:=ic) (n:=1) (fun _=>rfl) ms (gW c line)
    have h2:=iU (enc:=ic) (n:=1) (fun _=>rfl) (ms.drop (gW c line)) c.words.toNat
    rw [Nat.mul_one] at h1 h2 ⊢
    rw [h1,h2];rfl
  have k:=wZ (L:=Cells g T (aC ic ms)::L) (o:=gW c line) (m:=c.words.toNat) (c:=cap) (sz:=1) (b:=g) inferInstance (by rw [mE];omega) (by rw [hx];exact b9f _)
  rwa [hx] at k
theorem c1p {F:List HP} {b:Nat} {c:Cfg} {ms:List Int} {line:Int} (hc:c.wf) (hl:nA line):FnF Tryz.prog 127 [.pointer (some ⟨b,0,none⟩),.int .i64 line] [zN b c ms] F (fun r L'=>r= .tuple [wv (aJ c ms line),.int .i64 (xU c line 0)].toArray∧L'=[zN b c ms]):=by
  cases e:fF c line 0 with
  |false=>
   have hP:=fun F b v=>a5b (F:=F) (b:=b) (v:=v) hc hl e
   refine FnF.mk' Tryz.func127 rfl rfl Tryz.ntmps127 rfl ?_
   refine nO fun g hf=>?_
   repeat first|refine gd ?_|intro _|refine aD @hP ?_
   (apply aA rfl rfl bH)
   · exact ⟨by simp [aJ,xU,e,Words.zero],rfl⟩
   · exact zR @pC
  |true=>
   refine FnF.mk' Tryz.func127 rfl rfl Tryz.ntmps127 rfl ?_
   refine nO fun g hf=>?_
   have hr:=zQ hf.2.1 e
   have hP:=fun F=>c1o (F:=F) (b:=b) (g:=g) hc hl e hf.2.1 hf.2.2
   haveI kr:=fun L=>e6f (g:=g) (T:=3) (L:=L) (cap:=ms.length-gW c line) hf.2.1 e
   have hsp:aQ [.int .i64 0,.int .i64 0,.int .i64 0,.int .i64 0,.int .i64 0,.int .i64 0,.int .i64 0,.int .i64 0] 0 ((aC ic (kI c ms line)).take (min c.words.toNat 8*1))=wc (Words.of (kI c ms line)):=by
     rw [List.take_of_length_le (by rw [mE];omega)]
     exact b4y (om)
   repeat first|refine gd ?_|intro _|refine aD @hP ?_
   rw [hsp]
   repeat first|refine gd ?_|intro _
   (apply aA rfl rfl bH)
   · exact ⟨by simp [aJ,xU,e],rfl⟩
   · exact zR @pC
theorem e6g {F:List HP} {g T i:Nat} {w:Words} {x:Op3} (hi:i<8):FnF Tryz.prog 123 [.pointer (some ⟨g,i,none⟩),ov x] [Cells g T (wc w)] F (fun r L'=>r= .int .i64 (zO w.list i x)∧L'=[Cells g T (wc (Words.of (kP w.list i x)))]):=by
  have h:=b4c (F:=F) (g:=g) (T:=T) (i:=i) (ms:=w.list) (x:=x) hi
  rw [e5x (l:=kP w.list i x) (by rw [kJ];rfl)] at h
  exact h
theorem wF (l:List Int):aC ic l=l.map (Value.int .i64):=by
  induction l with
  |nil=>rfl
  |cons a r ih=>rw [List.map_cons,←ih];rfl
theorem e6h {ms:List Int} {w:Words} {f k:Nat} (h:f+k≤ms.length) (hk:k≤8):aQ (aC ic ms) f ((wc w).take (min 8 k*1))=aC ic (ms.take f++w.list.take k++ms.drop (f+k)):=by
  have e:wc w=aC ic w.list:=rfl
  have hl:w.list.length=8:=rfl
  rw [show min 8 k*1=k by omega,e,wF,wF,wF,aQ]
  simp [List.map_take,List.map_drop,hl,Nat.min_eq_left hk]
instance (priority:=high) rd_cutw {bw T l:Nat} {w:Words} {L:List HP}:RdL (Cells bw T (wc w)::L) 1 (Sx.cut (.slice (some ⟨bw,0,none⟩) 8 8) l 8 8 1) (8-l) (aC ic (w.list.drop l)):=by
  by_cases hl:l≤8
  · have k0:RdL (Cells bw T (wc w)::L) 1 (.slice (some ⟨bw,0,none⟩) 8 8) 8 (wc w):=s5 inferInstance rfl rfl
    have k:=RdL.cut k0 hl (Nat.le_refl _) (Nat.le_refl _)
    have e:((wc w).drop (l*1)).take ((8-l)*1)=aC ic (w.list.drop l):=by
      rw [show wc w=aC ic w.list from rfl,fV (enc:=ic) (n:=1) (fun _=>rfl),List.take_of_length_le]
      rw [mE,List.length_drop]
      have:w.list.length=8:=rfl
      omega
    rwa [e] at k
  · have e:w.list.drop l=[]:=List.drop_eq_nil_of_le (by have:w.list.length=8:=rfl;omega)
    have e2:8-l=0:=by omega
    rw [e,e2]
    exact ⟨fun _ _=>by simp,fun _ _=>rfl,fun _ _=> .inl ⟨_,_,by simp [Sx.cut,e2];exact ⟨rfl,rfl⟩,rfl⟩⟩
theorem c5q {ms:List Int} {w:Words} {f k:Nat} (h:f+k≤ms.length) (hk:k≤8):(ms.take f++w.list.take k++ms.drop (f+k)).length=ms.length:=by
  have hl:w.list.length=8:=rfl
  simp [hl,Nat.min_eq_left hk];omega
theorem d1n {F:List HP} {b:Nat} {c:Cfg} {ms:List Int} {line:Int} {w:Words} (hc:c.wf) (hl:nA line):FnF Tryz.prog 197 [.pointer (some ⟨b,0,none⟩),.int .i64 line,wv w] [zN b c ms] F (fun r L'=>r= .int .i64 (f5m c line w)∧L'=[zN b c (d9u c ms line w)]):=by
  cases e:fF c line 0 with
  |false=>
   have hP:=fun F b v=>a5b (F:=F) (b:=b) (v:=v) hc hl e
   have hw:a0x c line w=false:=by simp [a0x,e]
   refine FnF.mk' Tryz.func197 rfl rfl Tryz.ntmps197 rfl ?_
   refine nO fun g hf=>?_
   repeat first|refine gd ?_|intro _|refine aD @hP ?_
   (apply aA rfl rfl bH)
   · exact ⟨by simp [f5m,hw],rfl⟩
   · simp only [d9u,hw,Bool.false_eq_true,if_false];exact zR @pC
  |true=>
   refine FnF.mk' Tryz.func197 rfl rfl Tryz.ntmps197 rfl ?_
   refine nO fun g hf=>?_
   have hr:=zQ hf.2.1 e
   have hj:=oB e hf.2.1
   have hP:=fun F=>c1o (F:=F) (b:=b) (g:=g) hc hl e hf.2.1 hf.2.2
   have hfl:=mE ms
   have hwl:(w.list.drop c.words.toNat).length=8-c.words.toNat:=by rw [List.length_drop];rfl
   repeat first|refine gd ?_|intro _|refine aD @hP ?_
   rename_i bw
   apply aW (E0:=[(5,_),(7,_),(20,_),(21,_)]) (fun E0 (i:Nat)=>(22,.int .i64 i)::E0) (fun _=>Cells bw 97 (wc w)::Cells b 198 (c.cells++[.slice (some ⟨g,0,none⟩) ms.length ms.length])::Cells g 3 (aC ic ms)::F) (fun i=>i≤8-c.words.toNat∧∀ j (h:j<(w.list.drop c.words.toNat).length),j<i→(w.list.drop c.words.toNat)[j]=0) (fun i=>8-i) 0
   · exact m9
   · exact ⟨Nat.zero_le _,fun j h hj=>by omega⟩
   · exact aB
   · rintro i ⟨hi,h1⟩
     by_cases hlt:i<8-c.words.toNat
     · have hlt':i<(w.list.drop c.words.toNat).length:=by omega
       by_cases h0:(w.list.drop c.words.toNat)[i]=0
       · repeat first|refine gd ?_|intro _
         refine aT (i+1) (om) ⟨om,fun j h hj=>?_⟩ ?_ ?_
         · by_cases e:j=i
           · subst e;exact h0
           · exact h1 j h (om)
         · exact m9
         · exact aB
       · have hw:a0x c line w=false:=by
           have:a2c c w=false:=by
             unfold a2c
             rw [List.all_eq_false];exact ⟨_,List.getElem_mem hlt',by simpa using h0⟩
           simp [a0x,this]
         repeat first|refine gd ?_|intro _
         (apply aA rfl rfl bH)
         · exact ⟨by simp [f5m,hw],rfl⟩
         · simp only [d9u,hw,Bool.false_eq_true,if_false];exact zR @pC
     · have hw:a0x c line w=true:=by
         have:a2c c w=true:=by
           unfold a2c
           rw [List.all_eq_true]
           intro x hx
           obtain ⟨j,hj,rfl⟩:=List.getElem_of_mem hx
           simpa using h1 j hj (om)
         simp [a0x,this,e]
       repeat first|refine gd ?_|intro _
       (apply aA rfl rfl bH)
       · exact ⟨by simp [f5m,hw],rfl⟩
       · rw [e6h hr.1 hr.2.2.1]
         simp only [d9u,hw,if_true]
         apply pC
         · exact aB
         · rw [c5q hr.1 hr.2.2.1]
         · rfl
         · rw [c5q hr.1 hr.2.2.1];exact hf
theorem rC {Q P:Prop} (k:Q) (h:Hid Q→P:=by
  intro k
  first
  |(refine aI ?_;refine uU (id:=4) .true (pl:= .p 0 <| .p 1 <| .r 2 <| .e true [(3,.p 4 <| .done)]) k.out)):P:=h ⟨k⟩
theorem d1o {F:List HP} {c:Cfg} {w:Words} {x:Op3} (hc:c.wf) (hx:x.wf):FnF Tryz.prog 191 [c.val,wv w,ov x] [] F (fun r L'=>r= .tuple [wv (d2d c w x),.int .i64 (f1v c w x),.int .i64 (d7f c x)].toArray∧L'=[]):=by
  have hA:=fun F=>t8 (F:=F) (c:=c) (a:=x.addr) hc hx.2.1
  have hM:=fun F=>rB (F:=F) (x:=x)
  cases e1:fR c x.addr with
  |false=>
   have ha:xJ c x=false:=by simp [xJ,e1]
   simp only [zZ,e1,Bool.false_eq_true,if_false] at hA
   refine FnF.mk' Tryz.func191 rfl rfl Tryz.ntmps191 rfl ?_
   repeat first|refine go ?_|intro _|refine rC ?_|refine dM ?_|refine aD @hA ?_
   (apply aA rfl rfl bH)
   · exact ⟨by simp [d2d,f1v,d7f,ha,Words.zero],rfl⟩
   · exact aB
  |true=>
   simp only [zZ,e1,if_true] at hA
   cases e2:sQ x with
   |false=>
    have ha:xJ c x=false:=by simp [xJ,e2]
    simp only [e2] at hM
    refine FnF.mk' Tryz.func191 rfl rfl Tryz.ntmps191 rfl ?_
    repeat first|refine go ?_|intro _|refine rC ?_|refine dM ?_|refine aD @hA ?_|refine aD @hM ?_
    (apply aA rfl rfl bH)
    · exact ⟨by simp [d2d,f1v,d7f,ha,Words.zero],rfl⟩
    · exact aB
   |true=>
    simp only [e2] at hM
    by_cases e3:x.kind=4
    · have ha:xJ c x=false:=by simp [xJ,e3]
      refine FnF.mk' Tryz.func191 rfl rfl Tryz.ntmps191 rfl ?_
      repeat first|refine go ?_|intro _|refine rC ?_|refine dM ?_|refine aD @hA ?_|refine aD @hM ?_
      (apply aA rfl rfl bH)
      · exact ⟨by simp [d2d,f1v,d7f,ha,Words.zero],rfl⟩
      · exact aB
    · have ha:xJ c x=true:=by simp [xJ,e1,e2,e3]
      obtain ⟨_,_,_,q1,q2,_⟩:=uP (c:=c) (x:=x) (ms:=List.replicate (c.words*c.lines).toNat 0) (by
        have:=(a1o e1).2
        simp;omega) ha
      refine FnF.mk' Tryz.func191 rfl rfl Tryz.ntmps191 rfl ?_
      repeat first|refine go ?_|intro _|refine rC ?_|refine dM ?_|refine aD @hA ?_|refine aD @hM ?_|refine aD @e6g ?_
      (apply aA rfl rfl bH)
      · exact ⟨by simp [d2d,f1v,d7f,ha],rfl⟩
      · exact aB
end
section
def f4c (room:Int) (l:List QE) (x:QOp):List QE:=if x.d=0 then r7 room l x.m else if x.d=1 then cD l x.n x.sends else if x.d=2 then cN l x.n else r8 l x.m.line x.m.src
def a5c (l:List QE):Prop:=(∀ i j (hi:i<l.length) (hj:j<l.length),i<j→l[i].m.line=l[j].m.line→l[j].st=false)∧∀ e∈l,e.st=false→e.sends=[]
theorem d7i:a5c []:=⟨fun i j hi=>by simp at hi,fun e he=>by simp at he⟩
theorem c1q {l:List QE} {m:Msg} (h:a5c l):a5c (l++[⟨m,false,[]⟩]):=by
  refine ⟨fun i j hi hj hij he=>?_,fun e he hs=>?_⟩
  · by_cases hjl:j<l.length
    · have hil:i<l.length:=by omega
      rw [List.getElem_append_left hil,List.getElem_append_left hjl] at he
      rw [List.getElem_append_left hjl]
      exact h.1 i j hil hjl hij he
    · rw [List.getElem_append_right (om)]
      simp
  · rcases List.mem_append.1 he with h1|h1
    · exact h.2 e h1 hs
    · rw [List.mem_singleton.1 h1]
theorem qX {l:List QE} {k i:Nat} (hi:i<(l.eraseIdx k).length):∃ h:(if i<k then i else i+1)<l.length,(l.eraseIdx k)[i]=l[if i<k then i else i+1]:=by
  have hlen:=List.length_eraseIdx (l:=l) (i:=k)
  refine ⟨?_,?_⟩
  · split at hlen<;>split<;>omega
  · rw [List.getElem_eraseIdx];split<;>rename_i h<;>simp [h]
theorem a0h {l:List QE} {k:Nat} (h:a5c l):a5c (l.eraseIdx k):=by
  refine ⟨fun i j hi hj hij he=>?_,fun e he hs=>h.2 e (List.mem_of_mem_eraseIdx he) hs⟩
  obtain ⟨a,ea⟩:=qX hi
  obtain ⟨b,eb⟩:=qX hj
  rw [ea,eb] at he
  rw [eb]
  refine h.1 _ _ a b ?_ he
  split<;>split<;>omega
theorem c1r {l:List QE} {k:Nat} {e:QE} (hk:k<l.length) (h:a5c l) (hm:e.m=l[k].m) (hs:e.st=true) (hf:∀ i (hi:i<l.length),i<k→l[i].m.line≠l[k].m.line)
    (ho:∀ j (hj:j<l.length),k<j→l[j].m.line=l[k].m.line→l[j].st=false):a5c (l.set k e):=by
  have hmm:∀ i (hi:i<(l.set k e).length),(l.set k e)[i].m=(l[i]'(by simpa using hi)).m:=by
    intro i hi
    rw [List.getElem_set];split
    · rename_i h;subst h;exact hm
    · rfl
  refine ⟨fun i j hi hj hij he=>?_,fun x hx hxs=>?_⟩
  · have hi':i<l.length:=by simpa using hi
    have hj':j<l.length:=by simpa using hj
    rw [hmm i hi,hmm j hj] at he
    rw [List.getElem_set]
    split
    · rename_i hkj;subst hkj
      exact absurd he (hf i hi' hij)
    · exact h.1 i j hi' hj' hij he
  · rcases List.mem_or_eq_of_mem_set hx with h1|h1
    · exact h.2 x h1 hxs
    · subst h1;rw [hs] at hxs;cases hxs
theorem a5l {l:List QE} {n:Int} (h:a9o l n=true):∃ i:Nat,∃ hi:i<l.length,n=i∧a3x l n=l[i]:=by
  have h0:=of_decide_eq_true h
  refine ⟨n.toNat,om,om,?_⟩
  have hi:n.toNat<l.length:=by omega
  simp [a3x,h,hi]
theorem xK {l:List QE} {n:Int} (h:eZ l n=true):∃ i:Nat,∃ hi:i<l.length,n=i∧a3x l n=l[i]∧l[i].st=false∧∀ j (hj:j<l.length),j<i→l[j].m.line≠l[i].m.line:=by
  simp only [eZ,Bool.and_eq_true,Bool.not_eq_true'] at h
  obtain ⟨⟨h1,h2⟩,h3⟩:=h
  obtain ⟨i,hi,rfl,e⟩:=a5l h1
  rw [e] at h2 h3
  refine ⟨i,hi,rfl,e,h2,fun j hj hji=>?_⟩
  simp only [a6s,Int.toNat_natCast,List.all_eq_true] at h3
  have:=h3 l[j] (by rw [List.mem_iff_getElem];exact ⟨j,by simp;omega,by simp⟩)
  simpa using this
theorem c8l {room:Int} {l:List QE} {x:QOp} (h:a5c l):a5c (f4c room l x):=by
  unfold f4c
  split
  · unfold r7;split
    · exact c1q h
    · exact h
  · split
    · unfold cD;split
      · rename_i hs
        unfold lA at hs
        split at hs
        · split at hs
          · rename_i hr
            obtain ⟨hr,_⟩:=Bool.and_eq_true_iff.1 hr
            obtain ⟨i,hi,e1,e2,e3,e4⟩:=xK hr
            rw [e2,e1,Int.toNat_natCast]
            exact c1r hi h rfl rfl e4 fun j hj hij he=>h.1 i j hi hj hij he.symm
          · cases hs
        · cases hs
      · exact h
    · split
      · unfold cN;split
        · rename_i hs
          unfold lB at hs
          split at hs
          · rename_i hin
            obtain ⟨i,hi,e1,e2⟩:=a5l hin
            split at hs
            · cases hs
            · rename_i hn
              rw [e2] at hn ⊢
              split
              · exact a0h h
              · rw [e1,Int.toNat_natCast]
                have hst:l[i].st=true:=by
                  cases hc:l[i].st with
                  |true=>rfl
                  |false=>exact absurd (by rw [h.2 _ (List.getElem_mem hi) hc];rfl) hn
                refine c1r hi h rfl hst (fun j hj hji he=>?_) fun j hj hij he=>h.1 i j hi hj hij he.symm
                have:=h.1 j i hj hi hji he
                rw [hst] at this;cases this
          · cases hs
        · exact h
      · unfold r8;split
        · exact h
        · exact a0h h
end
end Go.Sx
