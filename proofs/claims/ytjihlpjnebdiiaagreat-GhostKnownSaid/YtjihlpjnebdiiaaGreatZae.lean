/- Wb, May, Mem, MemPl, Mem2, All: several of my texts as one. My own work. -/
import Derived.Test.YtjihlpjnebdiiaaGreatZac
set_option linter.unusedVariables false
set_option linter.unusedSectionVars false
set_option linter.unusedSimpArgs false
set_option maxRecDepth 100000
set_option maxHeartbeats 4000000
namespace Go.Sx
open Go Go.Proofs
section
attribute [local irreducible] Exit.then Exit.inBlock Code.wp WC WO WE WQ V bF tV d3 bW dF uH IntKind.wrap WR Code.rounds WT KO
def fY (l:List WbE) (line:Int):Int:=aV (fun e=>decide (e.line=line)) l
def tP (l:List WbE) (line:Int):WbE:=l.getD (fY l line).toNat ⟨0,.zero,false⟩
def lO (l:List WbE) (line:Int):Bool:=decide (0≤fY l line)
def sK (room:Int) (l:List WbE) (line:Int):Int:=if lO l line then 6 else if (l.length:Int)=room then 4 else 0
def mV (room:Int) (l:List WbE) (line:Int) (w:Words):List WbE:=if lO l line then l else if (l.length:Int)=room then l else l++[⟨line,w,true⟩]
def kJ (l:List WbE) (line:Int):Int:=if lO l line then (if (tP l line).live then 0 else 7) else 5
def lP (l:List WbE) (line:Int):Words:=if lO l line&& (tP l line).live then (tP l line).words else .zero
def jL (l:List WbE) (line:Int):List WbE:=if lO l line&& (tP l line).live then l.set (fY l line).toNat { tP l line with live:=false} else l
def pR (l:List WbE) (line:Int):Int:=if lO l line then 0 else 5
def n3 (l:List WbE) (line:Int):List WbE:=if lO l line then l.eraseIdx (fY l line).toNat else l
def d6n (l:List WbE) (line:Int):WbE:=if lO l line then tP l line else ⟨0,.zero,false⟩
theorem a3j {l:List WbE} {line:Int} (h:lO l line=true):∃ i:Nat,∃ hi:i<l.length,fY l line=i∧tP l line=l[i]∧l[i].line=line:=by
  obtain ⟨i,hi,h1,h2,_⟩:=cL (of_decide_eq_true h)
  refine ⟨i,hi,h1,?_,by simpa using h2⟩
  unfold tP fY
  rw [h1];simp [hi]
theorem b4w {l:List WbE} {line:Int} (h:lO l line=false):fY l line= -1:=(dY (of_decide_eq_false h)).1
abbrev Wb (b:Nat) (room:Int) (l:List WbE):HP:=RL 187 125 10 bc b room l
theorem e6n {F:List HP} {room:Int} (h:1≤room∧room≤8):FnF Tryz.prog 94 [.int .i64 room] [] F (fun r L'=>∃ b,r= .tuple [.pointer (some ⟨b,0,none⟩),.int .i64 0].toArray∧L'=[Wb b room []]):=by
  refine FnF.mk' Tryz.func94 rfl rfl Tryz.ntmps94 rfl ?_
  repeat first|refine gd ?_|intro _
  (apply aA rfl rfl bB)
  · exact ⟨_,rfl,rfl⟩
  · exact dR (l:=[]) (Ent.cons (aM Ent.refl)) rfl rfl (by simp;omega)
theorem e6o {F:List HP} {b:Nat} {line:Int} {T:TypeId} {C:List Value→List HP} {e:WbE} (k:CellsAt b F T [.int .i64 line] C) :
    FnF Tryz.prog 233 [bv e,.pointer (some ⟨b,0,none⟩)] [] F (fun r L'=>r= .bool (decide (e.line=line))∧L'=[]):=by
  refine FnF.mk' Tryz.func233 rfl rfl Tryz.ntmps233 rfl ?_
  repeat first|refine gd ?_|intro _
  exact aU
theorem e6p {F:List HP} {b:Nat} {line:Int} {T:TypeId} {C:List Value→List HP} {v:Value} {l:List WbE} (k1:CellsAt b F T [.int .i64 line] C) (k:RdL F 10 v l.length (aC bc l)) (hn:l.length≤1099511627776) :
    FnF Tryz.prog 232 [v,.func (.func 233) [].toArray [.pointer (some ⟨b,0,none⟩)].toArray] [] F (fun r L'=>r= .int .i64 (fY l line)∧L'=[]):=
  a0i (first:=[]) (p:=fun e=>decide (e.line=line)) k hn (fun x _=>e6o k1)
theorem a2x {F:List HP} {b:Nat} {room:Int} {l:List WbE} {line:Int}:FnF Tryz.prog 203 [.pointer (some ⟨b,0,none⟩),.int .i64 line] [Wb b room l] F (fun r L'=>r= .int .i64 (fY l line)∧L'=[Wb b room l]):=by
  refine FnF.mk' Tryz.func203 rfl rfl Tryz.ntmps203 rfl ?_
  refine iF fun p c hl=>?_
  repeat first|refine gd ?_|intro _|refine aD @e6p ?_
  (apply aA rfl rfl bB)
  · exact ⟨rfl,rfl⟩
  · (apply dR;(focus (exact aB));all_goals exact mG)
theorem c4x {F:List HP} {b:Nat} {room:Int} {l:List WbE}:FnF Tryz.prog 208 [.pointer (some ⟨b,0,none⟩)] [Wb b room l] F (fun r L'=>r= .int .i64 (room-l.length)∧L'=[Wb b room l]):=by
  refine FnF.mk' Tryz.func208 rfl rfl Tryz.ntmps208 rfl ?_
  refine iF fun p c hl=>?_
  repeat first|refine gd ?_|intro _
  (apply aA rfl rfl bB)
  · exact ⟨rfl,rfl⟩
  · (apply dR;(focus (exact aB));all_goals exact mG)
theorem a1j {Q P:Prop} (k:Q) (h:Hid Q→P:=by
  intro k
  first
  |(refine aG ?_;refine q9 (id:=5) .true (pl:= .p 0 <| .p 1 <| .p 2 <| .p 3 <| .p 5 <| .r 4 <| .r 6 <| .p 7 <| .e true [(8,.e true [(9,.p 10 <| .p 11 <| .e false [(12,.done)])])]) k.out)):P:=h ⟨k⟩
theorem e6q {F:List HP} {b:Nat} {room:Int} {l:List WbE} {line:Int} {w:Words}:FnF Tryz.prog 166 [.pointer (some ⟨b,0,none⟩),.int .i64 line,wv w] [Wb b room l] F (fun r L'=>r= .int .i64 (sK room l line)∧L'=[Wb b room (mV room l line w)]):=by
  refine FnF.mk' Tryz.func166 rfl rfl Tryz.ntmps166 rfl ?_
  cases e:lO l line with
  |true=>
   have h0:0≤fY l line:=of_decide_eq_true e
   repeat first|refine go ?_|intro _|refine a1j ?_|refine cM ?_|refine aD @a2x ?_
   (apply aA rfl rfl bB)
   · exact ⟨by simp [sK,e],rfl⟩
   · simp only [mV,e,if_true];exact aB
  |false=>
   have h0:=b4w e
   by_cases hf:(l.length:Int)=room
   · repeat first|refine go ?_|intro _|refine a1j ?_|refine cM ?_|refine aD @a2x ?_|refine aD @c4x ?_
     (apply aA rfl rfl bB)
     · exact ⟨by simp [sK,e,hf],rfl⟩
     · simp only [mV,e,hf,Bool.false_eq_true,if_false,if_true];exact aB
   · repeat first|refine go ?_|intro _|refine aD @a2x ?_|refine aD @c4x ?_
     (first|refine aW (Wb b room l) ?_|refine aX (Wb b room l) ?_|refine aY (Wb b room l) ?_)
     refine iF fun p c hl=>?_
     repeat first|refine go ?_|intro _|refine a1j ?_|refine cM ?_
     (apply aA rfl rfl bB)
     · exact ⟨by simp [sK,e,hf],rfl⟩
     · simp only [mV,e,hf,Bool.false_eq_true,if_false]
       (apply dR;(focus (exact aB));all_goals exact mG)
theorem wb_Share1 {F:List HP} {v:Value}:FnF Tryz.prog 239 [v] [] F (fun r L'=>r= .tuple [].toArray∧L'=[]):=by
  refine FnF.mk' Tryz.func239 rfl rfl Tryz.ntmps239 rfl ?_
  repeat first|refine gd ?_|intro _
  exact aU
theorem d3k {F:List HP} {v:Value} {l:List WbE} {i:Nat} (hi:i<l.length) :
    FnF Tryz.prog 240 [.pointer (some ⟨pb v,po v+i*10,none⟩)] [Own 125 10 v l.length (aC bc l)] F (fun r L'=>r= .tuple [].toArray∧L'=[Own 125 10 v l.length (aC bc (l.set i { l[i] with live:=false}))]):=by
  refine FnF.mk' Tryz.func240 rfl rfl Tryz.ntmps240 rfl ?_
  repeat first|refine gd ?_|intro _
  rw [cZ (enc:=bc) (n:=10) (fun _=>rfl) l i hi (x:={ l[i] with live:=false}) (by simp) rfl]
  exact aU
theorem c4y {F:List HP} {b:Nat} {room:Int} {l:List WbE} {line:Int} {fk:FuncId} {g:WbE→WbE}
    (H:∀ (F:List HP) (v:Value) (i:Nat) (hi:i<l.length),l[i].live=true→FnF Tryz.prog fk [.pointer (some ⟨pb v,po v+i*10,none⟩)] [Own 125 10 v l.length (aC bc l)] F (fun r L'=>r= .tuple [].toArray∧L'=[Own 125 10 v l.length (aC bc (l.set i (g l[i])))]))
    (hg:∀ e,(g e).words=e.words) :
    FnF Tryz.prog 238 [.pointer (some ⟨b,0,none⟩),.int .i64 line,.func (.func fk) [].toArray [].toArray] [Wb b room l] F
      (fun r L'=>r= .tuple [wv (lP l line),.int .i64 (kJ l line)].toArray∧L'=[Wb b room (if lO l line&& (tP l line).live then l.set (fY l line).toNat (g (tP l line)) else l)]):=by
  refine FnF.mk' Tryz.func238 rfl rfl Tryz.ntmps238 rfl ?_
  cases e:lO l line with
  |false=>
   have h0:=b4w e
   repeat first|refine gd ?_|intro _|refine aD @a2x ?_
   (apply aA rfl rfl bB)
   · exact ⟨by simp [kJ,lP,e,Words.zero],rfl⟩
   · simp only [Bool.false_and,Bool.false_eq_true,if_false];exact aB
  |true=>
   obtain ⟨i,hi,h1,h2,h3⟩:=a3j e
   have hA:=fun F=>a2x (F:=F) (b:=b) (room:=room) (l:=l) (line:=line)
   simp only [h1] at hA
   rw [h1,h2]
   have hn:(i:Int).toNat=i:=by omega
   cases hl:l[i].live with
   |false=>
    repeat first|refine gd ?_|intro _|refine aD @hA ?_
    (first|refine aW (Wb b room l) ?_|refine aX (Wb b room l) ?_|refine aY (Wb b room l) ?_)
    refine pX fun p c hl0=>?_
    repeat first|refine gd ?_|intro _
    (apply aA rfl rfl bB)
    · exact ⟨by simp [kJ,lP,e,h2,hl,Words.zero],rfl⟩
    · simp only [Bool.and_false,Bool.false_eq_true,if_false];exact xW @dR
   |true=>
    have hls:(l.set i (g l[i])).length=l.length:=List.length_set
    have hget:(l.set i (g l[i]))[i]'(om)=g l[i]:=by simp
    have hH:=fun F v=>H F v i hi hl
    repeat first|refine gd ?_|intro _|refine aD @hA ?_
    (first|refine aW (Wb b room l) ?_|refine aX (Wb b room l) ?_|refine aY (Wb b room l) ?_)
    refine pX fun p c hl0=>?_
    (first|(refine eN (.slice p l.length c) inferInstance (om) ?_;intro _)|(refine eQ (.slice p l.length c) inferInstance (om) ?_;intro _))
    repeat first|refine gd ?_|intro _|refine aD @hH ?_
    rw [hget,hg]
    (apply aA rfl rfl bB)
    · exact ⟨by simp [kJ,lP,e,h2,hl],rfl⟩
    · simp only [Bool.and_true,if_true,hn]
      exact xW @dR
theorem d3l {F:List HP} {b:Nat} {room:Int} {l:List WbE} {line:Int}:FnF Tryz.prog 218 [.pointer (some ⟨b,0,none⟩),.int .i64 line] [Wb b room l] F (fun r L'=>r= .tuple [wv (lP l line),.int .i64 (kJ l line)].toArray∧L'=[Wb b room l]):=by
  have hT:=fun F=>c4y (F:=F) (b:=b) (room:=room) (l:=l) (line:=line) (fk:=239) (g:=fun e=>e) (fun F v i hi hl=>by
    rw [List.set_getElem_self];exact wb_Share1.pure) (fun _=>rfl)
  have hs:(if (lO l line&& (tP l line).live)=true then l.set (fY l line).toNat (tP l line) else l)=l:=by
    split
    · rename_i h
      obtain ⟨i,hi,h1,h2,h3⟩:=a3j (Bool.and_eq_true_iff.1 h).1
      rw [h1,h2];simp
    · rfl
  simp only [hs] at hT
  refine FnF.mk' Tryz.func218 rfl rfl Tryz.ntmps218 rfl ?_
  repeat first|refine gd ?_|intro _|refine aD @hT ?_
  (apply aA rfl rfl bB)
  · exact ⟨rfl,rfl⟩
  · exact aB
theorem e1n {F:List HP} {b:Nat} {room:Int} {l:List WbE} {line:Int}:FnF Tryz.prog 219 [.pointer (some ⟨b,0,none⟩),.int .i64 line] [Wb b room l] F (fun r L'=>r= .tuple [wv (lP l line),.int .i64 (kJ l line)].toArray∧L'=[Wb b room (jL l line)]):=by
  have hT:=fun F=>c4y (F:=F) (b:=b) (room:=room) (l:=l) (line:=line) (fk:=240) (g:=fun e=>{ e with live:=false}) (fun F v i hi hl=>d3k hi) (fun _=>rfl)
  refine FnF.mk' Tryz.func219 rfl rfl Tryz.ntmps219 rfl ?_
  repeat first|refine gd ?_|intro _|refine aD @hT ?_
  (apply aA rfl rfl bB)
  · exact ⟨rfl,rfl⟩
  · unfold jL;exact aB
theorem e1o {F:List HP} {b:Nat} {room:Int} {l:List WbE} {line:Int}:FnF Tryz.prog 216 [.pointer (some ⟨b,0,none⟩),.int .i64 line] [Wb b room l] F (fun r L'=>r= .int .i64 (pR l line)∧L'=[Wb b room (n3 l line)]):=by
  refine FnF.mk' Tryz.func216 rfl rfl Tryz.ntmps216 rfl ?_
  cases e:lO l line with
  |false=>
   have h0:=b4w e
   repeat first|refine gd ?_|intro _|refine aD @a2x ?_
   (apply aA rfl rfl bB)
   · exact ⟨by simp [pR,e],rfl⟩
   · simp only [n3,e,Bool.false_eq_true,if_false];exact aB
  |true=>
   obtain ⟨i,hi,h1,h2,h3⟩:=a3j e
   have hA:=fun F=>a2x (F:=F) (b:=b) (room:=room) (l:=l) (line:=line)
   simp only [h1] at hA
   repeat first|refine gd ?_|intro _|refine aD @hA ?_
   (first|refine aW (Wb b room l) ?_|refine aX (Wb b room l) ?_|refine aY (Wb b room l) ?_)
   refine pX fun p c hl0=>?_
   repeat first|refine gd ?_|intro _
   refine aD (@a8i (i:=i) (j:=i+1)) ?_
   repeat first|refine gd ?_|intro _
   (apply aA rfl rfl bB)
   · exact ⟨by simp [pR,e],rfl⟩
   · simp only [n3,e,if_true,h1]
     apply dR
     · exact aB
     · simp only [List.length_eraseIdx,Int.toNat_natCast];split<;>omega
     · rw [iA (enc:=bc) (n:=10) (fun _=>rfl),eE (enc:=bc) (n:=10) (fun _=>rfl)]
       simp [List.eraseIdx_eq_take_drop_succ]
     · have:=List.length_eraseIdx_le l i
       simp only [Int.toNat_natCast]
       omega
theorem e6r {F:List HP} {b:Nat} {room:Int} {l:List WbE} {line:Int}:FnF Tryz.prog 159 [.pointer (some ⟨b,0,none⟩),.int .i64 line] [Wb b room l] F (fun r L'=>r= .tuple [bv (d6n l line),.bool (lO l line)].toArray∧L'=[Wb b room l]):=by
  refine FnF.mk' Tryz.func159 rfl rfl Tryz.ntmps159 rfl ?_
  cases e:lO l line with
  |false=>
   have h0:=b4w e
   repeat first|refine gd ?_|intro _|refine aD @a2x ?_
   (apply aA rfl rfl bB)
   · exact ⟨by simp [d6n,e,Words.zero],rfl⟩
   · exact aB
  |true=>
   obtain ⟨i,hi,h1,h2,h3⟩:=a3j e
   have hA:=fun F=>a2x (F:=F) (b:=b) (room:=room) (l:=l) (line:=line)
   simp only [h1] at hA
   repeat first|refine gd ?_|intro _|refine aD @hA ?_
   (first|refine aW (Wb b room l) ?_|refine aX (Wb b room l) ?_|refine aY (Wb b room l) ?_)
   refine pX fun p c hl0=>?_
   repeat first|refine gd ?_|intro _
   (apply aA rfl rfl bB)
   · exact ⟨by simp [d6n,e,h2],rfl⟩
   · exact xW @dR
theorem e1p {F:List HP} {b:Nat} {room:Int} {l:List WbE}:FnF Tryz.prog 59 [.pointer (some ⟨b,0,none⟩)] [Wb b room l] F (fun r L'=>∃ p c,r= .slice p l.length c∧L'=[Own 125 10 (.slice p l.length c) l.length (aC bc l),Wb b room l]):=by
  refine FnF.mk' Tryz.func59 rfl rfl Tryz.ntmps59 rfl ?_
  refine iF fun p c hl=>?_
  repeat first|refine gd ?_|intro _|refine aD @b1v ?_
  (apply aA rfl rfl bB)
  · exact ⟨_,_,rfl,rfl⟩
  · refine Ent.cons ?_
    (apply dR;(focus (exact aB));all_goals exact mG)
end
section
attribute [local irreducible] Exit.then Exit.inBlock Code.wp WC WO WE WQ V bF tV d3 bW dF uH IntKind.wrap WR Code.rounds WT KO
def uE (x:Op3):Bool:=if x.kind=4 then decide (x.addr=0)&& decide (x.value=0) else if x.kind=1 then decide (0≤x.addr)&& decide (x.addr≤8191)&& decide (x.value=0)
  else if x.kind=2∨x.kind=3 then decide (0≤x.addr)&& decide (x.addr≤8191)&& decide (-2147483648≤x.value)&& decide (x.value≤2147483647) else false
def kS (c:Cfg) (l:List Op3):Bool:=(l.all fun x=>uE x&& decide (x.addr<fJ c))&& aF c&& decide (l.length≤64)
theorem p9 {F:List HP} {x:Op3}:FnF Tryz.prog 122 [ov x] [] F (fun r L'=>r= .bool (uE x)∧L'=[]):=by
  refine FnF.mk' Tryz.func122 rfl rfl Tryz.ntmps122 rfl ?_
  repeat' (first|refine gd ?_|intro _|refine mH ?_ ?_|fail)
  all_goals (apply aA rfl rfl bB;(exact ⟨by first|(simp_all [uE];done)|(simp_all [uE];omega),rfl⟩);exact iC)
theorem y8 {F:List HP} {c:Cfg} (hc:c.wf) {l:List Op3} {v:Value} (k:RdL F 3 v l.length (aC oc l)) (hn:l.length≤1099511627776):FnF Tryz.prog 89 [c.val,v] [] F (fun r L'=>r= .bool (kS c l)∧L'=[]):=by
  refine FnF.mk' Tryz.func89 rfl rfl Tryz.ntmps89 rfl ?_
  repeat first|refine gd ?_|intro _
  rename_i bc
  apply bC (E0:=[(1,_),(2,_),(7,_),(8,_)]) (fun E0 (j:Nat)=>(9,.int .i64 j)::E0) (fun _=>Cells bc 24 c.cells::F) (fun j=>j≤l.length∧∀ i (h:i<l.length),i<j→(uE l[i]&& decide (l[i].addr<fJ c))=true) (fun j=>l.length-j) 0
  · exact nB
  · exact ⟨Nat.zero_le _,fun i h hi=>by omega⟩
  · exact aB
  · rintro j ⟨hj,hall⟩
    by_cases hlt:j<l.length
    · cases hm:uE l[j] with
      |false=>
       have hf:kS c l=false:=by
         have:(l.all fun x=>uE x&& decide (x.addr<fJ c))=false:=by
           rw [List.all_eq_false];exact ⟨_,List.getElem_mem hlt,by simp [hm]⟩
         simp [kS,this]
       have hM:=fun F=>p9 (F:=F) (x:=l[j])
       simp only [hm] at hM
       repeat first|refine gd ?_|intro _|refine aD @hM ?_
       (apply aA rfl rfl bB;(first|exact lW|exact ⟨by simp [hf]<;>omega,rfl⟩);exact iC)
      |true=>
       have hM:=fun F=>p9 (F:=F) (x:=l[j])
       simp only [hm] at hM
       by_cases hs:l[j].addr<fJ c
       · repeat first|refine gd ?_|intro _|refine aD @hM ?_|refine aD (kQ (c:=c)) ?_
         refine aS (j+1) (om) ⟨om,fun i h hi=>?_⟩ ?_ ?_
         · by_cases e:i=j
           · subst e;simp [hm,hs]
           · exact hall i h (om)
         · exact nB
         · exact aB
       · have hf:kS c l=false:=by
           have:(l.all fun x=>uE x&& decide (x.addr<fJ c))=false:=by
             rw [List.all_eq_false];exact ⟨_,List.getElem_mem hlt,by simp [hs]⟩
           simp [kS,this]
         repeat first|refine gd ?_|intro _|refine aD @hM ?_|refine aD (kQ (c:=c)) ?_
         (apply aA rfl rfl bB;(first|exact lW|exact ⟨by simp [hf]<;>omega,rfl⟩);exact iC)
    · have ha:(l.all fun x=>uE x&& decide (x.addr<fJ c))=true:=by
        rw [List.all_eq_true]
        intro x hx
        obtain ⟨i,hi,rfl⟩:=List.getElem_of_mem hx
        exact hall i hi (om)
      repeat first|refine gd ?_|intro _|refine aD (dC (c:=c)) ?_
      cases e:aF c
      · have e1:d4 c=1:=by simp [d4,e]
        repeat first|refine gd ?_|intro _
        (apply aA rfl rfl bB;(first|exact lW|exact ⟨by simp [kS,e]<;>omega,rfl⟩);exact iC)
      · have e1:d4 c=0:=by simp [d4,e]
        repeat first|refine gd ?_|intro _
        (apply aA rfl rfl bB;(first|exact lW|exact ⟨by simp [kS,e,ha]<;>omega,rfl⟩);exact iC)
end
section
theorem a2r {ms:List Int} {i:Nat} (hi:i<ms.length):(aC ic ms)[i]? =some (.int .i64 ms[i]):=by
  induction ms generalizing i with
  |nil=>simp at hi
  |cons a r ih=>
   cases i with
   |zero=>simp [aC]
   |succ i=>simpa [aC] using ih (i:=i) (by simpa using hi)
theorem nK (ms:List Int):(aC ic ms).length=ms.length:=by
  have:=gD (enc:=ic) (n:=1) (fun _=>rfl) ms
  rwa [Nat.mul_one] at this
theorem b1e {ms:List Int} {i:Nat} (hi:i<ms.length) (v:Int):aQ (aC ic ms) i [.int .i64 v]=aC ic (ms.set i v):=by
  have:=a8v (enc:=ic) (n:=1) (fun _=>rfl) ms i hi (cs:=[.int .i64 v]) (x:=v) (by simp) (by simp [aQ])
  rwa [Nat.mul_one] at this
def yP (b:Nat) (c:Cfg) (ms:List Int):HP:=
  Ex fun g:Nat=>[Cells b 198 (c.cells++[.slice (some ⟨g,0,none⟩) ms.length ms.length]),Cells g 3 (aC ic ms),Fact (aF c=true∧(ms.length:Int)=c.words*c.lines∧ms.length≤8192)]
theorem oA {b g n:Nat} {c:Cfg} {ms:List Int} {xs:List Value} {L M:List HP}
    (h:Ent L (Cells b 198 (c.cells++[.slice (some ⟨g,0,none⟩) n n])::Cells g 3 xs::M)) (hn:n=ms.length) (hx:xs=aC ic ms) (hl:aF c=true∧(ms.length:Int)=c.words*c.lines∧ms.length≤8192):Ent L (yP b c ms::M):=by
  subst hn hx
  refine Ent.trans h (Ent.trans ?_ (i0 (p:=fun g:Nat=>[Cells b 198 (c.cells++[.slice (some ⟨g,0,none⟩) ms.length ms.length]),Cells g 3 (aC ic ms),Fact (aF c=true∧(ms.length:Int)=c.words*c.lines∧ms.length≤8192)]) g))
  exact Ent.cons (Ent.cons (cY hl))
theorem e1q {b:Nat} {c:Cfg} {ms:List Int} {L:List HP} {w:World} (h:d3 (yP b c ms::L) w):(aF c=true∧(ms.length:Int)=c.words*c.lines∧ms.length≤8192)∧
    ∃ g,d3 (Cells b 198 (c.cells++[.slice (some ⟨g,0,none⟩) ms.length ms.length])::Cells g 3 (aC ic ms)::L) w:=by
  obtain ⟨g,hx⟩:=gW h
  simp only [oI] at hx
  have hf:=iW (aR (aR hx))
  exact ⟨hf,g,(Ent.cons (Ent.cons (Ent.drop Ent.refl))) _ hx⟩
theorem mC {b:Nat} {c0:Cfg} {ms:List Int} {P:Program} {N:Nat} {c:Code} {env:Env} {L:List HP} {Q:Exit→Act→World→Prop}
    (h:∀ g,(aF c0=true∧(ms.length:Int)=c0.words*c0.lines∧ms.length≤8192)→WC P N c env (Cells b 198 (c0.cells++[.slice (some ⟨g,0,none⟩) ms.length ms.length])::Cells g 3 (aC ic ms)::L) Q):WC P N c env (yP b c0 ms::L) Q:=by
  intro a w ha hw
  obtain ⟨hf,g,hx⟩:=e1q hw
  exact h g hf a w ha hx
attribute [local irreducible] Exit.then Exit.inBlock Code.wp WC WO WE WQ V bF tV d3 bW dF uH IntKind.wrap WR Code.rounds WT KO
def jT (ms:List Int) (i:Nat) (x:Op3):List Int:=if x.kind=2∨x.kind=3 then ms.set i x.value else ms
def xS (ms:List Int) (i:Nat) (x:Op3):Int:=if x.kind=2 then 0 else ms.getD i 0
theorem b1f {F:List HP} {g T i:Nat} {ms:List Int} {x:Op3} (hi:i<ms.length):FnF Tryz.prog 123 [.pointer (some ⟨g,i,none⟩),ov x] [Cells g T (aC ic ms)] F (fun r L'=>r= .int .i64 (xS ms i x)∧L'=[Cells g T (aC ic (jT ms i x))]):=by
  have hg:=a2r hi
  refine FnF.mk' Tryz.func123 rfl rfl Tryz.ntmps123 rfl ?_
  repeat first|refine gd ?_|intro _
  have hle:Nat.ble (i+1) (aC ic ms).length=true:=by rw [nK];exact Nat.ble_eq_true_of_le hi
  have hgd:ms.getD i 0=ms[i]:=by simp [hi]
  by_cases h2:x.kind=2
  · repeat first|refine gd ?_|intro _
    refine uC rfl (uD (cs:=[.int .i64 x.value]) rfl rfl inferInstance rfl rfl rfl hle) (aN ?_)
    rw [b1e hi]
    repeat first|refine gd ?_|intro _
    (apply aA rfl rfl bB)
    · exact ⟨by simp [xS,h2],rfl⟩
    · simp only [jT,h2,true_or,if_true];exact aB
  · by_cases h3:x.kind=3
    · repeat first|refine gd ?_|intro _
      refine uC rfl (uD (cs:=[.int .i64 x.value]) rfl rfl inferInstance rfl rfl rfl hle) (aN ?_)
      rw [b1e hi]
      repeat first|refine gd ?_|intro _
      (apply aA rfl rfl bB)
      · exact ⟨by simp [xS,h2,hi],rfl⟩
      · simp only [jT,h3,or_true,if_true];exact aB
    · repeat first|refine gd ?_|intro _
      (apply aA rfl rfl bB)
      · exact ⟨by simp [xS,h2,hi],rfl⟩
      · simp only [jT,h2,h3,or_self,if_false];exact aB
theorem b1g {Q P:Prop} (k:Q) (h:Hid Q→P:=by
  intro k
  first
  |(refine aG ?_;refine q9 (id:=4) .false (pl:= .r 0 <| .r 1 <| .e true [(2,.e true [(3,.p 4 <| .e true [(5,.p 6 <| .p 7 <| .done)])])]) k.out)):P:=h ⟨k⟩
theorem c1j {F:List HP} {c:Cfg} (hc:c.wf) (h:aF c=false):FnF Tryz.prog 63 [c.val] [] F (fun r L'=>r= .tuple [.pointer none,.int .i64 1].toArray∧L'=[]):=by
  have hE:=fun F=>dC (F:=F) hc
  simp only [d4,h,if_false,Bool.false_eq_true] at hE
  refine FnF.mk' Tryz.func63 rfl rfl Tryz.ntmps63 rfl ?_
  repeat first|refine go ?_|intro _|refine b1g ?_|refine cM ?_|refine aD @hE ?_
  exact aU
theorem b6i (l:List Int):(aC ic l).all one=true:=by
  induction l with
  |nil=>rfl
  |cons a r ih=>simp [aC,one]
theorem e6s (n:Nat):List.replicate n (Value.int .i64 0)=aC ic (List.replicate n 0):=by
  induction n with
  |zero=>rfl
  |succ n ih=>rw [List.replicate_succ,List.replicate_succ,ih];rfl
theorem c4z {F:List HP} {c:Cfg} (hc:c.wf) (h:aF c=true):FnF Tryz.prog 63 [c.val] [] F (fun r L'=>∃ b,r= .tuple [.pointer (some ⟨b,0,none⟩),.int .i64 0].toArray∧L'=[yP b c (List.replicate (c.words*c.lines).toNat 0)]):=by
  have hE:=fun F=>dC (F:=F) hc
  simp only [d4,h,if_true] at hE
  have hS:=fun F=>kQ (F:=F) hc
  simp only [fJ,h,if_true] at hS
  have hw:=dO h
  have hm:=a8g (m:=8) (n:=1024) (a:=c.words) (b:=c.lines) (om) (om) (om) (om) (om)
  simp only [Int.reduceMul] at hm
  generalize hz:c.words*c.lines=z at hm hS ⊢
  refine FnF.mk' Tryz.func63 rfl rfl Tryz.ntmps63 rfl ?_
  repeat first|refine go ?_|intro _|refine b1g ?_|refine cM ?_|refine aD @hE ?_|refine aD @hS ?_
  (apply aA rfl rfl bB)
  · exact ⟨_,rfl,rfl⟩
  · rw [e6s]
    rename_i bc bs bm
    refine oA (g:=bs) (n:=z.toNat) (ms:=List.replicate z.toNat 0) (Ent.cons (Ent.cons (Ent.drop Ent.refl))) (by simp) rfl ?_
    exact ⟨h,by simp [hz];omega,by simp;omega⟩
def b4x (ms:List Int) (a:Int):Bool:=decide (0≤a∧a<ms.length)
def xT (ms:List Int) (a:Int):Int:=if b4x ms a then ms.getD a.toNat 0 else 0
def a6r (ms:List Int) (x:Op3):Bool:=uE x&& decide (x.addr<ms.length)
def oW (ms:List Int) (x:Op3):Int:=if a6r ms x then (if x.kind=4 then 0 else xS ms x.addr.toNat x) else 0
def sL (ms:List Int) (x:Op3):Int:=if a6r ms x then 0 else 1
def jU (ms:List Int) (x:Op3):List Int:=if a6r ms x then (if x.kind=4 then ms else jT ms x.addr.toNat x) else ms
def eI (c:Cfg) (line:Int):Nat:=(line*c.words).toNat
def iT (c:Cfg) (ms:List Int) (line:Int):List Int:=(ms.drop (eI c line)).take c.words.toNat
def aI (c:Cfg) (ms:List Int) (line:Int):Words:=if dZ c line 0 then Words.of (iT c ms line) else .zero
def zX (c:Cfg) (w:Words):Bool:=(w.list.drop c.words.toNat).all fun n=>decide (n=0)
def y9 (c:Cfg) (line:Int) (w:Words):Bool:=dZ c line 0&& zX c w
def f0x (c:Cfg) (line:Int) (w:Words):Int:=if y9 c line w then 0 else 1
def d6d (c:Cfg) (ms:List Int) (line:Int) (w:Words):List Int:=if y9 c line w then ms.take (eI c line)++w.list.take c.words.toNat++ms.drop (eI c line+c.words.toNat) else ms
def a0q (c:Cfg) (x:Op3):Bool:=oM c x.addr&& uE x&& !decide (x.kind=4)
def c9a (c:Cfg) (w:Words) (x:Op3):Words:=if a0q c x then Words.of (jT w.list (p7 c x.addr).toNat x) else .zero
def e7u (c:Cfg) (w:Words) (x:Op3):Int:=if a0q c x then xS w.list (p7 c x.addr).toNat x else 0
def e1r (c:Cfg) (x:Op3):Int:=if a0q c x then 0 else 1
theorem jM (ms:List Int) (i:Nat) (x:Op3):(jT ms i x).length=ms.length:=by unfold jT;split<;>simp
theorem c1k (ms:List Int) (x:Op3):(jU ms x).length=ms.length:=by unfold jU;split<;>(try split)<;>simp [jM]
theorem c8e {x:Op3} (h:uE x=true):(x.kind=1∨x.kind=2∨x.kind=3∨x.kind=4)∧0≤x.addr∧x.addr≤8191:=by
  unfold uE at h
  split at h
  · simp at h;omega
  · split at h
    · simp at h;omega
    · split at h
      · simp at h;omega
      · cases h
theorem mW {c:Cfg} {line:Int} {n:Nat} (h:dZ c line 0=true) (hn:(n:Int)=c.words*c.lines):aF c=true∧0≤line∧line<c.lines∧1≤c.words∧c.words≤8∧0≤line*c.words∧line*c.words+c.words≤n∧a2w c line 0=line*c.words:=by
  have h0:=h
  simp only [dZ,Bool.and_eq_true,decide_eq_true_eq] at h
  have hw:=dO h.1
  have h1:=Int.mul_nonneg (a:=line) (b:=c.words) (om) (om)
  have h2:(line+1)*c.words≤c.lines*c.words:=Int.mul_le_mul_of_nonneg_right (om) (om)
  rw [Int.add_mul,Int.one_mul,Int.mul_comm c.lines] at h2
  exact ⟨h.1,h.2.1,h.2.2.1,om,om,h1,om,by simp [a2w,h0]⟩
theorem a2s {F:List HP} {b:Nat} {c:Cfg} {v:Value} {line:Int} (hc:c.wf) (hl:kP line) (h:dZ c line 0=false) :
    FnF Tryz.prog 170 [.pointer (some ⟨b,0,none⟩),.int .i64 line] [Cells b 198 (c.cells++[v])] F (fun r L'=>r= .slice none 0 0∧L'=[Cells b 198 (c.cells++[v])]):=by
  have hJ:=fun F=>a5d (F:=F) (c:=c) (l:=line) (w:=0) hc hl (by unfold kP;omega)
  simp only [v7,h,if_false,Bool.false_eq_true] at hJ
  refine FnF.mk' Tryz.func170 rfl rfl Tryz.ntmps170 rfl ?_
  repeat first|refine gd ?_|intro _|refine aD @hJ ?_
  exact aU
theorem b8r {F:List HP} {b g n:Nat} {c:Cfg} {line:Int} (hc:c.wf) (hl:kP line) (h:dZ c line 0=true) (hn:(n:Int)=c.words*c.lines) (hb:n≤8192) :
    FnF Tryz.prog 170 [.pointer (some ⟨b,0,none⟩),.int .i64 line] [Cells b 198 (c.cells++[.slice (some ⟨g,0,none⟩) n n])] F
      (fun r L'=>r= .slice (some ⟨g,eI c line,none⟩) c.words.toNat (n-eI c line)∧L'=[Cells b 198 (c.cells++[.slice (some ⟨g,0,none⟩) n n])]):=by
  have hJ:=fun F=>a5d (F:=F) (c:=c) (l:=line) (w:=0) hc hl (by unfold kP;omega)
  obtain ⟨h1,h2,h3,h4,h5,h6,h7,h8⟩:=mW h hn
  simp only [v7,h,if_true,h8] at hJ
  generalize hz:line*c.words=z at *
  have hf:eI c line=z.toNat:=by unfold eI;rw [hz]
  rw [hf]
  refine FnF.mk' Tryz.func170 rfl rfl Tryz.ntmps170 rfl ?_
  repeat first|refine gd ?_|intro _|refine aD @hJ ?_
  (apply aA rfl rfl bB)
  · refine ⟨?_,rfl⟩
    rw [n7 (om)]
    have e1:(z+c.words).toNat-z.toNat=c.words.toNat:=by omega
    simp [e1]
  · exact aB
end
section
theorem b6j {l:List Int} (h:l.length≤8):(Words.of l).list=l++List.replicate (8-l.length) 0:=by
  match l,h with
  | [],_=>rfl
  | [a],_=>rfl
  | [a,b],_=>rfl
  | [a,b,c],_=>rfl
  | [a,b,c,d],_=>rfl
  | [a,b,c,d,e],_=>rfl
  | [a,b,c,d,e,f],_=>rfl
  | [a,b,c,d,e,f,g],_=>rfl
  | [a,b,c,d,e,f,g,i],_=>rfl
  |a::b::c::d::e::f::g::i::j::r,h=>exact absurd h (by simp)
theorem e1s (A L B:List Int) (i:Nat) (h:i<L.length) (v:Int):(A++(L++B)).set (A.length+i) v=A++(L.set i v++B):=by
  rw [List.set_append_right _ _ (om),Nat.add_sub_cancel_left,List.set_append_left _ _ h]
theorem e1t (A L B:List Int) (i:Nat) (h:i<L.length):(A++(L++B)).getD (A.length+i) 0=L.getD i 0:=by
  simp [List.getD_eq_getElem?_getD,List.getElem?_append_right,List.getElem?_append_left h]
theorem d3m (L B:List Int) (i:Nat) (h:i<L.length):(L++B).getD i 0=L.getD i 0:=by
  simp [List.getD_eq_getElem?_getD,List.getElem?_append_left h]
theorem a6s (A L B:List Int) (i:Nat) (h:i<L.length) (x:Op3):jT (A++(L++B)) (A.length+i) x=A++(jT L i x++B):=by
  unfold jT;split
  · exact e1s A L B i h _
  · rfl
theorem yQ {c:Cfg} {ms:List Int} {x:Op3} (hn:(ms.length:Int)=c.words*c.lines) (h:a0q c x=true) :
    dZ c (cQ c x.addr) 0=true∧a6r ms x=true∧x.kind≠4∧0≤p7 c x.addr∧p7 c x.addr<8∧(aI c ms (cQ c x.addr)).list.getD (p7 c x.addr).toNat 0=xT ms x.addr∧
    y9 c (cQ c x.addr) (c9a c (aI c ms (cQ c x.addr)) x)=true∧d6d c ms (cQ c x.addr) (c9a c (aI c ms (cQ c x.addr)) x)=jU ms x∧e7u c (aI c ms (cQ c x.addr)) x=oW ms x:=by
  have h0:=h
  simp only [a0q,Bool.and_eq_true,Bool.not_eq_true',decide_eq_false_iff_not] at h
  obtain ⟨⟨ha,hm⟩,h4⟩:=h
  have ha0:=ha
  simp only [oM,Bool.and_eq_true,decide_eq_true_eq] at ha
  obtain ⟨hck,ha1,ha2⟩:=ha
  have hw:=dO hck
  have eL:cQ c x.addr=x.addr / c.words:=by simp [cQ,ha0]
  have eW:p7 c x.addr=x.addr % c.words:=by simp [p7,ha0]
  have hq:=Int.ediv_mul_add_emod x.addr c.words
  have hr0:=Int.emod_nonneg x.addr (show c.words≠0 by omega)
  have hr1:=Int.emod_lt_of_pos x.addr (show 0<c.words by omega)
  rw [eL,eW]
  generalize x.addr / c.words=q at *
  generalize x.addr % c.words=r at *
  have hql:q<c.lines:=by
    rcases Int.lt_or_le q c.lines with h|h
    · exact h
    · have:=Int.mul_le_mul_of_nonneg_right h (show 0≤c.words by omega)
      rw [Int.mul_comm c.lines] at this;omega
  have hq0:0≤q:=by
    rcases Int.lt_or_le q 0 with h|h
    · have:=Int.mul_le_mul_of_nonneg_right (show q≤ -1 by omega) (show 0≤c.words by omega)
      omega
    · exact h
  have hJ:dZ c q 0=true:=by simp [dZ,hck,hq0,hql];omega
  have hD:a6r ms x=true:=by simp [a6r,hm];omega
  obtain ⟨j1,j2,j3,j4,j5,j6,j7,j8⟩:=mW hJ hn
  have hfe:eI c q=(q*c.words).toNat:=rfl
  generalize hz:q*c.words=z at *
  have hAl:(ms.take (eI c q)).length=eI c q:=by rw [List.length_take];omega
  have hLl:(iT c ms q).length=c.words.toNat:=by unfold iT;simp;omega
  have hms:ms=ms.take (eI c q)++(iT c ms q++ms.drop (eI c q+c.words.toNat)):=by
    unfold iT;rw [←List.drop_drop,List.take_append_drop,List.take_append_drop]
  have hat:x.addr.toNat=(ms.take (eI c q)).length+r.toNat:=by omega
  have hri:r.toNat<(iT c ms q).length:=by omega
  have hwl:(aI c ms q).list=iT c ms q++List.replicate (8-(iT c ms q).length) 0:=by simp only [aI,hJ,if_true];exact b6j (om)
  have htl:jT (aI c ms q).list r.toNat x=jT (iT c ms q) r.toNat x++List.replicate (8-(iT c ms q).length) 0:=by
    rw [hwl]
    have:=a6s [] (iT c ms q) (List.replicate (8-(iT c ms q).length) 0) r.toNat hri x
    simpa using this
  have hap:(c9a c (aI c ms q) x).list=jT (iT c ms q) r.toNat x++List.replicate (8-(iT c ms q).length) 0:=by
    simp only [c9a,h0,if_true,eW]
    rw [Words.list_of (by rw [jM];rfl),htl]
  have hget:(aI c ms q).list.getD r.toNat 0=ms.getD x.addr.toNat 0:=by
    rw [hwl,d3m _ _ _ hri,hat]
    conv=>rhs;rw [hms]
    have:=e1t (ms.take (eI c q)) (iT c ms q) (ms.drop (eI c q+c.words.toNat)) r.toNat hri
    rw [←this]
    congr 2
    rw [←hms]
  have hwo:y9 c q (c9a c (aI c ms q) x)=true:=by
    simp only [y9,hJ,Bool.true_and,zX]
    rw [hap,List.drop_left' (by rw [jM];exact hLl)]
    simp
  refine ⟨hJ,hD,h4,hr0,om,?_,hwo,?_,?_⟩
  · rw [hget];simp [xT,b4x,ha1];intro h;omega
  · simp only [d6d,hwo,if_true]
    rw [hap,List.take_left' (by rw [jM];exact hLl)]
    simp only [jU,hD,if_true,h4,if_false]
    rw [hat]
    conv=>rhs;rw [hms]
    have:=a6s (ms.take (eI c q)) (iT c ms q) (ms.drop (eI c q+c.words.toNat)) r.toNat hri x
    rw [List.append_assoc,←this]
    congr 2
    rw [←hms]
  · simp only [e7u,h0,if_true,eW,oW,hD,h4,if_false,xS,hget]
end
section
attribute [local irreducible] Exit.then Exit.inBlock Code.wp WC WO WE WQ V bF tV d3 bW dF uH IntKind.wrap WR Code.rounds WT KO
theorem e1u {ms:List Int} {i:Nat} (hi:i<ms.length):(aC ic ms)[0+i*1]? =some (.int .i64 (ms.getD i 0)):=by
  rw [Nat.zero_add,Nat.mul_one,a2r hi];simp [hi]
theorem d3n {F:List HP} {b:Nat} {c:Cfg} {ms:List Int} {a:Int}:FnF Tryz.prog 69 [.pointer (some ⟨b,0,none⟩),.int .i64 a] [yP b c ms] F (fun r L'=>r= .int .i64 (xT ms a)∧L'=[yP b c ms]):=by
  refine FnF.mk' Tryz.func69 rfl rfl Tryz.ntmps69 rfl ?_
  refine mC fun g hf=>?_
  by_cases h0:0≤a
  · by_cases h1:a<ms.length
    · have hg:=e1u (ms:=ms) (i:=a.toNat) (om)
      repeat first|refine gd ?_|intro _
      (apply aA rfl rfl bB)
      · exact ⟨by simp [xT,b4x,h0,h1],rfl⟩
      · exact xW @oA
    · repeat first|refine gd ?_|intro _
      (apply aA rfl rfl bB)
      · exact ⟨by simp [xT,b4x,h1],rfl⟩
      · exact xW @oA
  · repeat first|refine gd ?_|intro _
    (apply aA rfl rfl bB)
    · exact ⟨by simp [xT,b4x,h0],rfl⟩
    · exact xW @oA
theorem tQ {Q P:Prop} (k:Q) (h:Hid Q→P:=by
  intro k
  first
  |(refine aG ?_;refine q9 (id:=5) .true (pl:= .p 0 <| .p 1 <| .p 2 <| .p 4 <| .r 3 <| .r 5 <| .p 6 <| .r 7 <| .e true [(8,.p 9 <| .p 10 <| .done)]) k.out)):P:=h ⟨k⟩
theorem e6t {F:List HP} {b:Nat} {c:Cfg} {ms:List Int} {x:Op3}:FnF Tryz.prog 64 [.pointer (some ⟨b,0,none⟩),ov x] [yP b c ms] F (fun r L'=>r= .tuple [.int .i64 (oW ms x),.int .i64 (sL ms x)].toArray∧L'=[yP b c (jU ms x)]):=by
  have hM:=fun F=>p9 (F:=F) (x:=x)
  cases e:uE x with
  |false=>
   simp only [e] at hM
   have hd:a6r ms x=false:=by simp [a6r,e]
   refine FnF.mk' Tryz.func64 rfl rfl Tryz.ntmps64 rfl ?_
   refine mC fun g hf=>?_
   repeat first|refine go ?_|intro _|refine tQ ?_|refine cM ?_|refine aD @hM ?_
   (apply aA rfl rfl bB)
   · exact ⟨by simp [oW,sL,hd],rfl⟩
   · simp only [jU,hd,Bool.false_eq_true,if_false];exact xW @oA
  |true=>
   simp only [e] at hM
   by_cases h1:x.addr<ms.length
   · have hd:a6r ms x=true:=by simp [a6r,e,h1]
     have hm:=c8e e
     by_cases h4:x.kind=4
     · refine FnF.mk' Tryz.func64 rfl rfl Tryz.ntmps64 rfl ?_
       refine mC fun g hf=>?_
       repeat first|refine go ?_|intro _|refine tQ ?_|refine cM ?_|refine aD @hM ?_
       (apply aA rfl rfl bB)
       · exact ⟨by simp [oW,sL,hd,h4],rfl⟩
       · simp only [jU,hd,h4,if_true];exact xW @oA
     · refine FnF.mk' Tryz.func64 rfl rfl Tryz.ntmps64 rfl ?_
       refine mC fun g hf=>?_
       repeat first|refine go ?_|intro _|refine tQ ?_|refine cM ?_|refine aD @hM ?_|refine aD @b1f ?_
       (apply aA rfl rfl bB)
       · exact ⟨by simp [oW,sL,hd,h4],rfl⟩
       · simp only [jU,hd,h4,if_true,if_false,Nat.zero_add,Nat.mul_one]
         ((repeat (first|(with_reducible exact Ent.refl)|exact Ent.nil|(apply dQ;exact e6z)|(apply oA)|apply Ent.drop));all_goals (first|rfl|(with_reducible assumption)|(simp [jM];done)|(simp [jM];omega)|omega|(constructor<;>(simp [jM])<;>omega)))
   · have hd:a6r ms x=false:=by simp [a6r,h1]
     refine FnF.mk' Tryz.func64 rfl rfl Tryz.ntmps64 rfl ?_
     refine mC fun g hf=>?_
     repeat first|refine go ?_|intro _|refine tQ ?_|refine cM ?_|refine aD @hM ?_
     (apply aA rfl rfl bB)
     · exact ⟨by simp [oW,sL,hd],rfl⟩
     · simp only [jU,hd,Bool.false_eq_true,if_false];exact xW @oA
theorem uF {c:Cfg} {ms:List Int} {line:Int} (hn:(ms.length:Int)=c.words*c.lines) (h:dZ c line 0=true):eI c line+c.words.toNat≤ms.length∧(iT c ms line).length=c.words.toNat∧c.words.toNat≤8∧1≤c.words.toNat:=by
  obtain ⟨h1,h2,h3,h4,h5,h6,h7,h8⟩:=mW h hn
  have:eI c line=(line*c.words).toNat:=rfl
  refine ⟨om,?_,om,om⟩
  simp [iT];omega
theorem e1v {g T:Nat} {c:Cfg} {ms:List Int} {line:Int} {L:List HP} (hn:(ms.length:Int)=c.words*c.lines) (h:dZ c line 0=true) {cap:Nat} :
    RdL (Cells g T (aC ic ms)::L) 1 (.slice (some ⟨g,eI c line,none⟩) c.words.toNat cap) c.words.toNat (aC ic (iT c ms line)):=by
  have:=uF hn h
  have hx:((aC ic ms).drop (eI c line)).take (c.words.toNat*1)=aC ic (iT c ms line):=by
    have h1:=eE (enc:=ic) (n:=1) (fun _=>rfl) ms (eI c line)
    have h2:=iA (enc:=ic) (n:=1) (fun _=>rfl) (ms.drop (eI c line)) c.words.toNat
    rw [Nat.mul_one] at h1 h2 ⊢
    rw [h1,h2];rfl
  have k:=vM (L:=Cells g T (aC ic ms)::L) (o:=eI c line) (m:=c.words.toNat) (c:=cap) (sz:=1) (b:=g) inferInstance (by rw [nK];omega) (by rw [hx];exact b6i _)
  rwa [hx] at k
theorem b8s {F:List HP} {b:Nat} {c:Cfg} {ms:List Int} {line:Int} (hc:c.wf) (hl:kP line):FnF Tryz.prog 127 [.pointer (some ⟨b,0,none⟩),.int .i64 line] [yP b c ms] F (fun r L'=>r= .tuple [wv (aI c ms line),.int .i64 (v7 c line 0)].toArray∧L'=[yP b c ms]):=by
  cases e:dZ c line 0 with
  |false=>
   have hP:=fun F b v=>a2s (F:=F) (b:=b) (v:=v) hc hl e
   refine FnF.mk' Tryz.func127 rfl rfl Tryz.ntmps127 rfl ?_
   refine mC fun g hf=>?_
   repeat first|refine gd ?_|intro _|refine aD @hP ?_
   (apply aA rfl rfl bB)
   · exact ⟨by simp [aI,v7,e,Words.zero],rfl⟩
   · exact xW @oA
  |true=>
   refine FnF.mk' Tryz.func127 rfl rfl Tryz.ntmps127 rfl ?_
   refine mC fun g hf=>?_
   have hr:=uF hf.2.1 e
   have hP:=fun F=>b8r (F:=F) (b:=b) (g:=g) hc hl e hf.2.1 hf.2.2
   haveI kr:=fun L=>e1v (g:=g) (T:=3) (L:=L) (cap:=ms.length-eI c line) hf.2.1 e
   have hsp:aQ [.int .i64 0,.int .i64 0,.int .i64 0,.int .i64 0,.int .i64 0,.int .i64 0,.int .i64 0,.int .i64 0] 0 ((aC ic (iT c ms line)).take (min c.words.toNat 8*1))=wc (Words.of (iT c ms line)):=by
     rw [List.take_of_length_le (by rw [nK];omega)]
     exact b2b (om)
   repeat first|refine gd ?_|intro _|refine aD @hP ?_
   rw [hsp]
   repeat first|refine gd ?_|intro _
   (apply aA rfl rfl bB)
   · exact ⟨by simp [aI,v7,e],rfl⟩
   · exact xW @oA
theorem e1w {F:List HP} {g T i:Nat} {w:Words} {x:Op3} (hi:i<8):FnF Tryz.prog 123 [.pointer (some ⟨g,i,none⟩),ov x] [Cells g T (wc w)] F (fun r L'=>r= .int .i64 (xS w.list i x)∧L'=[Cells g T (wc (Words.of (jT w.list i x)))]):=by
  have h:=b1f (F:=F) (g:=g) (T:=T) (i:=i) (ms:=w.list) (x:=x) hi
  rw [e1m (l:=jT w.list i x) (by rw [jM];rfl)] at h
  exact h
theorem vF (l:List Int):aC ic l=l.map (Value.int .i64):=by
  induction l with
  |nil=>rfl
  |cons a r ih=>rw [List.map_cons,←ih];rfl
theorem e1x {ms:List Int} {w:Words} {f k:Nat} (h:f+k≤ms.length) (hk:k≤8):aQ (aC ic ms) f ((wc w).take (min 8 k*1))=aC ic (ms.take f++w.list.take k++ms.drop (f+k)):=by
  have e:wc w=aC ic w.list:=rfl
  have hl:w.list.length=8:=rfl
  rw [show min 8 k*1=k by omega,e,vF,vF,vF,aQ]
  simp [List.map_take,List.map_drop,hl,Nat.min_eq_left hk]
instance (priority:=high) rd_cutw {bw T l:Nat} {w:Words} {L:List HP}:RdL (Cells bw T (wc w)::L) 1 (Sx.cut (.slice (some ⟨bw,0,none⟩) 8 8) l 8 8 1) (8-l) (aC ic (w.list.drop l)):=by
  by_cases hl:l≤8
  · have k0:RdL (Cells bw T (wc w)::L) 1 (.slice (some ⟨bw,0,none⟩) 8 8) 8 (wc w):=r7 inferInstance rfl rfl
    have k:=RdL.cut k0 hl (Nat.le_refl _) (Nat.le_refl _)
    have e:((wc w).drop (l*1)).take ((8-l)*1)=aC ic (w.list.drop l):=by
      rw [show wc w=aC ic w.list from rfl,eE (enc:=ic) (n:=1) (fun _=>rfl),List.take_of_length_le]
      rw [nK,List.length_drop]
      have:w.list.length=8:=rfl
      omega
    rwa [e] at k
  · have e:w.list.drop l=[]:=List.drop_eq_nil_of_le (by have:w.list.length=8:=rfl;omega)
    have e2:8-l=0:=by omega
    rw [e,e2]
    exact ⟨fun _ _=>by simp,fun _ _=>rfl,fun _ _=> .inl ⟨_,_,by simp [Sx.cut,e2];exact ⟨rfl,rfl⟩,rfl⟩⟩
theorem c2n {ms:List Int} {w:Words} {f k:Nat} (h:f+k≤ms.length) (hk:k≤8):(ms.take f++w.list.take k++ms.drop (f+k)).length=ms.length:=by
  have hl:w.list.length=8:=rfl
  simp [hl,Nat.min_eq_left hk];omega
theorem c8f {F:List HP} {b:Nat} {c:Cfg} {ms:List Int} {line:Int} {w:Words} (hc:c.wf) (hl:kP line):FnF Tryz.prog 197 [.pointer (some ⟨b,0,none⟩),.int .i64 line,wv w] [yP b c ms] F (fun r L'=>r= .int .i64 (f0x c line w)∧L'=[yP b c (d6d c ms line w)]):=by
  cases e:dZ c line 0 with
  |false=>
   have hP:=fun F b v=>a2s (F:=F) (b:=b) (v:=v) hc hl e
   have hw:y9 c line w=false:=by simp [y9,e]
   refine FnF.mk' Tryz.func197 rfl rfl Tryz.ntmps197 rfl ?_
   refine mC fun g hf=>?_
   repeat first|refine gd ?_|intro _|refine aD @hP ?_
   (apply aA rfl rfl bB)
   · exact ⟨by simp [f0x,hw],rfl⟩
   · simp only [d6d,hw,Bool.false_eq_true,if_false];exact xW @oA
  |true=>
   refine FnF.mk' Tryz.func197 rfl rfl Tryz.ntmps197 rfl ?_
   refine mC fun g hf=>?_
   have hr:=uF hf.2.1 e
   have hj:=mW e hf.2.1
   have hP:=fun F=>b8r (F:=F) (b:=b) (g:=g) hc hl e hf.2.1 hf.2.2
   have hfl:=nK ms
   have hwl:(w.list.drop c.words.toNat).length=8-c.words.toNat:=by rw [List.length_drop];rfl
   repeat first|refine gd ?_|intro _|refine aD @hP ?_
   rename_i bw
   apply bC (E0:=[(5,_),(7,_),(20,_),(21,_)]) (fun E0 (i:Nat)=>(22,.int .i64 i)::E0) (fun _=>Cells bw 97 (wc w)::Cells b 198 (c.cells++[.slice (some ⟨g,0,none⟩) ms.length ms.length])::Cells g 3 (aC ic ms)::F) (fun i=>i≤8-c.words.toNat∧∀ j (h:j<(w.list.drop c.words.toNat).length),j<i→(w.list.drop c.words.toNat)[j]=0) (fun i=>8-i) 0
   · exact nB
   · exact ⟨Nat.zero_le _,fun j h hj=>by omega⟩
   · exact aB
   · rintro i ⟨hi,h1⟩
     by_cases hlt:i<8-c.words.toNat
     · have hlt':i<(w.list.drop c.words.toNat).length:=by omega
       by_cases h0:(w.list.drop c.words.toNat)[i]=0
       · repeat first|refine gd ?_|intro _
         refine aS (i+1) (om) ⟨om,fun j h hj=>?_⟩ ?_ ?_
         · by_cases e:j=i
           · subst e;exact h0
           · exact h1 j h (om)
         · exact nB
         · exact aB
       · have hw:y9 c line w=false:=by
           have:zX c w=false:=by
             unfold zX
             rw [List.all_eq_false];exact ⟨_,List.getElem_mem hlt',by simpa using h0⟩
           simp [y9,this]
         repeat first|refine gd ?_|intro _
         (apply aA rfl rfl bB)
         · exact ⟨by simp [f0x,hw],rfl⟩
         · simp only [d6d,hw,Bool.false_eq_true,if_false];exact xW @oA
     · have hw:y9 c line w=true:=by
         have:zX c w=true:=by
           unfold zX
           rw [List.all_eq_true]
           intro x hx
           obtain ⟨j,hj,rfl⟩:=List.getElem_of_mem hx
           simpa using h1 j hj (om)
         simp [y9,this,e]
       repeat first|refine gd ?_|intro _
       (apply aA rfl rfl bB)
       · exact ⟨by simp [f0x,hw],rfl⟩
       · rw [e1x hr.1 hr.2.2.1]
         simp only [d6d,hw,if_true]
         apply oA
         · exact aB
         · rw [c2n hr.1 hr.2.2.1]
         · rfl
         · rw [c2n hr.1 hr.2.2.1];exact hf
theorem qA {Q P:Prop} (k:Q) (h:Hid Q→P:=by
  intro k
  first
  |(refine aG ?_;refine q9 (id:=4) .true (pl:= .p 0 <| .p 1 <| .r 2 <| .e true [(3,.p 4 <| .done)]) k.out)):P:=h ⟨k⟩
theorem c8g {F:List HP} {c:Cfg} {w:Words} {x:Op3} (hc:c.wf) (hx:x.wf):FnF Tryz.prog 191 [c.val,wv w,ov x] [] F (fun r L'=>r= .tuple [wv (c9a c w x),.int .i64 (e7u c w x),.int .i64 (e1r c x)].toArray∧L'=[]):=by
  have hA:=fun F=>yE (F:=F) (c:=c) (a:=x.addr) hc hx.2.1
  have hM:=fun F=>p9 (F:=F) (x:=x)
  cases e1:oM c x.addr with
  |false=>
   have ha:a0q c x=false:=by simp [a0q,e1]
   simp only [a9c,e1,Bool.false_eq_true,if_false] at hA
   refine FnF.mk' Tryz.func191 rfl rfl Tryz.ntmps191 rfl ?_
   repeat first|refine go ?_|intro _|refine qA ?_|refine cM ?_|refine aD @hA ?_
   (apply aA rfl rfl bB)
   · exact ⟨by simp [c9a,e7u,e1r,ha,Words.zero],rfl⟩
   · exact aB
  |true=>
   simp only [a9c,e1,if_true] at hA
   cases e2:uE x with
   |false=>
    have ha:a0q c x=false:=by simp [a0q,e2]
    simp only [e2] at hM
    refine FnF.mk' Tryz.func191 rfl rfl Tryz.ntmps191 rfl ?_
    repeat first|refine go ?_|intro _|refine qA ?_|refine cM ?_|refine aD @hA ?_|refine aD @hM ?_
    (apply aA rfl rfl bB)
    · exact ⟨by simp [c9a,e7u,e1r,ha,Words.zero],rfl⟩
    · exact aB
   |true=>
    simp only [e2] at hM
    by_cases e3:x.kind=4
    · have ha:a0q c x=false:=by simp [a0q,e3]
      refine FnF.mk' Tryz.func191 rfl rfl Tryz.ntmps191 rfl ?_
      repeat first|refine go ?_|intro _|refine qA ?_|refine cM ?_|refine aD @hA ?_|refine aD @hM ?_
      (apply aA rfl rfl bB)
      · exact ⟨by simp [c9a,e7u,e1r,ha,Words.zero],rfl⟩
      · exact aB
    · have ha:a0q c x=true:=by simp [a0q,e1,e2,e3]
      obtain ⟨_,_,_,q1,q2,_⟩:=yQ (c:=c) (x:=x) (ms:=List.replicate (c.words*c.lines).toNat 0) (by
        have:=(a7g e1).2
        simp;omega) ha
      refine FnF.mk' Tryz.func191 rfl rfl Tryz.ntmps191 rfl ?_
      repeat first|refine go ?_|intro _|refine qA ?_|refine cM ?_|refine aD @hA ?_|refine aD @hM ?_|refine aD @e1w ?_
      (apply aA rfl rfl bB)
      · exact ⟨by simp [c9a,e7u,e1r,ha],rfl⟩
      · exact aB
end
section
open Go
theorem c8h {L M:List HP} (p:L.Perm M):∀ h,bW L h→bW M h:=by
  induction p with
  |nil=>exact fun _ h=>h
  |cons x _ ih=>exact fun _ h=>fA ih h
  |swap x y l=>exact fun _ h=>gE h
  |trans _ _ a b=>exact fun h x=>b h (a h x)
theorem gR {L M:List HP} (p:L.Perm M):Ent L M:=c8h p
theorem yR {α:Type}:∀ (l:List α) (i:Nat) (hi:i<l.length),(l[i]::l.eraseIdx i).Perm l
  |a::r,0,_=>List.Perm.refl _
  |a::r,i+1,hi=>(List.Perm.swap _ _ _).trans ((yR r i (by simpa using hi)).cons a)
  | [],i,hi=>by simp at hi
structure All (ps:List HP) (h:PH):Prop where
  pf:bW ps h
theorem i4 {ps L:List HP}:Ent (All ps::L) (ps++L):=fun h ⟨S,T,d,hp,hL⟩=>jB d hp.pf hL
theorem gF {ps L:List HP}:Ent (ps++L) (All ps::L):=fun h H=>by
  obtain ⟨S,T,d,h1,h2⟩:=mR H
  exact ⟨S,T,d,⟨h1⟩,h2⟩
theorem fZ {L:List HP}:Ent L (All []::L):=gF (ps:=[])
section
variable {α:Type} {f:α→HP} {qs:List α} {L:List HP}
theorem vT (i:Nat) (hi:i<qs.length):Ent (All (qs.map f)::L) (f qs[i]::All ((qs.eraseIdx i).map f)::L):=by
  refine Ent.trans i4 (Ent.trans (gR ?_) (Ent.cons gF))
  have:=(yR qs i hi).map f
  exact (this.symm.append_right L)
theorem b3o (i:Nat) (hi:i<qs.length) (x:α):Ent (f x::All ((qs.eraseIdx i).map f)::L) (All ((qs.set i x).map f)::L):=by
  refine Ent.trans (Ent.cons i4) (Ent.trans (gR ?_) gF)
  have h2:i<(qs.set i x).length:=by simpa using hi
  have:=(yR (qs.set i x) i h2).map f
  simp only [List.getElem_set_self,List.eraseIdx_set_eq] at this
  exact this.append_right L
theorem d3o (i:Nat) (hi:i<qs.length):Ent (f qs[i]::All ((qs.eraseIdx i).map f)::L) (All (qs.map f)::L):=by
  have:=b3o (f:=f) (L:=L) i hi qs[i]
  simpa using this
theorem a0r (x:α):Ent (f x::All (qs.map f)::L) (All ((qs++[x]).map f)::L):=by
  refine Ent.trans (Ent.cons i4) (Ent.trans (gR ?_) gF)
  rw [List.map_append]
  exact (List.perm_append_singleton (f x) (qs.map f)).symm.append_right L
theorem b1h (i:Nat):Ent (All (qs.map f)::L) (All ((qs.eraseIdx i).map f)::L):=by
  by_cases hi:i<qs.length
  · exact Ent.trans (vT i hi) (Ent.drop Ent.refl)
  · rw [List.eraseIdx_of_length_le (om)];exact Ent.refl
end
structure Rds (sz:Nat) (v:Value) (n:Nat) (xs:List Value) (h:PH):Prop where
  len:xs.length=n*sz
  ones:xs.all one=true
  pf:(∃ p c,v= .slice p 0 c∧n=0)∨∃ b o c cur T,v= .slice (some ⟨b,o,none⟩) n c∧h.c b=some (.cells cur T (0,0))∧∀ j u,xs[j]? =some u→cur.toList[o+j]? =some u
section
variable {sz n:Nat} {v:Value} {xs:List Value} {L:List HP}
instance (priority:=high) RdL.rds:RdL (Rds sz v n xs::L) sz v n xs:=
  ⟨fun w ⟨_,_,_,hp,_⟩=>hp.len,fun w ⟨_,_,_,hp,_⟩=>hp.ones,fun w ⟨S,_,_,hp,_⟩=>by
    rcases hp.pf with h|⟨b,o,c,cur,T,h1,h2,h3⟩
    · exact .inl h
    · refine .inr ⟨b,o,c,h1,fun j u hu=>?_⟩
      have hh:w.heap[b]? =some (.cells cur.toList.toArray T (0,0)):=by have h4:=(nN h2).2;simp only [ph] at h4;simpa using h4
      rw [eG hh]
      exact h3 j u hu⟩
theorem b3p {e:TypeId}:Ent (Own e sz v n xs::L) (Rds sz v n xs::L):=fun h ⟨S,T,d,hp,hL⟩=>by
  refine ⟨S,T,d,⟨hp.len,hp.ones,?_⟩,hL⟩
  rcases hp.pf with ⟨p,a,b⟩|⟨g,cap,cur,a,b,c,d1,e1,f⟩
  · exact .inl ⟨p,0,a,b⟩
  · refine .inr ⟨g,0,cap,cur,e,a,b,fun j u hu=>?_⟩
    rw [←f,List.getElem?_take] at hu
    split at hu
    · simpa using hu
    · simp at hu
theorem c5a {p:Option Addr} {c:Nat}:Ent L (Rds sz (.slice p 0 c) 0 []::L):=fun hh H=>by
  refine ⟨fun _=>False,fun _=>True,fun _ a _=>a,⟨by simp,rfl,.inl ⟨p,c,rfl,rfl⟩⟩,?_⟩
  have:res hh (fun _=>True)=hh:=by unfold res;simp
  rw [this];exact H
theorem e1y {l h m:Nat} (h1:l≤h) (h2:h≤n) (h3:h≤m):Ent (Rds sz v n xs::L) (Rds sz (cut v l h m sz) (h-l) ((xs.drop (l*sz)).take ((h-l)*sz))::L):=fun hh ⟨S,T,d,hp,hL⟩=>by
  refine ⟨S,T,d,⟨?_,?_,?_⟩,hL⟩
  · have:=hp.len
    have e:(h-l)*sz+l*sz≤n*sz:=by rw [←Nat.add_mul];exact Nat.mul_le_mul_right _ (om)
    simp;omega
  · have:=hp.ones
    rw [List.all_eq_true] at this ⊢
    exact fun u hu=>this u (List.mem_of_mem_drop (List.mem_of_mem_take hu))
  · by_cases hq:h=l
    · left
      subst hq
      rcases hp.pf with ⟨p,c,rfl,rfl⟩|⟨b,o,c,cur,T,rfl,_⟩<;>exact ⟨_,_,by simp [Sx.cut];exact ⟨rfl,rfl⟩,om⟩
    · rcases hp.pf with ⟨p,c,rfl,rfl⟩|⟨b,o,c,cur,T,rfl,hb,hc⟩
      · omega
      · right
        have hadd:(Addr.add ⟨b,o,none⟩ (l*sz))=⟨b,o+l*sz,none⟩:=by unfold Addr.add;split<;>simp_all
        refine ⟨b,o+l*sz,m-l,cur,T,?_,hb,fun j u hj=>?_⟩
        · simp only [Sx.cut,if_neg (show ¬m=l by omega),Option.map_some,hadd]
        · rw [List.getElem?_take] at hj
          split at hj
          · rw [List.getElem?_drop] at hj
            have:=hc _ _ hj
            rwa [←Nat.add_assoc] at this
          · simp at hj
end
end
end Go.Sx
