/- Arr, Arr2, ArrPl, Str, All, Queue: several of my texts as one. My own work. -/
import Derived.Test.YtjihlpjnebdiiaaGreatZac
import Derived.Laws.BytesString
import Derived.Laws.Strings
set_option linter.unusedVariables false
set_option linter.unusedSectionVars false
set_option linter.unusedSimpArgs false
set_option maxRecDepth 100000
set_option maxHeartbeats 4000000
namespace Go.Sx
open Go Go.Proofs
section
def bC (w:Way):Bool:=decide (w.st≠0)|| w.lk
def oG (line:Int) (w:Way):Bool:=bC w&& decide (w.line=line)
def cT (c:Cfg) (line:Int):Nat:=(nK c line).toNat*c.ways.toNat
def bW (c:Cfg) (l:List Way) (line:Int):List Way:=if aL c line then (l.drop (cT c line)).take c.ways.toNat else []
def cJ (c:Cfg) (l:List Way) (line:Int):Int:=bA (oG line) (bW c l line)
def cZ (c:Cfg) (l:List Way) (line:Int):Int:=bA (fun w=> !bC w) (bW c l line)
def aP (c:Cfg) (l:List Way) (line:Int):Way:=if cJ c l line<0 then .zero else (bW c l line).getD (cJ c l line).toNat .zero
def zS (c:Cfg) (l:List Way) (line:Int):Int:=if cJ c l line<0 then 0 else cJ c l line
def jA (c:Cfg) (l:List Way) (line:Int):Bool:= !decide (cJ c l line<0)
def a6o (c:Cfg) (w:Words):Bool:=decide (0≤bA (fun n=> !decide (n=0)) (w.list.drop c.words.toNat))
def a2d (c:Cfg) (l:List Way) (line way:Int):Int:=if 0≤way∧way<(bW c l line).length then (if cJ c l line= -1 then (if bC ((bW c l line).getD way.toNat .zero) then 4 else 0) else 6) else 1
def kR (c:Cfg) (l:List Way) (line way:Int):List Way:=if a2d c l line way=0 then l.set (cT c line+way.toNat) ⟨0,line,.zero,true⟩ else l
def pE (c:Cfg) (l:List Way) (line st:Int) (w:Words):Int:=if cJ c l line= -1 then 5 else if st<0∨st>4∨a6o c w=true then 1 else 0
def fD (c:Cfg) (l:List Way) (line st:Int) (w:Words):List Way:=if pE c l line st w=0 then l.set (cT c line+(cJ c l line).toNat) { aP c l line with st:=st,words:=if st=0 then .zero else w} else l
def a5d (c:Cfg) (l:List Way) (line:Int):Int:=if cJ c l line= -1 then 5 else 0
def fS (c:Cfg) (l:List Way) (line:Int) (lk:Bool):List Way:=if a5d c l line=0 then l.set (cT c line+(cJ c l line).toNat) { aP c l line with lk:=lk} else l
def pF (c:Cfg) (s k:Int):Bool:=decide (0≤s∧s<c.sets∧0≤k∧k<c.ways)
def oH (c:Cfg) (l:List Way) (s k:Int):Way:=if pF c s k then l.getD (s.toNat*c.ways.toNat+k.toNat) .zero else .zero
def f1e (g o n c:Nat):Value:= .slice (some ⟨g,o,none⟩) n c
theorem sR {g o n c:Nat}:pb (f1e g o n c)=g:=rfl
theorem sS {g o n c:Nat}:po (f1e g o n c)=o:=rfl
def e6o (T TW:TypeId) (b:Nat) (c:Cfg) (l:List Way):HP:=
  Ex fun g:Nat=>[Cells b T (c.cells++[.slice (some ⟨g,0,none⟩) l.length l.length]),Cells g TW (aC b8i l),Fact (aF c=true∧(l.length:Int)=c.sets*c.ways)]
theorem gJ {T TW:TypeId} {b g n:Nat} {c:Cfg} {l:List Way} {xs:List Value} {L M:List HP} (h:Ent L (Cells b T (c.cells++[.slice (some ⟨g,0,none⟩) n n])::Cells g TW xs::M)) (hn:n=l.length) (hx:xs=aC b8i l)
    (hc:aF c=true) (hl:(l.length:Int)=c.sets*c.ways):Ent L (e6o T TW b c l::M):=by
  subst hn hx
  refine Ent.trans h (Ent.trans ?_ (kW (p:=fun g:Nat=>[Cells b T (c.cells++[.slice (some ⟨g,0,none⟩) l.length l.length]),Cells g TW (aC b8i l),Fact (aF c=true∧(l.length:Int)=c.sets*c.ways)]) g))
  exact Ent.cons (Ent.cons (dS ⟨hc,hl⟩))
theorem e0s {T TW:TypeId} {b:Nat} {c:Cfg} {l:List Way} {L:List HP} {w:World} (h:fP (e6o T TW b c l::L) w):∃ g,(aF c=true∧(l.length:Int)=c.sets*c.ways)∧fP (Cells b T (c.cells++[.slice (some ⟨g,0,none⟩) l.length l.length])::Cells g TW (aC b8i l)::L) w:=by
  obtain ⟨g,hx⟩:=kD h
  simp only [pO] at hx
  exact ⟨g,jK (aU (aU hx)),(Ent.cons (Ent.cons (Ent.drop Ent.refl))) _ hx⟩
section
variable {T TW:TypeId} {b:Nat} {c:Cfg} {l:List Way} {P:Program} {N:Nat} {env:Env} {L:List HP} {Q:Exit→Act→World→Prop}
theorem sT {co:Code} (h:∀ g,(aF c=true∧(l.length:Int)=c.sets*c.ways)→WC P N co env (Cells b T (c.cells++[.slice (some ⟨g,0,none⟩) l.length l.length])::Cells g TW (aC b8i l)::L) Q):WC P N co env (e6o T TW b c l::L) Q:=by
  intro a w ha hw
  obtain ⟨g,hf,hx⟩:=e0s hw
  exact h g hf a w ha hx
end
theorem a9m {s W S:Nat} (h:s<S):s*W+W≤S*W:=by
  have:=Nat.mul_le_mul_right W (show s+1≤S by omega)
  rw [Nat.succ_mul] at this;exact this
theorem sU {c:Cfg} {n:Nat} (hc:aF c=true) (hn:(n:Int)=c.sets*c.ways):n=c.sets.toNat*c.ways.toNat∧1≤c.ways∧c.ways≤8∧1≤c.sets∧c.sets≤64∧n≤512:=by
  obtain ⟨_,_,⟨k,hk,e⟩,_,_,h1,h2⟩:=bG hc
  have:=s7 hk
  have h3:1≤c.sets∧c.sets≤64:=by rw [e];exact ⟨this.1,by have:=this.2;simpa using this⟩
  have e1:((c.sets.toNat*c.ways.toNat:Nat):Int)=c.sets*c.ways:=by
    rw [Int.natCast_mul,Int.toNat_of_nonneg (om),Int.toNat_of_nonneg (om)]
  have e2:n=c.sets.toNat*c.ways.toNat:=by omega
  have e3:c.sets.toNat*c.ways.toNat≤64*8:=Nat.mul_le_mul (om) (om)
  exact ⟨e2,h1,h2,h3.1,h3.2,om⟩
theorem c5u {c:Cfg} {line:Int} (h:aL c line=true):0≤nK c line∧nK c line<c.sets∧nK c line=line % c.sets∧0≤line∧line<c.lines:=by
  obtain ⟨hc,h0,h1⟩:=b0c h
  obtain ⟨_,_,⟨k,hk,e⟩,_⟩:=bG hc
  have h2:=(s7 hk).1
  have e2:nK c line=line % c.sets:=if_pos h
  rw [e2]
  rw [e]
  exact ⟨Int.emod_nonneg _ (om),Int.emod_lt_of_pos _ (om),rfl,h0,h1⟩
theorem wJ {c:Cfg} {l:List Way} {line:Int} (hc:aF c=true) (hn:(l.length:Int)=c.sets*c.ways) (h:aL c line=true):(bW c l line).length=c.ways.toNat∧cT c line+c.ways.toNat≤l.length:=by
  obtain ⟨e,h1,h2,h3,h4,h5⟩:=sU hc hn
  obtain ⟨s0,s1,_⟩:=c5u h
  have hr:=a9m (s:=(nK c line).toNat) (W:=c.ways.toNat) (S:=c.sets.toNat) (om)
  have:cT c line+c.ways.toNat≤l.length:=by rw [e];exact hr
  refine ⟨?_,this⟩
  unfold bW;rw [if_pos h,List.length_take,List.length_drop];omega
theorem b5b {g T:Nat} {l:List Way} {f k cap:Nat} (hf:f+k≤l.length) (L:List HP):RdL (Cells g T (aC b8i l)::L) 11 (f1e g (f*11) k cap) ((l.drop f).take k).length (aC b8i ((l.drop f).take k)):=by
  have hx:((aC b8i l).drop (f*11)).take (k*11)=aC b8i ((l.drop f).take k):=by
    rw [fV (enc:=b8i) (n:=11) (fun _=>rfl),iU (enc:=b8i) (n:=11) (fun _=>rfl)]
  have hl:(aC b8i l).length=l.length*11:=gV (enc:=b8i) (n:=11) (fun _=>rfl) l
  have kk:=wZ (L:=Cells g T (aC b8i l)::L) (o:=f*11) (m:=k) (c:=cap) (sz:=11) (b:=g) inferInstance (by rw [hl,←Nat.add_mul];exact Nat.mul_le_mul_right _ hf) (by
    rw [hx,List.all_eq_true]
    intro v hv
    obtain ⟨w,_,hw⟩:=List.mem_flatMap.1 hv
    simp [b8i] at hw
    rcases hw with h|h|h|h|h|h|h|h|h|h|h<;>(rw [h];rfl))
  rw [hx] at kk
  have e:((l.drop f).take k).length=k:=by rw [List.length_take,List.length_drop];omega
  rw [e];exact kk
attribute [irreducible] f1e
attribute [local irreducible] Exit.then Exit.inBlock Code.wp WC WO WE WQ V bT vL fP cY eI v8 IntKind.wrap WR Code.rounds WT KO
abbrev a5y:=e6o 220 121
abbrev f1p (b g:Nat) (c:Cfg) (l:List Way):HP:=Cells b 220 (c.cells++[.slice (some ⟨g,0,none⟩) l.length l.length])
theorem a2x {F:List HP} {w:Way}:FnF Tryz.prog 206 [f3w w] [] F (fun r L'=>r= .bool (bC w)∧L'=[]):=by
  refine FnF.mk' Tryz.func206 rfl rfl Tryz.ntmps206 rfl ?_
  by_cases h:w.st=0
  · repeat first|refine gd ?_|intro _
    (apply aA rfl rfl bH;(first|exact oO|exact ⟨by simp [bC,h]<;>omega,rfl⟩);exact jM)
  · repeat first|refine gd ?_|intro _
    (apply aA rfl rfl bH;(first|exact oO|exact ⟨by simp [bC,h]<;>omega,rfl⟩);exact jM)
theorem a6p {F:List HP} {b:Nat} {line:Int} {T:TypeId} {C:List Value→List HP} {w:Way} (k:CellsAt b F T [.int .i64 line] C) :
    FnF Tryz.prog 211 [f3w w,.pointer (some ⟨b,0,none⟩)] [] F (fun r L'=>r= .bool (oG line w)∧L'=[]):=by
  have hT:=fun F=>a2x (F:=F) (w:=w)
  refine FnF.mk' Tryz.func211 rfl rfl Tryz.ntmps211 rfl ?_
  cases h:bC w with
  |true=>
   rw [h] at hT
   repeat first|refine gd ?_|intro _|refine aD @hT ?_
   (apply aA rfl rfl bH;(first|exact oO|exact ⟨by simp [oG,h]<;>omega,rfl⟩);exact jM)
  |false=>
   rw [h] at hT
   repeat first|refine gd ?_|intro _|refine aD @hT ?_
   (apply aA rfl rfl bH;(first|exact oO|exact ⟨by simp [oG,h]<;>omega,rfl⟩);exact jM)
theorem b2l {F:List HP} {w:Way}:FnF Tryz.prog 205 [f3w w] [] F (fun r L'=>r= .bool (!bC w)∧L'=[]):=by
  refine FnF.mk' Tryz.func205 rfl rfl Tryz.ntmps205 rfl ?_
  repeat first|refine gd ?_|intro _|refine aD @a2x ?_
  exact bF
theorem b9j {F:List HP} {b g:Nat} {c:Cfg} {l:List Way} {s:Int} (hc:aF c=true) (hn:(l.length:Int)=c.sets*c.ways) (h0:0≤s) (h1:s<c.sets) :
    FnF Tryz.prog 207 [.pointer (some ⟨b,0,none⟩),.int .i64 s] [f1p b g c l] F (fun r L'=>r=f1e g (s.toNat*c.ways.toNat*11) c.ways.toNat c.ways.toNat∧L'=[f1p b g c l]):=by
  obtain ⟨e,h2,h3,h4,h5,h6⟩:=sU hc hn
  have hr:=a9m (s:=s.toNat) (W:=c.ways.toNat) (S:=c.sets.toNat) (om)
  have hz:s*c.ways=((s.toNat*c.ways.toNat:Nat):Int):=by rw [Int.natCast_mul,Int.toNat_of_nonneg h0,Int.toNat_of_nonneg (om)]
  rw [←e] at hr
  generalize s.toNat*c.ways.toNat=z at *
  refine FnF.mk' Tryz.func207 rfl rfl Tryz.ntmps207 rfl ?_
  repeat first|refine gd ?_|intro _
  (apply aA rfl rfl bH)
  · refine ⟨?_,rfl⟩
    rw [o9 (om)]
    have e1:(s*c.ways).toNat=z:=by omega
    have e2:(s*c.ways+c.ways).toNat-(s*c.ways).toNat=c.ways.toNat:=by omega
    rw [e2,e1,Nat.zero_add]
    unfold f1e;rfl
  · exact aB
theorem a5m {F:List HP} {b g:Nat} {c:Cfg} {l:List Way} {line:Int} (hw:c.wf) (hli:nA line) (hc:aF c=true) (hn:(l.length:Int)=c.sets*c.ways) (h:aL c line=true) :
    FnF Tryz.prog 172 [.pointer (some ⟨b,0,none⟩),.int .i64 line] [f1p b g c l] F (fun r L'=>r=f1e g (cT c line*11) c.ways.toNat c.ways.toNat∧L'=[f1p b g c l]):=by
  have hL:=fun F=>n3 (F:=F) (c:=c) (a:=line) hw hli
  obtain ⟨s0,s1,_⟩:=c5u h
  have hW:=fun F=>b9j (F:=F) (b:=b) (g:=g) (c:=c) (l:=l) (s:=nK c line) hc hn s0 s1
  have e0:t6 c line=0:=if_pos h
  simp only [e0] at hL
  refine FnF.mk' Tryz.func172 rfl rfl Tryz.ntmps172 rfl ?_
  repeat first|refine gd ?_|intro _|refine aD @hL ?_|refine aD @hW ?_
  (apply aA rfl rfl bH;(first|exact oO|exact ⟨by simp [cT]<;>omega,rfl⟩);exact jM)
theorem a2y {F:List HP} {b g:Nat} {c:Cfg} {l:List Way} {line:Int} (hw:c.wf) (hli:nA line) (h:aL c line=false) :
    FnF Tryz.prog 172 [.pointer (some ⟨b,0,none⟩),.int .i64 line] [f1p b g c l] F (fun r L'=>r= .slice none 0 0∧L'=[f1p b g c l]):=by
  have hL:=fun F=>n3 (F:=F) (c:=c) (a:=line) hw hli
  have e0:t6 c line=1:=by unfold t6;rw [h];rfl
  simp only [e0] at hL
  refine FnF.mk' Tryz.func172 rfl rfl Tryz.ntmps172 rfl ?_
  repeat first|refine gd ?_|intro _|refine aD @hL ?_
  exact bF
theorem oD {c:Cfg} {l:List Way} {line:Int} (h:aL c line=false):bW c l line=[]:=by unfold bW;rw [h];rfl
theorem mF {c:Cfg} {l:List Way} {line:Int} (h:aL c line=true):bW c l line=(l.drop (cT c line)).take c.ways.toNat:=if_pos h
theorem tW {F:List HP} {b g:Nat} {c:Cfg} {l:List Way} {line:Int} (hw:c.wf) (hli:nA line) (hc:aF c=true) (hn:(l.length:Int)=c.sets*c.ways) :
    FnF Tryz.prog 171 [.pointer (some ⟨b,0,none⟩),.int .i64 line] [f1p b g c l,Cells g 121 (aC b8i l)] F (fun r L'=>r= .int .i64 (cJ c l line)∧L'=[f1p b g c l,Cells g 121 (aC b8i l)]):=by
  cases h:aL c line with
  |true=>
   obtain ⟨k1,k2⟩:=wJ hc hn h
   have hO:=fun F=>a5m (F:=F) (b:=b) (g:=g) hw hli hc hn h
   have kr:=b5b (g:=g) (T:=121) (cap:=c.ways.toNat) k2
   rw [←mF h,k1] at kr
   haveI:=kr
   have hb:c.ways.toNat≤512:=by have:=(sU hc hn).2.2.2.2.2;omega
   have hI:=fun F (bl:Nat) (C:List Value→List HP) (k1':CellsAt bl F 3 [.int .i64 line] C) (k:RdL F 11 (f1e g (cT c line*11) c.ways.toNat c.ways.toNat) c.ways.toNat (aC b8i (bW c l line)))=>
     kB (F:=F) (v:=f1e g (cT c line*11) c.ways.toNat c.ways.toNat) (l:=bW c l line) (fk:=211) (first:=[]) (cap:=[.pointer (some ⟨bl,0,none⟩)]) (p:=oG line) (by rw [k1];exact k) (om) (fun x _=>a6p k1')
   refine FnF.mk' Tryz.func171 rfl rfl Tryz.ntmps171 rfl ?_
   repeat first|refine gd ?_|intro _|refine aD @hO ?_|refine aD @hI ?_
   (apply aA rfl rfl bH;(first|exact oO|exact ⟨by simp [cJ]<;>omega,rfl⟩);exact jM)
  |false=>
   have hO:=fun F=>a2y (F:=F) (b:=b) (g:=g) (l:=l) hw hli h
   have hI:=fun F (bl:Nat) (C:List Value→List HP) (k1':CellsAt bl F 3 [.int .i64 line] C)=>
     kB (F:=F) (v:= .slice none 0 0) (l:=[]) (fk:=211) (first:=[]) (cap:=[.pointer (some ⟨bl,0,none⟩)]) (p:=oG line) qS (by simp) (fun x _=>a6p k1')
   refine FnF.mk' Tryz.func171 rfl rfl Tryz.ntmps171 rfl ?_
   repeat first|refine gd ?_|intro _|refine aD @hO ?_|refine aD @hI ?_
   (apply aA rfl rfl bH;(first|exact oO|exact ⟨by simp [cJ,oD h]<;>omega,rfl⟩);exact jM)
end
section
section
variable {P:Program} {N:Nat} {t ty:TypeId} {x y:Operand} {env:Env} {L:List HP}
theorem a1f {n bs f i j T g bb o:Nat} {z u:Value} {l:List Way} {w:Way} {cs:List Value} {C:List Value→List HP} {pos:String} {aft:Array Edge} [hZ:TZ P t n z bs]
    (hx:ev env x=some (.pointer (some ⟨bb,o,none⟩))) (hy:ev env y=some u) (hb:bb=g) (ho:o=(f+i)*11+j) (k:CellsAt g L T (aC b8i l) C) (hc:CO u cs) (hn:cs.length=n) (h1:cs.all one=true)
    (hi:f+i<l.length) (hj:j+n≤11) (e:aQ (b8i l[f+i]) j cs=b8i w) :
    KO P N ⟨none,.store t x y,ty,pos,aft,none⟩ env L (a4u env (C (aC b8i (l.set (f+i) w)))):=by
  subst hb ho
  have hl:(aC b8i l).length=l.length*11:=gV (enc:=b8i) (n:=11) (fun _=>rfl) l
  have hle:(f+i)*11+11≤l.length*11:=by have:=Nat.mul_le_mul_right 11 (show f+i+1≤l.length by omega);omega
  have h:=vE (P:=P) (N:=N) (ty:=ty) (pos:=pos) (aft:=aft) (t:=t) hx hy k hc.pf hn h1 (by rw [hl,Nat.ble_eq];omega)
  have es:=dT (enc:=b8i) (n:=11) (fun _=>rfl) l (f+i) hi (j:=j) (cs:=cs) (x:=w) (om) e
  rw [es] at h
  exact h
end
theorem b1h {g T:Nat} {c:Cfg} {l:List Way} {line:Int} (hc:aF c=true) (hn:(l.length:Int)=c.sets*c.ways) (h:aL c line=true) (L:List HP) :
    RdL (Cells g T (aC b8i l)::L) 11 (f1e g (cT c line*11) c.ways.toNat c.ways.toNat) (bW c l line).length (aC b8i (bW c l line)):=by
  obtain ⟨k1,k2⟩:=wJ hc hn h
  have kr:=b5b (g:=g) (T:=T) (cap:=c.ways.toNat) k2
  rw [←mF h] at kr
  exact kr L
theorem nF {c:Cfg} {l:List Way} {line:Int} {i:Nat} (h:aL c line=true) (hi:i<(bW c l line).length):∃ h2:cT c line+i<l.length,(bW c l line)[i]=l[cT c line+i]:=by
  have hi':=hi
  simp only [mF h,List.length_take,List.length_drop] at hi'
  refine ⟨om,?_⟩
  simp only [mF h,List.getElem_take,List.getElem_drop]
theorem a2e {c:Cfg} {l:List Way} {line:Int} (h:0≤cJ c l line):aL c line=true:=by
  cases e:aL c line with
  |true=>rfl
  |false=>
   exfalso
   unfold cJ at h
   rw [oD e] at h
   simp [bA] at h
theorem wL {c:Cfg} {l:List Way} {line:Int} (h:0≤cJ c l line):∃ i:Nat,∃ hi:i<(bW c l line).length,cJ c l line=i∧oG line (bW c l line)[i]=true∧∀ j (hj:j<(bW c l line).length),j<i→oG line (bW c l line)[j]=false:=cR h
theorem p5 (c:Cfg) (l:List Way) (line:Int): -1≤cJ c l line∧cJ c l line<(bW c l line).length:=c4m _ _
theorem c8w (n:Nat):(List.replicate n (b8i .zero)).flatten=aC b8i (List.replicate n .zero):=by
  induction n with
  |zero=>rfl
  |succ n ih=>simp only [List.replicate_succ,List.flatten_cons,aC,List.flatMap_cons];rw [ih]
theorem b4h (l:List Int):(aC ic l).length=l.length:=by
  have:=gV (enc:=ic) (n:=1) (fun _=>rfl) l
  omega
attribute [local irreducible] Exit.then Exit.inBlock Code.wp WC WO WE WQ V bT vL fP cY eI v8 IntKind.wrap WR Code.rounds WT KO
theorem a6q {Q P:Prop} (k:Q) (h:Hid Q→P:=by
  intro k
  first
  |(refine aI ?_;refine uU (id:=4) .true (pl:= .p 1 <| .p 3 <| .r 0 <| .r 2 <| .r 4 <| .p 5 <| .e true [(6,.p 7 <| .e true [(8,.p 9 <| .p 10 <| .done)])]) k.out)):P:=h ⟨k⟩
theorem e0t {F:List HP} {c:Cfg} (hw:c.wf) (hc:aF c=true):FnF Tryz.prog 92 [c.val] [] F (fun r L'=>∃ b,r= .tuple [.pointer (some ⟨b,0,none⟩),.int .i64 0].toArray∧L'=[a5y b c (List.replicate (c.sets*c.ways).toNat .zero)]):=by
  have hC:=fun F=>dK (F:=F) hw
  simp only [eD,hc,if_true] at hC
  obtain ⟨_,_,⟨k,hk,e⟩,_,_,h1,h2⟩:=bG hc
  have hb:=s7 hk
  have h3:1≤c.sets∧c.sets≤64:=by rw [e];exact ⟨hb.1,by have:=hb.2;simpa using this⟩
  have hz:c.sets*c.ways=((c.sets.toNat*c.ways.toNat:Nat):Int):=by rw [Int.natCast_mul,Int.toNat_of_nonneg (om),Int.toNat_of_nonneg (om)]
  have hm:c.sets.toNat*c.ways.toNat≤64*8:=Nat.mul_le_mul (om) (om)
  refine FnF.mk' Tryz.func92 rfl rfl Tryz.ntmps92 rfl ?_
  have h0:0≤c.sets*c.ways∧c.sets*c.ways≤512:=by omega
  repeat first|refine go ?_|intro _|refine a6q ?_|refine dM ?_|refine aD @hC ?_
  apply qW;rfl;exact GIn.none;(apply b4s;rfl;omega;omega;omega;rfl;omega;rfl);refine dG ?_;intro g;(refine ⟨by first|exact After.free|exact After.turns rfl|(refine After.still ?_;exact jM;done),?_⟩)
  repeat first|refine go ?_|intro _|refine a6q ?_|refine dM ?_
  (apply aA rfl rfl bH)
  · exact ⟨_,rfl,rfl⟩
  · refine Ent.trans ?_ (gJ (g:=g) (l:=List.replicate (c.sets*c.ways).toNat .zero) (n:=(c.sets*c.ways).toNat) (xs:=(List.replicate (c.sets*c.ways).toNat (b8i .zero)).flatten) Ent.refl (by simp) (c8w _) hc (by simp;omega))
    change Ent (Cells _ _ (c.cells++[.slice (some ⟨g,0,none⟩) (c.sets*c.ways).toNat (c.sets*c.ways).toNat])::_) _
    exact aB
theorem d2i {F:List HP} {b:Nat} {c:Cfg} {l:List Way} {line:Int} (hw:c.wf) (hli:nA line) :
    FnF Tryz.prog 128 [.pointer (some ⟨b,0,none⟩),.int .i64 line] [a5y b c l] F (fun r L'=>r= .tuple [f3w (aP c l line),.int .i64 (zS c l line),.bool (jA c l line)].toArray∧L'=[a5y b c l]):=by
  refine FnF.mk' Tryz.func128 rfl rfl Tryz.ntmps128 rfl ?_
  refine sT fun g hf=>?_
  obtain ⟨hc,hn⟩:=hf
  have hP:=fun F=>tW (F:=F) (b:=b) (g:=g) hw hli hc hn
  by_cases h:cJ c l line<0
  · have e1:aP c l line= .zero:=if_pos h
    have e2:zS c l line=0:=if_pos h
    have e3:jA c l line=false:=by simp [jA,h]
    rw [e1,e2,e3]
    repeat first|refine gd ?_|intro _|refine aD @hP ?_
    (apply aA rfl rfl bH)
    · exact ⟨rfl,rfl⟩
    · (apply gJ;(focus (exact aB));all_goals exact mZ)
  · have hok:=a2e (by omega:0≤cJ c l line)
    obtain ⟨i,hi,ei,_,_⟩:=wL (by omega:0≤cJ c l line)
    have e1:aP c l line=(bW c l line)[i]:=by unfold aP;rw [if_neg h,ei,Int.toNat_natCast];exact (lI hi).symm
    have e2:zS c l line=i:=by unfold zS;rw [if_neg h,ei]
    have e3:jA c l line=true:=by simp [jA,h]
    rw [e1,e2,e3]
    rw [ei] at hP
    have hO:=fun F=>a5m (F:=F) (b:=b) (g:=g) hw hli hc hn hok
    haveI kr:=b1h (g:=g) (T:=121) hc hn hok
    repeat first|refine gd ?_|intro _|refine aD @hP ?_|refine aD @hO ?_
    (apply aA rfl rfl bH)
    · exact ⟨rfl,rfl⟩
    · (apply gJ;(focus (exact aB));all_goals exact mZ)
theorem d2j {F:List HP} {b:Nat} {c:Cfg} {l:List Way} {line:Int} (hw:c.wf) (hli:nA line) :
    FnF Tryz.prog 160 [.pointer (some ⟨b,0,none⟩),.int .i64 line] [a5y b c l] F (fun r L'=>r= .int .i64 (cZ c l line)∧L'=[a5y b c l]):=by
  refine FnF.mk' Tryz.func160 rfl rfl Tryz.ntmps160 rfl ?_
  refine sT fun g hf=>?_
  obtain ⟨hc,hn⟩:=hf
  cases h:aL c line with
  |true=>
   obtain ⟨k1,k2⟩:=wJ hc hn h
   have hO:=fun F=>a5m (F:=F) (b:=b) (g:=g) hw hli hc hn h
   haveI kr:=b1h (g:=g) (T:=121) hc hn h
   have hb:c.ways.toNat≤512:=by have:=(sU hc hn).2.2.2.2.2;omega
   have hI:=fun F (k:RdL F 11 (f1e g (cT c line*11) c.ways.toNat c.ways.toNat) (bW c l line).length (aC b8i (bW c l line)))=>
     kB (F:=F) (v:=f1e g (cT c line*11) c.ways.toNat c.ways.toNat) (l:=bW c l line) (fk:=205) (first:=[]) (cap:=[]) (p:=fun w=> !bC w) k (om) (fun x _=>b2l)
   repeat first|refine gd ?_|intro _|refine aD @hO ?_|refine aD @hI ?_
   (apply aA rfl rfl bH)
   · exact ⟨rfl,rfl⟩
   · (apply gJ;(focus (exact aB));all_goals exact mZ)
  |false=>
   have hO:=fun F=>a2y (F:=F) (b:=b) (g:=g) (l:=l) hw hli h
   have hI:=fun F=>kB (F:=F) (v:= .slice none 0 0) (l:=[]) (fk:=205) (first:=[]) (cap:=[]) (p:=fun w=> !bC w) qS (by simp) (fun x _=>b2l)
   have e1:cZ c l line= -1:=by unfold cZ;rw [oD h];rfl
   rw [e1]
   repeat first|refine gd ?_|intro _|refine aD @hO ?_|refine aD @hI ?_
   (apply aA rfl rfl bH)
   · exact ⟨rfl,rfl⟩
   · (apply gJ;(focus (exact aB));all_goals exact mZ)
theorem e7n {F:List HP} {b:Nat} {c:Cfg} {l:List Way} {s k:Int} :
    FnF Tryz.prog 164 [.pointer (some ⟨b,0,none⟩),.int .i64 s,.int .i64 k] [a5y b c l] F (fun r L'=>r= .tuple [f3w (oH c l s k),.bool (pF c s k)].toArray∧L'=[a5y b c l]):=by
  refine FnF.mk' Tryz.func164 rfl rfl Tryz.ntmps164 rfl ?_
  refine sT fun g hf=>?_
  obtain ⟨hc,hn⟩:=hf
  cases h:pF c s k with
  |true=>
   have h':=h
   simp only [pF,decide_eq_true_eq] at h'
   obtain ⟨h0,h1,h2,h3⟩:=h'
   obtain ⟨k,rfl⟩:∃ j:Nat,k=j:=⟨k.toNat,om⟩
   obtain ⟨en,h4,h5,h6,h7,h8⟩:=sU hc hn
   have hr:=a9m (s:=s.toNat) (W:=c.ways.toNat) (S:=c.sets.toNat) (om)
   have hW:=fun F=>b9j (F:=F) (b:=b) (g:=g) (c:=c) (l:=l) (s:=s) hc hn h0 h1
   have kr:=b5b (g:=g) (T:=121) (l:=l) (f:=s.toNat*c.ways.toNat) (k:=c.ways.toNat) (cap:=c.ways.toNat) (om)
   have hkl:k<((l.drop (s.toNat*c.ways.toNat)).take c.ways.toNat).length:=by rw [List.length_take,List.length_drop];omega
   have e1:oH c l s k=((l.drop (s.toNat*c.ways.toNat)).take c.ways.toNat)[k]:=by
     unfold oH;rw [if_pos h,Int.toNat_natCast,List.getElem_take,List.getElem_drop]
     exact (lI (by rw [List.length_take,List.length_drop] at hkl;omega)).symm
   rw [e1]
   generalize (l.drop (s.toNat*c.ways.toNat)).take c.ways.toNat=m at *
   haveI:=kr
   repeat first|refine gd ?_|intro _|refine aD @hW ?_
   (apply aA rfl rfl bH)
   · exact ⟨rfl,rfl⟩
   · (apply gJ;(focus (exact aB));all_goals exact mZ)
  |false=>
   have e1:oH c l s k= .zero:=by unfold oH;rw [if_neg (by simp [h])]
   rw [e1]
   simp only [pF,decide_eq_false_iff_not] at h
   repeat' (first|refine gd ?_|intro _|refine nV ?_ ?_|fail)
   all_goals first|(exfalso;omega)|skip
   all_goals (apply aA rfl rfl bH)
   all_goals first|exact ⟨rfl,rfl⟩|(apply gJ;(focus (exact aB));all_goals exact mZ)
theorem e0u {F:List HP} {b:Nat} {c:Cfg} {l:List Way} {line way:Int} (hw:c.wf) (hli:nA line) :
    FnF Tryz.prog 162 [.pointer (some ⟨b,0,none⟩),.int .i64 line,.int .i64 way] [a5y b c l] F (fun r L'=>r= .int .i64 (a2d c l line way)∧L'=[a5y b c (kR c l line way)]):=by
  refine FnF.mk' Tryz.func162 rfl rfl Tryz.ntmps162 rfl ?_
  refine sT fun g hf=>?_
  obtain ⟨hc,hn⟩:=hf
  have hP:=fun F=>tW (F:=F) (b:=b) (g:=g) hw hli hc hn
  cases h:aL c line with
  |false=>
   have hO:=fun F=>a2y (F:=F) (b:=b) (g:=g) (l:=l) hw hli h
   have e1:a2d c l line way=1:=by unfold a2d;rw [oD h,if_neg (by simp only [List.length_nil];omega)]
   have e2:kR c l line way=l:=by unfold kR;rw [e1];rfl
   rw [e1,e2]
   by_cases h0:way<0
   · repeat first|refine gd ?_|intro _|refine aD @hO ?_
     (apply aA rfl rfl bH)
     · exact ⟨rfl,rfl⟩
     · (apply gJ;(focus (exact aB));all_goals exact mZ)
   · repeat first|refine gd ?_|intro _|refine aD @hO ?_
     (apply aA rfl rfl bH)
     · exact ⟨rfl,rfl⟩
     · (apply gJ;(focus (exact aB));all_goals exact mZ)
  |true=>
   have hO:=fun F=>a5m (F:=F) (b:=b) (g:=g) hw hli hc hn h
   haveI kr:=b1h (g:=g) (T:=121) hc hn h
   obtain ⟨k1,k2⟩:=wJ hc hn h
   obtain ⟨_,_,_,_,_,h8⟩:=sU hc hn
   by_cases h0:0≤way∧way<(bW c l line).length
   · obtain ⟨i,rfl⟩:∃ j:Nat,way=j:=⟨way.toNat,om⟩
     have hi:i<(bW c l line).length:=by omega
     obtain ⟨hi2,_⟩:=nF h hi
     have hg:(bW c l line).getD i .zero=(bW c l line)[i]:=(lI hi).symm
     by_cases hp:cJ c l line= -1
     · rw [hp] at hP
       have hT:=fun F=>a2x (F:=F) (w:=(bW c l line)[i])
       cases ht:bC (bW c l line)[i] with
       |true=>
        rw [ht] at hT
        have e1:a2d c l line i=4:=by unfold a2d;rw [if_pos h0,if_pos hp,Int.toNat_natCast,hg,ht];rfl
        have e2:kR c l line i=l:=by unfold kR;rw [e1];rfl
        rw [e1,e2]
        repeat first|refine gd ?_|intro _|refine aD @hO ?_|refine aD @hP ?_|refine aD @hT ?_
        (apply aA rfl rfl bH)
        · exact ⟨rfl,rfl⟩
        · (apply gJ;(focus (exact aB));all_goals exact mZ)
       |false=>
        rw [ht] at hT
        have e1:a2d c l line i=0:=by unfold a2d;rw [if_pos h0,if_pos hp,Int.toNat_natCast,hg,ht];rfl
        have e2:kR c l line i=l.set (cT c line+i) ⟨0,line,.zero,true⟩:=by unfold kR;rw [e1,Int.toNat_natCast];rfl
        rw [e1,e2]
        repeat first|refine gd ?_|intro _|refine aD @hO ?_|refine aD @hP ?_|refine aD @hT ?_
        apply xG;rfl;(refine a1f (f:=cT c line) (i:=i) (j:=0) (w:=⟨0,line,.zero,true⟩) (by rfl) (by rfl) (by exact sR) (by rw [sS,Nat.add_mul]<;>rfl) (by exact inferInstance) (by exact inferInstance) (by rfl) (by rfl) hi2 (by decide) (by rfl));refine aM ?_
        repeat first|refine gd ?_|intro _
        (apply aA rfl rfl bH)
        · exact ⟨rfl,rfl⟩
        · (apply gJ;(focus (exact aB));all_goals exact mZ)
     · have e1:a2d c l line i=6:=by unfold a2d;rw [if_pos h0,if_neg hp]
       have e2:kR c l line i=l:=by unfold kR;rw [e1];rfl
       rw [e1,e2]
       repeat first|refine gd ?_|intro _|refine aD @hO ?_|refine aD @hP ?_
       (apply aA rfl rfl bH)
       · exact ⟨rfl,rfl⟩
       · (apply gJ;(focus (exact aB));all_goals exact mZ)
   · have e1:a2d c l line way=1:=if_neg h0
     have e2:kR c l line way=l:=by unfold kR;rw [e1];rfl
     rw [e1,e2]
     by_cases h0':way<0
     · repeat first|refine gd ?_|intro _|refine aD @hO ?_
       (apply aA rfl rfl bH)
       · exact ⟨rfl,rfl⟩
       · (apply gJ;(focus (exact aB));all_goals exact mZ)
     · repeat first|refine gd ?_|intro _|refine aD @hO ?_
       (apply aA rfl rfl bH)
       · exact ⟨rfl,rfl⟩
       · (apply gJ;(focus (exact aB));all_goals exact mZ)
theorem b9k {F:List HP} {b:Nat} {c:Cfg} {l:List Way} {line:Int} {lk:Bool} (hw:c.wf) (hli:nA line) :
    FnF Tryz.prog 155 [.pointer (some ⟨b,0,none⟩),.int .i64 line,.bool lk] [a5y b c l] F (fun r L'=>r= .int .i64 (a5d c l line)∧L'=[a5y b c (fS c l line lk)]):=by
  refine FnF.mk' Tryz.func155 rfl rfl Tryz.ntmps155 rfl ?_
  refine sT fun g hf=>?_
  obtain ⟨hc,hn⟩:=hf
  have hP:=fun F=>tW (F:=F) (b:=b) (g:=g) hw hli hc hn
  by_cases hp:cJ c l line= -1
  · rw [hp] at hP
    have e1:a5d c l line=5:=if_pos hp
    have e2:fS c l line lk=l:=by unfold fS;rw [e1];rfl
    rw [e1,e2]
    repeat first|refine gd ?_|intro _|refine aD @hP ?_
    (apply aA rfl rfl bH)
    · exact ⟨rfl,rfl⟩
    · (apply gJ;(focus (exact aB));all_goals exact mZ)
  · have h0:0≤cJ c l line:=by have:=(p5 c l line).1;omega
    have hok:=a2e h0
    obtain ⟨i,hi,ei,_,_⟩:=wL h0
    obtain ⟨hi2,eg⟩:=nF hok hi
    have e1:a5d c l line=0:=if_neg hp
    have ew:aP c l line=l[cT c line+i]:=by unfold aP;rw [if_neg (om),ei,Int.toNat_natCast,←eg];exact (lI hi).symm
    have e2:fS c l line lk=l.set (cT c line+i) { l[cT c line+i] with lk:=lk}:=by unfold fS;rw [e1,ei,Int.toNat_natCast,ew];rfl
    rw [e1,e2]
    rw [ei] at hP
    have hO:=fun F=>a5m (F:=F) (b:=b) (g:=g) hw hli hc hn hok
    haveI kr:=b1h (g:=g) (T:=121) hc hn hok
    repeat first|refine gd ?_|intro _|refine aD @hP ?_|refine aD @hO ?_
    apply xG;rfl;(refine a1f (f:=cT c line) (i:=i) (j:=10) (w:={ l[cT c line+i] with lk:=lk}) (by rfl) (by rfl) (by exact sR) (by rw [sS,Nat.add_mul]<;>rfl) (by exact inferInstance) (by exact inferInstance) (by rfl) (by rfl) hi2 (by decide) (by rfl));refine aM ?_
    repeat first|refine gd ?_|intro _
    (apply aA rfl rfl bH)
    · exact ⟨rfl,rfl⟩
    · (apply gJ;(focus (exact aB));all_goals exact mZ)
theorem d2k {F:List HP} {n:Int}:FnF Tryz.prog 235 [.int .i64 n] [] F (fun r L'=>r= .bool (!decide (n=0))∧L'=[]):=by
  refine FnF.mk' Tryz.func235 rfl rfl Tryz.ntmps235 rfl ?_
  by_cases h:n=0
  · repeat first|refine gd ?_|intro _
    (apply aA rfl rfl bH;(first|exact oO|exact ⟨by simp [h]<;>omega,rfl⟩);exact jM)
  · repeat first|refine gd ?_|intro _
    (apply aA rfl rfl bH;(first|exact oO|exact ⟨by simp [h]<;>omega,rfl⟩);exact jM)
theorem e0v {b T:Nat} {w:Words} {k:Nat} {F:List HP} {C:List Value→List HP} (hk:k≤8) (h:CellsAt b F T (wc w) C):RdL F 1 (cut (.slice (some ⟨b,0,none⟩) 8 8) k 8 8 1) (w.list.drop k).length (aC ic (w.list.drop k)):=by
  have k0:RdL F 1 (.slice (some ⟨b,0,none⟩) 8 8) 8 (wc w):=wZ (o:=0) (m:=8) (c:=8) (sz:=1) (b:=b) h (by simp) (by rfl)
  have k1:=RdL.cut (l:=k) (h:=8) (m:=8) k0 hk (Nat.le_refl _) (Nat.le_refl _)
  have e1:(w.list.drop k).length=8-k:=by rw [List.length_drop];rfl
  have e2:((wc w).drop (k*1)).take ((8-k)*1)=aC ic (w.list.drop k):=by
    have h0:wc w=aC ic w.list:=rfl
    rw [h0,Nat.mul_one,Nat.mul_one]
    have:=fV (enc:=ic) (n:=1) (fun _=>rfl) w.list k
    rw [Nat.mul_one] at this
    rw [this,List.take_of_length_le (by rw [b4h,e1];exact Nat.le_refl _)]
  rw [e2] at k1
  rw [e1];exact k1
theorem e0w {F:List HP} {b g:Nat} {c:Cfg} {l:List Way} {w:Words} (hc:aF c=true) :
    FnF Tryz.prog 209 [.pointer (some ⟨b,0,none⟩),wv w] [f1p b g c l] F (fun r L'=>r= .bool (a6o c w)∧L'=[f1p b g c l]):=by
  obtain ⟨_,_,_,⟨k,hk,e⟩,_⟩:=bG hc
  have hb:=s7 hk
  have hwd:1≤c.words∧c.words≤8:=by rw [e];exact ⟨hb.1,by have:=hb.2;simpa using this⟩
  have hI:=fun F bw C (k:CellsAt bw F 97 (wc w) C)=>xB (F:=F) (v:=cut (.slice (some ⟨bw,0,none⟩) 8 8) c.words.toNat 8 8 1) (l:=w.list.drop c.words.toNat) (fk:=235) (first:=[]) (cap:=[]) (p:=fun n=> !decide (n=0)) (e0v (om) k) (by rw [List.length_drop];have:=Words.list_len w;omega) (fun x _=>d2k)
  refine FnF.mk' Tryz.func209 rfl rfl Tryz.ntmps209 rfl ?_
  repeat first|refine gd ?_|intro _|refine aD @hI ?_
  (apply aA rfl rfl bH;(first|exact oO|exact ⟨by simp [a6o]<;>omega,rfl⟩);exact jM)
theorem dI {Q P:Prop} (k:Q) (h:Hid Q→P:=by
  intro k
  first
  |(refine aI ?_;apply pV (id:=9) .true [] (pl:= .p 0 <| .p 1 <| .p 2 <| .p 4 <| .p 5 <| .e true [(3,.e true [(6,.p 7 <| .p 8 <| .e false [(9,.done)])]),(6,.e false [(3,.p 7 <| .p 8 <| .e false [(9,.done)])])]);exact sD;kernel_rfl;kernel_rfl;exact Ent.nil;exact k.out)):P:=h ⟨k⟩
theorem yC {F:List HP} {b:Nat} {c:Cfg} {l:List Way} {line st:Int} {w:Words} (hw:c.wf) (hli:nA line) :
    FnF Tryz.prog 167 [.pointer (some ⟨b,0,none⟩),.int .i64 line,.int .i64 st,wv w] [a5y b c l] F (fun r L'=>r= .int .i64 (pE c l line st w)∧L'=[a5y b c (fD c l line st w)]):=by
  refine FnF.mk' Tryz.func167 rfl rfl Tryz.ntmps167 rfl ?_
  refine sT fun g hf=>?_
  obtain ⟨hc,hn⟩:=hf
  have hP:=fun F=>tW (F:=F) (b:=b) (g:=g) hw hli hc hn
  have hOd:=fun F=>e0w (F:=F) (b:=b) (g:=g) (l:=l) (w:=w) hc
  by_cases hp:cJ c l line= -1
  · rw [hp] at hP
    have e1:pE c l line st w=5:=if_pos hp
    have e2:fD c l line st w=l:=by unfold fD;rw [e1];rfl
    rw [e1,e2]
    repeat first|refine go ?_|intro _|refine dI ?_|refine dM ?_|refine aD @hP ?_
    (apply aA rfl rfl bH)
    · exact ⟨rfl,rfl⟩
    · (apply gJ;(focus (exact aB));all_goals exact mZ)
  · have h0:0≤cJ c l line:=by have:=(p5 c l line).1;omega
    have hok:=a2e h0
    obtain ⟨i,hi,ei,_,_⟩:=wL h0
    obtain ⟨hi2,eg⟩:=nF hok hi
    have ew:aP c l line=l[cT c line+i]:=by unfold aP;rw [if_neg (om),ei,Int.toNat_natCast,←eg];exact (lI hi).symm
    rw [ei] at hP
    have hO:=fun F=>a5m (F:=F) (b:=b) (g:=g) hw hli hc hn hok
    haveI kr:=b1h (g:=g) (T:=121) hc hn hok
    by_cases hs:st<0∨st>4
    · have e1:pE c l line st w=1:=by unfold pE;rw [if_neg hp,if_pos (om)]
      have e2:fD c l line st w=l:=by unfold fD;rw [e1];rfl
      rw [e1,e2]
      by_cases hs0:st<0
      · repeat first|refine go ?_|intro _|refine dI ?_|refine dM ?_|refine aD @hP ?_
        (apply aA rfl rfl bH)
        · exact ⟨rfl,rfl⟩
        · (apply gJ;(focus (exact aB));all_goals exact mZ)
      · repeat first|refine go ?_|intro _|refine dI ?_|refine dM ?_|refine aD @hP ?_
        (apply aA rfl rfl bH)
        · exact ⟨rfl,rfl⟩
        · (apply gJ;(focus (exact aB));all_goals exact mZ)
    · cases ho:a6o c w with
      |true=>
       rw [ho] at hOd
       have e1:pE c l line st w=1:=by unfold pE;rw [if_neg hp,if_pos (.inr (.inr ho))]
       have e2:fD c l line st w=l:=by unfold fD;rw [e1];rfl
       rw [e1,e2]
       repeat first|refine go ?_|intro _|refine dI ?_|refine dM ?_|refine aD @hP ?_|refine aD @hOd ?_
       (apply aA rfl rfl bH)
       · exact ⟨rfl,rfl⟩
       · (apply gJ;(focus (exact aB));all_goals exact mZ)
      |false=>
       rw [ho] at hOd
       have e1:pE c l line st w=0:=by unfold pE;rw [if_neg hp,if_neg (by rw [ho];simp;omega)]
       by_cases hz:st=0
       · have e2:fD c l line st w=l.set (cT c line+i) { l[cT c line+i] with st:=st,words:= .zero}:=by unfold fD;rw [e1,ei,Int.toNat_natCast,ew,if_pos hz];rfl
         rw [e1,e2]
         repeat' (first|refine go ?_|intro _|refine dI ?_|refine dM ?_|refine aD @hP ?_|refine aD @hOd ?_|refine aD @hO ?_|refine nV ?_ ?_|fail)
         · apply qW;rfl;exact GIn.none;(refine a1f (l:=l) (f:=cT c line) (i:=i) (j:=0) (w:={ l[cT c line+i] with st:=st}) (by rfl) (by rfl) (by exact sR) (by rw [sS,Nat.add_mul]<;>rfl) (by exact inferInstance) (by exact inferInstance) (by rfl) (by rfl) hi2 (by decide) (by rfl));refine aM ?_;(refine ⟨by first|exact After.free|exact After.turns rfl|(refine After.still ?_;exact jM;done),?_⟩)
           repeat first|refine go ?_|intro _|refine dI ?_|refine dM ?_
           apply qW;rfl;exact GIn.none;(refine a1f (l:=l.set (cT c line+i) { l[cT c line+i] with st:=st}) (f:=cT c line) (i:=i) (j:=2) (w:={ l[cT c line+i] with st:=st,words:= .zero}) (by rfl) (by rfl) (by exact sR) (by rw [sS,Nat.add_mul]<;>rfl) (by exact inferInstance) (by exact inferInstance) (by rfl) (by rfl) (by rw [List.length_set];exact hi2) (by decide) (by rw [List.getElem_set_self];rfl));refine aM ?_;(refine ⟨by first|exact After.free|exact After.turns rfl|(refine After.still ?_;exact jM;done),?_⟩)
           repeat first|refine go ?_|intro _|refine dI ?_|refine dM ?_
           rw [List.set_set]
           (apply aA rfl rfl bH)
           · exact ⟨rfl,rfl⟩
           · (apply gJ;(focus (exact aB));all_goals exact mZ)
         · apply qW;rfl;exact GIn.none;(refine a1f (l:=l) (f:=cT c line) (i:=i) (j:=0) (w:={ l[cT c line+i] with st:=st}) (by rfl) (by rfl) (by exact sR) (by rw [sS,Nat.add_mul]<;>rfl) (by exact inferInstance) (by exact inferInstance) (by rfl) (by rfl) hi2 (by decide) (by rfl));refine aM ?_;(refine ⟨by first|exact After.free|exact After.turns rfl|(refine After.still ?_;exact jM;done),?_⟩)
           repeat first|refine go ?_|intro _|refine dI ?_|refine dM ?_
           apply qW;rfl;exact GIn.none;(refine a1f (l:=l.set (cT c line+i) { l[cT c line+i] with st:=st}) (f:=cT c line) (i:=i) (j:=2) (w:={ l[cT c line+i] with st:=st,words:= .zero}) (by rfl) (by rfl) (by exact sR) (by rw [sS,Nat.add_mul]<;>rfl) (by exact inferInstance) (by exact inferInstance) (by rfl) (by rfl) (by rw [List.length_set];exact hi2) (by decide) (by rw [List.getElem_set_self];rfl));refine aM ?_;(refine ⟨by first|exact After.free|exact After.turns rfl|(refine After.still ?_;exact jM;done),?_⟩)
           repeat first|refine go ?_|intro _|refine dI ?_|refine dM ?_
           rw [List.set_set]
           (apply aA rfl rfl bH)
           · exact ⟨rfl,rfl⟩
           · (apply gJ;(focus (exact aB));all_goals exact mZ)
       · have e2:fD c l line st w=l.set (cT c line+i) { l[cT c line+i] with st:=st,words:=w}:=by unfold fD;rw [e1,ei,Int.toNat_natCast,ew,if_neg hz];rfl
         rw [e1,e2]
         repeat' (first|refine go ?_|intro _|refine dI ?_|refine dM ?_|refine aD @hP ?_|refine aD @hOd ?_|refine aD @hO ?_|refine nV ?_ ?_|fail)
         · apply qW;rfl;exact GIn.none;(refine a1f (l:=l) (f:=cT c line) (i:=i) (j:=0) (w:={ l[cT c line+i] with st:=st}) (by rfl) (by rfl) (by exact sR) (by rw [sS,Nat.add_mul]<;>rfl) (by exact inferInstance) (by exact inferInstance) (by rfl) (by rfl) hi2 (by decide) (by rfl));refine aM ?_;(refine ⟨by first|exact After.free|exact After.turns rfl|(refine After.still ?_;exact jM;done),?_⟩)
           repeat first|refine go ?_|intro _|refine dI ?_|refine dM ?_
           apply qW;rfl;exact GIn.none;(refine a1f (l:=l.set (cT c line+i) { l[cT c line+i] with st:=st}) (f:=cT c line) (i:=i) (j:=2) (w:={ l[cT c line+i] with st:=st,words:=w}) (by rfl) (by rfl) (by exact sR) (by rw [sS,Nat.add_mul]<;>rfl) (by exact inferInstance) (by exact inferInstance) (by rfl) (by rfl) (by rw [List.length_set];exact hi2) (by decide) (by rw [List.getElem_set_self];rfl));refine aM ?_;(refine ⟨by first|exact After.free|exact After.turns rfl|(refine After.still ?_;exact jM;done),?_⟩)
           repeat first|refine go ?_|intro _|refine dI ?_|refine dM ?_
           rw [List.set_set]
           (apply aA rfl rfl bH)
           · exact ⟨rfl,rfl⟩
           · (apply gJ;(focus (exact aB));all_goals exact mZ)
         · apply qW;rfl;exact GIn.none;(refine a1f (l:=l) (f:=cT c line) (i:=i) (j:=0) (w:={ l[cT c line+i] with st:=st}) (by rfl) (by rfl) (by exact sR) (by rw [sS,Nat.add_mul]<;>rfl) (by exact inferInstance) (by exact inferInstance) (by rfl) (by rfl) hi2 (by decide) (by rfl));refine aM ?_;(refine ⟨by first|exact After.free|exact After.turns rfl|(refine After.still ?_;exact jM;done),?_⟩)
           repeat first|refine go ?_|intro _|refine dI ?_|refine dM ?_
           apply qW;rfl;exact GIn.none;(refine a1f (l:=l.set (cT c line+i) { l[cT c line+i] with st:=st}) (f:=cT c line) (i:=i) (j:=2) (w:={ l[cT c line+i] with st:=st,words:=w}) (by rfl) (by rfl) (by exact sR) (by rw [sS,Nat.add_mul]<;>rfl) (by exact inferInstance) (by exact inferInstance) (by rfl) (by rfl) (by rw [List.length_set];exact hi2) (by decide) (by rw [List.getElem_set_self];rfl));refine aM ?_;(refine ⟨by first|exact After.free|exact After.turns rfl|(refine After.still ?_;exact jM;done),?_⟩)
           repeat first|refine go ?_|intro _|refine dI ?_|refine dM ?_
           rw [List.set_set]
           (apply aA rfl rfl bH)
           · exact ⟨rfl,rfl⟩
           · (apply gJ;(focus (exact aB));all_goals exact mZ)
end
section
def cF (c:Cfg) (l:List Way):Prop:=
  ∀ i (h:i<l.length),bC l[i]=true→aL c l[i].line=true∧cT c l[i].line≤i∧i<cT c l[i].line+c.ways.toNat∧∀ j (hj:j<l.length),bC l[j]=true→l[j].line=l[i].line→j=i
theorem kS {line:Int} {w:Way}:oG line w=true↔bC w=true∧w.line=line:=by simp [oG]
theorem p6 {c:Cfg} {l:List Way} {line:Int} {i:Nat} (hi:cJ c l line=i):∃ h:cT c line+i<l.length,aL c line=true∧oG line l[cT c line+i]=true∧i<c.ways.toNat:=by
  obtain ⟨k,hk,e,h1,_⟩:=wL (by omega:0≤cJ c l line)
  have hki:k=i:=by omega
  subst hki
  have hok:=a2e (by omega:0≤cJ c l line)
  obtain ⟨h2,e2⟩:=nF hok hk
  refine ⟨h2,hok,e2▸h1,?_⟩
  rw [mF hok,List.length_take] at hk
  omega
theorem c5v {c:Cfg} {l:List Way} {line:Int} (h:cJ c l line<0):∀ i,i<c.ways.toNat→aL c line=true→∀ h:cT c line+i<l.length,oG line l[cT c line+i]=false:=by
  intro i hi hok hl
  have h2:=(dL (by unfold cJ at h;omega:¬0≤bA (oG line) (bW c l line))).2
  have hk:i<(bW c l line).length:=by rw [mF hok,List.length_take,List.length_drop];omega
  have:=h2 _ (List.getElem_mem hk)
  obtain ⟨_,e2⟩:=nF hok hk
  rw [e2] at this;exact this
theorem c1z (c:Cfg) (n:Nat):cF c (List.replicate n .zero):=by
  intro i h ht
  rw [List.getElem_replicate] at ht
  cases ht
theorem a3w {c:Cfg} {l:List Way} {k:Nat} {w:Way} (hI:cF c l) (hk:k<l.length) (h:bC w=true→aL c w.line=true∧cT c w.line≤k∧k<cT c w.line+c.ways.toNat∧∀ j (hj:j<l.length),bC l[j]=true→l[j].line=w.line→j=k):cF c (l.set k w):=by
  intro i hi ht
  rw [List.length_set] at hi
  by_cases e:k=i
  · subst e
    rw [List.getElem_set_self] at ht ⊢
    obtain ⟨h1,h2,h3,h4⟩:=h ht
    refine ⟨h1,h2,h3,fun j hj htj hlj=>?_⟩
    rw [List.length_set] at hj
    by_cases e2:k=j
    · exact e2.symm
    · rw [List.getElem_set_ne e2] at htj hlj
      exact h4 j hj htj hlj
  · rw [List.getElem_set_ne e] at ht ⊢
    obtain ⟨h1,h2,h3,h4⟩:=hI i hi ht
    refine ⟨h1,h2,h3,fun j hj htj hlj=>?_⟩
    rw [List.length_set] at hj
    by_cases e2:k=j
    · subst e2
      rw [List.getElem_set_self] at htj hlj
      exact ((h htj).2.2.2 i hi ht hlj.symm).symm
    · rw [List.getElem_set_ne e2] at htj hlj
      exact h4 j hj htj hlj
theorem kT {c:Cfg} {l:List Way} {line:Int} {i:Nat} (hi:cJ c l line=i) (h2:cT c line+i<l.length):aP c l line=l[cT c line+i]:=by
  obtain ⟨k,hk,e,_,_⟩:=wL (by omega:0≤cJ c l line)
  have hki:k=i:=by omega
  subst hki
  have hok:=a2e (by omega:0≤cJ c l line)
  obtain ⟨_,e2⟩:=nF hok hk
  unfold aP;rw [if_neg (om),hi,Int.toNat_natCast,←e2];exact (lI hk).symm
theorem a9n {c:Cfg} {l:List Way} {line way:Int} (hI:cF c l):cF c (kR c l line way):=by
  unfold kR
  split
  · rename_i h
    unfold a2d at h
    split at h
    · rename_i h0
      split at h
      · rename_i hp
        have hok:aL c line=true:=by
          cases e:aL c line with
          |true=>rfl
          |false=>rw [oD e] at h0;simp at h0;omega
        obtain ⟨k,hk⟩:∃ k:Nat,way=k:=⟨way.toNat,om⟩
        subst hk
        obtain ⟨h2,_⟩:=nF hok (show k<(bW c l line).length by omega)
        have hkw:k<c.ways.toNat:=by have:=h0.2;rw [mF hok,List.length_take] at this;omega
        rw [Int.toNat_natCast]
        refine a3w hI h2 fun _=>⟨hok,by dsimp only;omega,by dsimp only;omega,fun j hj ht hl=>?_⟩
        exfalso
        dsimp only at hl
        obtain ⟨a1,a2,a3,_⟩:=hI j hj ht
        rw [hl] at a1 a2 a3
        have:=c5v (by omega:cJ c l line<0) (j-cT c line) (om) a1 (om)
        simp only [show cT c line+(j-cT c line)=j by omega] at this
        rw [kS.2 ⟨ht,hl⟩] at this;cases this
      · cases h
    · cases h
  · exact hI
theorem a1g {c:Cfg} {l:List Way} {line:Int} {w:Way} (hI:cF c l) (hp:¬cJ c l line= -1) (hl:w.line=(aP c l line).line):cF c (l.set (cT c line+(cJ c l line).toNat) w):=by
  have h0:0≤cJ c l line:=by have:=(p5 c l line).1;omega
  obtain ⟨i,hi⟩:∃ i:Nat,cJ c l line=i:=⟨(cJ c l line).toNat,om⟩
  obtain ⟨h2,hok,h3,h4⟩:=p6 hi
  have hf:=kT hi h2
  rw [hi,Int.toNat_natCast]
  obtain ⟨g1,g2⟩:=kS.1 h3
  have hinv:=hI _ h2 g1
  refine a3w hI h2 fun _=>?_
  have e:w.line=l[cT c line+i].line:=by rw [hl,hf]
  rw [e]
  exact hinv
theorem wP {c:Cfg} {l:List Way} {line st:Int} {w:Words} (hI:cF c l):cF c (fD c l line st w):=by
  unfold fD
  split
  · rename_i h
    refine a1g hI (fun hp=>?_) rfl
    unfold pE at h;rw [if_pos hp] at h;cases h
  · exact hI
theorem b2m {c:Cfg} {l:List Way} {line:Int} {lk:Bool} (hI:cF c l):cF c (fS c l line lk):=by
  unfold fS
  split
  · rename_i h
    refine a1g hI (fun hp=>?_) rfl
    unfold a5d at h;rw [if_pos hp] at h;cases h
  · exact hI
theorem b9l {c:Cfg} {l:List Way} {line way:Int}:(kR c l line way).length=l.length:=by unfold kR;split<;>simp
theorem wQ {c:Cfg} {l:List Way} {line st:Int} {w:Words}:(fD c l line st w).length=l.length:=by unfold fD;split<;>simp
theorem b2n {c:Cfg} {l:List Way} {line:Int} {lk:Bool}:(fS c l line lk).length=l.length:=by unfold fS;split<;>simp
end
section
open Go
def f1g (ns:List Int):ByteArray:=ns.foldl (fun r n=>r.push (UInt8.ofNat n.toNat)) ByteArray.empty
def f5o (s:ByteArray) (n:Nat):Int:=match s.data.toList[n]? with|some b=>(b.toNat:Int)|none=>0
abbrev f5s (n:Int):List Value:=[.int .u8 n]
section
variable {P:Program} {N:Nat} {t ty xt yt:TypeId} {x y:Operand} {env:Env} {L:List HP}
theorem jU {k:IntKind} {i:Int} {s:ByteArray} [hT:TU P t .string] (hx:ev env x=some (.string s)) (hy:ev env y=some (.int k i)) (h0:0≤i) (h1:i<(s.size:Int)) :
    V P N (.index t x y) ty env L (.int .u8 (f5o s i.toNat)):=by
  intro a w ha _
  have h2:i.toNat<s.size:=by omega
  have h3:s[i.toNat]? =some s[i.toNat]:=getElem?_pos s _ h2
  have h4:f5o s i.toNat=((s[i.toNat]).toNat:Int):=by
    unfold f5o
    rw [Array.getElem?_toList,Array.getElem?_eq_getElem (by simpa using h2)]
    rfl
  simp only [execOp,ha.ev hx,ha.ev hy,Instr.index,asIntOf,aE hT.pf,Sem.run_bind,Sem.run_pure,Result.andThen_ok,if_pos h0,h3,h4]
theorem oI {a b:ByteArray} (hx:ev env x=some (.string a)) (hy:ev env y=some (.string b)):V P N (.binOp .eql xt x y yt) ty env L (.bool (decide (a=b))):=by
  intro f w ha _
  have e:(eqGuard .eql xt x y (.string a) (.string b)).run P w= .ok () w:=by unfold eqGuard;simp
  have hb:(a.toList == b.toList)=decide (a=b):=by
    rw [ByteArray.toList_eq,ByteArray.toList_eq,Bool.eq_iff_iff,beq_iff_eq,decide_eq_true_iff]
    constructor
    · intro h;cases a;cases b;simp only [Array.toList_inj] at h;simp [h]
    · intro h;rw [h]
  simp [execOp,ha.ev hx,ha.ev hy,e,binOp,Op.stringOp,hb]
theorem oJ {a b:ByteArray} (hx:ev env x=some (.string a)) (hy:ev env y=some (.string b)):V P N (.binOp .neq xt x y yt) ty env L (.bool (decide (a≠b))):=by
  intro f w ha _
  have e:(eqGuard .neq xt x y (.string a) (.string b)).run P w= .ok () w:=by unfold eqGuard;simp
  have hb:(a.toList == b.toList)=decide (a=b):=by
    rw [ByteArray.toList_eq,ByteArray.toList_eq,Bool.eq_iff_iff,beq_iff_eq,decide_eq_true_iff]
    constructor
    · intro h;cases a;cases b;simp only [Array.toList_inj] at h;simp [h]
    · intro h;rw [h]
  simp [execOp,ha.ev hx,ha.ev hy,e,binOp,Op.stringOp,hb]
theorem jV {lo:Option Operand} {l:Nat} {s:ByteArray} [hT:TU P t .string] (hx:ev env x=some (.string s)) (hl:Bnd env lo 0 l) (h:l≤s.size) :
    V P N (.slice t x lo none none) ty env L (.string (s.extract l s.size)):=by
  intro a w ha hw
  have e1:(Instr.sliceAt t (.string s) (lo.map a.eval) none none).run P w= .ok (.string (s.extract l s.size)) w:=by
    cases hl with
    |none=>simp [Instr.sliceAt,Instr.slice,Instr.sliceBounds,aE hT.pf]
    |some q q0=>simp [Instr.sliceAt,Instr.slice,Instr.sliceBounds,aE hT.pf,ha.ev q,fU q0 h]
  simp [execOp,ha.ev hx,e1]
theorem a2f {src dst e:TypeId} {v:Value} {n:Nat} {xs:List Value} {ns:List Int} [hs:TU P src (.slice e)] [he:TU P e (.int .u8)] [hd:TU P dst .string] (hx:ev env x=some v) (hr:RdL L 1 v n xs) (hn:xs=aC f5s ns) :
    V P N (.convert src dst x) ty env L (.string (f1g ns)):=by
  intro a w ha hw
  have hfl:aC f5s ns=ns.map (Value.int .u8):=by
    clear hn
    induction ns with
    |nil=>rfl
    |cons b r ih=>rw [List.map_cons,←ih];rfl
  have hlen:=hr.len w hw
  have e1:(convert src dst v).run P w= .ok (.string (f1g ns)) w:=by
    rcases hr.pf w hw with ⟨p,c,rfl,rfl⟩|⟨b,o,c,rfl,hc⟩
    · rw [run_convert_bytes_string w src dst e _ _ _ hs.pf he.pf hd.pf]
      have hnil:ns=[]:=by rw [hn,hfl] at hlen;exact List.eq_nil_of_length_eq_zero (by simpa using hlen)
      subst hnil
      cases p with
      |none=>simp [Conv.bytesToString,f1g]
      |some p=>
       rw [run_bytesToString w p 0 c [] (by simp [loadCells,loadCellsFrom])]
       rfl
    · rw [run_convert_bytes_string w src dst e _ _ _ hs.pf he.pf hd.pf]
      rw [run_bytesToString w _ n c ns ?_]
      · rfl
      · rw [←hfl,←hn]
        exact fB (om) hc
  simp [execOp,ha.ev hx,e1]
def d2l:TypeDesc→Bool
  | .interface _=>true
  |_=>false
theorem a2g {d:TypeDesc} {u:Value} [hT:TU P t d] (hx:ev env x=some u) (hd:d2l d=false):V P N (.makeInterface t x) ty env L (.iface t u):=by
  intro a w ha _
  have e1:(Instr.makeInterface t u).run P w= .ok (.iface t u) w:=by
    cases d<;>first|(cases hd;done)|simp [Instr.makeInterface,aE hT.pf]
  simp [execOp,ha.ev hx,e1]
def b6o (want:Array (String×TypeId)) (got:Array Method):List (String×TypeId):=want.toList.filter fun p=> !got.any fun m=>m.name == p.1&& m.sig == p.2
theorem c8x {want:Array (String×TypeId)} {got:Array Method} (h:b6o want got=[]):Instr.missingMethod want got=none:=by
  unfold Instr.missingMethod
  unfold b6o at h
  simp only [h,List.map_nil,List.partition_eq_filter_filter,List.filter_nil]
  rfl
theorem a6r {l:List String} (h:l≠[]):∃ m,Instr.least l=some m:=by
  cases l with
  |nil=>exact absurd rfl h
  |cons a r=>exact ⟨_,rfl⟩
theorem c8y {want:Array (String×TypeId)} {got:Array Method} (h:b6o want got≠[]):∃ m,Instr.missingMethod want got=some m:=by
  unfold Instr.missingMethod
  unfold b6o at h
  simp only [List.partition_eq_filter_filter]
  generalize List.filter (fun p=> !got.any fun m=>m.name == p.1&& m.sig == p.2) want.toList=l at h
  by_cases h1:List.filter (not∘fun x:String=>x.contains '.') (List.map (fun x=>x.1) l)=[]
  · rw [h1]
    have h2:List.filter (fun x:String=>x.contains '.') (List.map (fun x=>x.1) l)≠[]:=fun h2=>by
      cases l with
      |nil=>exact h rfl
      |cons a r=>
       have k1:=List.filter_eq_nil_iff.1 h1 a.1 (by simp)
       have k2:=List.filter_eq_nil_iff.1 h2 a.1 (by simp)
       simp only [Function.comp] at k1
       revert k1 k2
       generalize (a.1.contains '.')=b
       cases b<;>simp
    obtain ⟨m,hm⟩:=a6r (l:=List.map (fun id=>(String.splitOn id ".").getLastD id) (List.filter (fun x:String=>x.contains '.') (List.map (fun x=>x.1) l))) (by simpa using h2)
    exact ⟨m,by rw [hm];rfl⟩
  · obtain ⟨m,hm⟩:=a6r h1
    exact ⟨m,by rw [hm];rfl⟩
def f1h (P:Program) (t at':TypeId):Option Bool:=match P.underlying at',P.info? t with
  |some (.interface want),some i=>some (b6o want i.methods).isEmpty
  |_,_=>none
class Has (P:Program) (t at':TypeId) (b:outParam Bool):Prop where
  pf:f1h P t at'=some b
theorem d7r {t at':TypeId} {b:Bool} (h:f1h P t at'=some b):∃ want i,P.underlying at'=some (.interface want)∧P.info? t=some i∧(b6o want i.methods).isEmpty=b:=by
  unfold f1h at h
  split at h
  · rename_i want i h1 h2
    exact ⟨want,i,h1,h2,by simpa using h⟩
  · cases h
theorem p7 {u:Value} {at':TypeId} (hx:ev env x=some (.iface t u)) (h:Has P t at' true):V P N (.typeAssert x xt at' true) ty env L (.tuple [.iface t u,.bool true].toArray):=by
  obtain ⟨want,i,h1,h2,h3⟩:=d7r h.pf
  intro a w ha _
  have h4:Instr.missingMethod want i.methods=none:=c8x (by simpa using h3)
  simp [execOp,ha.ev hx,Instr.typeAssert,aE h1,typeInfo,h2,h4]
theorem p8 {u z:Value} {at':TypeId} {n bs:Nat} [hZ:TZ P at' n z bs] (hx:ev env x=some (.iface t u)) (h:Has P t at' false):V P N (.typeAssert x xt at' true) ty env L (.tuple [z,.bool false].toArray):=by
  obtain ⟨want,i,h1,h2,h3⟩:=d7r h.pf
  intro a w ha _
  obtain ⟨m,e⟩:=c8y (want:=want) (got:=i.methods) (fun h=>by rw [h] at h3;cases h3)
  simp [execOp,ha.ev hx,Instr.typeAssert,aE h1,typeInfo,h2,e,f8 hZ]
class Meth (P:Program) (t:TypeId) (v:Value) (name:String) (k:outParam FuncId) (r:outParam Value):Prop where
  pf:∀ w,(method (P.types.size+Made.depth) t v name).run P w= .ok (k,r) w
theorem c2a {ρ:Operand→Value} {f:Operand} {args:List Operand} {ats:Array TypeId} {k:FuncId} {tv:TypeId} {v r:Value} {name:String} {vs:List Value} (hf:ρ f= .iface tv v) (hm:Meth P tv v name k r) (ha:r::args.map ρ=vs)
    (he:a1d P k) (w:World):(execOp ρ ⟨none,.call ⟨.invoke f name,args.toArray,ats⟩,ty, "", #[],none⟩).run P w= .ok (.enter k vs.toArray) w:=by
  have e1:(program).run P w= .ok P w:=by simp
  simp only [execOp,resolve,hf,Sem.run_bind,Sem.run_pure,Result.andThen_ok,invoke]
  have e2:((#[Value.iface tv v]++args.toArray.map ρ)[0]? :Option Value)=some (.iface tv v):=by simp
  simp only [e2,callMethod,Sem.run_bind,e1,Result.andThen_ok,hm.pf]
  rw [he]
  congr 2
  apply Array.ext'
  simp only [←ha,Array.toList_append,Array.toList_extract,List.map_toArray]
  simp [List.extract_eq_take_drop]
  exact List.take_of_length_le (by simp)
theorem c5w {recv:Operand} {args:List Operand} {ats:Array TypeId} {k:FuncId} {tv:TypeId} {v r:Value} {name:String} {avs vs:List Value} {pre F:List HP} {post:Value→List HP→Prop}
    {pos:String} {aft:Array Edge} {d:Option Nat}
    (hf:ev env recv=some (.iface tv v)) (hm:Meth P tv v name k r) (ha:evs env args=some avs) (hv:r::avs=vs) (hd:xX N d=true) (C:FnF P k vs pre F post) (hE:PickL pre L F) :
    KO P N ⟨d,.call ⟨.invoke recv name,args.toArray,ats⟩,ty,pos,aft,none⟩ env L (c5n env d F post):=by
  intro a w hA hw K Q next
  unfold Oper.wp
  rw [bQ,c2a (vs:=vs) (hA.ev hf) hm (by rw [hA.evs ha];exact hv) C.enters w]
  refine (C.runs w (hE.pf.sat hw)).mono fun e w' ⟨v,L',he,hp,hs⟩=>?_
  subst he
  exact next _ _ _ w' ⟨v,L',hp,rfl,rfl⟩ (hA.puts hd v) hs
end
set_option maxRecDepth 100000
theorem b6p {Q P:Prop} (k:Q) (h:Hid Q→P:=by
  intro k
  (first|(apply b6d;(first|(apply jU;rfl;rfl;omega;omega)|(apply oI;rfl;rfl)|(apply oJ;rfl;rfl)|(apply jV;rfl;exact f1u;omega)|(apply a2f;rfl;exact inferInstance;(first|rfl|(with_reducible assumption)))|(apply a2g;rfl;rfl)|(apply p7;rfl;exact inferInstance)|(apply p8;rfl;exact inferInstance));rfl)|(apply d2b;rfl;exact b8u;(first|(apply jU;rfl;rfl;omega;omega)|(apply oI;rfl;rfl)|(apply oJ;rfl;rfl)|(apply jV;rfl;exact f1u;omega)|(apply a2f;rfl;exact inferInstance;(first|rfl|(with_reducible assumption)))|(apply a2g;rfl;rfl)|(apply p7;rfl;exact inferInstance)|(apply p8;rfl;exact inferInstance));rfl)|(apply d2c;rfl;exact b8u;(first|(apply jU;rfl;rfl;omega;omega)|(apply oI;rfl;rfl)|(apply oJ;rfl;rfl)|(apply jV;rfl;exact f1u;omega)|(apply a2f;rfl;exact inferInstance;(first|rfl|(with_reducible assumption)))|(apply a2g;rfl;rfl)|(apply p7;rfl;exact inferInstance)|(apply p8;rfl;exact inferInstance));rfl)|(apply d1z;rfl;exact b8u;(first|(apply jU;rfl;rfl;omega;omega)|(apply oI;rfl;rfl)|(apply oJ;rfl;rfl)|(apply jV;rfl;exact f1u;omega)|(apply a2f;rfl;exact inferInstance;(first|rfl|(with_reducible assumption)))|(apply a2g;rfl;rfl)|(apply p7;rfl;exact inferInstance)|(apply p8;rfl;exact inferInstance));rfl)|(apply b2j;(first|(apply jU;rfl;rfl;omega;omega)|(apply oI;rfl;rfl)|(apply oJ;rfl;rfl)|(apply jV;rfl;exact f1u;omega)|(apply a2f;rfl;exact inferInstance;(first|rfl|(with_reducible assumption)))|(apply a2g;rfl;rfl)|(apply p7;rfl;exact inferInstance)|(apply p8;rfl;exact inferInstance));rfl))
  exact k.out):P:=h ⟨k⟩
theorem mX {C Q P:Prop} (c:C) (k:Q) (h:C→Hid Q→P:=by
  intro c k
  first
  |(apply xG;rfl;(focus (apply c5w;rfl;exact inferInstance;rfl;rfl;rfl;apply c;(all_goals (try (focus ((repeat (first|(with_reducible exact a1b)|(apply u6;focus (repeat (first|(with_reducible exact rV)|(apply oX))))));done))));(all_goals (focus (first|(with_reducible assumption)|exact inferInstance|exact s5 inferInstance rfl rfl|(with_reducible rfl)|omega|(unfold nA;omega)|(constructor<;>omega)|decide)))));refine rA ?_;exact k.out)
  |(apply qW;rfl;exact b8u;(focus (apply c5w;rfl;exact inferInstance;rfl;rfl;rfl;apply c;(all_goals (try (focus ((repeat (first|(with_reducible exact a1b)|(apply u6;focus (repeat (first|(with_reducible exact rV)|(apply oX))))));done))));(all_goals (focus (first|(with_reducible assumption)|exact inferInstance|exact s5 inferInstance rfl rfl|(with_reducible rfl)|omega|(unfold nA;omega)|(constructor<;>omega)|decide)))));refine rA ?_;exact k.out)):P:=h c ⟨k⟩
end
section
open Go
theorem c8z {L M:List HP} (p:L.Perm M):∀ h,cY L h→cY M h:=by
  induction p with
  |nil=>exact fun _ h=>h
  |cons x _ ih=>exact fun _ h=>iT ih h
  |swap x y l=>exact fun _ h=>jN h
  |trans _ _ a b=>exact fun h x=>b h (a h x)
theorem iA {L M:List HP} (p:L.Perm M):Ent L M:=c8z p
theorem zT {α:Type}:∀ (l:List α) (i:Nat) (hi:i<l.length),(l[i]::l.eraseIdx i).Perm l
  |a::r,0,_=>List.Perm.refl _
  |a::r,i+1,hi=>(List.Perm.swap _ _ _).trans ((zT r i (by simpa using hi)).cons a)
  | [],i,hi=>by simp at hi
structure All (ps:List HP) (h:PH):Prop where
  pf:cY ps h
theorem kU {ps L:List HP}:Ent (All ps::L) (ps++L):=fun h ⟨S,T,d,hp,hL⟩=>jX d hp.pf hL
theorem iQ {ps L:List HP}:Ent (ps++L) (All ps::L):=fun h H=>by
  obtain ⟨S,T,d,h1,h2⟩:=n5 H
  exact ⟨S,T,d,⟨h1⟩,h2⟩
theorem yD {L:List HP}:Ent L (All []::L):=iQ (ps:=[])
section
variable {α:Type} {f:α→HP} {qs:List α} {L:List HP}
theorem wR (i:Nat) (hi:i<qs.length):Ent (All (qs.map f)::L) (f qs[i]::All ((qs.eraseIdx i).map f)::L):=by
  refine Ent.trans kU (Ent.trans (iA ?_) (Ent.cons iQ))
  have:=(zT qs i hi).map f
  exact (this.symm.append_right L)
theorem b5c (i:Nat) (hi:i<qs.length) (x:α):Ent (f x::All ((qs.eraseIdx i).map f)::L) (All ((qs.set i x).map f)::L):=by
  refine Ent.trans (Ent.cons kU) (Ent.trans (iA ?_) iQ)
  have h2:i<(qs.set i x).length:=by simpa using hi
  have:=(zT (qs.set i x) i h2).map f
  simp only [List.getElem_set_self,List.eraseIdx_set_eq] at this
  exact this.append_right L
theorem d2m (i:Nat) (hi:i<qs.length):Ent (f qs[i]::All ((qs.eraseIdx i).map f)::L) (All (qs.map f)::L):=by
  have:=b5c (f:=f) (L:=L) i hi qs[i]
  simpa using this
theorem a2h (x:α):Ent (f x::All (qs.map f)::L) (All ((qs++[x]).map f)::L):=by
  refine Ent.trans (Ent.cons kU) (Ent.trans (iA ?_) iQ)
  rw [List.map_append]
  exact (List.perm_append_singleton (f x) (qs.map f)).symm.append_right L
theorem b2o (i:Nat):Ent (All (qs.map f)::L) (All ((qs.eraseIdx i).map f)::L):=by
  by_cases hi:i<qs.length
  · exact Ent.trans (wR i hi) (Ent.drop Ent.refl)
  · rw [List.eraseIdx_of_length_le (om)];exact Ent.refl
end
structure Rds (sz:Nat) (v:Value) (n:Nat) (xs:List Value) (h:PH):Prop where
  len:xs.length=n*sz
  ones:xs.all one=true
  pf:(∃ p c,v= .slice p 0 c∧n=0)∨∃ b o c cur T,v= .slice (some ⟨b,o,none⟩) n c∧h.c b=some (.cells cur T (0,0))∧∀ j u,xs[j]? =some u→cur.toList[o+j]? =some u
section
variable {sz n:Nat} {v:Value} {xs:List Value} {L:List HP}
instance (priority:=high) RdL.rds:RdL (Rds sz v n xs::L) sz v n xs:=
  ⟨fun w ⟨_,_,_,hp,_⟩=>hp.len,fun w ⟨_,_,_,hp,_⟩=>hp.ones,fun w ⟨S,_,_,hp,_⟩=>by
    rcases hp.pf with h|⟨b,o,c,cur,T,h1,h2,h3⟩
    · exact .inl h
    · refine .inr ⟨b,o,c,h1,fun j u hu=>?_⟩
      have hh:w.heap[b]? =some (.cells cur.toList.toArray T (0,0)):=by have h4:=(a0a h2).2;simp only [ph] at h4;simpa using h4
      rw [fX hh]
      exact h3 j u hu⟩
theorem b5d {e:TypeId}:Ent (Own e sz v n xs::L) (Rds sz v n xs::L):=fun h ⟨S,T,d,hp,hL⟩=>by
  refine ⟨S,T,d,⟨hp.len,hp.ones,?_⟩,hL⟩
  rcases hp.pf with ⟨p,a,b⟩|⟨g,cap,cur,a,b,c,d1,e1,f⟩
  · exact .inl ⟨p,0,a,b⟩
  · refine .inr ⟨g,0,cap,cur,e,a,b,fun j u hu=>?_⟩
    rw [←f,List.getElem?_take] at hu
    split at hu
    · simpa using hu
    · simp at hu
theorem c5x {p:Option Addr} {c:Nat}:Ent L (Rds sz (.slice p 0 c) 0 []::L):=fun hh H=>by
  refine ⟨fun _=>False,fun _=>True,fun _ a _=>a,⟨by simp,rfl,.inl ⟨p,c,rfl,rfl⟩⟩,?_⟩
  have:res hh (fun _=>True)=hh:=by unfold res;simp
  rw [this];exact H
theorem e0x {l h m:Nat} (h1:l≤h) (h2:h≤n) (h3:h≤m):Ent (Rds sz v n xs::L) (Rds sz (cut v l h m sz) (h-l) ((xs.drop (l*sz)).take ((h-l)*sz))::L):=fun hh ⟨S,T,d,hp,hL⟩=>by
  refine ⟨S,T,d,⟨?_,?_,?_⟩,hL⟩
  · have:=hp.len
    have e:(h-l)*sz+l*sz≤n*sz:=by rw [←Nat.add_mul];exact Nat.mul_le_mul_right _ (om)
    simp;omega
  · have:=hp.ones
    rw [List.all_eq_true] at this ⊢
    exact fun u hu=>this u (List.mem_of_mem_drop (List.mem_of_mem_take hu))
  · by_cases hq:h=l
    · left
      subst hq
      rcases hp.pf with ⟨p,c,rfl,rfl⟩|⟨b,o,c,cur,T,rfl,_⟩<;>exact ⟨_,_,by simp [Sx.cut];exact ⟨rfl,rfl⟩,om⟩
    · rcases hp.pf with ⟨p,c,rfl,rfl⟩|⟨b,o,c,cur,T,rfl,hb,hc⟩
      · omega
      · right
        have hadd:(Addr.add ⟨b,o,none⟩ (l*sz))=⟨b,o+l*sz,none⟩:=by unfold Addr.add;split<;>simp_all
        refine ⟨b,o+l*sz,m-l,cur,T,?_,hb,fun j u hj=>?_⟩
        · simp only [Sx.cut,if_neg (show ¬m=l by omega),Option.map_some,hadd]
        · rw [List.getElem?_take] at hj
          split at hj
          · rw [List.getElem?_drop] at hj
            have:=hc _ _ hj
            rwa [←Nat.add_assoc] at this
          · simp at hj
end
end
section
abbrev b7u (p:QP):HP:=Rds 15 (.slice p.2.1 p.1.sends.length p.2.2) p.1.sends.length (aC mc p.1.sends)
def f1q (T e:TypeId) (b:Nat) (room:Int) (l:List QE):HP:=
  Ex fun q:(Option Addr×Nat)×List QP=>[Cells b T [.int .i64 room,.slice q.1.1 q.2.length q.1.2],Own e 17 (.slice q.1.1 q.2.length q.1.2) q.2.length (aC qc q.2),All (q.2.map b7u),Fact (q.2.map (·.1)=l∧(q.2.length:Int)≤room∧room≤16∧∀ p∈q.2,p.1.sends.length≤p.2.2∧p.1.sends.length≤1000)]
section
variable {T e:TypeId} {b:Nat} {room:Int} {l:List QE}
theorem p9 {n:Nat} {p:Option Addr} {c:Nat} {xs:List Value} {ps:List QP} {L M:List HP}
    (h:Ent L (Cells b T [.int .i64 room,.slice p n c]::Own e 17 (.slice p n c) n xs::All (ps.map b7u)::M)) (hl:ps.map (·.1)=l) (hn:n=ps.length) (hx:xs=aC qc ps) (h1:(ps.length:Int)≤room) (h2:room≤16) (h3:∀ p∈ps,p.1.sends.length≤p.2.2∧p.1.sends.length≤1000):Ent L (f1q T e b room l::M):=by
  subst hn hx
  refine Ent.trans h (Ent.trans ?_ (kW (p:=fun q:(Option Addr×Nat)×List QP=>[Cells b T [.int .i64 room,.slice q.1.1 q.2.length q.1.2],Own e 17 (.slice q.1.1 q.2.length q.1.2) q.2.length (aC qc q.2),All (q.2.map b7u),Fact (q.2.map (·.1)=l∧(q.2.length:Int)≤room∧room≤16∧∀ p∈q.2,p.1.sends.length≤p.2.2∧p.1.sends.length≤1000)]) ((p,c),ps)))
  exact Ent.cons (Ent.cons (Ent.cons (dS ⟨hl,h1,h2,h3⟩)))
theorem c5y {T:TypeId} {sz n c:Nat} {p:Option Addr} {xs:List Value} {L:List HP} {w:World} (h:fP (Own T sz (.slice p n c) n xs::L) w):n≤c:=by
  rcases (rT h).2.2 with ⟨q,h1,h2⟩|⟨g,cap,cur,h1,_,h3,_⟩
  · omega
  · cases h1;exact h3
theorem c4w {L:List HP} {w:World} (h:fP (f1q T e b room l::L) w):∃ p c,∃ ps:List QP,(ps.map (·.1)=l∧(ps.length:Int)≤room∧room≤16∧(∀ p∈ps,p.1.sends.length≤p.2.2∧p.1.sends.length≤1000)∧ps.length≤c)∧
    fP (Cells b T [.int .i64 room,.slice p ps.length c]::Own e 17 (.slice p ps.length c) ps.length (aC qc ps)::All (ps.map b7u)::L) w:=by
  obtain ⟨⟨⟨p,c⟩,ps⟩,hx⟩:=kD h
  simp only [pO] at hx
  have hf:=jK (aU (aU (aU hx)))
  have hx2:fP (Cells b T [.int .i64 room,.slice p ps.length c]::Own e 17 (.slice p ps.length c) ps.length (aC qc ps)::All (ps.map b7u)::L) w:=(Ent.cons (Ent.cons (Ent.cons (Ent.drop Ent.refl)))) _ hx
  exact ⟨p,c,ps,⟨hf.1,hf.2.1,hf.2.2.1,hf.2.2.2,c5y (oV hx2)⟩,hx2⟩
variable {P:Program} {N:Nat} {env:Env} {L:List HP} {Q:Exit→Act→World→Prop}
theorem yE {c:Code} (h:∀ p c0,∀ ps:List QP,(ps.map (·.1)=l∧(ps.length:Int)≤room∧room≤16∧(∀ p∈ps,p.1.sends.length≤p.2.2∧p.1.sends.length≤1000)∧ps.length≤c0)→WC P N c env (Cells b T [.int .i64 room,.slice p ps.length c0]::Own e 17 (.slice p ps.length c0) ps.length (aC qc ps)::All (ps.map b7u)::L) Q):WC P N c env (f1q T e b room l::L) Q:=by
  intro a w ha hw
  obtain ⟨p,c0,ps,hf,hx⟩:=c4w hw
  exact h p c0 ps hf a w ha hx
theorem wV {all:Array Oper} {c:List Oper} (h:∀ p c0,∀ ps:List QP,(ps.map (·.1)=l∧(ps.length:Int)≤room∧room≤16∧(∀ p∈ps,p.1.sends.length≤p.2.2∧p.1.sends.length≤1000)∧ps.length≤c0)→WO P N all c env (Cells b T [.int .i64 room,.slice p ps.length c0]::Own e 17 (.slice p ps.length c0) ps.length (aC qc ps)::All (ps.map b7u)::L) Q):WO P N all c env (f1q T e b room l::L) Q:=by
  intro a w ha hw
  obtain ⟨p,c0,ps,hf,hx⟩:=c4w hw
  exact h p c0 ps hf a w ha hx
end
theorem d2n {ps:List QP} {m:Msg} {st:Bool} {a:Option Addr} {c:Nat} {L M:List HP} (h:Ent L (All (ps.map b7u)::M)):Ent L (All ((ps++[((⟨m,st,[]⟩:QE),(a,c))]).map b7u)::M):=
  Ent.trans h (Ent.trans c5x (a2h (f:=b7u) ((⟨m,st,[]⟩:QE),(a,c))))
theorem e0y {ps:List QP} {i:Nat} (hi:i<ps.length) {x:QP} {T:TypeId} {L M:List HP} (h:Ent L (Own T 15 (.slice x.2.1 x.1.sends.length x.2.2) x.1.sends.length (aC mc x.1.sends)::All (ps.map b7u)::M)):Ent L (All ((ps.set i x).map b7u)::M):=
  Ent.trans h (Ent.trans b5d (Ent.trans (Ent.cons (b2o i)) (b5c (f:=b7u) i hi x)))
theorem c5z {ps:List QP} {i:Nat} {L M:List HP} (h:Ent L (All (ps.map b7u)::M)):Ent L (All ((ps.eraseIdx i).map b7u)::M):=Ent.trans h (b2o i)
theorem d2o {ps:List QP} {i:Nat} (hi:i<ps.length) {x:QP} {L M:List HP} (hn:0<ps[i].1.sends.length) (hc:ps[i].1.sends.length≤ps[i].2.2) (h1:x.1.sends=ps[i].1.sends.drop 1)
    (h2:f5d x=cut (f5d ps[i]) 1 ps[i].1.sends.length ps[i].1.sends.length 15) (h:Ent L (All (ps.map b7u)::M)):Ent L (All ((ps.set i x).map b7u)::M):=by
  refine Ent.trans h (Ent.trans (wR (f:=b7u) i hi) (Ent.trans (e0x (l:=1) (h:=ps[i].1.sends.length) (m:=ps[i].1.sends.length) (om) (Nat.le_refl _) (Nat.le_refl _)) (Ent.trans ?_ (b5c (f:=b7u) i hi x))))
  have e1:((aC mc ps[i].1.sends).drop (1*15)).take ((ps[i].1.sends.length-1)*15)=aC mc x.1.sends:=by
    rw [fV (enc:=mc) (n:=15) (fun _=>rfl),iU (enc:=mc) (n:=15) (fun _=>rfl),h1,List.take_of_length_le (by simp)]
  have e2:x.1.sends.length=ps[i].1.sends.length-1:=by rw [h1];simp
  rw [e1]
  unfold b7u
  have h2':Value.slice x.2.1 x.1.sends.length x.2.2=cut (f5d ps[i]) 1 ps[i].1.sends.length ps[i].1.sends.length 15:=h2
  rw [h2',e2]
  exact Ent.refl
theorem e7o {T:TypeId} {p:Option Addr} {c i:Nat} {ps:List QP} (hi:i≤ps.length) (hc:ps.length≤c) (L:List HP):RdL (Own T 17 (.slice p ps.length c) ps.length (aC qc ps)::L) 17 (cut (.slice p ps.length c) 0 i c 17) (ps.take i).length (aC qc (ps.take i)):=by
  have k0:RdL (Own T 17 (.slice p ps.length c) ps.length (aC qc ps)::L) 17 (.slice p ps.length c) ps.length (aC qc ps):=RdL.own
  have k:=RdL.cut (m:=c) k0 (Nat.zero_le i) hi (om)
  have e:((aC qc ps).drop (0*17)).take ((i-0)*17)=aC qc (ps.take i):=by
    rw [Nat.zero_mul,List.drop_zero,Nat.sub_zero,iU (enc:=qc) (n:=17) (fun _=>rfl)]
  rw [e] at k
  have e2:(ps.take i).length=i-0:=by rw [List.length_take];omega
  rw [e2];exact k
theorem c9a {T:TypeId} {sz n c:Nat} {p:Option Addr} {xs:List Value} {N:Nat} {x:Exit} {env:Env} {L:List HP} {Q:Exit→Act→World→Prop} (h:n≤c→WE N x env (Own T sz (.slice p n c) n xs::L) Q):WE N x env (Own T sz (.slice p n c) n xs::L) Q:=
  fun a w ha hw=>h (c5y hw) a w ha hw
theorem c4x {ps:List QP} {p:QP} (hp:p∈ps) {L:List HP}:RdL (All (ps.map b7u)::L) 15 (f5d p) p.1.sends.length (aC mc p.1.sends):=by
  obtain ⟨i,hi,rfl⟩:=List.getElem_of_mem hp
  have k:RdL (b7u ps[i]::All ((ps.eraseIdx i).map b7u)::L) 15 (f5d ps[i]) ps[i].1.sends.length (aC mc ps[i].1.sends):=RdL.rds
  have e:=wR (f:=b7u) (L:=L) i hi
  exact ⟨fun w h=>k.len w (e.sat h),fun w h=>k.ones w (e.sat h),fun w h=>k.pf w (e.sat h)⟩
def xN (room:Int) (l:List QE) (m:Msg):Int:=if m.kind<1∨m.kind>3 then 1 else if (l.length:Int)=room then 4 else 0
def r7 (room:Int) (l:List QE) (m:Msg):List QE:=if xN room l m=0 then l++[⟨m,false,[]⟩] else l
def a9o (l:List QE) (n:Int):Bool:=decide (0≤n∧n<l.length)
def a3x (l:List QE) (n:Int):QE:=if a9o l n then l.getD n.toNat ⟨.zero,false,[]⟩ else ⟨.zero,false,[]⟩
def a6s (l:List QE) (n:Nat) (line:Int):Bool:=(l.take n).all fun e=> !decide (e.m.line=line)
def eZ (l:List QE) (n:Int):Bool:=a9o l n&& !(a3x l n).st&& a6s l n.toNat (a3x l n).m.line
def lA (l:List QE) (n:Int) (s:List Msg):Int:=if a9o l n then (if eZ l n&& decide (s.length≠0) then 0 else 7) else 5
def cD (l:List QE) (n:Int) (s:List Msg):List QE:=if lA l n s=0 then l.set n.toNat { a3x l n with st:=true,sends:=s} else l
def jC (l:List QE) (n:Int):Bool:=a9o l n&& decide ((a3x l n).sends.length≠0)
def gK (l:List QE) (n:Int):Msg:=if jC l n then (a3x l n).sends.headD .zero else .zero
def lB (l:List QE) (n:Int):Int:=if a9o l n then (if (a3x l n).sends.length=0 then 7 else 0) else 5
def cN (l:List QE) (n:Int):List QE:=
  if lB l n=0 then (if (a3x l n).sends.length=1∧(a3x l n).m.kind=3 then l.eraseIdx n.toNat else l.set n.toNat { a3x l n with sends:=(a3x l n).sends.drop 1}) else l
def lQ (line src:Int) (e:QE):Bool:=e.st&& decide (e.m.line=line)&& decide (e.m.src=src)&& !decide (e.m.kind=3)&& decide (e.sends.length=0)
def a6t (l:List QE) (line src:Int):Int:=if bA (lQ line src) l<0 then 7 else 0
def r8 (l:List QE) (line src:Int):List QE:=if bA (lQ line src) l<0 then l else l.eraseIdx (bA (lQ line src) l).toNat
end
end Go.Sx
