/- Arr, Arr2, ArrPl, ArrHPl, MshR5, Pro0: several of my texts as one. My own work. -/
import Derived.Test.YtjihlpjnebdiiaaGreatZac
set_option linter.unusedVariables false
set_option linter.unusedSectionVars false
set_option linter.unusedSimpArgs false
set_option maxRecDepth 100000
set_option maxHeartbeats 4000000
namespace Go.Sx
open Go Go.Proofs
section
def c6 (w:Way):Bool:=decide (w.st≠0)|| w.lk
def oX (line:Int) (w:Way):Bool:=c6 w&& decide (w.line=line)
def cF (c:Cfg) (line:Int):Nat:=(s9 c line).toNat*c.ways.toNat
def cN (c:Cfg) (l:List Way) (line:Int):List Way:=if aP c line then (l.drop (cF c line)).take c.ways.toNat else []
def bZ (c:Cfg) (l:List Way) (line:Int):Int:=aV (oX line) (cN c l line)
def dD (c:Cfg) (l:List Way) (line:Int):Int:=aV (fun w=> !c6 w) (cN c l line)
def aT (c:Cfg) (l:List Way) (line:Int):Way:=if bZ c l line<0 then .zero else (cN c l line).getD (bZ c l line).toNat .zero
def xX (c:Cfg) (l:List Way) (line:Int):Int:=if bZ c l line<0 then 0 else bZ c l line
def iQ (c:Cfg) (l:List Way) (line:Int):Bool:= !decide (bZ c l line<0)
def a4d (c:Cfg) (w:Words):Bool:=decide (0≤aV (fun n=> !decide (n=0)) (w.list.drop c.words.toNat))
def z7 (c:Cfg) (l:List Way) (line way:Int):Int:=if 0≤way∧way<(cN c l line).length then (if bZ c l line= -1 then (if c6 ((cN c l line).getD way.toNat .zero) then 4 else 0) else 6) else 1
def kM (c:Cfg) (l:List Way) (line way:Int):List Way:=if z7 c l line way=0 then l.set (cF c line+way.toNat) ⟨0,line,.zero,true⟩ else l
def pZ (c:Cfg) (l:List Way) (line st:Int) (w:Words):Int:=if bZ c l line= -1 then 5 else if st<0∨st>4∨a4d c w=true then 1 else 0
def e7 (c:Cfg) (l:List Way) (line st:Int) (w:Words):List Way:=if pZ c l line st w=0 then l.set (cF c line+(bZ c l line).toNat) { aT c l line with st:=st,words:=if st=0 then .zero else w} else l
def a4e (c:Cfg) (l:List Way) (line:Int):Int:=if bZ c l line= -1 then 5 else 0
def gJ (c:Cfg) (l:List Way) (line:Int) (lk:Bool):List Way:=if a4e c l line=0 then l.set (cF c line+(bZ c l line).toNat) { aT c l line with lk:=lk} else l
def vX (c:Cfg) (s k:Int):Bool:=decide (0≤s∧s<c.sets∧0≤k∧k<c.ways)
def uP (c:Cfg) (l:List Way) (s k:Int):Way:=if vX c s k then l.getD (s.toNat*c.ways.toNat+k.toNat) .zero else .zero
def e6w (g o n c:Nat):Value:= .slice (some ⟨g,o,none⟩) n c
theorem rS {g o n c:Nat}:pb (e6w g o n c)=g:=rfl
theorem rT {g o n c:Nat}:po (e6w g o n c)=o:=rfl
def e2i (T TW:TypeId) (b:Nat) (c:Cfg) (l:List Way):HP:=
  Ex fun g:Nat=>[Cells b T (c.cells++[.slice (some ⟨g,0,none⟩) l.length l.length]),Cells g TW (aC b5s l),Fact (aF c=true∧(l.length:Int)=c.sets*c.ways)]
theorem fN {T TW:TypeId} {b g n:Nat} {c:Cfg} {l:List Way} {xs:List Value} {L M:List HP} (h:Ent L (Cells b T (c.cells++[.slice (some ⟨g,0,none⟩) n n])::Cells g TW xs::M)) (hn:n=l.length) (hx:xs=aC b5s l)
    (hc:aF c=true) (hl:(l.length:Int)=c.sets*c.ways):Ent L (e2i T TW b c l::M):=by
  subst hn hx
  refine Ent.trans h (Ent.trans ?_ (i0 (p:=fun g:Nat=>[Cells b T (c.cells++[.slice (some ⟨g,0,none⟩) l.length l.length]),Cells g TW (aC b5s l),Fact (aF c=true∧(l.length:Int)=c.sets*c.ways)]) g))
  exact Ent.cons (Ent.cons (cY ⟨hc,hl⟩))
theorem d6s {T TW:TypeId} {b:Nat} {c:Cfg} {l:List Way} {L:List HP} {w:World} (h:d3 (e2i T TW b c l::L) w):∃ g,(aF c=true∧(l.length:Int)=c.sets*c.ways)∧d3 (Cells b T (c.cells++[.slice (some ⟨g,0,none⟩) l.length l.length])::Cells g TW (aC b5s l)::L) w:=by
  obtain ⟨g,hx⟩:=gW h
  simp only [oI] at hx
  exact ⟨g,iW (aR (aR hx)),(Ent.cons (Ent.cons (Ent.drop Ent.refl))) _ hx⟩
section
variable {T TW:TypeId} {b:Nat} {c:Cfg} {l:List Way} {P:Program} {N:Nat} {env:Env} {L:List HP} {Q:Exit→Act→World→Prop}
theorem rU {co:Code} (h:∀ g,(aF c=true∧(l.length:Int)=c.sets*c.ways)→WC P N co env (Cells b T (c.cells++[.slice (some ⟨g,0,none⟩) l.length l.length])::Cells g TW (aC b5s l)::L) Q):WC P N co env (e2i T TW b c l::L) Q:=by
  intro a w ha hw
  obtain ⟨g,hf,hx⟩:=d6s hw
  exact h g hf a w ha hx
end
theorem a6w {s W S:Nat} (h:s<S):s*W+W≤S*W:=by
  have:=Nat.mul_le_mul_right W (show s+1≤S by omega)
  rw [Nat.succ_mul] at this;exact this
theorem rV {c:Cfg} {n:Nat} (hc:aF c=true) (hn:(n:Int)=c.sets*c.ways):n=c.sets.toNat*c.ways.toNat∧1≤c.ways∧c.ways≤8∧1≤c.sets∧c.sets≤64∧n≤512:=by
  obtain ⟨_,_,⟨k,hk,e⟩,_,_,h1,h2⟩:=cK hc
  have:=r9 hk
  have h3:1≤c.sets∧c.sets≤64:=by rw [e];exact ⟨this.1,by have:=this.2;simpa using this⟩
  have e1:((c.sets.toNat*c.ways.toNat:Nat):Int)=c.sets*c.ways:=by
    rw [Int.natCast_mul,Int.toNat_of_nonneg (om),Int.toNat_of_nonneg (om)]
  have e2:n=c.sets.toNat*c.ways.toNat:=by omega
  have e3:c.sets.toNat*c.ways.toNat≤64*8:=Nat.mul_le_mul (om) (om)
  exact ⟨e2,h1,h2,h3.1,h3.2,om⟩
theorem c2q {c:Cfg} {line:Int} (h:aP c line=true):0≤s9 c line∧s9 c line<c.sets∧s9 c line=line % c.sets∧0≤line∧line<c.lines:=by
  obtain ⟨hc,h0,h1⟩:=a7h h
  obtain ⟨_,_,⟨k,hk,e⟩,_⟩:=cK hc
  have h2:=(r9 hk).1
  have e2:s9 c line=line % c.sets:=if_pos h
  rw [e2]
  rw [e]
  exact ⟨Int.emod_nonneg _ (om),Int.emod_lt_of_pos _ (om),rfl,h0,h1⟩
theorem zI {c:Cfg} {l:List Way} {line:Int} (hc:aF c=true) (hn:(l.length:Int)=c.sets*c.ways) (h:aP c line=true):(cN c l line).length=c.ways.toNat∧cF c line+c.ways.toNat≤l.length:=by
  obtain ⟨e,h1,h2,h3,h4,h5⟩:=rV hc hn
  obtain ⟨s0,s1,_⟩:=c2q h
  have hr:=a6w (s:=(s9 c line).toNat) (W:=c.ways.toNat) (S:=c.sets.toNat) (om)
  have:cF c line+c.ways.toNat≤l.length:=by rw [e];exact hr
  refine ⟨?_,this⟩
  unfold cN;rw [if_pos h,List.length_take,List.length_drop];omega
theorem b2g {g T:Nat} {l:List Way} {f k cap:Nat} (hf:f+k≤l.length) (L:List HP):RdL (Cells g T (aC b5s l)::L) 11 (e6w g (f*11) k cap) ((l.drop f).take k).length (aC b5s ((l.drop f).take k)):=by
  have hx:((aC b5s l).drop (f*11)).take (k*11)=aC b5s ((l.drop f).take k):=by
    rw [eE (enc:=b5s) (n:=11) (fun _=>rfl),iA (enc:=b5s) (n:=11) (fun _=>rfl)]
  have hl:(aC b5s l).length=l.length*11:=gD (enc:=b5s) (n:=11) (fun _=>rfl) l
  have kk:=vM (L:=Cells g T (aC b5s l)::L) (o:=f*11) (m:=k) (c:=cap) (sz:=11) (b:=g) inferInstance (by rw [hl,←Nat.add_mul];exact Nat.mul_le_mul_right _ hf) (by
    rw [hx,List.all_eq_true]
    intro v hv
    obtain ⟨w,_,hw⟩:=List.mem_flatMap.1 hv
    simp [b5s] at hw
    rcases hw with h|h|h|h|h|h|h|h|h|h|h<;>(rw [h];rfl))
  rw [hx] at kk
  have e:((l.drop f).take k).length=k:=by rw [List.length_take,List.length_drop];omega
  rw [e];exact kk
attribute [irreducible] e6w
attribute [local irreducible] Exit.then Exit.inBlock Code.wp WC WO WE WQ V bF tV d3 bW dF uH IntKind.wrap WR Code.rounds WT KO
abbrev a3l:=e2i 220 121
abbrev e7k (b g:Nat) (c:Cfg) (l:List Way):HP:=Cells b 220 (c.cells++[.slice (some ⟨g,0,none⟩) l.length l.length])
theorem a0t {F:List HP} {w:Way}:FnF Tryz.prog 206 [e2g w] [] F (fun r L'=>r= .bool (c6 w)∧L'=[]):=by
  refine FnF.mk' Tryz.func206 rfl rfl Tryz.ntmps206 rfl ?_
  by_cases h:w.st=0
  · repeat first|refine gd ?_|intro _
    (apply aA rfl rfl bB;(first|exact lW|exact ⟨by simp [c6,h]<;>omega,rfl⟩);exact iC)
  · repeat first|refine gd ?_|intro _
    (apply aA rfl rfl bB;(first|exact lW|exact ⟨by simp [c6,h]<;>omega,rfl⟩);exact iC)
theorem a4f {F:List HP} {b:Nat} {line:Int} {T:TypeId} {C:List Value→List HP} {w:Way} (k:CellsAt b F T [.int .i64 line] C) :
    FnF Tryz.prog 211 [e2g w,.pointer (some ⟨b,0,none⟩)] [] F (fun r L'=>r= .bool (oX line w)∧L'=[]):=by
  have hT:=fun F=>a0t (F:=F) (w:=w)
  refine FnF.mk' Tryz.func211 rfl rfl Tryz.ntmps211 rfl ?_
  cases h:c6 w with
  |true=>
   rw [h] at hT
   repeat first|refine gd ?_|intro _|refine aD @hT ?_
   (apply aA rfl rfl bB;(first|exact lW|exact ⟨by simp [oX,h]<;>omega,rfl⟩);exact iC)
  |false=>
   rw [h] at hT
   repeat first|refine gd ?_|intro _|refine aD @hT ?_
   (apply aA rfl rfl bB;(first|exact lW|exact ⟨by simp [oX,h]<;>omega,rfl⟩);exact iC)
theorem a9i {F:List HP} {w:Way}:FnF Tryz.prog 205 [e2g w] [] F (fun r L'=>r= .bool (!c6 w)∧L'=[]):=by
  refine FnF.mk' Tryz.func205 rfl rfl Tryz.ntmps205 rfl ?_
  repeat first|refine gd ?_|intro _|refine aD @a0t ?_
  exact aU
theorem b6n {F:List HP} {b g:Nat} {c:Cfg} {l:List Way} {s:Int} (hc:aF c=true) (hn:(l.length:Int)=c.sets*c.ways) (h0:0≤s) (h1:s<c.sets) :
    FnF Tryz.prog 207 [.pointer (some ⟨b,0,none⟩),.int .i64 s] [e7k b g c l] F (fun r L'=>r=e6w g (s.toNat*c.ways.toNat*11) c.ways.toNat c.ways.toNat∧L'=[e7k b g c l]):=by
  obtain ⟨e,h2,h3,h4,h5,h6⟩:=rV hc hn
  have hr:=a6w (s:=s.toNat) (W:=c.ways.toNat) (S:=c.sets.toNat) (om)
  have hz:s*c.ways=((s.toNat*c.ways.toNat:Nat):Int):=by rw [Int.natCast_mul,Int.toNat_of_nonneg h0,Int.toNat_of_nonneg (om)]
  rw [←e] at hr
  generalize s.toNat*c.ways.toNat=z at *
  refine FnF.mk' Tryz.func207 rfl rfl Tryz.ntmps207 rfl ?_
  repeat first|refine gd ?_|intro _
  (apply aA rfl rfl bB)
  · refine ⟨?_,rfl⟩
    rw [n7 (om)]
    have e1:(s*c.ways).toNat=z:=by omega
    have e2:(s*c.ways+c.ways).toNat-(s*c.ways).toNat=c.ways.toNat:=by omega
    rw [e2,e1,Nat.zero_add]
    unfold e6w;rfl
  · exact aB
theorem a2z {F:List HP} {b g:Nat} {c:Cfg} {l:List Way} {line:Int} (hw:c.wf) (hli:kP line) (hc:aF c=true) (hn:(l.length:Int)=c.sets*c.ways) (h:aP c line=true) :
    FnF Tryz.prog 172 [.pointer (some ⟨b,0,none⟩),.int .i64 line] [e7k b g c l] F (fun r L'=>r=e6w g (cF c line*11) c.ways.toNat c.ways.toNat∧L'=[e7k b g c l]):=by
  have hL:=fun F=>pB (F:=F) (c:=c) (a:=line) hw hli
  obtain ⟨s0,s1,_⟩:=c2q h
  have hW:=fun F=>b6n (F:=F) (b:=b) (g:=g) (c:=c) (l:=l) (s:=s9 c line) hc hn s0 s1
  have e0:tA c line=0:=if_pos h
  simp only [e0] at hL
  refine FnF.mk' Tryz.func172 rfl rfl Tryz.ntmps172 rfl ?_
  repeat first|refine gd ?_|intro _|refine aD @hL ?_|refine aD @hW ?_
  (apply aA rfl rfl bB;(first|exact lW|exact ⟨by simp [cF]<;>omega,rfl⟩);exact iC)
theorem a0u {F:List HP} {b g:Nat} {c:Cfg} {l:List Way} {line:Int} (hw:c.wf) (hli:kP line) (h:aP c line=false) :
    FnF Tryz.prog 172 [.pointer (some ⟨b,0,none⟩),.int .i64 line] [e7k b g c l] F (fun r L'=>r= .slice none 0 0∧L'=[e7k b g c l]):=by
  have hL:=fun F=>pB (F:=F) (c:=c) (a:=line) hw hli
  have e0:tA c line=1:=by unfold tA;rw [h];rfl
  simp only [e0] at hL
  refine FnF.mk' Tryz.func172 rfl rfl Tryz.ntmps172 rfl ?_
  repeat first|refine gd ?_|intro _|refine aD @hL ?_
  exact aU
theorem mZ {c:Cfg} {l:List Way} {line:Int} (h:aP c line=false):cN c l line=[]:=by unfold cN;rw [h];rfl
theorem lF {c:Cfg} {l:List Way} {line:Int} (h:aP c line=true):cN c l line=(l.drop (cF c line)).take c.ways.toNat:=if_pos h
theorem sY {F:List HP} {b g:Nat} {c:Cfg} {l:List Way} {line:Int} (hw:c.wf) (hli:kP line) (hc:aF c=true) (hn:(l.length:Int)=c.sets*c.ways) :
    FnF Tryz.prog 171 [.pointer (some ⟨b,0,none⟩),.int .i64 line] [e7k b g c l,Cells g 121 (aC b5s l)] F (fun r L'=>r= .int .i64 (bZ c l line)∧L'=[e7k b g c l,Cells g 121 (aC b5s l)]):=by
  cases h:aP c line with
  |true=>
   obtain ⟨k1,k2⟩:=zI hc hn h
   have hO:=fun F=>a2z (F:=F) (b:=b) (g:=g) hw hli hc hn h
   have kr:=b2g (g:=g) (T:=121) (cap:=c.ways.toNat) k2
   rw [←lF h,k1] at kr
   haveI:=kr
   have hb:c.ways.toNat≤512:=by have:=(rV hc hn).2.2.2.2.2;omega
   have hI:=fun F (bl:Nat) (C:List Value→List HP) (k1':CellsAt bl F 3 [.int .i64 line] C) (k:RdL F 11 (e6w g (cF c line*11) c.ways.toNat c.ways.toNat) c.ways.toNat (aC b5s (cN c l line)))=>
     jG (F:=F) (v:=e6w g (cF c line*11) c.ways.toNat c.ways.toNat) (l:=cN c l line) (fk:=211) (first:=[]) (cap:=[.pointer (some ⟨bl,0,none⟩)]) (p:=oX line) (by rw [k1];exact k) (om) (fun x _=>a4f k1')
   refine FnF.mk' Tryz.func171 rfl rfl Tryz.ntmps171 rfl ?_
   repeat first|refine gd ?_|intro _|refine aD @hO ?_|refine aD @hI ?_
   (apply aA rfl rfl bB;(first|exact lW|exact ⟨by simp [bZ]<;>omega,rfl⟩);exact iC)
  |false=>
   have hO:=fun F=>a0u (F:=F) (b:=b) (g:=g) (l:=l) hw hli h
   have hI:=fun F (bl:Nat) (C:List Value→List HP) (k1':CellsAt bl F 3 [.int .i64 line] C)=>
     jG (F:=F) (v:= .slice none 0 0) (l:=[]) (fk:=211) (first:=[]) (cap:=[.pointer (some ⟨bl,0,none⟩)]) (p:=oX line) pS (by simp) (fun x _=>a4f k1')
   refine FnF.mk' Tryz.func171 rfl rfl Tryz.ntmps171 rfl ?_
   repeat first|refine gd ?_|intro _|refine aD @hO ?_|refine aD @hI ?_
   (apply aA rfl rfl bB;(first|exact lW|exact ⟨by simp [bZ,mZ h]<;>omega,rfl⟩);exact iC)
end
section
section
variable {P:Program} {N:Nat} {t ty:TypeId} {x y:Operand} {env:Env} {L:List HP}
theorem zJ {n bs f i j T g bb o:Nat} {z u:Value} {l:List Way} {w:Way} {cs:List Value} {C:List Value→List HP} {pos:String} {aft:Array Edge} [hZ:TZ P t n z bs]
    (hx:ev env x=some (.pointer (some ⟨bb,o,none⟩))) (hy:ev env y=some u) (hb:bb=g) (ho:o=(f+i)*11+j) (k:CellsAt g L T (aC b5s l) C) (hc:CO u cs) (hn:cs.length=n) (h1:cs.all one=true)
    (hi:f+i<l.length) (hj:j+n≤11) (e:aQ (b5s l[f+i]) j cs=b5s w) :
    KO P N ⟨none,.store t x y,ty,pos,aft,none⟩ env L (a2m env (C (aC b5s (l.set (f+i) w)))):=by
  subst hb ho
  have hl:(aC b5s l).length=l.length*11:=gD (enc:=b5s) (n:=11) (fun _=>rfl) l
  have hle:(f+i)*11+11≤l.length*11:=by have:=Nat.mul_le_mul_right 11 (show f+i+1≤l.length by omega);omega
  have h:=uD (P:=P) (N:=N) (ty:=ty) (pos:=pos) (aft:=aft) (t:=t) hx hy k hc.pf hn h1 (by rw [hl,Nat.ble_eq];omega)
  have es:=cZ (enc:=b5s) (n:=11) (fun _=>rfl) l (f+i) hi (j:=j) (cs:=cs) (x:=w) (om) e
  rw [es] at h
  exact h
end
theorem a8a {g T:Nat} {c:Cfg} {l:List Way} {line:Int} (hc:aF c=true) (hn:(l.length:Int)=c.sets*c.ways) (h:aP c line=true) (L:List HP) :
    RdL (Cells g T (aC b5s l)::L) 11 (e6w g (cF c line*11) c.ways.toNat c.ways.toNat) (cN c l line).length (aC b5s (cN c l line)):=by
  obtain ⟨k1,k2⟩:=zI hc hn h
  have kr:=b2g (g:=g) (T:=T) (cap:=c.ways.toNat) k2
  rw [←lF h] at kr
  exact kr L
theorem l5 {c:Cfg} {l:List Way} {line:Int} {i:Nat} (h:aP c line=true) (hi:i<(cN c l line).length):∃ h2:cF c line+i<l.length,(cN c l line)[i]=l[cF c line+i]:=by
  have hi':=hi
  simp only [lF h,List.length_take,List.length_drop] at hi'
  refine ⟨om,?_⟩
  simp only [lF h,List.getElem_take,List.getElem_drop]
theorem z8 {c:Cfg} {l:List Way} {line:Int} (h:0≤bZ c l line):aP c line=true:=by
  cases e:aP c line with
  |true=>rfl
  |false=>
   exfalso
   unfold bZ at h
   rw [mZ e] at h
   simp [aV] at h
theorem vG {c:Cfg} {l:List Way} {line:Int} (h:0≤bZ c l line):∃ i:Nat,∃ hi:i<(cN c l line).length,bZ c l line=i∧oX line (cN c l line)[i]=true∧∀ j (hj:j<(cN c l line).length),j<i→oX line (cN c l line)[j]=false:=cL h
theorem oY (c:Cfg) (l:List Way) (line:Int): -1≤bZ c l line∧bZ c l line<(cN c l line).length:=c1i _ _
theorem c5h (n:Nat):(List.replicate n (b5s .zero)).flatten=aC b5s (List.replicate n .zero):=by
  induction n with
  |zero=>rfl
  |succ n ih=>simp only [List.replicate_succ,List.flatten_cons,aC,List.flatMap_cons];rw [ih]
theorem b1k (l:List Int):(aC ic l).length=l.length:=by
  have:=gD (enc:=ic) (n:=1) (fun _=>rfl) l
  omega
attribute [local irreducible] Exit.then Exit.inBlock Code.wp WC WO WE WQ V bF tV d3 bW dF uH IntKind.wrap WR Code.rounds WT KO
theorem a4g {Q P:Prop} (k:Q) (h:Hid Q→P:=by
  intro k
  first
  |(refine aG ?_;refine q9 (id:=4) .true (pl:= .p 1 <| .p 3 <| .r 0 <| .r 2 <| .r 4 <| .p 5 <| .e true [(6,.p 7 <| .e true [(8,.p 9 <| .p 10 <| .done)])]) k.out)):P:=h ⟨k⟩
theorem d6t {F:List HP} {c:Cfg} (hw:c.wf) (hc:aF c=true):FnF Tryz.prog 92 [c.val] [] F (fun r L'=>∃ b,r= .tuple [.pointer (some ⟨b,0,none⟩),.int .i64 0].toArray∧L'=[a3l b c (List.replicate (c.sets*c.ways).toNat .zero)]):=by
  have hC:=fun F=>dC (F:=F) hw
  simp only [d4,hc,if_true] at hC
  obtain ⟨_,_,⟨k,hk,e⟩,_,_,h1,h2⟩:=cK hc
  have hb:=r9 hk
  have h3:1≤c.sets∧c.sets≤64:=by rw [e];exact ⟨hb.1,by have:=hb.2;simpa using this⟩
  have hz:c.sets*c.ways=((c.sets.toNat*c.ways.toNat:Nat):Int):=by rw [Int.natCast_mul,Int.toNat_of_nonneg (om),Int.toNat_of_nonneg (om)]
  have hm:c.sets.toNat*c.ways.toNat≤64*8:=Nat.mul_le_mul (om) (om)
  refine FnF.mk' Tryz.func92 rfl rfl Tryz.ntmps92 rfl ?_
  have h0:0≤c.sets*c.ways∧c.sets*c.ways≤512:=by omega
  repeat first|refine go ?_|intro _|refine a4g ?_|refine cM ?_|refine aD @hC ?_
  apply p4;rfl;exact GIn.none;(apply b1w;rfl;omega;omega;omega;rfl;omega;rfl);refine cB ?_;intro g;(refine ⟨by first|exact After.free|exact After.turns rfl|(refine After.still ?_;exact iC;done),?_⟩)
  repeat first|refine go ?_|intro _|refine a4g ?_|refine cM ?_
  (apply aA rfl rfl bB)
  · exact ⟨_,rfl,rfl⟩
  · refine Ent.trans ?_ (fN (g:=g) (l:=List.replicate (c.sets*c.ways).toNat .zero) (n:=(c.sets*c.ways).toNat) (xs:=(List.replicate (c.sets*c.ways).toNat (b5s .zero)).flatten) Ent.refl (by simp) (c5h _) hc (by simp;omega))
    change Ent (Cells _ _ (c.cells++[.slice (some ⟨g,0,none⟩) (c.sets*c.ways).toNat (c.sets*c.ways).toNat])::_) _
    exact aB
theorem c9b {F:List HP} {b:Nat} {c:Cfg} {l:List Way} {line:Int} (hw:c.wf) (hli:kP line) :
    FnF Tryz.prog 128 [.pointer (some ⟨b,0,none⟩),.int .i64 line] [a3l b c l] F (fun r L'=>r= .tuple [e2g (aT c l line),.int .i64 (xX c l line),.bool (iQ c l line)].toArray∧L'=[a3l b c l]):=by
  refine FnF.mk' Tryz.func128 rfl rfl Tryz.ntmps128 rfl ?_
  refine rU fun g hf=>?_
  obtain ⟨hc,hn⟩:=hf
  have hP:=fun F=>sY (F:=F) (b:=b) (g:=g) hw hli hc hn
  by_cases h:bZ c l line<0
  · have e1:aT c l line= .zero:=if_pos h
    have e2:xX c l line=0:=if_pos h
    have e3:iQ c l line=false:=by simp [iQ,h]
    rw [e1,e2,e3]
    repeat first|refine gd ?_|intro _|refine aD @hP ?_
    (apply aA rfl rfl bB)
    · exact ⟨rfl,rfl⟩
    · (apply fN;(focus (exact aB));all_goals exact mG)
  · have hok:=z8 (by omega:0≤bZ c l line)
    obtain ⟨i,hi,ei,_,_⟩:=vG (by omega:0≤bZ c l line)
    have e1:aT c l line=(cN c l line)[i]:=by unfold aT;rw [if_neg h,ei,Int.toNat_natCast];exact (kI hi).symm
    have e2:xX c l line=i:=by unfold xX;rw [if_neg h,ei]
    have e3:iQ c l line=true:=by simp [iQ,h]
    rw [e1,e2,e3]
    rw [ei] at hP
    have hO:=fun F=>a2z (F:=F) (b:=b) (g:=g) hw hli hc hn hok
    haveI kr:=a8a (g:=g) (T:=121) hc hn hok
    repeat first|refine gd ?_|intro _|refine aD @hP ?_|refine aD @hO ?_
    (apply aA rfl rfl bB)
    · exact ⟨rfl,rfl⟩
    · (apply fN;(focus (exact aB));all_goals exact mG)
theorem c9c {F:List HP} {b:Nat} {c:Cfg} {l:List Way} {line:Int} (hw:c.wf) (hli:kP line) :
    FnF Tryz.prog 160 [.pointer (some ⟨b,0,none⟩),.int .i64 line] [a3l b c l] F (fun r L'=>r= .int .i64 (dD c l line)∧L'=[a3l b c l]):=by
  refine FnF.mk' Tryz.func160 rfl rfl Tryz.ntmps160 rfl ?_
  refine rU fun g hf=>?_
  obtain ⟨hc,hn⟩:=hf
  cases h:aP c line with
  |true=>
   obtain ⟨k1,k2⟩:=zI hc hn h
   have hO:=fun F=>a2z (F:=F) (b:=b) (g:=g) hw hli hc hn h
   haveI kr:=a8a (g:=g) (T:=121) hc hn h
   have hb:c.ways.toNat≤512:=by have:=(rV hc hn).2.2.2.2.2;omega
   have hI:=fun F (k:RdL F 11 (e6w g (cF c line*11) c.ways.toNat c.ways.toNat) (cN c l line).length (aC b5s (cN c l line)))=>
     jG (F:=F) (v:=e6w g (cF c line*11) c.ways.toNat c.ways.toNat) (l:=cN c l line) (fk:=205) (first:=[]) (cap:=[]) (p:=fun w=> !c6 w) k (om) (fun x _=>a9i)
   repeat first|refine gd ?_|intro _|refine aD @hO ?_|refine aD @hI ?_
   (apply aA rfl rfl bB)
   · exact ⟨rfl,rfl⟩
   · (apply fN;(focus (exact aB));all_goals exact mG)
  |false=>
   have hO:=fun F=>a0u (F:=F) (b:=b) (g:=g) (l:=l) hw hli h
   have hI:=fun F=>jG (F:=F) (v:= .slice none 0 0) (l:=[]) (fk:=205) (first:=[]) (cap:=[]) (p:=fun w=> !c6 w) pS (by simp) (fun x _=>a9i)
   have e1:dD c l line= -1:=by unfold dD;rw [mZ h];rfl
   rw [e1]
   repeat first|refine gd ?_|intro _|refine aD @hO ?_|refine aD @hI ?_
   (apply aA rfl rfl bB)
   · exact ⟨rfl,rfl⟩
   · (apply fN;(focus (exact aB));all_goals exact mG)
theorem e3g {F:List HP} {b:Nat} {c:Cfg} {l:List Way} {s k:Int} :
    FnF Tryz.prog 164 [.pointer (some ⟨b,0,none⟩),.int .i64 s,.int .i64 k] [a3l b c l] F (fun r L'=>r= .tuple [e2g (uP c l s k),.bool (vX c s k)].toArray∧L'=[a3l b c l]):=by
  refine FnF.mk' Tryz.func164 rfl rfl Tryz.ntmps164 rfl ?_
  refine rU fun g hf=>?_
  obtain ⟨hc,hn⟩:=hf
  cases h:vX c s k with
  |true=>
   have h':=h
   simp only [vX,decide_eq_true_eq] at h'
   obtain ⟨h0,h1,h2,h3⟩:=h'
   obtain ⟨k,rfl⟩:∃ j:Nat,k=j:=⟨k.toNat,om⟩
   obtain ⟨en,h4,h5,h6,h7,h8⟩:=rV hc hn
   have hr:=a6w (s:=s.toNat) (W:=c.ways.toNat) (S:=c.sets.toNat) (om)
   have hW:=fun F=>b6n (F:=F) (b:=b) (g:=g) (c:=c) (l:=l) (s:=s) hc hn h0 h1
   have kr:=b2g (g:=g) (T:=121) (l:=l) (f:=s.toNat*c.ways.toNat) (k:=c.ways.toNat) (cap:=c.ways.toNat) (om)
   have hkl:k<((l.drop (s.toNat*c.ways.toNat)).take c.ways.toNat).length:=by rw [List.length_take,List.length_drop];omega
   have e1:uP c l s k=((l.drop (s.toNat*c.ways.toNat)).take c.ways.toNat)[k]:=by
     unfold uP;rw [if_pos h,Int.toNat_natCast,List.getElem_take,List.getElem_drop]
     exact (kI (by rw [List.length_take,List.length_drop] at hkl;omega)).symm
   rw [e1]
   generalize (l.drop (s.toNat*c.ways.toNat)).take c.ways.toNat=m at *
   haveI:=kr
   repeat first|refine gd ?_|intro _|refine aD @hW ?_
   (apply aA rfl rfl bB)
   · exact ⟨rfl,rfl⟩
   · (apply fN;(focus (exact aB));all_goals exact mG)
  |false=>
   have e1:uP c l s k= .zero:=by unfold uP;rw [if_neg (by simp [h])]
   rw [e1]
   simp only [vX,decide_eq_false_iff_not] at h
   repeat' (first|refine gd ?_|intro _|refine mH ?_ ?_|fail)
   all_goals first|(exfalso;omega)|skip
   all_goals (apply aA rfl rfl bB)
   all_goals first|exact ⟨rfl,rfl⟩|(apply fN;(focus (exact aB));all_goals exact mG)
theorem d6u {F:List HP} {b:Nat} {c:Cfg} {l:List Way} {line way:Int} (hw:c.wf) (hli:kP line) :
    FnF Tryz.prog 162 [.pointer (some ⟨b,0,none⟩),.int .i64 line,.int .i64 way] [a3l b c l] F (fun r L'=>r= .int .i64 (z7 c l line way)∧L'=[a3l b c (kM c l line way)]):=by
  refine FnF.mk' Tryz.func162 rfl rfl Tryz.ntmps162 rfl ?_
  refine rU fun g hf=>?_
  obtain ⟨hc,hn⟩:=hf
  have hP:=fun F=>sY (F:=F) (b:=b) (g:=g) hw hli hc hn
  cases h:aP c line with
  |false=>
   have hO:=fun F=>a0u (F:=F) (b:=b) (g:=g) (l:=l) hw hli h
   have e1:z7 c l line way=1:=by unfold z7;rw [mZ h,if_neg (by simp only [List.length_nil];omega)]
   have e2:kM c l line way=l:=by unfold kM;rw [e1];rfl
   rw [e1,e2]
   by_cases h0:way<0
   · repeat first|refine gd ?_|intro _|refine aD @hO ?_
     (apply aA rfl rfl bB)
     · exact ⟨rfl,rfl⟩
     · (apply fN;(focus (exact aB));all_goals exact mG)
   · repeat first|refine gd ?_|intro _|refine aD @hO ?_
     (apply aA rfl rfl bB)
     · exact ⟨rfl,rfl⟩
     · (apply fN;(focus (exact aB));all_goals exact mG)
  |true=>
   have hO:=fun F=>a2z (F:=F) (b:=b) (g:=g) hw hli hc hn h
   haveI kr:=a8a (g:=g) (T:=121) hc hn h
   obtain ⟨k1,k2⟩:=zI hc hn h
   obtain ⟨_,_,_,_,_,h8⟩:=rV hc hn
   by_cases h0:0≤way∧way<(cN c l line).length
   · obtain ⟨i,rfl⟩:∃ j:Nat,way=j:=⟨way.toNat,om⟩
     have hi:i<(cN c l line).length:=by omega
     obtain ⟨hi2,_⟩:=l5 h hi
     have hg:(cN c l line).getD i .zero=(cN c l line)[i]:=(kI hi).symm
     by_cases hp:bZ c l line= -1
     · rw [hp] at hP
       have hT:=fun F=>a0t (F:=F) (w:=(cN c l line)[i])
       cases ht:c6 (cN c l line)[i] with
       |true=>
        rw [ht] at hT
        have e1:z7 c l line i=4:=by unfold z7;rw [if_pos h0,if_pos hp,Int.toNat_natCast,hg,ht];rfl
        have e2:kM c l line i=l:=by unfold kM;rw [e1];rfl
        rw [e1,e2]
        repeat first|refine gd ?_|intro _|refine aD @hO ?_|refine aD @hP ?_|refine aD @hT ?_
        (apply aA rfl rfl bB)
        · exact ⟨rfl,rfl⟩
        · (apply fN;(focus (exact aB));all_goals exact mG)
       |false=>
        rw [ht] at hT
        have e1:z7 c l line i=0:=by unfold z7;rw [if_pos h0,if_pos hp,Int.toNat_natCast,hg,ht];rfl
        have e2:kM c l line i=l.set (cF c line+i) ⟨0,line,.zero,true⟩:=by unfold kM;rw [e1,Int.toNat_natCast];rfl
        rw [e1,e2]
        repeat first|refine gd ?_|intro _|refine aD @hO ?_|refine aD @hP ?_|refine aD @hT ?_
        apply uC;rfl;(refine zJ (f:=cF c line) (i:=i) (j:=0) (w:=⟨0,line,.zero,true⟩) (by rfl) (by rfl) (by exact rS) (by rw [rT,Nat.add_mul]<;>rfl) (by exact inferInstance) (by exact inferInstance) (by rfl) (by rfl) hi2 (by decide) (by rfl));refine aN ?_
        repeat first|refine gd ?_|intro _
        (apply aA rfl rfl bB)
        · exact ⟨rfl,rfl⟩
        · (apply fN;(focus (exact aB));all_goals exact mG)
     · have e1:z7 c l line i=6:=by unfold z7;rw [if_pos h0,if_neg hp]
       have e2:kM c l line i=l:=by unfold kM;rw [e1];rfl
       rw [e1,e2]
       repeat first|refine gd ?_|intro _|refine aD @hO ?_|refine aD @hP ?_
       (apply aA rfl rfl bB)
       · exact ⟨rfl,rfl⟩
       · (apply fN;(focus (exact aB));all_goals exact mG)
   · have e1:z7 c l line way=1:=if_neg h0
     have e2:kM c l line way=l:=by unfold kM;rw [e1];rfl
     rw [e1,e2]
     by_cases h0':way<0
     · repeat first|refine gd ?_|intro _|refine aD @hO ?_
       (apply aA rfl rfl bB)
       · exact ⟨rfl,rfl⟩
       · (apply fN;(focus (exact aB));all_goals exact mG)
     · repeat first|refine gd ?_|intro _|refine aD @hO ?_
       (apply aA rfl rfl bB)
       · exact ⟨rfl,rfl⟩
       · (apply fN;(focus (exact aB));all_goals exact mG)
theorem b6o {F:List HP} {b:Nat} {c:Cfg} {l:List Way} {line:Int} {lk:Bool} (hw:c.wf) (hli:kP line) :
    FnF Tryz.prog 155 [.pointer (some ⟨b,0,none⟩),.int .i64 line,.bool lk] [a3l b c l] F (fun r L'=>r= .int .i64 (a4e c l line)∧L'=[a3l b c (gJ c l line lk)]):=by
  refine FnF.mk' Tryz.func155 rfl rfl Tryz.ntmps155 rfl ?_
  refine rU fun g hf=>?_
  obtain ⟨hc,hn⟩:=hf
  have hP:=fun F=>sY (F:=F) (b:=b) (g:=g) hw hli hc hn
  by_cases hp:bZ c l line= -1
  · rw [hp] at hP
    have e1:a4e c l line=5:=if_pos hp
    have e2:gJ c l line lk=l:=by unfold gJ;rw [e1];rfl
    rw [e1,e2]
    repeat first|refine gd ?_|intro _|refine aD @hP ?_
    (apply aA rfl rfl bB)
    · exact ⟨rfl,rfl⟩
    · (apply fN;(focus (exact aB));all_goals exact mG)
  · have h0:0≤bZ c l line:=by have:=(oY c l line).1;omega
    have hok:=z8 h0
    obtain ⟨i,hi,ei,_,_⟩:=vG h0
    obtain ⟨hi2,eg⟩:=l5 hok hi
    have e1:a4e c l line=0:=if_neg hp
    have ew:aT c l line=l[cF c line+i]:=by unfold aT;rw [if_neg (om),ei,Int.toNat_natCast,←eg];exact (kI hi).symm
    have e2:gJ c l line lk=l.set (cF c line+i) { l[cF c line+i] with lk:=lk}:=by unfold gJ;rw [e1,ei,Int.toNat_natCast,ew];rfl
    rw [e1,e2]
    rw [ei] at hP
    have hO:=fun F=>a2z (F:=F) (b:=b) (g:=g) hw hli hc hn hok
    haveI kr:=a8a (g:=g) (T:=121) hc hn hok
    repeat first|refine gd ?_|intro _|refine aD @hP ?_|refine aD @hO ?_
    apply uC;rfl;(refine zJ (f:=cF c line) (i:=i) (j:=10) (w:={ l[cF c line+i] with lk:=lk}) (by rfl) (by rfl) (by exact rS) (by rw [rT,Nat.add_mul]<;>rfl) (by exact inferInstance) (by exact inferInstance) (by rfl) (by rfl) hi2 (by decide) (by rfl));refine aN ?_
    repeat first|refine gd ?_|intro _
    (apply aA rfl rfl bB)
    · exact ⟨rfl,rfl⟩
    · (apply fN;(focus (exact aB));all_goals exact mG)
theorem c9d {F:List HP} {n:Int}:FnF Tryz.prog 235 [.int .i64 n] [] F (fun r L'=>r= .bool (!decide (n=0))∧L'=[]):=by
  refine FnF.mk' Tryz.func235 rfl rfl Tryz.ntmps235 rfl ?_
  by_cases h:n=0
  · repeat first|refine gd ?_|intro _
    (apply aA rfl rfl bB;(first|exact lW|exact ⟨by simp [h]<;>omega,rfl⟩);exact iC)
  · repeat first|refine gd ?_|intro _
    (apply aA rfl rfl bB;(first|exact lW|exact ⟨by simp [h]<;>omega,rfl⟩);exact iC)
theorem d6v {b T:Nat} {w:Words} {k:Nat} {F:List HP} {C:List Value→List HP} (hk:k≤8) (h:CellsAt b F T (wc w) C):RdL F 1 (cut (.slice (some ⟨b,0,none⟩) 8 8) k 8 8 1) (w.list.drop k).length (aC ic (w.list.drop k)):=by
  have k0:RdL F 1 (.slice (some ⟨b,0,none⟩) 8 8) 8 (wc w):=vM (o:=0) (m:=8) (c:=8) (sz:=1) (b:=b) h (by simp) (by rfl)
  have k1:=RdL.cut (l:=k) (h:=8) (m:=8) k0 hk (Nat.le_refl _) (Nat.le_refl _)
  have e1:(w.list.drop k).length=8-k:=by rw [List.length_drop];rfl
  have e2:((wc w).drop (k*1)).take ((8-k)*1)=aC ic (w.list.drop k):=by
    have h0:wc w=aC ic w.list:=rfl
    rw [h0,Nat.mul_one,Nat.mul_one]
    have:=eE (enc:=ic) (n:=1) (fun _=>rfl) w.list k
    rw [Nat.mul_one] at this
    rw [this,List.take_of_length_le (by rw [b1k,e1];exact Nat.le_refl _)]
  rw [e2] at k1
  rw [e1];exact k1
theorem d6w {F:List HP} {b g:Nat} {c:Cfg} {l:List Way} {w:Words} (hc:aF c=true) :
    FnF Tryz.prog 209 [.pointer (some ⟨b,0,none⟩),wv w] [e7k b g c l] F (fun r L'=>r= .bool (a4d c w)∧L'=[e7k b g c l]):=by
  obtain ⟨_,_,_,⟨k,hk,e⟩,_⟩:=cK hc
  have hb:=r9 hk
  have hwd:1≤c.words∧c.words≤8:=by rw [e];exact ⟨hb.1,by have:=hb.2;simpa using this⟩
  have hI:=fun F bw C (k:CellsAt bw F 97 (wc w) C)=>vN (F:=F) (v:=cut (.slice (some ⟨bw,0,none⟩) 8 8) c.words.toNat 8 8 1) (l:=w.list.drop c.words.toNat) (fk:=235) (first:=[]) (cap:=[]) (p:=fun n=> !decide (n=0)) (d6v (om) k) (by rw [List.length_drop];have:=Words.list_len w;omega) (fun x _=>c9d)
  refine FnF.mk' Tryz.func209 rfl rfl Tryz.ntmps209 rfl ?_
  repeat first|refine gd ?_|intro _|refine aD @hI ?_
  (apply aA rfl rfl bB;(first|exact lW|exact ⟨by simp [a4d]<;>omega,rfl⟩);exact iC)
theorem cU {Q P:Prop} (k:Q) (h:Hid Q→P:=by
  intro k
  first
  |(refine aG ?_;apply mT (id:=9) .true [] (pl:= .p 0 <| .p 1 <| .p 2 <| .p 4 <| .p 5 <| .e true [(3,.e true [(6,.p 7 <| .p 8 <| .e false [(9,.done)])]),(6,.e false [(3,.p 7 <| .p 8 <| .e false [(9,.done)])])]);exact pN;kernel_rfl;kernel_rfl;exact Ent.nil;exact k.out)):P:=h ⟨k⟩
theorem wH {F:List HP} {b:Nat} {c:Cfg} {l:List Way} {line st:Int} {w:Words} (hw:c.wf) (hli:kP line) :
    FnF Tryz.prog 167 [.pointer (some ⟨b,0,none⟩),.int .i64 line,.int .i64 st,wv w] [a3l b c l] F (fun r L'=>r= .int .i64 (pZ c l line st w)∧L'=[a3l b c (e7 c l line st w)]):=by
  refine FnF.mk' Tryz.func167 rfl rfl Tryz.ntmps167 rfl ?_
  refine rU fun g hf=>?_
  obtain ⟨hc,hn⟩:=hf
  have hP:=fun F=>sY (F:=F) (b:=b) (g:=g) hw hli hc hn
  have hOd:=fun F=>d6w (F:=F) (b:=b) (g:=g) (l:=l) (w:=w) hc
  by_cases hp:bZ c l line= -1
  · rw [hp] at hP
    have e1:pZ c l line st w=5:=if_pos hp
    have e2:e7 c l line st w=l:=by unfold e7;rw [e1];rfl
    rw [e1,e2]
    repeat first|refine go ?_|intro _|refine cU ?_|refine cM ?_|refine aD @hP ?_
    (apply aA rfl rfl bB)
    · exact ⟨rfl,rfl⟩
    · (apply fN;(focus (exact aB));all_goals exact mG)
  · have h0:0≤bZ c l line:=by have:=(oY c l line).1;omega
    have hok:=z8 h0
    obtain ⟨i,hi,ei,_,_⟩:=vG h0
    obtain ⟨hi2,eg⟩:=l5 hok hi
    have ew:aT c l line=l[cF c line+i]:=by unfold aT;rw [if_neg (om),ei,Int.toNat_natCast,←eg];exact (kI hi).symm
    rw [ei] at hP
    have hO:=fun F=>a2z (F:=F) (b:=b) (g:=g) hw hli hc hn hok
    haveI kr:=a8a (g:=g) (T:=121) hc hn hok
    by_cases hs:st<0∨st>4
    · have e1:pZ c l line st w=1:=by unfold pZ;rw [if_neg hp,if_pos (om)]
      have e2:e7 c l line st w=l:=by unfold e7;rw [e1];rfl
      rw [e1,e2]
      by_cases hs0:st<0
      · repeat first|refine go ?_|intro _|refine cU ?_|refine cM ?_|refine aD @hP ?_
        (apply aA rfl rfl bB)
        · exact ⟨rfl,rfl⟩
        · (apply fN;(focus (exact aB));all_goals exact mG)
      · repeat first|refine go ?_|intro _|refine cU ?_|refine cM ?_|refine aD @hP ?_
        (apply aA rfl rfl bB)
        · exact ⟨rfl,rfl⟩
        · (apply fN;(focus (exact aB));all_goals exact mG)
    · cases ho:a4d c w with
      |true=>
       rw [ho] at hOd
       have e1:pZ c l line st w=1:=by unfold pZ;rw [if_neg hp,if_pos (.inr (.inr ho))]
       have e2:e7 c l line st w=l:=by unfold e7;rw [e1];rfl
       rw [e1,e2]
       repeat first|refine go ?_|intro _|refine cU ?_|refine cM ?_|refine aD @hP ?_|refine aD @hOd ?_
       (apply aA rfl rfl bB)
       · exact ⟨rfl,rfl⟩
       · (apply fN;(focus (exact aB));all_goals exact mG)
      |false=>
       rw [ho] at hOd
       have e1:pZ c l line st w=0:=by unfold pZ;rw [if_neg hp,if_neg (by rw [ho];simp;omega)]
       by_cases hz:st=0
       · have e2:e7 c l line st w=l.set (cF c line+i) { l[cF c line+i] with st:=st,words:= .zero}:=by unfold e7;rw [e1,ei,Int.toNat_natCast,ew,if_pos hz];rfl
         rw [e1,e2]
         repeat' (first|refine go ?_|intro _|refine cU ?_|refine cM ?_|refine aD @hP ?_|refine aD @hOd ?_|refine aD @hO ?_|refine mH ?_ ?_|fail)
         · apply p4;rfl;exact GIn.none;(refine zJ (l:=l) (f:=cF c line) (i:=i) (j:=0) (w:={ l[cF c line+i] with st:=st}) (by rfl) (by rfl) (by exact rS) (by rw [rT,Nat.add_mul]<;>rfl) (by exact inferInstance) (by exact inferInstance) (by rfl) (by rfl) hi2 (by decide) (by rfl));refine aN ?_;(refine ⟨by first|exact After.free|exact After.turns rfl|(refine After.still ?_;exact iC;done),?_⟩)
           repeat first|refine go ?_|intro _|refine cU ?_|refine cM ?_
           apply p4;rfl;exact GIn.none;(refine zJ (l:=l.set (cF c line+i) { l[cF c line+i] with st:=st}) (f:=cF c line) (i:=i) (j:=2) (w:={ l[cF c line+i] with st:=st,words:= .zero}) (by rfl) (by rfl) (by exact rS) (by rw [rT,Nat.add_mul]<;>rfl) (by exact inferInstance) (by exact inferInstance) (by rfl) (by rfl) (by rw [List.length_set];exact hi2) (by decide) (by rw [List.getElem_set_self];rfl));refine aN ?_;(refine ⟨by first|exact After.free|exact After.turns rfl|(refine After.still ?_;exact iC;done),?_⟩)
           repeat first|refine go ?_|intro _|refine cU ?_|refine cM ?_
           rw [List.set_set]
           (apply aA rfl rfl bB)
           · exact ⟨rfl,rfl⟩
           · (apply fN;(focus (exact aB));all_goals exact mG)
         · apply p4;rfl;exact GIn.none;(refine zJ (l:=l) (f:=cF c line) (i:=i) (j:=0) (w:={ l[cF c line+i] with st:=st}) (by rfl) (by rfl) (by exact rS) (by rw [rT,Nat.add_mul]<;>rfl) (by exact inferInstance) (by exact inferInstance) (by rfl) (by rfl) hi2 (by decide) (by rfl));refine aN ?_;(refine ⟨by first|exact After.free|exact After.turns rfl|(refine After.still ?_;exact iC;done),?_⟩)
           repeat first|refine go ?_|intro _|refine cU ?_|refine cM ?_
           apply p4;rfl;exact GIn.none;(refine zJ (l:=l.set (cF c line+i) { l[cF c line+i] with st:=st}) (f:=cF c line) (i:=i) (j:=2) (w:={ l[cF c line+i] with st:=st,words:= .zero}) (by rfl) (by rfl) (by exact rS) (by rw [rT,Nat.add_mul]<;>rfl) (by exact inferInstance) (by exact inferInstance) (by rfl) (by rfl) (by rw [List.length_set];exact hi2) (by decide) (by rw [List.getElem_set_self];rfl));refine aN ?_;(refine ⟨by first|exact After.free|exact After.turns rfl|(refine After.still ?_;exact iC;done),?_⟩)
           repeat first|refine go ?_|intro _|refine cU ?_|refine cM ?_
           rw [List.set_set]
           (apply aA rfl rfl bB)
           · exact ⟨rfl,rfl⟩
           · (apply fN;(focus (exact aB));all_goals exact mG)
       · have e2:e7 c l line st w=l.set (cF c line+i) { l[cF c line+i] with st:=st,words:=w}:=by unfold e7;rw [e1,ei,Int.toNat_natCast,ew,if_neg hz];rfl
         rw [e1,e2]
         repeat' (first|refine go ?_|intro _|refine cU ?_|refine cM ?_|refine aD @hP ?_|refine aD @hOd ?_|refine aD @hO ?_|refine mH ?_ ?_|fail)
         · apply p4;rfl;exact GIn.none;(refine zJ (l:=l) (f:=cF c line) (i:=i) (j:=0) (w:={ l[cF c line+i] with st:=st}) (by rfl) (by rfl) (by exact rS) (by rw [rT,Nat.add_mul]<;>rfl) (by exact inferInstance) (by exact inferInstance) (by rfl) (by rfl) hi2 (by decide) (by rfl));refine aN ?_;(refine ⟨by first|exact After.free|exact After.turns rfl|(refine After.still ?_;exact iC;done),?_⟩)
           repeat first|refine go ?_|intro _|refine cU ?_|refine cM ?_
           apply p4;rfl;exact GIn.none;(refine zJ (l:=l.set (cF c line+i) { l[cF c line+i] with st:=st}) (f:=cF c line) (i:=i) (j:=2) (w:={ l[cF c line+i] with st:=st,words:=w}) (by rfl) (by rfl) (by exact rS) (by rw [rT,Nat.add_mul]<;>rfl) (by exact inferInstance) (by exact inferInstance) (by rfl) (by rfl) (by rw [List.length_set];exact hi2) (by decide) (by rw [List.getElem_set_self];rfl));refine aN ?_;(refine ⟨by first|exact After.free|exact After.turns rfl|(refine After.still ?_;exact iC;done),?_⟩)
           repeat first|refine go ?_|intro _|refine cU ?_|refine cM ?_
           rw [List.set_set]
           (apply aA rfl rfl bB)
           · exact ⟨rfl,rfl⟩
           · (apply fN;(focus (exact aB));all_goals exact mG)
         · apply p4;rfl;exact GIn.none;(refine zJ (l:=l) (f:=cF c line) (i:=i) (j:=0) (w:={ l[cF c line+i] with st:=st}) (by rfl) (by rfl) (by exact rS) (by rw [rT,Nat.add_mul]<;>rfl) (by exact inferInstance) (by exact inferInstance) (by rfl) (by rfl) hi2 (by decide) (by rfl));refine aN ?_;(refine ⟨by first|exact After.free|exact After.turns rfl|(refine After.still ?_;exact iC;done),?_⟩)
           repeat first|refine go ?_|intro _|refine cU ?_|refine cM ?_
           apply p4;rfl;exact GIn.none;(refine zJ (l:=l.set (cF c line+i) { l[cF c line+i] with st:=st}) (f:=cF c line) (i:=i) (j:=2) (w:={ l[cF c line+i] with st:=st,words:=w}) (by rfl) (by rfl) (by exact rS) (by rw [rT,Nat.add_mul]<;>rfl) (by exact inferInstance) (by exact inferInstance) (by rfl) (by rfl) (by rw [List.length_set];exact hi2) (by decide) (by rw [List.getElem_set_self];rfl));refine aN ?_;(refine ⟨by first|exact After.free|exact After.turns rfl|(refine After.still ?_;exact iC;done),?_⟩)
           repeat first|refine go ?_|intro _|refine cU ?_|refine cM ?_
           rw [List.set_set]
           (apply aA rfl rfl bB)
           · exact ⟨rfl,rfl⟩
           · (apply fN;(focus (exact aB));all_goals exact mG)
end
section
def bT (c:Cfg) (l:List Way):Prop:=
  ∀ i (h:i<l.length),c6 l[i]=true→aP c l[i].line=true∧cF c l[i].line≤i∧i<cF c l[i].line+c.ways.toNat∧∀ j (hj:j<l.length),c6 l[j]=true→l[j].line=l[i].line→j=i
theorem jX {line:Int} {w:Way}:oX line w=true↔c6 w=true∧w.line=line:=by simp [oX]
theorem oZ {c:Cfg} {l:List Way} {line:Int} {i:Nat} (hi:bZ c l line=i):∃ h:cF c line+i<l.length,aP c line=true∧oX line l[cF c line+i]=true∧i<c.ways.toNat:=by
  obtain ⟨k,hk,e,h1,_⟩:=vG (by omega:0≤bZ c l line)
  have hki:k=i:=by omega
  subst hki
  have hok:=z8 (by omega:0≤bZ c l line)
  obtain ⟨h2,e2⟩:=l5 hok hk
  refine ⟨h2,hok,e2▸h1,?_⟩
  rw [lF hok,List.length_take] at hk
  omega
theorem c2r {c:Cfg} {l:List Way} {line:Int} (h:bZ c l line<0):∀ i,i<c.ways.toNat→aP c line=true→∀ h:cF c line+i<l.length,oX line l[cF c line+i]=false:=by
  intro i hi hok hl
  have h2:=(dY (by unfold bZ at h;omega:¬0≤aV (oX line) (cN c l line))).2
  have hk:i<(cN c l line).length:=by rw [lF hok,List.length_take,List.length_drop];omega
  have:=h2 _ (List.getElem_mem hk)
  obtain ⟨_,e2⟩:=l5 hok hk
  rw [e2] at this;exact this
theorem b9b (c:Cfg) (n:Nat):bT c (List.replicate n .zero):=by
  intro i h ht
  rw [List.getElem_replicate] at ht
  cases ht
theorem a1n {c:Cfg} {l:List Way} {k:Nat} {w:Way} (hI:bT c l) (hk:k<l.length) (h:c6 w=true→aP c w.line=true∧cF c w.line≤k∧k<cF c w.line+c.ways.toNat∧∀ j (hj:j<l.length),c6 l[j]=true→l[j].line=w.line→j=k):bT c (l.set k w):=by
  intro i hi ht
  rw [List.length_set] at hi
  by_cases e:k=i
  · subst e
    rw [List.getElem_set_self] at ht ⊢
    obtain ⟨h1,h2,h3,h4⟩:=h ht
    refine ⟨h1,h2,h3,fun j hj htj hlj=>?_⟩
    rw [List.length_set] at hj
    by_cases e2:k=j
    · exact e2.symm
    · rw [List.getElem_set_ne e2] at htj hlj
      exact h4 j hj htj hlj
  · rw [List.getElem_set_ne e] at ht ⊢
    obtain ⟨h1,h2,h3,h4⟩:=hI i hi ht
    refine ⟨h1,h2,h3,fun j hj htj hlj=>?_⟩
    rw [List.length_set] at hj
    by_cases e2:k=j
    · subst e2
      rw [List.getElem_set_self] at htj hlj
      exact ((h htj).2.2.2 i hi ht hlj.symm).symm
    · rw [List.getElem_set_ne e2] at htj hlj
      exact h4 j hj htj hlj
theorem jY {c:Cfg} {l:List Way} {line:Int} {i:Nat} (hi:bZ c l line=i) (h2:cF c line+i<l.length):aT c l line=l[cF c line+i]:=by
  obtain ⟨k,hk,e,_,_⟩:=vG (by omega:0≤bZ c l line)
  have hki:k=i:=by omega
  subst hki
  have hok:=z8 (by omega:0≤bZ c l line)
  obtain ⟨_,e2⟩:=l5 hok hk
  unfold aT;rw [if_neg (om),hi,Int.toNat_natCast,←e2];exact (kI hk).symm
theorem a6x {c:Cfg} {l:List Way} {line way:Int} (hI:bT c l):bT c (kM c l line way):=by
  unfold kM
  split
  · rename_i h
    unfold z7 at h
    split at h
    · rename_i h0
      split at h
      · rename_i hp
        have hok:aP c line=true:=by
          cases e:aP c line with
          |true=>rfl
          |false=>rw [mZ e] at h0;simp at h0;omega
        obtain ⟨k,hk⟩:∃ k:Nat,way=k:=⟨way.toNat,om⟩
        subst hk
        obtain ⟨h2,_⟩:=l5 hok (show k<(cN c l line).length by omega)
        have hkw:k<c.ways.toNat:=by have:=h0.2;rw [lF hok,List.length_take] at this;omega
        rw [Int.toNat_natCast]
        refine a1n hI h2 fun _=>⟨hok,by dsimp only;omega,by dsimp only;omega,fun j hj ht hl=>?_⟩
        exfalso
        dsimp only at hl
        obtain ⟨a1,a2,a3,_⟩:=hI j hj ht
        rw [hl] at a1 a2 a3
        have:=c2r (by omega:bZ c l line<0) (j-cF c line) (om) a1 (om)
        simp only [show cF c line+(j-cF c line)=j by omega] at this
        rw [jX.2 ⟨ht,hl⟩] at this;cases this
      · cases h
    · cases h
  · exact hI
theorem zK {c:Cfg} {l:List Way} {line:Int} {w:Way} (hI:bT c l) (hp:¬bZ c l line= -1) (hl:w.line=(aT c l line).line):bT c (l.set (cF c line+(bZ c l line).toNat) w):=by
  have h0:0≤bZ c l line:=by have:=(oY c l line).1;omega
  obtain ⟨i,hi⟩:∃ i:Nat,bZ c l line=i:=⟨(bZ c l line).toNat,om⟩
  obtain ⟨h2,hok,h3,h4⟩:=oZ hi
  have hf:=jY hi h2
  rw [hi,Int.toNat_natCast]
  obtain ⟨g1,g2⟩:=jX.1 h3
  have hinv:=hI _ h2 g1
  refine a1n hI h2 fun _=>?_
  have e:w.line=l[cF c line+i].line:=by rw [hl,hf]
  rw [e]
  exact hinv
theorem vH {c:Cfg} {l:List Way} {line st:Int} {w:Words} (hI:bT c l):bT c (e7 c l line st w):=by
  unfold e7
  split
  · rename_i h
    refine zK hI (fun hp=>?_) rfl
    unfold pZ at h;rw [if_pos hp] at h;cases h
  · exact hI
theorem a9j {c:Cfg} {l:List Way} {line:Int} {lk:Bool} (hI:bT c l):bT c (gJ c l line lk):=by
  unfold gJ
  split
  · rename_i h
    refine zK hI (fun hp=>?_) rfl
    unfold a4e at h;rw [if_pos hp] at h;cases h
  · exact hI
theorem c9e {c:Cfg} {l:List Way} {line way:Int}:(kM c l line way).length=l.length:=by unfold kM;split<;>simp
end
section
theorem wI {c:Cfg} {l:List Way} {line:Int} (hI:bT c l) {k:Nat} (hk:k<l.length) (h:oX line l[k]=true):cF c line≤k∧bZ c l line=((k-cF c line:Nat):Int):=by
  obtain ⟨h1,h2⟩:=jX.1 h
  obtain ⟨a1,a2,a3,a4⟩:=hI k hk h1
  rw [h2] at a1 a2 a3
  refine ⟨a2,?_⟩
  by_cases hneg:bZ c l line<0
  · exfalso
    have:=c2r hneg (k-cF c line) (om) a1 (om)
    simp only [show cF c line+(k-cF c line)=k by omega] at this
    rw [this] at h;cases h
  · obtain ⟨i,hi⟩:∃ i:Nat,bZ c l line=i:=⟨(bZ c l line).toNat,om⟩
    obtain ⟨b1,_,b2,_⟩:=oZ hi
    obtain ⟨b3,b4⟩:=jX.1 b2
    have:=a4 _ b1 b3 (by rw [b4,h2])
    omega
theorem b2h {c:Cfg} {l:List Way} {line:Int} (h:∀ k (hk:k<l.length),oX line l[k]=false):bZ c l line= -1:=by
  by_cases hneg:bZ c l line<0
  · have:=(oY c l line).1;omega
  · obtain ⟨i,hi⟩:∃ i:Nat,bZ c l line=i:=⟨(bZ c l line).toNat,om⟩
    obtain ⟨b1,_,b2,_⟩:=oZ hi
    rw [h _ b1] at b2;cases b2
theorem d6x {c:Cfg} {l:List Way} {line:Int} (hI:bT c l) (h:bZ c l line<0) {j:Nat} (hj:j<l.length):oX line l[j]=false:=by
  cases e:oX line l[j] with
  |false=>rfl
  |true=>have:=(wI hI hj e).2;omega
theorem a4h {c:Cfg} {l:List Way} {line:Int} {k:Nat} {w:Way} (hI:bT c l) (hI2:bT c (l.set k w)) (hk:k<l.length) (h1:oX line l[k]=false) (h2:oX line w=false) :
    bZ c (l.set k w) line=bZ c l line∧aT c (l.set k w) line=aT c l line:=by
  by_cases hneg:bZ c l line<0
  · have e1:bZ c l line= -1:=by have:=(oY c l line).1;omega
    have e2:bZ c (l.set k w) line= -1:=b2h fun j hj=>by
      rw [List.length_set] at hj
      by_cases e:k=j
      · subst e;rw [List.getElem_set_self];exact h2
      · rw [List.getElem_set_ne e];exact d6x hI hneg hj
    refine ⟨by rw [e1,e2],?_⟩
    unfold aT
    rw [if_pos (om),if_pos (om)]
  · obtain ⟨i,hi⟩:∃ i:Nat,bZ c l line=i:=⟨(bZ c l line).toNat,om⟩
    obtain ⟨b1,_,b2,_⟩:=oZ hi
    have hne:k≠cF c line+i:=fun e=>by subst e;rw [b2] at h1;cases h1
    have b3:cF c line+i<(l.set k w).length:=by rw [List.length_set];exact b1
    have b4:(l.set k w)[cF c line+i]=l[cF c line+i]:=List.getElem_set_ne hne _
    have e2:bZ c (l.set k w) line=i:=by
      rw [(wI hI2 b3 (by rw [b4];exact b2)).2];omega
    exact ⟨by rw [hi,e2],by rw [jY e2 b3,b4,jY hi b1]⟩
theorem c9f {line line':Int} {w:Way} (h:oX line' w=true) (hne:line'≠line):oX line w=false:=by
  cases e:oX line w with
  |false=>rfl
  |true=>exact absurd ((jX.1 h).2.symm.trans (jX.1 e).2) hne
theorem c5i {c:Cfg} {l:List Way} {line line' way:Int} (hI:bT c l) (hx:line'≠line):bZ c (kM c l line' way) line=bZ c l line∧aT c (kM c l line' way) line=aT c l line:=by
  have hI2:=a6x (line:=line') (way:=way) hI
  unfold kM at hI2 ⊢
  by_cases h:z7 c l line' way=0
  · rw [if_pos h] at hI2 ⊢
    unfold z7 at h
    split at h
    · rename_i h0
      split at h
      · split at h
        · cases h
        · rename_i hp ht
          have hok:aP c line'=true:=by
            cases e:aP c line' with
            |true=>rfl
            |false=>rw [mZ e] at h0;simp at h0;omega
          obtain ⟨k,hk⟩:∃ k:Nat,way=k:=⟨way.toNat,om⟩
          subst hk
          have hkl:k<(cN c l line').length:=by omega
          obtain ⟨h2,eg⟩:=l5 hok hkl
          rw [Int.toNat_natCast,←kI hkl,eg] at ht
          rw [Int.toNat_natCast] at hI2 ⊢
          refine a4h hI hI2 h2 ?_ ?_
          · simp [oX,ht]
          · simp [oX,hx]
      · cases h
    · cases h
  · rw [if_neg h];exact ⟨rfl,rfl⟩
theorem a4i {c:Cfg} {l:List Way} {line line':Int} {w:Way} (hI:bT c l) (hp:¬bZ c l line'= -1) (hl:w.line=(aT c l line').line) (hx:line'≠line) :
    bZ c (l.set (cF c line'+(bZ c l line').toNat) w) line=bZ c l line∧aT c (l.set (cF c line'+(bZ c l line').toNat) w) line=aT c l line:=by
  have hI2:=zK hI hp hl
  have h0:0≤bZ c l line':=by have:=(oY c l line').1;omega
  obtain ⟨i,hi⟩:∃ i:Nat,bZ c l line'=i:=⟨(bZ c l line').toNat,om⟩
  obtain ⟨b1,_,b2,_⟩:=oZ hi
  rw [jY hi b1] at hl
  rw [hi,Int.toNat_natCast] at hI2 ⊢
  refine a4h hI hI2 b1 (c9f b2 hx) ?_
  have:=(jX.1 b2).2
  simp [oX,hl,this,hx]
theorem c5j {c:Cfg} {l:List Way} {line line' st:Int} {w:Words} (hI:bT c l) (hx:line'≠line):bZ c (e7 c l line' st w) line=bZ c l line∧aT c (e7 c l line' st w) line=aT c l line:=by
  unfold e7
  split
  · rename_i h
    exact a4i hI (fun hp=>by unfold pZ at h;rw [if_pos hp] at h;cases h) rfl hx
  · exact ⟨rfl,rfl⟩
theorem b9c {c:Cfg} {l:List Way} {line line':Int} {lk:Bool} (hI:bT c l) (hx:line'≠line):bZ c (gJ c l line' lk) line=bZ c l line∧aT c (gJ c l line' lk) line=aT c l line:=by
  unfold gJ
  split
  · rename_i h
    exact a4i hI (fun hp=>by unfold a4e at h;rw [if_pos hp] at h;cases h) rfl hx
  · exact ⟨rfl,rfl⟩
theorem a9k {c:Cfg} {l:List Way} {line:Int} {i:Nat} {w:Way} (hI:bT c l) (hi:bZ c l line=i) (hl:w.line=line) :
    (c6 w=true→bZ c (l.set (cF c line+i) w) line=i∧aT c (l.set (cF c line+i) w) line=w)∧(c6 w=false→bZ c (l.set (cF c line+i) w) line= -1):=by
  obtain ⟨b1,_,b2,_⟩:=oZ hi
  have hfl:=(jX.1 b2).2
  have hI2:=zK (w:=w) hI (by omega:¬bZ c l line= -1) (by rw [jY hi b1,hfl,hl])
  rw [hi,Int.toNat_natCast] at hI2
  have b3:cF c line+i<(l.set (cF c line+i) w).length:=by rw [List.length_set];exact b1
  constructor
  · intro ht
    have e2:bZ c (l.set (cF c line+i) w) line=i:=by
      rw [(wI hI2 b3 (by rw [List.getElem_set_self];exact jX.2 ⟨ht,hl⟩)).2];omega
    exact ⟨e2,by rw [jY e2 b3,List.getElem_set_self]⟩
  · intro ht
    refine b2h fun j hj=>?_
    rw [List.length_set] at hj
    by_cases e:cF c line+i=j
    · subst e;rw [List.getElem_set_self];simp [oX,ht]
    · rw [List.getElem_set_ne e]
      cases ej:oX line l[j] with
      |false=>rfl
      |true=>have:=wI hI hj ej;omega
theorem a0v {c:Cfg} {l:List Way} {line:Int} {i:Nat} (hi:bZ c l line=i):(aT c l line).line=line:=by
  obtain ⟨b1,_,b2,_⟩:=oZ hi
  rw [jY hi b1]
  exact (jX.1 b2).2
theorem z9 {c:Cfg} {l:List Way} {line:Int} {i:Nat} (hi:bZ c l line=i):iQ c l line=true∧xX c l line=i:=by
  unfold iQ xX
  rw [hi]
  exact ⟨by simp,if_neg (om)⟩
theorem a0w {c:Cfg} {l:List Way} {line:Int} (hi:bZ c l line= -1):iQ c l line=false∧xX c l line=0∧aT c l line= .zero:=by
  unfold iQ xX aT
  rw [hi]
  exact ⟨rfl,rfl,rfl⟩
theorem c9g {c:Cfg} {l:List Way} {line st:Int} {w:Words} (hI:bT c l) (he:pZ c l line st w=0) :
    iQ c l line=true∧(((aT c l line).lk=true∨st≠0)→iQ c (e7 c l line st w) line=true∧xX c (e7 c l line st w) line=xX c l line∧aT c (e7 c l line st w) line=⟨st,line,if st=0 then .zero else w,(aT c l line).lk⟩)∧
    (((aT c l line).lk=false∧st=0)→iQ c (e7 c l line st w) line=false∧xX c (e7 c l line st w) line=0∧aT c (e7 c l line st w) line= .zero):=by
  have hp:¬bZ c l line= -1:=fun hp=>by unfold pZ at he;rw [if_pos hp] at he;cases he
  have h0:0≤bZ c l line:=by have:=(oY c l line).1;omega
  obtain ⟨i,hi⟩:∃ i:Nat,bZ c l line=i:=⟨(bZ c l line).toNat,om⟩
  have hl:=a0v hi
  have e1:e7 c l line st w=l.set (cF c line+i) { aT c l line with st:=st,words:=if st=0 then .zero else w}:=by
    unfold e7;rw [if_pos he,hi,Int.toNat_natCast]
  rw [e1]
  obtain ⟨t1,t2⟩:=a9k (w:={ aT c l line with st:=st,words:=if st=0 then .zero else w}) hI hi hl
  refine ⟨(z9 hi).1,fun h=>?_,fun h=>?_⟩
  · obtain ⟨u1,u2⟩:=t1 (by rcases h with h|h<;>simp [c6,h])
    refine ⟨(z9 u1).1,by rw [(z9 u1).2,(z9 hi).2],?_⟩
    rw [u2]
    show (⟨st,(aT c l line).line,_,_⟩:Way)=_
    rw [hl]
  · exact a0w (t2 (by simp [c6,h.1,h.2]))
end
section
def e2j (m:Miss):Prop:=(m.kind=1∨m.kind=2)∧ -1≤m.needs∧0≤m.got∧(0≤m.needs→m.got≤m.needs)
attribute [local irreducible] Exit.then Exit.inBlock Code.wp WC WO WE WQ V bF tV d3 bW dF uH IntKind.wrap WR Code.rounds WT KO
end
section
inductive AM (W:Type) where
  |get (k r:Int)
  |put (r:Int) (w:W)
  |fwd (k o r n:Int)
  |inv (c r:Int)
  |data (r own n:Int) (w:W)
  |grant (r n:Int)
  |ack (r:Int)
  |pack (r:Int)
  |done (r:Int)
structure AMs (W:Type) where
  kind:Int
  needs:Int
  got:Int
  own:Int
  w:W
  gr:Bool
  ow:Bool
section
variable {W:Type}
def a4j (r:Int):AM W→Bool| .get _ r'=>decide (r'=r)|_=>false
def o6 (r:Int):AM W→Bool| .put r' _=>decide (r'=r)|_=>false
def n5 (r:Int):AM W→Bool| .pack r'=>decide (r'=r)|_=>false
def bQ:AM W→Bool| .fwd .. =>true| .data .. =>true| .grant .. =>true|_=>false
def qF:AM W→Bool| .inv .. =>true| .ack .. =>true|_=>false
def cH:AM W→Bool| .done .. =>true|_=>false
def a9l:AM W→Int| .fwd _ _ r _=>r| .data r _ _ _=>r| .grant r _=>r|_=>0
def b9d:AM W→Int| .fwd _ _ _ n=>n| .data _ _ n _=>n| .grant _ n=>n|_=>0
structure LV (W:Type) where
  st:Int→Int
  wd:Int→W
  ms:Int→Option (AMs W)
  bf:Int→Option (W×Bool)
  rq:List (AM W)
  fly:List (AM W)
  act:Option (Int×Int)
  o:Int
  sh:Int→Bool
  mem:W
  now:W
def LV.cg (v:LV W) (r:Int):Nat:=v.rq.countP (a4j r)
def LV.cp (v:LV W) (r:Int):Nat:=v.rq.countP (o6 r)
def LV.ck (v:LV W) (r:Int):Nat:=v.fly.countP (n5 r)
def LV.ct (v:LV W):Nat:=v.fly.countP bQ
def LV.ci (v:LV W):Nat:=v.fly.countP qF
def LV.cd (v:LV W):Nat:=v.fly.countP cH
def LV.holds (v:LV W) (c:Int):Prop:=2≤v.st c∨∃ w,v.bf c=some (w,true)∧v.cp c=1
def LV.busy (v:LV W) (r:Int):Prop:=∃ k,v.act=some (k,r)∧v.cd=0
structure LI (v:LV W):Prop where
  rqk:∀ x∈v.rq,(∃ k r,x= .get k r)∨∃ r w,x= .put r w:=by intro x hx;have:=h.rqk x;exact bP
  g0:∀ r,v.ms r=none→v.cg r=0:=by intro r1 h1;have:=h.g0 r1;exact bP
  g1:∀ r m,v.ms r=some m→¬v.busy r→v.cg r=1∧m.needs= -1∧m.got=0∧m.gr=false∧m.ow=false:=by intro r1 m1 h1 h2;have:=h.g1 r1 m1;exact bP
  gk:∀ k r,.get k r∈v.rq→∃ m,v.ms r=some m∧m.kind=k:=by intro k1 r1 h1;have:=h.gk k1 r1;exact bP
  gA:∀ r,v.busy r→v.cg r=0:=by intro r1 h1;have:=h.gA r1;exact bP
  aK:∀ k r,v.act=some (k,r)→(k=1∨k=2)∧0≤r:=by intro k1 r1 h1;have:=h.aK k1 r1;exact bP
  mK:∀ r m,v.ms r=some m→m.kind=1∨m.kind=2:=by intro r1 m1 h1;have:=h.mK r1 m1;exact bP
  ml:∀ r m,v.ms r=some m→m.ow=false→(m.kind=1→v.st r=0)∧(m.kind=2→v.st r≠2∧v.st r≠4):=by intro r1 m1 h1 h2;have:=h.ml r1 m1;exact bP
  b0:∀ r,v.bf r=none→v.cp r=0∧v.ck r=0:=by intro r1 h1;have:=h.b0 r1;exact bP
  b1:∀ r w l,v.bf r=some (w,l)→v.cp r+v.ck r=1∧v.st r=0∧v.ms r=none:=by intro r1 w1 l1 h1;have:=h.b1 r1 w1 l1;exact bP
  bw:∀ r w,.put r w∈v.rq→∃ l,v.bf r=some (w,l):=by intro r1 w1 h1;have:=h.bw r1 w1;exact bP
  bl:∀ r w,v.bf r=some (w,true)→v.cp r=1→w=v.now∧(v.o=r∨∃ r' n,.fwd 2 r r' n∈v.fly):=by intro r1 w1 h1 h2;have:=h.bl r1 w1;exact bP
  f0:v.act=none→∀ x∈v.fly,∃ r,x= .pack r:=by intro h1 x hx;have:=h.f0;exact bP
  f1:∀ r,v.act=some (1,r)→∀ x∈v.fly,(∃ c,x= .pack c)∨(∃ o,x= .fwd 1 o r 0)∨(∃ own w,x= .data r own 0 w∧(own=1∨own=2))∨x= .done r:=by intro r1 h1 x hx;have:=h.f1 r1;exact bP
  f2:∀ r,v.act=some (2,r)→∀ x∈v.fly,(∃ c,x= .pack c)∨(∃ o n,x= .fwd 2 o r n)∨(∃ n w,x= .data r 4 n w)∨(∃ n,x= .grant r n)∨(∃ c,x= .inv c r)∨x= .ack r∨x= .done r:=by intro r1 h1 x hx;have:=h.f2 r1;exact bP
  p:∀ k r,v.act=some (k,r)→
   (∃ m,v.ms r=some m∧m.kind=k∧m.needs= -1∧0≤m.got∧m.ow=false∧m.gr=false∧v.ct=1∧v.cd=0∧∀ x∈v.fly,bQ x=true→b9d x=m.got+v.ci)
   ∨(∃ m,v.ms r=some m∧m.kind=k∧0≤m.got∧m.needs=m.got+v.ci∧m.ow=false∧v.ct=0∧v.cd=0∧(k=1→m.own=1∨m.own=2)∧(k=2→m.own=4)∧(m.gr=false→m.w=v.now)∧(m.gr=true→k=2∧v.st r=3)
    ∧(m.own=1→(∀ c,v.st c≠2∧v.st c≠4)∧v.sh r=true∧v.o≠r)∧(m.own=2→(∀ c,v.st c=0)∧v.o=r)∧(m.own=4→v.o=r∧(m.gr=false→∀ c,v.st c<2)))
   ∨(∃ m,v.ms r=some m∧m.kind=k∧0≤m.got∧m.needs=m.got∧m.ow=true∧v.ct=0∧v.cd=0∧v.ci=0∧(k=1→v.st r≠0)∧(k=2→2≤v.st r))
   ∨(v.ct=0∧v.cd=1∧v.ci=0):=by intro k1 r1 h1;have:=h.p k1 r1;exact bP
  a2:∀ r,v.act=some (2,r)→v.o=r∧∀ c,v.sh c=false:=by intro r1 h1;have:=h.a2 r1;exact bP
  tf:∀ k o r n,.fwd k o r n∈v.fly→o≠r∧v.st r<2∧v.holds o∧(k=1→v.o=o∧v.sh r=true)∧(k=2→v.o=r):=by intro k1 o1 r1 n1 h1;have:=h.tf k1 o1 r1 n1;exact bP
  td:∀ r own n w,.data r own n w∈v.fly→w=v.now∧(own=1∨own=2∨own=4)∧(own=1→(∀ c,v.st c≠2∧v.st c≠4)∧v.sh r=true∧v.o≠r)∧(own=2→(∀ c,v.st c=0)∧v.o=r)∧(own=4→(∀ c,v.st c<2)∧v.o=r):=by intro r1 own1 n1 w1 h1;have:=h.td r1 own1 n1 w1;exact bP
  tg:∀ r n,.grant r n∈v.fly→v.st r=3∧v.o=r:=by intro r1 n1 h1;have:=h.tg r1 n1;exact bP
  iv:∀ c r,.inv c r∈v.fly→c≠r∧v.st c<2:=by intro c1 r1 h1;have:=h.iv c1 r1;exact bP
  e:∀ c,2≤v.st c→v.o=c∨∃ r n,.fwd 2 c r n∈v.fly:=by intro c1 h1;have:=h.e c1;exact bP
  h:v.o≠ -1→v.holds v.o∨(∃ own n w,own≠1∧ .data v.o own n w∈v.fly)∨(∃ o' n,.fwd 2 o' v.o n∈v.fly)∨∃ m,v.ms v.o=some m∧m.needs≠ -1∧m.ow=false:=by intro h1;have:=h.h;exact bP
  s:∀ c,v.st c=2∨v.st c=4→∀ c',c'≠c→v.st c'=0:=by intro c1 h1 c2 h2;have:=h.s c1;exact bP
  wn:∀ c,v.st c≠0→v.wd c=v.now:=by intro c1 h1;have:=h.wn c1;exact bP
  mn:v.o= -1→v.mem=v.now:=by intro h1;have:=h.mn;exact bP
  k:∀ c,v.st c≠0→v.o=c∨v.sh c=true∨∃ r,v.act=some (2,r)∧(.inv c r∈v.fly∨∃ n,.fwd 2 c r n∈v.fly):=by intro c1 h1;have:=h.k c1;exact bP
  r:∀ c,0≤v.st c∧v.st c≤4:=by intro c1;have:=h.r c1;exact bP
  rg:∀ c,c<0→v.st c=0∧v.bf c=none∧v.ms c=none:=by intro c1 h1;have:=h.rg c1;exact bP
theorem bX {l l':List (AM W)} {x:AM W} (h:l.Perm (x::l')) (p:AM W→Bool):l.countP p=l'.countP p+if p x=true then 1 else 0:=by
  rw [h.countP_eq,List.countP_cons]
theorem nQ {l l':List (AM W)} {x:AM W} (h:l.Perm (x::l')) (y:AM W):y∈l↔y=x∨y∈l':=by
  rw [h.mem_iff,List.mem_cons]
section
variable {v v':LV W} {R:List (AM W)} {b:AM W}
theorem o7 (h:v.fly.Perm (b::R)):(∀ y,y∈v.fly↔y=b∨y∈R)∧(∀ x,v.ck x=R.countP (n5 x)+if n5 x b=true then 1 else 0)∧(v.ct=R.countP (bQ)+if bQ b=true then 1 else 0)∧(v.ci=R.countP (qF)+if qF b=true then 1 else 0)∧v.cd=R.countP (cH)+if cH b=true then 1 else 0:=⟨fun y=>nQ h y,fun x=>bX h _,bX h _,bX h _,bX h _⟩
theorem b3t (h:v'.fly.Perm (b::v.fly)):(∀ y,y∈v'.fly↔y=b∨y∈v.fly)∧(∀ x,v'.ck x=v.ck x+if n5 x b=true then 1 else 0)∧(v'.ct=v.ct+if bQ b=true then 1 else 0)∧(v'.ci=v.ci+if qF b=true then 1 else 0)∧v'.cd=v.cd+if cH b=true then 1 else 0:=⟨fun y=>nQ h y,fun x=>bX h _,bX h _,bX h _,bX h _⟩
theorem b3u (h:v'.fly.Perm v.fly):(∀ y,y∈v'.fly↔y∈v.fly)∧(∀ x,v'.ck x=v.ck x)∧v'.ct=v.ct∧v'.ci=v.ci∧v'.cd=v.cd:=⟨fun y=>h.mem_iff,fun x=>h.countP_eq _,h.countP_eq _,h.countP_eq _,h.countP_eq _⟩
theorem b9e (h:v'.fly.Perm R):(∀ y,y∈v'.fly↔y∈R)∧(∀ x,v'.ck x=R.countP (n5 x))∧v'.ct=R.countP (bQ)∧v'.ci=R.countP (qF)∧v'.cd=R.countP (cH):=⟨fun y=>h.mem_iff,fun x=>h.countP_eq _,h.countP_eq _,h.countP_eq _,h.countP_eq _⟩
theorem a1o (h:v'.rq.Perm v.rq):(∀ y,y∈v'.rq↔y∈v.rq)∧(∀ x,v'.cg x=v.cg x)∧∀ x,v'.cp x=v.cp x:=⟨fun y=>h.mem_iff,fun x=>h.countP_eq _,fun x=>h.countP_eq _⟩
theorem c2s (h:v'.rq.Perm R):(∀ y,y∈v'.rq↔y∈R)∧(∀ x,v'.cg x=R.countP (a4j x))∧∀ x,v'.cp x=R.countP (o6 x):=⟨fun y=>h.mem_iff,fun x=>h.countP_eq _,fun x=>h.countP_eq _⟩
theorem c2t (h:v.rq.Perm (b::R)):(∀ y,y∈v.rq↔y=b∨y∈R)∧(∀ x,v.cg x=R.countP (a4j x)+if a4j x b=true then 1 else 0)∧∀ x,v.cp x=R.countP (o6 x)+if o6 x b=true then 1 else 0:=⟨fun y=>nQ h y,fun x=>bX h _,fun x=>bX h _⟩
end
theorem qO {l:List (AM W)} {x:AM W} {p:AM W→Bool} (hx:x∈l) (hp:p x=true):1≤l.countP p:=List.countP_pos_iff.2 ⟨x,hx,hp⟩
theorem d6y {l:List (AM W)} {p:AM W→Bool} (h:l.countP p≤1) {x y:AM W} (hx:x∈l) (hy:y∈l) (px:p x=true) (py:p y=true):x=y:=by
  induction l with
  |nil=>cases hx
  |cons a l ih=>
   rw [List.countP_cons] at h
   rcases List.mem_cons.1 hx with rfl|hx'
   · rcases List.mem_cons.1 hy with rfl|hy'
     · rfl
     · have:=qO hy' py
       rw [if_pos px] at h;omega
   · rcases List.mem_cons.1 hy with rfl|hy'
     · have:=qO hx' px
       rw [if_pos py] at h;omega
     · exact ih (om) hx' hy'
theorem e3h {v:LV W} {r:Int} {w:W} (hx: .put r w∈v.rq):1≤v.cp r:=qO hx (by simp [o6])
theorem e3i {v:LV W} {k r:Int} (hx: .get k r∈v.rq):1≤v.cg r:=qO hx (by simp [a4j])
theorem a3a {v:LV W} {x:AM W} (hx:x∈v.fly) (hp:bQ x=true):1≤v.ct:=qO hx hp
theorem b3v {v:LV W} {x:AM W} (hx:x∈v.fly) (hp:qF x=true):1≤v.ci:=qO hx hp
theorem d4e {v:LV W} {x:AM W} (hx:x∈v.fly) (hp:cH x=true):1≤v.cd:=qO hx hp
theorem kD {v:LV W} (h:LI v) {x:AM W} (hx:x∈v.fly) (ht:bQ x=true):∃ k r m,v.act=some (k,r)∧0≤r∧v.ms r=some m∧m.kind=k∧m.needs= -1∧m.ow=false∧m.gr=false∧0≤m.got∧v.ct=1∧v.cd=0∧b9d x=m.got+v.ci∧a9l x=r:=by
  have h1:=a3a hx ht
  cases e:v.act with
  |none=>obtain ⟨r,rfl⟩:=h.f0 e x hx;simp [bQ] at ht
  |some a=>
   obtain ⟨k,r⟩:=a
   obtain ⟨hk,hr⟩:=h.aK k r e
   rcases h.p k r e with ⟨m,g1,g2,g3,g4,g5,g6,g7,g8,g9⟩|⟨m,g⟩|⟨m,g⟩|g
   · refine ⟨k,r,m,rfl,hr,g1,g2,g3,g5,g6,g4,g7,g8,g9 x hx ht,?_⟩
     rcases hk with rfl|rfl
     · have:=h.f1 r e x hx;grind [bQ,a9l]
     · have:=h.f2 r e x hx;grind [bQ,a9l]
   · omega
   · omega
   · omega
theorem d6z {v:LV W} (h:LI v) {x y:AM W} (hx:x∈v.fly) (hy:y∈v.fly) (tx:bQ x=true) (ty:bQ y=true):x=y:=by
  obtain ⟨_,_,_,_,_,_,_,_,_,_,_,h1,_⟩:=kD h hx tx
  exact d6y (p:=bQ) (by show v.ct≤1;omega) hx hy tx ty
theorem tW {v:LV W} (h:LI v) {c d:Int} (hc:2≤v.st c) (hd:2≤v.st d∨∃ w,v.bf d=some (w,true)∧v.cp d=1):c=d:=by
  have e1:=h.e c hc
  have e2:v.o=d∨∃ r n,.fwd 2 d r n∈v.fly:=by
    rcases hd with hd|⟨w,h1,h2⟩
    · exact h.e d hd
    · exact (h.bl d w h1 h2).2
  have hd':v.ms d=none∨2≤v.st d:=by
    rcases hd with hd|⟨w,h1,h2⟩
    · exact .inr hd
    · exact .inl (h.b1 d w _ h1).2.2
  rcases e1 with e1|⟨r,n,e1⟩
  · rcases e2 with e2|⟨r',n',e2⟩
    · omega
    · have:=h.tf _ _ _ _ e2;grind
  · have t1:=h.tf _ _ _ _ e1
    obtain ⟨k,r0,m,_,_,g,_,_,_,_,_,_,_,_,g2⟩:=kD h e1 rfl
    rcases e2 with e2|⟨r',n',e2⟩
    · have:r=r0:=g2
      grind
    · have:=d6z h e1 e2 rfl rfl
      cases this;rfl
theorem kN {v:LV W} (h:LI v) (ha:v.act=none):(∀ x∈v.fly,bQ x=false∧qF x=false∧cH x=false)∧v.ct=0∧v.ci=0∧v.cd=0:=by
  have hfr:∀ x∈v.fly,bQ x=false∧qF x=false∧cH x=false:=fun x hx=>by obtain ⟨c,rfl⟩:=h.f0 ha x hx;exact ⟨rfl,rfl,rfl⟩
  exact ⟨hfr,List.countP_eq_zero.2 fun x hx=>by simp [(hfr x hx).1],List.countP_eq_zero.2 fun x hx=>by simp [(hfr x hx).2.1],List.countP_eq_zero.2 fun x hx=>by simp [(hfr x hx).2.2]⟩
theorem e8 {v:LV W} (ha:v.act=none) (r:Int):¬v.busy r:=fun ⟨k,e,_⟩=>by rw [ha] at e;cases e
theorem rW {v:LV W} (h:LI v) (ha:v.act=none) (hO:v.o≠ -1):v.holds v.o:=by
  have hfr:=(kN h ha).1
  rcases h.h hO with g|⟨own,n,w,_,g⟩|⟨o',n,g⟩|⟨m,g1,g2,g3⟩
  · exact g
  · have:=(hfr _ g).1;simp [bQ] at this
  · have:=(hfr _ g).1;simp [bQ] at this
  · exact absurd (h.g1 _ m g1 (e8 ha _)).2.1 g2
theorem lG {r:Int} (p:AM W→Bool) (b:Bool) (h:∀ c,p (.inv c r)=b) (l:List Int):(l.map fun c=>AM.inv c r).countP p=if b then l.length else 0:=by
  induction l with
  |nil=>cases b<;>rfl
  |cons a l ih=>
   rw [List.map_cons,List.countP_cons,ih,h]
   cases b<;>simp
end
end
end Go.Sx
