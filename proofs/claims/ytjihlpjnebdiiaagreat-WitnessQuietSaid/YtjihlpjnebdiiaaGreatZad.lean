/- Arr, Arr2, ArrPl, Str, Same7, All: several of my texts as one. My own work. -/
import Derived.Test.YtjihlpjnebdiiaaGreatZr
import Derived.Test.YtjihlpjnebdiiaaGreatZaa
import Derived.Test.YtjihlpjnebdiiaaGreatZac
import Derived.Laws.BytesString
import Derived.Laws.Strings
import Derived.Test.YtjihlpjnebdiiaaGreatGo
import Derived.Test.YtjihlpjnebdiiaaGreatData
set_option linter.unusedVariables false
set_option linter.unusedSectionVars false
set_option linter.unusedSimpArgs false
/- What arrays of ways do. The program's. My own work. -/
namespace Go.Sx
open Go Go.Proofs
def thereB (w:Way):Bool:=decide (w.st≠0)|| w.lk
def pHas (line:Int) (w:Way):Bool:=thereB w&& decide (w.line=line)
def arrF (c:Cfg) (line:Int):Nat:=(lineS c line).toNat*c.ways.toNat
def waysOf (c:Cfg) (l:List Way) (line:Int):List Way:=if okLine c line then (l.drop (arrF c line)).take c.ways.toNat else []
def arrP (c:Cfg) (l:List Way) (line:Int):Int:=indexBy (pHas line) (waysOf c l line)
def arrFree (c:Cfg) (l:List Way) (line:Int):Int:=indexBy (fun w=> !thereB w) (waysOf c l line)
def findW (c:Cfg) (l:List Way) (line:Int):Way:=if arrP c l line<0 then .zero else (waysOf c l line).getD (arrP c l line).toNat .zero
def findI (c:Cfg) (l:List Way) (line:Int):Int:=if arrP c l line<0 then 0 else arrP c l line
def findB (c:Cfg) (l:List Way) (line:Int):Bool:= !decide (arrP c l line<0)
def oddW (c:Cfg) (w:Words):Bool:=decide (0≤indexBy (fun n=> !decide (n=0)) (w.list.drop c.words.toNat))
def layE (c:Cfg) (l:List Way) (line way:Int):Int:=if 0≤way∧way<(waysOf c l line).length then (if arrP c l line= -1 then (if thereB ((waysOf c l line).getD way.toNat .zero) then 4 else 0) else 6) else 1
def layL (c:Cfg) (l:List Way) (line way:Int):List Way:=if layE c l line way=0 then l.set (arrF c line+way.toNat) ⟨0,line,.zero,true⟩ else l
def setE (c:Cfg) (l:List Way) (line st:Int) (w:Words):Int:=if arrP c l line= -1 then 5 else if st<0∨st>4∨oddW c w=true then 1 else 0
def setL (c:Cfg) (l:List Way) (line st:Int) (w:Words):List Way:=if setE c l line st w=0 then l.set (arrF c line+(arrP c l line).toNat) { findW c l line with st:=st,words:=if st=0 then .zero else w} else l
def lockE (c:Cfg) (l:List Way) (line:Int):Int:=if arrP c l line= -1 then 5 else 0
def lockL (c:Cfg) (l:List Way) (line:Int) (lk:Bool):List Way:=if lockE c l line=0 then l.set (arrF c line+(arrP c l line).toNat) { findW c l line with lk:=lk} else l
def inWay (c:Cfg) (s k:Int):Bool:=decide (0≤s∧s<c.sets∧0≤k∧k<c.ways)
def atW (c:Cfg) (l:List Way) (s k:Int):Way:=if inWay c s k then l.getD (s.toNat*c.ways.toNat+k.toNat) .zero else .zero
def wsl (g o n c:Nat):Value:= .slice (some ⟨g,o,none⟩) n c
theorem pb_wsl {g o n c:Nat}:pb (wsl g o n c)=g:=rfl
theorem po_wsl {g o n c:Nat}:po (wsl g o n c)=o:=rfl
def ArrB (T TW:TypeId) (b:Nat) (c:Cfg) (l:List Way):HP:=
  Ex fun g:Nat=>[Cells b T (c.cells++[.slice (some ⟨g,0,none⟩) l.length l.length]),Cells g TW (flat wyc l),Fact (checkB c=true∧(l.length:Int)=c.sets*c.ways)]
theorem arr_in {T TW:TypeId} {b g n:Nat} {c:Cfg} {l:List Way} {xs:List Value} {L M:List HP} (h:Ent L (Cells b T (c.cells++[.slice (some ⟨g,0,none⟩) n n])::Cells g TW xs::M)) (hn:n=l.length) (hx:xs=flat wyc l)
    (hc:checkB c=true) (hl:(l.length:Int)=c.sets*c.ways):Ent L (ArrB T TW b c l::M):=by
  subst hn hx
  refine Ent.trans h (Ent.trans ?_ (ex_intro (p:=fun g:Nat=>[Cells b T (c.cells++[.slice (some ⟨g,0,none⟩) l.length l.length]),Cells g TW (flat wyc l),Fact (checkB c=true∧(l.length:Int)=c.sets*c.ways)]) g))
  exact Ent.cons (Ent.cons (star_fact_mk ⟨hc,hl⟩))
theorem arr_sat {T TW:TypeId} {b:Nat} {c:Cfg} {l:List Way} {L:List HP} {w:World} (h:Sat (ArrB T TW b c l::L) w):∃ g,(checkB c=true∧(l.length:Int)=c.sets*c.ways)∧Sat (Cells b T (c.cells++[.slice (some ⟨g,0,none⟩) l.length l.length])::Cells g TW (flat wyc l)::L) w:=by
  obtain ⟨g,hx⟩:=star_ex h
  simp only [app] at hx
  exact ⟨g,fact_of (star_drop (star_drop hx)),(Ent.cons (Ent.cons (Ent.drop Ent.refl))) _ hx⟩
section
variable {T TW:TypeId} {b:Nat} {c:Cfg} {l:List Way} {P:Program} {N:Nat} {env:Env} {L:List HP} {Q:Exit→Act→World→Prop}
theorem arr_open {co:Code} (h:∀ g,(checkB c=true∧(l.length:Int)=c.sets*c.ways)→WC P N co env (Cells b T (c.cells++[.slice (some ⟨g,0,none⟩) l.length l.length])::Cells g TW (flat wyc l)::L) Q):WC P N co env (ArrB T TW b c l::L) Q:=by
  intro a w ha hw
  obtain ⟨g,hf,hx⟩:=arr_sat hw
  exact h g hf a w ha hx
end
theorem set_room {s W S:Nat} (h:s<S):s*W+W≤S*W:=by
  have:=Nat.mul_le_mul_right W (show s+1≤S by omega)
  rw [Nat.succ_mul] at this;exact this
theorem arr_nums {c:Cfg} {n:Nat} (hc:checkB c=true) (hn:(n:Int)=c.sets*c.ways):n=c.sets.toNat*c.ways.toNat∧1≤c.ways∧c.ways≤8∧1≤c.sets∧c.sets≤64∧n≤512:=by
  obtain ⟨_,_,⟨k,hk,e⟩,_,_,h1,h2⟩:=check_facts hc
  have:=pow_bd hk
  have h3:1≤c.sets∧c.sets≤64:=by rw [e];exact ⟨this.1,by have:=this.2;simpa using this⟩
  have e1:((c.sets.toNat*c.ways.toNat:Nat):Int)=c.sets*c.ways:=by
    rw [Int.natCast_mul,Int.toNat_of_nonneg (by omega),Int.toNat_of_nonneg (by omega)]
  have e2:n=c.sets.toNat*c.ways.toNat:=by omega
  have e3:c.sets.toNat*c.ways.toNat≤64*8:=Nat.mul_le_mul (by omega) (by omega)
  exact ⟨e2,h1,h2,h3.1,h3.2,by omega⟩
theorem ok_set' {c:Cfg} {line:Int} (h:okLine c line=true):0≤lineS c line∧lineS c line<c.sets∧lineS c line=line % c.sets∧0≤line∧line<c.lines:=by
  obtain ⟨hc,h0,h1⟩:=line_big h
  obtain ⟨_,_,⟨k,hk,e⟩,_⟩:=check_facts hc
  have h2:=(pow_bd hk).1
  have e2:lineS c line=line % c.sets:=if_pos h
  rw [e2]
  rw [e]
  exact ⟨Int.emod_nonneg _ (by omega),Int.emod_lt_of_pos _ (by omega),rfl,h0,h1⟩
theorem ways_len {c:Cfg} {l:List Way} {line:Int} (hc:checkB c=true) (hn:(l.length:Int)=c.sets*c.ways) (h:okLine c line=true):(waysOf c l line).length=c.ways.toNat∧arrF c line+c.ways.toNat≤l.length:=by
  obtain ⟨e,h1,h2,h3,h4,h5⟩:=arr_nums hc hn
  obtain ⟨s0,s1,_⟩:=ok_set' h
  have hr:=set_room (s:=(lineS c line).toNat) (W:=c.ways.toNat) (S:=c.sets.toNat) (by omega)
  have:arrF c line+c.ways.toNat≤l.length:=by rw [e];exact hr
  refine ⟨?_,this⟩
  unfold waysOf;rw [if_pos h,List.length_take,List.length_drop];omega
theorem rd_ways {g T:Nat} {l:List Way} {f k cap:Nat} (hf:f+k≤l.length) (L:List HP):RdL (Cells g T (flat wyc l)::L) 11 (wsl g (f*11) k cap) ((l.drop f).take k).length (flat wyc ((l.drop f).take k)):=by
  have hx:((flat wyc l).drop (f*11)).take (k*11)=flat wyc ((l.drop f).take k):=by
    rw [flat_drop (enc:=wyc) (n:=11) (fun _=>rfl),flat_take (enc:=wyc) (n:=11) (fun _=>rfl)]
  have hl:(flat wyc l).length=l.length*11:=flat_length (enc:=wyc) (n:=11) (fun _=>rfl) l
  have kk:=rd_cells (L:=Cells g T (flat wyc l)::L) (o:=f*11) (m:=k) (c:=cap) (sz:=11) (b:=g) inferInstance (by rw [hl,←Nat.add_mul];exact Nat.mul_le_mul_right _ hf) (by
    rw [hx,List.all_eq_true]
    intro v hv
    obtain ⟨w,_,hw⟩:=List.mem_flatMap.1 hv
    simp [wyc] at hw
    rcases hw with h|h|h|h|h|h|h|h|h|h|h<;>(rw [h];rfl))
  rw [hx] at kk
  have e:((l.drop f).take k).length=k:=by rw [List.length_take,List.length_drop];omega
  rw [e];exact kk
attribute [irreducible] wsl
set_option maxRecDepth 100000
set_option maxHeartbeats 4000000
attribute [local irreducible] Go.Exit.then Go.Exit.inBlock Go.Code.wp WC WO WE WQ V LoopQ FnQ Sat Star band bor IntKind.wrap WR Code.rounds WT KO
abbrev ArrP:=ArrB 220 121
abbrev acs (b g:Nat) (c:Cfg) (l:List Way):HP:=Cells b 220 (c.cells++[.slice (some ⟨g,0,none⟩) l.length l.length])
theorem arr_there {F:List HP} {w:Way}:FnF Tryz.prog 206 [wyv w] [] F (fun r L'=>r= .bool (thereB w)∧L'=[]):=by
  refine FnF.mk' Tryz.func206 rfl rfl Tryz.ntmps206 rfl ?_
  by_cases h:w.st=0
  · repeat (first|refine gd ?_|intro _)
    (apply WE_ret rfl rfl zqR;(first|exact zqL|exact ⟨by simp [thereB,h]<;>omega,rfl⟩);exact zqN)
  · repeat (first|refine gd ?_|intro _)
    (apply WE_ret rfl rfl zqR;(first|exact zqL|exact ⟨by simp [thereB,h]<;>omega,rfl⟩);exact zqN)
theorem arr_place1 {F:List HP} {b:Nat} {line:Int} {T:TypeId} {C:List Value→List HP} {w:Way} (k:CellsAt b F T [.int .i64 line] C) :
    FnF Tryz.prog 211 [wyv w,.pointer (some ⟨b,0,none⟩)] [] F (fun r L'=>r= .bool (pHas line w)∧L'=[]):=by
  have hT:=fun F=>arr_there (F:=F) (w:=w)
  refine FnF.mk' Tryz.func211 rfl rfl Tryz.ntmps211 rfl ?_
  cases h:thereB w with
  |true=>
   rw [h] at hT
   repeat (first|refine gd ?_|intro _|refine cal @hT ?_)
   (apply WE_ret rfl rfl zqR;(first|exact zqL|exact ⟨by simp [pHas,h]<;>omega,rfl⟩);exact zqN)
  |false=>
   rw [h] at hT
   repeat (first|refine gd ?_|intro _|refine cal @hT ?_)
   (apply WE_ret rfl rfl zqR;(first|exact zqL|exact ⟨by simp [pHas,h]<;>omega,rfl⟩);exact zqN)
theorem arr_free1 {F:List HP} {w:Way}:FnF Tryz.prog 205 [wyv w] [] F (fun r L'=>r= .bool (!thereB w)∧L'=[]):=by
  refine FnF.mk' Tryz.func205 rfl rfl Tryz.ntmps205 rfl ?_
  repeat (first|refine gd ?_|intro _|refine cal @arr_there ?_)
  exact fin0
theorem arr_ways {F:List HP} {b g:Nat} {c:Cfg} {l:List Way} {s:Int} (hc:checkB c=true) (hn:(l.length:Int)=c.sets*c.ways) (h0:0≤s) (h1:s<c.sets) :
    FnF Tryz.prog 207 [.pointer (some ⟨b,0,none⟩),.int .i64 s] [acs b g c l] F (fun r L'=>r=wsl g (s.toNat*c.ways.toNat*11) c.ways.toNat c.ways.toNat∧L'=[acs b g c l]):=by
  obtain ⟨e,h2,h3,h4,h5,h6⟩:=arr_nums hc hn
  have hr:=set_room (s:=s.toNat) (W:=c.ways.toNat) (S:=c.sets.toNat) (by omega)
  have hz:s*c.ways=((s.toNat*c.ways.toNat:Nat):Int):=by rw [Int.natCast_mul,Int.toNat_of_nonneg h0,Int.toNat_of_nonneg (by omega)]
  rw [←e] at hr
  generalize s.toNat*c.ways.toNat=z at *
  refine FnF.mk' Tryz.func207 rfl rfl Tryz.ntmps207 rfl ?_
  repeat (first|refine gd ?_|intro _)
  (apply WE_ret rfl rfl zqR)
  · refine ⟨?_,rfl⟩
    rw [cut_at (by omega)]
    have e1:(s*c.ways).toNat=z:=by omega
    have e2:(s*c.ways+c.ways).toNat-(s*c.ways).toNat=c.ways.toNat:=by omega
    rw [e2,e1,Nat.zero_add]
    unfold wsl;rfl
  · exact entu0
theorem arr_of {F:List HP} {b g:Nat} {c:Cfg} {l:List Way} {line:Int} (hw:c.wf) (hli:I64 line) (hc:checkB c=true) (hn:(l.length:Int)=c.sets*c.ways) (h:okLine c line=true) :
    FnF Tryz.prog 172 [.pointer (some ⟨b,0,none⟩),.int .i64 line] [acs b g c l] F (fun r L'=>r=wsl g (arrF c line*11) c.ways.toNat c.ways.toNat∧L'=[acs b g c l]):=by
  have hL:=fun F=>split_Line (F:=F) (c:=c) (a:=line) hw hli
  obtain ⟨s0,s1,_⟩:=ok_set' h
  have hW:=fun F=>arr_ways (F:=F) (b:=b) (g:=g) (c:=c) (l:=l) (s:=lineS c line) hc hn s0 s1
  have e0:lineE c line=0:=if_pos h
  simp only [e0] at hL
  refine FnF.mk' Tryz.func172 rfl rfl Tryz.ntmps172 rfl ?_
  repeat (first|refine gd ?_|intro _|refine cal @hL ?_|refine cal @hW ?_)
  (apply WE_ret rfl rfl zqR;(first|exact zqL|exact ⟨by simp [arrF]<;>omega,rfl⟩);exact zqN)
theorem arr_of_no {F:List HP} {b g:Nat} {c:Cfg} {l:List Way} {line:Int} (hw:c.wf) (hli:I64 line) (h:okLine c line=false) :
    FnF Tryz.prog 172 [.pointer (some ⟨b,0,none⟩),.int .i64 line] [acs b g c l] F (fun r L'=>r= .slice none 0 0∧L'=[acs b g c l]):=by
  have hL:=fun F=>split_Line (F:=F) (c:=c) (a:=line) hw hli
  have e0:lineE c line=1:=by unfold lineE;rw [h];rfl
  simp only [e0] at hL
  refine FnF.mk' Tryz.func172 rfl rfl Tryz.ntmps172 rfl ?_
  repeat (first|refine gd ?_|intro _|refine cal @hL ?_)
  exact fin0
theorem waysOf_no {c:Cfg} {l:List Way} {line:Int} (h:okLine c line=false):waysOf c l line=[]:=by unfold waysOf;rw [h];rfl
theorem waysOf_ok {c:Cfg} {l:List Way} {line:Int} (h:okLine c line=true):waysOf c l line=(l.drop (arrF c line)).take c.ways.toNat:=if_pos h
theorem arr_placeO {F:List HP} {b g:Nat} {c:Cfg} {l:List Way} {line:Int} (hw:c.wf) (hli:I64 line) (hc:checkB c=true) (hn:(l.length:Int)=c.sets*c.ways) :
    FnF Tryz.prog 171 [.pointer (some ⟨b,0,none⟩),.int .i64 line] [acs b g c l,Cells g 121 (flat wyc l)] F (fun r L'=>r= .int .i64 (arrP c l line)∧L'=[acs b g c l,Cells g 121 (flat wyc l)]):=by
  cases h:okLine c line with
  |true=>
   obtain ⟨k1,k2⟩:=ways_len hc hn h
   have hO:=fun F=>arr_of (F:=F) (b:=b) (g:=g) hw hli hc hn h
   have kr:=rd_ways (g:=g) (T:=121) (cap:=c.ways.toNat) k2
   rw [←waysOf_ok h,k1] at kr
   haveI:=kr
   have hb:c.ways.toNat≤512:=by have:=(arr_nums hc hn).2.2.2.2.2;omega
   have hI:=fun F (bl:Nat) (C:List Value→List HP) (k1':CellsAt bl F 3 [.int .i64 line] C) (k:RdL F 11 (wsl g (arrF c line*11) c.ways.toNat c.ways.toNat) c.ways.toNat (flat wyc (waysOf c l line)))=>
     sl_IndexFunc_way (F:=F) (v:=wsl g (arrF c line*11) c.ways.toNat c.ways.toNat) (l:=waysOf c l line) (fk:=211) (first:=[]) (cap:=[.pointer (some ⟨bl,0,none⟩)]) (p:=pHas line) (by rw [k1];exact k) (by omega) (fun x _=>arr_place1 k1')
   refine FnF.mk' Tryz.func171 rfl rfl Tryz.ntmps171 rfl ?_
   repeat (first|refine gd ?_|intro _|refine cal @hO ?_|refine cal @hI ?_)
   (apply WE_ret rfl rfl zqR;(first|exact zqL|exact ⟨by simp [arrP]<;>omega,rfl⟩);exact zqN)
  |false=>
   have hO:=fun F=>arr_of_no (F:=F) (b:=b) (g:=g) (l:=l) hw hli h
   have hI:=fun F (bl:Nat) (C:List Value→List HP) (k1':CellsAt bl F 3 [.int .i64 line] C)=>
     sl_IndexFunc_way (F:=F) (v:= .slice none 0 0) (l:=[]) (fk:=211) (first:=[]) (cap:=[.pointer (some ⟨bl,0,none⟩)]) (p:=pHas line) rd_empty (by simp) (fun x _=>arr_place1 k1')
   refine FnF.mk' Tryz.func171 rfl rfl Tryz.ntmps171 rfl ?_
   repeat (first|refine gd ?_|intro _|refine cal @hO ?_|refine cal @hI ?_)
   (apply WE_ret rfl rfl zqR;(first|exact zqL|exact ⟨by simp [arrP,waysOf_no h]<;>omega,rfl⟩);exact zqN)
end Go.Sx

/- What arrays of ways do, second part. The program's. My own work. -/
namespace Go.Sx
open Go Go.Proofs
section
variable {P:Program} {N:Nat} {t ty:TypeId} {x y:Operand} {env:Env} {L:List HP}
theorem K_way {n bs f i j T g bb o:Nat} {z u:Value} {l:List Way} {w:Way} {cs:List Value} {C:List Value→List HP} {pos:String} {aft:Array Edge} [hZ:TZ P t n z bs]
    (hx:ev env x=some (.pointer (some ⟨bb,o,none⟩))) (hy:ev env y=some u) (hb:bb=g) (ho:o=(f+i)*11+j) (k:CellsAt g L T (flat wyc l) C) (hc:CO u cs) (hn:cs.length=n) (h1:cs.all one=true)
    (hi:f+i<l.length) (hj:j+n≤11) (e:splice (wyc l[f+i]) j cs=wyc w) :
    KO P N ⟨none,.store t x y,ty,pos,aft,none⟩ env L (Same env (C (flat wyc (l.set (f+i) w)))):=by
  subst hb ho
  have hl:(flat wyc l).length=l.length*11:=flat_length (enc:=wyc) (n:=11) (fun _=>rfl) l
  have hle:(f+i)*11+11≤l.length*11:=by have:=Nat.mul_le_mul_right 11 (show f+i+1≤l.length by omega);omega
  have h:=K_store (P:=P) (N:=N) (ty:=ty) (pos:=pos) (aft:=aft) (t:=t) hx hy k hc.pf hn h1 (by rw [hl,Nat.ble_eq];omega)
  have es:=splice_flatJ (enc:=wyc) (n:=11) (fun _=>rfl) l (f+i) hi (j:=j) (cs:=cs) (x:=w) (by omega) e
  rw [es] at h
  exact h
end
theorem arr_rd {g T:Nat} {c:Cfg} {l:List Way} {line:Int} (hc:checkB c=true) (hn:(l.length:Int)=c.sets*c.ways) (h:okLine c line=true) (L:List HP) :
    RdL (Cells g T (flat wyc l)::L) 11 (wsl g (arrF c line*11) c.ways.toNat c.ways.toNat) (waysOf c l line).length (flat wyc (waysOf c l line)):=by
  obtain ⟨k1,k2⟩:=ways_len hc hn h
  have kr:=rd_ways (g:=g) (T:=T) (cap:=c.ways.toNat) k2
  rw [←waysOf_ok h] at kr
  exact kr L
theorem ways_get {c:Cfg} {l:List Way} {line:Int} {i:Nat} (h:okLine c line=true) (hi:i<(waysOf c l line).length):∃ h2:arrF c line+i<l.length,(waysOf c l line)[i]=l[arrF c line+i]:=by
  have hi':=hi
  simp only [waysOf_ok h,List.length_take,List.length_drop] at hi'
  refine ⟨by omega,?_⟩
  simp only [waysOf_ok h,List.getElem_take,List.getElem_drop]
theorem arrP_ok {c:Cfg} {l:List Way} {line:Int} (h:0≤arrP c l line):okLine c line=true:=by
  cases e:okLine c line with
  |true=>rfl
  |false=>
   exfalso
   unfold arrP at h
   rw [waysOf_no e] at h
   simp [indexBy] at h
theorem arrP_nat {c:Cfg} {l:List Way} {line:Int} (h:0≤arrP c l line):∃ i:Nat,∃ hi:i<(waysOf c l line).length,arrP c l line=i∧pHas line (waysOf c l line)[i]=true∧∀ j (hj:j<(waysOf c l line).length),j<i→pHas line (waysOf c l line)[j]=false:=indexBy_nat h
theorem arrP_lt (c:Cfg) (l:List Way) (line:Int): -1≤arrP c l line∧arrP c l line<(waysOf c l line).length:=indexBy_lt _ _
theorem zero_flat (n:Nat):(List.replicate n (wyc .zero)).flatten=flat wyc (List.replicate n .zero):=by
  induction n with
  |zero=>rfl
  |succ n ih=>simp only [List.replicate_succ,List.flatten_cons,flat,List.flatMap_cons];rw [ih]
theorem flat_ic_len' (l:List Int):(flat ic l).length=l.length:=by
  have:=flat_length (enc:=ic) (n:=1) (fun _=>rfl) l
  omega
set_option maxRecDepth 100000
set_option maxHeartbeats 4000000
attribute [local irreducible] Go.Exit.then Go.Exit.inBlock Go.Code.wp WC WO WE WQ V LoopQ FnQ Sat Star band bor IntKind.wrap WR Code.rounds WT KO
theorem dr_Arr2_92 {Q P:Prop} (k:Q) (h:Hid Q→P:=by
  intro k
  first
  |(refine is_draw ?_;apply WC_mix (id:=4) .true _ (pl:= .p 1 <| .p 3 <| .r 0 <| .r 2 <| .r 4 <| .p 5 <| .e true [(6,.p 7 <| .e true [(8,.p 9 <| .p 10 <| .done)])]);exact mixed;kernel_rfl;kernel_rfl;exact Ent.refl;exact k.out)):P:=h ⟨k⟩
theorem arr_New {F:List HP} {c:Cfg} (hw:c.wf) (hc:checkB c=true):FnF Tryz.prog 92 [c.val] [] F (fun r L'=>∃ b,r= .tuple [.pointer (some ⟨b,0,none⟩),.int .i64 0].toArray∧L'=[ArrP b c (List.replicate (c.sets*c.ways).toNat .zero)]):=by
  have hC:=fun F=>shape_Check (F:=F) hw
  simp only [checkE,hc,if_true] at hC
  obtain ⟨_,_,⟨k,hk,e⟩,_,_,h1,h2⟩:=check_facts hc
  have hb:=pow_bd hk
  have h3:1≤c.sets∧c.sets≤64:=by rw [e];exact ⟨hb.1,by have:=hb.2;simpa using this⟩
  have hz:c.sets*c.ways=((c.sets.toNat*c.ways.toNat:Nat):Int):=by rw [Int.natCast_mul,Int.toNat_of_nonneg (by omega),Int.toNat_of_nonneg (by omega)]
  have hm:c.sets.toNat*c.ways.toNat≤64*8:=Nat.mul_le_mul (by omega) (by omega)
  refine FnF.mk' Tryz.func92 rfl rfl Tryz.ntmps92 rfl ?_
  have h0:0≤c.sets*c.ways∧c.sets*c.ways≤512:=by omega
  repeat (first|refine go ?_|intro _|refine dr_Arr2_92 ?_|refine drq ?_|refine cal @hC ?_)
  apply WT_k;rfl;exact GIn.none;(apply K_makeSliceN;rfl;omega;omega;omega;rfl;omega;rfl);refine fresh_intro ?_;intro g;(refine ⟨by first|exact After.free|exact After.turns rfl|(refine After.still ?_;exact zqN;done),?_⟩)
  repeat (first|refine go ?_|intro _|refine dr_Arr2_92 ?_|refine drq ?_)
  (apply WE_ret rfl rfl zqR)
  · exact ⟨_,rfl,rfl⟩
  · refine Ent.trans ?_ (arr_in (g:=g) (l:=List.replicate (c.sets*c.ways).toNat .zero) (n:=(c.sets*c.ways).toNat) (xs:=(List.replicate (c.sets*c.ways).toNat (wyc .zero)).flatten) Ent.refl (by simp) (zero_flat _) hc (by simp;omega))
    change Ent (Cells _ _ (c.cells++[.slice (some ⟨g,0,none⟩) (c.sets*c.ways).toNat (c.sets*c.ways).toNat])::_) _
    exact entu0
theorem arr_Find {F:List HP} {b:Nat} {c:Cfg} {l:List Way} {line:Int} (hw:c.wf) (hli:I64 line) :
    FnF Tryz.prog 128 [.pointer (some ⟨b,0,none⟩),.int .i64 line] [ArrP b c l] F (fun r L'=>r= .tuple [wyv (findW c l line),.int .i64 (findI c l line),.bool (findB c l line)].toArray∧L'=[ArrP b c l]):=by
  refine FnF.mk' Tryz.func128 rfl rfl Tryz.ntmps128 rfl ?_
  refine arr_open fun g hf=>?_
  obtain ⟨hc,hn⟩:=hf
  have hP:=fun F=>arr_placeO (F:=F) (b:=b) (g:=g) hw hli hc hn
  by_cases h:arrP c l line<0
  · have e1:findW c l line= .zero:=if_pos h
    have e2:findI c l line=0:=if_pos h
    have e3:findB c l line=false:=by simp [findB,h]
    rw [e1,e2,e3]
    repeat (first|refine gd ?_|intro _|refine cal @hP ?_)
    (apply WE_ret rfl rfl zqR)
    · exact ⟨rfl,rfl⟩
    · (apply arr_in;(focus (exact entu0));all_goals exact zqS)
  · have hok:=arrP_ok (by omega:0≤arrP c l line)
    obtain ⟨i,hi,ei,_,_⟩:=arrP_nat (by omega:0≤arrP c l line)
    have e1:findW c l line=(waysOf c l line)[i]:=by unfold findW;rw [if_neg h,ei,Int.toNat_natCast];exact (getD_at hi).symm
    have e2:findI c l line=i:=by unfold findI;rw [if_neg h,ei]
    have e3:findB c l line=true:=by simp [findB,h]
    rw [e1,e2,e3]
    rw [ei] at hP
    have hO:=fun F=>arr_of (F:=F) (b:=b) (g:=g) hw hli hc hn hok
    haveI kr:=arr_rd (g:=g) (T:=121) hc hn hok
    repeat (first|refine gd ?_|intro _|refine cal @hP ?_|refine cal @hO ?_)
    (apply WE_ret rfl rfl zqR)
    · exact ⟨rfl,rfl⟩
    · (apply arr_in;(focus (exact entu0));all_goals exact zqS)
theorem arr_Free {F:List HP} {b:Nat} {c:Cfg} {l:List Way} {line:Int} (hw:c.wf) (hli:I64 line) :
    FnF Tryz.prog 160 [.pointer (some ⟨b,0,none⟩),.int .i64 line] [ArrP b c l] F (fun r L'=>r= .int .i64 (arrFree c l line)∧L'=[ArrP b c l]):=by
  refine FnF.mk' Tryz.func160 rfl rfl Tryz.ntmps160 rfl ?_
  refine arr_open fun g hf=>?_
  obtain ⟨hc,hn⟩:=hf
  cases h:okLine c line with
  |true=>
   obtain ⟨k1,k2⟩:=ways_len hc hn h
   have hO:=fun F=>arr_of (F:=F) (b:=b) (g:=g) hw hli hc hn h
   haveI kr:=arr_rd (g:=g) (T:=121) hc hn h
   have hb:c.ways.toNat≤512:=by have:=(arr_nums hc hn).2.2.2.2.2;omega
   have hI:=fun F (k:RdL F 11 (wsl g (arrF c line*11) c.ways.toNat c.ways.toNat) (waysOf c l line).length (flat wyc (waysOf c l line)))=>
     sl_IndexFunc_way (F:=F) (v:=wsl g (arrF c line*11) c.ways.toNat c.ways.toNat) (l:=waysOf c l line) (fk:=205) (first:=[]) (cap:=[]) (p:=fun w=> !thereB w) k (by omega) (fun x _=>arr_free1)
   repeat (first|refine gd ?_|intro _|refine cal @hO ?_|refine cal @hI ?_)
   (apply WE_ret rfl rfl zqR)
   · exact ⟨rfl,rfl⟩
   · (apply arr_in;(focus (exact entu0));all_goals exact zqS)
  |false=>
   have hO:=fun F=>arr_of_no (F:=F) (b:=b) (g:=g) (l:=l) hw hli h
   have hI:=fun F=>sl_IndexFunc_way (F:=F) (v:= .slice none 0 0) (l:=[]) (fk:=205) (first:=[]) (cap:=[]) (p:=fun w=> !thereB w) rd_empty (by simp) (fun x _=>arr_free1)
   have e1:arrFree c l line= -1:=by unfold arrFree;rw [waysOf_no h];rfl
   rw [e1]
   repeat (first|refine gd ?_|intro _|refine cal @hO ?_|refine cal @hI ?_)
   (apply WE_ret rfl rfl zqR)
   · exact ⟨rfl,rfl⟩
   · (apply arr_in;(focus (exact entu0));all_goals exact zqS)
theorem arr_At {F:List HP} {b:Nat} {c:Cfg} {l:List Way} {s k:Int} :
    FnF Tryz.prog 164 [.pointer (some ⟨b,0,none⟩),.int .i64 s,.int .i64 k] [ArrP b c l] F (fun r L'=>r= .tuple [wyv (atW c l s k),.bool (inWay c s k)].toArray∧L'=[ArrP b c l]):=by
  refine FnF.mk' Tryz.func164 rfl rfl Tryz.ntmps164 rfl ?_
  refine arr_open fun g hf=>?_
  obtain ⟨hc,hn⟩:=hf
  cases h:inWay c s k with
  |true=>
   have h':=h
   simp only [inWay,decide_eq_true_eq] at h'
   obtain ⟨h0,h1,h2,h3⟩:=h'
   obtain ⟨k,rfl⟩:∃ j:Nat,k=j:=⟨k.toNat,by omega⟩
   obtain ⟨en,h4,h5,h6,h7,h8⟩:=arr_nums hc hn
   have hr:=set_room (s:=s.toNat) (W:=c.ways.toNat) (S:=c.sets.toNat) (by omega)
   have hW:=fun F=>arr_ways (F:=F) (b:=b) (g:=g) (c:=c) (l:=l) (s:=s) hc hn h0 h1
   have kr:=rd_ways (g:=g) (T:=121) (l:=l) (f:=s.toNat*c.ways.toNat) (k:=c.ways.toNat) (cap:=c.ways.toNat) (by omega)
   have hkl:k<((l.drop (s.toNat*c.ways.toNat)).take c.ways.toNat).length:=by rw [List.length_take,List.length_drop];omega
   have e1:atW c l s k=((l.drop (s.toNat*c.ways.toNat)).take c.ways.toNat)[k]:=by
     unfold atW;rw [if_pos h,Int.toNat_natCast,List.getElem_take,List.getElem_drop]
     exact (getD_at (by rw [List.length_take,List.length_drop] at hkl;omega)).symm
   rw [e1]
   generalize (l.drop (s.toNat*c.ways.toNat)).take c.ways.toNat=m at *
   haveI:=kr
   repeat (first|refine gd ?_|intro _|refine cal @hW ?_)
   (apply WE_ret rfl rfl zqR)
   · exact ⟨rfl,rfl⟩
   · (apply arr_in;(focus (exact entu0));all_goals exact zqS)
  |false=>
   have e1:atW c l s k= .zero:=by unfold atW;rw [if_neg (by simp [h])]
   rw [e1]
   simp only [inWay,decide_eq_false_iff_not] at h
   repeat' (first|refine gd ?_|intro _|refine spl ?_ ?_|fail)
   all_goals first|(exfalso;omega)|skip
   all_goals (apply WE_ret rfl rfl zqR)
   all_goals first|exact ⟨rfl,rfl⟩|(apply arr_in;(focus (exact entu0));all_goals exact zqS)
theorem arr_Lay {F:List HP} {b:Nat} {c:Cfg} {l:List Way} {line way:Int} (hw:c.wf) (hli:I64 line) :
    FnF Tryz.prog 162 [.pointer (some ⟨b,0,none⟩),.int .i64 line,.int .i64 way] [ArrP b c l] F (fun r L'=>r= .int .i64 (layE c l line way)∧L'=[ArrP b c (layL c l line way)]):=by
  refine FnF.mk' Tryz.func162 rfl rfl Tryz.ntmps162 rfl ?_
  refine arr_open fun g hf=>?_
  obtain ⟨hc,hn⟩:=hf
  have hP:=fun F=>arr_placeO (F:=F) (b:=b) (g:=g) hw hli hc hn
  cases h:okLine c line with
  |false=>
   have hO:=fun F=>arr_of_no (F:=F) (b:=b) (g:=g) (l:=l) hw hli h
   have e1:layE c l line way=1:=by unfold layE;rw [waysOf_no h,if_neg (by simp only [List.length_nil];omega)]
   have e2:layL c l line way=l:=by unfold layL;rw [e1];rfl
   rw [e1,e2]
   by_cases h0:way<0
   · repeat (first|refine gd ?_|intro _|refine cal @hO ?_)
     (apply WE_ret rfl rfl zqR)
     · exact ⟨rfl,rfl⟩
     · (apply arr_in;(focus (exact entu0));all_goals exact zqS)
   · repeat (first|refine gd ?_|intro _|refine cal @hO ?_)
     (apply WE_ret rfl rfl zqR)
     · exact ⟨rfl,rfl⟩
     · (apply arr_in;(focus (exact entu0));all_goals exact zqS)
  |true=>
   have hO:=fun F=>arr_of (F:=F) (b:=b) (g:=g) hw hli hc hn h
   haveI kr:=arr_rd (g:=g) (T:=121) hc hn h
   obtain ⟨k1,k2⟩:=ways_len hc hn h
   obtain ⟨_,_,_,_,_,h8⟩:=arr_nums hc hn
   by_cases h0:0≤way∧way<(waysOf c l line).length
   · obtain ⟨i,rfl⟩:∃ j:Nat,way=j:=⟨way.toNat,by omega⟩
     have hi:i<(waysOf c l line).length:=by omega
     obtain ⟨hi2,_⟩:=ways_get h hi
     have hg:(waysOf c l line).getD i .zero=(waysOf c l line)[i]:=(getD_at hi).symm
     by_cases hp:arrP c l line= -1
     · rw [hp] at hP
       have hT:=fun F=>arr_there (F:=F) (w:=(waysOf c l line)[i])
       cases ht:thereB (waysOf c l line)[i] with
       |true=>
        rw [ht] at hT
        have e1:layE c l line i=4:=by unfold layE;rw [if_pos h0,if_pos hp,Int.toNat_natCast,hg,ht];rfl
        have e2:layL c l line i=l:=by unfold layL;rw [e1];rfl
        rw [e1,e2]
        repeat (first|refine gd ?_|intro _|refine cal @hO ?_|refine cal @hP ?_|refine cal @hT ?_)
        (apply WE_ret rfl rfl zqR)
        · exact ⟨rfl,rfl⟩
        · (apply arr_in;(focus (exact entu0));all_goals exact zqS)
       |false=>
        rw [ht] at hT
        have e1:layE c l line i=0:=by unfold layE;rw [if_pos h0,if_pos hp,Int.toNat_natCast,hg,ht];rfl
        have e2:layL c l line i=l.set (arrF c line+i) ⟨0,line,.zero,true⟩:=by unfold layL;rw [e1,Int.toNat_natCast];rfl
        rw [e1,e2]
        repeat (first|refine gd ?_|intro _|refine cal @hO ?_|refine cal @hP ?_|refine cal @hT ?_)
        apply WO_k;rfl;(refine K_way (f:=arrF c line) (i:=i) (j:=0) (w:=⟨0,line,.zero,true⟩) (by rfl) (by rfl) (by exact pb_wsl) (by rw [po_wsl,Nat.add_mul]<;>rfl) (by exact inferInstance) (by exact inferInstance) (by rfl) (by rfl) hi2 (by decide) (by rfl));refine same_intro ?_
        repeat (first|refine gd ?_|intro _)
        (apply WE_ret rfl rfl zqR)
        · exact ⟨rfl,rfl⟩
        · (apply arr_in;(focus (exact entu0));all_goals exact zqS)
     · have e1:layE c l line i=6:=by unfold layE;rw [if_pos h0,if_neg hp]
       have e2:layL c l line i=l:=by unfold layL;rw [e1];rfl
       rw [e1,e2]
       repeat (first|refine gd ?_|intro _|refine cal @hO ?_|refine cal @hP ?_)
       (apply WE_ret rfl rfl zqR)
       · exact ⟨rfl,rfl⟩
       · (apply arr_in;(focus (exact entu0));all_goals exact zqS)
   · have e1:layE c l line way=1:=if_neg h0
     have e2:layL c l line way=l:=by unfold layL;rw [e1];rfl
     rw [e1,e2]
     by_cases h0':way<0
     · repeat (first|refine gd ?_|intro _|refine cal @hO ?_)
       (apply WE_ret rfl rfl zqR)
       · exact ⟨rfl,rfl⟩
       · (apply arr_in;(focus (exact entu0));all_goals exact zqS)
     · repeat (first|refine gd ?_|intro _|refine cal @hO ?_)
       (apply WE_ret rfl rfl zqR)
       · exact ⟨rfl,rfl⟩
       · (apply arr_in;(focus (exact entu0));all_goals exact zqS)
theorem arr_Lock {F:List HP} {b:Nat} {c:Cfg} {l:List Way} {line:Int} {lk:Bool} (hw:c.wf) (hli:I64 line) :
    FnF Tryz.prog 155 [.pointer (some ⟨b,0,none⟩),.int .i64 line,.bool lk] [ArrP b c l] F (fun r L'=>r= .int .i64 (lockE c l line)∧L'=[ArrP b c (lockL c l line lk)]):=by
  refine FnF.mk' Tryz.func155 rfl rfl Tryz.ntmps155 rfl ?_
  refine arr_open fun g hf=>?_
  obtain ⟨hc,hn⟩:=hf
  have hP:=fun F=>arr_placeO (F:=F) (b:=b) (g:=g) hw hli hc hn
  by_cases hp:arrP c l line= -1
  · rw [hp] at hP
    have e1:lockE c l line=5:=if_pos hp
    have e2:lockL c l line lk=l:=by unfold lockL;rw [e1];rfl
    rw [e1,e2]
    repeat (first|refine gd ?_|intro _|refine cal @hP ?_)
    (apply WE_ret rfl rfl zqR)
    · exact ⟨rfl,rfl⟩
    · (apply arr_in;(focus (exact entu0));all_goals exact zqS)
  · have h0:0≤arrP c l line:=by have:=(arrP_lt c l line).1;omega
    have hok:=arrP_ok h0
    obtain ⟨i,hi,ei,_,_⟩:=arrP_nat h0
    obtain ⟨hi2,eg⟩:=ways_get hok hi
    have e1:lockE c l line=0:=if_neg hp
    have ew:findW c l line=l[arrF c line+i]:=by unfold findW;rw [if_neg (by omega),ei,Int.toNat_natCast,←eg];exact (getD_at hi).symm
    have e2:lockL c l line lk=l.set (arrF c line+i) { l[arrF c line+i] with lk:=lk}:=by unfold lockL;rw [e1,ei,Int.toNat_natCast,ew];rfl
    rw [e1,e2]
    rw [ei] at hP
    have hO:=fun F=>arr_of (F:=F) (b:=b) (g:=g) hw hli hc hn hok
    haveI kr:=arr_rd (g:=g) (T:=121) hc hn hok
    repeat (first|refine gd ?_|intro _|refine cal @hP ?_|refine cal @hO ?_)
    apply WO_k;rfl;(refine K_way (f:=arrF c line) (i:=i) (j:=10) (w:={ l[arrF c line+i] with lk:=lk}) (by rfl) (by rfl) (by exact pb_wsl) (by rw [po_wsl,Nat.add_mul]<;>rfl) (by exact inferInstance) (by exact inferInstance) (by rfl) (by rfl) hi2 (by decide) (by rfl));refine same_intro ?_
    repeat (first|refine gd ?_|intro _)
    (apply WE_ret rfl rfl zqR)
    · exact ⟨rfl,rfl⟩
    · (apply arr_in;(focus (exact entu0));all_goals exact zqS)
theorem arr_odd1 {F:List HP} {n:Int}:FnF Tryz.prog 235 [.int .i64 n] [] F (fun r L'=>r= .bool (!decide (n=0))∧L'=[]):=by
  refine FnF.mk' Tryz.func235 rfl rfl Tryz.ntmps235 rfl ?_
  by_cases h:n=0
  · repeat (first|refine gd ?_|intro _)
    (apply WE_ret rfl rfl zqR;(first|exact zqL|exact ⟨by simp [h]<;>omega,rfl⟩);exact zqN)
  · repeat (first|refine gd ?_|intro _)
    (apply WE_ret rfl rfl zqR;(first|exact zqL|exact ⟨by simp [h]<;>omega,rfl⟩);exact zqN)
theorem rd_tail {b T:Nat} {w:Words} {k:Nat} {F:List HP} {C:List Value→List HP} (hk:k≤8) (h:CellsAt b F T (wc w) C):RdL F 1 (cut (.slice (some ⟨b,0,none⟩) 8 8) k 8 8 1) (w.list.drop k).length (flat ic (w.list.drop k)):=by
  have k0:RdL F 1 (.slice (some ⟨b,0,none⟩) 8 8) 8 (wc w):=rd_cells (o:=0) (m:=8) (c:=8) (sz:=1) (b:=b) h (by simp) (by rfl)
  have k1:=RdL.cut (l:=k) (h:=8) (m:=8) k0 hk (Nat.le_refl _) (Nat.le_refl _)
  have e1:(w.list.drop k).length=8-k:=by rw [List.length_drop];rfl
  have e2:((wc w).drop (k*1)).take ((8-k)*1)=flat ic (w.list.drop k):=by
    have h0:wc w=flat ic w.list:=rfl
    rw [h0,Nat.mul_one,Nat.mul_one]
    have:=flat_drop (enc:=ic) (n:=1) (fun _=>rfl) w.list k
    rw [Nat.mul_one] at this
    rw [this,List.take_of_length_le (by rw [flat_ic_len',e1];exact Nat.le_refl _)]
  rw [e2] at k1
  rw [e1];exact k1
theorem arr_odd {F:List HP} {b g:Nat} {c:Cfg} {l:List Way} {w:Words} (hc:checkB c=true) :
    FnF Tryz.prog 209 [.pointer (some ⟨b,0,none⟩),wv w] [acs b g c l] F (fun r L'=>r= .bool (oddW c w)∧L'=[acs b g c l]):=by
  obtain ⟨_,_,_,⟨k,hk,e⟩,_⟩:=check_facts hc
  have hb:=pow_bd hk
  have hwd:1≤c.words∧c.words≤8:=by rw [e];exact ⟨hb.1,by have:=hb.2;simpa using this⟩
  have hI:=fun F bw C (k:CellsAt bw F 97 (wc w) C)=>sl_ContainsFunc_int (F:=F) (v:=cut (.slice (some ⟨bw,0,none⟩) 8 8) c.words.toNat 8 8 1) (l:=w.list.drop c.words.toNat) (fk:=235) (first:=[]) (cap:=[]) (p:=fun n=> !decide (n=0)) (rd_tail (by omega) k) (by rw [List.length_drop];have:=Words.list_len w;omega) (fun x _=>arr_odd1)
  refine FnF.mk' Tryz.func209 rfl rfl Tryz.ntmps209 rfl ?_
  repeat (first|refine gd ?_|intro _|refine cal @hI ?_)
  (apply WE_ret rfl rfl zqR;(first|exact zqL|exact ⟨by simp [oddW]<;>omega,rfl⟩);exact zqN)
theorem dr_Arr2_167 {Q P:Prop} (k:Q) (h:Hid Q→P:=by
  intro k
  first
  |(refine is_draw ?_;apply WC_mix (id:=9) .true [] (pl:= .p 0 <| .p 1 <| .p 2 <| .p 4 <| .p 5 <| .e true [(3,.e true [(6,.p 7 <| .p 8 <| .e false [(9,.done)])]),(6,.e false [(3,.p 7 <| .p 8 <| .e false [(9,.done)])])]);exact mixed;kernel_rfl;kernel_rfl;exact Ent.nil;exact k.out)):P:=h ⟨k⟩
theorem arr_Set {F:List HP} {b:Nat} {c:Cfg} {l:List Way} {line st:Int} {w:Words} (hw:c.wf) (hli:I64 line) :
    FnF Tryz.prog 167 [.pointer (some ⟨b,0,none⟩),.int .i64 line,.int .i64 st,wv w] [ArrP b c l] F (fun r L'=>r= .int .i64 (setE c l line st w)∧L'=[ArrP b c (setL c l line st w)]):=by
  refine FnF.mk' Tryz.func167 rfl rfl Tryz.ntmps167 rfl ?_
  refine arr_open fun g hf=>?_
  obtain ⟨hc,hn⟩:=hf
  have hP:=fun F=>arr_placeO (F:=F) (b:=b) (g:=g) hw hli hc hn
  have hOd:=fun F=>arr_odd (F:=F) (b:=b) (g:=g) (l:=l) (w:=w) hc
  by_cases hp:arrP c l line= -1
  · rw [hp] at hP
    have e1:setE c l line st w=5:=if_pos hp
    have e2:setL c l line st w=l:=by unfold setL;rw [e1];rfl
    rw [e1,e2]
    repeat (first|refine go ?_|intro _|refine dr_Arr2_167 ?_|refine drq ?_|refine cal @hP ?_)
    (apply WE_ret rfl rfl zqR)
    · exact ⟨rfl,rfl⟩
    · (apply arr_in;(focus (exact entu0));all_goals exact zqS)
  · have h0:0≤arrP c l line:=by have:=(arrP_lt c l line).1;omega
    have hok:=arrP_ok h0
    obtain ⟨i,hi,ei,_,_⟩:=arrP_nat h0
    obtain ⟨hi2,eg⟩:=ways_get hok hi
    have ew:findW c l line=l[arrF c line+i]:=by unfold findW;rw [if_neg (by omega),ei,Int.toNat_natCast,←eg];exact (getD_at hi).symm
    rw [ei] at hP
    have hO:=fun F=>arr_of (F:=F) (b:=b) (g:=g) hw hli hc hn hok
    haveI kr:=arr_rd (g:=g) (T:=121) hc hn hok
    by_cases hs:st<0∨st>4
    · have e1:setE c l line st w=1:=by unfold setE;rw [if_neg hp,if_pos (by omega)]
      have e2:setL c l line st w=l:=by unfold setL;rw [e1];rfl
      rw [e1,e2]
      by_cases hs0:st<0
      · repeat (first|refine go ?_|intro _|refine dr_Arr2_167 ?_|refine drq ?_|refine cal @hP ?_)
        (apply WE_ret rfl rfl zqR)
        · exact ⟨rfl,rfl⟩
        · (apply arr_in;(focus (exact entu0));all_goals exact zqS)
      · repeat (first|refine go ?_|intro _|refine dr_Arr2_167 ?_|refine drq ?_|refine cal @hP ?_)
        (apply WE_ret rfl rfl zqR)
        · exact ⟨rfl,rfl⟩
        · (apply arr_in;(focus (exact entu0));all_goals exact zqS)
    · cases ho:oddW c w with
      |true=>
       rw [ho] at hOd
       have e1:setE c l line st w=1:=by unfold setE;rw [if_neg hp,if_pos (.inr (.inr ho))]
       have e2:setL c l line st w=l:=by unfold setL;rw [e1];rfl
       rw [e1,e2]
       repeat (first|refine go ?_|intro _|refine dr_Arr2_167 ?_|refine drq ?_|refine cal @hP ?_|refine cal @hOd ?_)
       (apply WE_ret rfl rfl zqR)
       · exact ⟨rfl,rfl⟩
       · (apply arr_in;(focus (exact entu0));all_goals exact zqS)
      |false=>
       rw [ho] at hOd
       have e1:setE c l line st w=0:=by unfold setE;rw [if_neg hp,if_neg (by rw [ho];simp;omega)]
       by_cases hz:st=0
       · have e2:setL c l line st w=l.set (arrF c line+i) { l[arrF c line+i] with st:=st,words:= .zero}:=by unfold setL;rw [e1,ei,Int.toNat_natCast,ew,if_pos hz];rfl
         rw [e1,e2]
         repeat' (first|refine go ?_|intro _|refine dr_Arr2_167 ?_|refine drq ?_|refine cal @hP ?_|refine cal @hOd ?_|refine cal @hO ?_|refine spl ?_ ?_|fail)
         · apply WT_k;rfl;exact GIn.none;(refine K_way (l:=l) (f:=arrF c line) (i:=i) (j:=0) (w:={ l[arrF c line+i] with st:=st}) (by rfl) (by rfl) (by exact pb_wsl) (by rw [po_wsl,Nat.add_mul]<;>rfl) (by exact inferInstance) (by exact inferInstance) (by rfl) (by rfl) hi2 (by decide) (by rfl));refine same_intro ?_;(refine ⟨by first|exact After.free|exact After.turns rfl|(refine After.still ?_;exact zqN;done),?_⟩)
           repeat (first|refine go ?_|intro _|refine dr_Arr2_167 ?_|refine drq ?_)
           apply WT_k;rfl;exact GIn.none;(refine K_way (l:=l.set (arrF c line+i) { l[arrF c line+i] with st:=st}) (f:=arrF c line) (i:=i) (j:=2) (w:={ l[arrF c line+i] with st:=st,words:= .zero}) (by rfl) (by rfl) (by exact pb_wsl) (by rw [po_wsl,Nat.add_mul]<;>rfl) (by exact inferInstance) (by exact inferInstance) (by rfl) (by rfl) (by rw [List.length_set];exact hi2) (by decide) (by rw [List.getElem_set_self];rfl));refine same_intro ?_;(refine ⟨by first|exact After.free|exact After.turns rfl|(refine After.still ?_;exact zqN;done),?_⟩)
           repeat (first|refine go ?_|intro _|refine dr_Arr2_167 ?_|refine drq ?_)
           rw [List.set_set]
           (apply WE_ret rfl rfl zqR)
           · exact ⟨rfl,rfl⟩
           · (apply arr_in;(focus (exact entu0));all_goals exact zqS)
         · apply WT_k;rfl;exact GIn.none;(refine K_way (l:=l) (f:=arrF c line) (i:=i) (j:=0) (w:={ l[arrF c line+i] with st:=st}) (by rfl) (by rfl) (by exact pb_wsl) (by rw [po_wsl,Nat.add_mul]<;>rfl) (by exact inferInstance) (by exact inferInstance) (by rfl) (by rfl) hi2 (by decide) (by rfl));refine same_intro ?_;(refine ⟨by first|exact After.free|exact After.turns rfl|(refine After.still ?_;exact zqN;done),?_⟩)
           repeat (first|refine go ?_|intro _|refine dr_Arr2_167 ?_|refine drq ?_)
           apply WT_k;rfl;exact GIn.none;(refine K_way (l:=l.set (arrF c line+i) { l[arrF c line+i] with st:=st}) (f:=arrF c line) (i:=i) (j:=2) (w:={ l[arrF c line+i] with st:=st,words:= .zero}) (by rfl) (by rfl) (by exact pb_wsl) (by rw [po_wsl,Nat.add_mul]<;>rfl) (by exact inferInstance) (by exact inferInstance) (by rfl) (by rfl) (by rw [List.length_set];exact hi2) (by decide) (by rw [List.getElem_set_self];rfl));refine same_intro ?_;(refine ⟨by first|exact After.free|exact After.turns rfl|(refine After.still ?_;exact zqN;done),?_⟩)
           repeat (first|refine go ?_|intro _|refine dr_Arr2_167 ?_|refine drq ?_)
           rw [List.set_set]
           (apply WE_ret rfl rfl zqR)
           · exact ⟨rfl,rfl⟩
           · (apply arr_in;(focus (exact entu0));all_goals exact zqS)
       · have e2:setL c l line st w=l.set (arrF c line+i) { l[arrF c line+i] with st:=st,words:=w}:=by unfold setL;rw [e1,ei,Int.toNat_natCast,ew,if_neg hz];rfl
         rw [e1,e2]
         repeat' (first|refine go ?_|intro _|refine dr_Arr2_167 ?_|refine drq ?_|refine cal @hP ?_|refine cal @hOd ?_|refine cal @hO ?_|refine spl ?_ ?_|fail)
         · apply WT_k;rfl;exact GIn.none;(refine K_way (l:=l) (f:=arrF c line) (i:=i) (j:=0) (w:={ l[arrF c line+i] with st:=st}) (by rfl) (by rfl) (by exact pb_wsl) (by rw [po_wsl,Nat.add_mul]<;>rfl) (by exact inferInstance) (by exact inferInstance) (by rfl) (by rfl) hi2 (by decide) (by rfl));refine same_intro ?_;(refine ⟨by first|exact After.free|exact After.turns rfl|(refine After.still ?_;exact zqN;done),?_⟩)
           repeat (first|refine go ?_|intro _|refine dr_Arr2_167 ?_|refine drq ?_)
           apply WT_k;rfl;exact GIn.none;(refine K_way (l:=l.set (arrF c line+i) { l[arrF c line+i] with st:=st}) (f:=arrF c line) (i:=i) (j:=2) (w:={ l[arrF c line+i] with st:=st,words:=w}) (by rfl) (by rfl) (by exact pb_wsl) (by rw [po_wsl,Nat.add_mul]<;>rfl) (by exact inferInstance) (by exact inferInstance) (by rfl) (by rfl) (by rw [List.length_set];exact hi2) (by decide) (by rw [List.getElem_set_self];rfl));refine same_intro ?_;(refine ⟨by first|exact After.free|exact After.turns rfl|(refine After.still ?_;exact zqN;done),?_⟩)
           repeat (first|refine go ?_|intro _|refine dr_Arr2_167 ?_|refine drq ?_)
           rw [List.set_set]
           (apply WE_ret rfl rfl zqR)
           · exact ⟨rfl,rfl⟩
           · (apply arr_in;(focus (exact entu0));all_goals exact zqS)
         · apply WT_k;rfl;exact GIn.none;(refine K_way (l:=l) (f:=arrF c line) (i:=i) (j:=0) (w:={ l[arrF c line+i] with st:=st}) (by rfl) (by rfl) (by exact pb_wsl) (by rw [po_wsl,Nat.add_mul]<;>rfl) (by exact inferInstance) (by exact inferInstance) (by rfl) (by rfl) hi2 (by decide) (by rfl));refine same_intro ?_;(refine ⟨by first|exact After.free|exact After.turns rfl|(refine After.still ?_;exact zqN;done),?_⟩)
           repeat (first|refine go ?_|intro _|refine dr_Arr2_167 ?_|refine drq ?_)
           apply WT_k;rfl;exact GIn.none;(refine K_way (l:=l.set (arrF c line+i) { l[arrF c line+i] with st:=st}) (f:=arrF c line) (i:=i) (j:=2) (w:={ l[arrF c line+i] with st:=st,words:=w}) (by rfl) (by rfl) (by exact pb_wsl) (by rw [po_wsl,Nat.add_mul]<;>rfl) (by exact inferInstance) (by exact inferInstance) (by rfl) (by rfl) (by rw [List.length_set];exact hi2) (by decide) (by rw [List.getElem_set_self];rfl));refine same_intro ?_;(refine ⟨by first|exact After.free|exact After.turns rfl|(refine After.still ?_;exact zqN;done),?_⟩)
           repeat (first|refine go ?_|intro _|refine dr_Arr2_167 ?_|refine drq ?_)
           rw [List.set_set]
           (apply WE_ret rfl rfl zqR)
           · exact ⟨rfl,rfl⟩
           · (apply arr_in;(focus (exact entu0));all_goals exact zqS)
end Go.Sx

/- Arrays of ways: what holds of them. My own work. -/
namespace Go.Sx
open Go Go.Proofs
def ArrInv (c:Cfg) (l:List Way):Prop:=
  ∀ i (h:i<l.length),thereB l[i]=true→okLine c l[i].line=true∧arrF c l[i].line≤i∧i<arrF c l[i].line+c.ways.toNat∧∀ j (hj:j<l.length),thereB l[j]=true→l[j].line=l[i].line→j=i
theorem pHas_iff {line:Int} {w:Way}:pHas line w=true↔thereB w=true∧w.line=line:=by simp [pHas]
theorem arrP_at {c:Cfg} {l:List Way} {line:Int} {i:Nat} (hi:arrP c l line=i):∃ h:arrF c line+i<l.length,okLine c line=true∧pHas line l[arrF c line+i]=true∧i<c.ways.toNat:=by
  obtain ⟨k,hk,e,h1,_⟩:=arrP_nat (by omega:0≤arrP c l line)
  have hki:k=i:=by omega
  subst hki
  have hok:=arrP_ok (by omega:0≤arrP c l line)
  obtain ⟨h2,e2⟩:=ways_get hok hk
  refine ⟨h2,hok,e2▸h1,?_⟩
  rw [waysOf_ok hok,List.length_take] at hk
  omega
theorem arrP_no {c:Cfg} {l:List Way} {line:Int} (h:arrP c l line<0):∀ i,i<c.ways.toNat→okLine c line=true→∀ h:arrF c line+i<l.length,pHas line l[arrF c line+i]=false:=by
  intro i hi hok hl
  have h2:=(indexBy_neg (by unfold arrP at h;omega:¬0≤indexBy (pHas line) (waysOf c l line))).2
  have hk:i<(waysOf c l line).length:=by rw [waysOf_ok hok,List.length_take,List.length_drop];omega
  have:=h2 _ (List.getElem_mem hk)
  obtain ⟨_,e2⟩:=ways_get hok hk
  rw [e2] at this;exact this
theorem arr_inv_no (c:Cfg) (n:Nat):ArrInv c (List.replicate n .zero):=by
  intro i h ht
  rw [List.getElem_replicate] at ht
  cases ht
theorem arr_inv_set {c:Cfg} {l:List Way} {k:Nat} {w:Way} (hI:ArrInv c l) (hk:k<l.length) (h:thereB w=true→okLine c w.line=true∧arrF c w.line≤k∧k<arrF c w.line+c.ways.toNat∧∀ j (hj:j<l.length),thereB l[j]=true→l[j].line=w.line→j=k):ArrInv c (l.set k w):=by
  intro i hi ht
  rw [List.length_set] at hi
  by_cases e:k=i
  · subst e
    rw [List.getElem_set_self] at ht ⊢
    obtain ⟨h1,h2,h3,h4⟩:=h ht
    refine ⟨h1,h2,h3,fun j hj htj hlj=>?_⟩
    rw [List.length_set] at hj
    by_cases e2:k=j
    · exact e2.symm
    · rw [List.getElem_set_ne e2] at htj hlj
      exact h4 j hj htj hlj
  · rw [List.getElem_set_ne e] at ht ⊢
    obtain ⟨h1,h2,h3,h4⟩:=hI i hi ht
    refine ⟨h1,h2,h3,fun j hj htj hlj=>?_⟩
    rw [List.length_set] at hj
    by_cases e2:k=j
    · subst e2
      rw [List.getElem_set_self] at htj hlj
      exact ((h htj).2.2.2 i hi ht hlj.symm).symm
    · rw [List.getElem_set_ne e2] at htj hlj
      exact h4 j hj htj hlj
theorem findW_at {c:Cfg} {l:List Way} {line:Int} {i:Nat} (hi:arrP c l line=i) (h2:arrF c line+i<l.length):findW c l line=l[arrF c line+i]:=by
  obtain ⟨k,hk,e,_,_⟩:=arrP_nat (by omega:0≤arrP c l line)
  have hki:k=i:=by omega
  subst hki
  have hok:=arrP_ok (by omega:0≤arrP c l line)
  obtain ⟨_,e2⟩:=ways_get hok hk
  unfold findW;rw [if_neg (by omega),hi,Int.toNat_natCast,←e2];exact (getD_at hk).symm
theorem layL_inv {c:Cfg} {l:List Way} {line way:Int} (hI:ArrInv c l):ArrInv c (layL c l line way):=by
  unfold layL
  split
  · rename_i h
    unfold layE at h
    split at h
    · rename_i h0
      split at h
      · rename_i hp
        have hok:okLine c line=true:=by
          cases e:okLine c line with
          |true=>rfl
          |false=>rw [waysOf_no e] at h0;simp at h0;omega
        obtain ⟨k,hk⟩:∃ k:Nat,way=k:=⟨way.toNat,by omega⟩
        subst hk
        obtain ⟨h2,_⟩:=ways_get hok (show k<(waysOf c l line).length by omega)
        have hkw:k<c.ways.toNat:=by have:=h0.2;rw [waysOf_ok hok,List.length_take] at this;omega
        rw [Int.toNat_natCast]
        refine arr_inv_set hI h2 fun _=>⟨hok,by dsimp only;omega,by dsimp only;omega,fun j hj ht hl=>?_⟩
        exfalso
        dsimp only at hl
        obtain ⟨a1,a2,a3,_⟩:=hI j hj ht
        rw [hl] at a1 a2 a3
        have:=arrP_no (by omega:arrP c l line<0) (j-arrF c line) (by omega) a1 (by omega)
        simp only [show arrF c line+(j-arrF c line)=j by omega] at this
        rw [pHas_iff.2 ⟨ht,hl⟩] at this;cases this
      · cases h
    · cases h
  · exact hI
theorem turn_inv {c:Cfg} {l:List Way} {line:Int} {w:Way} (hI:ArrInv c l) (hp:¬arrP c l line= -1) (hl:w.line=(findW c l line).line):ArrInv c (l.set (arrF c line+(arrP c l line).toNat) w):=by
  have h0:0≤arrP c l line:=by have:=(arrP_lt c l line).1;omega
  obtain ⟨i,hi⟩:∃ i:Nat,arrP c l line=i:=⟨(arrP c l line).toNat,by omega⟩
  obtain ⟨h2,hok,h3,h4⟩:=arrP_at hi
  have hf:=findW_at hi h2
  rw [hi,Int.toNat_natCast]
  obtain ⟨g1,g2⟩:=pHas_iff.1 h3
  have hinv:=hI _ h2 g1
  refine arr_inv_set hI h2 fun _=>?_
  have e:w.line=l[arrF c line+i].line:=by rw [hl,hf]
  rw [e]
  exact hinv
theorem setL_inv {c:Cfg} {l:List Way} {line st:Int} {w:Words} (hI:ArrInv c l):ArrInv c (setL c l line st w):=by
  unfold setL
  split
  · rename_i h
    refine turn_inv hI (fun hp=>?_) rfl
    unfold setE at h;rw [if_pos hp] at h;cases h
  · exact hI
theorem lockL_inv {c:Cfg} {l:List Way} {line:Int} {lk:Bool} (hI:ArrInv c l):ArrInv c (lockL c l line lk):=by
  unfold lockL
  split
  · rename_i h
    refine turn_inv hI (fun hp=>?_) rfl
    unfold lockE at h;rw [if_pos hp] at h;cases h
  · exact hI
theorem layL_len {c:Cfg} {l:List Way} {line way:Int}:(layL c l line way).length=l.length:=by unfold layL;split<;>simp
end Go.Sx

/- Strings, interface values, and calls through these. My own work; names no program. -/
namespace Go.Sx
open Go
def bstr (ns:List Int):ByteArray:=ns.foldl (fun r n=>r.push (UInt8.ofNat n.toNat)) ByteArray.empty
def bat (s:ByteArray) (n:Nat):Int:=match s.data.toList[n]? with|some b=>(b.toNat:Int)|none=>0
abbrev byc (n:Int):List Value:=[.int .u8 n]
section
variable {P:Program} {N:Nat} {t ty xt yt:TypeId} {x y:Operand} {env:Env} {L:List HP}
theorem v_index_string {k:IntKind} {i:Int} {s:ByteArray} [hT:TU P t .string] (hx:ev env x=some (.string s)) (hy:ev env y=some (.int k i)) (h0:0≤i) (h1:i<(s.size:Int)) :
    V P N (.index t x y) ty env L (.int .u8 (bat s i.toNat)):=by
  intro a w ha _
  have h2:i.toNat<s.size:=by omega
  have h3:s[i.toNat]? =some s[i.toNat]:=getElem?_pos s _ h2
  have h4:bat s i.toNat=((s[i.toNat]).toNat:Int):=by
    unfold bat
    rw [Array.getElem?_toList,Array.getElem?_eq_getElem (by simpa using h2)]
    rfl
  simp only [execOp,ha.ev hx,ha.ev hy,Instr.index,asIntOf,run_underlying hT.pf,Sem.run_bind,Sem.run_pure,Result.andThen_ok,if_pos h0,h3,h4]
theorem v_eq_string {a b:ByteArray} (hx:ev env x=some (.string a)) (hy:ev env y=some (.string b)):V P N (.binOp .eql xt x y yt) ty env L (.bool (decide (a=b))):=by
  intro f w ha _
  have e:(eqGuard .eql xt x y (.string a) (.string b)).run P w= .ok () w:=by unfold eqGuard;simp
  have hb:(a.toList == b.toList)=decide (a=b):=by
    rw [ByteArray.toList_eq,ByteArray.toList_eq,Bool.eq_iff_iff,beq_iff_eq,decide_eq_true_iff]
    constructor
    · intro h;cases a;cases b;simp only [Array.toList_inj] at h;simp [h]
    · intro h;rw [h]
  simp [execOp,ha.ev hx,ha.ev hy,e,binOp,Op.stringOp,hb]
theorem v_ne_string {a b:ByteArray} (hx:ev env x=some (.string a)) (hy:ev env y=some (.string b)):V P N (.binOp .neq xt x y yt) ty env L (.bool (decide (a≠b))):=by
  intro f w ha _
  have e:(eqGuard .neq xt x y (.string a) (.string b)).run P w= .ok () w:=by unfold eqGuard;simp
  have hb:(a.toList == b.toList)=decide (a=b):=by
    rw [ByteArray.toList_eq,ByteArray.toList_eq,Bool.eq_iff_iff,beq_iff_eq,decide_eq_true_iff]
    constructor
    · intro h;cases a;cases b;simp only [Array.toList_inj] at h;simp [h]
    · intro h;rw [h]
  simp [execOp,ha.ev hx,ha.ev hy,e,binOp,Op.stringOp,hb]
theorem v_slice_string {lo:Option Operand} {l:Nat} {s:ByteArray} [hT:TU P t .string] (hx:ev env x=some (.string s)) (hl:Bnd env lo 0 l) (h:l≤s.size) :
    V P N (.slice t x lo none none) ty env L (.string (s.extract l s.size)):=by
  intro a w ha hw
  have e1:(Instr.sliceAt t (.string s) (lo.map a.eval) none none).run P w= .ok (.string (s.extract l s.size)) w:=by
    cases hl with
    |none=>simp [Instr.sliceAt,Instr.slice,Instr.sliceBounds,run_underlying hT.pf]
    |some q q0=>simp [Instr.sliceAt,Instr.slice,Instr.sliceBounds,run_underlying hT.pf,ha.ev q,run_bound q0 h]
  simp [execOp,ha.ev hx,e1]
theorem v_bytes {src dst e:TypeId} {v:Value} {n:Nat} {xs:List Value} {ns:List Int} [hs:TU P src (.slice e)] [he:TU P e (.int .u8)] [hd:TU P dst .string] (hx:ev env x=some v) (hr:RdL L 1 v n xs) (hn:xs=flat byc ns) :
    V P N (.convert src dst x) ty env L (.string (bstr ns)):=by
  intro a w ha hw
  have hfl:flat byc ns=ns.map (Value.int .u8):=by
    clear hn
    induction ns with
    |nil=>rfl
    |cons b r ih=>rw [List.map_cons,←ih];rfl
  have hlen:=hr.len w hw
  have e1:(convert src dst v).run P w= .ok (.string (bstr ns)) w:=by
    rcases hr.pf w hw with ⟨p,c,rfl,rfl⟩|⟨b,o,c,rfl,hc⟩
    · rw [run_convert_bytes_string w src dst e _ _ _ hs.pf he.pf hd.pf]
      have hnil:ns=[]:=by rw [hn,hfl] at hlen;exact List.eq_nil_of_length_eq_zero (by simpa using hlen)
      subst hnil
      cases p with
      |none=>simp [Conv.bytesToString,bstr]
      |some p=>
       rw [run_bytesToString w p 0 c [] (by simp [loadCells,loadCellsFrom])]
       rfl
    · rw [run_convert_bytes_string w src dst e _ _ _ hs.pf he.pf hd.pf]
      rw [run_bytesToString w _ n c ns ?_]
      · rfl
      · rw [←hfl,←hn]
        exact run_loadCells' (by omega) hc
  simp [execOp,ha.ev hx,e1]
def isIfaceD:TypeDesc→Bool
  | .interface _=>true
  |_=>false
theorem v_iface {d:TypeDesc} {u:Value} [hT:TU P t d] (hx:ev env x=some u) (hd:isIfaceD d=false):V P N (.makeInterface t x) ty env L (.iface t u):=by
  intro a w ha _
  have e1:(Instr.makeInterface t u).run P w= .ok (.iface t u) w:=by
    cases d<;>first|(cases hd;done)|simp [Instr.makeInterface,run_underlying hT.pf]
  simp [execOp,ha.ev hx,e1]
def missL (want:Array (String×TypeId)) (got:Array Method):List (String×TypeId):=want.toList.filter fun p=> !got.any fun m=>m.name == p.1&& m.sig == p.2
theorem miss_none {want:Array (String×TypeId)} {got:Array Method} (h:missL want got=[]):Instr.missingMethod want got=none:=by
  unfold Instr.missingMethod
  unfold missL at h
  simp only [h,List.map_nil,List.partition_eq_filter_filter,List.filter_nil]
  rfl
theorem least_some {l:List String} (h:l≠[]):∃ m,Instr.least l=some m:=by
  cases l with
  |nil=>exact absurd rfl h
  |cons a r=>exact ⟨_,rfl⟩
theorem miss_some {want:Array (String×TypeId)} {got:Array Method} (h:missL want got≠[]):∃ m,Instr.missingMethod want got=some m:=by
  unfold Instr.missingMethod
  unfold missL at h
  simp only [List.partition_eq_filter_filter]
  generalize List.filter (fun p=> !got.any fun m=>m.name == p.1&& m.sig == p.2) want.toList=l at h
  by_cases h1:List.filter (not∘fun x:String=>x.contains '.') (List.map (fun x=>x.1) l)=[]
  · rw [h1]
    have h2:List.filter (fun x:String=>x.contains '.') (List.map (fun x=>x.1) l)≠[]:=fun h2=>by
      cases l with
      |nil=>exact h rfl
      |cons a r=>
       have k1:=List.filter_eq_nil_iff.1 h1 a.1 (by simp)
       have k2:=List.filter_eq_nil_iff.1 h2 a.1 (by simp)
       simp only [Function.comp] at k1
       revert k1 k2
       generalize (a.1.contains '.')=b
       cases b<;>simp
    obtain ⟨m,hm⟩:=least_some (l:=List.map (fun id=>(String.splitOn id ".").getLastD id) (List.filter (fun x:String=>x.contains '.') (List.map (fun x=>x.1) l))) (by simpa using h2)
    exact ⟨m,by rw [hm];rfl⟩
  · obtain ⟨m,hm⟩:=least_some h1
    exact ⟨m,by rw [hm];rfl⟩
def hasO (P:Program) (t at':TypeId):Option Bool:=match P.underlying at',P.info? t with
  |some (.interface want),some i=>some (missL want i.methods).isEmpty
  |_,_=>none
class Has (P:Program) (t at':TypeId) (b:outParam Bool):Prop where
  pf:hasO P t at'=some b
theorem has_of {t at':TypeId} {b:Bool} (h:hasO P t at'=some b):∃ want i,P.underlying at'=some (.interface want)∧P.info? t=some i∧(missL want i.methods).isEmpty=b:=by
  unfold hasO at h
  split at h
  · rename_i want i h1 h2
    exact ⟨want,i,h1,h2,by simpa using h⟩
  · cases h
theorem v_assert_t {u:Value} {at':TypeId} (hx:ev env x=some (.iface t u)) (h:Has P t at' true):V P N (.typeAssert x xt at' true) ty env L (.tuple [.iface t u,.bool true].toArray):=by
  obtain ⟨want,i,h1,h2,h3⟩:=has_of h.pf
  intro a w ha _
  have h4:Instr.missingMethod want i.methods=none:=miss_none (by simpa using h3)
  simp [execOp,ha.ev hx,Instr.typeAssert,run_underlying h1,typeInfo,h2,h4]
theorem v_assert_f {u z:Value} {at':TypeId} {n bs:Nat} [hZ:TZ P at' n z bs] (hx:ev env x=some (.iface t u)) (h:Has P t at' false):V P N (.typeAssert x xt at' true) ty env L (.tuple [z,.bool false].toArray):=by
  obtain ⟨want,i,h1,h2,h3⟩:=has_of h.pf
  intro a w ha _
  obtain ⟨m,e⟩:=miss_some (want:=want) (got:=i.methods) (fun h=>by rw [h] at h3;cases h3)
  simp [execOp,ha.ev hx,Instr.typeAssert,run_underlying h1,typeInfo,h2,e,run_zeroValue hZ]
class Meth (P:Program) (t:TypeId) (v:Value) (name:String) (k:outParam FuncId) (r:outParam Value):Prop where
  pf:∀ w,(method (P.types.size+Made.depth) t v name).run P w= .ok (k,r) w
theorem execInvoke {ρ:Operand→Value} {f:Operand} {args:List Operand} {ats:Array TypeId} {k:FuncId} {tv:TypeId} {v r:Value} {name:String} {vs:List Value} (hf:ρ f= .iface tv v) (hm:Meth P tv v name k r) (ha:r::args.map ρ=vs)
    (he:Enters P k) (w:World):(execOp ρ ⟨none,.call ⟨.invoke f name,args.toArray,ats⟩,ty, "", #[],none⟩).run P w= .ok (.enter k vs.toArray) w:=by
  have e1:(program).run P w= .ok P w:=by simp
  simp only [execOp,resolve,hf,Sem.run_bind,Sem.run_pure,Result.andThen_ok,invoke]
  have e2:((#[Value.iface tv v]++args.toArray.map ρ)[0]? :Option Value)=some (.iface tv v):=by simp
  simp only [e2,callMethod,Sem.run_bind,e1,Result.andThen_ok,hm.pf]
  rw [he]
  congr 2
  apply Array.ext'
  simp only [←ha,Array.toList_append,Array.toList_extract,List.map_toArray]
  simp [List.extract_eq_take_drop]
  exact List.take_of_length_le (by simp)
theorem K_callI {recv:Operand} {args:List Operand} {ats:Array TypeId} {k:FuncId} {tv:TypeId} {v r:Value} {name:String} {avs vs:List Value} {pre F:List HP} {post:Value→List HP→Prop}
    {pos:String} {aft:Array Edge} {d:Option Nat}
    (hf:ev env recv=some (.iface tv v)) (hm:Meth P tv v name k r) (ha:evs env args=some avs) (hv:r::avs=vs) (hd:dstOk N d=true) (C:FnF P k vs pre F post) (hE:PickL pre L F) :
    KO P N ⟨d,.call ⟨.invoke recv name,args.toArray,ats⟩,ty,pos,aft,none⟩ env L (Called env d F post):=by
  intro a w hA hw K Q next
  unfold Oper.wp
  rw [execOp_plain,execInvoke (vs:=vs) (hA.ev hf) hm (by rw [hA.evs ha];exact hv) C.enters w]
  refine (C.runs w (hE.pf.sat hw)).mono fun e w' ⟨v,L',he,hp,hs⟩=>?_
  subst he
  exact next _ _ _ w' ⟨v,L',hp,rfl,rfl⟩ (hA.puts hd v) hs
end
set_option maxRecDepth 100000
theorem str {Q P:Prop} (k:Q) (h:Hid Q→P:=by
  intro k
  (first|(apply WO_v;(first|(apply v_index_string;rfl;rfl;omega;omega)|(apply v_eq_string;rfl;rfl)|(apply v_ne_string;rfl;rfl)|(apply v_slice_string;rfl;exact zqB;omega)|(apply v_bytes;rfl;exact inferInstance;(first|rfl|(with_reducible assumption)))|(apply v_iface;rfl;rfl)|(apply v_assert_t;rfl;exact inferInstance)|(apply v_assert_f;rfl;exact inferInstance));rfl)|(apply WT_p;rfl;exact zqI;(first|(apply v_index_string;rfl;rfl;omega;omega)|(apply v_eq_string;rfl;rfl)|(apply v_ne_string;rfl;rfl)|(apply v_slice_string;rfl;exact zqB;omega)|(apply v_bytes;rfl;exact inferInstance;(first|rfl|(with_reducible assumption)))|(apply v_iface;rfl;rfl)|(apply v_assert_t;rfl;exact inferInstance)|(apply v_assert_f;rfl;exact inferInstance));rfl)|(apply WT_r;rfl;exact zqI;(first|(apply v_index_string;rfl;rfl;omega;omega)|(apply v_eq_string;rfl;rfl)|(apply v_ne_string;rfl;rfl)|(apply v_slice_string;rfl;exact zqB;omega)|(apply v_bytes;rfl;exact inferInstance;(first|rfl|(with_reducible assumption)))|(apply v_iface;rfl;rfl)|(apply v_assert_t;rfl;exact inferInstance)|(apply v_assert_f;rfl;exact inferInstance));rfl)|(apply WT_v;rfl;exact zqI;(first|(apply v_index_string;rfl;rfl;omega;omega)|(apply v_eq_string;rfl;rfl)|(apply v_ne_string;rfl;rfl)|(apply v_slice_string;rfl;exact zqB;omega)|(apply v_bytes;rfl;exact inferInstance;(first|rfl|(with_reducible assumption)))|(apply v_iface;rfl;rfl)|(apply v_assert_t;rfl;exact inferInstance)|(apply v_assert_f;rfl;exact inferInstance));rfl)|(apply WQ_op;(first|(apply v_index_string;rfl;rfl;omega;omega)|(apply v_eq_string;rfl;rfl)|(apply v_ne_string;rfl;rfl)|(apply v_slice_string;rfl;exact zqB;omega)|(apply v_bytes;rfl;exact inferInstance;(first|rfl|(with_reducible assumption)))|(apply v_iface;rfl;rfl)|(apply v_assert_t;rfl;exact inferInstance)|(apply v_assert_f;rfl;exact inferInstance));rfl))
  exact k.out):P:=h ⟨k⟩
theorem cali {C Q P:Prop} (c:C) (k:Q) (h:C→Hid Q→P:=by
  intro c k
  first
  |(apply WO_k;rfl;(focus (apply K_callI;rfl;exact inferInstance;rfl;rfl;rfl;apply c;(all_goals (try (focus ((repeat (first|(with_reducible exact pl_nil)|(apply pl_cons;focus (repeat (first|(with_reducible exact pk_here)|(apply pk_there))))));done))));(all_goals (focus (first|(with_reducible assumption)|exact inferInstance|exact rd_lit inferInstance rfl rfl|(with_reducible rfl)|omega|(unfold I64;omega)|(constructor<;>omega)|decide)))));refine called_some ?_;exact k.out)
  |(apply WT_k;rfl;exact zqI;(focus (apply K_callI;rfl;exact inferInstance;rfl;rfl;rfl;apply c;(all_goals (try (focus ((repeat (first|(with_reducible exact pl_nil)|(apply pl_cons;focus (repeat (first|(with_reducible exact pk_here)|(apply pk_there))))));done))));(all_goals (focus (first|(with_reducible assumption)|exact inferInstance|exact rd_lit inferInstance rfl rfl|(with_reducible rfl)|omega|(unfold I64;omega)|(constructor<;>omega)|decide)))));refine called_some ?_;exact k.out)):P:=h c ⟨k⟩
end Go.Sx

/- Lists of messages, held against one another. My own work. -/
namespace Go.Sx
open Go Go.Proofs
theorem mc_inj {a b:Msg} (h:mc a=mc b):a=b:=by
  obtain ⟨a1,a2,a3,a4,a5,a6,a7,⟨x0,x1,x2,x3,x4,x5,x6,x7⟩⟩:=a
  obtain ⟨b1,b2,b3,b4,b5,b6,b7,⟨y0,y1,y2,y3,y4,y5,y6,y7⟩⟩:=b
  simp only [mc,List.cons.injEq,Value.int.injEq,true_and,and_true] at h
  obtain ⟨rfl,rfl,rfl,rfl,rfl,rfl,rfl,rfl,rfl,rfl,rfl,rfl,rfl,rfl,rfl⟩:=h
  rfl
set_option maxRecDepth 100000
set_option maxHeartbeats 4000000
attribute [local irreducible] Go.Exit.then Go.Exit.inBlock Go.Code.wp WC WO WE WQ V LoopQ FnQ Sat Star band bor IntKind.wrap WR Code.rounds WT KO
theorem ref07_Same {F:List HP} {v u:Value} {l m:List Msg} (k1:RdL F 15 v l.length (flat mc l)) (k2:RdL F 15 u m.length (flat mc m)) (hn:l.length≤1099511627776):FnF Tryz.prog 23 [v,u] [] F (fun r L'=>r= .bool (decide (l=m))∧L'=[]):=by
  refine FnF.mk' Tryz.func23 rfl rfl Tryz.ntmps23 rfl ?_
  by_cases e:l.length=m.length
  · repeat (first|refine gd ?_|intro _)
    apply WC_loopE (E0:=[(0,_),(1,_)]) (fun E0 (i:Nat)=>(5,.int .i64 i)::E0) (fun _=>F) (fun i=>i≤l.length∧l.take i=m.take i) (fun i=>l.length-i) 0
    · exact zqU
    · exact ⟨by omega,rfl⟩
    · exact Ent.refl
    · rintro i ⟨hi,h1⟩
      by_cases hlt:i<l.length
      · have hlt':i<m.length:=by omega
        by_cases he:l[i]=m[i]
        · have he':¬(mc l[i]≠mc m[i]):=fun h=>h (by rw [he])
          repeat (first|refine gd ?_|intro _)
          refine WE_loop (i+1) (by omega) ⟨by omega,?_⟩ ?_ Ent.refl
          · rw [List.take_add_one,List.take_add_one,h1];simp [hlt,hlt',he]
          · exact zqU
        · have he':mc l[i]≠mc m[i]:=fun h=>he (mc_inj h)
          repeat (first|refine gd ?_|intro _)
          have hne:l≠m:=fun e=>by subst e;exact he rfl
          (apply WE_ret rfl rfl zqR;(first|exact zqL|exact ⟨by simp [hne]<;>omega,rfl⟩);exact zqN)
      · have hil:i=l.length:=by omega
        subst hil
        have:l=m:=by rw [List.take_length,e,List.take_length] at h1;exact h1
        repeat (first|refine gd ?_|intro _)
        (apply WE_ret rfl rfl zqR;(first|exact zqL|exact ⟨by simp [this]<;>omega,rfl⟩);exact zqN)
  · have hne:l≠m:=fun h=>e (by rw [h])
    repeat (first|refine gd ?_|intro _)
    (apply WE_ret rfl rfl zqR;(first|exact zqL|exact ⟨by simp [hne]<;>omega,rfl⟩);exact zqN)
end Go.Sx

/- Many atoms as one; slices that are only read, in blocks of their own. My own work; names no program. -/
namespace Go.Sx
open Go
theorem star_perm {L M:List HP} (p:L.Perm M):∀ h,Star L h→Star M h:=by
  induction p with
  |nil=>exact fun _ h=>h
  |cons x _ ih=>exact fun _ h=>star_cons ih h
  |swap x y l=>exact fun _ h=>star_swap h
  |trans _ _ a b=>exact fun h x=>b h (a h x)
theorem ent_perm {L M:List HP} (p:L.Perm M):Ent L M:=star_perm p
theorem erase_perm {α:Type}:∀ (l:List α) (i:Nat) (hi:i<l.length),(l[i]::l.eraseIdx i).Perm l
  |a::r,0,_=>List.Perm.refl _
  |a::r,i+1,hi=>(List.Perm.swap _ _ _).trans ((erase_perm r i (by simpa using hi)).cons a)
  | [],i,hi=>by simp at hi
structure All (ps:List HP) (h:PH):Prop where
  pf:Star ps h
theorem all_open {ps L:List HP}:Ent (All ps::L) (ps++L):=fun h ⟨S,T,d,hp,hL⟩=>star_append_of d hp.pf hL
theorem all_close {ps L:List HP}:Ent (ps++L) (All ps::L):=fun h H=>by
  obtain ⟨S,T,d,h1,h2⟩:=star_split H
  exact ⟨S,T,d,⟨h1⟩,h2⟩
theorem all_nil {L:List HP}:Ent L (All []::L):=all_close (ps:=[])
section
variable {α:Type} {f:α→HP} {qs:List α} {L:List HP}
theorem all_take (i:Nat) (hi:i<qs.length):Ent (All (qs.map f)::L) (f qs[i]::All ((qs.eraseIdx i).map f)::L):=by
  refine Ent.trans all_open (Ent.trans (ent_perm ?_) (Ent.cons all_close))
  have:=(erase_perm qs i hi).map f
  exact (this.symm.append_right L)
theorem all_put (i:Nat) (hi:i<qs.length) (x:α):Ent (f x::All ((qs.eraseIdx i).map f)::L) (All ((qs.set i x).map f)::L):=by
  refine Ent.trans (Ent.cons all_open) (Ent.trans (ent_perm ?_) all_close)
  have h2:i<(qs.set i x).length:=by simpa using hi
  have:=(erase_perm (qs.set i x) i h2).map f
  simp only [List.getElem_set_self,List.eraseIdx_set_eq] at this
  exact this.append_right L
theorem all_back (i:Nat) (hi:i<qs.length):Ent (f qs[i]::All ((qs.eraseIdx i).map f)::L) (All (qs.map f)::L):=by
  have:=all_put (f:=f) (L:=L) i hi qs[i]
  simpa using this
theorem all_add (x:α):Ent (f x::All (qs.map f)::L) (All ((qs++[x]).map f)::L):=by
  refine Ent.trans (Ent.cons all_open) (Ent.trans (ent_perm ?_) all_close)
  rw [List.map_append]
  exact (List.perm_append_singleton (f x) (qs.map f)).symm.append_right L
theorem all_erase (i:Nat):Ent (All (qs.map f)::L) (All ((qs.eraseIdx i).map f)::L):=by
  by_cases hi:i<qs.length
  · exact Ent.trans (all_take i hi) (Ent.drop Ent.refl)
  · rw [List.eraseIdx_of_length_le (by omega)];exact Ent.refl
end
structure Rds (sz:Nat) (v:Value) (n:Nat) (xs:List Value) (h:PH):Prop where
  len:xs.length=n*sz
  ones:xs.all one=true
  pf:(∃ p c,v= .slice p 0 c∧n=0)∨∃ b o c cur T,v= .slice (some ⟨b,o,none⟩) n c∧h.c b=some (.cells cur T (0,0))∧∀ j u,xs[j]? =some u→cur.toList[o+j]? =some u
section
variable {sz n:Nat} {v:Value} {xs:List Value} {L:List HP}
instance (priority:=high) RdL.rds:RdL (Rds sz v n xs::L) sz v n xs:=
  ⟨fun w ⟨_,_,_,hp,_⟩=>hp.len,fun w ⟨_,_,_,hp,_⟩=>hp.ones,fun w ⟨S,_,_,hp,_⟩=>by
    rcases hp.pf with h|⟨b,o,c,cur,T,h1,h2,h3⟩
    · exact .inl h
    · refine .inr ⟨b,o,c,h1,fun j u hu=>?_⟩
      have hh:w.heap[b]? =some (.cells cur.toList.toArray T (0,0)):=by have h4:=(res_c h2).2;simp only [ph] at h4;simpa using h4
      rw [cell_of_heap hh]
      exact h3 j u hu⟩
theorem own_rds {e:TypeId}:Ent (Own e sz v n xs::L) (Rds sz v n xs::L):=fun h ⟨S,T,d,hp,hL⟩=>by
  refine ⟨S,T,d,⟨hp.len,hp.ones,?_⟩,hL⟩
  rcases hp.pf with ⟨p,a,b⟩|⟨g,cap,cur,a,b,c,d1,e1,f⟩
  · exact .inl ⟨p,0,a,b⟩
  · refine .inr ⟨g,0,cap,cur,e,a,b,fun j u hu=>?_⟩
    rw [←f,List.getElem?_take] at hu
    split at hu
    · simpa using hu
    · simp at hu
theorem rds_nil {p:Option Addr} {c:Nat}:Ent L (Rds sz (.slice p 0 c) 0 []::L):=fun hh H=>by
  refine ⟨fun _=>False,fun _=>True,fun _ a _=>a,⟨by simp,rfl,.inl ⟨p,c,rfl,rfl⟩⟩,?_⟩
  have:res hh (fun _=>True)=hh:=by unfold res;simp
  rw [this];exact H
theorem rds_cut {l h m:Nat} (h1:l≤h) (h2:h≤n) (h3:h≤m):Ent (Rds sz v n xs::L) (Rds sz (cut v l h m sz) (h-l) ((xs.drop (l*sz)).take ((h-l)*sz))::L):=fun hh ⟨S,T,d,hp,hL⟩=>by
  refine ⟨S,T,d,⟨?_,?_,?_⟩,hL⟩
  · have:=hp.len
    have e:(h-l)*sz+l*sz≤n*sz:=by rw [←Nat.add_mul];exact Nat.mul_le_mul_right _ (by omega)
    simp;omega
  · have:=hp.ones
    rw [List.all_eq_true] at this ⊢
    exact fun u hu=>this u (List.mem_of_mem_drop (List.mem_of_mem_take hu))
  · by_cases hq:h=l
    · left
      subst hq
      rcases hp.pf with ⟨p,c,rfl,rfl⟩|⟨b,o,c,cur,T,rfl,_⟩<;>exact ⟨_,_,by simp [Sx.cut];exact ⟨rfl,rfl⟩,by omega⟩
    · rcases hp.pf with ⟨p,c,rfl,rfl⟩|⟨b,o,c,cur,T,rfl,hb,hc⟩
      · omega
      · right
        have hadd:(Addr.add ⟨b,o,none⟩ (l*sz))=⟨b,o+l*sz,none⟩:=by unfold Addr.add;split<;>simp_all
        refine ⟨b,o+l*sz,m-l,cur,T,?_,hb,fun j u hj=>?_⟩
        · simp only [Sx.cut,if_neg (show ¬m=l by omega),Option.map_some,hadd]
        · rw [List.getElem?_take] at hj
          split at hj
          · rw [List.getElem?_drop] at hj
            have:=hc _ _ hj
            rwa [←Nat.add_assoc] at this
          · simp at hj
end
end Go.Sx
