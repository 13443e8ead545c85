/- Msg, Core, ArrHPl, Pro0, Range: several of my texts as one. My own work. -/
import Derived.Test.YtjihlpjnebdiiaaGreatZae
import Derived.RangeFuncIn
import Derived.RangeFuncLeaves
import Derived.RangeFuncRecord
import Derived.RangeFuncSeq
import Derived.TacticsIn
set_option linter.unusedVariables false
set_option linter.unusedSectionVars false
set_option linter.unusedSimpArgs false
set_option maxRecDepth 100000
set_option maxHeartbeats 4000000
namespace Go.Sx
open Go Go.Proofs
section
def c6 (k:Int):Int:=if 1≤k∧k≤3 then 0 else if 4≤k∧k≤6 then 1 else if 7≤k∧k≤11 then 2 else -1
def cK (k:Int):Prop:=(1≤k∧k≤3)∨k=11
instance (k:Int):Decidable (cK k):=by unfold cK;infer_instance
def r9 (c:Cfg) (m:Msg):Int:=m.line.tmod c.homes
def f1f (n k:Int):Prop:=0≤n∧n<k
instance (n k:Int):Decidable (f1f n k):=by unfold f1f;infer_instance
def rE (c:Cfg) (m:Msg) (a:Bool):Prop:=m.who=0∧m.own=0∧0≤m.acks∧m.acks<(if a then c.cores else 1)
instance (c:Cfg) (m:Msg) (a:Bool):Decidable (rE c m a):=by unfold rE;infer_instance
def e6p (c:Cfg) (m:Msg):Prop:=(0≤m.src∧m.src<c.cores)∧m.dst=r9 c m∧rE c m false
instance (c:Cfg) (m:Msg):Decidable (e6p c m):=by unfold e6p;infer_instance
def zU (c:Cfg) (m:Msg) (a:Bool):Prop:=m.src=r9 c m∧(0≤m.dst∧m.dst<c.cores)∧rE c m a
instance (c:Cfg) (m:Msg) (a:Bool):Decidable (zU c m a):=by unfold zU;infer_instance
def uV (c:Cfg) (m:Msg):Prop:=(0≤m.src∧m.src<c.cores)∧(0≤m.dst∧m.dst<c.cores)∧m.src≠m.dst∧rE c m false
instance (c:Cfg) (m:Msg):Decidable (uV c m):=by unfold uV;infer_instance
def jL (c:Cfg) (m:Msg) (a:Bool):Prop:=(0≤m.who∧m.who<c.cores)∧m.who≠m.dst∧zU c { m with who:=0} a
instance (c:Cfg) (m:Msg) (a:Bool):Decidable (jL c m a):=by unfold jL;infer_instance
def b2f (c:Cfg) (m:Msg):Prop:=(m.own=1∨m.own=2∨m.own=4)∧(0≤m.acks∧m.acks<c.cores)∧(0≤m.dst∧m.dst<c.cores)∧((m.who=0∧m.src=r9 c m)∨(m.who=1∧(0≤m.src∧m.src<c.cores)∧m.src≠m.dst))
instance (c:Cfg) (m:Msg):Decidable (b2f c m):=by unfold b2f;infer_instance
def Words.at (w:Words) (i:Nat):Int:=w.list.getD i 0
def uW (c:Cfg) (w:Words) (i:Nat):Prop:= -2147483648≤w.at i∧w.at i≤2147483647∧(c.words≤i→w.at i=0)
instance (c:Cfg) (w:Words) (i:Nat):Decidable (uW c w i):=by unfold uW;infer_instance
def bX (c:Cfg) (w:Words):Prop:=∀ i,i<8→uW c w i
instance (c:Cfg) (w:Words):Decidable (bX c w):=by unfold bX;infer_instance
def jY (c:Cfg) (m:Msg):Prop:=
  if cK m.kind then e6p c m else if m.kind=4∨m.kind=6 then jL c m false else if m.kind=5 then jL c m true else if m.kind=7 then b2f c m else if m.kind=8 then zU c m true else if m.kind=10 then zU c m false else uV c m
instance (c:Cfg) (m:Msg):Decidable (jY c m):=by unfold jY;infer_instance
def iB (k:Int):Prop:=k=3∨k=7
instance (k:Int):Decidable (iB k):=by unfold iB;infer_instance
def iX (c:Cfg) (m:Msg):Prop:=if iB m.kind then bX c m.words else m.words= .zero
instance (c:Cfg) (m:Msg):Decidable (iX c m):=by unfold iX;infer_instance
def fG (c:Cfg) (m:Msg):Prop:=aF c=true∧(1≤m.kind∧m.kind≤11)∧(0≤m.line∧m.line<c.lines)∧jY c m∧iX c m
instance (c:Cfg) (m:Msg):Decidable (fG c m):=by unfold fG;infer_instance
instance:Meth Tryz.prog 297 (.agg #[]) "mesne/message.fits" 269 (.agg #[]):=⟨fun w=>by kernel_rfl⟩
instance:Meth Tryz.prog 299 (.agg #[]) "mesne/message.fits" 269 (.agg #[]):=⟨fun w=>by kernel_rfl⟩
instance:Meth Tryz.prog 299 (.agg #[]) "mesne/message.words" 272 (.agg #[]):=⟨fun w=>by kernel_rfl⟩
instance:Meth Tryz.prog 302 (.agg #[]) "mesne/message.fits" 276 (.agg #[]):=⟨fun w=>by kernel_rfl⟩
instance:Meth Tryz.prog 302 (.agg #[]) "mesne/message.words" 277 (.agg #[]):=⟨fun w=>by kernel_rfl⟩
instance:Meth Tryz.prog 304 (.agg #[]) "mesne/message.fits" 278 (.agg #[]):=⟨fun w=>by kernel_rfl⟩
instance:Meth Tryz.prog 301 (.agg #[.bool false]) "mesne/message.fits" 274 (.agg #[.bool false]):=⟨fun w=>by kernel_rfl⟩
instance:Meth Tryz.prog 301 (.agg #[.bool true]) "mesne/message.fits" 274 (.agg #[.bool true]):=⟨fun w=>by kernel_rfl⟩
instance:Meth Tryz.prog 303 (.agg #[.bool false]) "mesne/message.fits" 275 (.agg #[.bool false]):=⟨fun w=>by kernel_rfl⟩
instance:Meth Tryz.prog 303 (.agg #[.bool true]) "mesne/message.fits" 275 (.agg #[.bool true]):=⟨fun w=>by kernel_rfl⟩
instance:Has Tryz.prog 299 280 true:=⟨by kernel_rfl⟩
instance:Has Tryz.prog 302 280 true:=⟨by kernel_rfl⟩
instance:Has Tryz.prog 297 280 false:=⟨by kernel_rfl⟩
instance:Has Tryz.prog 303 280 false:=⟨by kernel_rfl⟩
instance:Has Tryz.prog 304 280 false:=⟨by kernel_rfl⟩
instance:Has Tryz.prog 301 280 false:=⟨by kernel_rfl⟩
attribute [local irreducible] Exit.then Exit.inBlock Code.wp WC WO WE WQ V bT vL fP cY eI v8 IntKind.wrap WR Code.rounds WT KO
theorem rP {F:List HP} {k:Int}:FnF Tryz.prog 150 [.int .i64 k] [] F (fun r L'=>r= .int .i64 (c6 k)∧L'=[]):=by
  refine FnF.mk' Tryz.func150 rfl rfl Tryz.ntmps150 rfl ?_
  repeat' (first|refine gd ?_|intro _|refine nV ?_ ?_|fail)
  all_goals ((apply aA rfl rfl bH);(refine ⟨congrArg (Value.int .i64) ?_,rfl⟩;unfold c6;repeat (first|rfl|(rw [if_pos (om)])|(rw [if_neg (om)])));exact aB)
theorem a1h {F:List HP} {k:Int}:FnF Tryz.prog 178 [.int .i64 k] [] F (fun r L'=>r= .bool (decide (cK k))∧L'=[]):=by
  have h:c6 k=0↔(1≤k∧k≤3):=by unfold c6;split<;>(try split)<;>(try split)<;>omega
  refine FnF.mk' Tryz.func178 rfl rfl Tryz.ntmps178 rfl ?_
  repeat' (first|refine gd ?_|intro _|refine aD @rP ?_|refine nV ?_ ?_|fail)
  all_goals (apply aA rfl rfl bH;(refine ⟨congrArg Value.bool ?_,rfl⟩;(first|(refine decide_eq_decide.2 ?_)|(refine (decide_eq_true ?_).symm)|(refine (decide_eq_false ?_).symm));(first|omega|(simp only [cK,h];omega)));exact jM)
theorem iC {F:List HP} {n k:Int}:FnF Tryz.prog 214 [.int .i64 n,.int .i64 k] [] F (fun r L'=>r= .bool (decide (f1f n k))∧L'=[]):=by
  refine FnF.mk' Tryz.func214 rfl rfl Tryz.ntmps214 rfl ?_
  repeat' (first|refine gd ?_|intro _|refine nV ?_ ?_|fail)
  all_goals (apply aA rfl rfl bH;(refine ⟨congrArg Value.bool ?_,rfl⟩;(first|(refine decide_eq_decide.2 ?_)|(refine (decide_eq_true ?_).symm)|(refine (decide_eq_false ?_).symm));(first|omega|(simp only [f1f];omega)));exact jM)
theorem a9r {F:List HP} {c:Cfg} {m:Msg} (h:c.homes≠0):FnF Tryz.prog 270 [c.val,mv m] [] F (fun r L'=>r= .int .i64 (r9 c m)∧L'=[]):=by
  refine FnF.mk' Tryz.func270 rfl rfl Tryz.ntmps270 rfl ?_
  repeat first|refine gd ?_|intro _
  (apply aA rfl rfl bH;(first|exact oO|exact ⟨by simp [r9]<;>omega,rfl⟩);exact jM)
theorem xO {F:List HP} {c:Cfg} {m:Msg} {a:Bool}:FnF Tryz.prog 271 [c.val,mv m,.bool a] [] F (fun r L'=>r= .bool (decide (rE c m a))∧L'=[]):=by
  refine FnF.mk' Tryz.func271 rfl rfl Tryz.ntmps271 rfl ?_
  cases a with
  |true=>
   repeat' (first|refine gd ?_|intro _|refine aD @iC ?_|refine nV ?_ ?_|fail)
   all_goals (apply aA rfl rfl bH;(refine ⟨congrArg Value.bool ?_,rfl⟩;(first|(refine decide_eq_decide.2 ?_)|(refine (decide_eq_true ?_).symm)|(refine (decide_eq_false ?_).symm));(first|omega|(simp only [rE,f1f,if_true];omega)));exact jM)
  |false=>
   repeat' (first|refine gd ?_|intro _|refine aD @iC ?_|refine nV ?_ ?_|fail)
   all_goals (apply aA rfl rfl bH;(refine ⟨congrArg Value.bool ?_,rfl⟩;(first|(refine decide_eq_decide.2 ?_)|(refine (decide_eq_true ?_).symm)|(refine (decide_eq_false ?_).symm));(first|omega|(simp only [rE,f1f,Bool.false_eq_true,if_false];omega)));exact jM)
theorem b6q {F:List HP} {c:Cfg} {m:Msg} (h:c.homes≠0):FnF Tryz.prog 269 [.agg #[],c.val,mv m] [] F (fun r L'=>r= .bool (decide (e6p c m))∧L'=[]):=by
  have hW:=fun F=>iC (F:=F) (n:=m.src) (k:=c.cores)
  simp only [f1f] at hW
  refine FnF.mk' Tryz.func269 rfl rfl Tryz.ntmps269 rfl ?_
  repeat' (first|refine gd ?_|intro _|refine aD @hW ?_|refine aD @a9r ?_|refine aD @xO ?_|refine nV ?_ ?_|fail)
  all_goals (apply aA rfl rfl bH;(refine ⟨congrArg Value.bool ?_,rfl⟩;(first|(refine decide_eq_decide.2 ?_)|(refine (decide_eq_true ?_).symm)|(refine (decide_eq_false ?_).symm));(first|omega|(simp only [e6p,rE,Bool.false_eq_true,if_false];omega)));exact jM)
theorem a9s {F:List HP} {c:Cfg} {m:Msg} {a:Bool} (h:c.homes≠0):FnF Tryz.prog 275 [.agg #[.bool a],c.val,mv m] [] F (fun r L'=>r= .bool (decide (zU c m a))∧L'=[]):=by
  have hW:=fun F=>iC (F:=F) (n:=m.dst) (k:=c.cores)
  simp only [f1f] at hW
  refine FnF.mk' Tryz.func275 rfl rfl Tryz.ntmps275 rfl ?_
  repeat' (first|refine gd ?_|intro _|refine aD @hW ?_|refine aD @a9r ?_|refine aD @xO ?_|refine nV ?_ ?_|fail)
  all_goals first|(apply aA rfl rfl bH;(refine ⟨congrArg Value.bool ?_,rfl⟩;(first|(refine decide_eq_decide.2 ?_)|(refine (decide_eq_true ?_).symm)|(refine (decide_eq_false ?_).symm));(first|omega|(simp only [zU];omega)));exact jM)|(apply aA rfl rfl (by repeat (first|exact ResOk.nil|(apply ResOk.tmp;rfl)));(refine ⟨congrArg Value.bool (decide_eq_decide.2 ⟨fun h=>⟨by assumption,by assumption,h⟩,fun h=>h.2.2⟩),rfl⟩);exact jM)
theorem c2b {F:List HP} {c:Cfg} {m:Msg}:FnF Tryz.prog 278 [.agg #[],c.val,mv m] [] F (fun r L'=>r= .bool (decide (uV c m))∧L'=[]):=by
  have hW:=fun F=>iC (F:=F) (n:=m.src) (k:=c.cores)
  have hV:=fun F=>iC (F:=F) (n:=m.dst) (k:=c.cores)
  simp only [f1f] at hW hV
  refine FnF.mk' Tryz.func278 rfl rfl Tryz.ntmps278 rfl ?_
  repeat' (first|refine gd ?_|intro _|refine aD @hW ?_|refine aD @hV ?_|refine aD @xO ?_|refine nV ?_ ?_|fail)
  all_goals (apply aA rfl rfl bH;(refine ⟨congrArg Value.bool ?_,rfl⟩;(first|(refine decide_eq_decide.2 ?_)|(refine (decide_eq_true ?_).symm)|(refine (decide_eq_false ?_).symm));(first|omega|(simp only [uV,rE,Bool.false_eq_true,if_false];omega)));exact jM)
theorem vV {F:List HP} {c:Cfg} {m:Msg} {a:Bool} (h:c.homes≠0):FnF Tryz.prog 274 [.agg #[.bool a],c.val,mv m] [] F (fun r L'=>r= .bool (decide (jL c m a))∧L'=[]):=by
  have hW:=fun F=>iC (F:=F) (n:=m.who) (k:=c.cores)
  have hD:=fun F=>a9s (F:=F) (c:=c) (m:={ m with who:=0}) (a:=a) h
  simp only [f1f] at hW
  refine FnF.mk' Tryz.func274 rfl rfl Tryz.ntmps274 rfl ?_
  repeat' (first|refine gd ?_|intro _|refine aD @hW ?_|refine aD @hD ?_|refine nV ?_ ?_|fail)
  all_goals first|(apply aA rfl rfl bH;(refine ⟨congrArg Value.bool ?_,rfl⟩;(first|(refine decide_eq_decide.2 ?_)|(refine (decide_eq_true ?_).symm)|(refine (decide_eq_false ?_).symm));(first|omega|(simp only [jL];omega)));exact jM)|(apply aA rfl rfl (by repeat (first|exact ResOk.nil|(apply ResOk.tmp;rfl)));(refine ⟨congrArg Value.bool (decide_eq_decide.2 ⟨fun h=>⟨by assumption,by assumption,h⟩,fun h=>h.2.2⟩),rfl⟩);exact jM)
theorem c2c {Q P:Prop} (k:Q) (h:Hid Q→P:=by
  intro k
  first
  |(refine aI ?_;refine uU (id:=6) .false (pl:= .p 0 <| .r 1 <| .r 2 <| .r 3 <| .e true [(4,.p 5 <| .p 6 <| .done)]) k.out)):P:=h ⟨k⟩
theorem d2x {F:List HP} {c:Cfg} {m:Msg} (h:c.homes≠0):FnF Tryz.prog 276 [.agg #[],c.val,mv m] [] F (fun r L'=>r= .bool (decide (b2f c m))∧L'=[]):=by
  have hW:=fun F=>iC (F:=F) (n:=m.src) (k:=c.cores)
  have hV:=fun F=>iC (F:=F) (n:=m.dst) (k:=c.cores)
  have hP:=fun F=>xO (F:=F) (c:=c) (m:={ m with who:=0,own:=0}) (a:=true)
  have hH:=fun F=>a9r (F:=F) (c:=c) (m:={ m with who:=0,own:=0}) h
  simp only [rE,if_true,f1f,true_and] at hW hV hP
  have hh:r9 c { m with who:=0,own:=0}=r9 c m:=rfl
  simp only [hh] at hH
  refine FnF.mk' Tryz.func276 rfl rfl Tryz.ntmps276 rfl ?_
  repeat' (first|refine go ?_|intro _|refine c2c ?_|refine dM ?_|refine aD @hW ?_|refine aD @hV ?_|refine aD @hP ?_|refine aD @hH ?_|refine nV ?_ ?_|fail)
  all_goals (apply aA rfl rfl bH;(refine ⟨congrArg Value.bool ?_,rfl⟩;(first|(refine decide_eq_decide.2 ?_)|(refine (decide_eq_true ?_).symm)|(refine (decide_eq_false ?_).symm));(first|omega|(simp only [b2f];omega)));exact jM)
end
section
instance:MapT Tryz.prog 126 f4b false:=⟨_,_,_,_,_,Tryz.underlying126,Tryz.underlying3,TZ.pf⟩
abbrev Op3.zero:Op3:=⟨0,0,0⟩
def jZ (b:Nat) (l:List Op3) (rs:List Int) (tr:List (Int×Bool)):HP:=
  Ex fun q:(Option Addr×Nat)×(Option Addr×Nat)×Nat=>[Cells b 146 [.slice q.1.1 l.length q.1.2,.slice q.2.1.1 rs.length q.2.1.2,.map (some q.2.2)],Own 58 3 (.slice q.1.1 l.length q.1.2) l.length (aC oc l),Own 3 1 (.slice q.2.1.1 rs.length q.2.1.2) rs.length (aC ic rs),MapAt q.2.2 f4b tr,Fact (rs.length≤l.length∧l.length≤64)]
theorem nP {b n1 n2 bm:Nat} {l:List Op3} {rs:List Int} {tr:List (Int×Bool)} {p1 p2:Option Addr} {c1 c2:Nat} {xs ys:List Value} {L M:List HP}
    (h:Ent L (Cells b 146 [.slice p1 n1 c1,.slice p2 n2 c2,.map (some bm)]::Own 58 3 (.slice p1 n1 c1) n1 xs::Own 3 1 (.slice p2 n2 c2) n2 ys::MapAt bm f4b tr::M)) (hn1:n1=l.length) (hn2:n2=rs.length) (hx:xs=aC oc l) (hy:ys=aC ic rs) (hl:rs.length≤l.length∧l.length≤64):Ent L (jZ b l rs tr::M):=by
  subst hn1 hn2 hx hy
  refine Ent.trans h (Ent.trans ?_ (kW (p:=fun q:(Option Addr×Nat)×(Option Addr×Nat)×Nat=>[Cells b 146 [.slice q.1.1 l.length q.1.2,.slice q.2.1.1 rs.length q.2.1.2,.map (some q.2.2)],Own 58 3 (.slice q.1.1 l.length q.1.2) l.length (aC oc l),Own 3 1 (.slice q.2.1.1 rs.length q.2.1.2) rs.length (aC ic rs),MapAt q.2.2 f4b tr,Fact (rs.length≤l.length∧l.length≤64)]) ((p1,c1),(p2,c2),bm)))
  exact Ent.cons (Ent.cons (Ent.cons (Ent.cons (dS hl))))
theorem b9n {b:Nat} {l:List Op3} {rs:List Int} {tr:List (Int×Bool)} {L:List HP} {w:World} (h:fP (jZ b l rs tr::L) w):(rs.length≤l.length∧l.length≤64)∧
    ∃ p1 c1 p2 c2 bm,fP (Cells b 146 [.slice p1 l.length c1,.slice p2 rs.length c2,.map (some bm)]::Own 58 3 (.slice p1 l.length c1) l.length (aC oc l)::Own 3 1 (.slice p2 rs.length c2) rs.length (aC ic rs)::MapAt bm f4b tr::L) w:=by
  obtain ⟨⟨⟨p1,c1⟩,⟨p2,c2⟩,bm⟩,hx⟩:=kD h
  simp only [pO] at hx
  have hf:=jK (aU (aU (aU (aU hx))))
  exact ⟨hf,p1,c1,p2,c2,bm,(Ent.cons (Ent.cons (Ent.cons (Ent.cons (Ent.drop Ent.refl))))) _ hx⟩
theorem sF {b:Nat} {l:List Op3} {rs:List Int} {tr:List (Int×Bool)} {P:Program} {N:Nat} {c:Code} {env:Env} {L:List HP} {Q:Exit→Act→World→Prop}
    (h:∀ p1 c1 p2 c2 bm,(rs.length≤l.length∧l.length≤64)→WC P N c env (Cells b 146 [.slice p1 l.length c1,.slice p2 rs.length c2,.map (some bm)]::Own 58 3 (.slice p1 l.length c1) l.length (aC oc l)::Own 3 1 (.slice p2 rs.length c2) rs.length (aC ic rs)::MapAt bm f4b tr::L) Q):WC P N c env (jZ b l rs tr::L) Q:=by
  intro a w ha hw
  obtain ⟨hf,p1,c1,p2,c2,bm,hx⟩:=b9n hw
  exact h p1 c1 p2 c2 bm hf a w ha hx
theorem a6u {b:Nat} {l:List Op3} {rs:List Int} {tr:List (Int×Bool)} {P:Program} {N:Nat} {all:Array Oper} {c:List Oper} {env:Env} {L:List HP} {Q:Exit→Act→World→Prop}
    (h:∀ p1 c1 p2 c2 bm,(rs.length≤l.length∧l.length≤64)→WO P N all c env (Cells b 146 [.slice p1 l.length c1,.slice p2 rs.length c2,.map (some bm)]::Own 58 3 (.slice p1 l.length c1) l.length (aC oc l)::Own 3 1 (.slice p2 rs.length c2) rs.length (aC ic rs)::MapAt bm f4b tr::L) Q):WO P N all c env (jZ b l rs tr::L) Q:=by
  intro a w ha hw
  obtain ⟨hf,p1,c1,p2,c2,bm,hx⟩:=b9n hw
  exact h p1 c1 p2 c2 bm hf a w ha hx
attribute [local irreducible] Exit.then Exit.inBlock Code.wp WC WO WE WQ V bT vL fP cY eI v8 IntKind.wrap WR Code.rounds WT KO
theorem a1i {c:Cfg} {l:List Op3} (h:lW c l=true):l.length≤64:=by simp [lW] at h;omega
theorem b9o {F:List HP} {c:Cfg} (hc:c.wf) {l:List Op3} {v:Value} (k:RdL F 3 v l.length (aC oc l)) (hn:l.length≤1099511627776) (h:lW c l=true) :
    FnF Tryz.prog 46 [c.val,v] [] F (fun r L'=>∃ b,r= .tuple [.pointer (some ⟨b,0,none⟩),.int .i64 0].toArray∧L'=[jZ b l [] []]):=by
  have hP:=fun F k=>tU (F:=F) (c:=c) hc (l:=l) (v:=v) k hn
  simp only [h] at hP
  have hl:=a1i h
  refine FnF.mk' Tryz.func46 rfl rfl Tryz.ntmps46 rfl ?_
  repeat first|refine gd ?_|intro _|refine aD @hP ?_|refine aD @b8h ?_
  (apply aA rfl rfl bH)
  · exact ⟨_,rfl,rfl⟩
  · apply nP (rs:=[]) (p2:=none) (c2:=0) (n2:=0) (ys:=[])
    · refine Ent.trans (aO (e:=3) (sz:=1) (p:=none) Ent.refl) ?_
      (focus (exact aB;done))
    · rfl
    · rfl
    · rfl
    · rfl
    · exact ⟨Nat.zero_le _,hl⟩
theorem b7v {F:List HP} {c:Cfg} (hc:c.wf) {l:List Op3} {v:Value} (k:RdL F 3 v l.length (aC oc l)) (hn:l.length≤1099511627776) (h:lW c l=false) :
    FnF Tryz.prog 46 [c.val,v] [] F (fun r L'=>r= .tuple [.pointer none,.int .i64 1].toArray∧L'=[]):=by
  have hP:=fun F k=>tU (F:=F) (c:=c) hc (l:=l) (v:=v) k hn
  simp only [h] at hP
  refine FnF.mk' Tryz.func46 rfl rfl Tryz.ntmps46 rfl ?_
  repeat first|refine gd ?_|intro _|refine aD @hP ?_
  exact bF
theorem xP {F:List HP} {b:Nat} {l:List Op3} {rs:List Int} {tr:List (Int×Bool)}:FnF Tryz.prog 61 [.pointer (some ⟨b,0,none⟩)] [jZ b l rs tr] F (fun r L'=>r= .int .i64 ((l.length:Int)-rs.length)∧L'=[jZ b l rs tr]):=by
  refine FnF.mk' Tryz.func61 rfl rfl Tryz.ntmps61 rfl ?_
  refine sF fun p1 c1 p2 c2 bm hl=>?_
  repeat first|refine gd ?_|intro _
  (apply aA rfl rfl bH)
  · exact ⟨rfl,rfl⟩
  · (apply nP;(focus (exact aB));all_goals exact mZ)
def qA (l:List Op3) (rs:List Int):Bool:= !decide (rs.length=l.length)
def zV (l:List Op3) (rs:List Int):Op3:=l.getD rs.length .zero
theorem a3y {Q P:Prop} (k:Q) (h:Hid Q→P:=by
  intro k
  first
  |(refine aI ?_;refine uU (id:=3) .true (pl:= .p 0 <| .p 1 <| .p 2 <| .p 4 <| .p 5 <| .p 6 <| .r 3 <| .r 7 <| .p 8 <| .p 9 <| .r 10 <| .e true [(11,.p 12 <| .done)]) k.out)):P:=h ⟨k⟩
theorem b2s {F:List HP} {b:Nat} {l:List Op3} {rs:List Int} {tr:List (Int×Bool)}:FnF Tryz.prog 104 [.pointer (some ⟨b,0,none⟩)] [jZ b l rs tr] F (fun r L'=>r= .tuple [ov (zV l rs),.bool (qA l rs)].toArray∧L'=[jZ b l rs tr]):=by
  refine FnF.mk' Tryz.func104 rfl rfl Tryz.ntmps104 rfl ?_
  by_cases h:rs.length=l.length
  · have h0:(l.length:Int)-rs.length=0:=by omega
    repeat first|refine go ?_|intro _|refine a3y ?_|refine dM ?_|refine aD @xP ?_
    (apply aA rfl rfl bH)
    · exact ⟨by simp [zV,qA,h],rfl⟩
    · exact aB
  · have h0:¬(l.length:Int)-rs.length=0:=by omega
    repeat first|refine go ?_|intro _|refine aD @xP ?_
    (first|refine aX (jZ b l rs tr) ?_|refine aY (jZ b l rs tr) ?_|refine aZ (jZ b l rs tr) ?_)
    refine sF fun p1 c1 p2 c2 bm hl=>?_
    have hlt:rs.length<l.length:=by omega
    (first|(refine fJ (.slice p1 l.length c1) inferInstance (om) ?_;intro _)|(refine fM (.slice p1 l.length c1) inferInstance (om) ?_;intro _))
    repeat first|refine go ?_|intro _|refine a3y ?_|refine dM ?_
    (apply aA rfl rfl bH)
    · exact ⟨by simp [zV,qA,h,hlt],rfl⟩
    · exact zR @nP
theorem b7w {F:List HP} {b:Nat} {l:List Op3} {rs:List Int} {tr:List (Int×Bool)} {n:Int} (h:¬rs.length=l.length):FnF Tryz.prog 157 [.pointer (some ⟨b,0,none⟩),.int .i64 n] [jZ b l rs tr] F
    (fun r L'=>r= .tuple [.int .i64 rs.length,.int .i64 0].toArray∧L'=[jZ b l (rs++[n]) (b1i tr rs.length)]):=by
  refine FnF.mk' Tryz.func157 rfl rfl Tryz.ntmps157 rfl ?_
  have h0:¬(l.length:Int)-rs.length=0:=by omega
  repeat first|refine go ?_|intro _|refine aD @xP ?_
  (first|refine aX (jZ b l rs tr) ?_|refine aY (jZ b l rs tr) ?_|refine aZ (jZ b l rs tr) ?_)
  first|refine sF fun p1 c1 p2 c2 bm hl=>?_|refine a6u fun p1 c1 p2 c2 bm hl=>?_
  repeat first|refine gd ?_|intro _
  (apply aA rfl rfl bH)
  · exact ⟨rfl,rfl⟩
  · exact zR @nP
def oS (l:List Op3) (rs:List Int) (d:Int):Bool:=decide (1≤d∧d≤4∧(rs.length:Int)+d<l.length)&& !decide ((l.getD ((rs.length:Int)+d).toNat .zero).kind=4)
def iY (l:List Op3) (rs:List Int) (tr:List (Int×Bool)) (d:Int):Bool:=oS l rs d&& !(iE tr ((rs.length:Int)+d)).getD false
def rF (l:List Op3) (rs:List Int) (tr:List (Int×Bool)) (d:Int):Op3:=if iY l rs tr d then l.getD ((rs.length:Int)+d).toNat .zero else .zero
theorem a6v {F:List HP} {b:Nat} {l:List Op3} {rs:List Int} {tr:List (Int×Bool)} {d:Int}:FnF Tryz.prog 114 [.pointer (some ⟨b,0,none⟩),.int .i64 d] [jZ b l rs tr] F
    (fun r L'=>r= .tuple [ov (rF l rs tr d),.bool (iY l rs tr d)].toArray∧L'=[jZ b l rs tr]):=by
  refine FnF.mk' Tryz.func114 rfl rfl Tryz.ntmps114 rfl ?_
  refine sF fun p1 c1 p2 c2 bm hl=>?_
  by_cases h1:d<1
  · have e:iY l rs tr d=false:=by simp [iY,oS];omega
    repeat first|refine gd ?_|intro _
    (apply aA rfl rfl bH)
    · exact ⟨by simp [rF,e],rfl⟩
    · exact zR @nP
  · by_cases h2:4<d
    · have e:iY l rs tr d=false:=by simp [iY,oS];omega
      repeat first|refine gd ?_|intro _
      (apply aA rfl rfl bH)
      · exact ⟨by simp [rF,e],rfl⟩
      · exact zR @nP
    · by_cases h3:(l.length:Int)≤(rs.length:Int)+d
      · have e:iY l rs tr d=false:=by simp [iY,oS];omega
        repeat first|refine gd ?_|intro _
        (apply aA rfl rfl bH)
        · exact ⟨by simp [rF,e],rfl⟩
        · exact zR @nP
      · have hlt:((rs.length:Int)+d).toNat<l.length:=by omega
        have hg:l.getD ((rs.length:Int)+d).toNat .zero=l[((rs.length:Int)+d).toNat]:=by simp [hlt]
        by_cases h4:l[((rs.length:Int)+d).toNat].kind=4
        · have e:iY l rs tr d=false:=by simp only [iY,oS,hg,h4];simp
          repeat first|refine gd ?_|intro _
          (apply aA rfl rfl bH)
          · exact ⟨by simp [rF,e],rfl⟩
          · exact zR @nP
        · have hI:oS l rs d=true:=by simp only [oS,hg,h4];simp;omega
          cases ht:(iE tr ((rs.length:Int)+d)).getD false with
          |true=>
           have e:iY l rs tr d=false:=by simp [iY,ht]
           repeat first|refine gd ?_|intro _
           (apply aA rfl rfl bH)
           · exact ⟨by simp [rF,e],rfl⟩
           · exact zR @nP
          |false=>
           have e:iY l rs tr d=true:=by simp [iY,ht,hI]
           repeat first|refine gd ?_|intro _
           (apply aA rfl rfl bH)
           · exact ⟨by simp only [rF,e,if_true,hg];rfl,rfl⟩
           · exact zR @nP
theorem b7x {Q P:Prop} (k:Q) (h:Hid Q→P:=by
  intro k
  first
  |(refine aI ?_;refine uU (id:=4) .true (pl:= .p 0 <| .p 1 <| .p 2 <| .p 4 <| .p 5 <| .p 6 <| .p 9 <| .r 3 <| .r 7 <| .p 8 <| .p 10 <| .e true [(11,.done)]) k.out)):P:=h ⟨k⟩
theorem d2y {F:List HP} {b:Nat} {l:List Op3} {rs:List Int} {tr:List (Int×Bool)} {d:Int} (h:iY l rs tr d=true):FnF Tryz.prog 115 [.pointer (some ⟨b,0,none⟩),.int .i64 d] [jZ b l rs tr] F
    (fun r L'=>r= .int .i64 0∧L'=[jZ b l rs (lS tr ((rs.length:Int)+d) true)]):=by
  have hA:=fun F=>a6v (F:=F) (b:=b) (l:=l) (rs:=rs) (tr:=tr) (d:=d)
  simp only [h] at hA
  have hI:1≤d∧d≤4∧(rs.length:Int)+d<l.length:=by simp [iY,oS] at h;omega
  refine FnF.mk' Tryz.func115 rfl rfl Tryz.ntmps115 rfl ?_
  repeat first|refine go ?_|intro _|refine aD @hA ?_
  (first|refine aX (jZ b l rs tr) ?_|refine aY (jZ b l rs tr) ?_|refine aZ (jZ b l rs tr) ?_)
  first|refine sF fun p1 c1 p2 c2 bm hl=>?_|refine a6u fun p1 c1 p2 c2 bm hl=>?_
  repeat first|refine go ?_|intro _|refine b7x ?_|refine dM ?_
  (apply aA rfl rfl bH)
  · exact ⟨rfl,rfl⟩
  · exact zR @nP
end
section
theorem yF {c:Cfg} {l:List Way} {line:Int} (hI:cF c l) {k:Nat} (hk:k<l.length) (h:oG line l[k]=true):cT c line≤k∧cJ c l line=((k-cT c line:Nat):Int):=by
  obtain ⟨h1,h2⟩:=kS.1 h
  obtain ⟨a1,a2,a3,a4⟩:=hI k hk h1
  rw [h2] at a1 a2 a3
  refine ⟨a2,?_⟩
  by_cases hneg:cJ c l line<0
  · exfalso
    have:=c5v hneg (k-cT c line) (om) a1 (om)
    simp only [show cT c line+(k-cT c line)=k by omega] at this
    rw [this] at h;cases h
  · obtain ⟨i,hi⟩:∃ i:Nat,cJ c l line=i:=⟨(cJ c l line).toNat,om⟩
    obtain ⟨b1,_,b2,_⟩:=p6 hi
    obtain ⟨b3,b4⟩:=kS.1 b2
    have:=a4 _ b1 b3 (by rw [b4,h2])
    omega
theorem b5e {c:Cfg} {l:List Way} {line:Int} (h:∀ k (hk:k<l.length),oG line l[k]=false):cJ c l line= -1:=by
  by_cases hneg:cJ c l line<0
  · have:=(p5 c l line).1;omega
  · obtain ⟨i,hi⟩:∃ i:Nat,cJ c l line=i:=⟨(cJ c l line).toNat,om⟩
    obtain ⟨b1,_,b2,_⟩:=p6 hi
    rw [h _ b1] at b2;cases b2
theorem e1h {c:Cfg} {l:List Way} {line:Int} (hI:cF c l) (h:cJ c l line<0) {j:Nat} (hj:j<l.length):oG line l[j]=false:=by
  cases e:oG line l[j] with
  |false=>rfl
  |true=>have:=(yF hI hj e).2;omega
theorem a6w {c:Cfg} {l:List Way} {line:Int} {k:Nat} {w:Way} (hI:cF c l) (hI2:cF c (l.set k w)) (hk:k<l.length) (h1:oG line l[k]=false) (h2:oG line w=false) :
    cJ c (l.set k w) line=cJ c l line∧aP c (l.set k w) line=aP c l line:=by
  by_cases hneg:cJ c l line<0
  · have e1:cJ c l line= -1:=by have:=(p5 c l line).1;omega
    have e2:cJ c (l.set k w) line= -1:=b5e fun j hj=>by
      rw [List.length_set] at hj
      by_cases e:k=j
      · subst e;rw [List.getElem_set_self];exact h2
      · rw [List.getElem_set_ne e];exact e1h hI hneg hj
    refine ⟨by rw [e1,e2],?_⟩
    unfold aP
    rw [if_pos (om),if_pos (om)]
  · obtain ⟨i,hi⟩:∃ i:Nat,cJ c l line=i:=⟨(cJ c l line).toNat,om⟩
    obtain ⟨b1,_,b2,_⟩:=p6 hi
    have hne:k≠cT c line+i:=fun e=>by subst e;rw [b2] at h1;cases h1
    have b3:cT c line+i<(l.set k w).length:=by rw [List.length_set];exact b1
    have b4:(l.set k w)[cT c line+i]=l[cT c line+i]:=List.getElem_set_ne hne _
    have e2:cJ c (l.set k w) line=i:=by
      rw [(yF hI2 b3 (by rw [b4];exact b2)).2];omega
    exact ⟨by rw [hi,e2],by rw [kT e2 b3,b4,kT hi b1]⟩
theorem d2z {line line':Int} {w:Way} (h:oG line' w=true) (hne:line'≠line):oG line w=false:=by
  cases e:oG line w with
  |false=>rfl
  |true=>exact absurd ((kS.1 h).2.symm.trans (kS.1 e).2) hne
theorem c9e {c:Cfg} {l:List Way} {line line' way:Int} (hI:cF c l) (hx:line'≠line):cJ c (kR c l line' way) line=cJ c l line∧aP c (kR c l line' way) line=aP c l line:=by
  have hI2:=a9n (line:=line') (way:=way) hI
  unfold kR at hI2 ⊢
  by_cases h:a2d c l line' way=0
  · rw [if_pos h] at hI2 ⊢
    unfold a2d at h
    split at h
    · rename_i h0
      split at h
      · split at h
        · cases h
        · rename_i hp ht
          have hok:aL c line'=true:=by
            cases e:aL c line' with
            |true=>rfl
            |false=>rw [oD e] at h0;simp at h0;omega
          obtain ⟨k,hk⟩:∃ k:Nat,way=k:=⟨way.toNat,om⟩
          subst hk
          have hkl:k<(bW c l line').length:=by omega
          obtain ⟨h2,eg⟩:=nF hok hkl
          rw [Int.toNat_natCast,←lI hkl,eg] at ht
          rw [Int.toNat_natCast] at hI2 ⊢
          refine a6w hI hI2 h2 ?_ ?_
          · simp [oG,ht]
          · simp [oG,hx]
      · cases h
    · cases h
  · rw [if_neg h];exact ⟨rfl,rfl⟩
theorem a6x {c:Cfg} {l:List Way} {line line':Int} {w:Way} (hI:cF c l) (hp:¬cJ c l line'= -1) (hl:w.line=(aP c l line').line) (hx:line'≠line) :
    cJ c (l.set (cT c line'+(cJ c l line').toNat) w) line=cJ c l line∧aP c (l.set (cT c line'+(cJ c l line').toNat) w) line=aP c l line:=by
  have hI2:=a1g hI hp hl
  have h0:0≤cJ c l line':=by have:=(p5 c l line').1;omega
  obtain ⟨i,hi⟩:∃ i:Nat,cJ c l line'=i:=⟨(cJ c l line').toNat,om⟩
  obtain ⟨b1,_,b2,_⟩:=p6 hi
  rw [kT hi b1] at hl
  rw [hi,Int.toNat_natCast] at hI2 ⊢
  refine a6w hI hI2 b1 (d2z b2 hx) ?_
  have:=(kS.1 b2).2
  simp [oG,hl,this,hx]
theorem c9f {c:Cfg} {l:List Way} {line line' st:Int} {w:Words} (hI:cF c l) (hx:line'≠line):cJ c (fD c l line' st w) line=cJ c l line∧aP c (fD c l line' st w) line=aP c l line:=by
  unfold fD
  split
  · rename_i h
    exact a6x hI (fun hp=>by unfold pE at h;rw [if_pos hp] at h;cases h) rfl hx
  · exact ⟨rfl,rfl⟩
theorem c2d {c:Cfg} {l:List Way} {line line':Int} {lk:Bool} (hI:cF c l) (hx:line'≠line):cJ c (fS c l line' lk) line=cJ c l line∧aP c (fS c l line' lk) line=aP c l line:=by
  unfold fS
  split
  · rename_i h
    exact a6x hI (fun hp=>by unfold a5d at h;rw [if_pos hp] at h;cases h) rfl hx
  · exact ⟨rfl,rfl⟩
theorem b2t {c:Cfg} {l:List Way} {line:Int} {i:Nat} {w:Way} (hI:cF c l) (hi:cJ c l line=i) (hl:w.line=line) :
    (bC w=true→cJ c (l.set (cT c line+i) w) line=i∧aP c (l.set (cT c line+i) w) line=w)∧(bC w=false→cJ c (l.set (cT c line+i) w) line= -1):=by
  obtain ⟨b1,_,b2,_⟩:=p6 hi
  have hfl:=(kS.1 b2).2
  have hI2:=a1g (w:=w) hI (by omega:¬cJ c l line= -1) (by rw [kT hi b1,hfl,hl])
  rw [hi,Int.toNat_natCast] at hI2
  have b3:cT c line+i<(l.set (cT c line+i) w).length:=by rw [List.length_set];exact b1
  constructor
  · intro ht
    have e2:cJ c (l.set (cT c line+i) w) line=i:=by
      rw [(yF hI2 b3 (by rw [List.getElem_set_self];exact kS.2 ⟨ht,hl⟩)).2];omega
    exact ⟨e2,by rw [kT e2 b3,List.getElem_set_self]⟩
  · intro ht
    refine b5e fun j hj=>?_
    rw [List.length_set] at hj
    by_cases e:cT c line+i=j
    · subst e;rw [List.getElem_set_self];simp [oG,ht]
    · rw [List.getElem_set_ne e]
      cases ej:oG line l[j] with
      |false=>rfl
      |true=>have:=yF hI hj ej;omega
theorem a2z {c:Cfg} {l:List Way} {line:Int} {i:Nat} (hi:cJ c l line=i):(aP c l line).line=line:=by
  obtain ⟨b1,_,b2,_⟩:=p6 hi
  rw [kT hi b1]
  exact (kS.1 b2).2
theorem a2j {c:Cfg} {l:List Way} {line:Int} {i:Nat} (hi:cJ c l line=i):jA c l line=true∧zS c l line=i:=by
  unfold jA zS
  rw [hi]
  exact ⟨by simp,if_neg (om)⟩
theorem a3a {c:Cfg} {l:List Way} {line:Int} (hi:cJ c l line= -1):jA c l line=false∧zS c l line=0∧aP c l line= .zero:=by
  unfold jA zS aP
  rw [hi]
  exact ⟨rfl,rfl,rfl⟩
theorem d3a {c:Cfg} {l:List Way} {line st:Int} {w:Words} (hI:cF c l) (he:pE c l line st w=0) :
    jA c l line=true∧(((aP c l line).lk=true∨st≠0)→jA c (fD c l line st w) line=true∧zS c (fD c l line st w) line=zS c l line∧aP c (fD c l line st w) line=⟨st,line,if st=0 then .zero else w,(aP c l line).lk⟩)∧
    (((aP c l line).lk=false∧st=0)→jA c (fD c l line st w) line=false∧zS c (fD c l line st w) line=0∧aP c (fD c l line st w) line= .zero):=by
  have hp:¬cJ c l line= -1:=fun hp=>by unfold pE at he;rw [if_pos hp] at he;cases he
  have h0:0≤cJ c l line:=by have:=(p5 c l line).1;omega
  obtain ⟨i,hi⟩:∃ i:Nat,cJ c l line=i:=⟨(cJ c l line).toNat,om⟩
  have hl:=a2z hi
  have e1:fD c l line st w=l.set (cT c line+i) { aP c l line with st:=st,words:=if st=0 then .zero else w}:=by
    unfold fD;rw [if_pos he,hi,Int.toNat_natCast]
  rw [e1]
  obtain ⟨t1,t2⟩:=b2t (w:={ aP c l line with st:=st,words:=if st=0 then .zero else w}) hI hi hl
  refine ⟨(a2j hi).1,fun h=>?_,fun h=>?_⟩
  · obtain ⟨u1,u2⟩:=t1 (by rcases h with h|h<;>simp [bC,h])
    refine ⟨(a2j u1).1,by rw [(a2j u1).2,(a2j hi).2],?_⟩
    rw [u2]
    show (⟨st,(aP c l line).line,_,_⟩:Way)=_
    rw [hl]
  · exact a3a (t2 (by simp [bC,h.1,h.2]))
end
section
inductive AM (W:Type) where
  |get (k r:Int)
  |put (r:Int) (w:W)
  |fwd (k o r n:Int)
  |inv (c r:Int)
  |data (r own n:Int) (w:W)
  |grant (r n:Int)
  |ack (r:Int)
  |pack (r:Int)
  |done (r:Int)
structure AMs (W:Type) where
  kind:Int
  needs:Int
  got:Int
  own:Int
  w:W
  gr:Bool
  ow:Bool
section
variable {W:Type}
def a6y (r:Int):AM W→Bool| .get _ r'=>decide (r'=r)|_=>false
def qB (r:Int):AM W→Bool| .put r' _=>decide (r'=r)|_=>false
def o8 (r:Int):AM W→Bool| .pack r'=>decide (r'=r)|_=>false
def cX:AM W→Bool| .fwd .. =>true| .data .. =>true| .grant .. =>true|_=>false
def rG:AM W→Bool| .inv .. =>true| .ack .. =>true|_=>false
def dC:AM W→Bool| .done .. =>true|_=>false
def b2u:AM W→Int| .fwd _ _ r _=>r| .data r _ _ _=>r| .grant r _=>r|_=>0
def c2e:AM W→Int| .fwd _ _ _ n=>n| .data _ _ n _=>n| .grant _ n=>n|_=>0
structure LV (W:Type) where
  st:Int→Int
  wd:Int→W
  ms:Int→Option (AMs W)
  bf:Int→Option (W×Bool)
  rq:List (AM W)
  fly:List (AM W)
  act:Option (Int×Int)
  o:Int
  sh:Int→Bool
  mem:W
  now:W
def LV.cg (v:LV W) (r:Int):Nat:=v.rq.countP (a6y r)
def LV.cp (v:LV W) (r:Int):Nat:=v.rq.countP (qB r)
def LV.ck (v:LV W) (r:Int):Nat:=v.fly.countP (o8 r)
def LV.ct (v:LV W):Nat:=v.fly.countP cX
def LV.ci (v:LV W):Nat:=v.fly.countP rG
def LV.cd (v:LV W):Nat:=v.fly.countP dC
def LV.holds (v:LV W) (c:Int):Prop:=2≤v.st c∨∃ w,v.bf c=some (w,true)∧v.cp c=1
def LV.busy (v:LV W) (r:Int):Prop:=∃ k,v.act=some (k,r)∧v.cd=0
structure LI (v:LV W):Prop where
  rqk:∀ x∈v.rq,(∃ k r,x= .get k r)∨∃ r w,x= .put r w:=by intro x hx;have:=h.rqk x;exact cH
  g0:∀ r,v.ms r=none→v.cg r=0:=by intro r1 h1;have:=h.g0 r1;exact cH
  g1:∀ r m,v.ms r=some m→¬v.busy r→v.cg r=1∧m.needs= -1∧m.got=0∧m.gr=false∧m.ow=false:=by intro r1 m1 h1 h2;have:=h.g1 r1 m1;exact cH
  gk:∀ k r,.get k r∈v.rq→∃ m,v.ms r=some m∧m.kind=k:=by intro k1 r1 h1;have:=h.gk k1 r1;exact cH
  gA:∀ r,v.busy r→v.cg r=0:=by intro r1 h1;have:=h.gA r1;exact cH
  aK:∀ k r,v.act=some (k,r)→(k=1∨k=2)∧0≤r:=by intro k1 r1 h1;have:=h.aK k1 r1;exact cH
  mK:∀ r m,v.ms r=some m→m.kind=1∨m.kind=2:=by intro r1 m1 h1;have:=h.mK r1 m1;exact cH
  ml:∀ r m,v.ms r=some m→m.ow=false→(m.kind=1→v.st r=0)∧(m.kind=2→v.st r≠2∧v.st r≠4):=by intro r1 m1 h1 h2;have:=h.ml r1 m1;exact cH
  b0:∀ r,v.bf r=none→v.cp r=0∧v.ck r=0:=by intro r1 h1;have:=h.b0 r1;exact cH
  b1:∀ r w l,v.bf r=some (w,l)→v.cp r+v.ck r=1∧v.st r=0∧v.ms r=none:=by intro r1 w1 l1 h1;have:=h.b1 r1 w1 l1;exact cH
  bw:∀ r w,.put r w∈v.rq→∃ l,v.bf r=some (w,l):=by intro r1 w1 h1;have:=h.bw r1 w1;exact cH
  bl:∀ r w,v.bf r=some (w,true)→v.cp r=1→w=v.now∧(v.o=r∨∃ r' n,.fwd 2 r r' n∈v.fly):=by intro r1 w1 h1 h2;have:=h.bl r1 w1;exact cH
  f0:v.act=none→∀ x∈v.fly,∃ r,x= .pack r:=by intro h1 x hx;have:=h.f0;exact cH
  f1:∀ r,v.act=some (1,r)→∀ x∈v.fly,(∃ c,x= .pack c)∨(∃ o,x= .fwd 1 o r 0)∨(∃ own w,x= .data r own 0 w∧(own=1∨own=2))∨x= .done r:=by intro r1 h1 x hx;have:=h.f1 r1;exact cH
  f2:∀ r,v.act=some (2,r)→∀ x∈v.fly,(∃ c,x= .pack c)∨(∃ o n,x= .fwd 2 o r n)∨(∃ n w,x= .data r 4 n w)∨(∃ n,x= .grant r n)∨(∃ c,x= .inv c r)∨x= .ack r∨x= .done r:=by intro r1 h1 x hx;have:=h.f2 r1;exact cH
  p:∀ k r,v.act=some (k,r)→
   (∃ m,v.ms r=some m∧m.kind=k∧m.needs= -1∧0≤m.got∧m.ow=false∧m.gr=false∧v.ct=1∧v.cd=0∧∀ x∈v.fly,cX x=true→c2e x=m.got+v.ci)
   ∨(∃ m,v.ms r=some m∧m.kind=k∧0≤m.got∧m.needs=m.got+v.ci∧m.ow=false∧v.ct=0∧v.cd=0∧(k=1→m.own=1∨m.own=2)∧(k=2→m.own=4)∧(m.gr=false→m.w=v.now)∧(m.gr=true→k=2∧v.st r=3)
    ∧(m.own=1→(∀ c,v.st c≠2∧v.st c≠4)∧v.sh r=true∧v.o≠r)∧(m.own=2→(∀ c,v.st c=0)∧v.o=r)∧(m.own=4→v.o=r∧(m.gr=false→∀ c,v.st c<2)))
   ∨(∃ m,v.ms r=some m∧m.kind=k∧0≤m.got∧m.needs=m.got∧m.ow=true∧v.ct=0∧v.cd=0∧v.ci=0∧(k=1→v.st r≠0)∧(k=2→2≤v.st r))
   ∨(v.ct=0∧v.cd=1∧v.ci=0):=by intro k1 r1 h1;have:=h.p k1 r1;exact cH
  a2:∀ r,v.act=some (2,r)→v.o=r∧∀ c,v.sh c=false:=by intro r1 h1;have:=h.a2 r1;exact cH
  tf:∀ k o r n,.fwd k o r n∈v.fly→o≠r∧v.st r<2∧v.holds o∧(k=1→v.o=o∧v.sh r=true)∧(k=2→v.o=r):=by intro k1 o1 r1 n1 h1;have:=h.tf k1 o1 r1 n1;exact cH
  td:∀ r own n w,.data r own n w∈v.fly→w=v.now∧(own=1∨own=2∨own=4)∧(own=1→(∀ c,v.st c≠2∧v.st c≠4)∧v.sh r=true∧v.o≠r)∧(own=2→(∀ c,v.st c=0)∧v.o=r)∧(own=4→(∀ c,v.st c<2)∧v.o=r):=by intro r1 own1 n1 w1 h1;have:=h.td r1 own1 n1 w1;exact cH
  tg:∀ r n,.grant r n∈v.fly→v.st r=3∧v.o=r:=by intro r1 n1 h1;have:=h.tg r1 n1;exact cH
  iv:∀ c r,.inv c r∈v.fly→c≠r∧v.st c<2:=by intro c1 r1 h1;have:=h.iv c1 r1;exact cH
  e:∀ c,2≤v.st c→v.o=c∨∃ r n,.fwd 2 c r n∈v.fly:=by intro c1 h1;have:=h.e c1;exact cH
  h:v.o≠ -1→v.holds v.o∨(∃ own n w,own≠1∧ .data v.o own n w∈v.fly)∨(∃ o' n,.fwd 2 o' v.o n∈v.fly)∨∃ m,v.ms v.o=some m∧m.needs≠ -1∧m.ow=false:=by intro h1;have:=h.h;exact cH
  s:∀ c,v.st c=2∨v.st c=4→∀ c',c'≠c→v.st c'=0:=by intro c1 h1 c2 h2;have:=h.s c1;exact cH
  wn:∀ c,v.st c≠0→v.wd c=v.now:=by intro c1 h1;have:=h.wn c1;exact cH
  mn:v.o= -1→v.mem=v.now:=by intro h1;have:=h.mn;exact cH
  k:∀ c,v.st c≠0→v.o=c∨v.sh c=true∨∃ r,v.act=some (2,r)∧(.inv c r∈v.fly∨∃ n,.fwd 2 c r n∈v.fly):=by intro c1 h1;have:=h.k c1;exact cH
  r:∀ c,0≤v.st c∧v.st c≤4:=by intro c1;have:=h.r c1;exact cH
  rg:∀ c,c<0→v.st c=0∧v.bf c=none∧v.ms c=none:=by intro c1 h1;have:=h.rg c1;exact cH
theorem cW {l l':List (AM W)} {x:AM W} (h:l.Perm (x::l')) (p:AM W→Bool):l.countP p=l'.countP p+if p x=true then 1 else 0:=by
  rw [h.countP_eq,List.countP_cons]
theorem oT {l l':List (AM W)} {x:AM W} (h:l.Perm (x::l')) (y:AM W):y∈l↔y=x∨y∈l':=by
  rw [h.mem_iff,List.mem_cons]
section
variable {v v':LV W} {R:List (AM W)} {b:AM W}
theorem qC (h:v.fly.Perm (b::R)):(∀ y,y∈v.fly↔y=b∨y∈R)∧(∀ x,v.ck x=R.countP (o8 x)+if o8 x b=true then 1 else 0)∧(v.ct=R.countP (cX)+if cX b=true then 1 else 0)∧(v.ci=R.countP (rG)+if rG b=true then 1 else 0)∧v.cd=R.countP (dC)+if dC b=true then 1 else 0:=⟨fun y=>oT h y,fun x=>cW h _,cW h _,cW h _,cW h _⟩
theorem b6r (h:v'.fly.Perm (b::v.fly)):(∀ y,y∈v'.fly↔y=b∨y∈v.fly)∧(∀ x,v'.ck x=v.ck x+if o8 x b=true then 1 else 0)∧(v'.ct=v.ct+if cX b=true then 1 else 0)∧(v'.ci=v.ci+if rG b=true then 1 else 0)∧v'.cd=v.cd+if dC b=true then 1 else 0:=⟨fun y=>oT h y,fun x=>cW h _,cW h _,cW h _,cW h _⟩
theorem b6s (h:v'.fly.Perm v.fly):(∀ y,y∈v'.fly↔y∈v.fly)∧(∀ x,v'.ck x=v.ck x)∧v'.ct=v.ct∧v'.ci=v.ci∧v'.cd=v.cd:=⟨fun y=>h.mem_iff,fun x=>h.countP_eq _,h.countP_eq _,h.countP_eq _,h.countP_eq _⟩
theorem c2f (h:v'.fly.Perm R):(∀ y,y∈v'.fly↔y∈R)∧(∀ x,v'.ck x=R.countP (o8 x))∧v'.ct=R.countP (cX)∧v'.ci=R.countP (rG)∧v'.cd=R.countP (dC):=⟨fun y=>h.mem_iff,fun x=>h.countP_eq _,h.countP_eq _,h.countP_eq _,h.countP_eq _⟩
theorem a3z (h:v'.rq.Perm v.rq):(∀ y,y∈v'.rq↔y∈v.rq)∧(∀ x,v'.cg x=v.cg x)∧∀ x,v'.cp x=v.cp x:=⟨fun y=>h.mem_iff,fun x=>h.countP_eq _,fun x=>h.countP_eq _⟩
theorem c6a (h:v'.rq.Perm R):(∀ y,y∈v'.rq↔y∈R)∧(∀ x,v'.cg x=R.countP (a6y x))∧∀ x,v'.cp x=R.countP (qB x):=⟨fun y=>h.mem_iff,fun x=>h.countP_eq _,fun x=>h.countP_eq _⟩
theorem c6b (h:v.rq.Perm (b::R)):(∀ y,y∈v.rq↔y=b∨y∈R)∧(∀ x,v.cg x=R.countP (a6y x)+if a6y x b=true then 1 else 0)∧∀ x,v.cp x=R.countP (qB x)+if qB x b=true then 1 else 0:=⟨fun y=>oT h y,fun x=>cW h _,fun x=>cW h _⟩
end
theorem rQ {l:List (AM W)} {x:AM W} {p:AM W→Bool} (hx:x∈l) (hp:p x=true):1≤l.countP p:=List.countP_pos_iff.2 ⟨x,hx,hp⟩
theorem e1i {l:List (AM W)} {p:AM W→Bool} (h:l.countP p≤1) {x y:AM W} (hx:x∈l) (hy:y∈l) (px:p x=true) (py:p y=true):x=y:=by
  induction l with
  |nil=>cases hx
  |cons a l ih=>
   rw [List.countP_cons] at h
   rcases List.mem_cons.1 hx with rfl|hx'
   · rcases List.mem_cons.1 hy with rfl|hy'
     · rfl
     · have:=rQ hy' py
       rw [if_pos px] at h;omega
   · rcases List.mem_cons.1 hy with rfl|hy'
     · have:=rQ hx' px
       rw [if_pos py] at h;omega
     · exact ih (om) hx' hy'
theorem e7u {v:LV W} {r:Int} {w:W} (hx: .put r w∈v.rq):1≤v.cp r:=rQ hx (by simp [qB])
theorem e7v {v:LV W} {k r:Int} (hx: .get k r∈v.rq):1≤v.cg r:=rQ hx (by simp [a6y])
theorem a5n {v:LV W} {x:AM W} (hx:x∈v.fly) (hp:cX x=true):1≤v.ct:=rQ hx hp
theorem b6t {v:LV W} {x:AM W} (hx:x∈v.fly) (hp:rG x=true):1≤v.ci:=rQ hx hp
theorem d7s {v:LV W} {x:AM W} (hx:x∈v.fly) (hp:dC x=true):1≤v.cd:=rQ hx hp
theorem mG {v:LV W} (h:LI v) {x:AM W} (hx:x∈v.fly) (ht:cX x=true):∃ k r m,v.act=some (k,r)∧0≤r∧v.ms r=some m∧m.kind=k∧m.needs= -1∧m.ow=false∧m.gr=false∧0≤m.got∧v.ct=1∧v.cd=0∧c2e x=m.got+v.ci∧b2u x=r:=by
  have h1:=a5n hx ht
  cases e:v.act with
  |none=>obtain ⟨r,rfl⟩:=h.f0 e x hx;simp [cX] at ht
  |some a=>
   obtain ⟨k,r⟩:=a
   obtain ⟨hk,hr⟩:=h.aK k r e
   rcases h.p k r e with ⟨m,g1,g2,g3,g4,g5,g6,g7,g8,g9⟩|⟨m,g⟩|⟨m,g⟩|g
   · refine ⟨k,r,m,rfl,hr,g1,g2,g3,g5,g6,g4,g7,g8,g9 x hx ht,?_⟩
     rcases hk with rfl|rfl
     · have:=h.f1 r e x hx;grind [cX,b2u]
     · have:=h.f2 r e x hx;grind [cX,b2u]
   · omega
   · omega
   · omega
theorem e1j {v:LV W} (h:LI v) {x y:AM W} (hx:x∈v.fly) (hy:y∈v.fly) (tx:cX x=true) (ty:cX y=true):x=y:=by
  obtain ⟨_,_,_,_,_,_,_,_,_,_,_,h1,_⟩:=mG h hx tx
  exact e1i (p:=cX) (by show v.ct≤1;omega) hx hy tx ty
theorem yG {v:LV W} (h:LI v) {c d:Int} (hc:2≤v.st c) (hd:2≤v.st d∨∃ w,v.bf d=some (w,true)∧v.cp d=1):c=d:=by
  have e1:=h.e c hc
  have e2:v.o=d∨∃ r n,.fwd 2 d r n∈v.fly:=by
    rcases hd with hd|⟨w,h1,h2⟩
    · exact h.e d hd
    · exact (h.bl d w h1 h2).2
  have hd':v.ms d=none∨2≤v.st d:=by
    rcases hd with hd|⟨w,h1,h2⟩
    · exact .inr hd
    · exact .inl (h.b1 d w _ h1).2.2
  rcases e1 with e1|⟨r,n,e1⟩
  · rcases e2 with e2|⟨r',n',e2⟩
    · omega
    · have:=h.tf _ _ _ _ e2;grind
  · have t1:=h.tf _ _ _ _ e1
    obtain ⟨k,r0,m,_,_,g,_,_,_,_,_,_,_,_,g2⟩:=mG h e1 rfl
    rcases e2 with e2|⟨r',n',e2⟩
    · have:r=r0:=g2
      grind
    · have:=e1j h e1 e2 rfl rfl
      cases this;rfl
theorem nG {v:LV W} (h:LI v) (ha:v.act=none):(∀ x∈v.fly,cX x=false∧rG x=false∧dC x=false)∧v.ct=0∧v.ci=0∧v.cd=0:=by
  have hfr:∀ x∈v.fly,cX x=false∧rG x=false∧dC x=false:=fun x hx=>by obtain ⟨c,rfl⟩:=h.f0 ha x hx;exact ⟨rfl,rfl,rfl⟩
  exact ⟨hfr,List.countP_eq_zero.2 fun x hx=>by simp [(hfr x hx).1],List.countP_eq_zero.2 fun x hx=>by simp [(hfr x hx).2.1],List.countP_eq_zero.2 fun x hx=>by simp [(hfr x hx).2.2]⟩
theorem fT {v:LV W} (ha:v.act=none) (r:Int):¬v.busy r:=fun ⟨k,e,_⟩=>by rw [ha] at e;cases e
theorem sV {v:LV W} (h:LI v) (ha:v.act=none) (hO:v.o≠ -1):v.holds v.o:=by
  have hfr:=(nG h ha).1
  rcases h.h hO with g|⟨own,n,w,_,g⟩|⟨o',n,g⟩|⟨m,g1,g2,g3⟩
  · exact g
  · have:=(hfr _ g).1;simp [cX] at this
  · have:=(hfr _ g).1;simp [cX] at this
  · exact absurd (h.g1 _ m g1 (fT ha _)).2.1 g2
theorem mH {r:Int} (p:AM W→Bool) (b:Bool) (h:∀ c,p (.inv c r)=b) (l:List Int):(l.map fun c=>AM.inv c r).countP p=if b then l.length else 0:=by
  induction l with
  |nil=>cases b<;>rfl
  |cons a l ih=>
   rw [List.map_cons,List.countP_cons,ih,h]
   cases b<;>simp
end
end
section
open Go
inductive AllIn:Fence→Prop
  |wide:AllIn Fence.wide
  |round (l:Nat):AllIn (Fence.wide.inRound l)
theorem AllIn.fn {F:Fence} (h:AllIn F) (f:FuncId):F.fn f:=by cases h<;>trivial
theorem AllIn.depth {F:Fence} (h:AllIn F):F.depth=none:=by cases h<;>rfl
theorem AllIn.calls {F:Fence} (h:AllIn F) {n:Nat} {P:Program} {f:FuncId} {args:Array Value} {w:World} {R:Ending→World→Prop} (k:Calls P f args w R):CallsIn F n P f args w R:=by
  cases h
  · exact callsIn_wide.2 k
  · exact (callsIn_wide (n:=n)).2 k
theorem AllIn.rows {F:Fence} (h:AllIn F) {n:Nat} {P:Program} {r:String} {args:Array Value} {w:World} {R:Value→World→Prop} (k:Rows P r args w R):RowsIn F n P r args w R:=by
  cases h
  · exact fun c cs _=>let ⟨v,w',hR,hs⟩:=k c cs;⟨v,w',hR,stepsIn_wide.2 hs⟩
  · exact fun c cs _=>let ⟨v,w',hR,hs⟩:=k c cs;⟨v,w',hR,stepsIn_wide.2 hs⟩
abbrev a5z (a:Act):Act:={ a with defers:=[]}
section
variable (F:Fence) (P:Program) (N:Nat) (ds:List Deferred)
def WM (c:Code) (env:Env) (L:List HP) (Q:Exit→Act→World→Prop):Prop:=∀ a w,EnvOk N env (a5z a)→a.defers=ds→fP L w→c.wpIn F 0 P Q a w
def e0a (e:Exit) (env:Env) (L:List HP) (Q:Exit→Act→World→Prop):Prop:=∀ a w,EnvOk N env (a5z a)→a.defers=ds→fP L w→Q e a w
def e7w (all:Array Oper) (todo:List Oper) (env:Env) (L:List HP) (Q:Exit→Act→World→Prop):Prop:=∀ a w,EnvOk N env (a5z a)→a.defers=ds→fP L w→wpListIn F 0 P all Q todo a w
end
section
variable {F:Fence} {P:Program} {N:Nat} {ds:List Deferred} {env:Env} {L:List HP} {Q:Exit→Act→World→Prop}
theorem d7t {x y:Code} (h:WM F P N ds x env L (Exit.then (y.wpIn F 0 P Q) Q)):WM F P N ds (.seq x y) env L Q:=fun a w ha hd hw=>wpIn_seq (h a w ha hd hw)
theorem c6c (h:e0a N ds .normal env L Q):WM F P N ds .skip env L Q:=fun a w ha hd hw=>wpIn_skip (h a w ha hd hw)
theorem d7u (h:e0a N ds .ret env L Q):WM F P N ds .ret env L Q:=fun a w ha hd hw=>wpIn_ret (h a w ha hd hw)
theorem b9p {id:Nat} {c:Code} (h:WM F P N ds c env L (Exit.inBlock id Q)):WM F P N ds (.block id c) env L Q:=fun a w ha hd hw=>wpIn_block (h a w ha hd hw)
theorem b2v {id:Nat} {ops:List Oper} (h:e7w F P N ds ops.toArray ops env L Q):WM F P N ds (.region id ops.toArray false) env L Q:=fun a w ha hd hw=>wpIn_region_lit (h a w ha hd hw)
theorem xQ (a:Act) (x:Operand):(a5z a).eval x=a.eval x:=by cases x<;>rfl
theorem b9q {y:Code} {Q':Exit→Act→World→Prop} (h:WM F P N ds y env L Q):e0a N ds .normal env L (Exit.then (y.wpIn F 0 P Q) Q'):=h
theorem a4a {y:Code} {Q':Exit→Act→World→Prop} (h:WM Fence.wide P N ds y env L Q):e0a N ds .normal env L (Exit.then (y.wp P Q) Q'):=fun a w ha hd hw=>wpIn_wide.1 (h a w ha hd hw)
theorem a0m {K:Act→World→Prop} (h:e0a N ds .ret env L Q):e0a N ds .ret env L (Exit.then K Q):=h
theorem b2w {id:Nat} (h:e0a N ds .normal env L Q):e0a N ds .normal env L (Exit.inBlock id Q):=h
theorem yH {id:Nat} (h:e0a N ds .ret env L Q):e0a N ds .ret env L (Exit.inBlock id Q):=h
theorem rR {all:Array Oper} (h:e0a N ds .normal env L Q):e7w F P N ds all [] env L Q:=h
theorem yI {all:Array Oper} {o:List Oper} {M:List HP} (e:Ent L M) (h:e7w F P N ds all o env M Q):e7w F P N ds all o env L Q:=fun a w ha hd hw=>h a w ha hd (e.sat hw)
theorem c2g {c:Exit} {M:List HP} (e:Ent L (Fact False::M)):e0a N ds c env L Q:=fun a w ha hd hw=>(jK (e.sat hw)).elim
theorem c9g {c:Code} {M:List HP} (e:Ent L (Fact False::M)):WM F P N ds c env L Q:=fun a w ha hd hw=>(jK (e.sat hw)).elim
theorem a4b {r:Option Nat} {ρ:Operand→Value} {o:Oper} (h:∀ c,o.op≠ .defer c):Oper.semAt r ρ o=execOp ρ o:=by
  cases r with
  |none=>exact Oper.semAt_none ρ o
  |some l=>exact Oper.semAt_some l ρ o h
theorem d1r {op:Op} {ty:TypeId} {pos:String} {aft:Array Edge} {d:Nat} {all:Array Oper} {rest:List Oper} {v:Value} (hF:AllIn F)
    (h:V P N op ty env L v) (hd:Nat.blt d N=true) (hop:∀ c,op≠ .defer c) (k:e7w F P N ds all rest ((d,v)::env) L Q):e7w F P N ds all (⟨some d,op,ty,pos,aft,none⟩::rest) env L Q:=by
  intro a w ha hds hw
  have h1:=h (a5z a) w ha hw
  have e:(a5z a).eval=a.eval:=funext (xQ a)
  rw [e] at h1
  simp only [wpListIn,Region.wanted,if_true,Oper.wpIn]
  refine ⟨fun f _=>hF.fn f,?_⟩
  rw [a4b hop,bQ,h1,Oper.uponIn_value]
  exact k _ w (ha.put hd v) hds hw
theorem e6q {o:Oper} {all:Array Oper} {rest:List Oper} {post:Env→List HP→Prop} (hF:AllIn F) (hg:o.guard=none) (hop:∀ c,o.op≠ .defer c) (h:KO P N o env L post)
    (next:∀ e' L',post e' L'→e7w F P N ds all rest e' L' Q):e7w F P N ds all (o::rest) env L Q:=by
  intro a w ha hds hw
  have h1:=h (a5z a) w ha hw (fun a' w'=>∃ e' L',post e' L'∧EnvOk N e' a'∧fP L' w') (fun _ _ _=>False) (fun e' L' a' w' hp ha' hw'=>⟨e',L',hp,ha',hw'⟩)
  have e:(a5z a).eval=a.eval:=funext (xQ a)
  simp only [wpListIn,Region.wanted,hg,if_true,Oper.wpIn]
  refine ⟨fun f _=>hF.fn f,?_⟩
  rw [a4b hop]
  unfold Oper.wp at h1
  rw [e] at h1
  have fin:∀ v w',(∃ e' L',post e' L'∧EnvOk N e' ((a5z a).put o.dst v)∧fP L' w')→wpListIn F 0 P all Q rest (a.put o.dst v) w':=by
    rintro v w' ⟨e',L',hp,ha',hw'⟩
    refine next e' L' hp _ w' ?_ ?_ hw'
    · have:a5z (a.put o.dst v)=(a5z a).put o.dst v:=by cases o.dst<;>rfl
      rw [this];exact ha'
    · have:(a.put o.dst v).defers=a.defers:=by cases o.dst<;>rfl
      rw [this];exact hds
  generalize (execOp a.eval o).run P w=r at h1 ⊢
  cases r with
  |ok n w'=>
   cases n<;>simp only [Oper.upon] at h1
   case value=>exact fin _ _ h1
   case skip=>exact fin _ _ h1
   case defer d=>
     obtain ⟨e',L',_,ha',_⟩:=h1
     have:=ha'.defers
     cases hd:o.dst<;>simp [Act.put,hd] at this
   case enter=>
     refine ⟨(fun hh=>by rw [hF.depth] at hh;cases hh),hF.calls (h1.mono fun e2 w2 hR=>?_)⟩
     cases e2 with
     |returned v=>exact fin _ _ hR
     |panicked c=>exact hR.elim
     |outgrown=>obtain ⟨_,_,hh⟩:=hR;exact hh.elim
   case row=>exact ⟨(fun hh=>by rw [hF.depth] at hh;cases hh),hF.rows (h1.mono fun v w2 hR=>fin _ _ hR)⟩
  |halt x w'=>cases x<;>simp only [Oper.upon] at h1
end
abbrev b6u (D:Nat):Deferred:={ target:= .collected D,args:= #[]}
theorem lX {b:Nat} {o o':Obj} {L:List HP} {w:World} (h:fP (ObjAt b o::L) w):fP (ObjAt b o'::L) (w.putObj b o'):=by
  have hb:=rX h
  have hlt:b<w.heap.size:=(Array.getElem?_eq_some_iff.1 hb).1
  exact rY (b:=b) (o:=o') (ObjAt b o') (fun h hp=>⟨_,hp.pf⟩) (fun h e=>⟨e⟩) (World.putObj_heap_same hlt) (fun k hk=>World.putObj_heap_other hk) rfl rfl rfl h
def c4z (P:Program) (l:Nat) (v:Value) (A B C:List HP):Prop:=
  ∀ F w,fP (pO A F) w→YieldAt Fence.wide 0 P l #[v] w (fun e w'=>(e= .returned (.bool true)∧fP (pO B F) w')∨(e= .returned (.bool false)∧fP (pO C F) w'))
theorem c6d {A B F:List HP} (h:Ent A B):Ent (pO A F) (pO B F):=fun x hx=>by
  rw [a5r] at hx ⊢
  obtain ⟨S,T,d,h1,h2⟩:=n5 hx
  exact jX d (h _ h1) h2
def Seq (P:Program) (gf:FuncId) (cap:List Value) (pre:List HP) (xs:List Value):Prop:=
  ∀ (l:Nat) (A:Nat→List HP) (C:List HP),(∀ i (h:i<xs.length),c4z P l xs[i] (pO pre (A i)) (pO pre (A (i+1))) C)→
    ∀ w,fP (pO pre (A 0)) w→Calls P gf (.func (.yield l) #[] #[]::cap).toArray w (fun e w'=>(∃ v,e= .returned v)∧(fP (pO pre (A xs.length)) w'∨(0<xs.length∧fP C w')))
theorem sG {x:HP}:∀ {pre L:List HP},Ent (pO pre (x::L)) (x::pO pre L)
  | [],_=>Ent.refl
  |_::r,_=>Ent.trans (Ent.cons (sG (pre:=r))) (fun _ h=>jN h)
theorem wW {x:HP}:∀ {pre L:List HP},Ent (x::pO pre L) (pO pre (x::L))
  | [],_=>Ent.refl
  |_::r,_=>Ent.trans (fun _ h=>jN h) (Ent.cons (wW (pre:=r)))
theorem nH {A B:List HP}:Ent (pO A B) (pO B A):=fun x hx=>by
  rw [a5r] at hx ⊢
  obtain ⟨S,T,d,h1,h2⟩:=n5 hx
  exact jX (fun b a c=>d b c a) h2 h1
section
variable {P:Program} {N:Nat} {env:Env} {L:List HP} {Q:Exit→Act→World→Prop}
theorem a3b {a:Act} (h:a.defers=[]):a5z a=a:=by cases a;simp at h;subst h;rfl
theorem a3c {f x:Operand} {ats:Array TypeId} {l:Nat} {v:Value} {A B C F:List HP} {ty:TypeId} {pos:String} {aft:Array Edge} {d:Nat} {all:Array Oper} {rest:List Oper}
    (hf:ev env f=some (.func (.yield l) #[] #[])) (hx:ev env x=some v) (hd:Nat.blt d N=true) (hy:c4z P l v A B C) (he:Ent L (pO A F))
    (k1:e7w Fence.wide P N [] all rest ((d,.bool true)::env) (pO B F) Q) (k2:e7w Fence.wide P N [] all rest ((d,.bool false)::env) (pO C F) Q) :
    e7w Fence.wide P N [] all (⟨some d,.call ⟨.value f, #[x],ats⟩,ty,pos,aft,none⟩::rest) env L Q:=by
  intro a w hA hds hw
  have e1:a.eval f= .func (.yield l) #[] #[]:=by rw [←xQ];exact hA.ev hf
  have e2:a.eval x=v:=by rw [←xQ];exact hA.ev hx
  obtain ⟨fn,tmps,assign,body,hy1,hy2⟩:=hy F w (he.sat hw)
  simp only [wpListIn,Region.wanted,if_true,Oper.wpIn]
  refine ⟨fun _ _=>trivial,?_⟩
  rw [Fence.wide_round,Oper.semAt_none]
  have hx:(execOp a.eval ⟨some d,.call ⟨.value f, #[x],ats⟩,ty,pos,aft,none⟩).run P w= .ok (.round l fn tmps assign body) w:=by
    simp only [execOp,resolve,Sem.run_bind,Deferred.ofValue,e1,Sem.run_pure,Result.andThen_ok,invoke]
    rw [←hy1]
    congr 2
    simp [e2]
  rw [hx,Oper.uponIn_round]
  refine ⟨(fun hh=>by cases hh),hy2.mono fun e w' hR=>?_⟩
  rcases hR with ⟨rfl,h⟩|⟨rfl,h⟩
  · exact k1 _ w' (hA.put hd _) hds h
  · exact k2 _ w' (hA.put hd _) hds h
theorem zW {id:Nat} {ops:List Oper} (h:e7w Fence.wide P N [] ops.toArray ops env L Q):WC P N (.region id ops.toArray false) env L Q:=
  fun a w ha hw=>wpIn_wide.1 (wpIn_region_lit (n:=0) (h a w (by rw [a3b ha.defers];exact ha) ha.defers hw))
theorem yJ {e:Exit} (h:WE N e env L Q):e0a N [] e env L Q:=fun a w ha hd hw=>h a w (by rw [←a3b hd];exact ha) hw
structure IsRec (r:LoopState→Option Code→Loop):Prop where
  pf:∃ fn tmps params assign body defers,r=fun st pe=>{ state:=st,pending:=pe,fn,tmps,params,assign,body,defers}
def a9t (l:Nat) (r:LoopState→Option Code→Loop) (B C:List HP):Exit→Act→World→Prop
  | .normal,_,w=>fP (ObjAt l (.loop (r .busy none))::B) w
  | .ret,_,w=>fP (ObjAt l (.loop (r .busy none))::C) w
  |_,_,_=>False
theorem d3b {l:Nat} {r:LoopState→Option Code→Loop} {B C:List HP} (e:Ent L (ObjAt l (.loop (r .busy none))::C)):e0a N [] .ret env L (a9t l r B C):=fun _ _ _ _ hw=>e.sat hw
def c5a (P:Program) (l:Nat) (body:Code) (Q:Exit→Act→World→Prop):Exit→Act→World→Prop:=
  Exit.then (fun a w=>∃ w2,(Instr.beginRound l).run P w= .ok () w2∧body.wpIn (Fence.wide.inRound l) 0 P Q a w2) (fun _ _ _=>False)
theorem c9h {l:Nat} {r:LoopState→Option Code→Loop} {body:Code} (hr:IsRec r) (h:WM (Fence.wide.inRound l) P N [] body env (ObjAt l (.loop (r .busy none))::L) Q) :
    e0a N [] .normal env (ObjAt l (.loop (r .ready none))::L) (c5a P l body Q):=by
  obtain ⟨fn,tmps,params,assign,body',defers,rfl⟩:=hr.pf
  intro a w ha hd hw
  exact ⟨_,run_beginRound (rX hw) rfl,h a _ ha hd (lX hw)⟩
theorem b2x {o:Obj} {w:World} (h:fP L w):fP (ObjAt w.heap.size o::L) (w.alloc o):=b6b (ObjAt w.heap.size o) (fun h e=>⟨e⟩) h
theorem b4i {g:Operand} {p:Tmp} {assign body:Code} {gf:FuncId} {cap:List Value} {pre:List HP} {xs:List Value} (J:Nat→List HP) (Jx:List HP)
    (hg:ev env g=some (.func (.func gf) #[] cap.toArray)) (he:a1d P gf) (hseq:Seq P gf cap pre xs) (hL:Ent L (pO pre (J 0))) (hp:Nat.blt p N=true)
    (hround:∀ l r D F i (hi:i<xs.length),IsRec r→WM (Fence.wide.inRound l) P N [] assign ((p,xs[i])::env) (ObjAt l (.loop (r .ready none))::ObjAt D (.deferred (some []))::pO (pO pre (J i)) F)
      (c5a P l body (a9t l r (ObjAt D (.deferred (some []))::pO (pO pre (J (i+1))) F) (ObjAt D (.deferred (some []))::pO Jx F))))
    (hdone:∀ D,e0a N [b6u D] .normal env (ObjAt D (.deferred (some []))::pO pre (J xs.length)) Q)
    (hstop:∀ D,0<xs.length→e0a N [b6u D] .ret env (ObjAt D (.deferred (some []))::Jx) Q):WC P N (.rangeFunc g #[p] assign body) env L Q:=by
  intro a w ha hw
  refine (wpIn_wide (n:=0)).1 (wpIn_rangeFunc ?_)
  intro fn _
  have hev:a.eval g= .func (.func gf) #[] cap.toArray:=ha.ev hg
  obtain ⟨rec,hrec⟩:∃ rec:LoopState→Option Code→Loop,rec=fun st pe=>{ state:=st,pending:=pe,fn,tmps:=a.tmps,params:= #[p],assign,body,defers:=w.heap.size}:=⟨_,rfl⟩
  have isr:IsRec rec:=⟨_,_,_,_,_,_,hrec⟩
  have hs1:=b2x (o:= .deferred (some [])) hw
  have hs2:=b2x (o:= .loop (rec .ready none)) hs1
  rw [World.size_alloc] at hs2
  have hd0:=ha.defers
  have hbare:∀ ds,a5z { a with defers:=ds}=a:=fun ds=>by cases a;simp at hd0;subst hd0;rfl
  refine ⟨w.heap.size+1,[b6u w.heap.size],(w.alloc (.deferred (some []))).alloc (.loop (rec .ready none)),{ target:= .fn (.func gf) cap.toArray,args:= #[.func (.yield (w.heap.size+1)) #[] #[]]},(w.alloc (.deferred (some []))).alloc (.loop (rec .ready none)),gf,
    (.func (.yield (w.heap.size+1)) #[] #[]::cap).toArray,(w.alloc (.deferred (some []))).alloc (.loop (rec .ready none)),?_,?_,fun _ _=>trivial,?_,(fun hh=>by cases hh),?_⟩
  · rw [hrec];exact run_enterLoop_outer _ _ _ _ _
  · simp only [resolve,hev]
    simp [go_sem]
  · simp only [invoke]
    rw [he]
    congr 2
    apply Array.ext'
    simp
  · refine callsIn_wide.2 ((hseq (w.heap.size+1) (fun i=>ObjAt (w.heap.size+1) (.loop (rec .ready none))::ObjAt w.heap.size (.deferred (some []))::J i)
      (ObjAt (w.heap.size+1) (.loop (rec .done (some .ret)))::ObjAt w.heap.size (.deferred (some []))::Jx) ?_ _ ?_).mono ?_)
    · intro i hi F W hW
      have hW2:fP (ObjAt (w.heap.size+1) (.loop (rec .ready none))::ObjAt w.heap.size (.deferred (some []))::pO (pO pre (J i)) F) W:=(c6d (Ent.trans sG (Ent.cons sG))).sat hW
      have hl:=rX hW2
      have hy:=run_yield (P:=P) (args:= #[xs[i]]) hl (by rw [hrec];rfl)
      rw [hrec] at hy
      refine ⟨fn,_,assign,body,hy,roundIn_of_wpIn trivial ?_⟩
      have hen:EnvOk N ((p,xs[i])::env) (a5z { tmps:=(#[p].zip #[xs[i]]).foldl (fun tmps (t,a)=>tmps.setIfInBounds t a) a.tmps,defers:=[]}):=by
        have:=ha.put hp xs[i]
        have e:a.put (some p) xs[i]={ tmps:=(#[p].zip #[xs[i]]).foldl (fun tmps (t,a)=>tmps.setIfInBounds t a) a.tmps,defers:=[]}:=by
          simp [Act.put,hd0]
        rw [←e]
        have e2:a5z (a.put (some p) xs[i])=a.put (some p) xs[i]:=a3b (by simp [Act.put,hd0])
        rw [e2];exact this
      refine wpIn_mono (hround _ rec w.heap.size F i hi isr _ W hen rfl hW2) ?_
      intro e a1 w1 h1
      cases e with
      |normal=>
       obtain ⟨w2,hb,hbody⟩:=h1
       refine ⟨w2,hb,wpIn_mono hbody ?_⟩
       intro e a2 w3 h3
       cases e with
       |normal=>
        have h4:fP (ObjAt (w.heap.size+1) (.loop (rec .busy none))::ObjAt w.heap.size (.deferred (some []))::pO (pO pre (J (i+1))) F) w3:=h3
        have hl:=rX h4
        have h5:=lX (o':= .loop { rec .busy none with state:= .ready,pending:=none}) h4
        refine ⟨_,_,run_endRound none hl,.inl ⟨rfl,?_⟩⟩
        rw [hrec] at h5 ⊢
        exact (c6d (Ent.trans (Ent.cons wW) wW)).sat h5
       |ret=>
        have h4:fP (ObjAt (w.heap.size+1) (.loop (rec .busy none))::ObjAt w.heap.size (.deferred (some []))::pO Jx F) w3:=h3
        have hl:=rX h4
        have h5:=lX (o':= .loop { rec .busy none with state:= .done,pending:=some .ret}) h4
        refine ⟨_,_,run_endRound (some .ret) hl,.inr ⟨rfl,?_⟩⟩
        rw [hrec] at h5 ⊢
        exact h5
       |exit id=>exact h3.elim
       |goto t=>exact h3.elim
       |panic c=>exact h3.elim
       |outgrown=>exact h3.elim
      |ret=>exact h1
      |exit id=>exact h1
      |goto t=>exact h1
      |panic c=>exact h1
      |outgrown=>exact h1
    · exact (Ent.trans (Ent.cons (Ent.cons hL)) (Ent.trans (Ent.cons wW) wW)).sat hs2
    · rintro e W2 ⟨⟨v,rfl⟩,h|⟨h0,h⟩⟩
      · have h2:fP (ObjAt (w.heap.size+1) (.loop (rec .ready none))::ObjAt w.heap.size (.deferred (some []))::pO pre (J xs.length)) W2:=(Ent.trans sG (Ent.cons sG)).sat h
        have hl:=rX h2
        have h5:=lX (o':= .loop { rec .ready none with state:= .exhausted}) h2
        refine ⟨none,_,?_,hdone w.heap.size _ _ (by rw [hbare];exact ha) (by simp [hd0]) (Ent.drop Ent.refl |>.sat h5)⟩
        have:=run_endLoop (P:=P) hl (by rw [hrec];simp)
        rw [hrec] at this ⊢;exact this
      · have hl:=rX h
        have h5:=lX (o':= .loop { rec .done (some .ret) with state:= .exhausted}) h
        refine ⟨some .ret,_,?_,wpIn_ret (hstop w.heap.size h0 _ _ (by rw [hbare];exact ha) (by simp [hd0]) (Ent.drop Ent.refl |>.sat h5))⟩
        have:=run_endLoop (P:=P) hl (by rw [hrec];simp)
        rw [hrec] at this ⊢;exact this
def f1i (P:Program) (fn:Func) (pre:List HP) (A:Nat→List HP) (C:List HP) (n:Nat):Exit→Act→World→Prop:=
  bodyPost P fn (fun e w'=>(∃ v,e= .returned v)∧(fP (pO pre (A n)) w'∨(0<n∧fP C w')))
theorem Seq.mk {f:FuncId} {fn:Func} {c:Code} {N:Nat} {cap:List Value} {pre:List HP} {xs:List Value} (hf:P.funcs[f]? =some fn) (hb:fn.body=some c) (hN:fn.ntmps=N) (hv:Nat.ble (cap.length+1) N=true)
    (h:∀ l A C,(∀ i (h:i<xs.length),c4z P l xs[i] (pO pre (A i)) (pO pre (A (i+1))) C)→WC P N c (b2i 0 (.func (.yield l) #[] #[]::cap)) (pO pre (A 0)) (f1i P fn pre A C xs.length)):Seq P f cap pre xs:=by
  intro l A C hy w hw
  refine calls_of_wp hf hb ?_
  have hle:(Value.func (.yield l) #[] #[]::cap).length≤N:=by simpa using hv
  refine h l A C hy _ w ⟨?_,rfl,fun t v e=>?_⟩ hw
  · simp [hN];simp at hle;omega
  · obtain ⟨_,h2⟩:=xY _ 0 t v e
    have ht:t<(Value.func (.yield l) #[] #[]::cap).length:=(List.getElem?_eq_some_iff.1 h2).1
    rw [Array.getD_eq_getD_getElem?,Array.getElem?_append_left (by simpa using ht)]
    simp at h2
    simp [h2]
theorem a0n {fn:Func} (h:fn.results.toList=[]) (tmps:Array Value) (w:World):∃ v,(results fn tmps).run P w= .ok v w:=by
  rw [a0b,Array.mapM_eq_mapM_toList,h]
  exact ⟨_,rfl⟩
theorem b7y {fn:Func} {pre:List HP} {A:Nat→List HP} {C:List HP} {n:Nat} {e:Exit} (he:(match e with| .normal=>true| .ret=>true|_=>false)=true) (b9v:fn.results.toList=[]) (h:Ent L (pO pre (A n))):WE N e env L (f1i P fn pre A C n):=by
  intro a w ha hw
  obtain ⟨v,hr⟩:=a0n (P:=P) b9v a.tmps w
  have fin:a.defers=[]∧∃ v,(results fn a.tmps).run P w= .ok v w∧((∃ u,Ending.returned v= .returned u)∧(fP (pO pre (A n)) w∨(0<n∧fP C w))):=⟨ha.defers,v,hr,⟨v,rfl⟩,.inl (h.sat hw)⟩
  cases e with
  |normal=>exact fin
  |ret=>exact fin
  |_=>simp at he
theorem vW {fn:Func} {pre:List HP} {A:Nat→List HP} {C:List HP} {n:Nat} {e:Exit} (he:(match e with| .normal=>true| .ret=>true|_=>false)=true) (b9v:fn.results.toList=[]) (hn:0<n) (h:Ent L C):WE N e env L (f1i P fn pre A C n):=by
  intro a w ha hw
  obtain ⟨v,hr⟩:=a0n (P:=P) b9v a.tmps w
  have fin:a.defers=[]∧∃ v,(results fn a.tmps).run P w= .ok v w∧((∃ u,Ending.returned v= .returned u)∧(fP (pO pre (A n)) w∨(0<n∧fP C w))):=⟨ha.defers,v,hr,⟨v,rfl⟩,.inr ⟨hn,h.sat hw⟩⟩
  cases e with
  |normal=>exact fin
  |ret=>exact fin
  |_=>simp at he
def f1j (P:Program) (fn:Func) (post:Value→List HP→Prop) (F:List HP):Exit→Act→World→Prop:=
  bodyPostM Fence.wide 0 P fn (fun e w'=>∃ v L',e= .returned v∧post v L'∧fP (pO L' F) w')
theorem FnF.mkM {f:FuncId} {fn:Func} {c:Code} {N:Nat} {vs:List Value} {pre F:List HP} {post:Value→List HP→Prop}
    (hf:P.funcs[f]? =some fn) (hb:fn.body=some c) (hn:(fn.name == "runtime.NumGoroutine")=false) (hN:fn.ntmps=N) (hv:Nat.ble vs.length N=true)
    (h:WC P N c (b2i 0 vs) (pO pre F) (f1j P fn post F)):FnF P f vs pre F post:=by
  refine ⟨k6 hf hb hn,fun w hw=>callsIn_wide.1 (callsIn_of_wp_marks (n:=0) hf hb trivial (wpIn_wide.2 ?_))⟩
  have hle:vs.length≤N:=by simpa using hv
  refine h _ w ⟨?_,rfl,fun t v e=>?_⟩ hw
  · simp [hN];omega
  · obtain ⟨_,h2⟩:=xY vs 0 t v e
    have ht:t<vs.length:=(List.getElem?_eq_some_iff.1 h2).1
    rw [Array.getD_eq_getD_getElem?,Array.getElem?_append_left (by simpa using ht)]
    simp at h2
    simp [h2]
theorem b9r {fn:Func} {post:Value→List HP→Prop} {F:List HP} {e:Exit} {D:Nat} (he:(match e with| .normal=>true| .ret=>true|_=>false)=true) {rs:List ResultVar} {vs:List Value}
    (b9v:fn.results.toList=rs) (hr:ResOk P env L rs vs) (L':List HP) (hp:post (vM vs) L') (hL:Ent L (pO L' F)):e0a N [b6u D] e env (ObjAt D (.deferred (some []))::L) (f1j P fn post F):=by
  intro a w ha hd hw
  have hD:=rX hw
  have h2:fP L (w.putObj D (.deferred none)):=(Ent.drop Ent.refl).sat (lX (o':= .deferred none) hw)
  have key:(results fn a.tmps).run P (w.putObj D (.deferred none))= .ok (vM vs) (w.putObj D (.deferred none)):=by
    have h1:=b3u ha h2 hr
    subst b9v
    rw [a0b,Array.mapM_eq_mapM_toList]
    simp only [Sem.run_bind,Sem.run_map]
    have h1':(List.mapM (vD a.tmps) fn.results.toList).run P (w.putObj D (.deferred none))= .ok vs (w.putObj D (.deferred none)):=h1
    rw [h1']
    simp only [Result.andThen_ok,Sem.run_pure]
    congr 1
    unfold vM
    match vs with
    | []=>rfl
    | [v]=>rfl
    |a::b::r=>simp
  have fin:LeavesInM Fence.wide 0 P fn a.tmps (fun e w'=>∃ v L',e= .returned v∧post v L'∧fP (pO L' F) w') a.defers .returning w:=by
    rw [hd]
    exact ⟨by simp,.inl ⟨D,_,rfl,run_takeDeferred hD,_,key,_,L',rfl,hp,hL.sat h2⟩⟩
  cases e with
  |normal=>exact fin
  |ret=>exact fin
  |_=>simp at he
end
set_option maxRecDepth 100000
theorem f5f {Q P:Prop} (k:Q) (h:Hid Q→P:=by
  intro k
  (first|refine d7t ?_|refine c6c ?_|refine d7u ?_|refine b9p ?_|refine b2v ?_|refine rR ?_|refine b9q ?_|refine a4a ?_|refine a0m ?_|refine b2w ?_|refine yH ?_|(apply d1r;(first|exact AllIn.wide|exact AllIn.round _);exact b7f;rfl;(intro _ h;cases h))|(apply e6q;(first|exact AllIn.wide|exact AllIn.round _);rfl;(intro _ h;cases h);exact e7d;(first|refine dG ?_|refine dE ?_|refine aM ?_)))
  (repeat (first|refine d7t ?_|refine c6c ?_|refine d7u ?_|refine b9p ?_|refine b2v ?_|refine rR ?_|refine b9q ?_|refine a4a ?_|refine a0m ?_|refine b2w ?_|refine yH ?_|(apply d1r;(first|exact AllIn.wide|exact AllIn.round _);exact b7f;rfl;(intro _ h;cases h))|(apply e6q;(first|exact AllIn.wide|exact AllIn.round _);rfl;(intro _ h;cases h);exact e7d;(first|refine dG ?_|refine dE ?_|refine aM ?_))))
  exact k.out):P:=h ⟨k⟩
theorem f1y {Q P:Prop} (k:Q) (h:Hid Q→P:=by
  intro k
  ((apply d1r;(first|exact AllIn.wide|exact AllIn.round _);exact b7f;rfl;(intro _ h;cases h)))
  (repeat ((apply d1r;(first|exact AllIn.wide|exact AllIn.round _);exact b7f;rfl;(intro _ h;cases h))))
  exact k.out):P:=h ⟨k⟩
theorem f1z {Q P:Prop} (k:Q) (h:Hid Q→P:=by
  intro k
  (first|(apply b6d;exact b7f;rfl)|refine zK ?_|refine d9j ?_|(apply d2b;rfl;exact b8u;exact b7f;rfl)|(apply d2c;rfl;exact b8u;exact b7f;rfl)|refine a5s ?_|refine a5u ?_|refine y5 ?_|refine pU ?_|refine zH ?_|refine a5t ?_|refine l6 ?_|refine tB ?_|refine y0 ?_|refine l7 ?_|(refine l8 ?_ ?_;rfl)|refine kM ?_|refine tC ?_|refine kN ?_|refine kO ?_|refine l9 ?_|refine yZ ?_|(apply pP;rfl;(with_reducible rfl))|(apply pQ;rfl;(with_reducible rfl))|refine a5v ?_|(apply xG;rfl;exact e7d;(first|refine dG ?_|refine dE ?_|refine aM ?_))|(apply qW;rfl;exact b8u;exact e7d;(first|refine dG ?_|refine dE ?_|refine aM ?_))|(apply d1z;rfl;exact b8u;exact b7f;rfl)|refine n4 ?_|refine l4 rfl ?_|(refine l5 ?_ ?_;(focus (exact jM;done)))|(apply b7l;rfl;exact e0p;rfl)|(apply b7m;rfl;exact e0p;rfl)|(apply b7n;rfl;exact e0p;rfl;(refine ⟨by first|exact After.free|exact After.turns rfl|(refine After.still ?_;exact jM;done),?_⟩))|(apply b2j;exact b7f;rfl)|(apply tD;rfl;rfl;(with_reducible rfl);rfl;rfl)|(apply tE;rfl;rfl;(with_reducible rfl);rfl;rfl)|(apply pS;rfl;rfl;(with_reducible rfl);rfl;rfl;rfl)|(apply pT;rfl;rfl;(with_reducible rfl);rfl;rfl;rfl)|(apply mA;rfl;rfl;(with_reducible rfl);rfl)|(apply mB;rfl;rfl;(with_reducible rfl);rfl)|(apply y9;rfl;rfl;rfl;rfl;(first|exact jP a4t|(first|(with_reducible assumption)|decide)))|(apply zB;rfl;rfl;rfl;rfl;(first|exact jQ a4t|(first|(with_reducible assumption)|decide)))|(apply zA;rfl;rfl;rfl;rfl;(first|exact jQ a4t|(first|(with_reducible assumption)|decide)))|(apply zC;rfl;rfl;rfl;rfl;(first|exact jP a4t|(first|(with_reducible assumption)|decide)))|(apply zD;rfl;rfl;rfl;rfl;(first|exact jP a4t|(first|(with_reducible assumption)|decide)))|(apply zF;rfl;rfl;rfl;rfl;(first|exact jQ a4t|(first|(with_reducible assumption)|decide)))|(apply zE;rfl;rfl;rfl;rfl;(first|exact jQ a4t|(first|(with_reducible assumption)|decide)))|(apply zG;rfl;rfl;rfl;rfl;(first|exact jP a4t|(first|(with_reducible assumption)|decide)))|(apply a5w;rfl;(first|(with_reducible assumption)|(with_reducible rfl)|(with_reducible exact uG)|(with_reducible exact uH)|omega|decide|exact rfl))|(apply b7h;rfl;(first|(with_reducible assumption)|(with_reducible rfl)|(with_reducible exact uG)|(with_reducible exact uH)|omega|decide|exact rfl))|(apply b7i;rfl;(first|(with_reducible assumption)|decide))|(apply b7j;rfl;(first|(with_reducible assumption)|decide)))
  (repeat (first|(apply b6d;exact b7f;rfl)|refine zK ?_|refine d9j ?_|(apply d2b;rfl;exact b8u;exact b7f;rfl)|(apply d2c;rfl;exact b8u;exact b7f;rfl)|refine a5s ?_|refine a5u ?_|refine y5 ?_|refine pU ?_|refine zH ?_|refine a5t ?_|refine l6 ?_|refine tB ?_|refine y0 ?_|refine l7 ?_|(refine l8 ?_ ?_;rfl)|refine kM ?_|refine tC ?_|refine kN ?_|refine kO ?_|refine l9 ?_|refine yZ ?_|(apply pP;rfl;(with_reducible rfl))|(apply pQ;rfl;(with_reducible rfl))|refine a5v ?_|(apply xG;rfl;exact e7d;(first|refine dG ?_|refine dE ?_|refine aM ?_))|(apply qW;rfl;exact b8u;exact e7d;(first|refine dG ?_|refine dE ?_|refine aM ?_))|(apply d1z;rfl;exact b8u;exact b7f;rfl)|refine n4 ?_|refine l4 rfl ?_|(refine l5 ?_ ?_;(focus (exact jM;done)))|(apply b7l;rfl;exact e0p;rfl)|(apply b7m;rfl;exact e0p;rfl)|(apply b7n;rfl;exact e0p;rfl;(refine ⟨by first|exact After.free|exact After.turns rfl|(refine After.still ?_;exact jM;done),?_⟩))|(apply b2j;exact b7f;rfl)|(apply tD;rfl;rfl;(with_reducible rfl);rfl;rfl)|(apply tE;rfl;rfl;(with_reducible rfl);rfl;rfl)|(apply pS;rfl;rfl;(with_reducible rfl);rfl;rfl;rfl)|(apply pT;rfl;rfl;(with_reducible rfl);rfl;rfl;rfl)|(apply mA;rfl;rfl;(with_reducible rfl);rfl)|(apply mB;rfl;rfl;(with_reducible rfl);rfl)|(apply y9;rfl;rfl;rfl;rfl;(first|exact jP a4t|(first|(with_reducible assumption)|decide)))|(apply zB;rfl;rfl;rfl;rfl;(first|exact jQ a4t|(first|(with_reducible assumption)|decide)))|(apply zA;rfl;rfl;rfl;rfl;(first|exact jQ a4t|(first|(with_reducible assumption)|decide)))|(apply zC;rfl;rfl;rfl;rfl;(first|exact jP a4t|(first|(with_reducible assumption)|decide)))|(apply zD;rfl;rfl;rfl;rfl;(first|exact jP a4t|(first|(with_reducible assumption)|decide)))|(apply zF;rfl;rfl;rfl;rfl;(first|exact jQ a4t|(first|(with_reducible assumption)|decide)))|(apply zE;rfl;rfl;rfl;rfl;(first|exact jQ a4t|(first|(with_reducible assumption)|decide)))|(apply zG;rfl;rfl;rfl;rfl;(first|exact jP a4t|(first|(with_reducible assumption)|decide)))|(apply a5w;rfl;(first|(with_reducible assumption)|(with_reducible rfl)|(with_reducible exact uG)|(with_reducible exact uH)|omega|decide|exact rfl))|(apply b7h;rfl;(first|(with_reducible assumption)|(with_reducible rfl)|(with_reducible exact uG)|(with_reducible exact uH)|omega|decide|exact rfl))|(apply b7i;rfl;(first|(with_reducible assumption)|decide))|(apply b7j;rfl;(first|(with_reducible assumption)|decide))))
  exact k.out):P:=h ⟨k⟩
end
end Go.Sx
