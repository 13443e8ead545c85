/- Msg, Queue, QuPl, Core, Range: several of my texts as one. My own work. -/
import Derived.Test.YtjihlpjnebdiiaaGreatZae
import Derived.RangeFuncIn
import Derived.RangeFuncLeaves
import Derived.RangeFuncRecord
import Derived.RangeFuncSeq
import Derived.TacticsIn
set_option linter.unusedVariables false
set_option linter.unusedSectionVars false
set_option linter.unusedSimpArgs false
set_option maxRecDepth 100000
set_option maxHeartbeats 4000000
namespace Go.Sx
open Go Go.Proofs
section
def dJ (k:Int):Int:=if 1≤k∧k≤3 then 0 else if 4≤k∧k≤6 then 1 else if 7≤k∧k≤11 then 2 else -1
def cE (k:Int):Prop:=(1≤k∧k≤3)∨k=11
instance (k:Int):Decidable (cE k):=by unfold cE;infer_instance
def qY (c:Cfg) (m:Msg):Int:=m.line.tmod c.homes
def e6x (n k:Int):Prop:=0≤n∧n<k
instance (n k:Int):Decidable (e6x n k):=by unfold e6x;infer_instance
def qG (c:Cfg) (m:Msg) (a:Bool):Prop:=m.who=0∧m.own=0∧0≤m.acks∧m.acks<(if a then c.cores else 1)
instance (c:Cfg) (m:Msg) (a:Bool):Decidable (qG c m a):=by unfold qG;infer_instance
def e2l (c:Cfg) (m:Msg):Prop:=(0≤m.src∧m.src<c.cores)∧m.dst=qY c m∧qG c m false
instance (c:Cfg) (m:Msg):Decidable (e2l c m):=by unfold e2l;infer_instance
def xY (c:Cfg) (m:Msg) (a:Bool):Prop:=m.src=qY c m∧(0≤m.dst∧m.dst<c.cores)∧qG c m a
instance (c:Cfg) (m:Msg) (a:Bool):Decidable (xY c m a):=by unfold xY;infer_instance
def tX (c:Cfg) (m:Msg):Prop:=(0≤m.src∧m.src<c.cores)∧(0≤m.dst∧m.dst<c.cores)∧m.src≠m.dst∧qG c m false
instance (c:Cfg) (m:Msg):Decidable (tX c m):=by unfold tX;infer_instance
def iY (c:Cfg) (m:Msg) (a:Bool):Prop:=(0≤m.who∧m.who<c.cores)∧m.who≠m.dst∧xY c { m with who:=0} a
instance (c:Cfg) (m:Msg) (a:Bool):Decidable (iY c m a):=by unfold iY;infer_instance
def a9a (c:Cfg) (m:Msg):Prop:=(m.own=1∨m.own=2∨m.own=4)∧(0≤m.acks∧m.acks<c.cores)∧(0≤m.dst∧m.dst<c.cores)∧((m.who=0∧m.src=qY c m)∨(m.who=1∧(0≤m.src∧m.src<c.cores)∧m.src≠m.dst))
instance (c:Cfg) (m:Msg):Decidable (a9a c m):=by unfold a9a;infer_instance
def Words.at (w:Words) (i:Nat):Int:=w.list.getD i 0
def tY (c:Cfg) (w:Words) (i:Nat):Prop:= -2147483648≤w.at i∧w.at i≤2147483647∧(c.words≤i→w.at i=0)
instance (c:Cfg) (w:Words) (i:Nat):Decidable (tY c w i):=by unfold tY;infer_instance
def bJ (c:Cfg) (w:Words):Prop:=∀ i,i<8→tY c w i
instance (c:Cfg) (w:Words):Decidable (bJ c w):=by unfold bJ;infer_instance
def jD (c:Cfg) (m:Msg):Prop:=
  if cE m.kind then e2l c m else if m.kind=4∨m.kind=6 then iY c m false else if m.kind=5 then iY c m true else if m.kind=7 then a9a c m else if m.kind=8 then xY c m true else if m.kind=10 then xY c m false else tX c m
instance (c:Cfg) (m:Msg):Decidable (jD c m):=by unfold jD;infer_instance
def gK (k:Int):Prop:=k=3∨k=7
instance (k:Int):Decidable (gK k):=by unfold gK;infer_instance
def iD (c:Cfg) (m:Msg):Prop:=if gK m.kind then bJ c m.words else m.words= .zero
instance (c:Cfg) (m:Msg):Decidable (iD c m):=by unfold iD;infer_instance
def d6 (c:Cfg) (m:Msg):Prop:=aF c=true∧(1≤m.kind∧m.kind≤11)∧(0≤m.line∧m.line<c.lines)∧jD c m∧iD c m
instance (c:Cfg) (m:Msg):Decidable (d6 c m):=by unfold d6;infer_instance
instance:Meth Tryz.prog 297 (.agg #[]) "mesne/message.fits" 269 (.agg #[]):=⟨fun w=>by kernel_rfl⟩
instance:Meth Tryz.prog 299 (.agg #[]) "mesne/message.fits" 269 (.agg #[]):=⟨fun w=>by kernel_rfl⟩
instance:Meth Tryz.prog 299 (.agg #[]) "mesne/message.words" 272 (.agg #[]):=⟨fun w=>by kernel_rfl⟩
instance:Meth Tryz.prog 302 (.agg #[]) "mesne/message.fits" 276 (.agg #[]):=⟨fun w=>by kernel_rfl⟩
instance:Meth Tryz.prog 302 (.agg #[]) "mesne/message.words" 277 (.agg #[]):=⟨fun w=>by kernel_rfl⟩
instance:Meth Tryz.prog 304 (.agg #[]) "mesne/message.fits" 278 (.agg #[]):=⟨fun w=>by kernel_rfl⟩
instance:Meth Tryz.prog 301 (.agg #[.bool false]) "mesne/message.fits" 274 (.agg #[.bool false]):=⟨fun w=>by kernel_rfl⟩
instance:Meth Tryz.prog 301 (.agg #[.bool true]) "mesne/message.fits" 274 (.agg #[.bool true]):=⟨fun w=>by kernel_rfl⟩
instance:Meth Tryz.prog 303 (.agg #[.bool false]) "mesne/message.fits" 275 (.agg #[.bool false]):=⟨fun w=>by kernel_rfl⟩
instance:Meth Tryz.prog 303 (.agg #[.bool true]) "mesne/message.fits" 275 (.agg #[.bool true]):=⟨fun w=>by kernel_rfl⟩
instance:Has Tryz.prog 299 280 true:=⟨by kernel_rfl⟩
instance:Has Tryz.prog 302 280 true:=⟨by kernel_rfl⟩
instance:Has Tryz.prog 297 280 false:=⟨by kernel_rfl⟩
instance:Has Tryz.prog 303 280 false:=⟨by kernel_rfl⟩
instance:Has Tryz.prog 304 280 false:=⟨by kernel_rfl⟩
instance:Has Tryz.prog 301 280 false:=⟨by kernel_rfl⟩
attribute [local irreducible] Exit.then Exit.inBlock Code.wp WC WO WE WQ V bF tV d3 bW dF uH IntKind.wrap WR Code.rounds WT KO
theorem qP {F:List HP} {k:Int}:FnF Tryz.prog 150 [.int .i64 k] [] F (fun r L'=>r= .int .i64 (dJ k)∧L'=[]):=by
  refine FnF.mk' Tryz.func150 rfl rfl Tryz.ntmps150 rfl ?_
  repeat' (first|refine gd ?_|intro _|refine mH ?_ ?_|fail)
  all_goals ((apply aA rfl rfl bB);(refine ⟨congrArg (Value.int .i64) ?_,rfl⟩;unfold dJ;repeat (first|rfl|(rw [if_pos (om)])|(rw [if_neg (om)])));exact aB)
theorem zL {F:List HP} {k:Int}:FnF Tryz.prog 178 [.int .i64 k] [] F (fun r L'=>r= .bool (decide (cE k))∧L'=[]):=by
  have h:dJ k=0↔(1≤k∧k≤3):=by unfold dJ;split<;>(try split)<;>(try split)<;>omega
  refine FnF.mk' Tryz.func178 rfl rfl Tryz.ntmps178 rfl ?_
  repeat' (first|refine gd ?_|intro _|refine aD @qP ?_|refine mH ?_ ?_|fail)
  all_goals (apply aA rfl rfl bB;(refine ⟨congrArg Value.bool ?_,rfl⟩;(first|(refine decide_eq_decide.2 ?_)|(refine (decide_eq_true ?_).symm)|(refine (decide_eq_false ?_).symm));(first|omega|(simp only [cE,h];omega)));exact iC)
theorem gL {F:List HP} {n k:Int}:FnF Tryz.prog 214 [.int .i64 n,.int .i64 k] [] F (fun r L'=>r= .bool (decide (e6x n k))∧L'=[]):=by
  refine FnF.mk' Tryz.func214 rfl rfl Tryz.ntmps214 rfl ?_
  repeat' (first|refine gd ?_|intro _|refine mH ?_ ?_|fail)
  all_goals (apply aA rfl rfl bB;(refine ⟨congrArg Value.bool ?_,rfl⟩;(first|(refine decide_eq_decide.2 ?_)|(refine (decide_eq_true ?_).symm)|(refine (decide_eq_false ?_).symm));(first|omega|(simp only [e6x];omega)));exact iC)
theorem a6y {F:List HP} {c:Cfg} {m:Msg} (h:c.homes≠0):FnF Tryz.prog 270 [c.val,mv m] [] F (fun r L'=>r= .int .i64 (qY c m)∧L'=[]):=by
  refine FnF.mk' Tryz.func270 rfl rfl Tryz.ntmps270 rfl ?_
  repeat first|refine gd ?_|intro _
  (apply aA rfl rfl bB;(first|exact lW|exact ⟨by simp [qY]<;>omega,rfl⟩);exact iC)
theorem vY {F:List HP} {c:Cfg} {m:Msg} {a:Bool}:FnF Tryz.prog 271 [c.val,mv m,.bool a] [] F (fun r L'=>r= .bool (decide (qG c m a))∧L'=[]):=by
  refine FnF.mk' Tryz.func271 rfl rfl Tryz.ntmps271 rfl ?_
  cases a with
  |true=>
   repeat' (first|refine gd ?_|intro _|refine aD @gL ?_|refine mH ?_ ?_|fail)
   all_goals (apply aA rfl rfl bB;(refine ⟨congrArg Value.bool ?_,rfl⟩;(first|(refine decide_eq_decide.2 ?_)|(refine (decide_eq_true ?_).symm)|(refine (decide_eq_false ?_).symm));(first|omega|(simp only [qG,e6x,if_true];omega)));exact iC)
  |false=>
   repeat' (first|refine gd ?_|intro _|refine aD @gL ?_|refine mH ?_ ?_|fail)
   all_goals (apply aA rfl rfl bB;(refine ⟨congrArg Value.bool ?_,rfl⟩;(first|(refine decide_eq_decide.2 ?_)|(refine (decide_eq_true ?_).symm)|(refine (decide_eq_false ?_).symm));(first|omega|(simp only [qG,e6x,Bool.false_eq_true,if_false];omega)));exact iC)
theorem b3w {F:List HP} {c:Cfg} {m:Msg} (h:c.homes≠0):FnF Tryz.prog 269 [.agg #[],c.val,mv m] [] F (fun r L'=>r= .bool (decide (e2l c m))∧L'=[]):=by
  have hW:=fun F=>gL (F:=F) (n:=m.src) (k:=c.cores)
  simp only [e6x] at hW
  refine FnF.mk' Tryz.func269 rfl rfl Tryz.ntmps269 rfl ?_
  repeat' (first|refine gd ?_|intro _|refine aD @hW ?_|refine aD @a6y ?_|refine aD @vY ?_|refine mH ?_ ?_|fail)
  all_goals (apply aA rfl rfl bB;(refine ⟨congrArg Value.bool ?_,rfl⟩;(first|(refine decide_eq_decide.2 ?_)|(refine (decide_eq_true ?_).symm)|(refine (decide_eq_false ?_).symm));(first|omega|(simp only [e2l,qG,Bool.false_eq_true,if_false];omega)));exact iC)
theorem a6z {F:List HP} {c:Cfg} {m:Msg} {a:Bool} (h:c.homes≠0):FnF Tryz.prog 275 [.agg #[.bool a],c.val,mv m] [] F (fun r L'=>r= .bool (decide (xY c m a))∧L'=[]):=by
  have hW:=fun F=>gL (F:=F) (n:=m.dst) (k:=c.cores)
  simp only [e6x] at hW
  refine FnF.mk' Tryz.func275 rfl rfl Tryz.ntmps275 rfl ?_
  repeat' (first|refine gd ?_|intro _|refine aD @hW ?_|refine aD @a6y ?_|refine aD @vY ?_|refine mH ?_ ?_|fail)
  all_goals first|(apply aA rfl rfl bB;(refine ⟨congrArg Value.bool ?_,rfl⟩;(first|(refine decide_eq_decide.2 ?_)|(refine (decide_eq_true ?_).symm)|(refine (decide_eq_false ?_).symm));(first|omega|(simp only [xY];omega)));exact iC)|(apply aA rfl rfl (by repeat (first|exact ResOk.nil|(apply ResOk.tmp;rfl)));(refine ⟨congrArg Value.bool (decide_eq_decide.2 ⟨fun h=>⟨by assumption,by assumption,h⟩,fun h=>h.2.2⟩),rfl⟩);exact iC)
theorem b9g {F:List HP} {c:Cfg} {m:Msg}:FnF Tryz.prog 278 [.agg #[],c.val,mv m] [] F (fun r L'=>r= .bool (decide (tX c m))∧L'=[]):=by
  have hW:=fun F=>gL (F:=F) (n:=m.src) (k:=c.cores)
  have hV:=fun F=>gL (F:=F) (n:=m.dst) (k:=c.cores)
  simp only [e6x] at hW hV
  refine FnF.mk' Tryz.func278 rfl rfl Tryz.ntmps278 rfl ?_
  repeat' (first|refine gd ?_|intro _|refine aD @hW ?_|refine aD @hV ?_|refine aD @vY ?_|refine mH ?_ ?_|fail)
  all_goals (apply aA rfl rfl bB;(refine ⟨congrArg Value.bool ?_,rfl⟩;(first|(refine decide_eq_decide.2 ?_)|(refine (decide_eq_true ?_).symm)|(refine (decide_eq_false ?_).symm));(first|omega|(simp only [tX,qG,Bool.false_eq_true,if_false];omega)));exact iC)
theorem uW {F:List HP} {c:Cfg} {m:Msg} {a:Bool} (h:c.homes≠0):FnF Tryz.prog 274 [.agg #[.bool a],c.val,mv m] [] F (fun r L'=>r= .bool (decide (iY c m a))∧L'=[]):=by
  have hW:=fun F=>gL (F:=F) (n:=m.who) (k:=c.cores)
  have hD:=fun F=>a6z (F:=F) (c:=c) (m:={ m with who:=0}) (a:=a) h
  simp only [e6x] at hW
  refine FnF.mk' Tryz.func274 rfl rfl Tryz.ntmps274 rfl ?_
  repeat' (first|refine gd ?_|intro _|refine aD @hW ?_|refine aD @hD ?_|refine mH ?_ ?_|fail)
  all_goals first|(apply aA rfl rfl bB;(refine ⟨congrArg Value.bool ?_,rfl⟩;(first|(refine decide_eq_decide.2 ?_)|(refine (decide_eq_true ?_).symm)|(refine (decide_eq_false ?_).symm));(first|omega|(simp only [iY];omega)));exact iC)|(apply aA rfl rfl (by repeat (first|exact ResOk.nil|(apply ResOk.tmp;rfl)));(refine ⟨congrArg Value.bool (decide_eq_decide.2 ⟨fun h=>⟨by assumption,by assumption,h⟩,fun h=>h.2.2⟩),rfl⟩);exact iC)
theorem b9h {Q P:Prop} (k:Q) (h:Hid Q→P:=by
  intro k
  first
  |(refine aG ?_;refine q9 (id:=6) .false (pl:= .p 0 <| .r 1 <| .r 2 <| .r 3 <| .e true [(4,.p 5 <| .p 6 <| .done)]) k.out)):P:=h ⟨k⟩
theorem c9i {F:List HP} {c:Cfg} {m:Msg} (h:c.homes≠0):FnF Tryz.prog 276 [.agg #[],c.val,mv m] [] F (fun r L'=>r= .bool (decide (a9a c m))∧L'=[]):=by
  have hW:=fun F=>gL (F:=F) (n:=m.src) (k:=c.cores)
  have hV:=fun F=>gL (F:=F) (n:=m.dst) (k:=c.cores)
  have hP:=fun F=>vY (F:=F) (c:=c) (m:={ m with who:=0,own:=0}) (a:=true)
  have hH:=fun F=>a6y (F:=F) (c:=c) (m:={ m with who:=0,own:=0}) h
  simp only [qG,if_true,e6x,true_and] at hW hV hP
  have hh:qY c { m with who:=0,own:=0}=qY c m:=rfl
  simp only [hh] at hH
  refine FnF.mk' Tryz.func276 rfl rfl Tryz.ntmps276 rfl ?_
  repeat' (first|refine go ?_|intro _|refine b9h ?_|refine cM ?_|refine aD @hW ?_|refine aD @hV ?_|refine aD @hP ?_|refine aD @hH ?_|refine mH ?_ ?_|fail)
  all_goals (apply aA rfl rfl bB;(refine ⟨congrArg Value.bool ?_,rfl⟩;(first|(refine decide_eq_decide.2 ?_)|(refine (decide_eq_true ?_).symm)|(refine (decide_eq_false ?_).symm));(first|omega|(simp only [a9a];omega)));exact iC)
end
section
abbrev b2i (p:QP):HP:=Rds 15 (.slice p.2.1 p.1.sends.length p.2.2) p.1.sends.length (aC mc p.1.sends)
def e7l (T e:TypeId) (b:Nat) (room:Int) (l:List QE):HP:=
  Ex fun q:(Option Addr×Nat)×List QP=>[Cells b T [.int .i64 room,.slice q.1.1 q.2.length q.1.2],Own e 17 (.slice q.1.1 q.2.length q.1.2) q.2.length (aC qc q.2),All (q.2.map b2i),Fact (q.2.map (·.1)=l∧(q.2.length:Int)≤room∧room≤16∧∀ p∈q.2,p.1.sends.length≤p.2.2∧p.1.sends.length≤1000)]
section
variable {T e:TypeId} {b:Nat} {room:Int} {l:List QE}
theorem o9 {n:Nat} {p:Option Addr} {c:Nat} {xs:List Value} {ps:List QP} {L M:List HP}
    (h:Ent L (Cells b T [.int .i64 room,.slice p n c]::Own e 17 (.slice p n c) n xs::All (ps.map b2i)::M)) (hl:ps.map (·.1)=l) (hn:n=ps.length) (hx:xs=aC qc ps) (h1:(ps.length:Int)≤room) (h2:room≤16) (h3:∀ p∈ps,p.1.sends.length≤p.2.2∧p.1.sends.length≤1000):Ent L (e7l T e b room l::M):=by
  subst hn hx
  refine Ent.trans h (Ent.trans ?_ (i0 (p:=fun q:(Option Addr×Nat)×List QP=>[Cells b T [.int .i64 room,.slice q.1.1 q.2.length q.1.2],Own e 17 (.slice q.1.1 q.2.length q.1.2) q.2.length (aC qc q.2),All (q.2.map b2i),Fact (q.2.map (·.1)=l∧(q.2.length:Int)≤room∧room≤16∧∀ p∈q.2,p.1.sends.length≤p.2.2∧p.1.sends.length≤1000)]) ((p,c),ps)))
  exact Ent.cons (Ent.cons (Ent.cons (cY ⟨hl,h1,h2,h3⟩)))
theorem c2u {T:TypeId} {sz n c:Nat} {p:Option Addr} {xs:List Value} {L:List HP} {w:World} (h:d3 (Own T sz (.slice p n c) n xs::L) w):n≤c:=by
  rcases (qR h).2.2 with ⟨q,h1,h2⟩|⟨g,cap,cur,h1,_,h3,_⟩
  · omega
  · cases h1;exact h3
theorem c1u {L:List HP} {w:World} (h:d3 (e7l T e b room l::L) w):∃ p c,∃ ps:List QP,(ps.map (·.1)=l∧(ps.length:Int)≤room∧room≤16∧(∀ p∈ps,p.1.sends.length≤p.2.2∧p.1.sends.length≤1000)∧ps.length≤c)∧
    d3 (Cells b T [.int .i64 room,.slice p ps.length c]::Own e 17 (.slice p ps.length c) ps.length (aC qc ps)::All (ps.map b2i)::L) w:=by
  obtain ⟨⟨⟨p,c⟩,ps⟩,hx⟩:=gW h
  simp only [oI] at hx
  have hf:=iW (aR (aR (aR hx)))
  have hx2:d3 (Cells b T [.int .i64 room,.slice p ps.length c]::Own e 17 (.slice p ps.length c) ps.length (aC qc ps)::All (ps.map b2i)::L) w:=(Ent.cons (Ent.cons (Ent.cons (Ent.drop Ent.refl)))) _ hx
  exact ⟨p,c,ps,⟨hf.1,hf.2.1,hf.2.2.1,hf.2.2.2,c2u (nS hx2)⟩,hx2⟩
variable {P:Program} {N:Nat} {env:Env} {L:List HP} {Q:Exit→Act→World→Prop}
theorem wJ {c:Code} (h:∀ p c0,∀ ps:List QP,(ps.map (·.1)=l∧(ps.length:Int)≤room∧room≤16∧(∀ p∈ps,p.1.sends.length≤p.2.2∧p.1.sends.length≤1000)∧ps.length≤c0)→WC P N c env (Cells b T [.int .i64 room,.slice p ps.length c0]::Own e 17 (.slice p ps.length c0) ps.length (aC qc ps)::All (ps.map b2i)::L) Q):WC P N c env (e7l T e b room l::L) Q:=by
  intro a w ha hw
  obtain ⟨p,c0,ps,hf,hx⟩:=c1u hw
  exact h p c0 ps hf a w ha hx
theorem vI {all:Array Oper} {c:List Oper} (h:∀ p c0,∀ ps:List QP,(ps.map (·.1)=l∧(ps.length:Int)≤room∧room≤16∧(∀ p∈ps,p.1.sends.length≤p.2.2∧p.1.sends.length≤1000)∧ps.length≤c0)→WO P N all c env (Cells b T [.int .i64 room,.slice p ps.length c0]::Own e 17 (.slice p ps.length c0) ps.length (aC qc ps)::All (ps.map b2i)::L) Q):WO P N all c env (e7l T e b room l::L) Q:=by
  intro a w ha hw
  obtain ⟨p,c0,ps,hf,hx⟩:=c1u hw
  exact h p c0 ps hf a w ha hx
end
theorem c9j {ps:List QP} {m:Msg} {st:Bool} {a:Option Addr} {c:Nat} {L M:List HP} (h:Ent L (All (ps.map b2i)::M)):Ent L (All ((ps++[((⟨m,st,[]⟩:QE),(a,c))]).map b2i)::M):=
  Ent.trans h (Ent.trans c5a (a0r (f:=b2i) ((⟨m,st,[]⟩:QE),(a,c))))
theorem d7a {ps:List QP} {i:Nat} (hi:i<ps.length) {x:QP} {T:TypeId} {L M:List HP} (h:Ent L (Own T 15 (.slice x.2.1 x.1.sends.length x.2.2) x.1.sends.length (aC mc x.1.sends)::All (ps.map b2i)::M)):Ent L (All ((ps.set i x).map b2i)::M):=
  Ent.trans h (Ent.trans b3p (Ent.trans (Ent.cons (b1h i)) (b3o (f:=b2i) i hi x)))
theorem c2v {ps:List QP} {i:Nat} {L M:List HP} (h:Ent L (All (ps.map b2i)::M)):Ent L (All ((ps.eraseIdx i).map b2i)::M):=Ent.trans h (b1h i)
theorem c9k {ps:List QP} {i:Nat} (hi:i<ps.length) {x:QP} {L M:List HP} (hn:0<ps[i].1.sends.length) (hc:ps[i].1.sends.length≤ps[i].2.2) (h1:x.1.sends=ps[i].1.sends.drop 1)
    (h2:f0p x=cut (f0p ps[i]) 1 ps[i].1.sends.length ps[i].1.sends.length 15) (h:Ent L (All (ps.map b2i)::M)):Ent L (All ((ps.set i x).map b2i)::M):=by
  refine Ent.trans h (Ent.trans (vT (f:=b2i) i hi) (Ent.trans (e1y (l:=1) (h:=ps[i].1.sends.length) (m:=ps[i].1.sends.length) (om) (Nat.le_refl _) (Nat.le_refl _)) (Ent.trans ?_ (b3o (f:=b2i) i hi x))))
  have e1:((aC mc ps[i].1.sends).drop (1*15)).take ((ps[i].1.sends.length-1)*15)=aC mc x.1.sends:=by
    rw [eE (enc:=mc) (n:=15) (fun _=>rfl),iA (enc:=mc) (n:=15) (fun _=>rfl),h1,List.take_of_length_le (by simp)]
  have e2:x.1.sends.length=ps[i].1.sends.length-1:=by rw [h1];simp
  rw [e1]
  unfold b2i
  have h2':Value.slice x.2.1 x.1.sends.length x.2.2=cut (f0p ps[i]) 1 ps[i].1.sends.length ps[i].1.sends.length 15:=h2
  rw [h2',e2]
  exact Ent.refl
theorem e3l {T:TypeId} {p:Option Addr} {c i:Nat} {ps:List QP} (hi:i≤ps.length) (hc:ps.length≤c) (L:List HP):RdL (Own T 17 (.slice p ps.length c) ps.length (aC qc ps)::L) 17 (cut (.slice p ps.length c) 0 i c 17) (ps.take i).length (aC qc (ps.take i)):=by
  have k0:RdL (Own T 17 (.slice p ps.length c) ps.length (aC qc ps)::L) 17 (.slice p ps.length c) ps.length (aC qc ps):=RdL.own
  have k:=RdL.cut (m:=c) k0 (Nat.zero_le i) hi (om)
  have e:((aC qc ps).drop (0*17)).take ((i-0)*17)=aC qc (ps.take i):=by
    rw [Nat.zero_mul,List.drop_zero,Nat.sub_zero,iA (enc:=qc) (n:=17) (fun _=>rfl)]
  rw [e] at k
  have e2:(ps.take i).length=i-0:=by rw [List.length_take];omega
  rw [e2];exact k
theorem c5m {T:TypeId} {sz n c:Nat} {p:Option Addr} {xs:List Value} {N:Nat} {x:Exit} {env:Env} {L:List HP} {Q:Exit→Act→World→Prop} (h:n≤c→WE N x env (Own T sz (.slice p n c) n xs::L) Q):WE N x env (Own T sz (.slice p n c) n xs::L) Q:=
  fun a w ha hw=>h (c2u hw) a w ha hw
theorem c1v {ps:List QP} {p:QP} (hp:p∈ps) {L:List HP}:RdL (All (ps.map b2i)::L) 15 (f0p p) p.1.sends.length (aC mc p.1.sends):=by
  obtain ⟨i,hi,rfl⟩:=List.getElem_of_mem hp
  have k:RdL (b2i ps[i]::All ((ps.eraseIdx i).map b2i)::L) 15 (f0p ps[i]) ps[i].1.sends.length (aC mc ps[i].1.sends):=RdL.rds
  have e:=vT (f:=b2i) (L:=L) i hi
  exact ⟨fun w h=>k.len w (e.sat h),fun w h=>k.ones w (e.sat h),fun w h=>k.pf w (e.sat h)⟩
def xZ (room:Int) (l:List QE) (m:Msg):Int:=if m.kind<1∨m.kind>3 then 1 else if (l.length:Int)=room then 4 else 0
def qZ (room:Int) (l:List QE) (m:Msg):List QE:=if xZ room l m=0 then l++[⟨m,false,[]⟩] else l
def b2d (l:List QE) (n:Int):Bool:=decide (0≤n∧n<l.length)
def a3t (l:List QE) (n:Int):QE:=if b2d l n then l.getD n.toNat ⟨.zero,false,[]⟩ else ⟨.zero,false,[]⟩
def a4k (l:List QE) (n:Nat) (line:Int):Bool:=(l.take n).all fun e=> !decide (e.m.line=line)
def eJ (l:List QE) (n:Int):Bool:=b2d l n&& !(a3t l n).st&& a4k l n.toNat (a3t l n).m.line
def kE (l:List QE) (n:Int) (s:List Msg):Int:=if b2d l n then (if eJ l n&& decide (s.length≠0) then 0 else 7) else 5
def bO (l:List QE) (n:Int) (s:List Msg):List QE:=if kE l n s=0 then l.set n.toNat { a3t l n with st:=true,sends:=s} else l
def lX (l:List QE) (n:Int):Bool:=b2d l n&& decide ((a3t l n).sends.length≠0)
def iL (l:List QE) (n:Int):Msg:=if lX l n then (a3t l n).sends.headD .zero else .zero
def lY (l:List QE) (n:Int):Int:=if b2d l n then (if (a3t l n).sends.length=0 then 7 else 0) else 5
def cS (l:List QE) (n:Int):List QE:=
  if lY l n=0 then (if (a3t l n).sends.length=1∧(a3t l n).m.kind=3 then l.eraseIdx n.toNat else l.set n.toNat { a3t l n with sends:=(a3t l n).sends.drop 1}) else l
def lR (line src:Int) (e:QE):Bool:=e.st&& decide (e.m.line=line)&& decide (e.m.src=src)&& !decide (e.m.kind=3)&& decide (e.sends.length=0)
def a4l (l:List QE) (line src:Int):Int:=if aV (lR line src) l<0 then 7 else 0
def sZ (l:List QE) (line src:Int):List QE:=if aV (lR line src) l<0 then l else l.eraseIdx (aV (lR line src) l).toNat
end
section
def e9m (room:Int) (l:List QE) (x:QOp):List QE:=if x.d=0 then qZ room l x.m else if x.d=1 then bO l x.n x.sends else if x.d=2 then cS l x.n else sZ l x.m.line x.m.src
def a1p (l:List QE):Prop:=(∀ i j (hi:i<l.length) (hj:j<l.length),i<j→l[i].m.line=l[j].m.line→l[j].st=false)∧∀ e∈l,e.st=false→e.sends=[]
theorem c9l:a1p []:=⟨fun i j hi=>by simp at hi,fun e he=>by simp at he⟩
theorem b6p {l:List QE} {m:Msg} (h:a1p l):a1p (l++[⟨m,false,[]⟩]):=by
  refine ⟨fun i j hi hj hij he=>?_,fun e he hs=>?_⟩
  · by_cases hjl:j<l.length
    · have hil:i<l.length:=by omega
      rw [List.getElem_append_left hil,List.getElem_append_left hjl] at he
      rw [List.getElem_append_left hjl]
      exact h.1 i j hil hjl hij he
    · rw [List.getElem_append_right (om)]
      simp
  · rcases List.mem_append.1 he with h1|h1
    · exact h.2 e h1 hs
    · rw [List.mem_singleton.1 h1]
theorem p3 {l:List QE} {k i:Nat} (hi:i<(l.eraseIdx k).length):∃ h:(if i<k then i else i+1)<l.length,(l.eraseIdx k)[i]=l[if i<k then i else i+1]:=by
  have hlen:=List.length_eraseIdx (l:=l) (i:=k)
  refine ⟨?_,?_⟩
  · split at hlen<;>split<;>omega
  · rw [List.getElem_eraseIdx];split<;>rename_i h<;>simp [h]
theorem x0 {l:List QE} {k:Nat} (h:a1p l):a1p (l.eraseIdx k):=by
  refine ⟨fun i j hi hj hij he=>?_,fun e he hs=>h.2 e (List.mem_of_mem_eraseIdx he) hs⟩
  obtain ⟨a,ea⟩:=p3 hi
  obtain ⟨b,eb⟩:=p3 hj
  rw [ea,eb] at he
  rw [eb]
  refine h.1 _ _ a b ?_ he
  split<;>split<;>omega
theorem b6q {l:List QE} {k:Nat} {e:QE} (hk:k<l.length) (h:a1p l) (hm:e.m=l[k].m) (hs:e.st=true) (hf:∀ i (hi:i<l.length),i<k→l[i].m.line≠l[k].m.line)
    (ho:∀ j (hj:j<l.length),k<j→l[j].m.line=l[k].m.line→l[j].st=false):a1p (l.set k e):=by
  have hmm:∀ i (hi:i<(l.set k e).length),(l.set k e)[i].m=(l[i]'(by simpa using hi)).m:=by
    intro i hi
    rw [List.getElem_set];split
    · rename_i h;subst h;exact hm
    · rfl
  refine ⟨fun i j hi hj hij he=>?_,fun x hx hxs=>?_⟩
  · have hi':i<l.length:=by simpa using hi
    have hj':j<l.length:=by simpa using hj
    rw [hmm i hi,hmm j hj] at he
    rw [List.getElem_set]
    split
    · rename_i hkj;subst hkj
      exact absurd he (hf i hi' hij)
    · exact h.1 i j hi' hj' hij he
  · rcases List.mem_or_eq_of_mem_set hx with h1|h1
    · exact h.2 x h1 hxs
    · subst h1;rw [hs] at hxs;cases hxs
theorem a4m {l:List QE} {n:Int} (h:b2d l n=true):∃ i:Nat,∃ hi:i<l.length,n=i∧a3t l n=l[i]:=by
  have h0:=of_decide_eq_true h
  refine ⟨n.toNat,om,om,?_⟩
  have hi:n.toNat<l.length:=by omega
  simp [a3t,h,hi]
theorem zM {l:List QE} {n:Int} (h:eJ l n=true):∃ i:Nat,∃ hi:i<l.length,n=i∧a3t l n=l[i]∧l[i].st=false∧∀ j (hj:j<l.length),j<i→l[j].m.line≠l[i].m.line:=by
  simp only [eJ,Bool.and_eq_true,Bool.not_eq_true'] at h
  obtain ⟨⟨h1,h2⟩,h3⟩:=h
  obtain ⟨i,hi,rfl,e⟩:=a4m h1
  rw [e] at h2 h3
  refine ⟨i,hi,rfl,e,h2,fun j hj hji=>?_⟩
  simp only [a4k,Int.toNat_natCast,List.all_eq_true] at h3
  have:=h3 l[j] (by rw [List.mem_iff_getElem];exact ⟨j,by simp;omega,by simp⟩)
  simpa using this
theorem c2w {room:Int} {l:List QE} {x:QOp} (h:a1p l):a1p (e9m room l x):=by
  unfold e9m
  split
  · unfold qZ;split
    · exact b6p h
    · exact h
  · split
    · unfold bO;split
      · rename_i hs
        unfold kE at hs
        split at hs
        · split at hs
          · rename_i hr
            obtain ⟨hr,_⟩:=Bool.and_eq_true_iff.1 hr
            obtain ⟨i,hi,e1,e2,e3,e4⟩:=zM hr
            rw [e2,e1,Int.toNat_natCast]
            exact b6q hi h rfl rfl e4 fun j hj hij he=>h.1 i j hi hj hij he.symm
          · cases hs
        · cases hs
      · exact h
    · split
      · unfold cS;split
        · rename_i hs
          unfold lY at hs
          split at hs
          · rename_i hin
            obtain ⟨i,hi,e1,e2⟩:=a4m hin
            split at hs
            · cases hs
            · rename_i hn
              rw [e2] at hn ⊢
              split
              · exact x0 h
              · rw [e1,Int.toNat_natCast]
                have hst:l[i].st=true:=by
                  cases hc:l[i].st with
                  |true=>rfl
                  |false=>exact absurd (by rw [h.2 _ (List.getElem_mem hi) hc];rfl) hn
                refine b6q hi h rfl hst (fun j hj hji he=>?_) fun j hj hij he=>h.1 i j hi hj hij he.symm
                have:=h.1 j i hj hi hji he
                rw [hst] at this;cases this
          · cases hs
        · exact h
      · unfold sZ;split
        · exact h
        · exact x0 h
end
section
instance:MapT Tryz.prog 126 e2h false:=⟨_,_,_,_,_,Tryz.underlying126,Tryz.underlying3,TZ.pf⟩
abbrev Op3.zero:Op3:=⟨0,0,0⟩
def jE (b:Nat) (l:List Op3) (rs:List Int) (tr:List (Int×Bool)):HP:=
  Ex fun q:(Option Addr×Nat)×(Option Addr×Nat)×Nat=>[Cells b 146 [.slice q.1.1 l.length q.1.2,.slice q.2.1.1 rs.length q.2.1.2,.map (some q.2.2)],Own 58 3 (.slice q.1.1 l.length q.1.2) l.length (aC oc l),Own 3 1 (.slice q.2.1.1 rs.length q.2.1.2) rs.length (aC ic rs),MapAt q.2.2 e2h tr,Fact (rs.length≤l.length∧l.length≤64)]
theorem mD {b n1 n2 bm:Nat} {l:List Op3} {rs:List Int} {tr:List (Int×Bool)} {p1 p2:Option Addr} {c1 c2:Nat} {xs ys:List Value} {L M:List HP}
    (h:Ent L (Cells b 146 [.slice p1 n1 c1,.slice p2 n2 c2,.map (some bm)]::Own 58 3 (.slice p1 n1 c1) n1 xs::Own 3 1 (.slice p2 n2 c2) n2 ys::MapAt bm e2h tr::M)) (hn1:n1=l.length) (hn2:n2=rs.length) (hx:xs=aC oc l) (hy:ys=aC ic rs) (hl:rs.length≤l.length∧l.length≤64):Ent L (jE b l rs tr::M):=by
  subst hn1 hn2 hx hy
  refine Ent.trans h (Ent.trans ?_ (i0 (p:=fun q:(Option Addr×Nat)×(Option Addr×Nat)×Nat=>[Cells b 146 [.slice q.1.1 l.length q.1.2,.slice q.2.1.1 rs.length q.2.1.2,.map (some q.2.2)],Own 58 3 (.slice q.1.1 l.length q.1.2) l.length (aC oc l),Own 3 1 (.slice q.2.1.1 rs.length q.2.1.2) rs.length (aC ic rs),MapAt q.2.2 e2h tr,Fact (rs.length≤l.length∧l.length≤64)]) ((p1,c1),(p2,c2),bm)))
  exact Ent.cons (Ent.cons (Ent.cons (Ent.cons (cY hl))))
theorem b6r {b:Nat} {l:List Op3} {rs:List Int} {tr:List (Int×Bool)} {L:List HP} {w:World} (h:d3 (jE b l rs tr::L) w):(rs.length≤l.length∧l.length≤64)∧
    ∃ p1 c1 p2 c2 bm,d3 (Cells b 146 [.slice p1 l.length c1,.slice p2 rs.length c2,.map (some bm)]::Own 58 3 (.slice p1 l.length c1) l.length (aC oc l)::Own 3 1 (.slice p2 rs.length c2) rs.length (aC ic rs)::MapAt bm e2h tr::L) w:=by
  obtain ⟨⟨⟨p1,c1⟩,⟨p2,c2⟩,bm⟩,hx⟩:=gW h
  simp only [oI] at hx
  have hf:=iW (aR (aR (aR (aR hx))))
  exact ⟨hf,p1,c1,p2,c2,bm,(Ent.cons (Ent.cons (Ent.cons (Ent.cons (Ent.drop Ent.refl))))) _ hx⟩
theorem rA {b:Nat} {l:List Op3} {rs:List Int} {tr:List (Int×Bool)} {P:Program} {N:Nat} {c:Code} {env:Env} {L:List HP} {Q:Exit→Act→World→Prop}
    (h:∀ p1 c1 p2 c2 bm,(rs.length≤l.length∧l.length≤64)→WC P N c env (Cells b 146 [.slice p1 l.length c1,.slice p2 rs.length c2,.map (some bm)]::Own 58 3 (.slice p1 l.length c1) l.length (aC oc l)::Own 3 1 (.slice p2 rs.length c2) rs.length (aC ic rs)::MapAt bm e2h tr::L) Q):WC P N c env (jE b l rs tr::L) Q:=by
  intro a w ha hw
  obtain ⟨hf,p1,c1,p2,c2,bm,hx⟩:=b6r hw
  exact h p1 c1 p2 c2 bm hf a w ha hx
theorem a4n {b:Nat} {l:List Op3} {rs:List Int} {tr:List (Int×Bool)} {P:Program} {N:Nat} {all:Array Oper} {c:List Oper} {env:Env} {L:List HP} {Q:Exit→Act→World→Prop}
    (h:∀ p1 c1 p2 c2 bm,(rs.length≤l.length∧l.length≤64)→WO P N all c env (Cells b 146 [.slice p1 l.length c1,.slice p2 rs.length c2,.map (some bm)]::Own 58 3 (.slice p1 l.length c1) l.length (aC oc l)::Own 3 1 (.slice p2 rs.length c2) rs.length (aC ic rs)::MapAt bm e2h tr::L) Q):WO P N all c env (jE b l rs tr::L) Q:=by
  intro a w ha hw
  obtain ⟨hf,p1,c1,p2,c2,bm,hx⟩:=b6r hw
  exact h p1 c1 p2 c2 bm hf a w ha hx
attribute [local irreducible] Exit.then Exit.inBlock Code.wp WC WO WE WQ V bF tV d3 bW dF uH IntKind.wrap WR Code.rounds WT KO
theorem b6s {c:Cfg} {l:List Op3} (h:kS c l=true):l.length≤64:=by simp [kS] at h;omega
theorem b6t {F:List HP} {c:Cfg} (hc:c.wf) {l:List Op3} {v:Value} (k:RdL F 3 v l.length (aC oc l)) (hn:l.length≤1099511627776) (h:kS c l=true) :
    FnF Tryz.prog 46 [c.val,v] [] F (fun r L'=>∃ b,r= .tuple [.pointer (some ⟨b,0,none⟩),.int .i64 0].toArray∧L'=[jE b l [] []]):=by
  have hP:=fun F k=>y8 (F:=F) (c:=c) hc (l:=l) (v:=v) k hn
  simp only [h] at hP
  have hl:=b6s h
  refine FnF.mk' Tryz.func46 rfl rfl Tryz.ntmps46 rfl ?_
  repeat first|refine gd ?_|intro _|refine aD @hP ?_|refine aD @b5r ?_
  (apply aA rfl rfl bB)
  · exact ⟨_,rfl,rfl⟩
  · apply mD (rs:=[]) (p2:=none) (c2:=0) (n2:=0) (ys:=[])
    · refine Ent.trans (aM (e:=3) (sz:=1) (p:=none) Ent.refl) ?_
      (focus (exact aB;done))
    · rfl
    · rfl
    · rfl
    · rfl
    · exact ⟨Nat.zero_le _,hl⟩
theorem b4z {F:List HP} {c:Cfg} (hc:c.wf) {l:List Op3} {v:Value} (k:RdL F 3 v l.length (aC oc l)) (hn:l.length≤1099511627776) (h:kS c l=false) :
    FnF Tryz.prog 46 [c.val,v] [] F (fun r L'=>r= .tuple [.pointer none,.int .i64 1].toArray∧L'=[]):=by
  have hP:=fun F k=>y8 (F:=F) (c:=c) hc (l:=l) (v:=v) k hn
  simp only [h] at hP
  refine FnF.mk' Tryz.func46 rfl rfl Tryz.ntmps46 rfl ?_
  repeat first|refine gd ?_|intro _|refine aD @hP ?_
  exact aU
theorem a0x {F:List HP} {b:Nat} {l:List Op3} {rs:List Int} {tr:List (Int×Bool)}:FnF Tryz.prog 61 [.pointer (some ⟨b,0,none⟩)] [jE b l rs tr] F (fun r L'=>r= .int .i64 ((l.length:Int)-rs.length)∧L'=[jE b l rs tr]):=by
  refine FnF.mk' Tryz.func61 rfl rfl Tryz.ntmps61 rfl ?_
  refine rA fun p1 c1 p2 c2 bm hl=>?_
  repeat first|refine gd ?_|intro _
  (apply aA rfl rfl bB)
  · exact ⟨rfl,rfl⟩
  · (apply mD;(focus (exact aB));all_goals exact mG)
def uJ (l:List Op3) (rs:List Int):Bool:= !decide (rs.length=l.length)
def x6 (l:List Op3) (rs:List Int):Op3:=l.getD rs.length .zero
theorem a1q {Q P:Prop} (k:Q) (h:Hid Q→P:=by
  intro k
  first
  |(refine aG ?_;refine q9 (id:=3) .true (pl:= .p 0 <| .p 1 <| .p 2 <| .p 4 <| .p 5 <| .p 6 <| .r 3 <| .r 7 <| .p 8 <| .p 9 <| .r 10 <| .e true [(11,.p 12 <| .done)]) k.out)):P:=h ⟨k⟩
theorem a9m {F:List HP} {b:Nat} {l:List Op3} {rs:List Int} {tr:List (Int×Bool)}:FnF Tryz.prog 104 [.pointer (some ⟨b,0,none⟩)] [jE b l rs tr] F (fun r L'=>r= .tuple [ov (x6 l rs),.bool (uJ l rs)].toArray∧L'=[jE b l rs tr]):=by
  refine FnF.mk' Tryz.func104 rfl rfl Tryz.ntmps104 rfl ?_
  by_cases h:rs.length=l.length
  · have h0:(l.length:Int)-rs.length=0:=by omega
    repeat first|refine go ?_|intro _|refine a1q ?_|refine cM ?_|refine aD @a0x ?_
    (apply aA rfl rfl bB)
    · exact ⟨by simp [x6,uJ,h],rfl⟩
    · exact aB
  · have h0:¬(l.length:Int)-rs.length=0:=by omega
    repeat first|refine go ?_|intro _|refine aD @a0x ?_
    (first|refine aW (jE b l rs tr) ?_|refine aX (jE b l rs tr) ?_|refine aY (jE b l rs tr) ?_)
    refine rA fun p1 c1 p2 c2 bm hl=>?_
    have hlt:rs.length<l.length:=by omega
    (first|(refine eN (.slice p1 l.length c1) inferInstance (om) ?_;intro _)|(refine eQ (.slice p1 l.length c1) inferInstance (om) ?_;intro _))
    repeat first|refine go ?_|intro _|refine a1q ?_|refine cM ?_
    (apply aA rfl rfl bB)
    · exact ⟨by simp [x6,uJ,h,hlt],rfl⟩
    · exact xW @mD
theorem b5a {F:List HP} {b:Nat} {l:List Op3} {rs:List Int} {tr:List (Int×Bool)} {n:Int} (h:¬rs.length=l.length):FnF Tryz.prog 157 [.pointer (some ⟨b,0,none⟩),.int .i64 n] [jE b l rs tr] F
    (fun r L'=>r= .tuple [.int .i64 rs.length,.int .i64 0].toArray∧L'=[jE b l (rs++[n]) (b2o tr rs.length)]):=by
  refine FnF.mk' Tryz.func157 rfl rfl Tryz.ntmps157 rfl ?_
  have h0:¬(l.length:Int)-rs.length=0:=by omega
  repeat first|refine go ?_|intro _|refine aD @a0x ?_
  (first|refine aW (jE b l rs tr) ?_|refine aX (jE b l rs tr) ?_|refine aY (jE b l rs tr) ?_)
  first|refine rA fun p1 c1 p2 c2 bm hl=>?_|refine a4n fun p1 c1 p2 c2 bm hl=>?_
  repeat first|refine gd ?_|intro _
  (apply aA rfl rfl bB)
  · exact ⟨rfl,rfl⟩
  · exact xW @mD
def pA (l:List Op3) (rs:List Int) (d:Int):Bool:=decide (1≤d∧d≤4∧(rs.length:Int)+d<l.length)&& !decide ((l.getD ((rs.length:Int)+d).toNat .zero).kind=4)
def iM (l:List Op3) (rs:List Int) (tr:List (Int×Bool)) (d:Int):Bool:=pA l rs d&& !(fQ tr ((rs.length:Int)+d)).getD false
def qH (l:List Op3) (rs:List Int) (tr:List (Int×Bool)) (d:Int):Op3:=if iM l rs tr d then l.getD ((rs.length:Int)+d).toNat .zero else .zero
theorem a4o {F:List HP} {b:Nat} {l:List Op3} {rs:List Int} {tr:List (Int×Bool)} {d:Int}:FnF Tryz.prog 114 [.pointer (some ⟨b,0,none⟩),.int .i64 d] [jE b l rs tr] F
    (fun r L'=>r= .tuple [ov (qH l rs tr d),.bool (iM l rs tr d)].toArray∧L'=[jE b l rs tr]):=by
  refine FnF.mk' Tryz.func114 rfl rfl Tryz.ntmps114 rfl ?_
  refine rA fun p1 c1 p2 c2 bm hl=>?_
  by_cases h1:d<1
  · have e:iM l rs tr d=false:=by simp [iM,pA];omega
    repeat first|refine gd ?_|intro _
    (apply aA rfl rfl bB)
    · exact ⟨by simp [qH,e],rfl⟩
    · exact xW @mD
  · by_cases h2:4<d
    · have e:iM l rs tr d=false:=by simp [iM,pA];omega
      repeat first|refine gd ?_|intro _
      (apply aA rfl rfl bB)
      · exact ⟨by simp [qH,e],rfl⟩
      · exact xW @mD
    · by_cases h3:(l.length:Int)≤(rs.length:Int)+d
      · have e:iM l rs tr d=false:=by simp [iM,pA];omega
        repeat first|refine gd ?_|intro _
        (apply aA rfl rfl bB)
        · exact ⟨by simp [qH,e],rfl⟩
        · exact xW @mD
      · have hlt:((rs.length:Int)+d).toNat<l.length:=by omega
        have hg:l.getD ((rs.length:Int)+d).toNat .zero=l[((rs.length:Int)+d).toNat]:=by simp [hlt]
        by_cases h4:l[((rs.length:Int)+d).toNat].kind=4
        · have e:iM l rs tr d=false:=by simp only [iM,pA,hg,h4];simp
          repeat first|refine gd ?_|intro _
          (apply aA rfl rfl bB)
          · exact ⟨by simp [qH,e],rfl⟩
          · exact xW @mD
        · have hI:pA l rs d=true:=by simp only [pA,hg,h4];simp;omega
          cases ht:(fQ tr ((rs.length:Int)+d)).getD false with
          |true=>
           have e:iM l rs tr d=false:=by simp [iM,ht]
           repeat first|refine gd ?_|intro _
           (apply aA rfl rfl bB)
           · exact ⟨by simp [qH,e],rfl⟩
           · exact xW @mD
          |false=>
           have e:iM l rs tr d=true:=by simp [iM,ht,hI]
           repeat first|refine gd ?_|intro _
           (apply aA rfl rfl bB)
           · exact ⟨by simp only [qH,e,if_true,hg];rfl,rfl⟩
           · exact xW @mD
theorem b5b {Q P:Prop} (k:Q) (h:Hid Q→P:=by
  intro k
  first
  |(refine aG ?_;refine q9 (id:=4) .true (pl:= .p 0 <| .p 1 <| .p 2 <| .p 4 <| .p 5 <| .p 6 <| .p 9 <| .r 3 <| .r 7 <| .p 8 <| .p 10 <| .e true [(11,.done)]) k.out)):P:=h ⟨k⟩
theorem c9m {F:List HP} {b:Nat} {l:List Op3} {rs:List Int} {tr:List (Int×Bool)} {d:Int} (h:iM l rs tr d=true):FnF Tryz.prog 115 [.pointer (some ⟨b,0,none⟩),.int .i64 d] [jE b l rs tr] F
    (fun r L'=>r= .int .i64 0∧L'=[jE b l rs (kC tr ((rs.length:Int)+d) true)]):=by
  have hA:=fun F=>a4o (F:=F) (b:=b) (l:=l) (rs:=rs) (tr:=tr) (d:=d)
  simp only [h] at hA
  have hI:1≤d∧d≤4∧(rs.length:Int)+d<l.length:=by simp [iM,pA] at h;omega
  refine FnF.mk' Tryz.func115 rfl rfl Tryz.ntmps115 rfl ?_
  repeat first|refine go ?_|intro _|refine aD @hA ?_
  (first|refine aW (jE b l rs tr) ?_|refine aX (jE b l rs tr) ?_|refine aY (jE b l rs tr) ?_)
  first|refine rA fun p1 c1 p2 c2 bm hl=>?_|refine a4n fun p1 c1 p2 c2 bm hl=>?_
  repeat first|refine go ?_|intro _|refine b5b ?_|refine cM ?_
  (apply aA rfl rfl bB)
  · exact ⟨rfl,rfl⟩
  · exact xW @mD
end
section
open Go
inductive AllIn:Fence→Prop
  |wide:AllIn Fence.wide
  |round (l:Nat):AllIn (Fence.wide.inRound l)
theorem AllIn.fn {F:Fence} (h:AllIn F) (f:FuncId):F.fn f:=by cases h<;>trivial
theorem AllIn.depth {F:Fence} (h:AllIn F):F.depth=none:=by cases h<;>rfl
theorem AllIn.calls {F:Fence} (h:AllIn F) {n:Nat} {P:Program} {f:FuncId} {args:Array Value} {w:World} {R:Ending→World→Prop} (k:Calls P f args w R):CallsIn F n P f args w R:=by
  cases h
  · exact callsIn_wide.2 k
  · exact (callsIn_wide (n:=n)).2 k
theorem AllIn.rows {F:Fence} (h:AllIn F) {n:Nat} {P:Program} {r:String} {args:Array Value} {w:World} {R:Value→World→Prop} (k:Rows P r args w R):RowsIn F n P r args w R:=by
  cases h
  · exact fun c cs _=>let ⟨v,w',hR,hs⟩:=k c cs;⟨v,w',hR,stepsIn_wide.2 hs⟩
  · exact fun c cs _=>let ⟨v,w',hR,hs⟩:=k c cs;⟨v,w',hR,stepsIn_wide.2 hs⟩
abbrev a3m (a:Act):Act:={ a with defers:=[]}
section
variable (F:Fence) (P:Program) (N:Nat) (ds:List Deferred)
def WM (c:Code) (env:Env) (L:List HP) (Q:Exit→Act→World→Prop):Prop:=∀ a w,EnvOk N env (a3m a)→a.defers=ds→d3 L w→c.wpIn F 0 P Q a w
def c8s (e:Exit) (env:Env) (L:List HP) (Q:Exit→Act→World→Prop):Prop:=∀ a w,EnvOk N env (a3m a)→a.defers=ds→d3 L w→Q e a w
def e3m (all:Array Oper) (todo:List Oper) (env:Env) (L:List HP) (Q:Exit→Act→World→Prop):Prop:=∀ a w,EnvOk N env (a3m a)→a.defers=ds→d3 L w→wpListIn F 0 P all Q todo a w
end
section
variable {F:Fence} {P:Program} {N:Nat} {ds:List Deferred} {env:Env} {L:List HP} {Q:Exit→Act→World→Prop}
theorem d4f {x y:Code} (h:WM F P N ds x env L (Exit.then (y.wpIn F 0 P Q) Q)):WM F P N ds (.seq x y) env L Q:=fun a w ha hd hw=>wpIn_seq (h a w ha hd hw)
theorem c2x (h:c8s N ds .normal env L Q):WM F P N ds .skip env L Q:=fun a w ha hd hw=>wpIn_skip (h a w ha hd hw)
theorem d4g (h:c8s N ds .ret env L Q):WM F P N ds .ret env L Q:=fun a w ha hd hw=>wpIn_ret (h a w ha hd hw)
theorem b6u {id:Nat} {c:Code} (h:WM F P N ds c env L (Exit.inBlock id Q)):WM F P N ds (.block id c) env L Q:=fun a w ha hd hw=>wpIn_block (h a w ha hd hw)
theorem a9n {id:Nat} {ops:List Oper} (h:e3m F P N ds ops.toArray ops env L Q):WM F P N ds (.region id ops.toArray false) env L Q:=fun a w ha hd hw=>wpIn_region_lit (h a w ha hd hw)
theorem rB (a:Act) (x:Operand):(a3m a).eval x=a.eval x:=by cases x<;>rfl
theorem d7b {c:Operand} {x y:Code} {t:Bool} (hc:ev env c=some (.bool t)) (h1:t=true→WM F P N ds x env L Q) (h2:t=false→WM F P N ds y env L Q):WM F P N ds (.cond c x y) env L Q:=by
  intro a w ha hd hw
  have e:a.eval c= .bool t:=by rw [←rB];exact ha.ev hc
  refine wpIn_cond e ?_
  cases t
  · exact h2 rfl a w ha hd hw
  · exact h1 rfl a w ha hd hw
theorem b6v {y:Code} {Q':Exit→Act→World→Prop} (h:WM F P N ds y env L Q):c8s N ds .normal env L (Exit.then (y.wpIn F 0 P Q) Q'):=h
theorem a1r {y:Code} {Q':Exit→Act→World→Prop} (h:WM Fence.wide P N ds y env L Q):c8s N ds .normal env L (Exit.then (y.wp P Q) Q'):=fun a w ha hd hw=>wpIn_wide.1 (h a w ha hd hw)
theorem yW {K:Act→World→Prop} (h:c8s N ds .ret env L Q):c8s N ds .ret env L (Exit.then K Q):=h
theorem a9o {id:Nat} (h:c8s N ds .normal env L Q):c8s N ds .normal env L (Exit.inBlock id Q):=h
theorem wK {id:Nat} (h:c8s N ds .ret env L Q):c8s N ds .ret env L (Exit.inBlock id Q):=h
theorem qQ {all:Array Oper} (h:c8s N ds .normal env L Q):e3m F P N ds all [] env L Q:=h
theorem e3n {c:Code} {M:List HP} (e:Ent L M) (h:WM F P N ds c env M Q):WM F P N ds c env L Q:=fun a w ha hd hw=>h a w ha hd (e.sat hw)
theorem b2j {c:Exit} {M:List HP} (e:Ent L M) (h:c8s N ds c env M Q):c8s N ds c env L Q:=fun a w ha hd hw=>h a w ha hd (e.sat hw)
theorem wL {all:Array Oper} {o:List Oper} {M:List HP} (e:Ent L M) (h:e3m F P N ds all o env M Q):e3m F P N ds all o env L Q:=fun a w ha hd hw=>h a w ha hd (e.sat hw)
theorem e7v {c:Code} {α:Sort _} {p:α→List HP} (h:∀ x,WM F P N ds c env (oI (p x) L) Q):WM F P N ds c env (Ex p::L) Q:=fun a w ha hd hw=>by
  obtain ⟨x,hx⟩:=gW hw
  exact h x a w ha hd hx
theorem e3o {c:Exit} {α:Sort _} {p:α→List HP} (h:∀ x,c8s N ds c env (oI (p x) L) Q):c8s N ds c env (Ex p::L) Q:=fun a w ha hd hw=>by
  obtain ⟨x,hx⟩:=gW hw
  exact h x a w ha hd hx
theorem b9i {c:Exit} {M:List HP} (e:Ent L (Fact False::M)):c8s N ds c env L Q:=fun a w ha hd hw=>(iW (e.sat hw)).elim
theorem a1s {r:Option Nat} {ρ:Operand→Value} {o:Oper} (h:∀ c,o.op≠ .defer c):Oper.semAt r ρ o=execOp ρ o:=by
  cases r with
  |none=>exact Oper.semAt_none ρ o
  |some l=>exact Oper.semAt_some l ρ o h
theorem c8l {op:Op} {ty:TypeId} {pos:String} {aft:Array Edge} {d:Nat} {all:Array Oper} {rest:List Oper} {v:Value} (hF:AllIn F)
    (h:V P N op ty env L v) (hd:Nat.blt d N=true) (hop:∀ c,op≠ .defer c) (k:e3m F P N ds all rest ((d,v)::env) L Q):e3m F P N ds all (⟨some d,op,ty,pos,aft,none⟩::rest) env L Q:=by
  intro a w ha hds hw
  have h1:=h (a3m a) w ha hw
  have e:(a3m a).eval=a.eval:=funext (rB a)
  rw [e] at h1
  simp only [wpListIn,Region.wanted,if_true,Oper.wpIn]
  refine ⟨fun f _=>hF.fn f,?_⟩
  rw [a1s hop,bE,h1,Oper.uponIn_value]
  exact k _ w (ha.put hd v) hds hw
theorem e2m {o:Oper} {all:Array Oper} {rest:List Oper} {post:Env→List HP→Prop} (hF:AllIn F) (hg:o.guard=none) (hop:∀ c,o.op≠ .defer c) (h:KO P N o env L post)
    (next:∀ e' L',post e' L'→e3m F P N ds all rest e' L' Q):e3m F P N ds all (o::rest) env L Q:=by
  intro a w ha hds hw
  have h1:=h (a3m a) w ha hw (fun a' w'=>∃ e' L',post e' L'∧EnvOk N e' a'∧d3 L' w') (fun _ _ _=>False) (fun e' L' a' w' hp ha' hw'=>⟨e',L',hp,ha',hw'⟩)
  have e:(a3m a).eval=a.eval:=funext (rB a)
  simp only [wpListIn,Region.wanted,hg,if_true,Oper.wpIn]
  refine ⟨fun f _=>hF.fn f,?_⟩
  rw [a1s hop]
  unfold Oper.wp at h1
  rw [e] at h1
  have fin:∀ v w',(∃ e' L',post e' L'∧EnvOk N e' ((a3m a).put o.dst v)∧d3 L' w')→wpListIn F 0 P all Q rest (a.put o.dst v) w':=by
    rintro v w' ⟨e',L',hp,ha',hw'⟩
    refine next e' L' hp _ w' ?_ ?_ hw'
    · have:a3m (a.put o.dst v)=(a3m a).put o.dst v:=by cases o.dst<;>rfl
      rw [this];exact ha'
    · have:(a.put o.dst v).defers=a.defers:=by cases o.dst<;>rfl
      rw [this];exact hds
  generalize (execOp a.eval o).run P w=r at h1 ⊢
  cases r with
  |ok n w'=>
   cases n<;>simp only [Oper.upon] at h1
   case value=>exact fin _ _ h1
   case skip=>exact fin _ _ h1
   case defer d=>
     obtain ⟨e',L',_,ha',_⟩:=h1
     have:=ha'.defers
     cases hd:o.dst<;>simp [Act.put,hd] at this
   case enter=>
     refine ⟨(fun hh=>by rw [hF.depth] at hh;cases hh),hF.calls (h1.mono fun e2 w2 hR=>?_)⟩
     cases e2 with
     |returned v=>exact fin _ _ hR
     |panicked c=>exact hR.elim
     |outgrown=>obtain ⟨_,_,hh⟩:=hR;exact hh.elim
   case row=>exact ⟨(fun hh=>by rw [hF.depth] at hh;cases hh),hF.rows (h1.mono fun v w2 hR=>fin _ _ hR)⟩
  |halt x w'=>cases x<;>simp only [Oper.upon] at h1
end
abbrev b3x (D:Nat):Deferred:={ target:= .collected D,args:= #[]}
theorem kU {b:Nat} {o o':Obj} {L:List HP} {w:World} (h:d3 (ObjAt b o::L) w):d3 (ObjAt b o'::L) (w.putObj b o'):=by
  have hb:=qV h
  have hlt:b<w.heap.size:=(Array.getElem?_eq_some_iff.1 hb).1
  exact qW (b:=b) (o:=o') (ObjAt b o') (fun h hp=>⟨_,hp.pf⟩) (fun h e=>⟨e⟩) (World.putObj_heap_same hlt) (fun k hk=>World.putObj_heap_other hk) rfl rfl rfl h
def c1w (P:Program) (l:Nat) (v:Value) (A B C:List HP):Prop:=
  ∀ F w,d3 (oI A F) w→YieldAt Fence.wide 0 P l #[v] w (fun e w'=>(e= .returned (.bool true)∧d3 (oI B F) w')∨(e= .returned (.bool false)∧d3 (oI C F) w'))
theorem c2y {A B F:List HP} (h:Ent A B):Ent (oI A F) (oI B F):=fun x hx=>by
  rw [a3d] at hx ⊢
  obtain ⟨S,T,d,h1,h2⟩:=mR hx
  exact jB d (h _ h1) h2
def Seq (P:Program) (gf:FuncId) (cap:List Value) (pre:List HP) (xs:List Value):Prop:=
  ∀ (l:Nat) (A:Nat→List HP) (C:List HP),(∀ i (h:i<xs.length),c1w P l xs[i] (oI pre (A i)) (oI pre (A (i+1))) C)→
    ∀ w,d3 (oI pre (A 0)) w→Calls P gf (.func (.yield l) #[] #[]::cap).toArray w (fun e w'=>(∃ v,e= .returned v)∧(d3 (oI pre (A xs.length)) w'∨(0<xs.length∧d3 C w')))
theorem rC {x:HP}:∀ {pre L:List HP},Ent (oI pre (x::L)) (x::oI pre L)
  | [],_=>Ent.refl
  |_::r,_=>Ent.trans (Ent.cons (rC (pre:=r))) (fun _ h=>gE h)
theorem vJ {x:HP}:∀ {pre L:List HP},Ent (x::oI pre L) (oI pre (x::L))
  | [],_=>Ent.refl
  |_::r,_=>Ent.trans (fun _ h=>gE h) (Ent.cons (vJ (pre:=r)))
theorem l6 {A B:List HP}:Ent (oI A B) (oI B A):=fun x hx=>by
  rw [a3d] at hx ⊢
  obtain ⟨S,T,d,h1,h2⟩:=mR hx
  exact jB (fun b a c=>d b c a) h2 h1
section
variable {P:Program} {N:Nat} {env:Env} {L:List HP} {Q:Exit→Act→World→Prop}
theorem a0y {a:Act} (h:a.defers=[]):a3m a=a:=by cases a;simp at h;subst h;rfl
theorem a0z {f x:Operand} {ats:Array TypeId} {l:Nat} {v:Value} {A B C F:List HP} {ty:TypeId} {pos:String} {aft:Array Edge} {d:Nat} {all:Array Oper} {rest:List Oper}
    (hf:ev env f=some (.func (.yield l) #[] #[])) (hx:ev env x=some v) (hd:Nat.blt d N=true) (hy:c1w P l v A B C) (he:Ent L (oI A F))
    (k1:e3m Fence.wide P N [] all rest ((d,.bool true)::env) (oI B F) Q) (k2:e3m Fence.wide P N [] all rest ((d,.bool false)::env) (oI C F) Q) :
    e3m Fence.wide P N [] all (⟨some d,.call ⟨.value f, #[x],ats⟩,ty,pos,aft,none⟩::rest) env L Q:=by
  intro a w hA hds hw
  have e1:a.eval f= .func (.yield l) #[] #[]:=by rw [←rB];exact hA.ev hf
  have e2:a.eval x=v:=by rw [←rB];exact hA.ev hx
  obtain ⟨fn,tmps,assign,body,hy1,hy2⟩:=hy F w (he.sat hw)
  simp only [wpListIn,Region.wanted,if_true,Oper.wpIn]
  refine ⟨fun _ _=>trivial,?_⟩
  rw [Fence.wide_round,Oper.semAt_none]
  have hx:(execOp a.eval ⟨some d,.call ⟨.value f, #[x],ats⟩,ty,pos,aft,none⟩).run P w= .ok (.round l fn tmps assign body) w:=by
    simp only [execOp,resolve,Sem.run_bind,Deferred.ofValue,e1,Sem.run_pure,Result.andThen_ok,invoke]
    rw [←hy1]
    congr 2
    simp [e2]
  rw [hx,Oper.uponIn_round]
  refine ⟨(fun hh=>by cases hh),hy2.mono fun e w' hR=>?_⟩
  rcases hR with ⟨rfl,h⟩|⟨rfl,h⟩
  · exact k1 _ w' (hA.put hd _) hds h
  · exact k2 _ w' (hA.put hd _) hds h
theorem x7 {id:Nat} {ops:List Oper} (h:e3m Fence.wide P N [] ops.toArray ops env L Q):WC P N (.region id ops.toArray false) env L Q:=
  fun a w ha hw=>wpIn_wide.1 (wpIn_region_lit (n:=0) (h a w (by rw [a0y ha.defers];exact ha) ha.defers hw))
theorem wM {e:Exit} (h:WE N e env L Q):c8s N [] e env L Q:=fun a w ha hd hw=>h a w (by rw [←a0y hd];exact ha) hw
structure IsRec (r:LoopState→Option Code→Loop):Prop where
  pf:∃ fn tmps params assign body defers,r=fun st pe=>{ state:=st,pending:=pe,fn,tmps,params,assign,body,defers}
def a7a (l:Nat) (r:LoopState→Option Code→Loop) (B C:List HP):Exit→Act→World→Prop
  | .normal,_,w=>d3 (ObjAt l (.loop (r .busy none))::B) w
  | .ret,_,w=>d3 (ObjAt l (.loop (r .busy none))::C) w
  |_,_,_=>False
theorem c2z {l:Nat} {r:LoopState→Option Code→Loop} {B C:List HP} (e:Ent L (ObjAt l (.loop (r .busy none))::B)):c8s N [] .normal env L (a7a l r B C):=fun _ _ _ _ hw=>e.sat hw
def c1x (P:Program) (l:Nat) (body:Code) (Q:Exit→Act→World→Prop):Exit→Act→World→Prop:=
  Exit.then (fun a w=>∃ w2,(Instr.beginRound l).run P w= .ok () w2∧body.wpIn (Fence.wide.inRound l) 0 P Q a w2) (fun _ _ _=>False)
theorem c5n {l:Nat} {r:LoopState→Option Code→Loop} {body:Code} (hr:IsRec r) (h:WM (Fence.wide.inRound l) P N [] body env (ObjAt l (.loop (r .busy none))::L) Q) :
    c8s N [] .normal env (ObjAt l (.loop (r .ready none))::L) (c1x P l body Q):=by
  obtain ⟨fn,tmps,params,assign,body',defers,rfl⟩:=hr.pf
  intro a w ha hd hw
  exact ⟨_,run_beginRound (qV hw) rfl,h a _ ha hd (kU hw)⟩
theorem a9p {o:Obj} {w:World} (h:d3 L w):d3 (ObjAt w.heap.size o::L) (w.alloc o):=b3f (ObjAt w.heap.size o) (fun h e=>⟨e⟩) h
theorem b1l {g:Operand} {p:Tmp} {assign body:Code} {gf:FuncId} {cap:List Value} {pre:List HP} {xs:List Value} (J:Nat→List HP) (Jx:List HP)
    (hg:ev env g=some (.func (.func gf) #[] cap.toArray)) (he:zG P gf) (hseq:Seq P gf cap pre xs) (hL:Ent L (oI pre (J 0))) (hp:Nat.blt p N=true)
    (hround:∀ l r D F i (hi:i<xs.length),IsRec r→WM (Fence.wide.inRound l) P N [] assign ((p,xs[i])::env) (ObjAt l (.loop (r .ready none))::ObjAt D (.deferred (some []))::oI (oI pre (J i)) F)
      (c1x P l body (a7a l r (ObjAt D (.deferred (some []))::oI (oI pre (J (i+1))) F) (ObjAt D (.deferred (some []))::oI Jx F))))
    (hdone:∀ D,c8s N [b3x D] .normal env (ObjAt D (.deferred (some []))::oI pre (J xs.length)) Q)
    (hstop:∀ D,0<xs.length→c8s N [b3x D] .ret env (ObjAt D (.deferred (some []))::Jx) Q):WC P N (.rangeFunc g #[p] assign body) env L Q:=by
  intro a w ha hw
  refine (wpIn_wide (n:=0)).1 (wpIn_rangeFunc ?_)
  intro fn _
  have hev:a.eval g= .func (.func gf) #[] cap.toArray:=ha.ev hg
  obtain ⟨rec,hrec⟩:∃ rec:LoopState→Option Code→Loop,rec=fun st pe=>{ state:=st,pending:=pe,fn,tmps:=a.tmps,params:= #[p],assign,body,defers:=w.heap.size}:=⟨_,rfl⟩
  have isr:IsRec rec:=⟨_,_,_,_,_,_,hrec⟩
  have hs1:=a9p (o:= .deferred (some [])) hw
  have hs2:=a9p (o:= .loop (rec .ready none)) hs1
  rw [World.size_alloc] at hs2
  have hd0:=ha.defers
  have hbare:∀ ds,a3m { a with defers:=ds}=a:=fun ds=>by cases a;simp at hd0;subst hd0;rfl
  refine ⟨w.heap.size+1,[b3x w.heap.size],(w.alloc (.deferred (some []))).alloc (.loop (rec .ready none)),{ target:= .fn (.func gf) cap.toArray,args:= #[.func (.yield (w.heap.size+1)) #[] #[]]},(w.alloc (.deferred (some []))).alloc (.loop (rec .ready none)),gf,
    (.func (.yield (w.heap.size+1)) #[] #[]::cap).toArray,(w.alloc (.deferred (some []))).alloc (.loop (rec .ready none)),?_,?_,fun _ _=>trivial,?_,(fun hh=>by cases hh),?_⟩
  · rw [hrec];exact run_enterLoop_outer _ _ _ _ _
  · simp only [resolve,hev]
    simp [go_sem]
  · simp only [invoke]
    rw [he]
    congr 2
    apply Array.ext'
    simp
  · refine callsIn_wide.2 ((hseq (w.heap.size+1) (fun i=>ObjAt (w.heap.size+1) (.loop (rec .ready none))::ObjAt w.heap.size (.deferred (some []))::J i)
      (ObjAt (w.heap.size+1) (.loop (rec .done (some .ret)))::ObjAt w.heap.size (.deferred (some []))::Jx) ?_ _ ?_).mono ?_)
    · intro i hi F W hW
      have hW2:d3 (ObjAt (w.heap.size+1) (.loop (rec .ready none))::ObjAt w.heap.size (.deferred (some []))::oI (oI pre (J i)) F) W:=(c2y (Ent.trans rC (Ent.cons rC))).sat hW
      have hl:=qV hW2
      have hy:=run_yield (P:=P) (args:= #[xs[i]]) hl (by rw [hrec];rfl)
      rw [hrec] at hy
      refine ⟨fn,_,assign,body,hy,roundIn_of_wpIn trivial ?_⟩
      have hen:EnvOk N ((p,xs[i])::env) (a3m { tmps:=(#[p].zip #[xs[i]]).foldl (fun tmps (t,a)=>tmps.setIfInBounds t a) a.tmps,defers:=[]}):=by
        have:=ha.put hp xs[i]
        have e:a.put (some p) xs[i]={ tmps:=(#[p].zip #[xs[i]]).foldl (fun tmps (t,a)=>tmps.setIfInBounds t a) a.tmps,defers:=[]}:=by
          simp [Act.put,hd0]
        rw [←e]
        have e2:a3m (a.put (some p) xs[i])=a.put (some p) xs[i]:=a0y (by simp [Act.put,hd0])
        rw [e2];exact this
      refine wpIn_mono (hround _ rec w.heap.size F i hi isr _ W hen rfl hW2) ?_
      intro e a1 w1 h1
      cases e with
      |normal=>
       obtain ⟨w2,hb,hbody⟩:=h1
       refine ⟨w2,hb,wpIn_mono hbody ?_⟩
       intro e a2 w3 h3
       cases e with
       |normal=>
        have h4:d3 (ObjAt (w.heap.size+1) (.loop (rec .busy none))::ObjAt w.heap.size (.deferred (some []))::oI (oI pre (J (i+1))) F) w3:=h3
        have hl:=qV h4
        have h5:=kU (o':= .loop { rec .busy none with state:= .ready,pending:=none}) h4
        refine ⟨_,_,run_endRound none hl,.inl ⟨rfl,?_⟩⟩
        rw [hrec] at h5 ⊢
        exact (c2y (Ent.trans (Ent.cons vJ) vJ)).sat h5
       |ret=>
        have h4:d3 (ObjAt (w.heap.size+1) (.loop (rec .busy none))::ObjAt w.heap.size (.deferred (some []))::oI Jx F) w3:=h3
        have hl:=qV h4
        have h5:=kU (o':= .loop { rec .busy none with state:= .done,pending:=some .ret}) h4
        refine ⟨_,_,run_endRound (some .ret) hl,.inr ⟨rfl,?_⟩⟩
        rw [hrec] at h5 ⊢
        exact h5
       |exit id=>exact h3.elim
       |goto t=>exact h3.elim
       |panic c=>exact h3.elim
       |outgrown=>exact h3.elim
      |ret=>exact h1
      |exit id=>exact h1
      |goto t=>exact h1
      |panic c=>exact h1
      |outgrown=>exact h1
    · exact (Ent.trans (Ent.cons (Ent.cons hL)) (Ent.trans (Ent.cons vJ) vJ)).sat hs2
    · rintro e W2 ⟨⟨v,rfl⟩,h|⟨h0,h⟩⟩
      · have h2:d3 (ObjAt (w.heap.size+1) (.loop (rec .ready none))::ObjAt w.heap.size (.deferred (some []))::oI pre (J xs.length)) W2:=(Ent.trans rC (Ent.cons rC)).sat h
        have hl:=qV h2
        have h5:=kU (o':= .loop { rec .ready none with state:= .exhausted}) h2
        refine ⟨none,_,?_,hdone w.heap.size _ _ (by rw [hbare];exact ha) (by simp [hd0]) (Ent.drop Ent.refl |>.sat h5)⟩
        have:=run_endLoop (P:=P) hl (by rw [hrec];simp)
        rw [hrec] at this ⊢;exact this
      · have hl:=qV h
        have h5:=kU (o':= .loop { rec .done (some .ret) with state:= .exhausted}) h
        refine ⟨some .ret,_,?_,wpIn_ret (hstop w.heap.size h0 _ _ (by rw [hbare];exact ha) (by simp [hd0]) (Ent.drop Ent.refl |>.sat h5))⟩
        have:=run_endLoop (P:=P) hl (by rw [hrec];simp)
        rw [hrec] at this ⊢;exact this
def e7a (P:Program) (fn:Func) (pre:List HP) (A:Nat→List HP) (C:List HP) (n:Nat):Exit→Act→World→Prop:=
  bodyPost P fn (fun e w'=>(∃ v,e= .returned v)∧(d3 (oI pre (A n)) w'∨(0<n∧d3 C w')))
theorem Seq.mk {f:FuncId} {fn:Func} {c:Code} {N:Nat} {cap:List Value} {pre:List HP} {xs:List Value} (hf:P.funcs[f]? =some fn) (hb:fn.body=some c) (hN:fn.ntmps=N) (hv:Nat.ble (cap.length+1) N=true)
    (h:∀ l A C,(∀ i (h:i<xs.length),c1w P l xs[i] (oI pre (A i)) (oI pre (A (i+1))) C)→WC P N c (a9f 0 (.func (.yield l) #[] #[]::cap)) (oI pre (A 0)) (e7a P fn pre A C xs.length)):Seq P f cap pre xs:=by
  intro l A C hy w hw
  refine calls_of_wp hf hb ?_
  have hle:(Value.func (.yield l) #[] #[]::cap).length≤N:=by simpa using hv
  refine h l A C hy _ w ⟨?_,rfl,fun t v e=>?_⟩ hw
  · simp [hN];simp at hle;omega
  · obtain ⟨_,h2⟩:=wC _ 0 t v e
    have ht:t<(Value.func (.yield l) #[] #[]::cap).length:=(List.getElem?_eq_some_iff.1 h2).1
    rw [Array.getD_eq_getD_getElem?,Array.getElem?_append_left (by simpa using ht)]
    simp at h2
    simp [h2]
theorem yX {fn:Func} (h:fn.results.toList=[]) (tmps:Array Value) (w:World):∃ v,(results fn tmps).run P w= .ok v w:=by
  rw [yK,Array.mapM_eq_mapM_toList,h]
  exact ⟨_,rfl⟩
theorem b5c {fn:Func} {pre:List HP} {A:Nat→List HP} {C:List HP} {n:Nat} {e:Exit} (he:(match e with| .normal=>true| .ret=>true|_=>false)=true) (b8g:fn.results.toList=[]) (h:Ent L (oI pre (A n))):WE N e env L (e7a P fn pre A C n):=by
  intro a w ha hw
  obtain ⟨v,hr⟩:=yX (P:=P) b8g a.tmps w
  have fin:a.defers=[]∧∃ v,(results fn a.tmps).run P w= .ok v w∧((∃ u,Ending.returned v= .returned u)∧(d3 (oI pre (A n)) w∨(0<n∧d3 C w))):=⟨ha.defers,v,hr,⟨v,rfl⟩,.inl (h.sat hw)⟩
  cases e with
  |normal=>exact fin
  |ret=>exact fin
  |_=>simp at he
theorem uX {fn:Func} {pre:List HP} {A:Nat→List HP} {C:List HP} {n:Nat} {e:Exit} (he:(match e with| .normal=>true| .ret=>true|_=>false)=true) (b8g:fn.results.toList=[]) (hn:0<n) (h:Ent L C):WE N e env L (e7a P fn pre A C n):=by
  intro a w ha hw
  obtain ⟨v,hr⟩:=yX (P:=P) b8g a.tmps w
  have fin:a.defers=[]∧∃ v,(results fn a.tmps).run P w= .ok v w∧((∃ u,Ending.returned v= .returned u)∧(d3 (oI pre (A n)) w∨(0<n∧d3 C w))):=⟨ha.defers,v,hr,⟨v,rfl⟩,.inr ⟨hn,h.sat hw⟩⟩
  cases e with
  |normal=>exact fin
  |ret=>exact fin
  |_=>simp at he
def e7b (P:Program) (fn:Func) (post:Value→List HP→Prop) (F:List HP):Exit→Act→World→Prop:=
  bodyPostM Fence.wide 0 P fn (fun e w'=>∃ v L',e= .returned v∧post v L'∧d3 (oI L' F) w')
theorem FnF.mkM {f:FuncId} {fn:Func} {c:Code} {N:Nat} {vs:List Value} {pre F:List HP} {post:Value→List HP→Prop}
    (hf:P.funcs[f]? =some fn) (hb:fn.body=some c) (hn:(fn.name == "runtime.NumGoroutine")=false) (hN:fn.ntmps=N) (hv:Nat.ble vs.length N=true)
    (h:WC P N c (a9f 0 vs) (oI pre F) (e7b P fn post F)):FnF P f vs pre F post:=by
  refine ⟨kB hf hb hn,fun w hw=>callsIn_wide.1 (callsIn_of_wp_marks (n:=0) hf hb trivial (wpIn_wide.2 ?_))⟩
  have hle:vs.length≤N:=by simpa using hv
  refine h _ w ⟨?_,rfl,fun t v e=>?_⟩ hw
  · simp [hN];omega
  · obtain ⟨_,h2⟩:=wC vs 0 t v e
    have ht:t<vs.length:=(List.getElem?_eq_some_iff.1 h2).1
    rw [Array.getD_eq_getD_getElem?,Array.getElem?_append_left (by simpa using ht)]
    simp at h2
    simp [h2]
theorem c9n {fn:Func} {post:Value→List HP→Prop} {F:List HP} {e:Exit} {D:Nat} (he:(match e with| .normal=>true| .ret=>true|_=>false)=true) {rs:List ResultVar} {vs:List Value}
    (b8g:fn.results.toList=rs) (hr:ResOk P env L rs vs) (L':List HP) (hp:post (uL vs) L') (hL:Ent L (oI L' F)):c8s N [b3x D] e env (ObjAt D (.deferred (some []))::L) (e7b P fn post F):=by
  intro a w ha hd hw
  have hD:=qV hw
  have h2:d3 L (w.putObj D (.deferred none)):=(Ent.drop Ent.refl).sat (kU (o':= .deferred none) hw)
  have key:(results fn a.tmps).run P (w.putObj D (.deferred none))= .ok (uL vs) (w.putObj D (.deferred none)):=by
    have h1:=b0w ha h2 hr
    subst b8g
    rw [yK,Array.mapM_eq_mapM_toList]
    simp only [Sem.run_bind,Sem.run_map]
    have h1':(List.mapM (uA a.tmps) fn.results.toList).run P (w.putObj D (.deferred none))= .ok vs (w.putObj D (.deferred none)):=h1
    rw [h1']
    simp only [Result.andThen_ok,Sem.run_pure]
    congr 1
    unfold uL
    match vs with
    | []=>rfl
    | [v]=>rfl
    |a::b::r=>simp
  have fin:LeavesInM Fence.wide 0 P fn a.tmps (fun e w'=>∃ v L',e= .returned v∧post v L'∧d3 (oI L' F) w') a.defers .returning w:=by
    rw [hd]
    exact ⟨by simp,.inl ⟨D,_,rfl,run_takeDeferred hD,_,key,_,L',rfl,hp,hL.sat h2⟩⟩
  cases e with
  |normal=>exact fin
  |ret=>exact fin
  |_=>simp at he
end
set_option maxRecDepth 100000
theorem f0a {Q P:Prop} (k:Q) (h:Hid Q→P:=by
  intro k
  (first|refine d4f ?_|refine c2x ?_|refine d4g ?_|refine b6u ?_|refine a9n ?_|refine qQ ?_|refine b6v ?_|refine a1r ?_|refine yW ?_|refine a9o ?_|refine wK ?_|(apply c8l;(first|exact AllIn.wide|exact AllIn.round _);exact b4k;rfl;(intro _ h;cases h))|(apply e2m;(first|exact AllIn.wide|exact AllIn.round _);rfl;(intro _ h;cases h);exact e2x;(first|refine cB ?_|refine cJ ?_|refine aN ?_)))
  (repeat (first|refine d4f ?_|refine c2x ?_|refine d4g ?_|refine b6u ?_|refine a9n ?_|refine qQ ?_|refine b6v ?_|refine a1r ?_|refine yW ?_|refine a9o ?_|refine wK ?_|(apply c8l;(first|exact AllIn.wide|exact AllIn.round _);exact b4k;rfl;(intro _ h;cases h))|(apply e2m;(first|exact AllIn.wide|exact AllIn.round _);rfl;(intro _ h;cases h);exact e2x;(first|refine cB ?_|refine cJ ?_|refine aN ?_))))
  exact k.out):P:=h ⟨k⟩
theorem e7w {Q P:Prop} (k:Q) (h:Hid Q→P:=by
  intro k
  ((apply c8l;(first|exact AllIn.wide|exact AllIn.round _);exact b4k;rfl;(intro _ h;cases h)))
  (repeat ((apply c8l;(first|exact AllIn.wide|exact AllIn.round _);exact b4k;rfl;(intro _ h;cases h))))
  exact k.out):P:=h ⟨k⟩
theorem e7x {Q P:Prop} (k:Q) (h:Hid Q→P:=by
  intro k
  (first|(apply b3h;exact b4k;rfl)|refine xO ?_|refine d5s ?_|(apply c8x;rfl;exact b6a;exact b4k;rfl)|(apply c8y;rfl;exact b6a;exact b4k;rfl)|refine a3e ?_|refine a3g ?_|refine xA ?_|refine oT ?_|refine xL ?_|refine a3f ?_|refine k9 ?_|refine sF ?_|refine wZ ?_|refine lA ?_|(refine lB ?_ ?_;rfl)|refine jP ?_|refine sG ?_|refine jQ ?_|refine jS ?_|refine lC ?_|refine wY ?_|(apply oN;rfl;(with_reducible rfl))|(apply oO;rfl;(with_reducible rfl))|refine a3h ?_|(apply uC;rfl;exact e2x;(first|refine cB ?_|refine cJ ?_|refine aN ?_))|(apply p4;rfl;exact b6a;exact e2x;(first|refine cB ?_|refine cJ ?_|refine aN ?_))|(apply c8v;rfl;exact b6a;exact b4k;rfl)|refine mP ?_|refine kZ rfl ?_|(refine k6 ?_ ?_;(focus (exact iC;done)))|(apply b4q;rfl;exact d6r;rfl)|(apply b4r;rfl;exact d6r;rfl)|(apply b4s;rfl;exact d6r;rfl;(refine ⟨by first|exact After.free|exact After.turns rfl|(refine After.still ?_;exact iC;done),?_⟩))|(apply a9g;exact b4k;rfl)|(apply sH;rfl;rfl;(with_reducible rfl);rfl;rfl)|(apply sI;rfl;rfl;(with_reducible rfl);rfl;rfl)|(apply oR;rfl;rfl;(with_reducible rfl);rfl;rfl;rfl)|(apply oS;rfl;rfl;(with_reducible rfl);rfl;rfl;rfl)|(apply lD;rfl;rfl;(with_reducible rfl);rfl)|(apply lE;rfl;rfl;(with_reducible rfl);rfl)|(apply xD;rfl;rfl;rfl;rfl;(first|exact iJ a2l|(first|(with_reducible assumption)|decide)))|(apply xF;rfl;rfl;rfl;rfl;(first|exact iR a2l|(first|(with_reducible assumption)|decide)))|(apply xE;rfl;rfl;rfl;rfl;(first|exact iR a2l|(first|(with_reducible assumption)|decide)))|(apply xG;rfl;rfl;rfl;rfl;(first|exact iJ a2l|(first|(with_reducible assumption)|decide)))|(apply xH;rfl;rfl;rfl;rfl;(first|exact iJ a2l|(first|(with_reducible assumption)|decide)))|(apply xJ;rfl;rfl;rfl;rfl;(first|exact iR a2l|(first|(with_reducible assumption)|decide)))|(apply xI;rfl;rfl;rfl;rfl;(first|exact iR a2l|(first|(with_reducible assumption)|decide)))|(apply xK;rfl;rfl;rfl;rfl;(first|exact iJ a2l|(first|(with_reducible assumption)|decide)))|(apply a3i;rfl;(first|(with_reducible assumption)|(with_reducible rfl)|(with_reducible exact tJ)|(with_reducible exact tK)|omega|decide|exact rfl))|(apply b4m;rfl;(first|(with_reducible assumption)|(with_reducible rfl)|(with_reducible exact tJ)|(with_reducible exact tK)|omega|decide|exact rfl))|(apply b4n;rfl;(first|(with_reducible assumption)|decide))|(apply b4o;rfl;(first|(with_reducible assumption)|decide)))
  (repeat (first|(apply b3h;exact b4k;rfl)|refine xO ?_|refine d5s ?_|(apply c8x;rfl;exact b6a;exact b4k;rfl)|(apply c8y;rfl;exact b6a;exact b4k;rfl)|refine a3e ?_|refine a3g ?_|refine xA ?_|refine oT ?_|refine xL ?_|refine a3f ?_|refine k9 ?_|refine sF ?_|refine wZ ?_|refine lA ?_|(refine lB ?_ ?_;rfl)|refine jP ?_|refine sG ?_|refine jQ ?_|refine jS ?_|refine lC ?_|refine wY ?_|(apply oN;rfl;(with_reducible rfl))|(apply oO;rfl;(with_reducible rfl))|refine a3h ?_|(apply uC;rfl;exact e2x;(first|refine cB ?_|refine cJ ?_|refine aN ?_))|(apply p4;rfl;exact b6a;exact e2x;(first|refine cB ?_|refine cJ ?_|refine aN ?_))|(apply c8v;rfl;exact b6a;exact b4k;rfl)|refine mP ?_|refine kZ rfl ?_|(refine k6 ?_ ?_;(focus (exact iC;done)))|(apply b4q;rfl;exact d6r;rfl)|(apply b4r;rfl;exact d6r;rfl)|(apply b4s;rfl;exact d6r;rfl;(refine ⟨by first|exact After.free|exact After.turns rfl|(refine After.still ?_;exact iC;done),?_⟩))|(apply a9g;exact b4k;rfl)|(apply sH;rfl;rfl;(with_reducible rfl);rfl;rfl)|(apply sI;rfl;rfl;(with_reducible rfl);rfl;rfl)|(apply oR;rfl;rfl;(with_reducible rfl);rfl;rfl;rfl)|(apply oS;rfl;rfl;(with_reducible rfl);rfl;rfl;rfl)|(apply lD;rfl;rfl;(with_reducible rfl);rfl)|(apply lE;rfl;rfl;(with_reducible rfl);rfl)|(apply xD;rfl;rfl;rfl;rfl;(first|exact iJ a2l|(first|(with_reducible assumption)|decide)))|(apply xF;rfl;rfl;rfl;rfl;(first|exact iR a2l|(first|(with_reducible assumption)|decide)))|(apply xE;rfl;rfl;rfl;rfl;(first|exact iR a2l|(first|(with_reducible assumption)|decide)))|(apply xG;rfl;rfl;rfl;rfl;(first|exact iJ a2l|(first|(with_reducible assumption)|decide)))|(apply xH;rfl;rfl;rfl;rfl;(first|exact iJ a2l|(first|(with_reducible assumption)|decide)))|(apply xJ;rfl;rfl;rfl;rfl;(first|exact iR a2l|(first|(with_reducible assumption)|decide)))|(apply xI;rfl;rfl;rfl;rfl;(first|exact iR a2l|(first|(with_reducible assumption)|decide)))|(apply xK;rfl;rfl;rfl;rfl;(first|exact iJ a2l|(first|(with_reducible assumption)|decide)))|(apply a3i;rfl;(first|(with_reducible assumption)|(with_reducible rfl)|(with_reducible exact tJ)|(with_reducible exact tK)|omega|decide|exact rfl))|(apply b4m;rfl;(first|(with_reducible assumption)|(with_reducible rfl)|(with_reducible exact tJ)|(with_reducible exact tK)|omega|decide|exact rfl))|(apply b4n;rfl;(first|(with_reducible assumption)|decide))|(apply b4o;rfl;(first|(with_reducible assumption)|decide))))
  exact k.out):P:=h ⟨k⟩
end
end Go.Sx
