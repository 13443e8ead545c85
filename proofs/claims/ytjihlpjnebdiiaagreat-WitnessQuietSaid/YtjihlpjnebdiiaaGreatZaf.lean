/- Msg, QuPl, Core, ArrHPl, Pro0: several of my texts as one. My own work. -/
import Derived.Test.YtjihlpjnebdiiaaGreatZr
import Derived.Test.YtjihlpjnebdiiaaGreatZac
import Derived.Test.YtjihlpjnebdiiaaGreatZad
import Derived.Test.YtjihlpjnebdiiaaGreatZae
import Derived.Test.YtjihlpjnebdiiaaGreatData
set_option linter.unusedVariables false
set_option linter.unusedSectionVars false
set_option linter.unusedSimpArgs false
/- Messages: what the functions of package message do, and the document's. My own work. -/
namespace Go.Sx
open Go Go.Proofs
def netK (k:Int):Int:=if 1≤k∧k≤3 then 0 else if 4≤k∧k≤6 then 1 else if 7≤k∧k≤11 then 2 else -1
def HomeP (k:Int):Prop:=(1≤k∧k≤3)∨k=11
instance (k:Int):Decidable (HomeP k):=by unfold HomeP;infer_instance
def homeN (c:Cfg) (m:Msg):Int:=m.line.tmod c.homes
def InP (n k:Int):Prop:=0≤n∧n<k
instance (n k:Int):Decidable (InP n k):=by unfold InP;infer_instance
def PlainP (c:Cfg) (m:Msg) (a:Bool):Prop:=m.who=0∧m.own=0∧0≤m.acks∧m.acks<(if a then c.cores else 1)
instance (c:Cfg) (m:Msg) (a:Bool):Decidable (PlainP c m a):=by unfold PlainP;infer_instance
def UpP (c:Cfg) (m:Msg):Prop:=(0≤m.src∧m.src<c.cores)∧m.dst=homeN c m∧PlainP c m false
instance (c:Cfg) (m:Msg):Decidable (UpP c m):=by unfold UpP;infer_instance
def DownP (c:Cfg) (m:Msg) (a:Bool):Prop:=m.src=homeN c m∧(0≤m.dst∧m.dst<c.cores)∧PlainP c m a
instance (c:Cfg) (m:Msg) (a:Bool):Decidable (DownP c m a):=by unfold DownP;infer_instance
def AcrossP (c:Cfg) (m:Msg):Prop:=(0≤m.src∧m.src<c.cores)∧(0≤m.dst∧m.dst<c.cores)∧m.src≠m.dst∧PlainP c m false
instance (c:Cfg) (m:Msg):Decidable (AcrossP c m):=by unfold AcrossP;infer_instance
def ForwardP (c:Cfg) (m:Msg) (a:Bool):Prop:=(0≤m.who∧m.who<c.cores)∧m.who≠m.dst∧DownP c { m with who:=0} a
instance (c:Cfg) (m:Msg) (a:Bool):Decidable (ForwardP c m a):=by unfold ForwardP;infer_instance
def DataP (c:Cfg) (m:Msg):Prop:=(m.own=1∨m.own=2∨m.own=4)∧(0≤m.acks∧m.acks<c.cores)∧(0≤m.dst∧m.dst<c.cores)∧((m.who=0∧m.src=homeN c m)∨(m.who=1∧(0≤m.src∧m.src<c.cores)∧m.src≠m.dst))
instance (c:Cfg) (m:Msg):Decidable (DataP c m):=by unfold DataP;infer_instance
def Words.at (w:Words) (i:Nat):Int:=w.list.getD i 0
def OkAt (c:Cfg) (w:Words) (i:Nat):Prop:= -2147483648≤w.at i∧w.at i≤2147483647∧(c.words≤i→w.at i=0)
instance (c:Cfg) (w:Words) (i:Nat):Decidable (OkAt c w i):=by unfold OkAt;infer_instance
def ValsP (c:Cfg) (w:Words):Prop:=∀ i,i<8→OkAt c w i
instance (c:Cfg) (w:Words):Decidable (ValsP c w):=by unfold ValsP;infer_instance
def FormP (c:Cfg) (m:Msg):Prop:=
  if HomeP m.kind then UpP c m else if m.kind=4∨m.kind=6 then ForwardP c m false else if m.kind=5 then ForwardP c m true else if m.kind=7 then DataP c m else if m.kind=8 then DownP c m true else if m.kind=10 then DownP c m false else AcrossP c m
instance (c:Cfg) (m:Msg):Decidable (FormP c m):=by unfold FormP;infer_instance
def Wordy (k:Int):Prop:=k=3∨k=7
instance (k:Int):Decidable (Wordy k):=by unfold Wordy;infer_instance
def WordsP (c:Cfg) (m:Msg):Prop:=if Wordy m.kind then ValsP c m.words else m.words= .zero
instance (c:Cfg) (m:Msg):Decidable (WordsP c m):=by unfold WordsP;infer_instance
def MayP (c:Cfg) (m:Msg):Prop:=checkB c=true∧(1≤m.kind∧m.kind≤11)∧(0≤m.line∧m.line<c.lines)∧FormP c m∧WordsP c m
instance (c:Cfg) (m:Msg):Decidable (MayP c m):=by unfold MayP;infer_instance
instance:Meth Tryz.prog 297 (.agg #[]) "mesne/message.fits" 269 (.agg #[]):=⟨fun w=>by kernel_rfl⟩
instance:Meth Tryz.prog 299 (.agg #[]) "mesne/message.fits" 269 (.agg #[]):=⟨fun w=>by kernel_rfl⟩
instance:Meth Tryz.prog 299 (.agg #[]) "mesne/message.words" 272 (.agg #[]):=⟨fun w=>by kernel_rfl⟩
instance:Meth Tryz.prog 302 (.agg #[]) "mesne/message.fits" 276 (.agg #[]):=⟨fun w=>by kernel_rfl⟩
instance:Meth Tryz.prog 302 (.agg #[]) "mesne/message.words" 277 (.agg #[]):=⟨fun w=>by kernel_rfl⟩
instance:Meth Tryz.prog 304 (.agg #[]) "mesne/message.fits" 278 (.agg #[]):=⟨fun w=>by kernel_rfl⟩
instance:Meth Tryz.prog 301 (.agg #[.bool false]) "mesne/message.fits" 274 (.agg #[.bool false]):=⟨fun w=>by kernel_rfl⟩
instance:Meth Tryz.prog 301 (.agg #[.bool true]) "mesne/message.fits" 274 (.agg #[.bool true]):=⟨fun w=>by kernel_rfl⟩
instance:Meth Tryz.prog 303 (.agg #[.bool false]) "mesne/message.fits" 275 (.agg #[.bool false]):=⟨fun w=>by kernel_rfl⟩
instance:Meth Tryz.prog 303 (.agg #[.bool true]) "mesne/message.fits" 275 (.agg #[.bool true]):=⟨fun w=>by kernel_rfl⟩
instance:Has Tryz.prog 299 280 true:=⟨by kernel_rfl⟩
instance:Has Tryz.prog 302 280 true:=⟨by kernel_rfl⟩
instance:Has Tryz.prog 297 280 false:=⟨by kernel_rfl⟩
instance:Has Tryz.prog 303 280 false:=⟨by kernel_rfl⟩
instance:Has Tryz.prog 304 280 false:=⟨by kernel_rfl⟩
instance:Has Tryz.prog 301 280 false:=⟨by kernel_rfl⟩
set_option maxRecDepth 100000
set_option maxHeartbeats 4000000
attribute [local irreducible] Go.Exit.then Go.Exit.inBlock Go.Code.wp WC WO WE WQ V LoopQ FnQ Sat Star band bor IntKind.wrap WR Code.rounds WT KO
theorem msg_Net {F:List HP} {k:Int}:FnF Tryz.prog 150 [.int .i64 k] [] F (fun r L'=>r= .int .i64 (netK k)∧L'=[]):=by
  refine FnF.mk' Tryz.func150 rfl rfl Tryz.ntmps150 rfl ?_
  repeat' (first|refine gd ?_|intro _|refine spl ?_ ?_|fail)
  all_goals ((apply WE_ret rfl rfl zqR);(refine ⟨congrArg (Value.int .i64) ?_,rfl⟩;unfold netK;repeat (first|rfl|(rw [if_pos (by omega)])|(rw [if_neg (by omega)])));exact entu0)
theorem msg_Home {F:List HP} {k:Int}:FnF Tryz.prog 178 [.int .i64 k] [] F (fun r L'=>r= .bool (decide (HomeP k))∧L'=[]):=by
  have h:netK k=0↔(1≤k∧k≤3):=by unfold netK;split<;>(try split)<;>(try split)<;>omega
  refine FnF.mk' Tryz.func178 rfl rfl Tryz.ntmps178 rfl ?_
  repeat' (first|refine gd ?_|intro _|refine cal @msg_Net ?_|refine spl ?_ ?_|fail)
  all_goals (apply WE_ret rfl rfl zqR;(refine ⟨congrArg Value.bool ?_,rfl⟩;(first|(refine decide_eq_decide.2 ?_)|(refine (decide_eq_true ?_).symm)|(refine (decide_eq_false ?_).symm));(first|omega|(simp only [HomeP,h];omega)));exact zqN)
theorem msg_within {F:List HP} {n k:Int}:FnF Tryz.prog 214 [.int .i64 n,.int .i64 k] [] F (fun r L'=>r= .bool (decide (InP n k))∧L'=[]):=by
  refine FnF.mk' Tryz.func214 rfl rfl Tryz.ntmps214 rfl ?_
  repeat' (first|refine gd ?_|intro _|refine spl ?_ ?_|fail)
  all_goals (apply WE_ret rfl rfl zqR;(refine ⟨congrArg Value.bool ?_,rfl⟩;(first|(refine decide_eq_decide.2 ?_)|(refine (decide_eq_true ?_).symm)|(refine (decide_eq_false ?_).symm));(first|omega|(simp only [InP];omega)));exact zqN)
theorem msg_home {F:List HP} {c:Cfg} {m:Msg} (h:c.homes≠0):FnF Tryz.prog 270 [c.val,mv m] [] F (fun r L'=>r= .int .i64 (homeN c m)∧L'=[]):=by
  refine FnF.mk' Tryz.func270 rfl rfl Tryz.ntmps270 rfl ?_
  repeat (first|refine gd ?_|intro _)
  (apply WE_ret rfl rfl zqR;(first|exact zqL|exact ⟨by simp [homeN]<;>omega,rfl⟩);exact zqN)
theorem msg_plain {F:List HP} {c:Cfg} {m:Msg} {a:Bool}:FnF Tryz.prog 271 [c.val,mv m,.bool a] [] F (fun r L'=>r= .bool (decide (PlainP c m a))∧L'=[]):=by
  refine FnF.mk' Tryz.func271 rfl rfl Tryz.ntmps271 rfl ?_
  cases a with
  |true=>
   repeat' (first|refine gd ?_|intro _|refine cal @msg_within ?_|refine spl ?_ ?_|fail)
   all_goals (apply WE_ret rfl rfl zqR;(refine ⟨congrArg Value.bool ?_,rfl⟩;(first|(refine decide_eq_decide.2 ?_)|(refine (decide_eq_true ?_).symm)|(refine (decide_eq_false ?_).symm));(first|omega|(simp only [PlainP,InP,if_true];omega)));exact zqN)
  |false=>
   repeat' (first|refine gd ?_|intro _|refine cal @msg_within ?_|refine spl ?_ ?_|fail)
   all_goals (apply WE_ret rfl rfl zqR;(refine ⟨congrArg Value.bool ?_,rfl⟩;(first|(refine decide_eq_decide.2 ?_)|(refine (decide_eq_true ?_).symm)|(refine (decide_eq_false ?_).symm));(first|omega|(simp only [PlainP,InP,Bool.false_eq_true,if_false];omega)));exact zqN)
theorem msg_up {F:List HP} {c:Cfg} {m:Msg} (h:c.homes≠0):FnF Tryz.prog 269 [.agg #[],c.val,mv m] [] F (fun r L'=>r= .bool (decide (UpP c m))∧L'=[]):=by
  have hW:=fun F=>msg_within (F:=F) (n:=m.src) (k:=c.cores)
  simp only [InP] at hW
  refine FnF.mk' Tryz.func269 rfl rfl Tryz.ntmps269 rfl ?_
  repeat' (first|refine gd ?_|intro _|refine cal @hW ?_|refine cal @msg_home ?_|refine cal @msg_plain ?_|refine spl ?_ ?_|fail)
  all_goals (apply WE_ret rfl rfl zqR;(refine ⟨congrArg Value.bool ?_,rfl⟩;(first|(refine decide_eq_decide.2 ?_)|(refine (decide_eq_true ?_).symm)|(refine (decide_eq_false ?_).symm));(first|omega|(simp only [UpP,PlainP,Bool.false_eq_true,if_false];omega)));exact zqN)
theorem msg_down {F:List HP} {c:Cfg} {m:Msg} {a:Bool} (h:c.homes≠0):FnF Tryz.prog 275 [.agg #[.bool a],c.val,mv m] [] F (fun r L'=>r= .bool (decide (DownP c m a))∧L'=[]):=by
  have hW:=fun F=>msg_within (F:=F) (n:=m.dst) (k:=c.cores)
  simp only [InP] at hW
  refine FnF.mk' Tryz.func275 rfl rfl Tryz.ntmps275 rfl ?_
  repeat' (first|refine gd ?_|intro _|refine cal @hW ?_|refine cal @msg_home ?_|refine cal @msg_plain ?_|refine spl ?_ ?_|fail)
  all_goals first|(apply WE_ret rfl rfl zqR;(refine ⟨congrArg Value.bool ?_,rfl⟩;(first|(refine decide_eq_decide.2 ?_)|(refine (decide_eq_true ?_).symm)|(refine (decide_eq_false ?_).symm));(first|omega|(simp only [DownP];omega)));exact zqN)|(apply WE_ret rfl rfl (by repeat (first|exact ResOk.nil|(apply ResOk.tmp;rfl)));(refine ⟨congrArg Value.bool (decide_eq_decide.2 ⟨fun h=>⟨by assumption,by assumption,h⟩,fun h=>h.2.2⟩),rfl⟩);exact zqN)
theorem msg_across {F:List HP} {c:Cfg} {m:Msg}:FnF Tryz.prog 278 [.agg #[],c.val,mv m] [] F (fun r L'=>r= .bool (decide (AcrossP c m))∧L'=[]):=by
  have hW:=fun F=>msg_within (F:=F) (n:=m.src) (k:=c.cores)
  have hV:=fun F=>msg_within (F:=F) (n:=m.dst) (k:=c.cores)
  simp only [InP] at hW hV
  refine FnF.mk' Tryz.func278 rfl rfl Tryz.ntmps278 rfl ?_
  repeat' (first|refine gd ?_|intro _|refine cal @hW ?_|refine cal @hV ?_|refine cal @msg_plain ?_|refine spl ?_ ?_|fail)
  all_goals (apply WE_ret rfl rfl zqR;(refine ⟨congrArg Value.bool ?_,rfl⟩;(first|(refine decide_eq_decide.2 ?_)|(refine (decide_eq_true ?_).symm)|(refine (decide_eq_false ?_).symm));(first|omega|(simp only [AcrossP,PlainP,Bool.false_eq_true,if_false];omega)));exact zqN)
theorem msg_forward {F:List HP} {c:Cfg} {m:Msg} {a:Bool} (h:c.homes≠0):FnF Tryz.prog 274 [.agg #[.bool a],c.val,mv m] [] F (fun r L'=>r= .bool (decide (ForwardP c m a))∧L'=[]):=by
  have hW:=fun F=>msg_within (F:=F) (n:=m.who) (k:=c.cores)
  have hD:=fun F=>msg_down (F:=F) (c:=c) (m:={ m with who:=0}) (a:=a) h
  simp only [InP] at hW
  refine FnF.mk' Tryz.func274 rfl rfl Tryz.ntmps274 rfl ?_
  repeat' (first|refine gd ?_|intro _|refine cal @hW ?_|refine cal @hD ?_|refine spl ?_ ?_|fail)
  all_goals first|(apply WE_ret rfl rfl zqR;(refine ⟨congrArg Value.bool ?_,rfl⟩;(first|(refine decide_eq_decide.2 ?_)|(refine (decide_eq_true ?_).symm)|(refine (decide_eq_false ?_).symm));(first|omega|(simp only [ForwardP];omega)));exact zqN)|(apply WE_ret rfl rfl (by repeat (first|exact ResOk.nil|(apply ResOk.tmp;rfl)));(refine ⟨congrArg Value.bool (decide_eq_decide.2 ⟨fun h=>⟨by assumption,by assumption,h⟩,fun h=>h.2.2⟩),rfl⟩);exact zqN)
theorem dr_Msg_276 {Q P:Prop} (k:Q) (h:Hid Q→P:=by
  intro k
  first
  |(refine is_draw ?_;apply WC_mix (id:=6) .false _ (pl:= .p 0 <| .r 1 <| .r 2 <| .r 3 <| .e true [(4,.p 5 <| .p 6 <| .done)]);exact mixed;kernel_rfl;kernel_rfl;exact Ent.refl;exact k.out)):P:=h ⟨k⟩
theorem msg_data {F:List HP} {c:Cfg} {m:Msg} (h:c.homes≠0):FnF Tryz.prog 276 [.agg #[],c.val,mv m] [] F (fun r L'=>r= .bool (decide (DataP c m))∧L'=[]):=by
  have hW:=fun F=>msg_within (F:=F) (n:=m.src) (k:=c.cores)
  have hV:=fun F=>msg_within (F:=F) (n:=m.dst) (k:=c.cores)
  have hP:=fun F=>msg_plain (F:=F) (c:=c) (m:={ m with who:=0,own:=0}) (a:=true)
  have hH:=fun F=>msg_home (F:=F) (c:=c) (m:={ m with who:=0,own:=0}) h
  simp only [PlainP,if_true,InP,true_and] at hW hV hP
  have hh:homeN c { m with who:=0,own:=0}=homeN c m:=rfl
  simp only [hh] at hH
  refine FnF.mk' Tryz.func276 rfl rfl Tryz.ntmps276 rfl ?_
  repeat' (first|refine go ?_|intro _|refine dr_Msg_276 ?_|refine drq ?_|refine cal @hW ?_|refine cal @hV ?_|refine cal @hP ?_|refine cal @hH ?_|refine spl ?_ ?_|fail)
  all_goals (apply WE_ret rfl rfl zqR;(refine ⟨congrArg Value.bool ?_,rfl⟩;(first|(refine decide_eq_decide.2 ?_)|(refine (decide_eq_true ?_).symm)|(refine (decide_eq_false ?_).symm));(first|omega|(simp only [DataP];omega)));exact zqN)
end Go.Sx

/- Queues as lists: what holds of them whatever is done. My own work; names no program. -/
namespace Go.Sx
open Go Go.Proofs
def qdoL (room:Int) (l:List QE) (x:QOp):List QE:=if x.d=0 then qaddL room l x.m else if x.d=1 then qstartL l x.n x.sends else if x.d=2 then qsentL l x.n else qfinL l x.m.line x.m.src
def QInv (l:List QE):Prop:=(∀ i j (hi:i<l.length) (hj:j<l.length),i<j→l[i].m.line=l[j].m.line→l[j].st=false)∧∀ e∈l,e.st=false→e.sends=[]
theorem qinv_nil:QInv []:=⟨fun i j hi=>by simp at hi,fun e he=>by simp at he⟩
theorem qinv_add {l:List QE} {m:Msg} (h:QInv l):QInv (l++[⟨m,false,[]⟩]):=by
  refine ⟨fun i j hi hj hij he=>?_,fun e he hs=>?_⟩
  · by_cases hjl:j<l.length
    · have hil:i<l.length:=by omega
      rw [List.getElem_append_left hil,List.getElem_append_left hjl] at he
      rw [List.getElem_append_left hjl]
      exact h.1 i j hil hjl hij he
    · rw [List.getElem_append_right (by omega)]
      simp
  · rcases List.mem_append.1 he with h1|h1
    · exact h.2 e h1 hs
    · rw [List.mem_singleton.1 h1]
theorem getElem_eraseIdx' {l:List QE} {k i:Nat} (hi:i<(l.eraseIdx k).length):∃ h:(if i<k then i else i+1)<l.length,(l.eraseIdx k)[i]=l[if i<k then i else i+1]:=by
  have hlen:=List.length_eraseIdx (l:=l) (i:=k)
  refine ⟨?_,?_⟩
  · split at hlen<;>split<;>omega
  · rw [List.getElem_eraseIdx];split<;>rename_i h<;>simp [h]
theorem qinv_erase {l:List QE} {k:Nat} (h:QInv l):QInv (l.eraseIdx k):=by
  refine ⟨fun i j hi hj hij he=>?_,fun e he hs=>h.2 e (List.mem_of_mem_eraseIdx he) hs⟩
  obtain ⟨a,ea⟩:=getElem_eraseIdx' hi
  obtain ⟨b,eb⟩:=getElem_eraseIdx' hj
  rw [ea,eb] at he
  rw [eb]
  refine h.1 _ _ a b ?_ he
  split<;>split<;>omega
theorem qinv_set {l:List QE} {k:Nat} {e:QE} (hk:k<l.length) (h:QInv l) (hm:e.m=l[k].m) (hs:e.st=true) (hf:∀ i (hi:i<l.length),i<k→l[i].m.line≠l[k].m.line)
    (ho:∀ j (hj:j<l.length),k<j→l[j].m.line=l[k].m.line→l[j].st=false):QInv (l.set k e):=by
  have hmm:∀ i (hi:i<(l.set k e).length),(l.set k e)[i].m=(l[i]'(by simpa using hi)).m:=by
    intro i hi
    rw [List.getElem_set];split
    · rename_i h;subst h;exact hm
    · rfl
  refine ⟨fun i j hi hj hij he=>?_,fun x hx hxs=>?_⟩
  · have hi':i<l.length:=by simpa using hi
    have hj':j<l.length:=by simpa using hj
    rw [hmm i hi,hmm j hj] at he
    rw [List.getElem_set]
    split
    · rename_i hkj;subst hkj
      exact absurd he (hf i hi' hij)
    · exact h.1 i j hi' hj' hij he
  · rcases List.mem_or_eq_of_mem_set hx with h1|h1
    · exact h.2 x h1 hxs
    · subst h1;rw [hs] at hxs;cases hxs
theorem qin_t {l:List QE} {n:Int} (h:qin l n=true):∃ i:Nat,∃ hi:i<l.length,n=i∧qat l n=l[i]:=by
  have h0:=of_decide_eq_true h
  refine ⟨n.toNat,by omega,by omega,?_⟩
  have hi:n.toNat<l.length:=by omega
  simp [qat,h,hi]
theorem qready_t {l:List QE} {n:Int} (h:qready l n=true):∃ i:Nat,∃ hi:i<l.length,n=i∧qat l n=l[i]∧l[i].st=false∧∀ j (hj:j<l.length),j<i→l[j].m.line≠l[i].m.line:=by
  simp only [qready,Bool.and_eq_true,Bool.not_eq_true'] at h
  obtain ⟨⟨h1,h2⟩,h3⟩:=h
  obtain ⟨i,hi,rfl,e⟩:=qin_t h1
  rw [e] at h2 h3
  refine ⟨i,hi,rfl,e,h2,fun j hj hji=>?_⟩
  simp only [qfree,Int.toNat_natCast,List.all_eq_true] at h3
  have:=h3 l[j] (by rw [List.mem_iff_getElem];exact ⟨j,by simp;omega,by simp⟩)
  simpa using this
theorem qinv_do {room:Int} {l:List QE} {x:QOp} (h:QInv l):QInv (qdoL room l x):=by
  unfold qdoL
  split
  · unfold qaddL;split
    · exact qinv_add h
    · exact h
  · split
    · unfold qstartL;split
      · rename_i hs
        unfold qstartE at hs
        split at hs
        · split at hs
          · rename_i hr
            obtain ⟨hr,_⟩:=Bool.and_eq_true_iff.1 hr
            obtain ⟨i,hi,e1,e2,e3,e4⟩:=qready_t hr
            rw [e2,e1,Int.toNat_natCast]
            exact qinv_set hi h rfl rfl e4 fun j hj hij he=>h.1 i j hi hj hij he.symm
          · cases hs
        · cases hs
      · exact h
    · split
      · unfold qsentL;split
        · rename_i hs
          unfold qsentE at hs
          split at hs
          · rename_i hin
            obtain ⟨i,hi,e1,e2⟩:=qin_t hin
            split at hs
            · cases hs
            · rename_i hn
              rw [e2] at hn ⊢
              split
              · exact qinv_erase h
              · rw [e1,Int.toNat_natCast]
                have hst:l[i].st=true:=by
                  cases hc:l[i].st with
                  |true=>rfl
                  |false=>exact absurd (by rw [h.2 _ (List.getElem_mem hi) hc];rfl) hn
                refine qinv_set hi h rfl hst (fun j hj hji he=>?_) fun j hj hij he=>h.1 i j hi hj hij he.symm
                have:=h.1 j i hj hi hji he
                rw [hst] at this;cases this
          · cases hs
        · exact h
      · unfold qfinL;split
        · exact h
        · exact qinv_erase h
end Go.Sx

/- What the cores of package core do. My own work. -/
namespace Go.Sx
open Go Go.Proofs
instance:MapT Tryz.prog 126 blv false:=⟨_,_,_,_,_,Tryz.underlying126,Tryz.underlying3,TZ.pf⟩
abbrev Op3.zero:Op3:=⟨0,0,0⟩
def CoreB (b:Nat) (l:List Op3) (rs:List Int) (tr:List (Int×Bool)):HP:=
  Ex fun q:(Option Addr×Nat)×(Option Addr×Nat)×Nat=>[Cells b 146 [.slice q.1.1 l.length q.1.2,.slice q.2.1.1 rs.length q.2.1.2,.map (some q.2.2)],Own 58 3 (.slice q.1.1 l.length q.1.2) l.length (flat oc l),Own 3 1 (.slice q.2.1.1 rs.length q.2.1.2) rs.length (flat ic rs),MapAt q.2.2 blv tr,Fact (rs.length≤l.length∧l.length≤64)]
theorem core_in {b n1 n2 bm:Nat} {l:List Op3} {rs:List Int} {tr:List (Int×Bool)} {p1 p2:Option Addr} {c1 c2:Nat} {xs ys:List Value} {L M:List HP}
    (h:Ent L (Cells b 146 [.slice p1 n1 c1,.slice p2 n2 c2,.map (some bm)]::Own 58 3 (.slice p1 n1 c1) n1 xs::Own 3 1 (.slice p2 n2 c2) n2 ys::MapAt bm blv tr::M)) (hn1:n1=l.length) (hn2:n2=rs.length) (hx:xs=flat oc l) (hy:ys=flat ic rs) (hl:rs.length≤l.length∧l.length≤64):Ent L (CoreB b l rs tr::M):=by
  subst hn1 hn2 hx hy
  refine Ent.trans h (Ent.trans ?_ (ex_intro (p:=fun q:(Option Addr×Nat)×(Option Addr×Nat)×Nat=>[Cells b 146 [.slice q.1.1 l.length q.1.2,.slice q.2.1.1 rs.length q.2.1.2,.map (some q.2.2)],Own 58 3 (.slice q.1.1 l.length q.1.2) l.length (flat oc l),Own 3 1 (.slice q.2.1.1 rs.length q.2.1.2) rs.length (flat ic rs),MapAt q.2.2 blv tr,Fact (rs.length≤l.length∧l.length≤64)]) ((p1,c1),(p2,c2),bm)))
  exact Ent.cons (Ent.cons (Ent.cons (Ent.cons (star_fact_mk hl))))
theorem core_sat {b:Nat} {l:List Op3} {rs:List Int} {tr:List (Int×Bool)} {L:List HP} {w:World} (h:Sat (CoreB b l rs tr::L) w):(rs.length≤l.length∧l.length≤64)∧
    ∃ p1 c1 p2 c2 bm,Sat (Cells b 146 [.slice p1 l.length c1,.slice p2 rs.length c2,.map (some bm)]::Own 58 3 (.slice p1 l.length c1) l.length (flat oc l)::Own 3 1 (.slice p2 rs.length c2) rs.length (flat ic rs)::MapAt bm blv tr::L) w:=by
  obtain ⟨⟨⟨p1,c1⟩,⟨p2,c2⟩,bm⟩,hx⟩:=star_ex h
  simp only [app] at hx
  have hf:=fact_of (star_drop (star_drop (star_drop (star_drop hx))))
  exact ⟨hf,p1,c1,p2,c2,bm,(Ent.cons (Ent.cons (Ent.cons (Ent.cons (Ent.drop Ent.refl))))) _ hx⟩
theorem core_open {b:Nat} {l:List Op3} {rs:List Int} {tr:List (Int×Bool)} {P:Program} {N:Nat} {c:Code} {env:Env} {L:List HP} {Q:Exit→Act→World→Prop}
    (h:∀ p1 c1 p2 c2 bm,(rs.length≤l.length∧l.length≤64)→WC P N c env (Cells b 146 [.slice p1 l.length c1,.slice p2 rs.length c2,.map (some bm)]::Own 58 3 (.slice p1 l.length c1) l.length (flat oc l)::Own 3 1 (.slice p2 rs.length c2) rs.length (flat ic rs)::MapAt bm blv tr::L) Q):WC P N c env (CoreB b l rs tr::L) Q:=by
  intro a w ha hw
  obtain ⟨hf,p1,c1,p2,c2,bm,hx⟩:=core_sat hw
  exact h p1 c1 p2 c2 bm hf a w ha hx
theorem core_openO {b:Nat} {l:List Op3} {rs:List Int} {tr:List (Int×Bool)} {P:Program} {N:Nat} {all:Array Oper} {c:List Oper} {env:Env} {L:List HP} {Q:Exit→Act→World→Prop}
    (h:∀ p1 c1 p2 c2 bm,(rs.length≤l.length∧l.length≤64)→WO P N all c env (Cells b 146 [.slice p1 l.length c1,.slice p2 rs.length c2,.map (some bm)]::Own 58 3 (.slice p1 l.length c1) l.length (flat oc l)::Own 3 1 (.slice p2 rs.length c2) rs.length (flat ic rs)::MapAt bm blv tr::L) Q):WO P N all c env (CoreB b l rs tr::L) Q:=by
  intro a w ha hw
  obtain ⟨hf,p1,c1,p2,c2,bm,hx⟩:=core_sat hw
  exact h p1 c1 p2 c2 bm hf a w ha hx
set_option maxRecDepth 100000
set_option maxHeartbeats 4000000
attribute [local irreducible] Go.Exit.then Go.Exit.inBlock Go.Code.wp WC WO WE WQ V LoopQ FnQ Sat Star band bor IntKind.wrap WR Code.rounds WT KO
theorem prog_len {c:Cfg} {l:List Op3} (h:progB c l=true):l.length≤64:=by simp [progB] at h;omega
theorem core_New {F:List HP} {c:Cfg} (hc:c.wf) {l:List Op3} {v:Value} (k:RdL F 3 v l.length (flat oc l)) (hn:l.length≤1099511627776) (h:progB c l=true) :
    FnF Tryz.prog 46 [c.val,v] [] F (fun r L'=>∃ b,r= .tuple [.pointer (some ⟨b,0,none⟩),.int .i64 0].toArray∧L'=[CoreB b l [] []]):=by
  have hP:=fun F k=>program_Fits (F:=F) (c:=c) hc (l:=l) (v:=v) k hn
  simp only [h] at hP
  have hl:=prog_len h
  refine FnF.mk' Tryz.func46 rfl rfl Tryz.ntmps46 rfl ?_
  repeat (first|refine gd ?_|intro _|refine cal @hP ?_|refine cal @sl_Clone_op ?_)
  (apply WE_ret rfl rfl zqR)
  · exact ⟨_,rfl,rfl⟩
  · apply core_in (rs:=[]) (p2:=none) (c2:=0) (n2:=0) (ys:=[])
    · refine Ent.trans (own_empty (e:=3) (sz:=1) (p:=none) Ent.refl) ?_
      (focus (exact entu0;done))
    · rfl
    · rfl
    · rfl
    · rfl
    · exact ⟨Nat.zero_le _,hl⟩
theorem core_New_no {F:List HP} {c:Cfg} (hc:c.wf) {l:List Op3} {v:Value} (k:RdL F 3 v l.length (flat oc l)) (hn:l.length≤1099511627776) (h:progB c l=false) :
    FnF Tryz.prog 46 [c.val,v] [] F (fun r L'=>r= .tuple [.pointer none,.int .i64 1].toArray∧L'=[]):=by
  have hP:=fun F k=>program_Fits (F:=F) (c:=c) hc (l:=l) (v:=v) k hn
  simp only [h] at hP
  refine FnF.mk' Tryz.func46 rfl rfl Tryz.ntmps46 rfl ?_
  repeat (first|refine gd ?_|intro _|refine cal @hP ?_)
  exact fin0
theorem core_Left {F:List HP} {b:Nat} {l:List Op3} {rs:List Int} {tr:List (Int×Bool)}:FnF Tryz.prog 61 [.pointer (some ⟨b,0,none⟩)] [CoreB b l rs tr] F (fun r L'=>r= .int .i64 ((l.length:Int)-rs.length)∧L'=[CoreB b l rs tr]):=by
  refine FnF.mk' Tryz.func61 rfl rfl Tryz.ntmps61 rfl ?_
  refine core_open fun p1 c1 p2 c2 bm hl=>?_
  repeat (first|refine gd ?_|intro _)
  (apply WE_ret rfl rfl zqR)
  · exact ⟨rfl,rfl⟩
  · (apply core_in;(focus (exact entu0));all_goals exact zqS)
def headB (l:List Op3) (rs:List Int):Bool:= !decide (rs.length=l.length)
def headO (l:List Op3) (rs:List Int):Op3:=l.getD rs.length .zero
theorem dr_Core_104 {Q P:Prop} (k:Q) (h:Hid Q→P:=by
  intro k
  first
  |(refine is_draw ?_;apply WC_mix (id:=3) .true _ (pl:= .p 0 <| .p 1 <| .p 2 <| .p 4 <| .p 5 <| .p 6 <| .r 3 <| .r 7 <| .p 8 <| .p 9 <| .r 10 <| .e true [(11,.p 12 <| .done)]);exact mixed;kernel_rfl;kernel_rfl;exact Ent.refl;exact k.out)):P:=h ⟨k⟩
theorem core_Head {F:List HP} {b:Nat} {l:List Op3} {rs:List Int} {tr:List (Int×Bool)}:FnF Tryz.prog 104 [.pointer (some ⟨b,0,none⟩)] [CoreB b l rs tr] F (fun r L'=>r= .tuple [ov (headO l rs),.bool (headB l rs)].toArray∧L'=[CoreB b l rs tr]):=by
  refine FnF.mk' Tryz.func104 rfl rfl Tryz.ntmps104 rfl ?_
  by_cases h:rs.length=l.length
  · have h0:(l.length:Int)-rs.length=0:=by omega
    repeat (first|refine go ?_|intro _|refine dr_Core_104 ?_|refine drq ?_|refine cal @core_Left ?_)
    (apply WE_ret rfl rfl zqR)
    · exact ⟨by simp [headO,headB,h],rfl⟩
    · exact entu0
  · have h0:¬(l.length:Int)-rs.length=0:=by omega
    repeat (first|refine go ?_|intro _|refine cal @core_Left ?_)
    (first|refine WO_front (CoreB b l rs tr) ?_|refine WC_front (CoreB b l rs tr) ?_|refine WE_front (CoreB b l rs tr) ?_)
    refine core_open fun p1 c1 p2 c2 bm hl=>?_
    have hlt:rs.length<l.length:=by omega
    (first|(refine WO_some (.slice p1 l.length c1) inferInstance (by omega) ?_;intro _)|(refine WC_some (.slice p1 l.length c1) inferInstance (by omega) ?_;intro _))
    repeat (first|refine go ?_|intro _|refine dr_Core_104 ?_|refine drq ?_)
    (apply WE_ret rfl rfl zqR)
    · exact ⟨by simp [headO,headB,h,hlt],rfl⟩
    · exact enx @core_in
theorem core_Commit {F:List HP} {b:Nat} {l:List Op3} {rs:List Int} {tr:List (Int×Bool)} {n:Int} (h:¬rs.length=l.length):FnF Tryz.prog 157 [.pointer (some ⟨b,0,none⟩),.int .i64 n] [CoreB b l rs tr] F
    (fun r L'=>r= .tuple [.int .i64 rs.length,.int .i64 0].toArray∧L'=[CoreB b l (rs++[n]) (mdel tr rs.length)]):=by
  refine FnF.mk' Tryz.func157 rfl rfl Tryz.ntmps157 rfl ?_
  have h0:¬(l.length:Int)-rs.length=0:=by omega
  repeat (first|refine go ?_|intro _|refine cal @core_Left ?_)
  (first|refine WO_front (CoreB b l rs tr) ?_|refine WC_front (CoreB b l rs tr) ?_|refine WE_front (CoreB b l rs tr) ?_)
  first|refine core_open fun p1 c1 p2 c2 bm hl=>?_|refine core_openO fun p1 c1 p2 c2 bm hl=>?_
  repeat (first|refine gd ?_|intro _)
  (apply WE_ret rfl rfl zqR)
  · exact ⟨rfl,rfl⟩
  · exact enx @core_in
def aheadIn (l:List Op3) (rs:List Int) (d:Int):Bool:=decide (1≤d∧d≤4∧(rs.length:Int)+d<l.length)&& !decide ((l.getD ((rs.length:Int)+d).toNat .zero).kind=4)
def aheadB (l:List Op3) (rs:List Int) (tr:List (Int×Bool)) (d:Int):Bool:=aheadIn l rs d&& !(mget tr ((rs.length:Int)+d)).getD false
def aheadO (l:List Op3) (rs:List Int) (tr:List (Int×Bool)) (d:Int):Op3:=if aheadB l rs tr d then l.getD ((rs.length:Int)+d).toNat .zero else .zero
theorem core_Ahead {F:List HP} {b:Nat} {l:List Op3} {rs:List Int} {tr:List (Int×Bool)} {d:Int}:FnF Tryz.prog 114 [.pointer (some ⟨b,0,none⟩),.int .i64 d] [CoreB b l rs tr] F
    (fun r L'=>r= .tuple [ov (aheadO l rs tr d),.bool (aheadB l rs tr d)].toArray∧L'=[CoreB b l rs tr]):=by
  refine FnF.mk' Tryz.func114 rfl rfl Tryz.ntmps114 rfl ?_
  refine core_open fun p1 c1 p2 c2 bm hl=>?_
  by_cases h1:d<1
  · have e:aheadB l rs tr d=false:=by simp [aheadB,aheadIn];omega
    repeat (first|refine gd ?_|intro _)
    (apply WE_ret rfl rfl zqR)
    · exact ⟨by simp [aheadO,e],rfl⟩
    · exact enx @core_in
  · by_cases h2:4<d
    · have e:aheadB l rs tr d=false:=by simp [aheadB,aheadIn];omega
      repeat (first|refine gd ?_|intro _)
      (apply WE_ret rfl rfl zqR)
      · exact ⟨by simp [aheadO,e],rfl⟩
      · exact enx @core_in
    · by_cases h3:(l.length:Int)≤(rs.length:Int)+d
      · have e:aheadB l rs tr d=false:=by simp [aheadB,aheadIn];omega
        repeat (first|refine gd ?_|intro _)
        (apply WE_ret rfl rfl zqR)
        · exact ⟨by simp [aheadO,e],rfl⟩
        · exact enx @core_in
      · have hlt:((rs.length:Int)+d).toNat<l.length:=by omega
        have hg:l.getD ((rs.length:Int)+d).toNat .zero=l[((rs.length:Int)+d).toNat]:=by simp [hlt]
        by_cases h4:l[((rs.length:Int)+d).toNat].kind=4
        · have e:aheadB l rs tr d=false:=by simp only [aheadB,aheadIn,hg,h4];simp
          repeat (first|refine gd ?_|intro _)
          (apply WE_ret rfl rfl zqR)
          · exact ⟨by simp [aheadO,e],rfl⟩
          · exact enx @core_in
        · have hI:aheadIn l rs d=true:=by simp only [aheadIn,hg,h4];simp;omega
          cases ht:(mget tr ((rs.length:Int)+d)).getD false with
          |true=>
           have e:aheadB l rs tr d=false:=by simp [aheadB,ht]
           repeat (first|refine gd ?_|intro _)
           (apply WE_ret rfl rfl zqR)
           · exact ⟨by simp [aheadO,e],rfl⟩
           · exact enx @core_in
          |false=>
           have e:aheadB l rs tr d=true:=by simp [aheadB,ht,hI]
           repeat (first|refine gd ?_|intro _)
           (apply WE_ret rfl rfl zqR)
           · exact ⟨by simp only [aheadO,e,if_true,hg];rfl,rfl⟩
           · exact enx @core_in
theorem dr_Core_115 {Q P:Prop} (k:Q) (h:Hid Q→P:=by
  intro k
  first
  |(refine is_draw ?_;apply WC_mix (id:=4) .true _ (pl:= .p 0 <| .p 1 <| .p 2 <| .p 4 <| .p 5 <| .p 6 <| .p 9 <| .r 3 <| .r 7 <| .p 8 <| .p 10 <| .e true [(11,.done)]);exact mixed;kernel_rfl;kernel_rfl;exact Ent.refl;exact k.out)):P:=h ⟨k⟩
theorem core_Try {F:List HP} {b:Nat} {l:List Op3} {rs:List Int} {tr:List (Int×Bool)} {d:Int} (h:aheadB l rs tr d=true):FnF Tryz.prog 115 [.pointer (some ⟨b,0,none⟩),.int .i64 d] [CoreB b l rs tr] F
    (fun r L'=>r= .int .i64 0∧L'=[CoreB b l rs (mset tr ((rs.length:Int)+d) true)]):=by
  have hA:=fun F=>core_Ahead (F:=F) (b:=b) (l:=l) (rs:=rs) (tr:=tr) (d:=d)
  simp only [h] at hA
  have hI:1≤d∧d≤4∧(rs.length:Int)+d<l.length:=by simp [aheadB,aheadIn] at h;omega
  refine FnF.mk' Tryz.func115 rfl rfl Tryz.ntmps115 rfl ?_
  repeat (first|refine go ?_|intro _|refine cal @hA ?_)
  (first|refine WO_front (CoreB b l rs tr) ?_|refine WC_front (CoreB b l rs tr) ?_|refine WE_front (CoreB b l rs tr) ?_)
  first|refine core_open fun p1 c1 p2 c2 bm hl=>?_|refine core_openO fun p1 c1 p2 c2 bm hl=>?_
  repeat (first|refine go ?_|intro _|refine dr_Core_115 ?_|refine drq ?_)
  (apply WE_ret rfl rfl zqR)
  · exact ⟨rfl,rfl⟩
  · exact enx @core_in
end Go.Sx

/- What is set of a line is told of it. Plain facts. My own work. -/
namespace Go.Sx
open Go Go.Proofs
theorem find_at {c:Cfg} {l:List Way} {line:Int} (hI:ArrInv c l) {k:Nat} (hk:k<l.length) (h:pHas line l[k]=true):arrF c line≤k∧arrP c l line=((k-arrF c line:Nat):Int):=by
  obtain ⟨h1,h2⟩:=pHas_iff.1 h
  obtain ⟨a1,a2,a3,a4⟩:=hI k hk h1
  rw [h2] at a1 a2 a3
  refine ⟨a2,?_⟩
  by_cases hneg:arrP c l line<0
  · exfalso
    have:=arrP_no hneg (k-arrF c line) (by omega) a1 (by omega)
    simp only [show arrF c line+(k-arrF c line)=k by omega] at this
    rw [this] at h;cases h
  · obtain ⟨i,hi⟩:∃ i:Nat,arrP c l line=i:=⟨(arrP c l line).toNat,by omega⟩
    obtain ⟨b1,_,b2,_⟩:=arrP_at hi
    obtain ⟨b3,b4⟩:=pHas_iff.1 b2
    have:=a4 _ b1 b3 (by rw [b4,h2])
    omega
theorem find_no {c:Cfg} {l:List Way} {line:Int} (h:∀ k (hk:k<l.length),pHas line l[k]=false):arrP c l line= -1:=by
  by_cases hneg:arrP c l line<0
  · have:=(arrP_lt c l line).1;omega
  · obtain ⟨i,hi⟩:∃ i:Nat,arrP c l line=i:=⟨(arrP c l line).toNat,by omega⟩
    obtain ⟨b1,_,b2,_⟩:=arrP_at hi
    rw [h _ b1] at b2;cases b2
theorem not_has {c:Cfg} {l:List Way} {line:Int} (hI:ArrInv c l) (h:arrP c l line<0) {j:Nat} (hj:j<l.length):pHas line l[j]=false:=by
  cases e:pHas line l[j] with
  |false=>rfl
  |true=>have:=(find_at hI hj e).2;omega
theorem find_other {c:Cfg} {l:List Way} {line:Int} {k:Nat} {w:Way} (hI:ArrInv c l) (hI2:ArrInv c (l.set k w)) (hk:k<l.length) (h1:pHas line l[k]=false) (h2:pHas line w=false) :
    arrP c (l.set k w) line=arrP c l line∧findW c (l.set k w) line=findW c l line:=by
  by_cases hneg:arrP c l line<0
  · have e1:arrP c l line= -1:=by have:=(arrP_lt c l line).1;omega
    have e2:arrP c (l.set k w) line= -1:=find_no fun j hj=>by
      rw [List.length_set] at hj
      by_cases e:k=j
      · subst e;rw [List.getElem_set_self];exact h2
      · rw [List.getElem_set_ne e];exact not_has hI hneg hj
    refine ⟨by rw [e1,e2],?_⟩
    unfold findW
    rw [if_pos (by omega),if_pos (by omega)]
  · obtain ⟨i,hi⟩:∃ i:Nat,arrP c l line=i:=⟨(arrP c l line).toNat,by omega⟩
    obtain ⟨b1,_,b2,_⟩:=arrP_at hi
    have hne:k≠arrF c line+i:=fun e=>by subst e;rw [b2] at h1;cases h1
    have b3:arrF c line+i<(l.set k w).length:=by rw [List.length_set];exact b1
    have b4:(l.set k w)[arrF c line+i]=l[arrF c line+i]:=List.getElem_set_ne hne _
    have e2:arrP c (l.set k w) line=i:=by
      rw [(find_at hI2 b3 (by rw [b4];exact b2)).2];omega
    exact ⟨by rw [hi,e2],by rw [findW_at e2 b3,b4,findW_at hi b1]⟩
theorem has_line {line line':Int} {w:Way} (h:pHas line' w=true) (hne:line'≠line):pHas line w=false:=by
  cases e:pHas line w with
  |false=>rfl
  |true=>exact absurd ((pHas_iff.1 h).2.symm.trans (pHas_iff.1 e).2) hne
theorem lay_other {c:Cfg} {l:List Way} {line line' way:Int} (hI:ArrInv c l) (hx:line'≠line):arrP c (layL c l line' way) line=arrP c l line∧findW c (layL c l line' way) line=findW c l line:=by
  have hI2:=layL_inv (line:=line') (way:=way) hI
  unfold layL at hI2 ⊢
  by_cases h:layE c l line' way=0
  · rw [if_pos h] at hI2 ⊢
    unfold layE at h
    split at h
    · rename_i h0
      split at h
      · split at h
        · cases h
        · rename_i hp ht
          have hok:okLine c line'=true:=by
            cases e:okLine c line' with
            |true=>rfl
            |false=>rw [waysOf_no e] at h0;simp at h0;omega
          obtain ⟨k,hk⟩:∃ k:Nat,way=k:=⟨way.toNat,by omega⟩
          subst hk
          have hkl:k<(waysOf c l line').length:=by omega
          obtain ⟨h2,eg⟩:=ways_get hok hkl
          rw [Int.toNat_natCast,←getD_at hkl,eg] at ht
          rw [Int.toNat_natCast] at hI2 ⊢
          refine find_other hI hI2 h2 ?_ ?_
          · simp [pHas,ht]
          · simp [pHas,hx]
      · cases h
    · cases h
  · rw [if_neg h];exact ⟨rfl,rfl⟩
theorem turn_other {c:Cfg} {l:List Way} {line line':Int} {w:Way} (hI:ArrInv c l) (hp:¬arrP c l line'= -1) (hl:w.line=(findW c l line').line) (hx:line'≠line) :
    arrP c (l.set (arrF c line'+(arrP c l line').toNat) w) line=arrP c l line∧findW c (l.set (arrF c line'+(arrP c l line').toNat) w) line=findW c l line:=by
  have hI2:=turn_inv hI hp hl
  have h0:0≤arrP c l line':=by have:=(arrP_lt c l line').1;omega
  obtain ⟨i,hi⟩:∃ i:Nat,arrP c l line'=i:=⟨(arrP c l line').toNat,by omega⟩
  obtain ⟨b1,_,b2,_⟩:=arrP_at hi
  rw [findW_at hi b1] at hl
  rw [hi,Int.toNat_natCast] at hI2 ⊢
  refine find_other hI hI2 b1 (has_line b2 hx) ?_
  have:=(pHas_iff.1 b2).2
  simp [pHas,hl,this,hx]
theorem set_other {c:Cfg} {l:List Way} {line line' st:Int} {w:Words} (hI:ArrInv c l) (hx:line'≠line):arrP c (setL c l line' st w) line=arrP c l line∧findW c (setL c l line' st w) line=findW c l line:=by
  unfold setL
  split
  · rename_i h
    exact turn_other hI (fun hp=>by unfold setE at h;rw [if_pos hp] at h;cases h) rfl hx
  · exact ⟨rfl,rfl⟩
theorem lock_other {c:Cfg} {l:List Way} {line line':Int} {lk:Bool} (hI:ArrInv c l) (hx:line'≠line):arrP c (lockL c l line' lk) line=arrP c l line∧findW c (lockL c l line' lk) line=findW c l line:=by
  unfold lockL
  split
  · rename_i h
    exact turn_other hI (fun hp=>by unfold lockE at h;rw [if_pos hp] at h;cases h) rfl hx
  · exact ⟨rfl,rfl⟩
theorem turn_self {c:Cfg} {l:List Way} {line:Int} {i:Nat} {w:Way} (hI:ArrInv c l) (hi:arrP c l line=i) (hl:w.line=line) :
    (thereB w=true→arrP c (l.set (arrF c line+i) w) line=i∧findW c (l.set (arrF c line+i) w) line=w)∧(thereB w=false→arrP c (l.set (arrF c line+i) w) line= -1):=by
  obtain ⟨b1,_,b2,_⟩:=arrP_at hi
  have hfl:=(pHas_iff.1 b2).2
  have hI2:=turn_inv (w:=w) hI (by omega:¬arrP c l line= -1) (by rw [findW_at hi b1,hfl,hl])
  rw [hi,Int.toNat_natCast] at hI2
  have b3:arrF c line+i<(l.set (arrF c line+i) w).length:=by rw [List.length_set];exact b1
  constructor
  · intro ht
    have e2:arrP c (l.set (arrF c line+i) w) line=i:=by
      rw [(find_at hI2 b3 (by rw [List.getElem_set_self];exact pHas_iff.2 ⟨ht,hl⟩)).2];omega
    exact ⟨e2,by rw [findW_at e2 b3,List.getElem_set_self]⟩
  · intro ht
    refine find_no fun j hj=>?_
    rw [List.length_set] at hj
    by_cases e:arrF c line+i=j
    · subst e;rw [List.getElem_set_self];simp [pHas,ht]
    · rw [List.getElem_set_ne e]
      cases ej:pHas line l[j] with
      |false=>rfl
      |true=>have:=find_at hI hj ej;omega
theorem find_line {c:Cfg} {l:List Way} {line:Int} {i:Nat} (hi:arrP c l line=i):(findW c l line).line=line:=by
  obtain ⟨b1,_,b2,_⟩:=arrP_at hi
  rw [findW_at hi b1]
  exact (pHas_iff.1 b2).2
theorem find_is {c:Cfg} {l:List Way} {line:Int} {i:Nat} (hi:arrP c l line=i):findB c l line=true∧findI c l line=i:=by
  unfold findB findI
  rw [hi]
  exact ⟨by simp,if_neg (by omega)⟩
theorem find_isnt {c:Cfg} {l:List Way} {line:Int} (hi:arrP c l line= -1):findB c l line=false∧findI c l line=0∧findW c l line= .zero:=by
  unfold findB findI findW
  rw [hi]
  exact ⟨rfl,rfl,rfl⟩
theorem set_self {c:Cfg} {l:List Way} {line st:Int} {w:Words} (hI:ArrInv c l) (he:setE c l line st w=0) :
    findB c l line=true∧(((findW c l line).lk=true∨st≠0)→findB c (setL c l line st w) line=true∧findI c (setL c l line st w) line=findI c l line∧findW c (setL c l line st w) line=⟨st,line,if st=0 then .zero else w,(findW c l line).lk⟩)∧
    (((findW c l line).lk=false∧st=0)→findB c (setL c l line st w) line=false∧findI c (setL c l line st w) line=0∧findW c (setL c l line st w) line= .zero):=by
  have hp:¬arrP c l line= -1:=fun hp=>by unfold setE at he;rw [if_pos hp] at he;cases he
  have h0:0≤arrP c l line:=by have:=(arrP_lt c l line).1;omega
  obtain ⟨i,hi⟩:∃ i:Nat,arrP c l line=i:=⟨(arrP c l line).toNat,by omega⟩
  have hl:=find_line hi
  have e1:setL c l line st w=l.set (arrF c line+i) { findW c l line with st:=st,words:=if st=0 then .zero else w}:=by
    unfold setL;rw [if_pos he,hi,Int.toNat_natCast]
  rw [e1]
  obtain ⟨t1,t2⟩:=turn_self (w:={ findW c l line with st:=st,words:=if st=0 then .zero else w}) hI hi hl
  refine ⟨(find_is hi).1,fun h=>?_,fun h=>?_⟩
  · obtain ⟨u1,u2⟩:=t1 (by rcases h with h|h<;>simp [thereB,h])
    refine ⟨(find_is u1).1,by rw [(find_is u1).2,(find_is hi).2],?_⟩
    rw [u2]
    show (⟨st,(findW c l line).line,_,_⟩:Way)=_
    rw [hl]
  · exact find_isnt (t2 (by simp [thereB,h.1,h.2]))
end Go.Sx

/- One line of a machine, told alone: what is on its way, who may have it, and what stays so. My own work. -/
namespace Go.Sx
inductive AM (W:Type) where
  |get (k r:Int)
  |put (r:Int) (w:W)
  |fwd (k o r n:Int)
  |inv (c r:Int)
  |data (r own n:Int) (w:W)
  |grant (r n:Int)
  |ack (r:Int)
  |pack (r:Int)
  |done (r:Int)
structure AMs (W:Type) where
  kind:Int
  needs:Int
  got:Int
  own:Int
  w:W
  gr:Bool
  ow:Bool
section
variable {W:Type}
def isGet (r:Int):AM W→Bool| .get _ r'=>decide (r'=r)|_=>false
def isPut (r:Int):AM W→Bool| .put r' _=>decide (r'=r)|_=>false
def isPack (r:Int):AM W→Bool| .pack r'=>decide (r'=r)|_=>false
def isTok:AM W→Bool| .fwd .. =>true| .data .. =>true| .grant .. =>true|_=>false
def isIA:AM W→Bool| .inv .. =>true| .ack .. =>true|_=>false
def isDone:AM W→Bool| .done .. =>true|_=>false
def tokR:AM W→Int| .fwd _ _ r _=>r| .data r _ _ _=>r| .grant r _=>r|_=>0
def tokN:AM W→Int| .fwd _ _ _ n=>n| .data _ _ n _=>n| .grant _ n=>n|_=>0
structure LV (W:Type) where
  st:Int→Int
  wd:Int→W
  ms:Int→Option (AMs W)
  bf:Int→Option (W×Bool)
  rq:List (AM W)
  fly:List (AM W)
  act:Option (Int×Int)
  o:Int
  sh:Int→Bool
  mem:W
  now:W
def LV.cg (v:LV W) (r:Int):Nat:=v.rq.countP (isGet r)
def LV.cp (v:LV W) (r:Int):Nat:=v.rq.countP (isPut r)
def LV.ck (v:LV W) (r:Int):Nat:=v.fly.countP (isPack r)
def LV.ct (v:LV W):Nat:=v.fly.countP isTok
def LV.ci (v:LV W):Nat:=v.fly.countP isIA
def LV.cd (v:LV W):Nat:=v.fly.countP isDone
def LV.holds (v:LV W) (c:Int):Prop:=2≤v.st c∨∃ w,v.bf c=some (w,true)∧v.cp c=1
def LV.busy (v:LV W) (r:Int):Prop:=∃ k,v.act=some (k,r)∧v.cd=0
structure LI (v:LV W):Prop where
  rqk:∀ x∈v.rq,(∃ k r,x= .get k r)∨∃ r w,x= .put r w:=by intro x hx;have:=h.rqk x;exact zqE
  g0:∀ r,v.ms r=none→v.cg r=0:=by intro r1 h1;have:=h.g0 r1;exact zqE
  g1:∀ r m,v.ms r=some m→¬v.busy r→v.cg r=1∧m.needs= -1∧m.got=0∧m.gr=false∧m.ow=false:=by intro r1 m1 h1 h2;have:=h.g1 r1 m1;exact zqE
  gk:∀ k r,.get k r∈v.rq→∃ m,v.ms r=some m∧m.kind=k:=by intro k1 r1 h1;have:=h.gk k1 r1;exact zqE
  gA:∀ r,v.busy r→v.cg r=0:=by intro r1 h1;have:=h.gA r1;exact zqE
  aK:∀ k r,v.act=some (k,r)→(k=1∨k=2)∧0≤r:=by intro k1 r1 h1;have:=h.aK k1 r1;exact zqE
  mK:∀ r m,v.ms r=some m→m.kind=1∨m.kind=2:=by intro r1 m1 h1;have:=h.mK r1 m1;exact zqE
  ml:∀ r m,v.ms r=some m→m.ow=false→(m.kind=1→v.st r=0)∧(m.kind=2→v.st r≠2∧v.st r≠4):=by intro r1 m1 h1 h2;have:=h.ml r1 m1;exact zqE
  b0:∀ r,v.bf r=none→v.cp r=0∧v.ck r=0:=by intro r1 h1;have:=h.b0 r1;exact zqE
  b1:∀ r w l,v.bf r=some (w,l)→v.cp r+v.ck r=1∧v.st r=0∧v.ms r=none:=by intro r1 w1 l1 h1;have:=h.b1 r1 w1 l1;exact zqE
  bw:∀ r w,.put r w∈v.rq→∃ l,v.bf r=some (w,l):=by intro r1 w1 h1;have:=h.bw r1 w1;exact zqE
  bl:∀ r w,v.bf r=some (w,true)→v.cp r=1→w=v.now∧(v.o=r∨∃ r' n,.fwd 2 r r' n∈v.fly):=by intro r1 w1 h1 h2;have:=h.bl r1 w1;exact zqE
  f0:v.act=none→∀ x∈v.fly,∃ r,x= .pack r:=by intro h1 x hx;have:=h.f0;exact zqE
  f1:∀ r,v.act=some (1,r)→∀ x∈v.fly,(∃ c,x= .pack c)∨(∃ o,x= .fwd 1 o r 0)∨(∃ own w,x= .data r own 0 w∧(own=1∨own=2))∨x= .done r:=by intro r1 h1 x hx;have:=h.f1 r1;exact zqE
  f2:∀ r,v.act=some (2,r)→∀ x∈v.fly,(∃ c,x= .pack c)∨(∃ o n,x= .fwd 2 o r n)∨(∃ n w,x= .data r 4 n w)∨(∃ n,x= .grant r n)∨(∃ c,x= .inv c r)∨x= .ack r∨x= .done r:=by intro r1 h1 x hx;have:=h.f2 r1;exact zqE
  p:∀ k r,v.act=some (k,r)→
   (∃ m,v.ms r=some m∧m.kind=k∧m.needs= -1∧0≤m.got∧m.ow=false∧m.gr=false∧v.ct=1∧v.cd=0∧∀ x∈v.fly,isTok x=true→tokN x=m.got+v.ci)
   ∨(∃ m,v.ms r=some m∧m.kind=k∧0≤m.got∧m.needs=m.got+v.ci∧m.ow=false∧v.ct=0∧v.cd=0∧(k=1→m.own=1∨m.own=2)∧(k=2→m.own=4)∧(m.gr=false→m.w=v.now)∧(m.gr=true→k=2∧v.st r=3)
    ∧(m.own=1→(∀ c,v.st c≠2∧v.st c≠4)∧v.sh r=true∧v.o≠r)∧(m.own=2→(∀ c,v.st c=0)∧v.o=r)∧(m.own=4→v.o=r∧(m.gr=false→∀ c,v.st c<2)))
   ∨(∃ m,v.ms r=some m∧m.kind=k∧0≤m.got∧m.needs=m.got∧m.ow=true∧v.ct=0∧v.cd=0∧v.ci=0∧(k=1→v.st r≠0)∧(k=2→2≤v.st r))
   ∨(v.ct=0∧v.cd=1∧v.ci=0):=by intro k1 r1 h1;have:=h.p k1 r1;exact zqE
  a2:∀ r,v.act=some (2,r)→v.o=r∧∀ c,v.sh c=false:=by intro r1 h1;have:=h.a2 r1;exact zqE
  tf:∀ k o r n,.fwd k o r n∈v.fly→o≠r∧v.st r<2∧v.holds o∧(k=1→v.o=o∧v.sh r=true)∧(k=2→v.o=r):=by intro k1 o1 r1 n1 h1;have:=h.tf k1 o1 r1 n1;exact zqE
  td:∀ r own n w,.data r own n w∈v.fly→w=v.now∧(own=1∨own=2∨own=4)∧(own=1→(∀ c,v.st c≠2∧v.st c≠4)∧v.sh r=true∧v.o≠r)∧(own=2→(∀ c,v.st c=0)∧v.o=r)∧(own=4→(∀ c,v.st c<2)∧v.o=r):=by intro r1 own1 n1 w1 h1;have:=h.td r1 own1 n1 w1;exact zqE
  tg:∀ r n,.grant r n∈v.fly→v.st r=3∧v.o=r:=by intro r1 n1 h1;have:=h.tg r1 n1;exact zqE
  iv:∀ c r,.inv c r∈v.fly→c≠r∧v.st c<2:=by intro c1 r1 h1;have:=h.iv c1 r1;exact zqE
  e:∀ c,2≤v.st c→v.o=c∨∃ r n,.fwd 2 c r n∈v.fly:=by intro c1 h1;have:=h.e c1;exact zqE
  h:v.o≠ -1→v.holds v.o∨(∃ own n w,own≠1∧ .data v.o own n w∈v.fly)∨(∃ o' n,.fwd 2 o' v.o n∈v.fly)∨∃ m,v.ms v.o=some m∧m.needs≠ -1∧m.ow=false:=by intro h1;have:=h.h;exact zqE
  s:∀ c,v.st c=2∨v.st c=4→∀ c',c'≠c→v.st c'=0:=by intro c1 h1 c2 h2;have:=h.s c1;exact zqE
  wn:∀ c,v.st c≠0→v.wd c=v.now:=by intro c1 h1;have:=h.wn c1;exact zqE
  mn:v.o= -1→v.mem=v.now:=by intro h1;have:=h.mn;exact zqE
  k:∀ c,v.st c≠0→v.o=c∨v.sh c=true∨∃ r,v.act=some (2,r)∧(.inv c r∈v.fly∨∃ n,.fwd 2 c r n∈v.fly):=by intro c1 h1;have:=h.k c1;exact zqE
  r:∀ c,0≤v.st c∧v.st c≤4:=by intro c1;have:=h.r c1;exact zqE
  rg:∀ c,c<0→v.st c=0∧v.bf c=none∧v.ms c=none:=by intro c1 h1;have:=h.rg c1;exact zqE
theorem perm_cnt {l l':List (AM W)} {x:AM W} (h:l.Perm (x::l')) (p:AM W→Bool):l.countP p=l'.countP p+if p x=true then 1 else 0:=by
  rw [h.countP_eq,List.countP_cons]
theorem perm_mem {l l':List (AM W)} {x:AM W} (h:l.Perm (x::l')) (y:AM W):y∈l↔y=x∨y∈l':=by
  rw [h.mem_iff,List.mem_cons]
section
variable {v v':LV W} {R:List (AM W)} {b:AM W}
theorem fly_a (h:v.fly.Perm (b::R)):(∀ y,y∈v.fly↔y=b∨y∈R)∧(∀ x,v.ck x=R.countP (isPack x)+if isPack x b=true then 1 else 0)∧(v.ct=R.countP (isTok)+if isTok b=true then 1 else 0)∧(v.ci=R.countP (isIA)+if isIA b=true then 1 else 0)∧v.cd=R.countP (isDone)+if isDone b=true then 1 else 0:=⟨fun y=>perm_mem h y,fun x=>perm_cnt h _,perm_cnt h _,perm_cnt h _,perm_cnt h _⟩
theorem fly_b (h:v'.fly.Perm (b::v.fly)):(∀ y,y∈v'.fly↔y=b∨y∈v.fly)∧(∀ x,v'.ck x=v.ck x+if isPack x b=true then 1 else 0)∧(v'.ct=v.ct+if isTok b=true then 1 else 0)∧(v'.ci=v.ci+if isIA b=true then 1 else 0)∧v'.cd=v.cd+if isDone b=true then 1 else 0:=⟨fun y=>perm_mem h y,fun x=>perm_cnt h _,perm_cnt h _,perm_cnt h _,perm_cnt h _⟩
theorem fly_c (h:v'.fly.Perm v.fly):(∀ y,y∈v'.fly↔y∈v.fly)∧(∀ x,v'.ck x=v.ck x)∧v'.ct=v.ct∧v'.ci=v.ci∧v'.cd=v.cd:=⟨fun y=>h.mem_iff,fun x=>h.countP_eq _,h.countP_eq _,h.countP_eq _,h.countP_eq _⟩
theorem fly_d (h:v'.fly.Perm R):(∀ y,y∈v'.fly↔y∈R)∧(∀ x,v'.ck x=R.countP (isPack x))∧v'.ct=R.countP (isTok)∧v'.ci=R.countP (isIA)∧v'.cd=R.countP (isDone):=⟨fun y=>h.mem_iff,fun x=>h.countP_eq _,h.countP_eq _,h.countP_eq _,h.countP_eq _⟩
theorem rq_c (h:v'.rq.Perm v.rq):(∀ y,y∈v'.rq↔y∈v.rq)∧(∀ x,v'.cg x=v.cg x)∧∀ x,v'.cp x=v.cp x:=⟨fun y=>h.mem_iff,fun x=>h.countP_eq _,fun x=>h.countP_eq _⟩
theorem rq_d (h:v'.rq.Perm R):(∀ y,y∈v'.rq↔y∈R)∧(∀ x,v'.cg x=R.countP (isGet x))∧∀ x,v'.cp x=R.countP (isPut x):=⟨fun y=>h.mem_iff,fun x=>h.countP_eq _,fun x=>h.countP_eq _⟩
theorem rq_a (h:v.rq.Perm (b::R)):(∀ y,y∈v.rq↔y=b∨y∈R)∧(∀ x,v.cg x=R.countP (isGet x)+if isGet x b=true then 1 else 0)∧∀ x,v.cp x=R.countP (isPut x)+if isPut x b=true then 1 else 0:=⟨fun y=>perm_mem h y,fun x=>perm_cnt h _,fun x=>perm_cnt h _⟩
end
theorem cnt_pos {l:List (AM W)} {x:AM W} {p:AM W→Bool} (hx:x∈l) (hp:p x=true):1≤l.countP p:=List.countP_pos_iff.2 ⟨x,hx,hp⟩
theorem cnt_uni {l:List (AM W)} {p:AM W→Bool} (h:l.countP p≤1) {x y:AM W} (hx:x∈l) (hy:y∈l) (px:p x=true) (py:p y=true):x=y:=by
  induction l with
  |nil=>cases hx
  |cons a l ih=>
   rw [List.countP_cons] at h
   rcases List.mem_cons.1 hx with rfl|hx'
   · rcases List.mem_cons.1 hy with rfl|hy'
     · rfl
     · have:=cnt_pos hy' py
       rw [if_pos px] at h;omega
   · rcases List.mem_cons.1 hy with rfl|hy'
     · have:=cnt_pos hx' px
       rw [if_pos py] at h;omega
     · exact ih (by omega) hx' hy'
theorem cp_pos {v:LV W} {r:Int} {w:W} (hx: .put r w∈v.rq):1≤v.cp r:=cnt_pos hx (by simp [isPut])
theorem cg_pos {v:LV W} {k r:Int} (hx: .get k r∈v.rq):1≤v.cg r:=cnt_pos hx (by simp [isGet])
theorem ct_pos {v:LV W} {x:AM W} (hx:x∈v.fly) (hp:isTok x=true):1≤v.ct:=cnt_pos hx hp
theorem ci_pos {v:LV W} {x:AM W} (hx:x∈v.fly) (hp:isIA x=true):1≤v.ci:=cnt_pos hx hp
theorem cd_pos {v:LV W} {x:AM W} (hx:x∈v.fly) (hp:isDone x=true):1≤v.cd:=cnt_pos hx hp
theorem tok_act {v:LV W} (h:LI v) {x:AM W} (hx:x∈v.fly) (ht:isTok x=true):∃ k r m,v.act=some (k,r)∧0≤r∧v.ms r=some m∧m.kind=k∧m.needs= -1∧m.ow=false∧m.gr=false∧0≤m.got∧v.ct=1∧v.cd=0∧tokN x=m.got+v.ci∧tokR x=r:=by
  have h1:=ct_pos hx ht
  cases e:v.act with
  |none=>obtain ⟨r,rfl⟩:=h.f0 e x hx;simp [isTok] at ht
  |some a=>
   obtain ⟨k,r⟩:=a
   obtain ⟨hk,hr⟩:=h.aK k r e
   rcases h.p k r e with ⟨m,g1,g2,g3,g4,g5,g6,g7,g8,g9⟩|⟨m,g⟩|⟨m,g⟩|g
   · refine ⟨k,r,m,rfl,hr,g1,g2,g3,g5,g6,g4,g7,g8,g9 x hx ht,?_⟩
     rcases hk with rfl|rfl
     · have:=h.f1 r e x hx;grind [isTok,tokR]
     · have:=h.f2 r e x hx;grind [isTok,tokR]
   · omega
   · omega
   · omega
theorem tok_uni {v:LV W} (h:LI v) {x y:AM W} (hx:x∈v.fly) (hy:y∈v.fly) (tx:isTok x=true) (ty:isTok y=true):x=y:=by
  obtain ⟨_,_,_,_,_,_,_,_,_,_,_,h1,_⟩:=tok_act h hx tx
  exact cnt_uni (p:=isTok) (by show v.ct≤1;omega) hx hy tx ty
theorem own_uni {v:LV W} (h:LI v) {c d:Int} (hc:2≤v.st c) (hd:2≤v.st d∨∃ w,v.bf d=some (w,true)∧v.cp d=1):c=d:=by
  have e1:=h.e c hc
  have e2:v.o=d∨∃ r n,.fwd 2 d r n∈v.fly:=by
    rcases hd with hd|⟨w,h1,h2⟩
    · exact h.e d hd
    · exact (h.bl d w h1 h2).2
  have hd':v.ms d=none∨2≤v.st d:=by
    rcases hd with hd|⟨w,h1,h2⟩
    · exact .inr hd
    · exact .inl (h.b1 d w _ h1).2.2
  rcases e1 with e1|⟨r,n,e1⟩
  · rcases e2 with e2|⟨r',n',e2⟩
    · omega
    · have:=h.tf _ _ _ _ e2;grind
  · have t1:=h.tf _ _ _ _ e1
    obtain ⟨k,r0,m,_,_,g,_,_,_,_,_,_,_,_,g2⟩:=tok_act h e1 rfl
    rcases e2 with e2|⟨r',n',e2⟩
    · have:r=r0:=g2
      grind
    · have:=tok_uni h e1 e2 rfl rfl
      cases this;rfl
theorem rest_fly {v:LV W} (h:LI v) (ha:v.act=none):(∀ x∈v.fly,isTok x=false∧isIA x=false∧isDone x=false)∧v.ct=0∧v.ci=0∧v.cd=0:=by
  have hfr:∀ x∈v.fly,isTok x=false∧isIA x=false∧isDone x=false:=fun x hx=>by obtain ⟨c,rfl⟩:=h.f0 ha x hx;exact ⟨rfl,rfl,rfl⟩
  exact ⟨hfr,List.countP_eq_zero.2 fun x hx=>by simp [(hfr x hx).1],List.countP_eq_zero.2 fun x hx=>by simp [(hfr x hx).2.1],List.countP_eq_zero.2 fun x hx=>by simp [(hfr x hx).2.2]⟩
theorem rest_busy {v:LV W} (ha:v.act=none) (r:Int):¬v.busy r:=fun ⟨k,e,_⟩=>by rw [ha] at e;cases e
theorem rest_own {v:LV W} (h:LI v) (ha:v.act=none) (hO:v.o≠ -1):v.holds v.o:=by
  have hfr:=(rest_fly h ha).1
  rcases h.h hO with g|⟨own,n,w,_,g⟩|⟨o',n,g⟩|⟨m,g1,g2,g3⟩
  · exact g
  · have:=(hfr _ g).1;simp [isTok] at this
  · have:=(hfr _ g).1;simp [isTok] at this
  · exact absurd (h.g1 _ m g1 (rest_busy ha _)).2.1 g2
theorem inv_cnt {r:Int} (p:AM W→Bool) (b:Bool) (h:∀ c,p (.inv c r)=b) (l:List Int):(l.map fun c=>AM.inv c r).countP p=if b then l.length else 0:=by
  induction l with
  |nil=>cases b<;>rfl
  |cons a l ih=>
   rw [List.map_cons,List.countP_cons,ih,h]
   cases b<;>simp
end
end Go.Sx
