/- The automatic walk: contracts in a frame, loops whose kept slots are read off, and the steps as one rule. My own work; names no program. -/
import Derived.Test.YtjihlpjnebdiiaaGreatZr
import Derived.Test.YtjihlpjnebdiiaaGreatSl
import Derived.Test.YtjihlpjnebdiiaaGreatTy
import Derived.Test.YtjihlpjnebdiiaaGreatEq
import Derived.Test.YtjihlpjnebdiiaaGreatMap
import Derived.Test.YtjihlpjnebdiiaaGreatMk
set_option linter.unusedVariables false
set_option linter.unusedSectionVars false
set_option linter.unusedSimpArgs false
universe u
namespace Go.Sx
open Go
theorem nn_eq {α:Sort u} {a:α}:¬¬(a=a):=fun h=>h rfl
theorem nn_ne {α:Sort u} {a:α}:¬(a≠a):=fun h=>h rfl
structure FnF (P:Program) (f:FuncId) (vs:List Value) (pre F:List HP) (post:Value→List HP→Prop):Prop where
  enters:Enters P f
  runs:∀ w,Sat (app pre F) w→Calls P f vs.toArray w (fun e w'=>∃ v L',e= .returned v∧post v L'∧Sat (app L' F) w')
section
variable {P:Program} {N:Nat}
theorem FnF.all {f:FuncId} {vs:List Value} {pre:List HP} {post:Value→List HP→Prop} (h:∀ F,FnF P f vs pre F post):FnS P f vs pre post:=⟨(h []).enters,fun F=>(h F).runs⟩
theorem FnF.mono {f:FuncId} {vs:List Value} {pre F:List HP} {post post':Value→List HP→Prop} (C:FnF P f vs pre F post) (h:∀ v L,post v L→post' v L):FnF P f vs pre F post':=
  ⟨C.enters,fun w hw=>(C.runs w hw).mono fun e w' ⟨v,L',h1,h2,h3⟩=>⟨v,L',h1,h _ _ h2,h3⟩⟩
theorem FnF.pure {f:FuncId} {vs:List Value} {pre F:List HP} {u:Value} (h:FnF P f vs [] (app pre F) (fun v L'=>v=u∧L'=[])):FnF P f vs pre F (fun v L'=>v=u∧L'=pre):=
  ⟨h.enters,fun w hw=>(h.runs w hw).mono fun e w' ⟨v,L',h1,⟨h2,h3⟩,h4⟩=>⟨v,pre,h1,⟨h2,rfl⟩,by subst h3;exact h4⟩⟩
theorem FnF.mk' {f:FuncId} {fn:Func} {c:Code} {N:Nat} {vs:List Value} {pre F:List HP} {post:Value→List HP→Prop}
    (hf:P.funcs[f]? =some fn) (hb:fn.body=some c) (hn:(fn.name == "runtime.NumGoroutine")=false) (hN:fn.ntmps=N) (hv:Nat.ble vs.length N=true)
    (h:WC P N c (envOf 0 vs) (app pre F) (FnQ P fn post F)):FnF P f vs pre F post:=by
  refine ⟨enters_of hf hb hn,fun w hw=>calls_of_wp hf hb ?_⟩
  have hle:vs.length≤N:=by simpa using hv
  refine h _ w ⟨?_,rfl,fun t v e=>?_⟩ hw
  · simp [hN];omega
  · obtain ⟨_,h2⟩:=envOf_get vs 0 t v e
    have ht:t<vs.length:=(List.getElem?_eq_some_iff.1 h2).1
    rw [Array.getD_eq_getD_getElem?,Array.getElem?_append_left (by simpa using ht)]
    simp at h2
    simp [h2]
theorem pl_nil {L:List HP}:PickL [] L L:=PickL.nil
theorem pl_cons {p:HP} {pre L L' F:List HP} (k:Pick p L L') (m:PickL pre L' F):PickL (p::pre) L F:=@PickL.cons _ _ _ _ _ k m
theorem pk_here {p:HP} {L:List HP}:Pick p (p::L) L:=Pick.here
theorem pk_there {p q:HP} {L L':List HP} (k:Pick p L L'):Pick p (q::L) (q::L'):=@Pick.there _ _ _ _ k
theorem K_callF {f:Operand} {args:List Operand} {ats:Array TypeId} {k:FuncId} {first cap:List Value} {avs vs:List Value} {pre F:List HP} {post:Value→List HP→Prop} {ty:TypeId}
    {pos:String} {aft:Array Edge} {d:Option Nat} {env:Env} {L:List HP}
    (hf:ev env f=some (.func (.func k) first.toArray cap.toArray)) (ha:evs env args=some avs) (hv:first++avs++cap=vs) (hd:dstOk N d=true) (C:FnF P k vs pre F post) (hE:PickL pre L F) :
    KO P N ⟨d,.call ⟨.value f,args.toArray,ats⟩,ty,pos,aft,none⟩ env L (Called env d F post):=by
  intro a w hA hw K Q next
  unfold Oper.wp
  rw [execOp_plain,execCall (vs:=vs) (hA.ev hf) (by rw [hA.evs ha];simpa using hv) C.enters w]
  refine (C.runs w (hE.pf.sat hw)).mono fun e w' ⟨v,L',he,hp,hs⟩=>?_
  subst he
  exact next _ _ _ w' ⟨v,L',hp,rfl,rfl⟩ (hA.puts hd v) hs
def QC (P:Program) (N:Nat) (o:Oper) (env:Env) (L:List HP) (u:Value):Prop:=∀ a,EnvOk N env a→∀ w,Sat L w→o.quietAt P a (Sat L) w u
theorem WQ_k {o:Oper} {d:Nat} {u:Value} {all:Array Oper} {rest:List Oper} {Q:Exit→Act→World→Prop} {env:Env} {L:List HP} (hg:o.guard=none) (hdst:o.dst=some d) (h:QC P N o env L u) (hd:Nat.blt d N=true)
    (next:WQ P N all rest ((d,u)::env) L Q):WQ P N all (o::rest) env L Q:=by
  intro a hA
  simp only [wpQuiet,Region.wanted,hg,if_true]
  refine ⟨u,fun w hw=>h a hA w hw,?_⟩
  rw [hdst]
  exact next _ (hA.put hd u)
theorem QC_callF {f:Operand} {args:List Operand} {ats:Array TypeId} {k:FuncId} {first cap:List Value} {avs vs:List Value} {pre F:List HP} {u:Value} {ty:TypeId}
    {pos:String} {aft:Array Edge} {d:Option Nat} {env:Env} {L:List HP}
    (hf:ev env f=some (.func (.func k) first.toArray cap.toArray)) (ha:evs env args=some avs) (hv:first++avs++cap=vs)
    (C:FnF P k vs pre F (fun v L'=>v=u∧L'=pre)) (hE:PickL pre L F):QC P N ⟨d,.call ⟨.value f,args.toArray,ats⟩,ty,pos,aft,none⟩ env L u:=by
  intro a hA w hw
  unfold Oper.quietAt
  rw [execOp_plain,execCall (vs:=vs) (hA.ev hf) (by rw [hA.evs ha];simpa using hv) C.enters w]
  refine ⟨rfl,(C.runs w (hE.pf.sat hw)).mono fun e w' ⟨v,L',he,⟨hv,hL⟩,hs⟩=>?_⟩
  subst hv hL
  exact ⟨he,hE.back.sat hs⟩
theorem WC_loopE {ι:Type} (E0:Env) (E:Env→ι→Env) (H:ι→List HP) (I:ι→Prop) (μ:ι→Nat) (i:ι) {c:Code} {env:Env} {L:List HP} {Q:Exit→Act→World→Prop}
    (hs:Sub (E E0 i) env) (hI:I i) (he:Ent L (H i)) (round:∀ j,I j→WC P N c (E E0 j) (H j) (LoopQ N (E E0) H I μ j Q)):WC P N (.loop c) env L Q:=
  WC_loop (E E0) H I μ i hI hs he round
theorem ent_pickE {p:HP} {L L' M:List HP} (k:Pick p L L') (a:Ent L' M):Ent L (p::M):=fun _ h=>star_cons a (k.pf _ h)
theorem resOk_cell {a:Nat} {t b n bs:Nat} {d:TypeDesc} {z v:Value} {T:TypeId} {l:List Value} {C:List Value→List HP} {env:Env} {L:List HP} {rs:List ResultVar} {vs:List Value} [hT:TU P t d] [hZ:TZ P t n z bs]
    (h:env.get? a=some (.pointer (some ⟨b,0,none⟩))) (k:CellsAt b L T l C) (hn:l.length=n) (hv:ofCells (isAggD d) l=some v) (r:ResOk P env L rs vs):ResOk P env L (.cell a t::rs) (v::vs):=
  ResOk.cell h (fun w hw=>run_loadVar (P:=P) (b:=b) (off:=0) hT hZ hn hv (fun j v hj=>by rw [cell_of_heap (cellsAt_heap k hw)];simpa using hj)) r
theorem WT_v {Q:Exit→Act→World→Prop} {env:Env} {L:List HP} {st:St} {ops:Array Oper} {LS:List HP} {i:Nat} {next:Plan} {held:Bool} {op:Op} {ty:TypeId} {pos:String} {aft:Array Edge} {g:Option (Nat×Bool)} {d:Nat} {v:Value} (ho:ops[i]? =some ⟨some d,op,ty,pos,aft,g⟩)
    (hg:GIn ops env g) (h:V P N op ty env L v) (hd:Nat.blt d N=true) (k:After st ops LS held i L∧WT st P N ops LS next ((d,v)::env) L Q):WT st P N ops LS (.e held [(i,next)]) env L Q:=
  WT_k (post:=fun e' L'=>e'=(d,v)::env∧L'=L) ho hg (fun a w ha hw K Q next=>by
    unfold Oper.wp
    rw [execOp_plain,h a w ha hw]
    exact next _ _ _ _ ⟨rfl,rfl⟩ (ha.put hd v) hw) (by
    rintro _ _ ⟨rfl,rfl⟩
    exact k)
theorem after_free {st:St} {ops:Array Oper} {LS L':List HP} {i:Nat} {G:Prop} (h:G):After st ops LS false i L'∧G:=⟨After.free,h⟩
theorem after_turns {st:St} {ops:Array Oper} {LS L':List HP} {i:Nat} {held:Bool} {G:Prop} (e:tOf st ops i=true) (h:G):After st ops LS held i L'∧G:=⟨After.turns e,h⟩
theorem after_still {st:St} {ops:Array Oper} {LS L':List HP} {i:Nat} {held:Bool} {G:Prop} (e:Ent L' LS) (h:G):After st ops LS held i L'∧G:=⟨After.still e,h⟩
end
set_option maxRecDepth 100000
structure Hid (Q:Prop):Prop where
  out:Q
theorem go {Q P:Prop} (k:Q) (h:Hid Q→P:=by
  intro k
  (first|refine zr ?_|refine exq ?_|(apply WO_v;exact zqV;rfl)|refine WT_done ?_|refine WT_n ?_|(apply WT_p;rfl;exact zqI;exact zqV;rfl)|(apply WT_r;rfl;exact zqI;exact zqV;rfl)|refine WC_seq ?_|refine WC_region ?_|refine WO_nil ?_|refine WE_then ?_|refine WE_rounds ?_|refine WR_succ ?_|refine WC_ret ?_|refine WE_then_ret ?_|refine WC_block ?_|refine WC_exit ?_|refine WE_block_at ?_|(refine WE_block_on ?_ ?_;rfl)|refine WE_then_exit ?_|refine WE_block ?_|refine WE_block_ret ?_|refine WE_loop_exit ?_|refine WE_loop_ret ?_|refine WC_skip ?_|(apply WC_cond_t;rfl;(with_reducible rfl))|(apply WC_cond_f;rfl;(with_reducible rfl))|refine WQ_nil ?_|(apply WO_k;rfl;exact zqK;(first|refine fresh_intro ?_|refine gives_intro ?_|refine same_intro ?_))|(apply WT_k;rfl;exact zqI;exact zqK;(first|refine fresh_intro ?_|refine gives_intro ?_|refine same_intro ?_))|(apply WT_v;rfl;exact zqI;exact zqV;rfl)|refine after_free ?_|refine after_turns rfl ?_|(refine after_still ?_ ?_;(focus (exact zqN;done)))|(apply WT_po;rfl;exact zqO;rfl)|(apply WT_ro;rfl;exact zqO;rfl)|(apply WT_ko;rfl;exact zqO;rfl;(refine ⟨by first|exact After.free|exact After.turns rfl|(refine After.still ?_;exact zqN;done),?_⟩))|(apply WQ_op;exact zqV;rfl)|(apply WO_gl_in;rfl;rfl;(with_reducible rfl);rfl;rfl)|(apply WQ_gl_in;rfl;rfl;(with_reducible rfl);rfl;rfl)|(apply WO_gl_out;rfl;rfl;(with_reducible rfl);rfl;rfl;rfl)|(apply WQ_gl_out;rfl;rfl;(with_reducible rfl);rfl;rfl;rfl)|(apply WO_gl_undef;rfl;rfl;(with_reducible rfl);rfl)|(apply WQ_gl_undef;rfl;rfl;(with_reducible rfl);rfl)|(apply WO_gi_t;rfl;rfl;rfl;rfl;(first|exact dec_t zqA|(first|(with_reducible assumption)|decide)))|(apply WO_gi_f;rfl;rfl;rfl;rfl;(first|exact dec_f zqA|(first|(with_reducible assumption)|decide)))|(apply WO_go_t;rfl;rfl;rfl;rfl;(first|exact dec_f zqA|(first|(with_reducible assumption)|decide)))|(apply WO_go_f;rfl;rfl;rfl;rfl;(first|exact dec_t zqA|(first|(with_reducible assumption)|decide)))|(apply WQ_gi_t;rfl;rfl;rfl;rfl;(first|exact dec_t zqA|(first|(with_reducible assumption)|decide)))|(apply WQ_gi_f;rfl;rfl;rfl;rfl;(first|exact dec_f zqA|(first|(with_reducible assumption)|decide)))|(apply WQ_go_t;rfl;rfl;rfl;rfl;(first|exact dec_f zqA|(first|(with_reducible assumption)|decide)))|(apply WQ_go_f;rfl;rfl;rfl;rfl;(first|exact dec_t zqA|(first|(with_reducible assumption)|decide)))|(apply WC_yes;rfl;(first|(with_reducible assumption)|(with_reducible rfl)|(with_reducible exact nn_eq)|(with_reducible exact nn_ne)|omega|decide|exact rfl))|(apply WC_no;rfl;(first|(with_reducible assumption)|(with_reducible rfl)|(with_reducible exact nn_eq)|(with_reducible exact nn_ne)|omega|decide|exact rfl))|(apply WC_bt;rfl;(first|(with_reducible assumption)|decide))|(apply WC_bf;rfl;(first|(with_reducible assumption)|decide)))
  (repeat (first|refine zr ?_|refine exq ?_|(apply WO_v;exact zqV;rfl)|refine WT_done ?_|refine WT_n ?_|(apply WT_p;rfl;exact zqI;exact zqV;rfl)|(apply WT_r;rfl;exact zqI;exact zqV;rfl)|refine WC_seq ?_|refine WC_region ?_|refine WO_nil ?_|refine WE_then ?_|refine WE_rounds ?_|refine WR_succ ?_|refine WC_ret ?_|refine WE_then_ret ?_|refine WC_block ?_|refine WC_exit ?_|refine WE_block_at ?_|(refine WE_block_on ?_ ?_;rfl)|refine WE_then_exit ?_|refine WE_block ?_|refine WE_block_ret ?_|refine WE_loop_exit ?_|refine WE_loop_ret ?_|refine WC_skip ?_|(apply WC_cond_t;rfl;(with_reducible rfl))|(apply WC_cond_f;rfl;(with_reducible rfl))|refine WQ_nil ?_|(apply WO_k;rfl;exact zqK;(first|refine fresh_intro ?_|refine gives_intro ?_|refine same_intro ?_))|(apply WT_k;rfl;exact zqI;exact zqK;(first|refine fresh_intro ?_|refine gives_intro ?_|refine same_intro ?_))|(apply WT_v;rfl;exact zqI;exact zqV;rfl)|refine after_free ?_|refine after_turns rfl ?_|(refine after_still ?_ ?_;(focus (exact zqN;done)))|(apply WT_po;rfl;exact zqO;rfl)|(apply WT_ro;rfl;exact zqO;rfl)|(apply WT_ko;rfl;exact zqO;rfl;(refine ⟨by first|exact After.free|exact After.turns rfl|(refine After.still ?_;exact zqN;done),?_⟩))|(apply WQ_op;exact zqV;rfl)|(apply WO_gl_in;rfl;rfl;(with_reducible rfl);rfl;rfl)|(apply WQ_gl_in;rfl;rfl;(with_reducible rfl);rfl;rfl)|(apply WO_gl_out;rfl;rfl;(with_reducible rfl);rfl;rfl;rfl)|(apply WQ_gl_out;rfl;rfl;(with_reducible rfl);rfl;rfl;rfl)|(apply WO_gl_undef;rfl;rfl;(with_reducible rfl);rfl)|(apply WQ_gl_undef;rfl;rfl;(with_reducible rfl);rfl)|(apply WO_gi_t;rfl;rfl;rfl;rfl;(first|exact dec_t zqA|(first|(with_reducible assumption)|decide)))|(apply WO_gi_f;rfl;rfl;rfl;rfl;(first|exact dec_f zqA|(first|(with_reducible assumption)|decide)))|(apply WO_go_t;rfl;rfl;rfl;rfl;(first|exact dec_f zqA|(first|(with_reducible assumption)|decide)))|(apply WO_go_f;rfl;rfl;rfl;rfl;(first|exact dec_t zqA|(first|(with_reducible assumption)|decide)))|(apply WQ_gi_t;rfl;rfl;rfl;rfl;(first|exact dec_t zqA|(first|(with_reducible assumption)|decide)))|(apply WQ_gi_f;rfl;rfl;rfl;rfl;(first|exact dec_f zqA|(first|(with_reducible assumption)|decide)))|(apply WQ_go_t;rfl;rfl;rfl;rfl;(first|exact dec_f zqA|(first|(with_reducible assumption)|decide)))|(apply WQ_go_f;rfl;rfl;rfl;rfl;(first|exact dec_t zqA|(first|(with_reducible assumption)|decide)))|(apply WC_yes;rfl;(first|(with_reducible assumption)|(with_reducible rfl)|(with_reducible exact nn_eq)|(with_reducible exact nn_ne)|omega|decide|exact rfl))|(apply WC_no;rfl;(first|(with_reducible assumption)|(with_reducible rfl)|(with_reducible exact nn_eq)|(with_reducible exact nn_ne)|omega|decide|exact rfl))|(apply WC_bt;rfl;(first|(with_reducible assumption)|decide))|(apply WC_bf;rfl;(first|(with_reducible assumption)|decide))))
  exact k.out):P:=h ⟨k⟩
theorem gd {Q P:Prop} (k:Q) (h:Hid Q→P:=by
  intro k
  (first|refine zr ?_|refine exq ?_|(apply WO_v;exact zqV;rfl)|refine WT_done ?_|refine WT_n ?_|(apply WT_p;rfl;exact zqI;exact zqV;rfl)|(apply WT_r;rfl;exact zqI;exact zqV;rfl)|refine WC_seq ?_|(refine is_draw ?_;refine WC_draw mixed (by kernel_rfl) ?_)|refine WC_region ?_|refine WO_nil ?_|refine WE_then ?_|refine WE_rounds ?_|refine WR_succ ?_|refine WC_ret ?_|refine WE_then_ret ?_|refine WC_block ?_|refine WC_exit ?_|refine WE_block_at ?_|(refine WE_block_on ?_ ?_;rfl)|refine WE_then_exit ?_|refine WE_block ?_|refine WE_block_ret ?_|refine WE_loop_exit ?_|refine WE_loop_ret ?_|refine WC_skip ?_|(apply WC_cond_t;rfl;(with_reducible rfl))|(apply WC_cond_f;rfl;(with_reducible rfl))|refine WQ_nil ?_|(apply WO_k;rfl;exact zqK;(first|refine fresh_intro ?_|refine gives_intro ?_|refine same_intro ?_))|(apply WT_k;rfl;exact zqI;exact zqK;(first|refine fresh_intro ?_|refine gives_intro ?_|refine same_intro ?_))|(apply WT_v;rfl;exact zqI;exact zqV;rfl)|refine after_free ?_|refine after_turns rfl ?_|(refine after_still ?_ ?_;(focus (exact zqN;done)))|(apply WT_po;rfl;exact zqO;rfl)|(apply WT_ro;rfl;exact zqO;rfl)|(apply WT_ko;rfl;exact zqO;rfl;(refine ⟨by first|exact After.free|exact After.turns rfl|(refine After.still ?_;exact zqN;done),?_⟩))|(apply WQ_op;exact zqV;rfl)|(apply WO_gl_in;rfl;rfl;(with_reducible rfl);rfl;rfl)|(apply WQ_gl_in;rfl;rfl;(with_reducible rfl);rfl;rfl)|(apply WO_gl_out;rfl;rfl;(with_reducible rfl);rfl;rfl;rfl)|(apply WQ_gl_out;rfl;rfl;(with_reducible rfl);rfl;rfl;rfl)|(apply WO_gl_undef;rfl;rfl;(with_reducible rfl);rfl)|(apply WQ_gl_undef;rfl;rfl;(with_reducible rfl);rfl)|(apply WO_gi_t;rfl;rfl;rfl;rfl;(first|exact dec_t zqA|(first|(with_reducible assumption)|decide)))|(apply WO_gi_f;rfl;rfl;rfl;rfl;(first|exact dec_f zqA|(first|(with_reducible assumption)|decide)))|(apply WO_go_t;rfl;rfl;rfl;rfl;(first|exact dec_f zqA|(first|(with_reducible assumption)|decide)))|(apply WO_go_f;rfl;rfl;rfl;rfl;(first|exact dec_t zqA|(first|(with_reducible assumption)|decide)))|(apply WQ_gi_t;rfl;rfl;rfl;rfl;(first|exact dec_t zqA|(first|(with_reducible assumption)|decide)))|(apply WQ_gi_f;rfl;rfl;rfl;rfl;(first|exact dec_f zqA|(first|(with_reducible assumption)|decide)))|(apply WQ_go_t;rfl;rfl;rfl;rfl;(first|exact dec_f zqA|(first|(with_reducible assumption)|decide)))|(apply WQ_go_f;rfl;rfl;rfl;rfl;(first|exact dec_t zqA|(first|(with_reducible assumption)|decide)))|(apply WC_yes;rfl;(first|(with_reducible assumption)|(with_reducible rfl)|(with_reducible exact nn_eq)|(with_reducible exact nn_ne)|omega|decide|exact rfl))|(apply WC_no;rfl;(first|(with_reducible assumption)|(with_reducible rfl)|(with_reducible exact nn_eq)|(with_reducible exact nn_ne)|omega|decide|exact rfl))|(apply WC_bt;rfl;(first|(with_reducible assumption)|decide))|(apply WC_bf;rfl;(first|(with_reducible assumption)|decide)))
  (repeat (first|refine zr ?_|refine exq ?_|(apply WO_v;exact zqV;rfl)|refine WT_done ?_|refine WT_n ?_|(apply WT_p;rfl;exact zqI;exact zqV;rfl)|(apply WT_r;rfl;exact zqI;exact zqV;rfl)|refine WC_seq ?_|(refine is_draw ?_;refine WC_draw mixed (by kernel_rfl) ?_)|refine WC_region ?_|refine WO_nil ?_|refine WE_then ?_|refine WE_rounds ?_|refine WR_succ ?_|refine WC_ret ?_|refine WE_then_ret ?_|refine WC_block ?_|refine WC_exit ?_|refine WE_block_at ?_|(refine WE_block_on ?_ ?_;rfl)|refine WE_then_exit ?_|refine WE_block ?_|refine WE_block_ret ?_|refine WE_loop_exit ?_|refine WE_loop_ret ?_|refine WC_skip ?_|(apply WC_cond_t;rfl;(with_reducible rfl))|(apply WC_cond_f;rfl;(with_reducible rfl))|refine WQ_nil ?_|(apply WO_k;rfl;exact zqK;(first|refine fresh_intro ?_|refine gives_intro ?_|refine same_intro ?_))|(apply WT_k;rfl;exact zqI;exact zqK;(first|refine fresh_intro ?_|refine gives_intro ?_|refine same_intro ?_))|(apply WT_v;rfl;exact zqI;exact zqV;rfl)|refine after_free ?_|refine after_turns rfl ?_|(refine after_still ?_ ?_;(focus (exact zqN;done)))|(apply WT_po;rfl;exact zqO;rfl)|(apply WT_ro;rfl;exact zqO;rfl)|(apply WT_ko;rfl;exact zqO;rfl;(refine ⟨by first|exact After.free|exact After.turns rfl|(refine After.still ?_;exact zqN;done),?_⟩))|(apply WQ_op;exact zqV;rfl)|(apply WO_gl_in;rfl;rfl;(with_reducible rfl);rfl;rfl)|(apply WQ_gl_in;rfl;rfl;(with_reducible rfl);rfl;rfl)|(apply WO_gl_out;rfl;rfl;(with_reducible rfl);rfl;rfl;rfl)|(apply WQ_gl_out;rfl;rfl;(with_reducible rfl);rfl;rfl;rfl)|(apply WO_gl_undef;rfl;rfl;(with_reducible rfl);rfl)|(apply WQ_gl_undef;rfl;rfl;(with_reducible rfl);rfl)|(apply WO_gi_t;rfl;rfl;rfl;rfl;(first|exact dec_t zqA|(first|(with_reducible assumption)|decide)))|(apply WO_gi_f;rfl;rfl;rfl;rfl;(first|exact dec_f zqA|(first|(with_reducible assumption)|decide)))|(apply WO_go_t;rfl;rfl;rfl;rfl;(first|exact dec_f zqA|(first|(with_reducible assumption)|decide)))|(apply WO_go_f;rfl;rfl;rfl;rfl;(first|exact dec_t zqA|(first|(with_reducible assumption)|decide)))|(apply WQ_gi_t;rfl;rfl;rfl;rfl;(first|exact dec_t zqA|(first|(with_reducible assumption)|decide)))|(apply WQ_gi_f;rfl;rfl;rfl;rfl;(first|exact dec_f zqA|(first|(with_reducible assumption)|decide)))|(apply WQ_go_t;rfl;rfl;rfl;rfl;(first|exact dec_f zqA|(first|(with_reducible assumption)|decide)))|(apply WQ_go_f;rfl;rfl;rfl;rfl;(first|exact dec_t zqA|(first|(with_reducible assumption)|decide)))|(apply WC_yes;rfl;(first|(with_reducible assumption)|(with_reducible rfl)|(with_reducible exact nn_eq)|(with_reducible exact nn_ne)|omega|decide|exact rfl))|(apply WC_no;rfl;(first|(with_reducible assumption)|(with_reducible rfl)|(with_reducible exact nn_eq)|(with_reducible exact nn_ne)|omega|decide|exact rfl))|(apply WC_bt;rfl;(first|(with_reducible assumption)|decide))|(apply WC_bf;rfl;(first|(with_reducible assumption)|decide))))
  exact k.out):P:=h ⟨k⟩
theorem spl {Q1 Q2 P:Prop} (k1:Q1) (k2:Q2) (h:Hid Q1→Hid Q2→P:=by
  intro k1 k2
  first
  |(apply WC_cond_dec;rfl;exact k1.out;exact k2.out)
  |(apply WC_cond;rfl;(refine imp_t ?_;exact k1.out);(refine imp_f ?_;exact k2.out))
  |(apply WC_cond;rfl;exact k1.out;exact k2.out)
  |(apply WO_gs_t;rfl;rfl;rfl;rfl;(refine imp_t ?_;exact k1.out);(refine imp_f ?_;exact k2.out))
  |(apply WO_gs_f;rfl;rfl;rfl;rfl;(refine imp_f ?_;exact k1.out);(refine imp_t ?_;exact k2.out))
  |(apply WQ_gs_t;rfl;rfl;rfl;rfl;(refine imp_t ?_;exact k1.out);(refine imp_f ?_;exact k2.out))
  |(apply WQ_gs_f;rfl;rfl;rfl;rfl;(refine imp_f ?_;exact k1.out);(refine imp_t ?_;exact k2.out))
  |(apply WT_gs_p;rfl;rfl;rfl;(refine imp_t ?_;exact k1.out);(refine imp_f ?_;exact k2.out))
  |(apply WT_gs_r;rfl;rfl;rfl;(refine imp_t ?_;exact k1.out);(refine imp_f ?_;exact k2.out))
  |(apply WT_gs_e;rfl;rfl;rfl;(refine imp_t ?_;exact k1.out);(refine imp_f ?_;exact k2.out))
  |(apply WO_gs_t;rfl;rfl;rfl;rfl;exact k1.out;exact k2.out)
  |(apply WO_gs_f;rfl;rfl;rfl;rfl;exact k1.out;exact k2.out)
  |(apply WQ_gs_t;rfl;rfl;rfl;rfl;exact k1.out;exact k2.out)
  |(apply WQ_gs_f;rfl;rfl;rfl;rfl;exact k1.out;exact k2.out)
  |(apply WT_gs_p;rfl;rfl;rfl;exact k1.out;exact k2.out)
  |(apply WT_gs_r;rfl;rfl;rfl;exact k1.out;exact k2.out)
  |(apply WT_gs_e;rfl;rfl;rfl;exact k1.out;exact k2.out)
  |(apply WT_alt;exact k1.out;exact k2.out)):P:=h ⟨k1⟩ ⟨k2⟩
theorem cal {C Q P:Prop} (c:C) (k:Q) (h:C→Hid Q→P:=by
  intro c k
  first
  |(apply WO_k;rfl;(focus (apply K_callF;rfl;rfl;rfl;rfl;apply c;(all_goals (try (focus ((repeat (first|(with_reducible exact pl_nil)|(apply pl_cons;focus (repeat (first|(with_reducible exact pk_here)|(apply pk_there))))));done))));(all_goals (focus (first|(with_reducible assumption)|exact inferInstance|exact rd_lit inferInstance rfl rfl|(with_reducible rfl)|omega|(unfold I64;omega)|(constructor<;>omega)|decide)))));refine called_some ?_;exact k.out)
  |(apply WO_k;rfl;(focus (apply K_callF;rfl;rfl;rfl;rfl;apply c;(all_goals (try (focus ((repeat (first|(with_reducible exact pl_nil)|(apply pl_cons;focus (repeat (first|(with_reducible exact pk_here)|(apply pk_there))))));done))));(all_goals (focus (first|(with_reducible assumption)|exact inferInstance|exact rd_lit inferInstance rfl rfl|(with_reducible rfl)|omega|(unfold I64;omega)|(constructor<;>omega)|decide)))));refine called_none ?_;exact k.out)
  |(apply WQ_k;rfl;rfl;(focus (apply QC_callF;rfl;rfl;rfl;apply c;(all_goals (try (focus ((repeat (first|(with_reducible exact pl_nil)|(apply pl_cons;focus (repeat (first|(with_reducible exact pk_here)|(apply pk_there))))));done))));(all_goals (focus (first|(with_reducible assumption)|exact inferInstance|exact rd_lit inferInstance rfl rfl|(with_reducible rfl)|omega|(unfold I64;omega)|(constructor<;>omega)|decide)))));rfl;exact k.out)
  |(apply WT_k;rfl;exact zqI;(focus (apply K_callF;rfl;rfl;rfl;rfl;apply c;(all_goals (try (focus ((repeat (first|(with_reducible exact pl_nil)|(apply pl_cons;focus (repeat (first|(with_reducible exact pk_here)|(apply pk_there))))));done))));(all_goals (focus (first|(with_reducible assumption)|exact inferInstance|exact rd_lit inferInstance rfl rfl|(with_reducible rfl)|omega|(unfold I64;omega)|(constructor<;>omega)|decide)))));refine called_some ?_;exact k.out)
  |(apply WT_k;rfl;exact zqI;(focus (apply K_callF;rfl;rfl;rfl;rfl;apply c;(all_goals (try (focus ((repeat (first|(with_reducible exact pl_nil)|(apply pl_cons;focus (repeat (first|(with_reducible exact pk_here)|(apply pk_there))))));done))));(all_goals (focus (first|(with_reducible assumption)|exact inferInstance|exact rd_lit inferInstance rfl rfl|(with_reducible rfl)|omega|(unfold I64;omega)|(constructor<;>omega)|decide)))));refine called_none ?_;exact k.out)):P:=h c ⟨k⟩
theorem exq {α:Sort u} {p:α→Value→List HP→Prop} {R:Value→List HP→Prop} (h:∀ x v L,p x v L→R v L):∀ v L,(∃ x,p x v L)→R v L:=fun v L ⟨x,hx⟩=>h x v L hx
theorem drq {Q P:Prop} (k:Q) (h:Hid Q→P:=by
  intro k
  (refine is_draw ?_;refine WC_draw mixed (by kernel_rfl) ?_;exact k.out)):P:=h ⟨k⟩
theorem entu0 {Q:Prop} (h:Q:=by (repeat (first|(with_reducible exact Ent.refl)|exact Ent.nil|(apply ent_pickE;exact zqP)|apply Ent.drop))):Q:=h
theorem fin0 {Q:Prop} (h:Q:=by (apply WE_ret rfl rfl zqR;(first|exact zqL|exact ⟨by simp []<;>omega,rfl⟩);exact zqN)):Q:=h
end Go.Sx
