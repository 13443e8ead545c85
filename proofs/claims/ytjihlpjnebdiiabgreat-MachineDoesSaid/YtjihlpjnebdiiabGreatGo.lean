/- The automatic walk: contracts in a frame, loops whose kept slots are read off, and the steps as one rule. My own work; names no program. -/
import Derived.Test.YtjihlpjnebdiiabGreatTy
import Derived.Test.YtjihlpjnebdiiabGreatEq
import Derived.Test.YtjihlpjnebdiiabGreatMap
import Derived.Test.YtjihlpjnebdiiabGreatMk
set_option linter.unusedVariables false
set_option linter.unusedSectionVars false
set_option linter.unusedSimpArgs false
universe u
namespace Go.Sx
open Go
theorem p4 {α:Sort u} {a:α}:¬¬(a=a):=fun h=>h rfl
theorem p5 {α:Sort u} {a:α}:¬(a≠a):=fun h=>h rfl
structure az (P:Program) (f:FuncId) (vs:List Value) (pre F:List HP) (post:Value→List HP→Prop):Prop where
  enters:sk P f
  runs:∀ w,Sat (eX pre F) w→Calls P f vs.toArray w (fun e w'=>∃ v L',e= .returned v∧post v L'∧Sat (eX L' F) w')
section
variable {P:Program} {N:Nat}
theorem az.all {f:FuncId} {vs:List Value} {pre:List HP} {post:Value→List HP→Prop} (h:∀ F,az P f vs pre F post):Yf P f vs pre post:=⟨(h []).enters,fun F=>(h F).runs⟩
theorem az.mono {f:FuncId} {vs:List Value} {pre F:List HP} {post tm:Value→List HP→Prop} (C:az P f vs pre F post) (h:∀ v L,post v L→tm v L):az P f vs pre F tm:=
  ⟨C.enters,fun w hw=>(C.runs w hw).mono fun e w' ⟨v,L',h1,h2,h3⟩=>⟨v,L',h1,h _ _ h2,h3⟩⟩
theorem az.pure {f:FuncId} {vs:List Value} {pre F:List HP} {u:Value} (h:az P f vs [] (eX pre F) (fun v L'=>v=u∧L'=[])):az P f vs pre F (fun v L'=>v=u∧L'=pre):=
  ⟨h.enters,fun w hw=>(h.runs w hw).mono fun e w' ⟨v,L',h1,⟨h2,h3⟩,h4⟩=>⟨v,pre,h1,⟨h2,rfl⟩,by subst h3;exact h4⟩⟩
theorem az.mk' {f:FuncId} {fn:Func} {c:Code} {N:Nat} {vs:List Value} {pre F:List HP} {post:Value→List HP→Prop}
    (hf:P.funcs[f]? =some fn) (hb:fn.body=some c) (hn:(fn.name == "runtime.NumGoroutine")=false) (hN:fn.ntmps=N) (hv:Nat.ble vs.length N=true)
    (h:WC P N c (ya 0 vs) (eX pre F) (dL P fn post F)):az P f vs pre F post:=by
  refine ⟨fb hf hb hn,fun w hw=>calls_of_wp hf hb ?_⟩;have hle:vs.length≤N:=by simpa using hv
  refine h _ w ⟨?_,rfl,fun t v e=>?_⟩ hw
  ·simp [hN];omega
  ·obtain ⟨_,h2⟩:=vj vs 0 t v e;have ht:t<vs.length:=(List.getElem?_eq_some_iff.1 h2).1;rw [Array.getD_eq_getD_getElem?,Array.getElem?_append_left (by simpa using ht)];simp at h2;simp [h2]
theorem ay {P:Program} {f:FuncId} {fn:Func} {c:Code} {N:Nat} {vs:List Value} {pre F:List HP} {post:Value→List HP→Prop} (hf:P.funcs[f]?=some fn) (hN:fn.ntmps=N) (h:WC P N c (ya 0 vs) (eX pre F) (dL P fn post F)) (hb:fn.body=some c:=by rfl) (hn:(fn.name=="runtime.NumGoroutine")=false:=by rfl) (hv:Nat.ble vs.length N=true:=by rfl):az P f vs pre F post:=az.mk' hf hb hn hN hv h
theorem vI {L:List HP}:rh [] L L:=rh.nil
theorem sB {p:HP} {pre L L' F:List HP} (k:sJ p L L') (m:rh pre L' F):rh (p::pre) L F:=@rh.cons _ _ _ _ _ k m
theorem qM {p:HP} {L:List HP}:sJ p (p::L) L:=sJ.here
theorem ol {p q:HP} {L L':List HP} (k:sJ p L L'):sJ p (q::L) (q::L'):=@sJ.there _ _ _ _ k
theorem zS {f:Operand} {args:List Operand} {ats:Array TypeId} {k:FuncId} {first cap:List Value} {OQ vs:List Value} {pre F:List HP} {post:Value→List HP→Prop} {ty:TypeId}
    {pos:String} {c9:Array Edge} {d:Option Nat} {env:Env} {L:List HP}
    (hf:ev env f=some (.func (.func k) first.toArray cap.toArray)) (ha:Cq env args=some OQ) (hv:first++OQ++cap=vs) (hd:sh N d=true) (C:az P k vs pre F post) (hE:rh pre L F) :
    KO P N ⟨d,.call ⟨.value f,args.toArray,ats⟩,ty,pos,c9,none⟩ env L (Hh env d F post):=by
  intro a w hA hw K Q next
  unfold Oper.wp;rw [cY,E3 (vs:=vs) (hA.ev hf) (by rw [hA.Cq ha];simpa using hv) C.enters w];refine (C.runs w (hE.pf.gX hw)).mono fun e w' ⟨v,L',he,hp,hs⟩=>?_;subst he;exact next _ _ _ w' ⟨v,L',hp,rfl,rfl⟩ (hA.B1 hd v) hs
def QC (P:Program) (N:Nat) (o:Oper) (env:Env) (L:List HP) (u:Value):Prop:=∀ a,du N env a→∀ w,Sat L w→o.quietAt P a (Sat L) w u
theorem Xw {o:Oper} {d:Nat} {u:Value} {all:Array Oper} {rest:List Oper} {Q:Exit→Act→World→Prop} {env:Env} {L:List HP} (hg:o.guard=none) (Xx:o.dst=some d) (h:QC P N o env L u) (hd:Nat.blt d N=true)
    (next:WQ P N all rest ((d,u)::env) L Q):WQ P N all (o::rest) env L Q:=by
  intro a hA;simp only [wpQuiet,Region.wanted,hg,if_true];refine ⟨u,fun w hw=>h a hA w hw,?_⟩;rw [Xx];exact next _ (hA.put hd u)
theorem M7 {f:Operand} {args:List Operand} {ats:Array TypeId} {k:FuncId} {first cap:List Value} {OQ vs:List Value} {pre F:List HP} {u:Value} {ty:TypeId}
    {pos:String} {c9:Array Edge} {d:Option Nat} {env:Env} {L:List HP}
    (hf:ev env f=some (.func (.func k) first.toArray cap.toArray)) (ha:Cq env args=some OQ) (hv:first++OQ++cap=vs)
    (C:az P k vs pre F (fun v L'=>v=u∧L'=pre)) (hE:rh pre L F):QC P N ⟨d,.call ⟨.value f,args.toArray,ats⟩,ty,pos,c9,none⟩ env L u:=by
  intro a hA w hw;unfold Oper.quietAt;rw [cY,E3 (vs:=vs) (hA.ev hf) (by rw [hA.Cq ha];simpa using hv) C.enters w];refine ⟨rfl,(C.runs w (hE.pf.gX hw)).mono fun e w' ⟨v,L',he,⟨hv,hL⟩,hs⟩=>?_⟩;subst hv hL;exact ⟨he,hE.back.gX hs⟩
theorem aO {ι:Type} (E0:Env) (E:Env→ι→Env) (H:ι→List HP) (I:ι→Prop) (μ:ι→Nat) (i:ι) {c:Code} {env:Env} {L:List HP} {Q:Exit→Act→World→Prop}
    (hs:Sub (E E0 i) env) (hI:I i) (he:ai L (H i)) (round:∀ j,I j→WC P N c (E E0 j) (H j) (aW N (E E0) H I μ j Q)):WC P N (.loop c) env L Q:=
  zT (E E0) H I μ i hI hs he round
theorem iX {p:HP} {L L' M:List HP} (k:sJ p L L') (a:ai L' M):ai L (p::M):=fun _ h=>jM a (k.pf _ h)
theorem HF {a:Nat} {t b n bs:Nat} {d:TypeDesc} {z v:Value} {T:TypeId} {l:List Value} {C:List Value→List HP} {env:Env} {L:List HP} {rs:List ResultVar} {vs:List Value} [hT:TU P t d] [hZ:TZ P t n z bs]
    (h:env.get? a=some (.pointer (some ⟨b,0,none⟩))) (k:bX b L T l C) (hn:l.length=n) (hv:kJ (mD d) l=some v) (r:lr P env L rs vs):lr P env L (.cell a t::rs) (v::vs):=
  lr.cell h (fun w hw=>uI (P:=P) (b:=b) (off:=0) hT hZ hn hv (fun j v hj=>by rw [io (jn k hw)];simpa using hj)) r
theorem FZ {Q:Exit→Act→World→Prop} {env:Env} {L:List HP} {st:St} {ops:Array Oper} {LS:List HP} {i:Nat} {next:oB} {held:Bool} {op:Op} {ty:TypeId} {pos:String} {c9:Array Edge} {g:Option (Nat×Bool)} {d:Nat} {v:Value} (ho:ops[i]? =some ⟨some d,op,ty,pos,c9,g⟩)
    (hg:tB ops env g) (h:V P N op ty env L v) (hd:Nat.blt d N=true) (k:cc st ops LS held i L∧WT st P N ops LS next ((d,v)::env) L Q):WT st P N ops LS (.e held [(i,next)]) env L Q:=
  kO (post:=fun e' L'=>e'=(d,v)::env∧L'=L) ho hg (fun a w ha hw K Q next=>by
    unfold Oper.wp;rw [cY,h a w ha hw];exact next _ _ _ _ ⟨rfl,rfl⟩ (ha.put hd v) hw) (by
    rintro _ _ ⟨rfl,rfl⟩;exact k)
theorem nY {st:St} {ops:Array Oper} {LS L':List HP} {i:Nat} {G:Prop} (h:G):cc st ops LS false i L'∧G:=⟨cc.free,h⟩
theorem mF {st:St} {ops:Array Oper} {LS L':List HP} {i:Nat} {held:Bool} {G:Prop} (e:tC st ops i=true) (h:G):cc st ops LS held i L'∧G:=⟨cc.turns e,h⟩
theorem mG {st:St} {ops:Array Oper} {LS L':List HP} {i:Nat} {held:Bool} {G:Prop} (e:ai L' LS) (h:G):cc st ops LS held i L'∧G:=⟨cc.still e,h⟩
end
set_option maxRecDepth 100000
structure Hid (Q:Prop):Prop where
  out:Q
theorem go {Q P:Prop} (k:Q) (h:Hid Q→P:=by
  intro k
  (first|refine zr ?_|refine Ps ?_|(apply xG;exact qE;rfl)|refine uf ?_|refine HG ?_|(apply F0;rfl;exact qy;exact qE;rfl)|(apply F1;rfl;exact qy;exact qE;rfl)|refine xI ?_|refine kD ?_|refine xJ ?_|refine ug ?_|refine pI ?_|refine uh ?_|refine xK ?_|refine mH ?_|refine rM ?_|refine ui ?_|refine mI ?_|(refine mJ ?_ ?_;rfl)|refine lI ?_|refine rN ?_|refine lJ ?_|refine lK ?_|refine mK ?_|refine uj ?_|(apply pJ;rfl;(with_reducible rfl))|(apply pK;rfl;(with_reducible rfl))|refine xL ?_|(apply mY;rfl;exact Ei;(first|refine dQ ?_|refine eu ?_|refine aU ?_))|(apply kO;rfl;exact qy;exact Ei;(first|refine dQ ?_|refine eu ?_|refine aU ?_))|(apply FZ;rfl;exact qy;exact qE;rfl)|refine nY ?_|refine mF rfl ?_|(refine mG ?_ ?_;(focus (exact bM;done)))|(apply B9;rfl;exact Aj;rfl)|(apply Ca;rfl;exact Aj;rfl)|(apply Cb;rfl;exact Aj;rfl;(refine ⟨by first|exact cc.free|exact cc.turns rfl|(refine cc.still ?_;exact bM;done),?_⟩))|(apply zM;exact qE;rfl)|(apply rP;rfl;rfl;(with_reducible rfl);rfl;rfl)|(apply rR;rfl;rfl;(with_reducible rfl);rfl;rfl)|(apply pL;rfl;rfl;(with_reducible rfl);rfl;rfl;rfl)|(apply pN;rfl;rfl;(with_reducible rfl);rfl;rfl;rfl)|(apply mL;rfl;rfl;(with_reducible rfl);rfl)|(apply mM;rfl;rfl;(with_reducible rfl);rfl)|(apply uk;rfl;rfl;rfl;rfl;(first|exact je lR|(first|(with_reducible assumption)|decide)))|(apply ul;rfl;rfl;rfl;rfl;(first|exact jg lR|(first|(with_reducible assumption)|decide)))|(apply um;rfl;rfl;rfl;rfl;(first|exact jg lR|(first|(with_reducible assumption)|decide)))|(apply uo;rfl;rfl;rfl;rfl;(first|exact je lR|(first|(with_reducible assumption)|decide)))|(apply uq;rfl;rfl;rfl;rfl;(first|exact je lR|(first|(with_reducible assumption)|decide)))|(apply ur;rfl;rfl;rfl;rfl;(first|exact jg lR|(first|(with_reducible assumption)|decide)))|(apply us;rfl;rfl;rfl;rfl;(first|exact jg lR|(first|(with_reducible assumption)|decide)))|(apply uu;rfl;rfl;rfl;rfl;(first|exact je lR|(first|(with_reducible assumption)|decide)))|(apply xM;rfl;(first|(with_reducible assumption)|(with_reducible rfl)|(with_reducible exact p4)|(with_reducible exact p5)|omega|decide|exact rfl))|(apply Cc;rfl;(first|(with_reducible assumption)|(with_reducible rfl)|(with_reducible exact p4)|(with_reducible exact p5)|omega|decide|exact rfl))|(apply Cd;rfl;(first|(with_reducible assumption)|decide))|(apply Ce;rfl;(first|(with_reducible assumption)|decide)))
  (repeat (first|refine zr ?_|refine Ps ?_|(apply xG;exact qE;rfl)|refine uf ?_|refine HG ?_|(apply F0;rfl;exact qy;exact qE;rfl)|(apply F1;rfl;exact qy;exact qE;rfl)|refine xI ?_|refine kD ?_|refine xJ ?_|refine ug ?_|refine pI ?_|refine uh ?_|refine xK ?_|refine mH ?_|refine rM ?_|refine ui ?_|refine mI ?_|(refine mJ ?_ ?_;rfl)|refine lI ?_|refine rN ?_|refine lJ ?_|refine lK ?_|refine mK ?_|refine uj ?_|(apply pJ;rfl;(with_reducible rfl))|(apply pK;rfl;(with_reducible rfl))|refine xL ?_|(apply mY;rfl;exact Ei;(first|refine dQ ?_|refine eu ?_|refine aU ?_))|(apply kO;rfl;exact qy;exact Ei;(first|refine dQ ?_|refine eu ?_|refine aU ?_))|(apply FZ;rfl;exact qy;exact qE;rfl)|refine nY ?_|refine mF rfl ?_|(refine mG ?_ ?_;(focus (exact bM;done)))|(apply B9;rfl;exact Aj;rfl)|(apply Ca;rfl;exact Aj;rfl)|(apply Cb;rfl;exact Aj;rfl;(refine ⟨by first|exact cc.free|exact cc.turns rfl|(refine cc.still ?_;exact bM;done),?_⟩))|(apply zM;exact qE;rfl)|(apply rP;rfl;rfl;(with_reducible rfl);rfl;rfl)|(apply rR;rfl;rfl;(with_reducible rfl);rfl;rfl)|(apply pL;rfl;rfl;(with_reducible rfl);rfl;rfl;rfl)|(apply pN;rfl;rfl;(with_reducible rfl);rfl;rfl;rfl)|(apply mL;rfl;rfl;(with_reducible rfl);rfl)|(apply mM;rfl;rfl;(with_reducible rfl);rfl)|(apply uk;rfl;rfl;rfl;rfl;(first|exact je lR|(first|(with_reducible assumption)|decide)))|(apply ul;rfl;rfl;rfl;rfl;(first|exact jg lR|(first|(with_reducible assumption)|decide)))|(apply um;rfl;rfl;rfl;rfl;(first|exact jg lR|(first|(with_reducible assumption)|decide)))|(apply uo;rfl;rfl;rfl;rfl;(first|exact je lR|(first|(with_reducible assumption)|decide)))|(apply uq;rfl;rfl;rfl;rfl;(first|exact je lR|(first|(with_reducible assumption)|decide)))|(apply ur;rfl;rfl;rfl;rfl;(first|exact jg lR|(first|(with_reducible assumption)|decide)))|(apply us;rfl;rfl;rfl;rfl;(first|exact jg lR|(first|(with_reducible assumption)|decide)))|(apply uu;rfl;rfl;rfl;rfl;(first|exact je lR|(first|(with_reducible assumption)|decide)))|(apply xM;rfl;(first|(with_reducible assumption)|(with_reducible rfl)|(with_reducible exact p4)|(with_reducible exact p5)|omega|decide|exact rfl))|(apply Cc;rfl;(first|(with_reducible assumption)|(with_reducible rfl)|(with_reducible exact p4)|(with_reducible exact p5)|omega|decide|exact rfl))|(apply Cd;rfl;(first|(with_reducible assumption)|decide))|(apply Ce;rfl;(first|(with_reducible assumption)|decide))))
  exact k.out):P:=h ⟨k⟩
theorem gd {Q P:Prop} (k:Q) (h:Hid Q→P:=by
  intro k
  (first|refine zr ?_|refine Ps ?_|(apply xG;exact qE;rfl)|refine uf ?_|refine HG ?_|(apply F0;rfl;exact qy;exact qE;rfl)|(apply F1;rfl;exact qy;exact qE;rfl)|refine xI ?_|(refine an ?_;refine DQ mixed (by kernel_rfl) ?_)|refine kD ?_|refine xJ ?_|refine ug ?_|refine pI ?_|refine uh ?_|refine xK ?_|refine mH ?_|refine rM ?_|refine ui ?_|refine mI ?_|(refine mJ ?_ ?_;rfl)|refine lI ?_|refine rN ?_|refine lJ ?_|refine lK ?_|refine mK ?_|refine uj ?_|(apply pJ;rfl;(with_reducible rfl))|(apply pK;rfl;(with_reducible rfl))|refine xL ?_|(apply mY;rfl;exact Ei;(first|refine dQ ?_|refine eu ?_|refine aU ?_))|(apply kO;rfl;exact qy;exact Ei;(first|refine dQ ?_|refine eu ?_|refine aU ?_))|(apply FZ;rfl;exact qy;exact qE;rfl)|refine nY ?_|refine mF rfl ?_|(refine mG ?_ ?_;(focus (exact bM;done)))|(apply B9;rfl;exact Aj;rfl)|(apply Ca;rfl;exact Aj;rfl)|(apply Cb;rfl;exact Aj;rfl;(refine ⟨by first|exact cc.free|exact cc.turns rfl|(refine cc.still ?_;exact bM;done),?_⟩))|(apply zM;exact qE;rfl)|(apply rP;rfl;rfl;(with_reducible rfl);rfl;rfl)|(apply rR;rfl;rfl;(with_reducible rfl);rfl;rfl)|(apply pL;rfl;rfl;(with_reducible rfl);rfl;rfl;rfl)|(apply pN;rfl;rfl;(with_reducible rfl);rfl;rfl;rfl)|(apply mL;rfl;rfl;(with_reducible rfl);rfl)|(apply mM;rfl;rfl;(with_reducible rfl);rfl)|(apply uk;rfl;rfl;rfl;rfl;(first|exact je lR|(first|(with_reducible assumption)|decide)))|(apply ul;rfl;rfl;rfl;rfl;(first|exact jg lR|(first|(with_reducible assumption)|decide)))|(apply um;rfl;rfl;rfl;rfl;(first|exact jg lR|(first|(with_reducible assumption)|decide)))|(apply uo;rfl;rfl;rfl;rfl;(first|exact je lR|(first|(with_reducible assumption)|decide)))|(apply uq;rfl;rfl;rfl;rfl;(first|exact je lR|(first|(with_reducible assumption)|decide)))|(apply ur;rfl;rfl;rfl;rfl;(first|exact jg lR|(first|(with_reducible assumption)|decide)))|(apply us;rfl;rfl;rfl;rfl;(first|exact jg lR|(first|(with_reducible assumption)|decide)))|(apply uu;rfl;rfl;rfl;rfl;(first|exact je lR|(first|(with_reducible assumption)|decide)))|(apply xM;rfl;(first|(with_reducible assumption)|(with_reducible rfl)|(with_reducible exact p4)|(with_reducible exact p5)|omega|decide|exact rfl))|(apply Cc;rfl;(first|(with_reducible assumption)|(with_reducible rfl)|(with_reducible exact p4)|(with_reducible exact p5)|omega|decide|exact rfl))|(apply Cd;rfl;(first|(with_reducible assumption)|decide))|(apply Ce;rfl;(first|(with_reducible assumption)|decide)))
  (repeat (first|refine zr ?_|refine Ps ?_|(apply xG;exact qE;rfl)|refine uf ?_|refine HG ?_|(apply F0;rfl;exact qy;exact qE;rfl)|(apply F1;rfl;exact qy;exact qE;rfl)|refine xI ?_|(refine an ?_;refine DQ mixed (by kernel_rfl) ?_)|refine kD ?_|refine xJ ?_|refine ug ?_|refine pI ?_|refine uh ?_|refine xK ?_|refine mH ?_|refine rM ?_|refine ui ?_|refine mI ?_|(refine mJ ?_ ?_;rfl)|refine lI ?_|refine rN ?_|refine lJ ?_|refine lK ?_|refine mK ?_|refine uj ?_|(apply pJ;rfl;(with_reducible rfl))|(apply pK;rfl;(with_reducible rfl))|refine xL ?_|(apply mY;rfl;exact Ei;(first|refine dQ ?_|refine eu ?_|refine aU ?_))|(apply kO;rfl;exact qy;exact Ei;(first|refine dQ ?_|refine eu ?_|refine aU ?_))|(apply FZ;rfl;exact qy;exact qE;rfl)|refine nY ?_|refine mF rfl ?_|(refine mG ?_ ?_;(focus (exact bM;done)))|(apply B9;rfl;exact Aj;rfl)|(apply Ca;rfl;exact Aj;rfl)|(apply Cb;rfl;exact Aj;rfl;(refine ⟨by first|exact cc.free|exact cc.turns rfl|(refine cc.still ?_;exact bM;done),?_⟩))|(apply zM;exact qE;rfl)|(apply rP;rfl;rfl;(with_reducible rfl);rfl;rfl)|(apply rR;rfl;rfl;(with_reducible rfl);rfl;rfl)|(apply pL;rfl;rfl;(with_reducible rfl);rfl;rfl;rfl)|(apply pN;rfl;rfl;(with_reducible rfl);rfl;rfl;rfl)|(apply mL;rfl;rfl;(with_reducible rfl);rfl)|(apply mM;rfl;rfl;(with_reducible rfl);rfl)|(apply uk;rfl;rfl;rfl;rfl;(first|exact je lR|(first|(with_reducible assumption)|decide)))|(apply ul;rfl;rfl;rfl;rfl;(first|exact jg lR|(first|(with_reducible assumption)|decide)))|(apply um;rfl;rfl;rfl;rfl;(first|exact jg lR|(first|(with_reducible assumption)|decide)))|(apply uo;rfl;rfl;rfl;rfl;(first|exact je lR|(first|(with_reducible assumption)|decide)))|(apply uq;rfl;rfl;rfl;rfl;(first|exact je lR|(first|(with_reducible assumption)|decide)))|(apply ur;rfl;rfl;rfl;rfl;(first|exact jg lR|(first|(with_reducible assumption)|decide)))|(apply us;rfl;rfl;rfl;rfl;(first|exact jg lR|(first|(with_reducible assumption)|decide)))|(apply uu;rfl;rfl;rfl;rfl;(first|exact je lR|(first|(with_reducible assumption)|decide)))|(apply xM;rfl;(first|(with_reducible assumption)|(with_reducible rfl)|(with_reducible exact p4)|(with_reducible exact p5)|omega|decide|exact rfl))|(apply Cc;rfl;(first|(with_reducible assumption)|(with_reducible rfl)|(with_reducible exact p4)|(with_reducible exact p5)|omega|decide|exact rfl))|(apply Cd;rfl;(first|(with_reducible assumption)|decide))|(apply Ce;rfl;(first|(with_reducible assumption)|decide))))
  exact k.out):P:=h ⟨k⟩
theorem bj {Q1 Q2 P:Prop} (k1:Q1) (k2:Q2) (h:Hid Q1→Hid Q2→P:=by
  intro k1 k2
  first
  |(apply uJ;rfl;exact k1.out;exact k2.out)
  |(apply sC;rfl;(refine yb ?_;exact k1.out);(refine yc ?_;exact k2.out))
  |(apply sC;rfl;exact k1.out;exact k2.out)
  |(apply Je;rfl;rfl;rfl;rfl;(refine yb ?_;exact k1.out);(refine yc ?_;exact k2.out))
  |(apply Jf;rfl;rfl;rfl;rfl;(refine yc ?_;exact k1.out);(refine yb ?_;exact k2.out))
  |(apply Jg;rfl;rfl;rfl;rfl;(refine yb ?_;exact k1.out);(refine yc ?_;exact k2.out))
  |(apply PR;rfl;rfl;rfl;rfl;(refine yc ?_;exact k1.out);(refine yb ?_;exact k2.out))
  |(apply PS;rfl;rfl;rfl;(refine yb ?_;exact k1.out);(refine yc ?_;exact k2.out))
  |(apply PT;rfl;rfl;rfl;(refine yb ?_;exact k1.out);(refine yc ?_;exact k2.out))
  |(apply PU;rfl;rfl;rfl;(refine yb ?_;exact k1.out);(refine yc ?_;exact k2.out))
  |(apply Je;rfl;rfl;rfl;rfl;exact k1.out;exact k2.out)
  |(apply Jf;rfl;rfl;rfl;rfl;exact k1.out;exact k2.out)
  |(apply Jg;rfl;rfl;rfl;rfl;exact k1.out;exact k2.out)
  |(apply PR;rfl;rfl;rfl;rfl;exact k1.out;exact k2.out)
  |(apply PS;rfl;rfl;rfl;exact k1.out;exact k2.out)
  |(apply PT;rfl;rfl;rfl;exact k1.out;exact k2.out)
  |(apply PU;rfl;rfl;rfl;exact k1.out;exact k2.out)
  |(apply xN;exact k1.out;exact k2.out)):P:=h ⟨k1⟩ ⟨k2⟩
theorem ae {C Q P:Prop} (c:C) (k:Q) (h:C→Hid Q→P:=by
  intro c k
  first
  |(apply mY;rfl;(focus (apply zS;rfl;rfl;rfl;rfl;apply c;(all_goals (try (focus ((repeat (first|(with_reducible exact vI)|(apply sB;focus (repeat (first|(with_reducible exact qM)|(apply ol))))));done))));(all_goals (focus (first|(with_reducible assumption)|exact inferInstance|exact qV inferInstance rfl rfl|(with_reducible rfl)|omega|(unfold dZ;omega)|(constructor<;>omega)|decide)))));refine ru ?_;exact k.out)
  |(apply mY;rfl;(focus (apply zS;rfl;rfl;rfl;rfl;apply c;(all_goals (try (focus ((repeat (first|(with_reducible exact vI)|(apply sB;focus (repeat (first|(with_reducible exact qM)|(apply ol))))));done))));(all_goals (focus (first|(with_reducible assumption)|exact inferInstance|exact qV inferInstance rfl rfl|(with_reducible rfl)|omega|(unfold dZ;omega)|(constructor<;>omega)|decide)))));refine Gb ?_;exact k.out)
  |(apply Xw;rfl;rfl;(focus (apply M7;rfl;rfl;rfl;apply c;(all_goals (try (focus ((repeat (first|(with_reducible exact vI)|(apply sB;focus (repeat (first|(with_reducible exact qM)|(apply ol))))));done))));(all_goals (focus (first|(with_reducible assumption)|exact inferInstance|exact qV inferInstance rfl rfl|(with_reducible rfl)|omega|(unfold dZ;omega)|(constructor<;>omega)|decide)))));rfl;exact k.out)
  |(apply kO;rfl;exact qy;(focus (apply zS;rfl;rfl;rfl;rfl;apply c;(all_goals (try (focus ((repeat (first|(with_reducible exact vI)|(apply sB;focus (repeat (first|(with_reducible exact qM)|(apply ol))))));done))));(all_goals (focus (first|(with_reducible assumption)|exact inferInstance|exact qV inferInstance rfl rfl|(with_reducible rfl)|omega|(unfold dZ;omega)|(constructor<;>omega)|decide)))));refine ru ?_;exact k.out)
  |(apply kO;rfl;exact qy;(focus (apply zS;rfl;rfl;rfl;rfl;apply c;(all_goals (try (focus ((repeat (first|(with_reducible exact vI)|(apply sB;focus (repeat (first|(with_reducible exact qM)|(apply ol))))));done))));(all_goals (focus (first|(with_reducible assumption)|exact inferInstance|exact qV inferInstance rfl rfl|(with_reducible rfl)|omega|(unfold dZ;omega)|(constructor<;>omega)|decide)))));refine Gb ?_;exact k.out)):P:=h c ⟨k⟩
theorem Ps {α:Sort u} {p:α→Value→List HP→Prop} {R:Value→List HP→Prop} (h:∀ x v L,p x v L→R v L):∀ v L,(∃ x,p x v L)→R v L:=fun v L ⟨x,hx⟩=>h x v L hx
theorem av {Q P:Prop} (k:Q) (h:Hid Q→P:=by
  intro k
  (refine an ?_;refine DQ mixed (by kernel_rfl) ?_;exact k.out)):P:=h ⟨k⟩
theorem bF (st:St) {id:Nat} {ops:List Oper} {pl:oB} {N:Nat} {env:Env} {L:List HP} {Q:Exit→Act→World→Prop} (h:WT st Go.Proofs.Tryz.prog N ops.toArray L pl env L (Un Q)) (hp:yP .any ops.toArray ops.length st (Array.replicate ops.length false)=pl:=by kernel_rfl) (R5:Region.noSelect ops.toArray=true:=by kernel_rfl):WC Go.Proofs.Tryz.prog N (.region id ops.toArray true) env L Q:=nC st L mixed hp R5 ai.refl h
theorem af {Q:Prop} (h:Q:=by (repeat (first|(with_reducible exact ai.refl)|exact ai.nil|(apply iX;exact G4)|apply ai.drop))):Q:=h
theorem aM {Q:Prop} (h:Q:=by (apply ad rfl rfl ar;(first|exact cS|exact ⟨by simp []<;>omega,rfl⟩);exact bM)):Q:=h
end Go.Sx
