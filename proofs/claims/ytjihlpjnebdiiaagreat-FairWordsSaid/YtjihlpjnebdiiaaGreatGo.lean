/- The automatic walk: contracts in a frame, loops whose kept slots are read off, and the steps as one rule. My own work; names no program. -/
import Derived.Test.YtjihlpjnebdiiaaGreatTy
import Derived.Test.YtjihlpjnebdiiaaGreatEq
import Derived.Test.YtjihlpjnebdiiaaGreatMap
import Derived.Test.YtjihlpjnebdiiaaGreatMk
set_option linter.unusedVariables false
set_option linter.unusedSectionVars false
set_option linter.unusedSimpArgs false
universe u
namespace Go.Sx
open Go
theorem uG {α:Sort u} {a:α}:¬¬(a=a):=fun h=>h rfl
theorem uH {α:Sort u} {a:α}:¬(a≠a):=fun h=>h rfl
structure FnF (P:Program) (f:FuncId) (vs:List Value) (pre F:List HP) (post:Value→List HP→Prop):Prop where
  enters:a1d P f
  runs:∀ w,fP (pO pre F) w→Calls P f vs.toArray w (fun e w'=>∃ v L',e= .returned v∧post v L'∧fP (pO L' F) w')
section
variable {P:Program} {N:Nat}
theorem FnF.all {f:FuncId} {vs:List Value} {pre:List HP} {post:Value→List HP→Prop} (h:∀ F,FnF P f vs pre F post):FnS P f vs pre post:=⟨(h []).enters,fun F=>(h F).runs⟩
theorem FnF.mono {f:FuncId} {vs:List Value} {pre F:List HP} {post post':Value→List HP→Prop} (C:FnF P f vs pre F post) (h:∀ v L,post v L→post' v L):FnF P f vs pre F post':=
  ⟨C.enters,fun w hw=>(C.runs w hw).mono fun e w' ⟨v,L',h1,h2,h3⟩=>⟨v,L',h1,h _ _ h2,h3⟩⟩
theorem FnF.pure {f:FuncId} {vs:List Value} {pre F:List HP} {u:Value} (h:FnF P f vs [] (pO pre F) (fun v L'=>v=u∧L'=[])):FnF P f vs pre F (fun v L'=>v=u∧L'=pre):=
  ⟨h.enters,fun w hw=>(h.runs w hw).mono fun e w' ⟨v,L',h1,⟨h2,h3⟩,h4⟩=>⟨v,pre,h1,⟨h2,rfl⟩,by subst h3;exact h4⟩⟩
theorem FnF.mk' {f:FuncId} {fn:Func} {c:Code} {N:Nat} {vs:List Value} {pre F:List HP} {post:Value→List HP→Prop}
    (hf:P.funcs[f]? =some fn) (hb:fn.body=some c) (hn:(fn.name == "runtime.NumGoroutine")=false) (hN:fn.ntmps=N) (hv:Nat.ble vs.length N=true)
    (h:WC P N c (b2i 0 vs) (pO pre F) (vL P fn post F)):FnF P f vs pre F post:=by
  refine ⟨k6 hf hb hn,fun w hw=>calls_of_wp hf hb ?_⟩
  have hle:vs.length≤N:=by simpa using hv
  refine h _ w ⟨?_,rfl,fun t v e=>?_⟩ hw
  · simp [hN];omega
  · obtain ⟨_,h2⟩:=xY vs 0 t v e
    have ht:t<vs.length:=(List.getElem?_eq_some_iff.1 h2).1
    rw [Array.getD_eq_getD_getElem?,Array.getElem?_append_left (by simpa using ht)]
    simp at h2
    simp [h2]
theorem a1b {L:List HP}:PickL [] L L:=PickL.nil
theorem u6 {p:HP} {pre L L' F:List HP} (k:Pick p L L') (m:PickL pre L' F):PickL (p::pre) L F:=@PickL.cons _ _ _ _ _ k m
theorem rV {p:HP} {L:List HP}:Pick p (p::L) L:=Pick.here
theorem oX {p q:HP} {L L':List HP} (k:Pick p L L'):Pick p (q::L) (q::L'):=@Pick.there _ _ _ _ k
theorem a8d {f:Operand} {args:List Operand} {ats:Array TypeId} {k:FuncId} {first cap:List Value} {avs vs:List Value} {pre F:List HP} {post:Value→List HP→Prop} {ty:TypeId}
    {pos:String} {aft:Array Edge} {d:Option Nat} {env:Env} {L:List HP}
    (hf:ev env f=some (.func (.func k) first.toArray cap.toArray)) (ha:evs env args=some avs) (hv:first++avs++cap=vs) (hd:xX N d=true) (C:FnF P k vs pre F post) (hE:PickL pre L F) :
    KO P N ⟨d,.call ⟨.value f,args.toArray,ats⟩,ty,pos,aft,none⟩ env L (c5n env d F post):=by
  intro a w hA hw K Q next
  unfold Oper.wp
  rw [bQ,c0y (vs:=vs) (hA.ev hf) (by rw [hA.evs ha];simpa using hv) C.enters w]
  refine (C.runs w (hE.pf.sat hw)).mono fun e w' ⟨v,L',he,hp,hs⟩=>?_
  subst he
  exact next _ _ _ w' ⟨v,L',hp,rfl,rfl⟩ (hA.puts hd v) hs
def QC (P:Program) (N:Nat) (o:Oper) (env:Env) (L:List HP) (u:Value):Prop:=∀ a,EnvOk N env a→∀ w,fP L w→o.quietAt P a (fP L) w u
theorem f4u {o:Oper} {d:Nat} {u:Value} {all:Array Oper} {rest:List Oper} {Q:Exit→Act→World→Prop} {env:Env} {L:List HP} (hg:o.guard=none) (hdst:o.dst=some d) (h:QC P N o env L u) (hd:Nat.blt d N=true)
    (next:WQ P N all rest ((d,u)::env) L Q):WQ P N all (o::rest) env L Q:=by
  intro a hA
  simp only [wpQuiet,Region.wanted,hg,if_true]
  refine ⟨u,fun w hw=>h a hA w hw,?_⟩
  rw [hdst]
  exact next _ (hA.put hd u)
theorem d5h {f:Operand} {args:List Operand} {ats:Array TypeId} {k:FuncId} {first cap:List Value} {avs vs:List Value} {pre F:List HP} {u:Value} {ty:TypeId}
    {pos:String} {aft:Array Edge} {d:Option Nat} {env:Env} {L:List HP}
    (hf:ev env f=some (.func (.func k) first.toArray cap.toArray)) (ha:evs env args=some avs) (hv:first++avs++cap=vs)
    (C:FnF P k vs pre F (fun v L'=>v=u∧L'=pre)) (hE:PickL pre L F):QC P N ⟨d,.call ⟨.value f,args.toArray,ats⟩,ty,pos,aft,none⟩ env L u:=by
  intro a hA w hw
  unfold Oper.quietAt
  rw [bQ,c0y (vs:=vs) (hA.ev hf) (by rw [hA.evs ha];simpa using hv) C.enters w]
  refine ⟨rfl,(C.runs w (hE.pf.sat hw)).mono fun e w' ⟨v,L',he,⟨hv,hL⟩,hs⟩=>?_⟩
  subst hv hL
  exact ⟨he,hE.back.sat hs⟩
theorem aW {ι:Type} (E0:Env) (E:Env→ι→Env) (H:ι→List HP) (I:ι→Prop) (μ:ι→Nat) (i:ι) {c:Code} {env:Env} {L:List HP} {Q:Exit→Act→World→Prop}
    (hs:Sub (E E0 i) env) (hI:I i) (he:Ent L (H i)) (round:∀ j,I j→WC P N c (E E0 j) (H j) (bT N (E E0) H I μ j Q)):WC P N (.loop c) env L Q:=
  b6c (E E0) H I μ i hI hs he round
theorem iS {p:HP} {L L' M:List HP} (k:Pick p L L') (a:Ent L' M):Ent L (p::M):=fun _ h=>iT a (k.pf _ h)
theorem c3q {a:Nat} {t b n bs:Nat} {d:TypeDesc} {z v:Value} {T:TypeId} {l:List Value} {C:List Value→List HP} {env:Env} {L:List HP} {rs:List ResultVar} {vs:List Value} [hT:TU P t d] [hZ:TZ P t n z bs]
    (h:env.get? a=some (.pointer (some ⟨b,0,none⟩))) (k:CellsAt b L T l C) (hn:l.length=n) (hv:kE (n7 d) l=some v) (r:ResOk P env L rs vs):ResOk P env L (.cell a t::rs) (v::vs):=
  ResOk.cell h (fun w hw=>v9 (P:=P) (b:=b) (off:=0) hT hZ hn hv (fun j v hj=>by rw [fX (gR k hw)];simpa using hj)) r
theorem d1z {Q:Exit→Act→World→Prop} {env:Env} {L:List HP} {st:St} {ops:Array Oper} {LS:List HP} {i:Nat} {next:Plan} {held:Bool} {op:Op} {ty:TypeId} {pos:String} {aft:Array Edge} {g:Option (Nat×Bool)} {d:Nat} {v:Value} (ho:ops[i]? =some ⟨some d,op,ty,pos,aft,g⟩)
    (hg:GIn ops env g) (h:V P N op ty env L v) (hd:Nat.blt d N=true) (k:After st ops LS held i L∧WT st P N ops LS next ((d,v)::env) L Q):WT st P N ops LS (.e held [(i,next)]) env L Q:=
  qW (post:=fun e' L'=>e'=(d,v)::env∧L'=L) ho hg (fun a w ha hw K Q next=>by
    unfold Oper.wp
    rw [bQ,h a w ha hw]
    exact next _ _ _ _ ⟨rfl,rfl⟩ (ha.put hd v) hw) (by
    rintro _ _ ⟨rfl,rfl⟩
    exact k)
theorem n4 {st:St} {ops:Array Oper} {LS L':List HP} {i:Nat} {G:Prop} (h:G):After st ops LS false i L'∧G:=⟨After.free,h⟩
theorem l4 {st:St} {ops:Array Oper} {LS L':List HP} {i:Nat} {held:Bool} {G:Prop} (e:c4v st ops i=true) (h:G):After st ops LS held i L'∧G:=⟨After.turns e,h⟩
theorem l5 {st:St} {ops:Array Oper} {LS L':List HP} {i:Nat} {held:Bool} {G:Prop} (e:Ent L' LS) (h:G):After st ops LS held i L'∧G:=⟨After.still e,h⟩
end
set_option maxRecDepth 100000
structure Hid (Q:Prop):Prop where
  out:Q
theorem go {Q P:Prop} (k:Q) (h:Hid Q→P:=by
  intro k
  (first|refine zr ?_|refine f4k ?_|(apply b6d;exact b7f;rfl)|refine zK ?_|refine d9j ?_|(apply d2b;rfl;exact b8u;exact b7f;rfl)|(apply d2c;rfl;exact b8u;exact b7f;rfl)|refine a5s ?_|refine jO ?_|refine a5u ?_|refine y5 ?_|refine pU ?_|refine zH ?_|refine a5t ?_|refine l6 ?_|refine tB ?_|refine y0 ?_|refine l7 ?_|(refine l8 ?_ ?_;rfl)|refine kM ?_|refine tC ?_|refine kN ?_|refine kO ?_|refine l9 ?_|refine yZ ?_|(apply pP;rfl;(with_reducible rfl))|(apply pQ;rfl;(with_reducible rfl))|refine a5v ?_|(apply xG;rfl;exact e7d;(first|refine dG ?_|refine dE ?_|refine aM ?_))|(apply qW;rfl;exact b8u;exact e7d;(first|refine dG ?_|refine dE ?_|refine aM ?_))|(apply d1z;rfl;exact b8u;exact b7f;rfl)|refine n4 ?_|refine l4 rfl ?_|(refine l5 ?_ ?_;(focus (exact jM;done)))|(apply b7l;rfl;exact e0p;rfl)|(apply b7m;rfl;exact e0p;rfl)|(apply b7n;rfl;exact e0p;rfl;(refine ⟨by first|exact After.free|exact After.turns rfl|(refine After.still ?_;exact jM;done),?_⟩))|(apply b2j;exact b7f;rfl)|(apply tD;rfl;rfl;(with_reducible rfl);rfl;rfl)|(apply tE;rfl;rfl;(with_reducible rfl);rfl;rfl)|(apply pS;rfl;rfl;(with_reducible rfl);rfl;rfl;rfl)|(apply pT;rfl;rfl;(with_reducible rfl);rfl;rfl;rfl)|(apply mA;rfl;rfl;(with_reducible rfl);rfl)|(apply mB;rfl;rfl;(with_reducible rfl);rfl)|(apply y9;rfl;rfl;rfl;rfl;(first|exact jP a4t|(first|(with_reducible assumption)|decide)))|(apply zB;rfl;rfl;rfl;rfl;(first|exact jQ a4t|(first|(with_reducible assumption)|decide)))|(apply zA;rfl;rfl;rfl;rfl;(first|exact jQ a4t|(first|(with_reducible assumption)|decide)))|(apply zC;rfl;rfl;rfl;rfl;(first|exact jP a4t|(first|(with_reducible assumption)|decide)))|(apply zD;rfl;rfl;rfl;rfl;(first|exact jP a4t|(first|(with_reducible assumption)|decide)))|(apply zF;rfl;rfl;rfl;rfl;(first|exact jQ a4t|(first|(with_reducible assumption)|decide)))|(apply zE;rfl;rfl;rfl;rfl;(first|exact jQ a4t|(first|(with_reducible assumption)|decide)))|(apply zG;rfl;rfl;rfl;rfl;(first|exact jP a4t|(first|(with_reducible assumption)|decide)))|(apply a5w;rfl;(first|(with_reducible assumption)|(with_reducible rfl)|(with_reducible exact uG)|(with_reducible exact uH)|omega|decide|exact rfl))|(apply b7h;rfl;(first|(with_reducible assumption)|(with_reducible rfl)|(with_reducible exact uG)|(with_reducible exact uH)|omega|decide|exact rfl))|(apply b7i;rfl;(first|(with_reducible assumption)|decide))|(apply b7j;rfl;(first|(with_reducible assumption)|decide)))
  (repeat (first|refine zr ?_|refine f4k ?_|(apply b6d;exact b7f;rfl)|refine zK ?_|refine d9j ?_|(apply d2b;rfl;exact b8u;exact b7f;rfl)|(apply d2c;rfl;exact b8u;exact b7f;rfl)|refine a5s ?_|refine jO ?_|refine a5u ?_|refine y5 ?_|refine pU ?_|refine zH ?_|refine a5t ?_|refine l6 ?_|refine tB ?_|refine y0 ?_|refine l7 ?_|(refine l8 ?_ ?_;rfl)|refine kM ?_|refine tC ?_|refine kN ?_|refine kO ?_|refine l9 ?_|refine yZ ?_|(apply pP;rfl;(with_reducible rfl))|(apply pQ;rfl;(with_reducible rfl))|refine a5v ?_|(apply xG;rfl;exact e7d;(first|refine dG ?_|refine dE ?_|refine aM ?_))|(apply qW;rfl;exact b8u;exact e7d;(first|refine dG ?_|refine dE ?_|refine aM ?_))|(apply d1z;rfl;exact b8u;exact b7f;rfl)|refine n4 ?_|refine l4 rfl ?_|(refine l5 ?_ ?_;(focus (exact jM;done)))|(apply b7l;rfl;exact e0p;rfl)|(apply b7m;rfl;exact e0p;rfl)|(apply b7n;rfl;exact e0p;rfl;(refine ⟨by first|exact After.free|exact After.turns rfl|(refine After.still ?_;exact jM;done),?_⟩))|(apply b2j;exact b7f;rfl)|(apply tD;rfl;rfl;(with_reducible rfl);rfl;rfl)|(apply tE;rfl;rfl;(with_reducible rfl);rfl;rfl)|(apply pS;rfl;rfl;(with_reducible rfl);rfl;rfl;rfl)|(apply pT;rfl;rfl;(with_reducible rfl);rfl;rfl;rfl)|(apply mA;rfl;rfl;(with_reducible rfl);rfl)|(apply mB;rfl;rfl;(with_reducible rfl);rfl)|(apply y9;rfl;rfl;rfl;rfl;(first|exact jP a4t|(first|(with_reducible assumption)|decide)))|(apply zB;rfl;rfl;rfl;rfl;(first|exact jQ a4t|(first|(with_reducible assumption)|decide)))|(apply zA;rfl;rfl;rfl;rfl;(first|exact jQ a4t|(first|(with_reducible assumption)|decide)))|(apply zC;rfl;rfl;rfl;rfl;(first|exact jP a4t|(first|(with_reducible assumption)|decide)))|(apply zD;rfl;rfl;rfl;rfl;(first|exact jP a4t|(first|(with_reducible assumption)|decide)))|(apply zF;rfl;rfl;rfl;rfl;(first|exact jQ a4t|(first|(with_reducible assumption)|decide)))|(apply zE;rfl;rfl;rfl;rfl;(first|exact jQ a4t|(first|(with_reducible assumption)|decide)))|(apply zG;rfl;rfl;rfl;rfl;(first|exact jP a4t|(first|(with_reducible assumption)|decide)))|(apply a5w;rfl;(first|(with_reducible assumption)|(with_reducible rfl)|(with_reducible exact uG)|(with_reducible exact uH)|omega|decide|exact rfl))|(apply b7h;rfl;(first|(with_reducible assumption)|(with_reducible rfl)|(with_reducible exact uG)|(with_reducible exact uH)|omega|decide|exact rfl))|(apply b7i;rfl;(first|(with_reducible assumption)|decide))|(apply b7j;rfl;(first|(with_reducible assumption)|decide))))
  exact k.out):P:=h ⟨k⟩
theorem gd {Q P:Prop} (k:Q) (h:Hid Q→P:=by
  intro k
  (first|refine zr ?_|refine f4k ?_|(apply b6d;exact b7f;rfl)|refine zK ?_|refine d9j ?_|(apply d2b;rfl;exact b8u;exact b7f;rfl)|(apply d2c;rfl;exact b8u;exact b7f;rfl)|refine a5s ?_|(refine aI ?_;refine b6e sD (by kernel_rfl) ?_)|refine jO ?_|refine a5u ?_|refine y5 ?_|refine pU ?_|refine zH ?_|refine a5t ?_|refine l6 ?_|refine tB ?_|refine y0 ?_|refine l7 ?_|(refine l8 ?_ ?_;rfl)|refine kM ?_|refine tC ?_|refine kN ?_|refine kO ?_|refine l9 ?_|refine yZ ?_|(apply pP;rfl;(with_reducible rfl))|(apply pQ;rfl;(with_reducible rfl))|refine a5v ?_|(apply xG;rfl;exact e7d;(first|refine dG ?_|refine dE ?_|refine aM ?_))|(apply qW;rfl;exact b8u;exact e7d;(first|refine dG ?_|refine dE ?_|refine aM ?_))|(apply d1z;rfl;exact b8u;exact b7f;rfl)|refine n4 ?_|refine l4 rfl ?_|(refine l5 ?_ ?_;(focus (exact jM;done)))|(apply b7l;rfl;exact e0p;rfl)|(apply b7m;rfl;exact e0p;rfl)|(apply b7n;rfl;exact e0p;rfl;(refine ⟨by first|exact After.free|exact After.turns rfl|(refine After.still ?_;exact jM;done),?_⟩))|(apply b2j;exact b7f;rfl)|(apply tD;rfl;rfl;(with_reducible rfl);rfl;rfl)|(apply tE;rfl;rfl;(with_reducible rfl);rfl;rfl)|(apply pS;rfl;rfl;(with_reducible rfl);rfl;rfl;rfl)|(apply pT;rfl;rfl;(with_reducible rfl);rfl;rfl;rfl)|(apply mA;rfl;rfl;(with_reducible rfl);rfl)|(apply mB;rfl;rfl;(with_reducible rfl);rfl)|(apply y9;rfl;rfl;rfl;rfl;(first|exact jP a4t|(first|(with_reducible assumption)|decide)))|(apply zB;rfl;rfl;rfl;rfl;(first|exact jQ a4t|(first|(with_reducible assumption)|decide)))|(apply zA;rfl;rfl;rfl;rfl;(first|exact jQ a4t|(first|(with_reducible assumption)|decide)))|(apply zC;rfl;rfl;rfl;rfl;(first|exact jP a4t|(first|(with_reducible assumption)|decide)))|(apply zD;rfl;rfl;rfl;rfl;(first|exact jP a4t|(first|(with_reducible assumption)|decide)))|(apply zF;rfl;rfl;rfl;rfl;(first|exact jQ a4t|(first|(with_reducible assumption)|decide)))|(apply zE;rfl;rfl;rfl;rfl;(first|exact jQ a4t|(first|(with_reducible assumption)|decide)))|(apply zG;rfl;rfl;rfl;rfl;(first|exact jP a4t|(first|(with_reducible assumption)|decide)))|(apply a5w;rfl;(first|(with_reducible assumption)|(with_reducible rfl)|(with_reducible exact uG)|(with_reducible exact uH)|omega|decide|exact rfl))|(apply b7h;rfl;(first|(with_reducible assumption)|(with_reducible rfl)|(with_reducible exact uG)|(with_reducible exact uH)|omega|decide|exact rfl))|(apply b7i;rfl;(first|(with_reducible assumption)|decide))|(apply b7j;rfl;(first|(with_reducible assumption)|decide)))
  (repeat (first|refine zr ?_|refine f4k ?_|(apply b6d;exact b7f;rfl)|refine zK ?_|refine d9j ?_|(apply d2b;rfl;exact b8u;exact b7f;rfl)|(apply d2c;rfl;exact b8u;exact b7f;rfl)|refine a5s ?_|(refine aI ?_;refine b6e sD (by kernel_rfl) ?_)|refine jO ?_|refine a5u ?_|refine y5 ?_|refine pU ?_|refine zH ?_|refine a5t ?_|refine l6 ?_|refine tB ?_|refine y0 ?_|refine l7 ?_|(refine l8 ?_ ?_;rfl)|refine kM ?_|refine tC ?_|refine kN ?_|refine kO ?_|refine l9 ?_|refine yZ ?_|(apply pP;rfl;(with_reducible rfl))|(apply pQ;rfl;(with_reducible rfl))|refine a5v ?_|(apply xG;rfl;exact e7d;(first|refine dG ?_|refine dE ?_|refine aM ?_))|(apply qW;rfl;exact b8u;exact e7d;(first|refine dG ?_|refine dE ?_|refine aM ?_))|(apply d1z;rfl;exact b8u;exact b7f;rfl)|refine n4 ?_|refine l4 rfl ?_|(refine l5 ?_ ?_;(focus (exact jM;done)))|(apply b7l;rfl;exact e0p;rfl)|(apply b7m;rfl;exact e0p;rfl)|(apply b7n;rfl;exact e0p;rfl;(refine ⟨by first|exact After.free|exact After.turns rfl|(refine After.still ?_;exact jM;done),?_⟩))|(apply b2j;exact b7f;rfl)|(apply tD;rfl;rfl;(with_reducible rfl);rfl;rfl)|(apply tE;rfl;rfl;(with_reducible rfl);rfl;rfl)|(apply pS;rfl;rfl;(with_reducible rfl);rfl;rfl;rfl)|(apply pT;rfl;rfl;(with_reducible rfl);rfl;rfl;rfl)|(apply mA;rfl;rfl;(with_reducible rfl);rfl)|(apply mB;rfl;rfl;(with_reducible rfl);rfl)|(apply y9;rfl;rfl;rfl;rfl;(first|exact jP a4t|(first|(with_reducible assumption)|decide)))|(apply zB;rfl;rfl;rfl;rfl;(first|exact jQ a4t|(first|(with_reducible assumption)|decide)))|(apply zA;rfl;rfl;rfl;rfl;(first|exact jQ a4t|(first|(with_reducible assumption)|decide)))|(apply zC;rfl;rfl;rfl;rfl;(first|exact jP a4t|(first|(with_reducible assumption)|decide)))|(apply zD;rfl;rfl;rfl;rfl;(first|exact jP a4t|(first|(with_reducible assumption)|decide)))|(apply zF;rfl;rfl;rfl;rfl;(first|exact jQ a4t|(first|(with_reducible assumption)|decide)))|(apply zE;rfl;rfl;rfl;rfl;(first|exact jQ a4t|(first|(with_reducible assumption)|decide)))|(apply zG;rfl;rfl;rfl;rfl;(first|exact jP a4t|(first|(with_reducible assumption)|decide)))|(apply a5w;rfl;(first|(with_reducible assumption)|(with_reducible rfl)|(with_reducible exact uG)|(with_reducible exact uH)|omega|decide|exact rfl))|(apply b7h;rfl;(first|(with_reducible assumption)|(with_reducible rfl)|(with_reducible exact uG)|(with_reducible exact uH)|omega|decide|exact rfl))|(apply b7i;rfl;(first|(with_reducible assumption)|decide))|(apply b7j;rfl;(first|(with_reducible assumption)|decide))))
  exact k.out):P:=h ⟨k⟩
theorem nV {Q1 Q2 P:Prop} (k1:Q1) (k2:Q2) (h:Hid Q1→Hid Q2→P:=by
  intro k1 k2
  first
  |(apply v7;rfl;exact k1.out;exact k2.out)
  |(apply vC;rfl;(refine a8u ?_;exact k1.out);(refine a8v ?_;exact k2.out))
  |(apply vC;rfl;exact k1.out;exact k2.out)
  |(apply c7w;rfl;rfl;rfl;rfl;(refine a8u ?_;exact k1.out);(refine a8v ?_;exact k2.out))
  |(apply c7x;rfl;rfl;rfl;rfl;(refine a8v ?_;exact k1.out);(refine a8u ?_;exact k2.out))
  |(apply c7y;rfl;rfl;rfl;rfl;(refine a8u ?_;exact k1.out);(refine a8v ?_;exact k2.out))
  |(apply WQ_gs_f;rfl;rfl;rfl;rfl;(refine a8v ?_;exact k1.out);(refine a8u ?_;exact k2.out))
  |(apply WT_gs_p;rfl;rfl;rfl;(refine a8u ?_;exact k1.out);(refine a8v ?_;exact k2.out))
  |(apply WT_gs_r;rfl;rfl;rfl;(refine a8u ?_;exact k1.out);(refine a8v ?_;exact k2.out))
  |(apply WT_gs_e;rfl;rfl;rfl;(refine a8u ?_;exact k1.out);(refine a8v ?_;exact k2.out))
  |(apply c7w;rfl;rfl;rfl;rfl;exact k1.out;exact k2.out)
  |(apply c7x;rfl;rfl;rfl;rfl;exact k1.out;exact k2.out)
  |(apply c7y;rfl;rfl;rfl;rfl;exact k1.out;exact k2.out)
  |(apply WQ_gs_f;rfl;rfl;rfl;rfl;exact k1.out;exact k2.out)
  |(apply WT_gs_p;rfl;rfl;rfl;exact k1.out;exact k2.out)
  |(apply WT_gs_r;rfl;rfl;rfl;exact k1.out;exact k2.out)
  |(apply WT_gs_e;rfl;rfl;rfl;exact k1.out;exact k2.out)
  |(apply zL;exact k1.out;exact k2.out)):P:=h ⟨k1⟩ ⟨k2⟩
theorem aD {C Q P:Prop} (c:C) (k:Q) (h:C→Hid Q→P:=by
  intro c k
  first
  |(apply xG;rfl;(focus (apply a8d;rfl;rfl;rfl;rfl;apply c;(all_goals (try (focus ((repeat (first|(with_reducible exact a1b)|(apply u6;focus (repeat (first|(with_reducible exact rV)|(apply oX))))));done))));(all_goals (focus (first|(with_reducible assumption)|exact inferInstance|exact s5 inferInstance rfl rfl|(with_reducible rfl)|omega|(unfold nA;omega)|(constructor<;>omega)|decide)))));refine rA ?_;exact k.out)
  |(apply xG;rfl;(focus (apply a8d;rfl;rfl;rfl;rfl;apply c;(all_goals (try (focus ((repeat (first|(with_reducible exact a1b)|(apply u6;focus (repeat (first|(with_reducible exact rV)|(apply oX))))));done))));(all_goals (focus (first|(with_reducible assumption)|exact inferInstance|exact s5 inferInstance rfl rfl|(with_reducible rfl)|omega|(unfold nA;omega)|(constructor<;>omega)|decide)))));refine called_none ?_;exact k.out)
  |(apply f4u;rfl;rfl;(focus (apply d5h;rfl;rfl;rfl;apply c;(all_goals (try (focus ((repeat (first|(with_reducible exact a1b)|(apply u6;focus (repeat (first|(with_reducible exact rV)|(apply oX))))));done))));(all_goals (focus (first|(with_reducible assumption)|exact inferInstance|exact s5 inferInstance rfl rfl|(with_reducible rfl)|omega|(unfold nA;omega)|(constructor<;>omega)|decide)))));rfl;exact k.out)
  |(apply qW;rfl;exact b8u;(focus (apply a8d;rfl;rfl;rfl;rfl;apply c;(all_goals (try (focus ((repeat (first|(with_reducible exact a1b)|(apply u6;focus (repeat (first|(with_reducible exact rV)|(apply oX))))));done))));(all_goals (focus (first|(with_reducible assumption)|exact inferInstance|exact s5 inferInstance rfl rfl|(with_reducible rfl)|omega|(unfold nA;omega)|(constructor<;>omega)|decide)))));refine rA ?_;exact k.out)
  |(apply qW;rfl;exact b8u;(focus (apply a8d;rfl;rfl;rfl;rfl;apply c;(all_goals (try (focus ((repeat (first|(with_reducible exact a1b)|(apply u6;focus (repeat (first|(with_reducible exact rV)|(apply oX))))));done))));(all_goals (focus (first|(with_reducible assumption)|exact inferInstance|exact s5 inferInstance rfl rfl|(with_reducible rfl)|omega|(unfold nA;omega)|(constructor<;>omega)|decide)))));refine called_none ?_;exact k.out)):P:=h c ⟨k⟩
theorem f4k {α:Sort u} {p:α→Value→List HP→Prop} {R:Value→List HP→Prop} (h:∀ x v L,p x v L→R v L):∀ v L,(∃ x,p x v L)→R v L:=fun v L ⟨x,hx⟩=>h x v L hx
theorem dM {Q P:Prop} (k:Q) (h:Hid Q→P:=by
  intro k
  (refine aI ?_;refine b6e sD (by kernel_rfl) ?_;exact k.out)):P:=h ⟨k⟩
theorem uU (st:St) {id:Nat} {ops:List Oper} {pl:Plan} {N:Nat} {env:Env} {L:List HP} {Q:Exit→Act→World→Prop} (h:WT st Go.Proofs.Tryz.prog N ops.toArray L pl env L (f4x Q)) (hp:b6f .any ops.toArray ops.length st (Array.replicate ops.length false)=pl:=by kernel_rfl) (hns:Region.noSelect ops.toArray=true:=by kernel_rfl):WC Go.Proofs.Tryz.prog N (.region id ops.toArray true) env L Q:=pV st L sD hp hns Ent.refl h
theorem aB {Q:Prop} (h:Q:=by (repeat (first|(with_reducible exact Ent.refl)|exact Ent.nil|(apply iS;exact f1n)|apply Ent.drop))):Q:=h
theorem bF {Q:Prop} (h:Q:=by (apply aA rfl rfl bH;(first|exact oO|exact ⟨by simp []<;>omega,rfl⟩);exact jM)):Q:=h
end Go.Sx
