/- The automatic walk: contracts in a frame, loops whose kept slots are read off, and the steps as one rule. My own work; names no program. -/
import Derived.Test.YtjihlpjnebdiiaaGreatTy
import Derived.Test.YtjihlpjnebdiiaaGreatEq
import Derived.Test.YtjihlpjnebdiiaaGreatMap
import Derived.Test.YtjihlpjnebdiiaaGreatMk
set_option linter.unusedVariables false
set_option linter.unusedSectionVars false
set_option linter.unusedSimpArgs false
universe u
namespace Go.Sx
open Go
theorem tJ {α:Sort u} {a:α}:¬¬(a=a):=fun h=>h rfl
theorem tK {α:Sort u} {a:α}:¬(a≠a):=fun h=>h rfl
structure FnF (P:Program) (f:FuncId) (vs:List Value) (pre F:List HP) (post:Value→List HP→Prop):Prop where
  enters:zG P f
  runs:∀ w,d3 (oI pre F) w→Calls P f vs.toArray w (fun e w'=>∃ v L',e= .returned v∧post v L'∧d3 (oI L' F) w')
section
variable {P:Program} {N:Nat}
theorem FnF.all {f:FuncId} {vs:List Value} {pre:List HP} {post:Value→List HP→Prop} (h:∀ F,FnF P f vs pre F post):FnS P f vs pre post:=⟨(h []).enters,fun F=>(h F).runs⟩
theorem FnF.mono {f:FuncId} {vs:List Value} {pre F:List HP} {post post':Value→List HP→Prop} (C:FnF P f vs pre F post) (h:∀ v L,post v L→post' v L):FnF P f vs pre F post':=
  ⟨C.enters,fun w hw=>(C.runs w hw).mono fun e w' ⟨v,L',h1,h2,h3⟩=>⟨v,L',h1,h _ _ h2,h3⟩⟩
theorem FnF.pure {f:FuncId} {vs:List Value} {pre F:List HP} {u:Value} (h:FnF P f vs [] (oI pre F) (fun v L'=>v=u∧L'=[])):FnF P f vs pre F (fun v L'=>v=u∧L'=pre):=
  ⟨h.enters,fun w hw=>(h.runs w hw).mono fun e w' ⟨v,L',h1,⟨h2,h3⟩,h4⟩=>⟨v,pre,h1,⟨h2,rfl⟩,by subst h3;exact h4⟩⟩
theorem FnF.mk' {f:FuncId} {fn:Func} {c:Code} {N:Nat} {vs:List Value} {pre F:List HP} {post:Value→List HP→Prop}
    (hf:P.funcs[f]? =some fn) (hb:fn.body=some c) (hn:(fn.name == "runtime.NumGoroutine")=false) (hN:fn.ntmps=N) (hv:Nat.ble vs.length N=true)
    (h:WC P N c (a9f 0 vs) (oI pre F) (tV P fn post F)):FnF P f vs pre F post:=by
  refine ⟨kB hf hb hn,fun w hw=>calls_of_wp hf hb ?_⟩
  have hle:vs.length≤N:=by simpa using hv
  refine h _ w ⟨?_,rfl,fun t v e=>?_⟩ hw
  · simp [hN];omega
  · obtain ⟨_,h2⟩:=wC vs 0 t v e
    have ht:t<vs.length:=(List.getElem?_eq_some_iff.1 h2).1
    rw [Array.getD_eq_getD_getElem?,Array.getElem?_append_left (by simpa using ht)]
    simp at h2
    simp [h2]
theorem zF {L:List HP}:PickL [] L L:=PickL.nil
theorem t8 {p:HP} {pre L L' F:List HP} (k:Pick p L L') (m:PickL pre L' F):PickL (p::pre) L F:=@PickL.cons _ _ _ _ _ k m
theorem lM {p:HP} {L:List HP}:Pick p (p::L) L:=Pick.here
theorem iZ {p q:HP} {L L':List HP} (k:Pick p L L'):Pick p (q::L) (q::L'):=@Pick.there _ _ _ _ k
theorem a5x {f:Operand} {args:List Operand} {ats:Array TypeId} {k:FuncId} {first cap:List Value} {avs vs:List Value} {pre F:List HP} {post:Value→List HP→Prop} {ty:TypeId}
    {pos:String} {aft:Array Edge} {d:Option Nat} {env:Env} {L:List HP}
    (hf:ev env f=some (.func (.func k) first.toArray cap.toArray)) (ha:evs env args=some avs) (hv:first++avs++cap=vs) (hd:wB N d=true) (C:FnF P k vs pre F post) (hE:PickL pre L F) :
    KO P N ⟨d,.call ⟨.value f,args.toArray,ats⟩,ty,pos,aft,none⟩ env L (c2k env d F post):=by
  intro a w hA hw K Q next
  unfold Oper.wp
  rw [bE,b8l (vs:=vs) (hA.ev hf) (by rw [hA.evs ha];simpa using hv) C.enters w]
  refine (C.runs w (hE.pf.sat hw)).mono fun e w' ⟨v,L',he,hp,hs⟩=>?_
  subst he
  exact next _ _ _ w' ⟨v,L',hp,rfl,rfl⟩ (hA.puts hd v) hs
def QC (P:Program) (N:Nat) (o:Oper) (env:Env) (L:List HP) (u:Value):Prop:=∀ a,EnvOk N env a→∀ w,d3 L w→o.quietAt P a (d3 L) w u
theorem f0k {o:Oper} {d:Nat} {u:Value} {all:Array Oper} {rest:List Oper} {Q:Exit→Act→World→Prop} {env:Env} {L:List HP} (hg:o.guard=none) (hdst:o.dst=some d) (h:QC P N o env L u) (hd:Nat.blt d N=true)
    (next:WQ P N all rest ((d,u)::env) L Q):WQ P N all (o::rest) env L Q:=by
  intro a hA
  simp only [wpQuiet,Region.wanted,hg,if_true]
  refine ⟨u,fun w hw=>h a hA w hw,?_⟩
  rw [hdst]
  exact next _ (hA.put hd u)
theorem d2g {f:Operand} {args:List Operand} {ats:Array TypeId} {k:FuncId} {first cap:List Value} {avs vs:List Value} {pre F:List HP} {u:Value} {ty:TypeId}
    {pos:String} {aft:Array Edge} {d:Option Nat} {env:Env} {L:List HP}
    (hf:ev env f=some (.func (.func k) first.toArray cap.toArray)) (ha:evs env args=some avs) (hv:first++avs++cap=vs)
    (C:FnF P k vs pre F (fun v L'=>v=u∧L'=pre)) (hE:PickL pre L F):QC P N ⟨d,.call ⟨.value f,args.toArray,ats⟩,ty,pos,aft,none⟩ env L u:=by
  intro a hA w hw
  unfold Oper.quietAt
  rw [bE,b8l (vs:=vs) (hA.ev hf) (by rw [hA.evs ha];simpa using hv) C.enters w]
  refine ⟨rfl,(C.runs w (hE.pf.sat hw)).mono fun e w' ⟨v,L',he,⟨hv,hL⟩,hs⟩=>?_⟩
  subst hv hL
  exact ⟨he,hE.back.sat hs⟩
theorem bC {ι:Type} (E0:Env) (E:Env→ι→Env) (H:ι→List HP) (I:ι→Prop) (μ:ι→Nat) (i:ι) {c:Code} {env:Env} {L:List HP} {Q:Exit→Act→World→Prop}
    (hs:Sub (E E0 i) env) (hI:I i) (he:Ent L (H i)) (round:∀ j,I j→WC P N c (E E0 j) (H j) (bF N (E E0) H I μ j Q)):WC P N (.loop c) env L Q:=
  b3g (E E0) H I μ i hI hs he round
theorem dQ {p:HP} {L L' M:List HP} (k:Pick p L L') (a:Ent L' M):Ent L (p::M):=fun _ h=>fA a (k.pf _ h)
theorem c0v {a:Nat} {t b n bs:Nat} {d:TypeDesc} {z v:Value} {T:TypeId} {l:List Value} {C:List Value→List HP} {env:Env} {L:List HP} {rs:List ResultVar} {vs:List Value} [hT:TU P t d] [hZ:TZ P t n z bs]
    (h:env.get? a=some (.pointer (some ⟨b,0,none⟩))) (k:CellsAt b L T l C) (hn:l.length=n) (hv:jJ (mS d) l=some v) (r:ResOk P env L rs vs):ResOk P env L (.cell a t::rs) (v::vs):=
  ResOk.cell h (fun w hw=>vD (P:=P) (b:=b) (off:=0) hT hZ hn hv (fun j v hj=>by rw [eG (fV k hw)];simpa using hj)) r
theorem c8v {Q:Exit→Act→World→Prop} {env:Env} {L:List HP} {st:St} {ops:Array Oper} {LS:List HP} {i:Nat} {next:Plan} {held:Bool} {op:Op} {ty:TypeId} {pos:String} {aft:Array Edge} {g:Option (Nat×Bool)} {d:Nat} {v:Value} (ho:ops[i]? =some ⟨some d,op,ty,pos,aft,g⟩)
    (hg:GIn ops env g) (h:V P N op ty env L v) (hd:Nat.blt d N=true) (k:After st ops LS held i L∧WT st P N ops LS next ((d,v)::env) L Q):WT st P N ops LS (.e held [(i,next)]) env L Q:=
  p4 (post:=fun e' L'=>e'=(d,v)::env∧L'=L) ho hg (fun a w ha hw K Q next=>by
    unfold Oper.wp
    rw [bE,h a w ha hw]
    exact next _ _ _ _ ⟨rfl,rfl⟩ (ha.put hd v) hw) (by
    rintro _ _ ⟨rfl,rfl⟩
    exact k)
theorem mP {st:St} {ops:Array Oper} {LS L':List HP} {i:Nat} {G:Prop} (h:G):After st ops LS false i L'∧G:=⟨After.free,h⟩
theorem kZ {st:St} {ops:Array Oper} {LS L':List HP} {i:Nat} {held:Bool} {G:Prop} (e:c1t st ops i=true) (h:G):After st ops LS held i L'∧G:=⟨After.turns e,h⟩
theorem k6 {st:St} {ops:Array Oper} {LS L':List HP} {i:Nat} {held:Bool} {G:Prop} (e:Ent L' LS) (h:G):After st ops LS held i L'∧G:=⟨After.still e,h⟩
end
set_option maxRecDepth 100000
structure Hid (Q:Prop):Prop where
  out:Q
theorem go {Q P:Prop} (k:Q) (h:Hid Q→P:=by
  intro k
  (first|refine zr ?_|refine e7p ?_|(apply b3h;exact b4k;rfl)|refine xO ?_|refine d5s ?_|(apply c8x;rfl;exact b6a;exact b4k;rfl)|(apply c8y;rfl;exact b6a;exact b4k;rfl)|refine a3e ?_|refine i3 ?_|refine a3g ?_|refine xA ?_|refine oT ?_|refine xL ?_|refine a3f ?_|refine k9 ?_|refine sF ?_|refine wZ ?_|refine lA ?_|(refine lB ?_ ?_;rfl)|refine jP ?_|refine sG ?_|refine jQ ?_|refine jS ?_|refine lC ?_|refine wY ?_|(apply oN;rfl;(with_reducible rfl))|(apply oO;rfl;(with_reducible rfl))|refine a3h ?_|(apply uC;rfl;exact e2x;(first|refine cB ?_|refine cJ ?_|refine aN ?_))|(apply p4;rfl;exact b6a;exact e2x;(first|refine cB ?_|refine cJ ?_|refine aN ?_))|(apply c8v;rfl;exact b6a;exact b4k;rfl)|refine mP ?_|refine kZ rfl ?_|(refine k6 ?_ ?_;(focus (exact iC;done)))|(apply b4q;rfl;exact d6r;rfl)|(apply b4r;rfl;exact d6r;rfl)|(apply b4s;rfl;exact d6r;rfl;(refine ⟨by first|exact After.free|exact After.turns rfl|(refine After.still ?_;exact iC;done),?_⟩))|(apply a9g;exact b4k;rfl)|(apply sH;rfl;rfl;(with_reducible rfl);rfl;rfl)|(apply sI;rfl;rfl;(with_reducible rfl);rfl;rfl)|(apply oR;rfl;rfl;(with_reducible rfl);rfl;rfl;rfl)|(apply oS;rfl;rfl;(with_reducible rfl);rfl;rfl;rfl)|(apply lD;rfl;rfl;(with_reducible rfl);rfl)|(apply lE;rfl;rfl;(with_reducible rfl);rfl)|(apply xD;rfl;rfl;rfl;rfl;(first|exact iJ a2l|(first|(with_reducible assumption)|decide)))|(apply xF;rfl;rfl;rfl;rfl;(first|exact iR a2l|(first|(with_reducible assumption)|decide)))|(apply xE;rfl;rfl;rfl;rfl;(first|exact iR a2l|(first|(with_reducible assumption)|decide)))|(apply xG;rfl;rfl;rfl;rfl;(first|exact iJ a2l|(first|(with_reducible assumption)|decide)))|(apply xH;rfl;rfl;rfl;rfl;(first|exact iJ a2l|(first|(with_reducible assumption)|decide)))|(apply xJ;rfl;rfl;rfl;rfl;(first|exact iR a2l|(first|(with_reducible assumption)|decide)))|(apply xI;rfl;rfl;rfl;rfl;(first|exact iR a2l|(first|(with_reducible assumption)|decide)))|(apply xK;rfl;rfl;rfl;rfl;(first|exact iJ a2l|(first|(with_reducible assumption)|decide)))|(apply a3i;rfl;(first|(with_reducible assumption)|(with_reducible rfl)|(with_reducible exact tJ)|(with_reducible exact tK)|omega|decide|exact rfl))|(apply b4m;rfl;(first|(with_reducible assumption)|(with_reducible rfl)|(with_reducible exact tJ)|(with_reducible exact tK)|omega|decide|exact rfl))|(apply b4n;rfl;(first|(with_reducible assumption)|decide))|(apply b4o;rfl;(first|(with_reducible assumption)|decide)))
  (repeat (first|refine zr ?_|refine e7p ?_|(apply b3h;exact b4k;rfl)|refine xO ?_|refine d5s ?_|(apply c8x;rfl;exact b6a;exact b4k;rfl)|(apply c8y;rfl;exact b6a;exact b4k;rfl)|refine a3e ?_|refine i3 ?_|refine a3g ?_|refine xA ?_|refine oT ?_|refine xL ?_|refine a3f ?_|refine k9 ?_|refine sF ?_|refine wZ ?_|refine lA ?_|(refine lB ?_ ?_;rfl)|refine jP ?_|refine sG ?_|refine jQ ?_|refine jS ?_|refine lC ?_|refine wY ?_|(apply oN;rfl;(with_reducible rfl))|(apply oO;rfl;(with_reducible rfl))|refine a3h ?_|(apply uC;rfl;exact e2x;(first|refine cB ?_|refine cJ ?_|refine aN ?_))|(apply p4;rfl;exact b6a;exact e2x;(first|refine cB ?_|refine cJ ?_|refine aN ?_))|(apply c8v;rfl;exact b6a;exact b4k;rfl)|refine mP ?_|refine kZ rfl ?_|(refine k6 ?_ ?_;(focus (exact iC;done)))|(apply b4q;rfl;exact d6r;rfl)|(apply b4r;rfl;exact d6r;rfl)|(apply b4s;rfl;exact d6r;rfl;(refine ⟨by first|exact After.free|exact After.turns rfl|(refine After.still ?_;exact iC;done),?_⟩))|(apply a9g;exact b4k;rfl)|(apply sH;rfl;rfl;(with_reducible rfl);rfl;rfl)|(apply sI;rfl;rfl;(with_reducible rfl);rfl;rfl)|(apply oR;rfl;rfl;(with_reducible rfl);rfl;rfl;rfl)|(apply oS;rfl;rfl;(with_reducible rfl);rfl;rfl;rfl)|(apply lD;rfl;rfl;(with_reducible rfl);rfl)|(apply lE;rfl;rfl;(with_reducible rfl);rfl)|(apply xD;rfl;rfl;rfl;rfl;(first|exact iJ a2l|(first|(with_reducible assumption)|decide)))|(apply xF;rfl;rfl;rfl;rfl;(first|exact iR a2l|(first|(with_reducible assumption)|decide)))|(apply xE;rfl;rfl;rfl;rfl;(first|exact iR a2l|(first|(with_reducible assumption)|decide)))|(apply xG;rfl;rfl;rfl;rfl;(first|exact iJ a2l|(first|(with_reducible assumption)|decide)))|(apply xH;rfl;rfl;rfl;rfl;(first|exact iJ a2l|(first|(with_reducible assumption)|decide)))|(apply xJ;rfl;rfl;rfl;rfl;(first|exact iR a2l|(first|(with_reducible assumption)|decide)))|(apply xI;rfl;rfl;rfl;rfl;(first|exact iR a2l|(first|(with_reducible assumption)|decide)))|(apply xK;rfl;rfl;rfl;rfl;(first|exact iJ a2l|(first|(with_reducible assumption)|decide)))|(apply a3i;rfl;(first|(with_reducible assumption)|(with_reducible rfl)|(with_reducible exact tJ)|(with_reducible exact tK)|omega|decide|exact rfl))|(apply b4m;rfl;(first|(with_reducible assumption)|(with_reducible rfl)|(with_reducible exact tJ)|(with_reducible exact tK)|omega|decide|exact rfl))|(apply b4n;rfl;(first|(with_reducible assumption)|decide))|(apply b4o;rfl;(first|(with_reducible assumption)|decide))))
  exact k.out):P:=h ⟨k⟩
theorem gd {Q P:Prop} (k:Q) (h:Hid Q→P:=by
  intro k
  (first|refine zr ?_|refine e7p ?_|(apply b3h;exact b4k;rfl)|refine xO ?_|refine d5s ?_|(apply c8x;rfl;exact b6a;exact b4k;rfl)|(apply c8y;rfl;exact b6a;exact b4k;rfl)|refine a3e ?_|(refine aG ?_;refine b3i pN (by kernel_rfl) ?_)|refine i3 ?_|refine a3g ?_|refine xA ?_|refine oT ?_|refine xL ?_|refine a3f ?_|refine k9 ?_|refine sF ?_|refine wZ ?_|refine lA ?_|(refine lB ?_ ?_;rfl)|refine jP ?_|refine sG ?_|refine jQ ?_|refine jS ?_|refine lC ?_|refine wY ?_|(apply oN;rfl;(with_reducible rfl))|(apply oO;rfl;(with_reducible rfl))|refine a3h ?_|(apply uC;rfl;exact e2x;(first|refine cB ?_|refine cJ ?_|refine aN ?_))|(apply p4;rfl;exact b6a;exact e2x;(first|refine cB ?_|refine cJ ?_|refine aN ?_))|(apply c8v;rfl;exact b6a;exact b4k;rfl)|refine mP ?_|refine kZ rfl ?_|(refine k6 ?_ ?_;(focus (exact iC;done)))|(apply b4q;rfl;exact d6r;rfl)|(apply b4r;rfl;exact d6r;rfl)|(apply b4s;rfl;exact d6r;rfl;(refine ⟨by first|exact After.free|exact After.turns rfl|(refine After.still ?_;exact iC;done),?_⟩))|(apply a9g;exact b4k;rfl)|(apply sH;rfl;rfl;(with_reducible rfl);rfl;rfl)|(apply sI;rfl;rfl;(with_reducible rfl);rfl;rfl)|(apply oR;rfl;rfl;(with_reducible rfl);rfl;rfl;rfl)|(apply oS;rfl;rfl;(with_reducible rfl);rfl;rfl;rfl)|(apply lD;rfl;rfl;(with_reducible rfl);rfl)|(apply lE;rfl;rfl;(with_reducible rfl);rfl)|(apply xD;rfl;rfl;rfl;rfl;(first|exact iJ a2l|(first|(with_reducible assumption)|decide)))|(apply xF;rfl;rfl;rfl;rfl;(first|exact iR a2l|(first|(with_reducible assumption)|decide)))|(apply xE;rfl;rfl;rfl;rfl;(first|exact iR a2l|(first|(with_reducible assumption)|decide)))|(apply xG;rfl;rfl;rfl;rfl;(first|exact iJ a2l|(first|(with_reducible assumption)|decide)))|(apply xH;rfl;rfl;rfl;rfl;(first|exact iJ a2l|(first|(with_reducible assumption)|decide)))|(apply xJ;rfl;rfl;rfl;rfl;(first|exact iR a2l|(first|(with_reducible assumption)|decide)))|(apply xI;rfl;rfl;rfl;rfl;(first|exact iR a2l|(first|(with_reducible assumption)|decide)))|(apply xK;rfl;rfl;rfl;rfl;(first|exact iJ a2l|(first|(with_reducible assumption)|decide)))|(apply a3i;rfl;(first|(with_reducible assumption)|(with_reducible rfl)|(with_reducible exact tJ)|(with_reducible exact tK)|omega|decide|exact rfl))|(apply b4m;rfl;(first|(with_reducible assumption)|(with_reducible rfl)|(with_reducible exact tJ)|(with_reducible exact tK)|omega|decide|exact rfl))|(apply b4n;rfl;(first|(with_reducible assumption)|decide))|(apply b4o;rfl;(first|(with_reducible assumption)|decide)))
  (repeat (first|refine zr ?_|refine e7p ?_|(apply b3h;exact b4k;rfl)|refine xO ?_|refine d5s ?_|(apply c8x;rfl;exact b6a;exact b4k;rfl)|(apply c8y;rfl;exact b6a;exact b4k;rfl)|refine a3e ?_|(refine aG ?_;refine b3i pN (by kernel_rfl) ?_)|refine i3 ?_|refine a3g ?_|refine xA ?_|refine oT ?_|refine xL ?_|refine a3f ?_|refine k9 ?_|refine sF ?_|refine wZ ?_|refine lA ?_|(refine lB ?_ ?_;rfl)|refine jP ?_|refine sG ?_|refine jQ ?_|refine jS ?_|refine lC ?_|refine wY ?_|(apply oN;rfl;(with_reducible rfl))|(apply oO;rfl;(with_reducible rfl))|refine a3h ?_|(apply uC;rfl;exact e2x;(first|refine cB ?_|refine cJ ?_|refine aN ?_))|(apply p4;rfl;exact b6a;exact e2x;(first|refine cB ?_|refine cJ ?_|refine aN ?_))|(apply c8v;rfl;exact b6a;exact b4k;rfl)|refine mP ?_|refine kZ rfl ?_|(refine k6 ?_ ?_;(focus (exact iC;done)))|(apply b4q;rfl;exact d6r;rfl)|(apply b4r;rfl;exact d6r;rfl)|(apply b4s;rfl;exact d6r;rfl;(refine ⟨by first|exact After.free|exact After.turns rfl|(refine After.still ?_;exact iC;done),?_⟩))|(apply a9g;exact b4k;rfl)|(apply sH;rfl;rfl;(with_reducible rfl);rfl;rfl)|(apply sI;rfl;rfl;(with_reducible rfl);rfl;rfl)|(apply oR;rfl;rfl;(with_reducible rfl);rfl;rfl;rfl)|(apply oS;rfl;rfl;(with_reducible rfl);rfl;rfl;rfl)|(apply lD;rfl;rfl;(with_reducible rfl);rfl)|(apply lE;rfl;rfl;(with_reducible rfl);rfl)|(apply xD;rfl;rfl;rfl;rfl;(first|exact iJ a2l|(first|(with_reducible assumption)|decide)))|(apply xF;rfl;rfl;rfl;rfl;(first|exact iR a2l|(first|(with_reducible assumption)|decide)))|(apply xE;rfl;rfl;rfl;rfl;(first|exact iR a2l|(first|(with_reducible assumption)|decide)))|(apply xG;rfl;rfl;rfl;rfl;(first|exact iJ a2l|(first|(with_reducible assumption)|decide)))|(apply xH;rfl;rfl;rfl;rfl;(first|exact iJ a2l|(first|(with_reducible assumption)|decide)))|(apply xJ;rfl;rfl;rfl;rfl;(first|exact iR a2l|(first|(with_reducible assumption)|decide)))|(apply xI;rfl;rfl;rfl;rfl;(first|exact iR a2l|(first|(with_reducible assumption)|decide)))|(apply xK;rfl;rfl;rfl;rfl;(first|exact iJ a2l|(first|(with_reducible assumption)|decide)))|(apply a3i;rfl;(first|(with_reducible assumption)|(with_reducible rfl)|(with_reducible exact tJ)|(with_reducible exact tK)|omega|decide|exact rfl))|(apply b4m;rfl;(first|(with_reducible assumption)|(with_reducible rfl)|(with_reducible exact tJ)|(with_reducible exact tK)|omega|decide|exact rfl))|(apply b4n;rfl;(first|(with_reducible assumption)|decide))|(apply b4o;rfl;(first|(with_reducible assumption)|decide))))
  exact k.out):P:=h ⟨k⟩
theorem mH {Q1 Q2 P:Prop} (k1:Q1) (k2:Q2) (h:Hid Q1→Hid Q2→P:=by
  intro k1 k2
  first
  |(apply vC;rfl;exact k1.out;exact k2.out)
  |(apply t9;rfl;(refine a6i ?_;exact k1.out);(refine a6j ?_;exact k2.out))
  |(apply t9;rfl;exact k1.out;exact k2.out)
  |(apply c4q;rfl;rfl;rfl;rfl;(refine a6i ?_;exact k1.out);(refine a6j ?_;exact k2.out))
  |(apply c4r;rfl;rfl;rfl;rfl;(refine a6j ?_;exact k1.out);(refine a6i ?_;exact k2.out))
  |(apply c4s;rfl;rfl;rfl;rfl;(refine a6i ?_;exact k1.out);(refine a6j ?_;exact k2.out))
  |(apply WQ_gs_f;rfl;rfl;rfl;rfl;(refine a6j ?_;exact k1.out);(refine a6i ?_;exact k2.out))
  |(apply WT_gs_p;rfl;rfl;rfl;(refine a6i ?_;exact k1.out);(refine a6j ?_;exact k2.out))
  |(apply WT_gs_r;rfl;rfl;rfl;(refine a6i ?_;exact k1.out);(refine a6j ?_;exact k2.out))
  |(apply WT_gs_e;rfl;rfl;rfl;(refine a6i ?_;exact k1.out);(refine a6j ?_;exact k2.out))
  |(apply c4q;rfl;rfl;rfl;rfl;exact k1.out;exact k2.out)
  |(apply c4r;rfl;rfl;rfl;rfl;exact k1.out;exact k2.out)
  |(apply c4s;rfl;rfl;rfl;rfl;exact k1.out;exact k2.out)
  |(apply WQ_gs_f;rfl;rfl;rfl;rfl;exact k1.out;exact k2.out)
  |(apply WT_gs_p;rfl;rfl;rfl;exact k1.out;exact k2.out)
  |(apply WT_gs_r;rfl;rfl;rfl;exact k1.out;exact k2.out)
  |(apply WT_gs_e;rfl;rfl;rfl;exact k1.out;exact k2.out)
  |(apply mU;exact k1.out;exact k2.out)):P:=h ⟨k1⟩ ⟨k2⟩
theorem aD {C Q P:Prop} (c:C) (k:Q) (h:C→Hid Q→P:=by
  intro c k
  first
  |(apply uC;rfl;(focus (apply a5x;rfl;rfl;rfl;rfl;apply c;(all_goals (try (focus ((repeat (first|(with_reducible exact zF)|(apply t8;focus (repeat (first|(with_reducible exact lM)|(apply iZ))))));done))));(all_goals (focus (first|(with_reducible assumption)|exact inferInstance|exact r7 inferInstance rfl rfl|(with_reducible rfl)|omega|(unfold kP;omega)|(constructor<;>omega)|decide)))));refine p8 ?_;exact k.out)
  |(apply uC;rfl;(focus (apply a5x;rfl;rfl;rfl;rfl;apply c;(all_goals (try (focus ((repeat (first|(with_reducible exact zF)|(apply t8;focus (repeat (first|(with_reducible exact lM)|(apply iZ))))));done))));(all_goals (focus (first|(with_reducible assumption)|exact inferInstance|exact r7 inferInstance rfl rfl|(with_reducible rfl)|omega|(unfold kP;omega)|(constructor<;>omega)|decide)))));refine called_none ?_;exact k.out)
  |(apply f0k;rfl;rfl;(focus (apply d2g;rfl;rfl;rfl;apply c;(all_goals (try (focus ((repeat (first|(with_reducible exact zF)|(apply t8;focus (repeat (first|(with_reducible exact lM)|(apply iZ))))));done))));(all_goals (focus (first|(with_reducible assumption)|exact inferInstance|exact r7 inferInstance rfl rfl|(with_reducible rfl)|omega|(unfold kP;omega)|(constructor<;>omega)|decide)))));rfl;exact k.out)
  |(apply p4;rfl;exact b6a;(focus (apply a5x;rfl;rfl;rfl;rfl;apply c;(all_goals (try (focus ((repeat (first|(with_reducible exact zF)|(apply t8;focus (repeat (first|(with_reducible exact lM)|(apply iZ))))));done))));(all_goals (focus (first|(with_reducible assumption)|exact inferInstance|exact r7 inferInstance rfl rfl|(with_reducible rfl)|omega|(unfold kP;omega)|(constructor<;>omega)|decide)))));refine p8 ?_;exact k.out)
  |(apply p4;rfl;exact b6a;(focus (apply a5x;rfl;rfl;rfl;rfl;apply c;(all_goals (try (focus ((repeat (first|(with_reducible exact zF)|(apply t8;focus (repeat (first|(with_reducible exact lM)|(apply iZ))))));done))));(all_goals (focus (first|(with_reducible assumption)|exact inferInstance|exact r7 inferInstance rfl rfl|(with_reducible rfl)|omega|(unfold kP;omega)|(constructor<;>omega)|decide)))));refine called_none ?_;exact k.out)):P:=h c ⟨k⟩
theorem e7p {α:Sort u} {p:α→Value→List HP→Prop} {R:Value→List HP→Prop} (h:∀ x v L,p x v L→R v L):∀ v L,(∃ x,p x v L)→R v L:=fun v L ⟨x,hx⟩=>h x v L hx
theorem cM {Q P:Prop} (k:Q) (h:Hid Q→P:=by
  intro k
  (refine aG ?_;refine b3i pN (by kernel_rfl) ?_;exact k.out)):P:=h ⟨k⟩
theorem q9 (st:St) {id:Nat} {ops:List Oper} {pl:Plan} {N:Nat} {env:Env} {L:List HP} {Q:Exit→Act→World→Prop} (h:WT st Go.Proofs.Tryz.prog N ops.toArray L pl env L (f0o Q)) (hp:b3j .any ops.toArray ops.length st (Array.replicate ops.length false)=pl:=by kernel_rfl) (hns:Region.noSelect ops.toArray=true:=by kernel_rfl):WC Go.Proofs.Tryz.prog N (.region id ops.toArray true) env L Q:=mT st L pN hp hns Ent.refl h
theorem aB {Q:Prop} (h:Q:=by (repeat (first|(with_reducible exact Ent.refl)|exact Ent.nil|(apply dQ;exact e6z)|apply Ent.drop))):Q:=h
theorem aU {Q:Prop} (h:Q:=by (apply aA rfl rfl bB;(first|exact lW|exact ⟨by simp []<;>omega,rfl⟩);exact iC)):Q:=h
end Go.Sx
