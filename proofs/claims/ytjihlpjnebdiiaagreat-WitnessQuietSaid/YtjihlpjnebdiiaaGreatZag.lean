/- Msg2, SlI, MshR5: several of my texts as one. My own work. -/
import Derived.Test.YtjihlpjnebdiiaaGreatZr
import Derived.Test.YtjihlpjnebdiiaaGreatZaf
import Derived.Test.YtjihlpjnebdiiaaGreatZaa
import Derived.Test.YtjihlpjnebdiiaaGreatZac
set_option linter.unusedVariables false
set_option linter.unusedSectionVars false
set_option linter.unusedSimpArgs false
/- Messages, second part: words, forms, May. My own work. -/
namespace Go.Sx
open Go Go.Proofs
set_option maxRecDepth 100000
set_option maxHeartbeats 4000000
attribute [local irreducible] Go.Exit.then Go.Exit.inBlock Go.Code.wp WC WO WE WQ V LoopQ FnQ Sat Star band bor IntKind.wrap WR Code.rounds WT KO
theorem msg_values {F:List HP} {c:Cfg} {m:Msg}:FnF Tryz.prog 273 [c.val,mv m] [] F (fun r L'=>r= .bool (decide (ValsP c m.words))∧L'=[]):=by
  refine FnF.mk' Tryz.func273 rfl rfl Tryz.ntmps273 rfl ?_
  repeat (first|refine gd ?_|intro _)
  rename_i bs bm
  apply WC_loopE (E0:=[(2,_),(8,_)]) (fun E0 (i:Nat)=>(9,.int .i64 i)::E0) (fun _=>Cells bm 99 (mc m)::Cells bs 24 c.cells::F) (fun i=>i≤8∧∀ j,j<i→OkAt c m.words j) (fun i=>8-i) 0
  · exact zqU
  · exact ⟨by omega,fun j hj=>by omega⟩
  · exact entu0
  · rintro i ⟨hi,hok⟩
    by_cases hlt:i<8
    · have hcase:i=0∨i=1∨i=2∨i=3∨i=4∨i=5∨i=6∨i=7:=by omega
      rcases hcase with rfl|rfl|rfl|rfl|rfl|rfl|rfl|rfl
      · have ho:OkAt c m.words 0↔(-2147483648≤m.words.w0∧m.words.w0≤2147483647∧(c.words≤0→m.words.w0=0)):=Iff.rfl
        have hn:¬OkAt c m.words 0→¬ValsP c m.words:=fun h hv=>h (hv 0 (by omega))
        repeat' (first|refine gd ?_|intro _|refine spl ?_ ?_|fail)
        all_goals first
        |(have hno:=hn (fun h=>by have:=ho.1 h;omega)
          (apply WE_ret rfl rfl zqR;(first|exact zqL|exact ⟨by simp [hno]<;>omega,rfl⟩);exact zqN))
        |(have hyes:=ho.2 (by omega)
          refine WE_loop 1 (by omega) ⟨by omega,fun j hj=>?_⟩ ?_ ?_
          · by_cases hjl:j=0
            · subst hjl;exact hyes
            · exact hok j (by omega)
          · exact zqU
          · exact entu0)
      · have ho:OkAt c m.words 1↔(-2147483648≤m.words.w1∧m.words.w1≤2147483647∧(c.words≤1→m.words.w1=0)):=Iff.rfl
        have hn:¬OkAt c m.words 1→¬ValsP c m.words:=fun h hv=>h (hv 1 (by omega))
        repeat' (first|refine gd ?_|intro _|refine spl ?_ ?_|fail)
        all_goals first
        |(have hno:=hn (fun h=>by have:=ho.1 h;omega)
          (apply WE_ret rfl rfl zqR;(first|exact zqL|exact ⟨by simp [hno]<;>omega,rfl⟩);exact zqN))
        |(have hyes:=ho.2 (by omega)
          refine WE_loop 2 (by omega) ⟨by omega,fun j hj=>?_⟩ ?_ ?_
          · by_cases hjl:j=1
            · subst hjl;exact hyes
            · exact hok j (by omega)
          · exact zqU
          · exact entu0)
      · have ho:OkAt c m.words 2↔(-2147483648≤m.words.w2∧m.words.w2≤2147483647∧(c.words≤2→m.words.w2=0)):=Iff.rfl
        have hn:¬OkAt c m.words 2→¬ValsP c m.words:=fun h hv=>h (hv 2 (by omega))
        repeat' (first|refine gd ?_|intro _|refine spl ?_ ?_|fail)
        all_goals first
        |(have hno:=hn (fun h=>by have:=ho.1 h;omega)
          (apply WE_ret rfl rfl zqR;(first|exact zqL|exact ⟨by simp [hno]<;>omega,rfl⟩);exact zqN))
        |(have hyes:=ho.2 (by omega)
          refine WE_loop 3 (by omega) ⟨by omega,fun j hj=>?_⟩ ?_ ?_
          · by_cases hjl:j=2
            · subst hjl;exact hyes
            · exact hok j (by omega)
          · exact zqU
          · exact entu0)
      · have ho:OkAt c m.words 3↔(-2147483648≤m.words.w3∧m.words.w3≤2147483647∧(c.words≤3→m.words.w3=0)):=Iff.rfl
        have hn:¬OkAt c m.words 3→¬ValsP c m.words:=fun h hv=>h (hv 3 (by omega))
        repeat' (first|refine gd ?_|intro _|refine spl ?_ ?_|fail)
        all_goals first
        |(have hno:=hn (fun h=>by have:=ho.1 h;omega)
          (apply WE_ret rfl rfl zqR;(first|exact zqL|exact ⟨by simp [hno]<;>omega,rfl⟩);exact zqN))
        |(have hyes:=ho.2 (by omega)
          refine WE_loop 4 (by omega) ⟨by omega,fun j hj=>?_⟩ ?_ ?_
          · by_cases hjl:j=3
            · subst hjl;exact hyes
            · exact hok j (by omega)
          · exact zqU
          · exact entu0)
      · have ho:OkAt c m.words 4↔(-2147483648≤m.words.w4∧m.words.w4≤2147483647∧(c.words≤4→m.words.w4=0)):=Iff.rfl
        have hn:¬OkAt c m.words 4→¬ValsP c m.words:=fun h hv=>h (hv 4 (by omega))
        repeat' (first|refine gd ?_|intro _|refine spl ?_ ?_|fail)
        all_goals first
        |(have hno:=hn (fun h=>by have:=ho.1 h;omega)
          (apply WE_ret rfl rfl zqR;(first|exact zqL|exact ⟨by simp [hno]<;>omega,rfl⟩);exact zqN))
        |(have hyes:=ho.2 (by omega)
          refine WE_loop 5 (by omega) ⟨by omega,fun j hj=>?_⟩ ?_ ?_
          · by_cases hjl:j=4
            · subst hjl;exact hyes
            · exact hok j (by omega)
          · exact zqU
          · exact entu0)
      · have ho:OkAt c m.words 5↔(-2147483648≤m.words.w5∧m.words.w5≤2147483647∧(c.words≤5→m.words.w5=0)):=Iff.rfl
        have hn:¬OkAt c m.words 5→¬ValsP c m.words:=fun h hv=>h (hv 5 (by omega))
        repeat' (first|refine gd ?_|intro _|refine spl ?_ ?_|fail)
        all_goals first
        |(have hno:=hn (fun h=>by have:=ho.1 h;omega)
          (apply WE_ret rfl rfl zqR;(first|exact zqL|exact ⟨by simp [hno]<;>omega,rfl⟩);exact zqN))
        |(have hyes:=ho.2 (by omega)
          refine WE_loop 6 (by omega) ⟨by omega,fun j hj=>?_⟩ ?_ ?_
          · by_cases hjl:j=5
            · subst hjl;exact hyes
            · exact hok j (by omega)
          · exact zqU
          · exact entu0)
      · have ho:OkAt c m.words 6↔(-2147483648≤m.words.w6∧m.words.w6≤2147483647∧(c.words≤6→m.words.w6=0)):=Iff.rfl
        have hn:¬OkAt c m.words 6→¬ValsP c m.words:=fun h hv=>h (hv 6 (by omega))
        repeat' (first|refine gd ?_|intro _|refine spl ?_ ?_|fail)
        all_goals first
        |(have hno:=hn (fun h=>by have:=ho.1 h;omega)
          (apply WE_ret rfl rfl zqR;(first|exact zqL|exact ⟨by simp [hno]<;>omega,rfl⟩);exact zqN))
        |(have hyes:=ho.2 (by omega)
          refine WE_loop 7 (by omega) ⟨by omega,fun j hj=>?_⟩ ?_ ?_
          · by_cases hjl:j=6
            · subst hjl;exact hyes
            · exact hok j (by omega)
          · exact zqU
          · exact entu0)
      · have ho:OkAt c m.words 7↔(-2147483648≤m.words.w7∧m.words.w7≤2147483647∧(c.words≤7→m.words.w7=0)):=Iff.rfl
        have hn:¬OkAt c m.words 7→¬ValsP c m.words:=fun h hv=>h (hv 7 (by omega))
        repeat' (first|refine gd ?_|intro _|refine spl ?_ ?_|fail)
        all_goals first
        |(have hno:=hn (fun h=>by have:=ho.1 h;omega)
          (apply WE_ret rfl rfl zqR;(first|exact zqL|exact ⟨by simp [hno]<;>omega,rfl⟩);exact zqN))
        |(have hyes:=ho.2 (by omega)
          refine WE_loop 8 (by omega) ⟨by omega,fun j hj=>?_⟩ ?_ ?_
          · by_cases hjl:j=7
            · subst hjl;exact hyes
            · exact hok j (by omega)
          · exact zqU
          · exact entu0)
    · have hi8:i=8:=by omega
      subst hi8
      have hv:ValsP c m.words:=hok
      repeat (first|refine gd ?_|intro _)
      (apply WE_ret rfl rfl zqR;(first|exact zqL|exact ⟨by simp [hv]<;>omega,rfl⟩);exact zqN)
theorem msg_pwords {F:List HP} {c:Cfg} {m:Msg}:FnF Tryz.prog 272 [.agg #[],c.val,mv m] [] F (fun r L'=>r= .bool (decide (ValsP c m.words))∧L'=[]):=by
  refine FnF.mk' Tryz.func272 rfl rfl Tryz.ntmps272 rfl ?_
  repeat (first|refine gd ?_|intro _|refine cal @msg_values ?_)
  exact fin0
theorem msg_dwords {F:List HP} {c:Cfg} {m:Msg}:FnF Tryz.prog 277 [.agg #[],c.val,mv m] [] F (fun r L'=>r= .bool (decide (ValsP c m.words))∧L'=[]):=by
  refine FnF.mk' Tryz.func277 rfl rfl Tryz.ntmps277 rfl ?_
  repeat (first|refine gd ?_|intro _|refine cal @msg_values ?_)
  exact fin0
def formV (k:Int):Value:=
  if k=3 then .iface 299 (.agg #[]) else if k=1∨k=2∨k=11 then .iface 297 (.agg #[]) else if k=4∨k=6 then .iface 301 (.agg #[.bool false]) else if k=5 then .iface 301 (.agg #[.bool true])
  else if k=7 then .iface 302 (.agg #[]) else if k=8 then .iface 303 (.agg #[.bool true]) else if k=10 then .iface 303 (.agg #[.bool false]) else .iface 304 (.agg #[])
theorem msg_formed {F:List HP} {k:Int}:FnF Tryz.prog 215 [.int .i64 k] [] F (fun r L'=>r=formV k∧L'=[]):=by
  refine FnF.mk' Tryz.func215 rfl rfl Tryz.ntmps215 rfl ?_
  repeat' (first|refine gd ?_|intro _|refine str ?_|refine spl ?_ ?_|fail)
  all_goals ((apply WE_ret rfl rfl zqR);(refine ⟨?_,rfl⟩;unfold formV;repeat (first|rfl|(rw [if_pos (by omega)])|(rw [if_neg (by omega)])));exact entu0)
end Go.Sx

/- The library's searches and insertion, of slices of whole numbers. My own work. -/
namespace Go.Sx
open Go Go.Proofs
def lowL (l:List Int) (t:Int):Nat:=(l.takeWhile fun x=>decide (x<t)).length
theorem low_of {t:Int}:∀ {l:List Int} {i:Nat},i≤l.length→(∀ k (hk:k<l.length),k<i→l[k]<t)→(∀ k (hk:k<l.length),i≤k→t≤l[k])→lowL l t=i
  | [],i,hi,_,_=>by simp at hi;subst hi;rfl
  |a::r,0,_,_,h2=>by
   have:=h2 0 (by simp) (Nat.le_refl _)
   simp at this
   have hn:¬a<t:=by omega
   simp [lowL,hn]
  |a::r,i+1,hi,h1,h2=>by
   have h0:=h1 0 (by simp) (by omega)
   simp at h0
   have ih:=low_of (t:=t) (l:=r) (i:=i) (by simpa using hi) (fun k hk hki=>h1 (k+1) (by simpa using hk) (by omega)) (fun k hk hki=>h2 (k+1) (by simpa using hk) (by omega))
   unfold lowL at ih ⊢
   simp [h0,ih]
theorem low_le (l:List Int) (t:Int):lowL l t≤l.length:=by
  unfold lowL
  exact (List.takeWhile_sublist (fun x=>decide (x<t)) (l:=l)).length_le
theorem WC_owncap {T:TypeId} {sz n c:Nat} {p:Option Addr} {xs:List Value} {P:Program} {N:Nat} {o:Code} {env:Env} {L:List HP} {Q:Exit→Act→World→Prop} (h:n≤c→WC P N o env (Own T sz (.slice p n c) n xs::L) Q):WC P N o env (Own T sz (.slice p n c) n xs::L) Q:=
  fun a w ha hw=>h (by
    rcases (sat_own hw).2.2 with ⟨q,h1,h2⟩|⟨g,cap,cur,h1,_,h3,_⟩
    · omega
    · cases h1;exact h3) a w ha hw
theorem half {i j:Nat} (h:i+j≤100000):IntKind.i64.wrap ((IntKind.u64.wrap ((i:Int)+j)).fdiv (2^min (Int.toNat 1) IntKind.u64.bits))=(((i+j) / 2:Nat):Int):=by
  have e1:IntKind.u64.wrap ((i:Int)+j)=(i:Int)+j:=by simp [IntKind.wrap,IntKind.bits,IntKind.signed];omega
  have e2:(2:Int)^min (Int.toNat 1) IntKind.u64.bits=2:=rfl
  rw [e1,e2,Int.fdiv_eq_ediv_of_nonneg _ (by omega),wrap_id (by omega) (by omega)]
  omega
theorem all_ic (l:List Int):(flat ic l).all one=true:=by
  induction l with
  |nil=>rfl
  |cons a r ih=>simp [flat,one]
theorem WO_own {e:TypeId} {sz:Nat} {v:Value} {n:Nat} {xs:List Value} {P:Program} {N:Nat} {all:Array Oper} {c:List Oper} {env:Env} {L:List HP} {Q:Exit→Act→World→Prop} (h0:xs.length=n*sz→xs.all one=true→∀ p,v= .slice p 0 0→n=0→xs=[]→WO P N all c env (Own e sz v n xs::L) Q)
    (h1:xs.length=n*sz→xs.all one=true→∀ g cap spare,v= .slice (some ⟨g,0,none⟩) n cap→n≤cap→cap≤maxLen→spare.length=(cap-n)*sz→WO P N all c env (Cells g e (xs++spare)::L) Q):WO P N all c env (Own e sz v n xs::L) Q:=by
  intro a w ha hw
  obtain ⟨k1,k2,⟨p,a1,a2,a3⟩|⟨g,cap,spare,b1,b2,b3,b4,b5⟩⟩:=own_open hw
  · exact h0 k1 k2 p a1 a2 a3 a w ha hw
  · exact h1 k1 k2 g cap spare b1 b2 b3 b4 a w ha b5
theorem ins_take1 {M D A:List Value} {i n:Nat} {x:Value} (h1:M.take i=A) (hi:i+1≤M.length) (hD:D.length=n-i) (hin:i≤n) (hn:n+1≤M.length):(splice (splice M (0+i*1) [x]) (0+(i+1)*1) D).take ((n+1)*1)=A++x::D:=by
  simp only [Nat.zero_add,Nat.mul_one]
  have hl:(splice M i [x]).length=M.length:=splice_length (by simp;omega)
  have e:=take_splice (l:=splice M i [x]) (ys:=D) (o:=i+1) (by omega)
  rw [hD,show i+1+(n-i)=n+1 by omega] at e
  have e2:=take_splice (l:=M) (ys:=[x]) (o:=i) (by omega)
  simp only [List.length_singleton] at e2
  rw [e,e2,h1];simp
theorem ins_take2 {M D A:List Value} {i n:Nat} {x:Value} (h1:M.take i=A) (hi:i+1≤M.length) (hD:D.length=n-i) (hin:i≤n) (hn:n+1≤M.length):(splice (splice M (0+(i+1)*1) D) (0+i*1) [x]).take ((n+1)*1)=A++x::D:=by
  simp only [Nat.zero_add,Nat.mul_one]
  have hl:(splice M (i+1) D).length=M.length:=splice_length (by omega)
  have e0:(splice M (i+1) D).take i=A:=by rw [take_splice_lt (by omega) (by omega),h1]
  have e1:(splice M (i+1) D).drop (i+1)=D++M.drop (n+1):=by
    unfold splice
    rw [List.append_assoc,List.drop_left' (by simp;omega),hD,show i+1+(n-i)=n+1 by omega]
  unfold splice at e0 e1 ⊢
  rw [e0]
  simp only [List.length_singleton]
  rw [e1]
  have hAl:A.length=i:=by rw [←h1];simp;omega
  rw [List.append_assoc,List.take_append,hAl,List.take_of_length_le (by omega)]
  congr 1
  rw [show n+1-i=(n-i)+1 by omega]
  simp [hD]
theorem ins_close1 {e g i n cap:Nat} {M D A:List Value} {x:Value} {R:List HP} (h1:M.take i=A) (hM:M.length=cap) (hn:n+1≤cap) (hin:i≤n) (hD:D.length=n-i) (hmx:cap≤maxLen) (ho:(A++x::D).all one=true) :
    Ent (Cells g e (splice (splice M (0+i*1) [x]) (0+(i+1)*1) D)::R) (Own e 1 (.slice (some ⟨g,0,none⟩) (n+1) cap) (n+1) (A++x::D)::R):=by
  have hs1:(splice M (0+i*1) [x]).length=cap:=by rw [splice_length (by simp;omega),hM]
  exact own_close (sz:=1) (by rw [splice_length (by omega),hs1,Nat.mul_one]) hn hmx (ins_take1 h1 (by omega) hD hin (by omega)) ho Ent.refl
theorem ins_close2 {e g i n cap:Nat} {M D A:List Value} {x:Value} {R:List HP} (h1:M.take i=A) (hM:M.length=cap) (hn:n+1≤cap) (hin:i≤n) (hD:D.length=n-i) (hmx:cap≤maxLen) (ho:(A++x::D).all one=true) :
    Ent (Cells g e (splice (splice M (0+(i+1)*1) D) (0+i*1) [x])::R) (Own e 1 (.slice (some ⟨g,0,none⟩) (n+1) cap) (n+1) (A++x::D)::R):=by
  have hs1:(splice M (0+(i+1)*1) D).length=cap:=by rw [splice_length (by omega),hM]
  exact own_close (sz:=1) (by rw [splice_length (by rw [hs1];simp;omega),hs1,Nat.mul_one]) hn hmx (ins_take2 h1 (by omega) hD hin (by omega)) ho Ent.refl
theorem flat_ins {l:List Int} {i:Nat} {x:Int}:flat ic (l.take i++x::l.drop i)=flat ic (l.take i)++ .int .i64 x::flat ic (l.drop i):=by
  rw [flat_append];rfl
set_option maxRecDepth 100000
set_option maxHeartbeats 4000000
attribute [local irreducible] Go.Exit.then Go.Exit.inBlock Go.Code.wp WC WO WE WQ V LoopQ FnQ Sat Star band bor IntKind.wrap WR Code.rounds WT KO
theorem cmp_isNaN {F:List HP} {n:Int}:FnF Tryz.prog 213 [.int .i64 n] [] F (fun r L'=>r= .bool false∧L'=[]):=by
  refine FnF.mk' Tryz.func213 rfl rfl Tryz.ntmps213 rfl ?_
  repeat (first|refine gd ?_|intro _)
  exact fin0
theorem sl_isNaN {F:List HP} {n:Int}:FnF Tryz.prog 175 [.int .i64 n] [] F (fun r L'=>r= .bool false∧L'=[]):=by
  refine FnF.mk' Tryz.func175 rfl rfl Tryz.ntmps175 rfl ?_
  repeat (first|refine gd ?_|intro _)
  exact fin0
theorem cmp_Less {F:List HP} {a b:Int}:FnF Tryz.prog 174 [.int .i64 a,.int .i64 b] [] F (fun r L'=>r= .bool (decide (a<b))∧L'=[]):=by
  refine FnF.mk' Tryz.func174 rfl rfl Tryz.ntmps174 rfl ?_
  repeat (first|refine gd ?_|intro _|refine cal @cmp_isNaN ?_)
  exact fin0
theorem sl_Contains_int {F:List HP} {v:Value} {l:List Int} {x:Int} (k:RdL F 1 v l.length (flat ic l)) (hn:l.length≤1099511627776):FnF Tryz.prog 173 [v,.int .i64 x] [] F (fun r L'=>r= .bool (decide (x∈l))∧L'=[]):=by
  have hI:=sl_Index_int (F:=F) (x:=x) k hn
  have hx:decide (0≤indexBy (· =x) l)=decide (x∈l):=by
    rw [decide_eq_decide]
    constructor
    · intro h
      obtain ⟨i,hi,_,h2,_⟩:=indexBy_nat h
      have:=of_decide_eq_true h2
      rw [←this];exact List.getElem_mem hi
    · intro h
      rcases Int.lt_or_le (indexBy (· =x) l) 0 with h0|h0
      · have:=(indexBy_neg (p:=fun y=>decide (y=x)) (l:=l) (by omega)).2 x h
        simp at this
      · exact h0
  refine FnF.mk' Tryz.func173 rfl rfl Tryz.ntmps173 rfl ?_
  repeat (first|refine gd ?_|intro _|refine cal @hI ?_)
  rw [hx]
  exact fin0
theorem sl_BinarySearch_int {F:List HP} {v:Value} {l:List Int} {t:Int} (k:RdL F 1 v l.length (flat ic l)) (hs:l.Pairwise (· < ·)) (hn:l.length≤1000) :
    FnF Tryz.prog 135 [v,.int .i64 t] [] F (fun r L'=>r= .tuple [.int .i64 (lowL l t:Nat),.bool (decide (t∈l))].toArray∧L'=[]):=by
  have hsl:∀ a b (ha:a<l.length) (hb:b<l.length),a≤b→l[a]≤l[b]:=fun a b ha hb h=>by
    rcases Nat.lt_or_ge a b with h1|h1
    · have:=List.pairwise_iff_getElem.1 hs a b ha hb h1;omega
    · have:a=b:=by omega
      subst this;exact Int.le_refl _
  refine FnF.mk' Tryz.func135 rfl rfl Tryz.ntmps135 rfl ?_
  repeat (first|refine gd ?_|intro _)
  apply WC_loopE (E0:=[(0,_),(1,_),(6,_)]) (fun E0 (q:Nat×Nat)=>(7,.int .i64 q.1)::(8,.int .i64 q.2)::E0) (fun _=>F)
    (fun q=>q.1≤q.2∧q.2≤l.length∧(∀ k (hk:k<l.length),k<q.1→l[k]<t)∧(∀ k (hk:k<l.length),q.2≤k→t≤l[k])) (fun q=>q.2-q.1) (0,l.length)
  · exact zqU
  · exact ⟨Nat.zero_le _,Nat.le_refl _,fun k hk h=>by omega,fun k hk h=>by omega⟩
  · exact Ent.refl
  · rintro ⟨i,j⟩ ⟨hij,hj,h1,h2⟩
    dsimp only at hij hj h1 h2 ⊢
    by_cases hlt:i<j
    · have hm:(i+j) / 2<l.length:=by omega
      have hh:=half (i:=i) (j:=j) (by omega)
      by_cases hc:l[(i+j) / 2]<t
      · repeat (first|refine gd ?_|intro _)
        simp only [hh]
        repeat (first|refine gd ?_|intro _|refine cal @cmp_Less ?_)
        simp only [Int.toNat_natCast]
        repeat (first|refine gd ?_|intro _)
        refine WE_loop ((i+j) / 2+1,j) (by dsimp only;omega) ⟨by dsimp only;omega,hj,fun k hk h=>?_,h2⟩ ?_ Ent.refl
        · dsimp only at h
          have:=hsl k ((i+j) / 2) hk hm (by omega)
          omega
        · exact zqU
      · repeat (first|refine gd ?_|intro _)
        simp only [hh]
        repeat (first|refine gd ?_|intro _|refine cal @cmp_Less ?_)
        simp only [Int.toNat_natCast]
        repeat (first|refine gd ?_|intro _)
        refine WE_loop (i,(i+j) / 2) (by dsimp only;omega) ⟨by dsimp only;omega,by dsimp only;omega,h1,fun k hk h=>?_⟩ ?_ Ent.refl
        · dsimp only at h
          have:=hsl ((i+j) / 2) k hm hk h
          omega
        · exact zqU
    · have hij2:i=j:=by omega
      subst hij2
      have hlo:=low_of hj h1 h2
      by_cases hil:i<l.length
      · by_cases he:l[i]=t
        · have hmem:t∈l:=by rw [←he];exact List.getElem_mem hil
          repeat (first|refine gd ?_|intro _|refine cal @sl_isNaN ?_)
          (apply WE_ret rfl rfl zqR)
          · exact ⟨by rw [hlo];simp [hmem],rfl⟩
          · exact Ent.refl
        · have hmem:¬t∈l:=fun h=>by
            obtain ⟨k,hk,hkt⟩:=List.getElem_of_mem h
            rcases Nat.lt_or_ge k i with hki|hki
            · have:=h1 k hk hki;omega
            · have h3:=h2 i hil (Nat.le_refl _)
              have h4:=hsl i k hil hk hki
              omega
          repeat (first|refine gd ?_|intro _|refine cal @sl_isNaN ?_)
          (apply WE_ret rfl rfl zqR)
          · exact ⟨by rw [hlo];simp [hmem],rfl⟩
          · exact Ent.refl
      · have hmem:¬t∈l:=fun h=>by
          obtain ⟨k,hk,hkt⟩:=List.getElem_of_mem h
          have:=h1 k hk (by omega);omega
        repeat (first|refine gd ?_|intro _)
        (apply WE_ret rfl rfl zqR)
        · exact ⟨by rw [hlo];simp [hmem],rfl⟩
        · exact Ent.refl
theorem dr_SlI_249 {Q P:Prop} (k:Q) (h:Hid Q→P:=by
  intro k
  first
  |(refine is_draw ?_;apply WC_mix (id:=11) .true [] (pl:= .p 0 <| .p 1 <| .p 2 <| .p 3 <| .p 4 <| .p 5 <| .p 6 <| .p 7 <| .e true [(8,.done)]);exact mixed;kernel_rfl;kernel_rfl;exact Ent.nil;exact k.out)
  |(refine is_draw ?_;apply WC_mix (id:=15) .true [] (pl:= .p 0 <| .p 1 <| .p 2 <| .p 3 <| .p 4 <| .p 5 <| .p 6 <| .p 7 <| .e true [(8,.done)]);exact mixed;kernel_rfl;kernel_rfl;exact Ent.nil;exact k.out)):P:=h ⟨k⟩
theorem sl_Insert_int {F:List HP} {p:Option Addr} {c vb i:Nat} {l:List Int} {x:Int} (hi:i≤l.length) (hn:l.length≤1000) :
    FnF Tryz.prog 249 [.slice p l.length c,.int .i64 i,.slice (some ⟨vb,0,none⟩) 1 1] [Own 3 1 (.slice p l.length c) l.length (flat ic l),Cells vb 3 [.int .i64 x]] F
      (fun r L'=>∃ p' c',r= .slice p' (l.length+1) c'∧L'=[Own 3 1 (.slice p' (l.length+1) c') (l.length+1) (flat ic (l.take i++x::l.drop i))]):=by
  refine FnF.mk' Tryz.func249 rfl rfl Tryz.ntmps249 rfl ?_
  refine WC_owncap fun hc=>?_
  by_cases he:i=l.length
  · subst he
    repeat (first|refine go ?_|intro _|refine dr_SlI_249 ?_|refine drq ?_)
    rename_i p' c'
    (apply WE_ret rfl rfl zqR)
    · exact ⟨p',c',rfl,rfl⟩
    · rw [List.take_length,List.drop_length,flat_append,flat_one];exact entu0
  · have hil:i<l.length:=by omega
    refine WC_own (fun q1 q2 p0 hv hn0 hx=>by omega) fun q1 q2 g cap spare hv hcap hmx hsp=>?_
    obtain ⟨rfl,rfl⟩:p=some ⟨g,0,none⟩∧c=cap:=by injection hv with a b c;exact ⟨a,c⟩
    have hfl:(flat ic l).length=l.length:=by rw [q1,Nat.mul_one]
    have hkk:(l.length:Int)+1-i=((l.length+1-i:Nat):Int):=by omega
    have htk:(flat ic l++spare).take i=flat ic (l.take i):=by
      have:=flat_take (enc:=ic) (n:=1) (fun _=>rfl) l i
      rw [Nat.mul_one] at this
      rw [List.take_append_of_le_length (by omega),this]
    have hti:(l.take i).length=i:=by rw [List.length_take];omega
    have hDl:(flat ic (l.drop i)).length=l.length-i:=by
      have:=flat_length (enc:=ic) (n:=1) (fun _=>rfl) (l.drop i)
      rw [List.length_drop] at this;omega
    have hdr:List.take ((l.length-i)*1) (List.drop (0+i*1) (flat ic l++spare))=flat ic (l.drop i):=by
      have:=flat_drop (enc:=ic) (n:=1) (fun _=>rfl) l i
      rw [Nat.mul_one] at this
      rw [Nat.mul_one,Nat.mul_one,Nat.zero_add,List.drop_append_of_le_length (by omega),this,List.take_left' hDl]
    by_cases hroom:c<l.length+1
    · repeat (first|refine go ?_|intro _|refine dr_SlI_249 ?_|refine drq ?_)
      refine WO_v (v_cap rfl) rfl ?_
      repeat (first|refine go ?_|intro _|refine dr_SlI_249 ?_|refine drq ?_)
      simp only [cut_low]
      refine WO_k rfl (K_appendZ (k:=l.length+1-i) rfl rfl inferInstance hkk (by omega) (by omega) (by omega) (by omega) (by rw [List.length_append];omega) (by rw [htk];exact all_ic _) rfl rfl) (gives_intro ?_)
      intro p' c'
      rw [htk,show i+(l.length+1-i)=l.length+1 by omega]
      refine WO_own (fun q1 q2 p0 hv hn0 hx=>by omega) fun r1 r2 g2 cap2 spare2 hv2 hcap2 hmx2 hsp2=>?_
      obtain ⟨rfl,rfl⟩:p'=some ⟨g2,0,none⟩∧c'=cap2:=by injection hv2 with a b c;exact ⟨a,c⟩
      have hA:(flat ic (l.take i)).length=i:=by
        have:=flat_length (enc:=ic) (n:=1) (fun _=>rfl) (l.take i)
        omega
      have hM:(flat ic (l.take i)++List.replicate (l.length+1-i) (Value.int .i64 0)++spare2).length=c':=by
        rw [List.length_append,r1,hsp2];omega
      repeat (first|refine go ?_|intro _|refine dr_SlI_249 ?_|refine drq ?_)
      rw [cut_at (show c'≠i by omega)]
      refine WO_k rfl (K_copyP (k:=1) rfl rfl inferInstance inferInstance (by omega) (by simp only [List.length_append,hA,List.length_replicate];omega) (by simp) rfl rfl rfl) (same_intro ?_)
      repeat (first|refine go ?_|intro _|refine dr_SlI_249 ?_|refine drq ?_)
      rw [cut_at (show c'≠i+1 by omega),cut_at (show c≠i by omega)]
      refine WT_k rfl GIn.none (K_copyP (k:=l.length-i) rfl rfl inferInstance inferInstance (by omega) (by rw [splice_length (by rw [hM];simp;omega),hM];omega) (by rw [List.length_append];omega) (by rw [hdr];exact all_ic _) rfl rfl) (same_intro ?_)
      repeat (first|refine go ?_|intro _|refine dr_SlI_249 ?_|refine drq ?_)
      rw [hdr,show List.take (1*1) (List.drop 0 [Value.int IntKind.i64 x])=[.int .i64 x] from rfl]
      (apply WE_ret rfl rfl zqR)
      · exact ⟨_,_,rfl,rfl⟩
      · rw [flat_ins]
        refine Ent.trans (ins_close1 (A:=flat ic (l.take i)) (by rw [List.append_assoc,List.take_left' hA]) hM (by omega) (by omega) hDl hmx2 (by rw [←flat_ins];exact all_ic _)) ?_
        exact entu0
    · repeat (first|refine go ?_|intro _|refine dr_SlI_249 ?_|refine drq ?_)
      refine WO_v (v_cap rfl) rfl ?_
      repeat (first|refine go ?_|intro _|refine dr_SlI_249 ?_|refine drq ?_)
      have e0:(if c=0 then some (⟨g,0,none⟩:Addr) else Option.map (fun x:Addr=>x.add (0*1)) (some ⟨g,0,none⟩))=some ⟨g,0,none⟩:=by split<;>simp [Addr.add]
      simp only [e0,Nat.sub_zero,cut_low]
      rw [cut_at (show c≠i+1 by omega)]
      (first|refine WO_front (Cells vb 3 [.int .i64 x]) ?_|refine WC_front (Cells vb 3 [.int .i64 x]) ?_|refine WE_front (Cells vb 3 [.int .i64 x]) ?_)
      (first|refine WO_front (Cells g 3 (flat ic l++spare)) ?_|refine WC_front (Cells g 3 (flat ic l++spare)) ?_|refine WE_front (Cells g 3 (flat ic l++spare)) ?_)
      refine WO_two fun hne=>?_
      refine WO_k rfl (K_overlaps (t:=56) (tR:=4) rfl rfl rfl Tryz.func250 (by kernel_rfl) (by kernel_rfl) (by kernel_rfl) (by kernel_rfl) inferInstance inferInstance (Ne.symm hne) (by rw [List.length_append];omega) rfl) (same_intro ?_)
      repeat (first|refine go ?_|intro _|refine dr_SlI_249 ?_|refine drq ?_)
      rw [cut_at (show c≠i+1 by omega),cut_at (show c≠i by omega)]
      refine WT_k rfl GIn.none (K_copyP (k:=l.length-i) rfl rfl inferInstance inferInstance (by omega) (by rw [List.length_append];omega) (by rw [List.length_append];omega) (by rw [hdr];exact all_ic _) rfl rfl) (same_intro ?_)
      repeat (first|refine go ?_|intro _|refine dr_SlI_249 ?_|refine drq ?_)
      rw [cut_at (show c≠i by omega),hdr]
      have hM:(flat ic l++spare).length=c:=by rw [List.length_append,hsp];omega
      refine WO_k rfl (K_copyP (k:=1) rfl rfl inferInstance inferInstance (by omega) (by rw [splice_length (by rw [hM,hDl];omega),hM];omega) (by simp) rfl rfl rfl) (same_intro ?_)
      repeat (first|refine go ?_|intro _|refine dr_SlI_249 ?_|refine drq ?_)
      rw [show List.take (1*1) (List.drop 0 [Value.int IntKind.i64 x])=[.int .i64 x] from rfl]
      (apply WE_ret rfl rfl zqR)
      · exact ⟨_,_,rfl,rfl⟩
      · rw [flat_ins]
        refine Ent.trans (ins_close2 (A:=flat ic (l.take i)) htk hM (by omega) (by omega) hDl hmx (by rw [←flat_ins];exact all_ic _)) ?_
        exact entu0
end Go.Sx

/- The document's files of misses, fifth part. My own work. -/
namespace Go.Sx
open Go Go.Proofs
def MisOk (m:Miss):Prop:=(m.kind=1∨m.kind=2)∧ -1≤m.needs∧0≤m.got∧(0≤m.needs→m.got≤m.needs)
set_option maxRecDepth 100000
set_option maxHeartbeats 4000000
attribute [local irreducible] Go.Exit.then Go.Exit.inBlock Go.Code.wp WC WO WE WQ V LoopQ FnQ Sat Star band bor IntKind.wrap WR Code.rounds WT KO
end Go.Sx
