/- Msg2, SlI, MshR5: several of my texts as one. My own work. -/
import Derived.Test.YtjihlpjnebdiiaaGreatZaf
set_option linter.unusedVariables false
set_option linter.unusedSectionVars false
set_option linter.unusedSimpArgs false
set_option maxRecDepth 100000
set_option maxHeartbeats 4000000
namespace Go.Sx
open Go Go.Proofs
section
attribute [local irreducible] Exit.then Exit.inBlock Code.wp WC WO WE WQ V bT vL fP cY eI v8 IntKind.wrap WR Code.rounds WT KO
theorem a6l {F:List HP} {c:Cfg} {m:Msg}:FnF Tryz.prog 273 [c.val,mv m] [] F (fun r L'=>r= .bool (decide (bX c m.words))∧L'=[]):=by
  refine FnF.mk' Tryz.func273 rfl rfl Tryz.ntmps273 rfl ?_
  repeat first|refine gd ?_|intro _
  rename_i bs bm
  apply aW (E0:=[(2,_),(8,_)]) (fun E0 (i:Nat)=>(9,.int .i64 i)::E0) (fun _=>Cells bm 99 (mc m)::Cells bs 24 c.cells::F) (fun i=>i≤8∧∀ j,j<i→uW c m.words j) (fun i=>8-i) 0
  · exact m9
  · exact ⟨om,fun j hj=>by omega⟩
  · exact aB
  · rintro i ⟨hi,hok⟩
    by_cases hlt:i<8
    · have hcase:i=0∨i=1∨i=2∨i=3∨i=4∨i=5∨i=6∨i=7:=by omega
      rcases hcase with rfl|rfl|rfl|rfl|rfl|rfl|rfl|rfl
      · have ho:uW c m.words 0↔(-2147483648≤m.words.w0∧m.words.w0≤2147483647∧(c.words≤0→m.words.w0=0)):=Iff.rfl
        have hn:¬uW c m.words 0→¬bX c m.words:=fun h hv=>h (hv 0 (om))
        repeat' (first|refine gd ?_|intro _|refine nV ?_ ?_|fail)
        all_goals first
        |(have hno:=hn (fun h=>by have:=ho.1 h;omega)
          (apply aA rfl rfl bH;(first|exact oO|exact ⟨by simp [hno]<;>omega,rfl⟩);exact jM))
        |(have hyes:=ho.2 (om)
          refine aT 1 (om) ⟨om,fun j hj=>?_⟩ ?_ ?_
          · by_cases hjl:j=0
            · subst hjl;exact hyes
            · exact hok j (om)
          · exact m9
          · exact aB)
      · have ho:uW c m.words 1↔(-2147483648≤m.words.w1∧m.words.w1≤2147483647∧(c.words≤1→m.words.w1=0)):=Iff.rfl
        have hn:¬uW c m.words 1→¬bX c m.words:=fun h hv=>h (hv 1 (om))
        repeat' (first|refine gd ?_|intro _|refine nV ?_ ?_|fail)
        all_goals first
        |(have hno:=hn (fun h=>by have:=ho.1 h;omega)
          (apply aA rfl rfl bH;(first|exact oO|exact ⟨by simp [hno]<;>omega,rfl⟩);exact jM))
        |(have hyes:=ho.2 (om)
          refine aT 2 (om) ⟨om,fun j hj=>?_⟩ ?_ ?_
          · by_cases hjl:j=1
            · subst hjl;exact hyes
            · exact hok j (om)
          · exact m9
          · exact aB)
      · have ho:uW c m.words 2↔(-2147483648≤m.words.w2∧m.words.w2≤2147483647∧(c.words≤2→m.words.w2=0)):=Iff.rfl
        have hn:¬uW c m.words 2→¬bX c m.words:=fun h hv=>h (hv 2 (om))
        repeat' (first|refine gd ?_|intro _|refine nV ?_ ?_|fail)
        all_goals first
        |(have hno:=hn (fun h=>by have:=ho.1 h;omega)
          (apply aA rfl rfl bH;(first|exact oO|exact ⟨by simp [hno]<;>omega,rfl⟩);exact jM))
        |(have hyes:=ho.2 (om)
          refine aT 3 (om) ⟨om,fun j hj=>?_⟩ ?_ ?_
          · by_cases hjl:j=2
            · subst hjl;exact hyes
            · exact hok j (om)
          · exact m9
          · exact aB)
      · have ho:uW c m.words 3↔(-2147483648≤m.words.w3∧m.words.w3≤2147483647∧(c.words≤3→m.words.w3=0)):=Iff.rfl
        have hn:¬uW c m.words 3→¬bX c m.words:=fun h hv=>h (hv 3 (om))
        repeat' (first|refine gd ?_|intro _|refine nV ?_ ?_|fail)
        all_goals first
        |(have hno:=hn (fun h=>by have:=ho.1 h;omega)
          (apply aA rfl rfl bH;(first|exact oO|exact ⟨by simp [hno]<;>omega,rfl⟩);exact jM))
        |(have hyes:=ho.2 (om)
          refine aT 4 (om) ⟨om,fun j hj=>?_⟩ ?_ ?_
          · by_cases hjl:j=3
            · subst hjl;exact hyes
            · exact hok j (om)
          · exact m9
          · exact aB)
      · have ho:uW c m.words 4↔(-2147483648≤m.words.w4∧m.words.w4≤2147483647∧(c.words≤4→m.words.w4=0)):=Iff.rfl
        have hn:¬uW c m.words 4→¬bX c m.words:=fun h hv=>h (hv 4 (om))
        repeat' (first|refine gd ?_|intro _|refine nV ?_ ?_|fail)
        all_goals first
        |(have hno:=hn (fun h=>by have:=ho.1 h;omega)
          (apply aA rfl rfl bH;(first|exact oO|exact ⟨by simp [hno]<;>omega,rfl⟩);exact jM))
        |(have hyes:=ho.2 (om)
          refine aT 5 (om) ⟨om,fun j hj=>?_⟩ ?_ ?_
          · by_cases hjl:j=4
            · subst hjl;exact hyes
            · exact hok j (om)
          · exact m9
          · exact aB)
      · have ho:uW c m.words 5↔(-2147483648≤m.words.w5∧m.words.w5≤2147483647∧(c.words≤5→m.words.w5=0)):=Iff.rfl
        have hn:¬uW c m.words 5→¬bX c m.words:=fun h hv=>h (hv 5 (om))
        repeat' (first|refine gd ?_|intro _|refine nV ?_ ?_|fail)
        all_goals first
        |(have hno:=hn (fun h=>by have:=ho.1 h;omega)
          (apply aA rfl rfl bH;(first|exact oO|exact ⟨by simp [hno]<;>omega,rfl⟩);exact jM))
        |(have hyes:=ho.2 (om)
          refine aT 6 (om) ⟨om,fun j hj=>?_⟩ ?_ ?_
          · by_cases hjl:j=5
            · subst hjl;exact hyes
            · exact hok j (om)
          · exact m9
          · exact aB)
      · have ho:uW c m.words 6↔(-2147483648≤m.words.w6∧m.words.w6≤2147483647∧(c.words≤6→m.words.w6=0)):=Iff.rfl
        have hn:¬uW c m.words 6→¬bX c m.words:=fun h hv=>h (hv 6 (om))
        repeat' (first|refine gd ?_|intro _|refine nV ?_ ?_|fail)
        all_goals first
        |(have hno:=hn (fun h=>by have:=ho.1 h;omega)
          (apply aA rfl rfl bH;(first|exact oO|exact ⟨by simp [hno]<;>omega,rfl⟩);exact jM))
        |(have hyes:=ho.2 (om)
          refine aT 7 (om) ⟨om,fun j hj=>?_⟩ ?_ ?_
          · by_cases hjl:j=6
            · subst hjl;exact hyes
            · exact hok j (om)
          · exact m9
          · exact aB)
      · have ho:uW c m.words 7↔(-2147483648≤m.words.w7∧m.words.w7≤2147483647∧(c.words≤7→m.words.w7=0)):=Iff.rfl
        have hn:¬uW c m.words 7→¬bX c m.words:=fun h hv=>h (hv 7 (om))
        repeat' (first|refine gd ?_|intro _|refine nV ?_ ?_|fail)
        all_goals first
        |(have hno:=hn (fun h=>by have:=ho.1 h;omega)
          (apply aA rfl rfl bH;(first|exact oO|exact ⟨by simp [hno]<;>omega,rfl⟩);exact jM))
        |(have hyes:=ho.2 (om)
          refine aT 8 (om) ⟨om,fun j hj=>?_⟩ ?_ ?_
          · by_cases hjl:j=7
            · subst hjl;exact hyes
            · exact hok j (om)
          · exact m9
          · exact aB)
    · have hi8:i=8:=by omega
      subst hi8
      have hv:bX c m.words:=hok
      repeat first|refine gd ?_|intro _
      (apply aA rfl rfl bH;(first|exact oO|exact ⟨by simp [hv]<;>omega,rfl⟩);exact jM)
theorem a6m {F:List HP} {c:Cfg} {m:Msg}:FnF Tryz.prog 272 [.agg #[],c.val,mv m] [] F (fun r L'=>r= .bool (decide (bX c m.words))∧L'=[]):=by
  refine FnF.mk' Tryz.func272 rfl rfl Tryz.ntmps272 rfl ?_
  repeat first|refine gd ?_|intro _|refine aD @a6l ?_
  exact bF
theorem a6n {F:List HP} {c:Cfg} {m:Msg}:FnF Tryz.prog 277 [.agg #[],c.val,mv m] [] F (fun r L'=>r= .bool (decide (bX c m.words))∧L'=[]):=by
  refine FnF.mk' Tryz.func277 rfl rfl Tryz.ntmps277 rfl ?_
  repeat first|refine gd ?_|intro _|refine aD @a6l ?_
  exact bF
def vI (k:Int):Value:=
  if k=3 then .iface 299 (.agg #[]) else if k=1∨k=2∨k=11 then .iface 297 (.agg #[]) else if k=4∨k=6 then .iface 301 (.agg #[.bool false]) else if k=5 then .iface 301 (.agg #[.bool true])
  else if k=7 then .iface 302 (.agg #[]) else if k=8 then .iface 303 (.agg #[.bool true]) else if k=10 then .iface 303 (.agg #[.bool false]) else .iface 304 (.agg #[])
theorem c1w {F:List HP} {k:Int}:FnF Tryz.prog 215 [.int .i64 k] [] F (fun r L'=>r=vI k∧L'=[]):=by
  refine FnF.mk' Tryz.func215 rfl rfl Tryz.ntmps215 rfl ?_
  repeat' (first|refine gd ?_|intro _|refine b6p ?_|refine nV ?_ ?_|fail)
  all_goals ((apply aA rfl rfl bH);(refine ⟨?_,rfl⟩;unfold vI;repeat (first|rfl|(rw [if_pos (om)])|(rw [if_neg (om)])));exact aB)
end
section
def a0l (l:List Int) (t:Int):Nat:=(l.takeWhile fun x=>decide (x<t)).length
theorem d7p {t:Int}:∀ {l:List Int} {i:Nat},i≤l.length→(∀ k (hk:k<l.length),k<i→l[k]<t)→(∀ k (hk:k<l.length),i≤k→t≤l[k])→a0l l t=i
  | [],i,hi,_,_=>by simp at hi;subst hi;rfl
  |a::r,0,_,_,h2=>by
   have:=h2 0 (by simp) (Nat.le_refl _)
   simp at this
   have hn:¬a<t:=by omega
   simp [a0l,hn]
  |a::r,i+1,hi,h1,h2=>by
   have h0:=h1 0 (by simp) (om)
   simp at h0
   have ih:=d7p (t:=t) (l:=r) (i:=i) (by simpa using hi) (fun k hk hki=>h1 (k+1) (by simpa using hk) (om)) (fun k hk hki=>h2 (k+1) (by simpa using hk) (om))
   unfold a0l at ih ⊢
   simp [h0,ih]
theorem d7q (l:List Int) (t:Int):a0l l t≤l.length:=by
  unfold a0l
  exact (List.takeWhile_sublist (fun x=>decide (x<t)) (l:=l)).length_le
theorem c8s {T:TypeId} {sz n c:Nat} {p:Option Addr} {xs:List Value} {P:Program} {N:Nat} {o:Code} {env:Env} {L:List HP} {Q:Exit→Act→World→Prop} (h:n≤c→WC P N o env (Own T sz (.slice p n c) n xs::L) Q):WC P N o env (Own T sz (.slice p n c) n xs::L) Q:=
  fun a w ha hw=>h (by
    rcases (rT hw).2.2 with ⟨q,h1,h2⟩|⟨g,cap,cur,h1,_,h3,_⟩
    · omega
    · cases h1;exact h3) a w ha hw
theorem f4o {i j:Nat} (h:i+j≤100000):IntKind.i64.wrap ((IntKind.u64.wrap ((i:Int)+j)).fdiv (2^min (Int.toNat 1) IntKind.u64.bits))=(((i+j) / 2:Nat):Int):=by
  have e1:IntKind.u64.wrap ((i:Int)+j)=(i:Int)+j:=by simp [IntKind.wrap,IntKind.bits,IntKind.signed];omega
  have e2:(2:Int)^min (Int.toNat 1) IntKind.u64.bits=2:=rfl
  rw [e1,e2,Int.fdiv_eq_ediv_of_nonneg _ (om),y6 (om) (om)]
  omega
theorem b1f (l:List Int):(aC ic l).all one=true:=by
  induction l with
  |nil=>rfl
  |cons a r ih=>simp [aC,one]
theorem e7m {e:TypeId} {sz:Nat} {v:Value} {n:Nat} {xs:List Value} {P:Program} {N:Nat} {all:Array Oper} {c:List Oper} {env:Env} {L:List HP} {Q:Exit→Act→World→Prop} (h0:xs.length=n*sz→xs.all one=true→∀ p,v= .slice p 0 0→n=0→xs=[]→WO P N all c env (Own e sz v n xs::L) Q)
    (h1:xs.length=n*sz→xs.all one=true→∀ g cap spare,v= .slice (some ⟨g,0,none⟩) n cap→n≤cap→cap≤maxLen→spare.length=(cap-n)*sz→WO P N all c env (Cells g e (xs++spare)::L) Q):WO P N all c env (Own e sz v n xs::L) Q:=by
  intro a w ha hw
  obtain ⟨k1,k2,⟨p,a1,a2,a3⟩|⟨g,cap,spare,b1,b2,b3,b4,b5⟩⟩:=a1n hw
  · exact h0 k1 k2 p a1 a2 a3 a w ha hw
  · exact h1 k1 k2 g cap spare b1 b2 b3 b4 a w ha b5
theorem c8t {M D A:List Value} {i n:Nat} {x:Value} (h1:M.take i=A) (hi:i+1≤M.length) (hD:D.length=n-i) (hin:i≤n) (hn:n+1≤M.length):(aQ (aQ M (0+i*1) [x]) (0+(i+1)*1) D).take ((n+1)*1)=A++x::D:=by
  simp only [Nat.zero_add,Nat.mul_one]
  have hl:(aQ M i [x]).length=M.length:=cL (by simp;omega)
  have e:=q8 (l:=aQ M i [x]) (ys:=D) (o:=i+1) (om)
  rw [hD,show i+1+(n-i)=n+1 by omega] at e
  have e2:=q8 (l:=M) (ys:=[x]) (o:=i) (om)
  simp only [List.length_singleton] at e2
  rw [e,e2,h1];simp
theorem c8u {M D A:List Value} {i n:Nat} {x:Value} (h1:M.take i=A) (hi:i+1≤M.length) (hD:D.length=n-i) (hin:i≤n) (hn:n+1≤M.length):(aQ (aQ M (0+(i+1)*1) D) (0+i*1) [x]).take ((n+1)*1)=A++x::D:=by
  simp only [Nat.zero_add,Nat.mul_one]
  have hl:(aQ M (i+1) D).length=M.length:=cL (om)
  have e0:(aQ M (i+1) D).take i=A:=by rw [vQ (om) (om),h1]
  have e1:(aQ M (i+1) D).drop (i+1)=D++M.drop (n+1):=by
    unfold aQ
    rw [List.append_assoc,List.drop_left' (by simp;omega),hD,show i+1+(n-i)=n+1 by omega]
  unfold aQ at e0 e1 ⊢
  rw [e0]
  simp only [List.length_singleton]
  rw [e1]
  have hAl:A.length=i:=by rw [←h1];simp;omega
  rw [List.append_assoc,List.take_append,hAl,List.take_of_length_le (om)]
  congr 1
  rw [show n+1-i=(n-i)+1 by omega]
  simp [hD]
theorem c1x {e g i n cap:Nat} {M D A:List Value} {x:Value} {R:List HP} (h1:M.take i=A) (hM:M.length=cap) (hn:n+1≤cap) (hin:i≤n) (hD:D.length=n-i) (hmx:cap≤maxLen) (ho:(A++x::D).all one=true) :
    Ent (Cells g e (aQ (aQ M (0+i*1) [x]) (0+(i+1)*1) D)::R) (Own e 1 (.slice (some ⟨g,0,none⟩) (n+1) cap) (n+1) (A++x::D)::R):=by
  have hs1:(aQ M (0+i*1) [x]).length=cap:=by rw [cL (by simp;omega),hM]
  exact mL (sz:=1) (by rw [cL (om),hs1,Nat.mul_one]) hn hmx (c8t h1 (om) hD hin (om)) ho Ent.refl
theorem c1y {e g i n cap:Nat} {M D A:List Value} {x:Value} {R:List HP} (h1:M.take i=A) (hM:M.length=cap) (hn:n+1≤cap) (hin:i≤n) (hD:D.length=n-i) (hmx:cap≤maxLen) (ho:(A++x::D).all one=true) :
    Ent (Cells g e (aQ (aQ M (0+(i+1)*1) D) (0+i*1) [x])::R) (Own e 1 (.slice (some ⟨g,0,none⟩) (n+1) cap) (n+1) (A++x::D)::R):=by
  have hs1:(aQ M (0+(i+1)*1) D).length=cap:=by rw [cL (om),hM]
  exact mL (sz:=1) (by rw [cL (by rw [hs1];simp;omega),hs1,Nat.mul_one]) hn hmx (c8u h1 (om) hD hin (om)) ho Ent.refl
theorem a1e {l:List Int} {i:Nat} {x:Int}:aC ic (l.take i++x::l.drop i)=aC ic (l.take i)++ .int .i64 x::aC ic (l.drop i):=by
  rw [bJ];rfl
attribute [local irreducible] Exit.then Exit.inBlock Code.wp WC WO WE WQ V bT vL fP cY eI v8 IntKind.wrap WR Code.rounds WT KO
theorem c8v {F:List HP} {n:Int}:FnF Tryz.prog 213 [.int .i64 n] [] F (fun r L'=>r= .bool false∧L'=[]):=by
  refine FnF.mk' Tryz.func213 rfl rfl Tryz.ntmps213 rfl ?_
  repeat first|refine gd ?_|intro _
  exact bF
theorem b9h {F:List HP} {n:Int}:FnF Tryz.prog 175 [.int .i64 n] [] F (fun r L'=>r= .bool false∧L'=[]):=by
  refine FnF.mk' Tryz.func175 rfl rfl Tryz.ntmps175 rfl ?_
  repeat first|refine gd ?_|intro _
  exact bF
theorem b9i {F:List HP} {a b:Int}:FnF Tryz.prog 174 [.int .i64 a,.int .i64 b] [] F (fun r L'=>r= .bool (decide (a<b))∧L'=[]):=by
  refine FnF.mk' Tryz.func174 rfl rfl Tryz.ntmps174 rfl ?_
  repeat first|refine gd ?_|intro _|refine aD @c8v ?_
  exact bF
theorem tV {F:List HP} {v:Value} {l:List Int} {x:Int} (k:RdL F 1 v l.length (aC ic l)) (hn:l.length≤1099511627776):FnF Tryz.prog 173 [v,.int .i64 x] [] F (fun r L'=>r= .bool (decide (x∈l))∧L'=[]):=by
  have hI:=b4q (F:=F) (x:=x) k hn
  have hx:decide (0≤bA (· =x) l)=decide (x∈l):=by
    rw [decide_eq_decide]
    constructor
    · intro h
      obtain ⟨i,hi,_,h2,_⟩:=cR h
      have:=of_decide_eq_true h2
      rw [←this];exact List.getElem_mem hi
    · intro h
      rcases Int.lt_or_le (bA (· =x) l) 0 with h0|h0
      · have:=(dL (p:=fun y=>decide (y=x)) (l:=l) (om)).2 x h
        simp at this
      · exact h0
  refine FnF.mk' Tryz.func173 rfl rfl Tryz.ntmps173 rfl ?_
  repeat first|refine gd ?_|intro _|refine aD @hI ?_
  rw [hx]
  exact bF
theorem oR {F:List HP} {v:Value} {l:List Int} {t:Int} (k:RdL F 1 v l.length (aC ic l)) (hs:l.Pairwise (· < ·)) (hn:l.length≤1000) :
    FnF Tryz.prog 135 [v,.int .i64 t] [] F (fun r L'=>r= .tuple [.int .i64 (a0l l t:Nat),.bool (decide (t∈l))].toArray∧L'=[]):=by
  have hsl:∀ a b (ha:a<l.length) (hb:b<l.length),a≤b→l[a]≤l[b]:=fun a b ha hb h=>by
    rcases Nat.lt_or_ge a b with h1|h1
    · have:=List.pairwise_iff_getElem.1 hs a b ha hb h1;omega
    · have:a=b:=by omega
      subst this;exact Int.le_refl _
  refine FnF.mk' Tryz.func135 rfl rfl Tryz.ntmps135 rfl ?_
  repeat first|refine gd ?_|intro _
  apply aW (E0:=[(0,_),(1,_),(6,_)]) (fun E0 (q:Nat×Nat)=>(7,.int .i64 q.1)::(8,.int .i64 q.2)::E0) (fun _=>F)
    (fun q=>q.1≤q.2∧q.2≤l.length∧(∀ k (hk:k<l.length),k<q.1→l[k]<t)∧(∀ k (hk:k<l.length),q.2≤k→t≤l[k])) (fun q=>q.2-q.1) (0,l.length)
  · exact m9
  · exact ⟨Nat.zero_le _,Nat.le_refl _,fun k hk h=>by omega,fun k hk h=>by omega⟩
  · exact Ent.refl
  · rintro ⟨i,j⟩ ⟨hij,hj,h1,h2⟩
    dsimp only at hij hj h1 h2 ⊢
    by_cases hlt:i<j
    · have hm:(i+j) / 2<l.length:=by omega
      have hh:=f4o (i:=i) (j:=j) (om)
      by_cases hc:l[(i+j) / 2]<t
      · repeat first|refine gd ?_|intro _
        simp only [hh]
        repeat first|refine gd ?_|intro _|refine aD @b9i ?_
        simp only [Int.toNat_natCast]
        repeat first|refine gd ?_|intro _
        refine aT ((i+j) / 2+1,j) (by dsimp only;omega) ⟨by dsimp only;omega,hj,fun k hk h=>?_,h2⟩ ?_ Ent.refl
        · dsimp only at h
          have:=hsl k ((i+j) / 2) hk hm (om)
          omega
        · exact m9
      · repeat first|refine gd ?_|intro _
        simp only [hh]
        repeat first|refine gd ?_|intro _|refine aD @b9i ?_
        simp only [Int.toNat_natCast]
        repeat first|refine gd ?_|intro _
        refine aT (i,(i+j) / 2) (by dsimp only;omega) ⟨by dsimp only;omega,by dsimp only;omega,h1,fun k hk h=>?_⟩ ?_ Ent.refl
        · dsimp only at h
          have:=hsl ((i+j) / 2) k hm hk h
          omega
        · exact m9
    · have hij2:i=j:=by omega
      subst hij2
      have hlo:=d7p hj h1 h2
      by_cases hil:i<l.length
      · by_cases he:l[i]=t
        · have hmem:t∈l:=by rw [←he];exact List.getElem_mem hil
          repeat first|refine gd ?_|intro _|refine aD @b9h ?_
          (apply aA rfl rfl bH)
          · exact ⟨by rw [hlo];simp [hmem],rfl⟩
          · exact Ent.refl
        · have hmem:¬t∈l:=fun h=>by
            obtain ⟨k,hk,hkt⟩:=List.getElem_of_mem h
            rcases Nat.lt_or_ge k i with hki|hki
            · have:=h1 k hk hki;omega
            · have h3:=h2 i hil (Nat.le_refl _)
              have h4:=hsl i k hil hk hki
              omega
          repeat first|refine gd ?_|intro _|refine aD @b9h ?_
          (apply aA rfl rfl bH)
          · exact ⟨by rw [hlo];simp [hmem],rfl⟩
          · exact Ent.refl
      · have hmem:¬t∈l:=fun h=>by
          obtain ⟨k,hk,hkt⟩:=List.getElem_of_mem h
          have:=h1 k hk (om);omega
        repeat first|refine gd ?_|intro _
        (apply aA rfl rfl bH)
        · exact ⟨by rw [hlo];simp [hmem],rfl⟩
        · exact Ent.refl
theorem gF {Q P:Prop} (k:Q) (h:Hid Q→P:=by
  intro k
  first
  |(refine aI ?_;apply pV (id:=11) .true [] (pl:= .p 0 <| .p 1 <| .p 2 <| .p 3 <| .p 4 <| .p 5 <| .p 6 <| .p 7 <| .e true [(8,.done)]);exact sD;kernel_rfl;kernel_rfl;exact Ent.nil;exact k.out)
  |(refine aI ?_;apply pV (id:=15) .true [] (pl:= .p 0 <| .p 1 <| .p 2 <| .p 3 <| .p 4 <| .p 5 <| .p 6 <| .p 7 <| .e true [(8,.done)]);exact sD;kernel_rfl;kernel_rfl;exact Ent.nil;exact k.out)):P:=h ⟨k⟩
theorem b1g {F:List HP} {p:Option Addr} {c vb i:Nat} {l:List Int} {x:Int} (hi:i≤l.length) (hn:l.length≤1000) :
    FnF Tryz.prog 249 [.slice p l.length c,.int .i64 i,.slice (some ⟨vb,0,none⟩) 1 1] [Own 3 1 (.slice p l.length c) l.length (aC ic l),Cells vb 3 [.int .i64 x]] F
      (fun r L'=>∃ p' c',r= .slice p' (l.length+1) c'∧L'=[Own 3 1 (.slice p' (l.length+1) c') (l.length+1) (aC ic (l.take i++x::l.drop i))]):=by
  refine FnF.mk' Tryz.func249 rfl rfl Tryz.ntmps249 rfl ?_
  refine c8s fun hc=>?_
  by_cases he:i=l.length
  · subst he
    repeat first|refine go ?_|intro _|refine gF ?_|refine dM ?_
    rename_i p' c'
    (apply aA rfl rfl bH)
    · exact ⟨p',c',rfl,rfl⟩
    · rw [List.take_length,List.drop_length,bJ,dW];exact aB
  · have hil:i<l.length:=by omega
    refine b1m (fun q1 q2 p0 hv hn0 hx=>by omega) fun q1 q2 g cap spare hv hcap hmx hsp=>?_
    obtain ⟨rfl,rfl⟩:p=some ⟨g,0,none⟩∧c=cap:=by injection hv with a b c;exact ⟨a,c⟩
    have hfl:(aC ic l).length=l.length:=by rw [q1,Nat.mul_one]
    have hkk:(l.length:Int)+1-i=((l.length+1-i:Nat):Int):=by omega
    have htk:(aC ic l++spare).take i=aC ic (l.take i):=by
      have:=iU (enc:=ic) (n:=1) (fun _=>rfl) l i
      rw [Nat.mul_one] at this
      rw [List.take_append_of_le_length (om),this]
    have hti:(l.take i).length=i:=by rw [List.length_take];omega
    have hDl:(aC ic (l.drop i)).length=l.length-i:=by
      have:=gV (enc:=ic) (n:=1) (fun _=>rfl) (l.drop i)
      rw [List.length_drop] at this;omega
    have hdr:List.take ((l.length-i)*1) (List.drop (0+i*1) (aC ic l++spare))=aC ic (l.drop i):=by
      have:=fV (enc:=ic) (n:=1) (fun _=>rfl) l i
      rw [Nat.mul_one] at this
      rw [Nat.mul_one,Nat.mul_one,Nat.zero_add,List.drop_append_of_le_length (om),this,List.take_left' hDl]
    by_cases hroom:c<l.length+1
    · repeat first|refine go ?_|intro _|refine gF ?_|refine dM ?_
      refine b6d (e6x rfl) rfl ?_
      repeat first|refine go ?_|intro _|refine gF ?_|refine dM ?_
      simp only [uY]
      refine xG rfl (c9z (k:=l.length+1-i) rfl rfl inferInstance hkk (om) (om) (om) (om) (by rw [List.length_append];omega) (by rw [htk];exact b1f _) rfl rfl) (dE ?_)
      intro p' c'
      rw [htk,show i+(l.length+1-i)=l.length+1 by omega]
      refine e7m (fun q1 q2 p0 hv hn0 hx=>by omega) fun r1 r2 g2 cap2 spare2 hv2 hcap2 hmx2 hsp2=>?_
      obtain ⟨rfl,rfl⟩:p'=some ⟨g2,0,none⟩∧c'=cap2:=by injection hv2 with a b c;exact ⟨a,c⟩
      have hA:(aC ic (l.take i)).length=i:=by
        have:=gV (enc:=ic) (n:=1) (fun _=>rfl) (l.take i)
        omega
      have hM:(aC ic (l.take i)++List.replicate (l.length+1-i) (Value.int .i64 0)++spare2).length=c':=by
        rw [List.length_append,r1,hsp2];omega
      repeat first|refine go ?_|intro _|refine gF ?_|refine dM ?_
      rw [o9 (show c'≠i by omega)]
      refine xG rfl (a7m (k:=1) rfl rfl inferInstance inferInstance (om) (by simp only [List.length_append,hA,List.length_replicate];omega) (by simp) rfl rfl rfl) (aM ?_)
      repeat first|refine go ?_|intro _|refine gF ?_|refine dM ?_
      rw [o9 (show c'≠i+1 by omega),o9 (show c≠i by omega)]
      refine qW rfl GIn.none (a7m (k:=l.length-i) rfl rfl inferInstance inferInstance (om) (by rw [cL (by rw [hM];simp;omega),hM];omega) (by rw [List.length_append];omega) (by rw [hdr];exact b1f _) rfl rfl) (aM ?_)
      repeat first|refine go ?_|intro _|refine gF ?_|refine dM ?_
      rw [hdr,show List.take (1*1) (List.drop 0 [Value.int IntKind.i64 x])=[.int .i64 x] from rfl]
      (apply aA rfl rfl bH)
      · exact ⟨_,_,rfl,rfl⟩
      · rw [a1e]
        refine Ent.trans (c1x (A:=aC ic (l.take i)) (by rw [List.append_assoc,List.take_left' hA]) hM (om) (om) hDl hmx2 (by rw [←a1e];exact b1f _)) ?_
        exact aB
    · repeat first|refine go ?_|intro _|refine gF ?_|refine dM ?_
      refine b6d (e6x rfl) rfl ?_
      repeat first|refine go ?_|intro _|refine gF ?_|refine dM ?_
      have e0:(if c=0 then some (⟨g,0,none⟩:Addr) else Option.map (fun x:Addr=>x.add (0*1)) (some ⟨g,0,none⟩))=some ⟨g,0,none⟩:=by split<;>simp [Addr.add]
      simp only [e0,Nat.sub_zero,uY]
      rw [o9 (show c≠i+1 by omega)]
      (first|refine aX (Cells vb 3 [.int .i64 x]) ?_|refine aY (Cells vb 3 [.int .i64 x]) ?_|refine aZ (Cells vb 3 [.int .i64 x]) ?_)
      (first|refine aX (Cells g 3 (aC ic l++spare)) ?_|refine aY (Cells g 3 (aC ic l++spare)) ?_|refine aZ (Cells g 3 (aC ic l++spare)) ?_)
      refine e8s fun hne=>?_
      refine xG rfl (c3d (t:=56) (tR:=4) rfl rfl rfl Tryz.func250 (by kernel_rfl) (by kernel_rfl) (by kernel_rfl) (by kernel_rfl) inferInstance inferInstance (Ne.symm hne) (by rw [List.length_append];omega) rfl) (aM ?_)
      repeat first|refine go ?_|intro _|refine gF ?_|refine dM ?_
      rw [o9 (show c≠i+1 by omega),o9 (show c≠i by omega)]
      refine qW rfl GIn.none (a7m (k:=l.length-i) rfl rfl inferInstance inferInstance (om) (by rw [List.length_append];omega) (by rw [List.length_append];omega) (by rw [hdr];exact b1f _) rfl rfl) (aM ?_)
      repeat first|refine go ?_|intro _|refine gF ?_|refine dM ?_
      rw [o9 (show c≠i by omega),hdr]
      have hM:(aC ic l++spare).length=c:=by rw [List.length_append,hsp];omega
      refine xG rfl (a7m (k:=1) rfl rfl inferInstance inferInstance (om) (by rw [cL (by rw [hM,hDl];omega),hM];omega) (by simp) rfl rfl rfl) (aM ?_)
      repeat first|refine go ?_|intro _|refine gF ?_|refine dM ?_
      rw [show List.take (1*1) (List.drop 0 [Value.int IntKind.i64 x])=[.int .i64 x] from rfl]
      (apply aA rfl rfl bH)
      · exact ⟨_,_,rfl,rfl⟩
      · rw [a1e]
        refine Ent.trans (c1y (A:=aC ic (l.take i)) htk hM (om) (om) hDl hmx (by rw [←a1e];exact b1f _)) ?_
        exact aB
end
section
def e6n (m:Miss):Prop:=(m.kind=1∨m.kind=2)∧ -1≤m.needs∧0≤m.got∧(0≤m.needs→m.got≤m.needs)
attribute [local irreducible] Exit.then Exit.inBlock Code.wp WC WO WE WQ V bT vL fP cY eI v8 IntKind.wrap WR Code.rounds WT KO
end
end Go.Sx
