/- Mw4, Pro3, MaG, MaK, MaS, MaU: several of my texts as one. My own work. -/
import Derived.Test.YtjihlpjnebdiiaaGreatZav
set_option linter.unusedVariables false
set_option linter.unusedSectionVars false
set_option linter.unusedSimpArgs false
set_option maxRecDepth 100000
set_option maxHeartbeats 4000000
namespace Go.Sx
open Go Go.Proofs
section
theorem e0z {c:Cfg} {t:MaS} {i:Int} {x:Op3}:jE c t i x=⟨t.ks.set i.toNat (f1s c (bI t i) (cO t i) x),t.cs.set i.toNat (dR c (bI t i) x),t.hs,t.n,f1l c (bI t i) (cO t i) i x t.tr,t.odd⟩:=by
  unfold jE lG
  by_cases h:mW c (bI t i) x=0
  · rw [if_pos (decide_eq_true h)]
    unfold f1s f1l
    rw [if_pos h,if_pos h];rfl
  · rw [if_neg (by simp [h])]
    have e:dR c (bI t i) x=bI t i:=by unfold dR;rw [if_neg (fun g=>h g.1)]
    unfold f1s f1l
    rw [if_neg h,if_neg h,e]
    unfold bI cO
    rw [bP,bP]
attribute [local irreducible] Exit.then Exit.inBlock Code.wp WC WO WE WQ V bT vL fP cY eI v8 IntKind.wrap WR Code.rounds WT KO
theorem nW {Q P:Prop} (k:Q) (h:Hid Q→P:=by
  intro k
  first
  |(refine aI ?_;refine uU (id:=4) (.only [12]) (pl:= .p 0 <| .p 1 <| .p 2 <| .p 3 <| .p 4 <| .p 5 <| .p 7 <| .r 6 <| .r 8 <| .p 9 <| .r 10 <| .r 11 <| .e true [(12,.n [] <| .p 13 <| .p 14 <| .p 15 <| .done)]) k.out)
  |(refine aI ?_;refine uU (id:=10) (.only [9]) (pl:= .p 0 <| .p 1 <| .p 2 <| .p 4 <| .r 3 <| .r 5 <| .p 6 <| .r 7 <| .r 8 <| .e true [(9,.n [] <| .p 10 <| .done)]) k.out)
  |(refine aI ?_;refine uU (id:=14) (.only [13]) (pl:= .p 0 <| .p 1 <| .p 2 <| .p 4 <| .r 3 <| .r 5 <| .p 6 <| .r 7 <| .e true [(8,.p 9 <| .p 10 <| .p 11 <| .e true [(12,.e true [(13,.n [] <| .p 14 <| .done)])]),(12,.e true [(8,.p 9 <| .p 10 <| .p 11 <| .e true [(13,.n [] <| .p 14 <| .done)])])]) k.out)
  |(refine aI ?_;refine uU (id:=15) (.only []) (pl:= .p 0 <| .p 1 <| .p 2 <| .r 3 <| .p 4 <| .p 5 <| .p 6 <| .p 7 <| .p 10 <| .r 8 <| .r 11 <| .e true [(9,.p 12 <| .p 13 <| .done)]) k.out)):P:=h ⟨k⟩
theorem e1a {F:List HP} {b:Nat} {c:Cfg} {s:MaS} {x:MaX} {n:Nat} {j:Int} (hw:c.wf) (hl:MaL c n s) (hn:n≤1000000000000) (hx:a2v c s x) (h:gN s.n 2 j=true) (h11:(aG s.n 2 j).kind=11) :
    FnF Tryz.prog 49 [.pointer (some ⟨b,0,none⟩),.int .i64 2,.int .i64 j] [i9 b c s x] F (fun r L'=>r= .bool (fQ c s 2 j)∧L'=[i9 b c (d8 c s 2 j) x]):=by
  obtain ⟨⟨f1,f2,f3⟩,⟨f4,f5,f6⟩,f7⟩:=id hx
  have hmem:=hl.nt 2 _ (dQ h)
  obtain ⟨d0,d1⟩:=lO hmem.1 (.inr h11)
  obtain ⟨d,hd⟩:∃ d:Nat,(aG s.n 2 j).dst=d:=⟨(aG s.n 2 j).dst.toNat,om⟩
  have hk:d<x.hb.length:=by omega
  have hg:=jT hk
  have ho:=hl.od
  have eH:bU s (d:Int)=s.hs.getD d a5e:=rfl
  have hno:¬(gN s.n 2 j=false∨(2:Int)=1∧cB c s.n 2=0):=by rw [h];simp
  have hA:=fun F=>b1j (F:=F) (b:=x.bn) (c:=c) (n:=s.n) (k:=2) (i:=j)
  have hT:=fun F=>a1m (F:=F) (b:=x.bn) (c:=c) (n:=s.n) (k:=2) (i:=j)
  have hDn:=fun F=>e1n (F:=F) (b:=x.hb[d]) (c:=c) (num:=(d:Int)) (s:=s.hs.getD d a5e) (m:=aG s.n 2 j) hw
  simp only [h] at hA
  have eB:fQ c s 2 j=true:=by unfold fQ;rw [if_neg hno,if_neg (by decide)]
  have eS:d8 c s 2 j=⟨s.ks,s.cs,s.hs.set d (fI c d (s.hs.getD d a5e) (aG s.n 2 j)),aH s.n 2 j,s.tr,if iK c d (s.hs.getD d a5e) (aG s.n 2 j)=0 then s.odd else s.odd+1⟩:=by
    unfold d8;rw [if_neg hno,if_neg (by decide),if_neg (by decide),if_pos h11]
    unfold yL
    rw [hd]
    by_cases g:iK c d (s.hs.getD d a5e) (aG s.n 2 j)=0
    · rw [if_pos g]
      have:decide (iK c (d:Int) (bU (dZ s (aH s.n 2 j)) d) (aG s.n 2 j)≠0)=false:=decide_eq_false (fun e=>e g)
      rw [this];rfl
    · rw [if_neg g]
      have:decide (iK c (d:Int) (bU (dZ s (aH s.n 2 j)) d) (aG s.n 2 j)≠0)=true:=decide_eq_true g
      rw [this];rfl
  rw [eB,eS]
  clear eB eS
  generalize hm:aG s.n 2 j=m at *
  obtain ⟨mk,ml,ms,md,mw,mac',mo,mww⟩:=m
  dsimp only at hd h11
  subst hd h11
  by_cases he:iK c d (s.hs.getD d a5e) ⟨11,ml,ms,d,mw,mac',mo,mww⟩=0
  · rw [if_pos he]
    simp only [he] at hDn
    refine FnF.mk' Tryz.func49 rfl rfl Tryz.ntmps49 rfl ?_
    refine sI hk fun hf=>?_
    (first|(refine fJ (.slice x.ph.1 x.hb.length x.ph.2) inferInstance (om) ?_;intro _)|(refine fM (.slice x.ph.1 x.hb.length x.ph.2) inferInstance (om) ?_;intro _))
    repeat first|refine go ?_|intro _|refine nW ?_|refine dM ?_|refine aD @hA ?_|refine aD @hDn ?_|refine aD @hT ?_
    (apply aA rfl rfl bH)
    · exact ⟨rfl,rfl⟩
    · (apply yS;(focus (exact aB));all_goals exact mZ)
  · rw [if_neg he]
    refine FnF.mk' Tryz.func49 rfl rfl Tryz.ntmps49 rfl ?_
    refine sI hk fun hf=>?_
    (first|(refine fJ (.slice x.ph.1 x.hb.length x.ph.2) inferInstance (om) ?_;intro _)|(refine fM (.slice x.ph.1 x.hb.length x.ph.2) inferInstance (om) ?_;intro _))
    repeat first|refine go ?_|intro _|refine nW ?_|refine dM ?_|refine aD @hA ?_|refine aD @hDn ?_|refine aD @hT ?_
    (apply aA rfl rfl bH)
    · exact ⟨rfl,rfl⟩
    · (apply yS;(focus (exact aB));all_goals exact mZ)
theorem e1b {F:List HP} {b:Nat} {c:Cfg} {s:MaS} {x:MaX} {n:Nat} {j:Int} (hw:c.wf) (hl:MaL c n s) (hn:n≤1000000000000) (ht:s.tr.length≤1000000000000) (hx:a2v c s x) (h:gN s.n 2 j=true) (h11:(aG s.n 2 j).kind≠11) :
    FnF Tryz.prog 49 [.pointer (some ⟨b,0,none⟩),.int .i64 2,.int .i64 j] [i9 b c s x] F (fun r L'=>∃ pt:Option Addr×Nat,r= .bool (fQ c s 2 j)∧L'=[i9 b c (d8 c s 2 j) { x with pt:=pt}]):=by
  obtain ⟨⟨f1,f2,f3⟩,⟨f4,f5,f6⟩,f7⟩:=id hx
  have hmem:=hl.nt 2 _ (dQ h)
  have hk':=hmem.2
  obtain ⟨d0,d1⟩:=kY hmem.1 (by unfold c6 at hk';unfold cK;split at hk'<;>(try split at hk')<;>(try split at hk')<;>omega)
  obtain ⟨i,hd⟩:∃ i:Nat,(aG s.n 2 j).dst=i:=⟨(aG s.n 2 j).dst.toNat,om⟩
  have hk:i<x.kb.length:=by omega
  have ha:i<x.ab.length:=by omega
  have eA:bI s (i:Int)=s.cs.getD i caZ:=rfl
  have eK:cO s (i:Int)=s.ks.getD i coZ:=rfl
  have hX:=hl.cai (i:Int)
  have ho:=hl.od
  have hgk:=jT hk
  have hga:=jT ha
  have hno:¬(gN s.n 2 j=false∨(2:Int)=1∧cB c s.n 2=0):=by rw [h];simp
  have hA:=fun F=>b1j (F:=F) (b:=x.bn) (c:=c) (n:=s.n) (k:=2) (i:=j)
  have hT:=fun F=>a1m (F:=F) (b:=x.bn) (c:=c) (n:=s.n) (k:=2) (i:=j)
  have hAn:=fun F=>a4s (F:=F) (b:=b) (c:=c) (odd:=s.odd) (nk:=x.kb.length) (nh:=x.hb.length) (nt:=s.tr.length) (pk:=x.pk) (pa:=x.pa) (ph:=x.ph) (pt:=x.pt) (bn:=x.bn) (ab:=x.ab) (a:=s.cs.getD i caZ) (n:=aH s.n 2 j) (m:=aG s.n 2 j) hw ha hd ⟨ho.1,om⟩ (d7w hX hn)
  have hH:=fun F=>b2s (F:=F) (b:=x.kb[i]) (l:=(s.ks.getD i coZ).l) (rs:=(s.ks.getD i coZ).rs) (tr:=(s.ks.getD i coZ).tr)
  simp only [h] at hA
  have eB:fQ c s 2 j=true:=by unfold fQ;rw [if_neg hno,if_neg (by decide)]
  have eS:d8 c s 2 j=i3 c ⟨s.ks,s.cs.set i (aS c i (s.cs.getD i caZ) (aG s.n 2 j)),s.hs,if dP c i (s.cs.getD i caZ) (aG s.n 2 j) then eJ c (aH s.n 2 j) (eF c i (s.cs.getD i caZ) (aG s.n 2 j)) else aH s.n 2 j,s.tr,if bO c i (s.cs.getD i caZ) (aG s.n 2 j)=0 then s.odd else s.odd+1⟩ (aG s.n 2 j):=by
    unfold d8;rw [if_neg hno,if_neg (by decide),if_neg (by decide),if_neg h11,c6y,hd];rfl
  rw [eB,eS]
  clear eB eS
  generalize hN:(if dP c i (s.cs.getD i caZ) (aG s.n 2 j) then eJ c (aH s.n 2 j) (eF c i (s.cs.getD i caZ) (aG s.n 2 j)) else aH s.n 2 j)=n' at *
  generalize hO:(if bO c i (s.cs.getD i caZ) (aG s.n 2 j)=0 then s.odd else s.odd+1)=odd' at *
  generalize ha':aS c i (s.cs.getD i caZ) (aG s.n 2 j)=a' at *
  generalize hm:aG s.n 2 j=m at *
  obtain ⟨mk,ml,ms,md,mw,mac',mo,mww⟩:=m
  dsimp only at hd h11
  subst hd
  have hcs:(s.cs.set i a').getD i caZ=a':=by rw [kX,if_pos ⟨rfl,om⟩]
  cases hh:gH (cO s i) with
  |false=>
   have hh':qA (s.ks.getD i coZ).l (s.ks.getD i coZ).rs=false:=hh
   simp only [hh'] at hH
   have eT:i3 c ⟨s.ks,s.cs.set i a',s.hs,n',s.tr,odd'⟩ ⟨mk,ml,ms,i,mw,mac',mo,mww⟩=⟨s.ks.set i (s.ks.getD i coZ),s.cs.set i a',s.hs,n',s.tr,odd'⟩:=by
     unfold i3
     rw [if_neg (fun g=>by have:gH (cO s i)=true:=g.1;rw [hh] at this;cases this),bP]
   rw [eT]
   refine FnF.mk' Tryz.func49 rfl rfl Tryz.ntmps49 rfl ?_
   refine mI hk ha fun hf=>?_
   (first|(refine fJ (.slice x.pk.1 x.kb.length x.pk.2) inferInstance (om) ?_;intro _)|(refine fM (.slice x.pk.1 x.kb.length x.pk.2) inferInstance (om) ?_;intro _))
   repeat' (first|refine go ?_|intro _|refine nW ?_|refine dM ?_|refine aD @hA ?_|refine aD @hT ?_|refine aD @hAn ?_|refine aD @hH ?_|refine nV ?_ ?_|fail)
   all_goals (apply aA rfl rfl bH)
   all_goals first|exact ⟨x.pt,rfl,rfl⟩|(apply fH;(focus (exact aB));all_goals exact mZ)
  |true=>
   have hh':qA (s.ks.getD i coZ).l (s.ks.getD i coZ).rs=true:=hh
   have hne:¬(s.ks.getD i coZ).rs.length=(s.ks.getD i coZ).l.length:=by simpa [qA] using hh'
   have hwf:(zV (s.ks.getD i coZ).l (s.ks.getD i coZ).rs).wf:=c6e hl hh
   have eO:bV (cO s i)=zV (s.ks.getD i coZ).l (s.ks.getD i coZ).rs:=rfl
   simp only [hh'] at hH
   generalize zV (s.ks.getD i coZ).l (s.ks.getD i coZ).rs=op at *
   have hLn:=fun F=>b5u (F:=F) (b:=b) (c:=c) (odd:=odd') (nk:=x.kb.length) (na:=x.ab.length) (nh:=x.hb.length) (nt:=s.tr.length) (pk:=x.pk) (pa:=x.pa) (ph:=x.ph) (pt:=x.pt) (bn:=x.bn) (x:=op) hw hwf
   by_cases hg:op.kind≠4∧bB c op=ml
   · obtain ⟨h4,hml⟩:=hg
     have hDo:=fun F=>c7f (F:=F) (b:=b) (c:=c) (odd:=odd') (nh:=x.hb.length) (pk:=x.pk) (pa:=x.pa) (ph:=x.ph) (pt:=x.pt) (bn:=x.bn) (kb:=x.kb) (ab:=x.ab) (k:=s.ks.getD i coZ) (a:=a') (tr:=s.tr) (x:=op) hk ha hne ht hwf
     have eT:i3 c ⟨s.ks,s.cs.set i a',s.hs,n',s.tr,odd'⟩ ⟨mk,ml,ms,i,mw,mac',mo,mww⟩=⟨s.ks.set i (f1s c a' (s.ks.getD i coZ) op),s.cs.set i (dR c a' op),s.hs,n',f1l c a' (s.ks.getD i coZ) i op s.tr,odd'⟩:=by
       unfold i3
       rw [if_pos ⟨hh,by show (bV (cO s i)).kind≠4;rw [eO];exact h4,by show bB c (bV (cO s i))=ml;rw [eO];exact hml⟩,e0z]
       have e1:bI (⟨s.ks,s.cs.set i a',s.hs,n',s.tr,odd'⟩:MaS) (i:Int)=a':=hcs
       show (⟨s.ks.set i (f1s c (bI (⟨s.ks,s.cs.set i a',s.hs,n',s.tr,odd'⟩:MaS) (i:Int)) (cO s i) (bV (cO s i))),(s.cs.set i a').set i (dR c (bI (⟨s.ks,s.cs.set i a',s.hs,n',s.tr,odd'⟩:MaS) (i:Int)) (bV (cO s i))),s.hs,n',f1l c (bI (⟨s.ks,s.cs.set i a',s.hs,n',s.tr,odd'⟩:MaS) (i:Int)) (cO s i) i (bV (cO s i)) s.tr,odd'⟩:MaS)=_
       rw [e1,eO,List.set_set]
       rfl
     rw [eT]
     subst hml
     refine FnF.mk' Tryz.func49 rfl rfl Tryz.ntmps49 rfl ?_
     refine mI hk ha fun hf=>?_
     (first|(refine fJ (.slice x.pk.1 x.kb.length x.pk.2) inferInstance (om) ?_;intro _)|(refine fM (.slice x.pk.1 x.kb.length x.pk.2) inferInstance (om) ?_;intro _))
     repeat' (first|refine go ?_|intro _|refine nW ?_|refine dM ?_|refine aD @hA ?_|refine aD @hT ?_|refine aD @hAn ?_|refine aD @hH ?_|refine aD @hLn ?_|refine aD @hDo ?_|refine nV ?_ ?_|fail)
     all_goals rename_i pt'
     all_goals (apply aA rfl rfl bH)
     all_goals first|exact ⟨pt',rfl,rfl⟩|(apply fH;(focus (exact aB));all_goals exact mZ)
   · have eT:i3 c ⟨s.ks,s.cs.set i a',s.hs,n',s.tr,odd'⟩ ⟨mk,ml,ms,i,mw,mac',mo,mww⟩=⟨s.ks.set i (s.ks.getD i coZ),s.cs.set i a',s.hs,n',s.tr,odd'⟩:=by
       unfold i3
       rw [if_neg (fun g=>hg ⟨by have:(bV (cO s i)).kind≠4:=g.2.1;rwa [eO] at this,by have:bB c (bV (cO s i))=ml:=g.2.2;rwa [eO] at this⟩),bP]
     rw [eT]
     by_cases h4:op.kind=4
     · refine FnF.mk' Tryz.func49 rfl rfl Tryz.ntmps49 rfl ?_
       refine mI hk ha fun hf=>?_
       (first|(refine fJ (.slice x.pk.1 x.kb.length x.pk.2) inferInstance (om) ?_;intro _)|(refine fM (.slice x.pk.1 x.kb.length x.pk.2) inferInstance (om) ?_;intro _))
       repeat' (first|refine go ?_|intro _|refine nW ?_|refine dM ?_|refine aD @hA ?_|refine aD @hT ?_|refine aD @hAn ?_|refine aD @hH ?_|refine aD @hLn ?_|refine nV ?_ ?_|fail)
       all_goals (apply aA rfl rfl bH)
       all_goals first|exact ⟨x.pt,rfl,rfl⟩|(apply fH;(focus (exact aB));all_goals exact mZ)
     · have hml:¬bB c op=ml:=fun g=>hg ⟨h4,g⟩
       refine FnF.mk' Tryz.func49 rfl rfl Tryz.ntmps49 rfl ?_
       refine mI hk ha fun hf=>?_
       (first|(refine fJ (.slice x.pk.1 x.kb.length x.pk.2) inferInstance (om) ?_;intro _)|(refine fM (.slice x.pk.1 x.kb.length x.pk.2) inferInstance (om) ?_;intro _))
       repeat' (first|refine go ?_|intro _|refine nW ?_|refine dM ?_|refine aD @hA ?_|refine aD @hT ?_|refine aD @hAn ?_|refine aD @hH ?_|refine aD @hLn ?_|refine nV ?_ ?_|fail)
       all_goals (apply aA rfl rfl bH)
       all_goals first|exact ⟨x.pt,rfl,rfl⟩|(apply fH;(focus (exact aB));all_goals exact mZ)
end
section
section
variable {W:Type}
theorem c9b {v v':LV W} (h:LI v) {r:Int} (hr:0≤r) (ha:v.act=none) (hO:v.o= -1)
    (hst:∀ x,v'.st x=v.st x) (hwd:∀ x,v'.st x≠0→v'.wd x=v.wd x) (hms:∀ x,v'.ms x=v.ms x) (hbf:∀ x,v'.bf x=v.bf x) {Rq:List (AM W)} (hrq0:v.rq.Perm (.get 2 r::Rq)) (hrq:v'.rq.Perm Rq) {oth:List Int} (hoth:∀ c,c∈oth↔v.sh c=true∧c≠r∧c≠v.o) (hfly:v'.fly.Perm (.data r 4 oth.length v.mem::(oth.map (fun c=>AM.inv c r)++v.fly))) (hact:v'.act=some (2,r)) (ho:v'.o=r) (hsh:∀ x,v'.sh x=false) (hmem:v'.mem=v.mem) (hnow:v'.now=v.now):LI v':=by
  obtain ⟨qm0,cg0,cp0⟩:=c6b hrq0
  obtain ⟨qm,cg,cp⟩:=c6a hrq
  have fm:∀ y,y∈v'.fly↔y= .data r 4 oth.length v.mem∨(∃ c,c∈oth∧AM.inv c r=y)∨y∈v.fly:=fun y=>by rw [oT hfly y,List.mem_append,List.mem_map]
  have ck:∀ x,v'.ck x=(if false=true then oth.length else 0)+v.ck x+if o8 x (.data r 4 oth.length v.mem:AM W)=true then 1 else 0:=fun x=>by show v'.fly.countP _=_;rw [cW hfly,List.countP_append,mH _ false (fun _=>rfl)];rfl
  have ct:v'.ct=(if false=true then oth.length else 0)+v.ct+if cX (.data r 4 oth.length v.mem:AM W)=true then 1 else 0:=by show v'.fly.countP _=_;rw [cW hfly,List.countP_append,mH _ false (fun _=>rfl)];rfl
  have ci:v'.ci=(if true=true then oth.length else 0)+v.ci+if rG (.data r 4 oth.length v.mem:AM W)=true then 1 else 0:=by show v'.fly.countP _=_;rw [cW hfly,List.countP_append,mH _ true (fun _=>rfl)];rfl
  have cd:v'.cd=(if false=true then oth.length else 0)+v.cd+if dC (.data r 4 oth.length v.mem:AM W)=true then 1 else 0:=by show v'.fly.countP _=_;rw [cW hfly,List.countP_append,mH _ false (fun _=>rfl)];rfl
  have hna:∀ k r,v.act≠some (k,r):=fun k r e=>by rw [ha] at e;cases e
  have hnb:=fT ha
  obtain ⟨hfr,hct,hci,hcd⟩:=nG h ha
  have hfk:=h.f0 ha
  obtain ⟨m,hm,hk⟩:=h.gk _ r ((qm0 _).2 (.inl rfl))
  obtain ⟨g1,g2,g3,g4,g5⟩:=h.g1 r m hm (hnb r)
  have hml:=h.ml r m hm g5
  have hbn:v.bf r=none:=by cases e:v.bf r with|none=>rfl|some x=>(have:=(h.b1 r x.1 x.2 e).2.2;rw [hm] at this;cases this)
  have hcr:=cg0 r
  have hbu:∀ x,v'.busy x↔x=r:=fun x=>by unfold LV.busy;rw [hact];grind [dC]
  have hmn:=h.mn hO
  have hno:∀ x,v.st x<2:=fun x=>Decidable.byContradiction fun hx=>by have:=h.e x (om);have:=h.rg x;grind [cX]
  have hho:∀ x,v.holds x↔v'.holds x:=fun x=>by unfold LV.holds;rw [hst,hbf,cp];grind [qB]
  refine { bl:=?zbl,k:=?zk}
  case zbl=>
    intro r1 w1 h1 h2
    have:=h.bl r1 w1
    have:=h.rg r1;exact cH
  case zk=>
    intro c1 h1
    have:=h.k c1
    have:=hoth c1;have:=fm (.inv c1 r);have:=h.rg c1;exact cH
theorem c9c {v v':LV W} (h:LI v) {r:Int} (hr:0≤r) (ha:v.act=none) (hO:v.o=r)
    (hst:∀ x,v'.st x=v.st x) (hwd:∀ x,v'.st x≠0→v'.wd x=v.wd x) (hms:∀ x,v'.ms x=v.ms x) (hbf:∀ x,v'.bf x=v.bf x) {Rq:List (AM W)} (hrq0:v.rq.Perm (.get 2 r::Rq)) (hrq:v'.rq.Perm Rq) {oth:List Int} (hoth:∀ c,c∈oth↔v.sh c=true∧c≠r∧c≠v.o) (hfly:v'.fly.Perm (.grant r oth.length::(oth.map (fun c=>AM.inv c r)++v.fly))) (hact:v'.act=some (2,r)) (ho:v'.o=v.o) (hsh:∀ x,v'.sh x=false) (hmem:v'.mem=v.mem) (hnow:v'.now=v.now):LI v':=by
  obtain ⟨qm0,cg0,cp0⟩:=c6b hrq0
  obtain ⟨qm,cg,cp⟩:=c6a hrq
  have fm:∀ y,y∈v'.fly↔y= .grant r oth.length∨(∃ c,c∈oth∧AM.inv c r=y)∨y∈v.fly:=fun y=>by rw [oT hfly y,List.mem_append,List.mem_map]
  have ck:∀ x,v'.ck x=(if false=true then oth.length else 0)+v.ck x+if o8 x (.grant r oth.length:AM W)=true then 1 else 0:=fun x=>by show v'.fly.countP _=_;rw [cW hfly,List.countP_append,mH _ false (fun _=>rfl)];rfl
  have ct:v'.ct=(if false=true then oth.length else 0)+v.ct+if cX (.grant r oth.length:AM W)=true then 1 else 0:=by show v'.fly.countP _=_;rw [cW hfly,List.countP_append,mH _ false (fun _=>rfl)];rfl
  have ci:v'.ci=(if true=true then oth.length else 0)+v.ci+if rG (.grant r oth.length:AM W)=true then 1 else 0:=by show v'.fly.countP _=_;rw [cW hfly,List.countP_append,mH _ true (fun _=>rfl)];rfl
  have cd:v'.cd=(if false=true then oth.length else 0)+v.cd+if dC (.grant r oth.length:AM W)=true then 1 else 0:=by show v'.fly.countP _=_;rw [cW hfly,List.countP_append,mH _ false (fun _=>rfl)];rfl
  have hna:∀ k r,v.act≠some (k,r):=fun k r e=>by rw [ha] at e;cases e
  have hnb:=fT ha
  obtain ⟨hfr,hct,hci,hcd⟩:=nG h ha
  have hfk:=h.f0 ha
  obtain ⟨m,hm,hk⟩:=h.gk _ r ((qm0 _).2 (.inl rfl))
  obtain ⟨g1,g2,g3,g4,g5⟩:=h.g1 r m hm (hnb r)
  have hml:=h.ml r m hm g5
  have hbn:v.bf r=none:=by cases e:v.bf r with|none=>rfl|some x=>(have:=(h.b1 r x.1 x.2 e).2.2;rw [hm] at this;cases this)
  have hcr:=cg0 r
  have hbu:∀ x,v'.busy x↔x=r:=fun x=>by unfold LV.busy;rw [hact];grind [dC]
  have hh:=sV h ha (om)
  have hs3:v.st r=3:=by have:=h.r r;unfold LV.holds at hh;grind
  have hun:=fun d=>yG h (c:=r) (d:=d) (om)
  have hho:∀ x,v.holds x↔v'.holds x:=fun x=>by unfold LV.holds;rw [hst,hbf,cp];grind [qB]
  refine { k:=?zk}
  case zk=>
    intro c1 h1
    have:=h.k c1
    have:=hoth c1;have:=fm (.inv c1 r);have:=h.rg c1;exact cH
theorem c9d {v v':LV W} (h:LI v) {r:Int} (hr:0≤r) (ha:v.act=none) (hO:v.o≠ -1) (hor:v.o≠r)
    (hst:∀ x,v'.st x=v.st x) (hwd:∀ x,v'.st x≠0→v'.wd x=v.wd x) (hms:∀ x,v'.ms x=v.ms x) (hbf:∀ x,v'.bf x=v.bf x) {Rq:List (AM W)} (hrq0:v.rq.Perm (.get 2 r::Rq)) (hrq:v'.rq.Perm Rq) {oth:List Int} (hoth:∀ c,c∈oth↔v.sh c=true∧c≠r∧c≠v.o) (hfly:v'.fly.Perm (.fwd 2 v.o r oth.length::(oth.map (fun c=>AM.inv c r)++v.fly))) (hact:v'.act=some (2,r)) (ho:v'.o=r) (hsh:∀ x,v'.sh x=false) (hmem:v'.mem=v.mem) (hnow:v'.now=v.now):LI v':=by
  obtain ⟨qm0,cg0,cp0⟩:=c6b hrq0
  obtain ⟨qm,cg,cp⟩:=c6a hrq
  have fm:∀ y,y∈v'.fly↔y= .fwd 2 v.o r oth.length∨(∃ c,c∈oth∧AM.inv c r=y)∨y∈v.fly:=fun y=>by rw [oT hfly y,List.mem_append,List.mem_map]
  have ck:∀ x,v'.ck x=(if false=true then oth.length else 0)+v.ck x+if o8 x (.fwd 2 v.o r oth.length:AM W)=true then 1 else 0:=fun x=>by show v'.fly.countP _=_;rw [cW hfly,List.countP_append,mH _ false (fun _=>rfl)];rfl
  have ct:v'.ct=(if false=true then oth.length else 0)+v.ct+if cX (.fwd 2 v.o r oth.length:AM W)=true then 1 else 0:=by show v'.fly.countP _=_;rw [cW hfly,List.countP_append,mH _ false (fun _=>rfl)];rfl
  have ci:v'.ci=(if true=true then oth.length else 0)+v.ci+if rG (.fwd 2 v.o r oth.length:AM W)=true then 1 else 0:=by show v'.fly.countP _=_;rw [cW hfly,List.countP_append,mH _ true (fun _=>rfl)];rfl
  have cd:v'.cd=(if false=true then oth.length else 0)+v.cd+if dC (.fwd 2 v.o r oth.length:AM W)=true then 1 else 0:=by show v'.fly.countP _=_;rw [cW hfly,List.countP_append,mH _ false (fun _=>rfl)];rfl
  have hna:∀ k r,v.act≠some (k,r):=fun k r e=>by rw [ha] at e;cases e
  have hnb:=fT ha
  obtain ⟨hfr,hct,hci,hcd⟩:=nG h ha
  have hfk:=h.f0 ha
  obtain ⟨m,hm,hk⟩:=h.gk _ r ((qm0 _).2 (.inl rfl))
  obtain ⟨g1,g2,g3,g4,g5⟩:=h.g1 r m hm (hnb r)
  have hml:=h.ml r m hm g5
  have hbn:v.bf r=none:=by cases e:v.bf r with|none=>rfl|some x=>(have:=(h.b1 r x.1 x.2 e).2.2;rw [hm] at this;cases this)
  have hcr:=cg0 r
  have hbu:∀ x,v'.busy x↔x=r:=fun x=>by unfold LV.busy;rw [hact];grind [dC]
  have hh:=sV h ha hO
  have he:=fun c=>h.e c
  have hho:∀ x,v.holds x↔v'.holds x:=fun x=>by unfold LV.holds;rw [hst,hbf,cp];grind [qB]
  refine { k:=?zk}
  case zk=>
    intro c1 h1
    have:=h.k c1
    have:=hoth c1;have:=fm (.inv c1 r);have:=h.rg c1;exact cH
end
end
section
structure HmF (c:Cfg) (x:HomS):Prop where
  q:a5c x.q
  ml:(x.ms.length:Int)=c.words*c.lines
  od:x.odd=0
  sm:∀ e∈x.q,∀ y∈e.sends,fG c y
  sk:∀ e∈x.q,e.m.kind≠3→∀ y∈e.sends,y.kind≠10
  sp:∀ e∈x.q,e.m.kind=3→e.st=true→e.sends≠[]
  mv:∀ line,bX c (aJ c x.ms line)
def vO (c:Cfg) (s:MaS):Prop:=∀ x∈s.hs,HmF c x
section
variable {c:Cfg} {n:Nat} {s:MaS} {line j:Int}
theorem c4y (hl:MaL c n s) {d:Int} (hd:0≤d∧d<c.homes):d.toNat<s.hs.length:=by have:=hl.lh;omega
theorem b2e {d:Int} {x:HomS} (hl:MaL c n s) (hd:0≤d∧d<c.homes) (hline:aL c line=true):aN c (dU s d x) line=if cU c line=d then x else aN c s line:=by
  have hr:=c4y hl hd
  have hb:=(gP hl.ok).2.1
  have e0:0≤cU c line:=by unfold cU;rw [if_pos hline];exact Int.emod_nonneg _ (om)
  unfold aN bU
  show (s.hs.set d.toNat x).getD (cU c line).toNat a5e=_
  rw [List.getD_eq_getElem?_getD,List.getElem?_set]
  by_cases h:cU c line=d
  · rw [if_pos h,h,if_pos rfl,if_pos hr];rfl
  · rw [if_neg h,if_neg (om),←List.getD_eq_getElem?_getD]
theorem b9m {m:Msg} (hm:fG c m) (hh:cK m.kind):(0≤m.dst∧m.dst<c.homes)∧(0≤m.src∧m.src<c.cores)∧cU c m.line=m.dst∧aL c m.line=true:=by
  have hd:=lO hm hh
  have hl:=uZ hm
  obtain ⟨g1,g2,g3,g4,g5⟩:=hm
  unfold jY at g4
  rw [if_pos hh] at g4
  refine ⟨hd,g4.1,?_,hl⟩
  unfold cU
  rw [if_pos hl,g4.2.1]
  unfold r9
  rw [Int.tmod_eq_emod_of_nonneg g3.1]
theorem e7p {q:List QE} {m:Msg}:oC line (q++[⟨m,false,[]⟩])=oC line q++if m.line=line then [m] else []:=by
  rw [rO,o7]
  by_cases h:m.line=line
  · rw [if_pos ⟨h,rfl⟩,if_pos h];rfl
  · rw [if_neg (fun g=>h g.1),if_neg h];rfl
theorem e7q {q:List QE} {m:Msg}:oP line (q++[⟨m,false,[]⟩])=oP line q:=by
  rw [b1z,a9b]
  split<;>simp [oP]
theorem e1c {q:List QE} {m:Msg}:gZ line (q++[⟨m,false,[]⟩])=gZ line q:=by
  unfold gZ
  rw [List.find?_append]
  simp
theorem b2p {d:Int} {x:HomS} {m:Msg} (h:lC c d x m=0):iZ c d x m={ x with q:=x.q++[⟨m,false,[]⟩]}:=by
  unfold lC at h
  split at h
  · rename_i hm
    unfold iZ
    rw [if_pos hm]
    unfold r7
    rw [if_pos h]
  · cases h
theorem e7r {m:Msg} (h:LT c s) (hl:MaL c n s) (hb:gN s.n 0 j=true) (hm:aG s.n 0 j=m) (he:lC c m.dst (bU s m.dst) m=0) :
    LT c (dZ (dU s m.dst (iZ c m.dst (bU s m.dst) m)) (aH s.n 0 j)):=by
  have hmay:=(hl.nt 0 _ (dQ hb)).1
  have hk:=(hl.nt 0 _ (dQ hb)).2
  rw [hm] at hmay hk
  have hh:cK m.kind:=by
    unfold c6 at hk
    unfold cK
    split at hk
    · exact .inl (by assumption)
    · split at hk
      · omega
      · split at hk<;>omega
  obtain ⟨hd,hsrc,hlh,hlok⟩:=b9m hmay hh
  rw [b2p he]
  refine ⟨fun line hline=>?_,h.2⟩
  obtain ⟨hLI,hNF⟩:=h.1 line hline
  have hH:=b2e (x:={ bU s m.dst with q:=(bU s m.dst).q++[⟨m,false,[]⟩]}) hl hd hline
  have hH':aN c (dZ (dU s m.dst { bU s m.dst with q:=(bU s m.dst).q++[⟨m,false,[]⟩]}) (aH s.n 0 j)) line=if cU c line=m.dst then { bU s m.dst with q:=(bU s m.dst).q++[⟨m,false,[]⟩]} else aN c s line:=hH
  have hq0:=c0n (line:=line) (q:=(aN c s line).q) hb rfl
  rw [hm] at hq0
  have key:∀ x:HomS,x=aN c (dZ (dU s m.dst { bU s m.dst with q:=(bU s m.dst).q++[⟨m,false,[]⟩]}) (aH s.n 0 j)) line→x.es=(aN c s line).es∧x.ms=(aN c s line).ms∧gZ line x.q=gZ line (aN c s line).q∧oP line x.q=oP line (aN c s line).q∧oC line x.q=oC line (aN c s line).q++if m.line=line then [m] else []:=by
    intro x hx
    rw [hH'] at hx
    by_cases hL:cU c line=m.dst
    · rw [if_pos hL] at hx
      have e:aN c s line=bU s m.dst:=by unfold aN;rw [hL]
      rw [e,hx]
      exact ⟨rfl,rfl,e1c,e7q,e7p⟩
    · rw [if_neg hL] at hx
      rw [hx]
      refine ⟨rfl,rfl,rfl,rfl,?_⟩
      rw [if_neg (fun g=>hL (by rw [←g];exact hlh)),List.append_nil]
  obtain ⟨k1,k2,k3,k4,k5⟩:=key _ rfl
  generalize hs':dZ (dU s m.dst { bU s m.dst with q:=(bU s m.dst).q++[⟨m,false,[]⟩]}) (aH s.n 0 j)=s' at *
  have hcs:s'.cs=s.cs:=by rw [←hs'];rfl
  have htr:s'.tr=s.tr:=by rw [←hs'];rfl
  have hns:s'.n=aH s.n 0 j:=by rw [←hs'];rfl
  have hca:∀ r,fE s' r=fE s r:=fun r=>by unfold fE bI;rw [hcs]
  have hent:aR (aN c s' line) line=aR (aN c s line) line:=by unfold aR;rw [k1]
  have hms:∀ r,(fA c s' line).ms r=(fA c s line).ms r:=fun r=>by show yB (fE s' r) line=_;rw [hca];rfl
  refine ⟨rU hLI (fun r=>?_) (fun r _=>?_) hms (fun r=>?_) ?_ ?_ k3 ?_ (fun r=>?_) ?_ ?_,fun r m' hm' hn=>hNF r m' (by rw [←hms];exact hm') hn⟩
  · show a0o c (fE s' r) line=_;rw [hca];rfl
  · show b6v c (fE s' r) line=_;rw [hca];rfl
  · show b4j (fE s' r) line=_;rw [hca];rfl
  · show ((b8q line s'.n.l0++oC line (aN c s' line).q).map qM).Perm _
    rw [hns,k5]
    refine List.Perm.trans ?_ hq0.symm
    by_cases hL:m.line=line
    · rw [if_pos hL,if_pos ⟨hL,rfl⟩,←List.append_assoc]
      exact (b0j (l:=b8q line (aH s.n 0 j).l0++oC line (aN c s line).q) (x:=m)).map qM
    · rw [if_neg hL,if_neg (fun g=>hL g.1),List.append_nil]
      exact List.Perm.refl _
  · show ((b8q line (s'.n.l1++s'.n.l2)++oP line (aN c s' line).q).map qM).Perm _
    rw [hns,k4]
    exact List.Perm.refl _
  · show (aR (aN c s' line) line).o=_;rw [hent];rfl
  · show cS (aR (aN c s' line) line).s r=_;rw [hent];rfl
  · show aJ c (aN c s' line).ms line=_;rw [k2];rfl
  · show aJ c (iL c s'.tr) line=_;rw [htr];rfl
theorem e1d {x:HomS} {m:Msg} (h:HmF c x):HmF c { x with q:=x.q++[⟨m,false,[]⟩]}:=by
  refine ⟨c1q h.q,h.ml,h.od,fun e he=>?_,fun e he=>?_,fun e he=>?_,h.mv⟩
  all_goals
    rcases List.mem_append.1 he with g|g
  · exact h.sm e g
  · obtain rfl:=List.mem_singleton.1 g
    intro y hy;cases hy
  · exact h.sk e g
  · obtain rfl:=List.mem_singleton.1 g
    intro _ y hy;cases hy
  · exact h.sp e g
  · obtain rfl:=List.mem_singleton.1 g
    intro _ hst;cases hst
theorem d2p {v:LV Words} (h:LI v) {r:Int} (hx: .done r∈v.fly):∃ k,v.act=some (k,r)∧v.ct=0∧v.ci=0:=by
  have hcd:=d7s hx rfl
  cases e:v.act with
  |none=>obtain ⟨_,g⟩:=h.f0 e _ hx;cases g
  |some a=>
   obtain ⟨k0,r0⟩:=a
   have e0:r0=r:=by
     rcases (h.aK _ _ e).1 with rfl|rfl
     · rcases h.f1 _ e _ hx with ⟨_,g⟩|⟨_,g⟩|⟨_,_,g,_⟩|g
       all_goals first|(cases g;rfl)|cases g
     · rcases h.f2 _ e _ hx with ⟨_,g⟩|⟨_,_,g⟩|⟨_,_,g⟩|⟨_,g⟩|⟨_,g⟩|g|g
       all_goals first|(cases g;rfl)|cases g
   subst e0
   refine ⟨k0,rfl,?_⟩
   rcases h.p _ _ e with ⟨a,g⟩|⟨a,g⟩|⟨a,g⟩|⟨g1,g2,g3⟩
   · have:=g.2.2.2.2.2.2.2.1;omega
   · have:=g.2.2.2.2.2.2.1;omega
   · have:=g.2.2.2.2.2.2.1;omega
   · exact ⟨g1,g3⟩
theorem e7s {y:Msg} (h:4≤y.kind∧y.kind≤9):cX (qM y)=true∨rG (qM y)=true:=by
  have:y.kind=4∨y.kind=5∨y.kind=6∨y.kind=7∨y.kind=8∨y.kind=9:=by omega
  unfold qM
  rcases this with g|g|g|g|g|g<;>simp [g,cX,rG]
theorem d2q {q:List QE} {k r:Int} (h:gZ line q=some (k,r)):∃ i,∃ hi:i<q.length,q[i].m.line=line∧q[i].st=true∧q[i].m.kind≠3∧q[i].m.kind=k∧q[i].m.src=r:=by
  unfold gZ at h
  cases e:q.find? (fun e=>decide (e.m.line=line)&& e.st&& !decide (e.m.kind=3)) with
  |none=>rw [e] at h;cases h
  |some x=>
   rw [e] at h
   have h1:=List.find?_some e
   obtain ⟨i,hi,rfl⟩:=List.getElem_of_mem (List.mem_of_find?_eq_some e)
   simp at h1 h
   exact ⟨i,hi,h1.1.1,h1.1.2,h1.2,h.1,h.2⟩
theorem f1x {q:List QE} {i:Nat} (hQ:a5c q) (hi:i<q.length) (hst:q[i].st=true) (hse:q[i].sends=[]) (x:Int):oC x (q.eraseIdx i)=oC x q∧oP x (q.eraseIdx i)=oP x q∧gZ x (q.eraseIdx i)=if x=q[i].m.line then none else gZ x q:=by
  obtain ⟨e,_,e3⟩:=e0l hi
  have ht:=d9n hQ hi
  have hh:=f0m hQ hi hst
  rw [e3]
  have eC:oC x q=oC x (q.take i++q[i]::q.drop (i+1)):=congrArg (oC x) e
  have eP:oP x q=oP x (q.take i++q[i]::q.drop (i+1)):=congrArg (oP x) e
  have eA:gZ x q=gZ x (q.take i++q[i]::q.drop (i+1)):=congrArg (gZ x) e
  refine ⟨?_,?_,?_⟩
  · rw [eC,rO,rO,o7,if_neg (fun g=>by rw [hst] at g;cases g.2)];rfl
  · rw [eP,b1z,b1z,a9b]
    split
    · rw [hse];rfl
    · rfl
  · by_cases hx:x=q[i].m.line
    · rw [if_pos hx]
      unfold gZ
      rw [Option.map_eq_none_iff,List.find?_eq_none]
      intro y hy
      rcases List.mem_append.1 hy with g|g
      · have:=hh y g
        simp [hx,this]
      · by_cases hy2:y.m.line=q[i].m.line
        · have:=(ht y g hy2).1
          simp [this]
        · simp [hx,hy2]
    · rw [if_neg hx,eA]
      unfold gZ
      rw [List.find?_append,List.find?_append,List.find?_cons_of_neg (by simp [Ne.symm hx])]
theorem vJ (h:vO c s) (hl:MaL c n s) {d:Int} (hd:0≤d∧d<c.homes):HmF c (bU s d):=by
  have hr:=c4y hl hd
  unfold bU
  rw [List.getD_eq_getElem?_getD,List.getElem?_eq_getElem hr]
  exact h _ (List.getElem_mem hr)
theorem e1e {m:Msg} (h:LT c s) (hl:MaL c n s) (hf:vO c s) (hb:gN s.n 2 j=true) (hm:aG s.n 2 j=m) (hk:m.kind=11) :
    LT c (yL c (dZ s (aH s.n 2 j)) m)∧(yL c (dZ s (aH s.n 2 j)) m).odd=s.odd:=by
  have hmay:=(hl.nt 2 _ (dQ hb)).1
  have hk2:=(hl.nt 2 _ (dQ hb)).2
  rw [hm] at hmay hk2
  obtain ⟨hd,hsrc,hlh,hlok⟩:=b9m hmay (.inr hk)
  have hA:qM m= .done m.src:=by
    unfold qM
    rw [if_neg (om),if_neg (om),if_neg (om),if_neg (om),if_neg (om),if_neg (om),if_neg (om),if_neg (om),if_neg (om)]
  have hfl:=(lE (c:=c) (line:=m.line) hb (.inr rfl)).2
  rw [hm,if_pos rfl,hA] at hfl
  have hin:=hfl.mem_iff.2 (List.mem_cons_self ..)
  obtain ⟨k0,hact,hct,hci⟩:=d2p (h.1 _ hlok).1 hin
  have hHo:aN c s m.line=bU s m.dst:=by unfold aN;rw [hlh]
  have hF:=vJ hf hl hd
  have hI:=(hl.hmi hd.1 hd.2).1
  have hact':gZ m.line (bU s m.dst).q=some (k0,m.src):=by rw [←hHo];exact hact
  obtain ⟨i,hi,q1,q2,q3,q4,q5⟩:=d2q hact'
  have hse:(bU s m.dst).q[i].sends=[]:=by
    cases e:(bU s m.dst).q[i].sends with
    |nil=>rfl
    |cons y r=>
     exfalso
     have hy:y∈(bU s m.dst).q[i].sends:=by rw [e];exact List.mem_cons_self ..
     have g1:=hI.snd _ (List.getElem_mem hi) y hy
     have g2:=hF.sk _ (List.getElem_mem hi) q3 y hy
     have hyP:y∈oP m.line (bU s m.dst).q:=by
       unfold oP
       rw [List.mem_flatMap]
       exact ⟨_,List.mem_filter.2 ⟨List.getElem_mem hi,decide_eq_true q1⟩,hy⟩
     have hyv:qM y∈(fA c s m.line).fly:=by
       show qM y∈(b8q m.line (s.n.l1++s.n.l2)++oP m.line (aN c s m.line).q).map qM
       rw [hHo]
       exact List.mem_map.2 ⟨y,List.mem_append_right _ hyP,rfl⟩
     rcases e7s (y:=y) (om) with g|g
     · have:=a5n hyv g;omega
     · have:=b6t hyv g;omega
  have hgone:lQ m.line m.src (bU s m.dst).q[i]=true:=by unfold lQ;simp [q1,q2,q3,q5,hse]
  have hidx:0≤bA (lQ m.line m.src) (bU s m.dst).q:=by
    refine Decidable.byContradiction fun g=>?_
    have:=(dL (p:=lQ m.line m.src) (l:=(bU s m.dst).q) (om)).2 _ (List.getElem_mem hi)
    rw [hgone] at this;cases this
  obtain ⟨a,ha,ea,ga,_⟩:=cR hidx
  have hga:(bU s m.dst).q[a].m.line=m.line∧(bU s m.dst).q[a].st=true∧(bU s m.dst).q[a].sends=[]:=by
    unfold lQ at ga
    simp at ga
    exact ⟨ga.1.1.1.2,ga.1.1.1.1,ga.2⟩
  have hmine:lR c m.dst m 2=true:=by
    unfold lR
    rw [decide_eq_true hmay,decide_eq_true hk2,decide_eq_true (show cK m.kind from .inr hk),decide_eq_true rfl];rfl
  have hE:iK c m.dst (bU s m.dst) m=0:=by unfold iK;rw [if_pos hmine];unfold a6t;rw [if_neg (om)]
  have hS:fI c m.dst (bU s m.dst) m={ bU s m.dst with q:=(bU s m.dst).q.eraseIdx a}:=by
    unfold fI
    rw [if_pos hmine]
    unfold r8
    rw [if_neg (om),ea,Int.toNat_natCast]
  have hD:yL c (dZ s (aH s.n 2 j)) m=j9 (dU (dZ s (aH s.n 2 j)) m.dst { bU s m.dst with q:=(bU s m.dst).q.eraseIdx a}) (decide (iK c m.dst (bU s m.dst) m≠0)):=by
    unfold yL
    show j9 (dU _ _ (fI c m.dst (bU s m.dst) m)) (decide (iK c m.dst (bU s m.dst) m≠0))=_
    rw [hS]
  rw [hD]
  refine ⟨⟨fun line hline=>?_,h.2⟩,?_⟩
  · obtain ⟨hLI,hNF⟩:=h.1 line hline
    generalize hs':j9 (dU (dZ s (aH s.n 2 j)) m.dst { bU s m.dst with q:=(bU s m.dst).q.eraseIdx a}) (decide (iK c m.dst (bU s m.dst) m≠0))=s'
    have hhs:s'.hs=(dU s m.dst { bU s m.dst with q:=(bU s m.dst).q.eraseIdx a}).hs:=by rw [←hs'];rfl
    have hcs:s'.cs=s.cs:=by rw [←hs'];rfl
    have htr:s'.tr=s.tr:=by rw [←hs'];rfl
    have hns:s'.n=aH s.n 2 j:=by rw [←hs'];rfl
    have hH:aN c s' line=if cU c line=m.dst then { bU s m.dst with q:=(bU s m.dst).q.eraseIdx a} else aN c s line:=by
      rw [←b2e (x:={ bU s m.dst with q:=(bU s m.dst).q.eraseIdx a}) hl hd hline]
      unfold aN bU
      rw [hhs];rfl
    have key:(aN c s' line).es=(aN c s line).es∧(aN c s' line).ms=(aN c s line).ms∧oC line (aN c s' line).q=oC line (aN c s line).q∧oP line (aN c s' line).q=oP line (aN c s line).q∧gZ line (aN c s' line).q=if line=m.line then none else gZ line (aN c s line).q:=by
      rw [hH]
      by_cases hL:cU c line=m.dst
      · rw [if_pos hL]
        have e:aN c s line=bU s m.dst:=by unfold aN;rw [hL]
        obtain ⟨f1,f2,f3⟩:=f1x hF.q ha hga.2.1 hga.2.2 line
        rw [hga.1] at f3
        rw [e]
        exact ⟨rfl,rfl,f1,f2,f3⟩
      · rw [if_neg hL,if_neg (fun g=>hL (by rw [g];exact hlh))]
        exact ⟨rfl,rfl,rfl,rfl,rfl⟩
    obtain ⟨k1,k2,k3,k4,k5⟩:=key
    have hca:∀ r,fE s' r=fE s r:=fun r=>by unfold fE bI;rw [hcs]
    have hent:aR (aN c s' line) line=aR (aN c s line) line:=by unfold aR;rw [k1]
    have hms:∀ r,(fA c s' line).ms r=(fA c s line).ms r:=fun r=>by show yB (fE s' r) line=_;rw [hca];rfl
    have w1:∀ r,(fA c s' line).st r=(fA c s line).st r:=fun r=>by show a0o c (fE s' r) line=_;rw [hca];rfl
    have w2:∀ r,(fA c s' line).st r≠0→(fA c s' line).wd r=(fA c s line).wd r:=fun r _=>by show b6v c (fE s' r) line=_;rw [hca];rfl
    have w3:∀ r,(fA c s' line).bf r=(fA c s line).bf r:=fun r=>by show b4j (fE s' r) line=_;rw [hca];rfl
    have w4:(fA c s' line).o=(fA c s line).o:=by show (aR (aN c s' line) line).o=_;rw [hent];rfl
    have w5:∀ r,(fA c s' line).sh r=(fA c s line).sh r:=fun r=>by show cS (aR (aN c s' line) line).s r=_;rw [hent];rfl
    have w6:(fA c s' line).mem=(fA c s line).mem:=by show aJ c (aN c s' line).ms line=_;rw [k2];rfl
    have w7:(fA c s' line).now=(fA c s line).now:=by show aJ c (iL c s'.tr) line=_;rw [htr];rfl
    obtain ⟨p1,p2⟩:=lE (c:=c) (line:=line) hb (.inr rfl)
    rw [hm] at p2
    have hq:(fA c s' line).rq.Perm (fA c s line).rq:=by
      show ((b8q line s'.n.l0++oC line (aN c s' line).q).map qM).Perm _
      rw [hns,k3];exact p1.symm
    have hfv:(fA c s' line).fly=sM line (aH s.n 2 j) (aN c s line).q:=by
      show (b8q line (s'.n.l1++s'.n.l2)++oP line (aN c s' line).q).map qM=_
      rw [hns,k4];rfl
    rw [←hfv] at p2
    refine ⟨?_,fun r m' hm' hn=>hNF r m' (by rw [←hms];exact hm') hn⟩
    by_cases hL:m.line=line
    · subst hL
      rw [if_pos rfl,hA] at p2
      rw [if_pos rfl] at k5
      exact e3k (r:=m.src) hLI w1 w2 hms w3 hq p2 (List.Perm.refl _) k5 w4 w5 w6 w7
    · rw [if_neg hL] at p2
      rw [if_neg (Ne.symm hL)] at k5
      exact rU hLI w1 w2 hms w3 hq p2.symm k5 w4 w5 w6 w7
  · show (if decide (iK c m.dst (bU s m.dst) m≠0)=true then s.odd+1 else s.odd)=s.odd
    rw [if_neg (by rw [hE];simp)]
end
end
section
section
variable {c:Cfg} {n:Nat} {s:MaS} {line j:Int}
theorem a0y {A B:List QE} {e:QE} (x:Int):oP x (A++e::B)=oP x A++((if e.m.line=x then e.sends else [])++oP x B):=by rw [b1z,a9b]
theorem e1f {A B:List QE} {e e':QE} (x:Int) (h1:e'.m=e.m) (h2:e'.st=e.st):gZ x (A++e'::B)=gZ x (A++e::B):=by
  unfold gZ
  rw [List.find?_append,List.find?_append,List.find?_cons,List.find?_cons,h1,h2]
  cases List.find? (fun e=>decide (e.m.line=x)&& e.st&& !decide (e.m.kind=3)) A with
  |some y=>rfl
  |none=>
   dsimp only [Option.none_or]
   split
   · simp [h1]
   · rfl
theorem e7t {q:List QE} {i:Nat} {y:Msg} {r:List Msg} (hQ:a5c q) (hi:i<q.length) (hs:q[i].sends=y::r) (x:Int) :
    oC x (cN q i)=oC x q∧(oP x q).Perm (if q[i].m.line=x then y::oP x (cN q i) else oP x (cN q i))∧gZ x (cN q i)=gZ x q:=by
  have hst:q[i].st=true:=by
    cases e:q[i].st with
    |true=>rfl
    |false=>have:=hQ.2 _ (List.getElem_mem hi) e;rw [hs] at this;cases this
  have hin:a9o q (i:Int)=true:=by unfold a9o;exact decide_eq_true (om)
  have hat:a3x q (i:Int)=q[i]:=by unfold a3x;rw [if_pos hin,Int.toNat_natCast,List.getD_eq_getElem?_getD,List.getElem?_eq_getElem hi];rfl
  have hE:lB q (i:Int)=0:=by unfold lB;rw [if_pos hin,hat,hs,if_neg (by simp)]
  obtain ⟨e,e2,e3⟩:=e0l hi
  have eC:oC x q=oC x (q.take i++q[i]::q.drop (i+1)):=congrArg (oC x) e
  have eP:oP x q=oP x (q.take i++q[i]::q.drop (i+1)):=congrArg (oP x) e
  have eA:gZ x q=gZ x (q.take i++q[i]::q.drop (i+1)):=congrArg (gZ x) e
  unfold cN
  rw [if_pos hE,hat,Int.toNat_natCast]
  by_cases h3:q[i].sends.length=1∧q[i].m.kind=3
  · rw [if_pos h3,e3]
    have hr:r=[]:=by have:=h3.1;rw [hs] at this;simpa using this
    refine ⟨?_,?_,?_⟩
    · rw [eC,rO,rO,o7,if_neg (fun g=>by rw [hst] at g;cases g.2)];rfl
    · rw [eP,a0y,b1z,hs,hr]
      by_cases hx:q[i].m.line=x
      · rw [if_pos hx,if_pos hx];exact List.perm_middle
      · rw [if_neg hx,if_neg hx];exact List.Perm.refl _
    · rw [eA]
      unfold gZ
      rw [List.find?_append,List.find?_append,List.find?_cons_of_neg (by simp [h3.2])]
  · rw [if_neg h3,e2]
    refine ⟨?_,?_,?_⟩
    · rw [eC,rO,rO,o7,o7,if_neg (fun g=>by rw [hst] at g;cases g.2)]
    · rw [eP,a0y,a0y,hs]
      by_cases hx:q[i].m.line=x
      · rw [if_pos hx,if_pos hx,if_pos hx];exact List.perm_middle
      · rw [if_neg hx,if_neg hx,if_neg hx]
    · rw [eA];exact e1f x rfl rfl
theorem e1g {d:Int} (h:LT c s) (hl:MaL c n s) (hf:vO c s) (hd:0≤d∧d<c.homes) (hr:eZ (bU s d).q j=false) (hg:gX (bU s d) j (d1v c s)=true):LT c (c7 c s d j):=by
  have hF:=vJ hf hl hd
  have hI:=(hl.hmi hd.1 hd.2).1
  have hg0:=hg
  unfold gX at hg
  rw [Bool.and_eq_true,decide_eq_true_eq] at hg
  obtain ⟨hn,hroom⟩:=hg
  have hn0:=hn
  unfold jC at hn
  rw [Bool.and_eq_true,decide_eq_true_eq] at hn
  obtain ⟨hin,hlen⟩:=hn
  have hin':=of_decide_eq_true (show decide (0≤j∧j<((bU s d).q.length:Int))=true from hin)
  obtain ⟨i,rfl⟩:∃ i:Nat,j=i:=⟨j.toNat,om⟩
  have hi:i<(bU s d).q.length:=by omega
  have hat:a3x (bU s d).q (i:Int)=(bU s d).q[i]:=by unfold a3x;rw [if_pos hin,Int.toNat_natCast,List.getD_eq_getElem?_getD,List.getElem?_eq_getElem hi];rfl
  rw [hat] at hlen
  obtain ⟨y,r,hs⟩:∃ y r,(bU s d).q[i].sends=y::r:=by
    cases e:(bU s d).q[i].sends with
    |nil=>rw [e] at hlen;exact absurd rfl hlen
    |cons y r=>exact ⟨y,r,rfl⟩
  have hM:gK (bU s d).q (i:Int)=y:=by unfold gK;rw [if_pos hn0,hat,hs];rfl
  rw [hM] at hroom
  have hy:y∈(bU s d).q[i].sends:=by rw [hs];exact List.mem_cons_self ..
  have hmay:=hF.sm _ (List.getElem_mem hi) y hy
  have hsn:=hI.snd _ (List.getElem_mem hi) y hy
  have hnk:c6 y.kind≠0:=by
    unfold c6
    rw [if_neg (om)]
    split
    · omega
    · split<;>omega
  have hrm:0<cB c s.n (c6 y.kind):=by
    unfold e1p d1v at hroom
    rcases b0i hmay with g|g|g
    · exact absurd g hnk
    · rw [g] at hroom ⊢;exact hroom
    · rw [g] at hroom ⊢;exact hroom
  have hS:c7 c s d (i:Int)=dX c (dU s d { bU s d with q:=cN (bU s d).q i}) y:=by
    unfold c7 e7 cE fZ
    rw [hr,hg0]
    simp only [Bool.false_eq_true,if_false,if_true]
    rw [hM]
  rw [hS]
  refine ⟨fun line hline=>?_,h.2⟩
  obtain ⟨hLI,hNF⟩:=h.1 line hline
  have hH:aN c (dX c (dU s d { bU s d with q:=cN (bU s d).q i}) y) line=if cU c line=d then { bU s d with q:=cN (bU s d).q i} else aN c s line:=b2e (x:={ bU s d with q:=cN (bU s d).q i}) hl hd hline
  have hown:=(iD hl.ok (hI.req _ (List.getElem_mem hi))).2.2.1
  have hlok:aL c y.line=true:=uZ hmay
  have hlh:cU c y.line=d:=by
    unfold cU
    rw [if_pos hlok,hsn.2.1];exact hown.2.2
  generalize hs':dX c (dU s d { bU s d with q:=cN (bU s d).q i}) y=s' at *
  have hcs:s'.cs=s.cs:=by rw [←hs'];rfl
  have htr:s'.tr=s.tr:=by rw [←hs'];rfl
  have hns:s'.n=eJ c s.n y:=by rw [←hs'];rfl
  have key:(aN c s' line).es=(aN c s line).es∧(aN c s' line).ms=(aN c s line).ms∧oC line (aN c s' line).q=oC line (aN c s line).q∧(oP line (aN c s line).q).Perm (if y.line=line then y::oP line (aN c s' line).q else oP line (aN c s' line).q)∧gZ line (aN c s' line).q=gZ line (aN c s line).q:=by
    rw [hH]
    by_cases hL:cU c line=d
    · rw [if_pos hL]
      have e:aN c s line=bU s d:=by unfold aN;rw [hL]
      obtain ⟨f1,f2,f3⟩:=e7t hF.q hi hs line
      rw [←hsn.2.1] at f2
      rw [e]
      exact ⟨rfl,rfl,f1,f2,f3⟩
    · rw [if_neg hL,if_neg (fun g=>hL (by rw [←g];exact hlh))]
      exact ⟨rfl,rfl,rfl,List.Perm.refl _,rfl⟩
  obtain ⟨k1,k2,k3,k4,k5⟩:=key
  have hca:∀ r,fE s' r=fE s r:=fun r=>by unfold fE bI;rw [hcs]
  have hent:aR (aN c s' line) line=aR (aN c s line) line:=by unfold aR;rw [k1]
  have hms:∀ r,(fA c s' line).ms r=(fA c s line).ms r:=fun r=>by show yB (fE s' r) line=_;rw [hca];rfl
  have hq1:=xC (line:=line) (n:=s.n) (q:=(aN c s' line).q) hmay hrm
  have hf1:=sN (line:=line) (n:=s.n) (q:=(aN c s' line).q) hmay hrm
  rw [if_neg (fun g=>hnk g.2)] at hq1
  have hfl:(fA c s line).fly.Perm (if y.line=line then qM y::sM line s.n (aN c s' line).q else sM line s.n (aN c s' line).q):=by
    show ((b8q line (s.n.l1++s.n.l2)++oP line (aN c s line).q).map qM).Perm _
    have:=(k4.append_left (b8q line (s.n.l1++s.n.l2))).map qM
    refine this.trans ?_
    by_cases hL:y.line=line
    · rw [if_pos hL,if_pos hL]
      exact (List.perm_middle (a:=y) (l₁:=b8q line (s.n.l1++s.n.l2)) (l₂:=oP line (aN c s' line).q)).map qM
    · rw [if_neg hL,if_neg hL];exact List.Perm.refl _
  refine ⟨rU hLI (fun r=>?_) (fun r _=>?_) hms (fun r=>?_) ?_ ?_ k5 ?_ (fun r=>?_) ?_ ?_,fun r m' hm' hn=>hNF r m' (by rw [←hms];exact hm') hn⟩
  · show a0o c (fE s' r) line=_;rw [hca];rfl
  · show b6v c (fE s' r) line=_;rw [hca];rfl
  · show b4j (fE s' r) line=_;rw [hca];rfl
  · show (e9c line s'.n (aN c s' line).q).Perm _
    rw [hns]
    refine hq1.trans ?_
    show ((b8q line s.n.l0++oC line (aN c s' line).q).map qM).Perm _
    rw [k3];exact List.Perm.refl _
  · show (sM line s'.n (aN c s' line).q).Perm _
    rw [hns]
    refine hf1.trans (List.Perm.trans ?_ hfl.symm)
    by_cases hL:y.line=line
    · rw [if_pos hL,if_pos ⟨hL,hnk⟩]
    · rw [if_neg hL,if_neg (fun g=>hL g.1)]
  · show (aR (aN c s' line) line).o=_;rw [hent];rfl
  · show cS (aR (aN c s' line) line).s r=_;rw [hent];rfl
  · show aJ c (aN c s' line).ms line=_;rw [k2];rfl
  · show aJ c (iL c s'.tr) line=_;rw [htr];rfl
theorem b2q {x:HomS} (h:HmF c x) (k:Nat):HmF c { x with q:=x.q.eraseIdx k}:=
  ⟨a0h h.q,h.ml,h.od,fun e he=>h.sm e (List.mem_of_mem_eraseIdx he),fun e he=>h.sk e (List.mem_of_mem_eraseIdx he),fun e he=>h.sp e (List.mem_of_mem_eraseIdx he),h.mv⟩
theorem d2r {x:HomS} (h:HmF c x) (k:Int):HmF c { x with q:=cN x.q k}:=by
  have hq:a5c (cN x.q k):=by
    have:=c8l (room:=0) (x:=⟨2,k,.zero,[],none,0⟩) h.q
    exact this
  by_cases he:lB x.q k=0
  · have hin:a9o x.q k=true:=by
      cases hc:a9o x.q k with
      |true=>rfl
      |false=>simp [lB,hc] at he
    have hm:=yU hin
    by_cases h3:(a3x x.q k).sends.length=1∧(a3x x.q k).m.kind=3
    · have e:cN x.q k=x.q.eraseIdx k.toNat:=by unfold cN;rw [if_pos he,if_pos h3]
      rw [e];exact b2q h _
    · have e:cN x.q k=x.q.set k.toNat { a3x x.q k with sends:=(a3x x.q k).sends.drop 1}:=by unfold cN;rw [if_pos he,if_neg h3]
      refine ⟨hq,h.ml,h.od,fun e' he'=>?_,fun e' he'=>?_,fun e' he'=>?_,h.mv⟩
      all_goals
        change e'∈cN x.q k at he'
        rw [e] at he'
        rcases List.mem_or_eq_of_mem_set he' with g|rfl
      · exact h.sm e' g
      · exact fun y hy=>h.sm _ hm y (List.mem_of_mem_drop hy)
      · exact h.sk e' g
      · exact fun hk y hy=>h.sk _ hm hk y (List.mem_of_mem_drop hy)
      · exact h.sp e' g
      · intro hk hst hno
        have h4:=h.sp _ hm hk hst
        have hk':(a3x x.q k).m.kind=3:=hk
        have hno':(a3x x.q k).sends.drop 1=[]:=hno
        have:(a3x x.q k).sends.length=1:=by
          have h5:(a3x x.q k).sends.length≠0:=fun g=>h4 (List.length_eq_zero_iff.1 g)
          have:=List.drop_eq_nil_iff.1 hno'
          omega
        exact h3 ⟨this,hk'⟩
  · have e:cN x.q k=x.q:=by unfold cN;rw [if_neg he]
    rw [e];exact h
theorem d2s {d:Int} {x:HomS} {m:Msg} (h:HmF c x):HmF c (fI c d x m):=by
  unfold fI
  split
  · unfold r8
    split
    · exact h
    · exact b2q h _
  · exact h
theorem d2t {d:Int} {x:HomS} {m:Msg} (h:HmF c x):HmF c (iZ c d x m):=by
  unfold iZ
  split
  · unfold r7
    split
    · exact e1d h
    · exact h
  · exact h
end
end
section
section
variable {c:Cfg} {n:Nat} {s:MaS} {line j:Int}
theorem a2i {q:List QE} {i:Nat} {S:List Msg} (hQ:a5c q) (hi:i<q.length) (hr:eZ q (i:Int)=true) (hS:S≠[]) :
    cD q (i:Int) S=q.set i { q[i] with st:=true,sends:=S}∧q[i].st=false
    ∧(oC q[i].m.line q=q[i].m::oC q[i].m.line (cD q (i:Int) S)∧oP q[i].m.line q=[]∧oP q[i].m.line (cD q (i:Int) S)=S∧gZ q[i].m.line q=none∧gZ q[i].m.line (cD q (i:Int) S)=if q[i].m.kind=3 then none else some (q[i].m.kind,q[i].m.src))
    ∧∀ x,x≠q[i].m.line→oC x (cD q (i:Int) S)=oC x q∧oP x (cD q (i:Int) S)=oP x q∧gZ x (cD q (i:Int) S)=gZ x q:=by
  have hin:a9o q (i:Int)=true:=by unfold a9o;exact decide_eq_true (om)
  have hat:a3x q (i:Int)=q[i]:=by unfold a3x;rw [if_pos hin,Int.toNat_natCast,List.getD_eq_getElem?_getD,List.getElem?_eq_getElem hi];rfl
  have hr0:=hr
  unfold eZ at hr
  rw [hat,Int.toNat_natCast] at hr
  simp only [Bool.and_eq_true,Bool.not_eq_true'] at hr
  obtain ⟨⟨_,hst⟩,hfr⟩:=hr
  have hlen:S.length≠0:=fun g=>hS (List.length_eq_zero_iff.1 g)
  have hL:cD q (i:Int) S=q.set i { q[i] with st:=true,sends:=S}:=by
    unfold cD lA
    rw [if_pos hin,hr0,decide_eq_true hlen]
    simp only [Bool.and_self,if_true]
    rw [hat,Int.toNat_natCast]
  obtain ⟨e,e2,e3⟩:=e0l hi
  have ht:=d9n hQ hi
  have hhd:∀ y∈q.take i,y.m.line≠q[i].m.line:=fun y hy=>by
    unfold a6s at hfr
    have:=List.all_eq_true.1 hfr y hy
    simpa using this
  have hse:q[i].sends=[]:=hQ.2 _ (List.getElem_mem hi) hst
  have eC:∀ x,oC x q=oC x (q.take i++q[i]::q.drop (i+1)):=fun x=>congrArg (oC x) e
  have eP:∀ x,oP x q=oP x (q.take i++q[i]::q.drop (i+1)):=fun x=>congrArg (oP x) e
  have eA:∀ x,gZ x q=gZ x (q.take i++q[i]::q.drop (i+1)):=fun x=>congrArg (gZ x) e
  refine ⟨hL,hst,⟨?_,?_,?_,?_,?_⟩,fun x hx=>⟨?_,?_,?_⟩⟩
  · rw [eC,hL,e2,rO,rO,o7,o7,if_pos ⟨rfl,hst⟩,if_neg (fun g=>by cases g.2),e5o hhd];rfl
  · rw [eP,a0y,hse,a2s (fun y hy g=>absurd g (hhd y hy)),a2s (fun y hy g=>(ht y hy g).2)]
    split<;>rfl
  · rw [hL,e2,a0y,if_pos rfl,a2s (fun y hy g=>absurd g (hhd y hy)),a2s (fun y hy g=>(ht y hy g).2)]
    simp
  · rw [eA]
    unfold gZ
    rw [Option.map_eq_none_iff,List.find?_eq_none]
    intro y hy
    rcases List.mem_append.1 hy with g|g
    · have:=hhd y g;simp [this]
    · rcases List.mem_cons.1 g with rfl|g
      · simp [hst]
      · by_cases hy2:y.m.line=q[i].m.line
        · have:=(ht y g hy2).1;simp [this]
        · simp [hy2]
  · rw [hL,e2]
    have h0:(q.take i).find? (fun e=>decide (e.m.line=q[i].m.line)&& e.st&& !decide (e.m.kind=3))=none:=by
      rw [List.find?_eq_none]
      intro y hy
      have:=hhd y hy;simp [this]
    have h1:(q.drop (i+1)).find? (fun e=>decide (e.m.line=q[i].m.line)&& e.st&& !decide (e.m.kind=3))=none:=by
      rw [List.find?_eq_none]
      intro y hy
      by_cases hy2:y.m.line=q[i].m.line
      · have:=(ht y hy hy2).1;simp [this]
      · simp [hy2]
    unfold gZ
    rw [List.find?_append,h0,List.find?_cons,h1]
    by_cases h3:q[i].m.kind=3
    · simp [h3]
    · simp [h3]
  · rw [eC,hL,e2,rO,rO,o7,o7,if_neg (fun g=>hx g.1.symm),if_neg (fun g=>hx g.1.symm)]
  · rw [eP,hL,e2,a0y,a0y,if_neg (fun g=>hx g.symm),if_neg (fun g=>hx g.symm)]
  · rw [eA,hL,e2]
    unfold gZ
    rw [List.find?_append,List.find?_append,List.find?_cons_of_neg (by simp [Ne.symm hx]),List.find?_cons_of_neg (by simp [Ne.symm hx])]
end
end
section
theorem a9p {s:SSet} {x:Int} (hm:d6 s=true) (h:cS s x=true):0≤x∧x<s.cores:=by
  unfold cS at h
  split at h
  · simpa using h
  · have hx:=of_decide_eq_true h
    unfold d6 at hm
    simp only [Bool.and_eq_true] at hm
    have:=(a3l hm.2).2 x hx
    omega
theorem a9q {s:SSet} {but:List Int} {x:Int} (hm:d6 s=true):x∈jR s but s.cores.toNat↔cS s x=true∧¬x∈but:=by
  unfold jR u5
  rw [List.mem_filter]
  constructor
  · rintro ⟨_,h⟩
    simpa using h
  · rintro ⟨h1,h2⟩
    have hr:=a9p hm h1
    refine ⟨List.mem_map.2 ⟨x.toNat,List.mem_range.2 (om),om⟩,by simp [h1,h2]⟩
theorem d2u {s:SSet} (hm:d6 s=true) (h:(jR s [] s.cores.toNat).length=0) (x:Int):cS s x=false:=by
  cases e:cS s x with
  |false=>rfl
  |true=>
   have:=(a9q (but:=[]) hm).2 ⟨e,by simp⟩
   rw [List.length_eq_zero_iff.1 h] at this
   cases this
theorem b2r (s:SSet) (x:Int):cS (mC s) x=false:=by unfold cS mC;simp
theorem d2v {s:SSet} {y:Int} (hm:d6 s=true) (h0:0≤y) (h1:y<s.cores):cS (dH s y) y=true∧∀ x,cS s x=true→cS (dH s y) x=true:=by
  have hE:pM s y=0:=by unfold pM;rw [if_pos hm,if_neg (om)]
  unfold dH
  rw [if_pos hE]
  split
  · rename_i h;exact ⟨h,fun _ h=>h⟩
  · rename_i hn
    split
    · refine ⟨?_,fun x hx=>?_⟩
      · unfold cS;simp;exact ⟨h0,h1⟩
      · have:=a9p hm hx
        unfold cS;simp;exact this
    · have ha:s.all=false:=by
        cases e:s.all with
        |false=>rfl
        |true=>
         have:cS s y=true:=by unfold cS;rw [e];simp;exact ⟨h0,h1⟩
         exact absurd this hn
      have hi:∀ x,x∈b5q y s.ps↔x=y∨x∈s.ps:=fun x=>by
        unfold b5q
        rw [List.mem_append,List.mem_cons]
        have:=List.take_append_drop (a0l s.ps y) s.ps
        conv=>rhs;rw [←this,List.mem_append]
        constructor
        · rintro (g|g|g)
          · exact .inr (.inl g)
          · exact .inl g
          · exact .inr (.inr g)
        · rintro (g|g|g)
          · exact .inr (.inl g)
          · exact .inl g
          · exact .inr (.inr g)
      refine ⟨?_,fun x hx=>?_⟩
      · unfold cS;rw [if_neg (by simp [ha])];exact decide_eq_true ((hi y).2 (.inl rfl))
      · unfold cS at hx ⊢
        rw [if_neg (by simp [ha])] at hx
        rw [if_neg (by simp [ha])]
        exact decide_eq_true ((hi x).2 (.inr (of_decide_eq_true hx)))
section
variable {c:Cfg} {n:Nat} {s:MaS}
theorem d2w {d L:Int} {x':HomS} (h:c4u c s) (hl:MaL c n s) (hd:0≤d∧d<c.homes)
    (hoth:∀ line,line≠L→aR x' line=aR (bU s d) line∧aJ c x'.ms line=aJ c (bU s d).ms line∧oC line x'.q=oC line (bU s d).q∧oP line x'.q=oP line (bU s d).q∧gZ line x'.q=gZ line (bU s d).q)
    (hL:aL c L=true→LI (fA c s L)→LI (fA c (dU s d x') L)):c4u c (dU s d x'):=by
  intro line hline
  obtain ⟨hLI,hNF⟩:=h line hline
  have hN:NF (fA c (dU s d x') line):=hNF
  refine ⟨?_,hN⟩
  by_cases hx:line=L
  · subst hx;exact hL hline hLI
  · have hH:=b2e (x:=x') hl hd hline
    obtain ⟨o1,o2,o3,o4,o5⟩:=hoth line hx
    have key:aR (aN c (dU s d x') line) line=aR (aN c s line) line∧aJ c (aN c (dU s d x') line).ms line=aJ c (aN c s line).ms line∧oC line (aN c (dU s d x') line).q=oC line (aN c s line).q∧oP line (aN c (dU s d x') line).q=oP line (aN c s line).q∧gZ line (aN c (dU s d x') line).q=gZ line (aN c s line).q:=by
      rw [hH]
      by_cases hd2:cU c line=d
      · rw [if_pos hd2]
        have e:aN c s line=bU s d:=by unfold aN;rw [hd2]
        rw [e];exact ⟨o1,o2,o3,o4,o5⟩
      · rw [if_neg hd2];exact ⟨rfl,rfl,rfl,rfl,rfl⟩
    obtain ⟨k1,k2,k3,k4,k5⟩:=key
    refine rU hLI (fun _=>rfl) (fun _ _=>rfl) (fun _=>rfl) (fun _=>rfl) ?_ ?_ k5 ?_ (fun r=>?_) k2 rfl
    · show ((b8q line s.n.l0++oC line (aN c (dU s d x') line).q).map qM).Perm _
      rw [k3];exact List.Perm.refl _
    · show ((b8q line (s.n.l1++s.n.l2)++oP line (aN c (dU s d x') line).q).map qM).Perm _
      rw [k4];exact List.Perm.refl _
    · show (aR (aN c (dU s d x') line) line).o=_;rw [k1];rfl
    · show cS (aR (aN c (dU s d x') line) line).s r=_;rw [k1];rfl
end
end
end Go.Sx
