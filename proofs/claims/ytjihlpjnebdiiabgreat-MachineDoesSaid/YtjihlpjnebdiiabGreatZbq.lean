/- MdL, MdR: several of my texts as one. My own work. -/
import Derived.Test.YtjihlpjnebdiiabGreatZbo
import Derived.Test.YtjihlpjnebdiiabGreatZbp
set_option linter.unusedVariables false
set_option linter.unusedSectionVars false
set_option linter.unusedSimpArgs false
set_option maxRecDepth 100000
set_option maxHeartbeats 4000000
namespace Go.Sx
open Go Go.Proofs Tryz
section
attribute [local irreducible] Exit.then Exit.inBlock Code.wp WC WO WE WQ V aW dL Sat bz bK dU IntKind.wrap WR Code.rounds WT KO
theorem nX {Q P:Prop} (k:Q) (h:Hid Q→P:=by
  intro k
  first
  |(refine an ?_;refine bF (id:=14) (.only [5,22]) (pl:= .p 0 <| .p 1 <| .p 2 <| .p 3 <| .p 6 <| .p 7 <| .p 8 <| .p 9 <| .p 10 <| .p 12 <| .p 13 <| .p 14 <| .p 15 <| .p 17 <| .p 18 <| .p 19 <| .p 20 <| .r 4 <| .e true [(5,.n [22] <| .r 11 <| .r 16 <| .r 21 <| .e true [(22,.n [] <| .p 23 <| .p 24 <| .p 26 <| .p 27 <| .r 25 <| .e true [(28,.p 29 <| .p 30 <| .done)])]),(11,.e true [(5,.n [22] <| .r 16 <| .r 21 <| .e true [(22,.n [] <| .p 23 <| .p 24 <| .p 26 <| .p 27 <| .r 25 <| .e true [(28,.p 29 <| .p 30 <| .done)])]),(16,.e true [(5,.n [22] <| .r 21 <| .e true [(22,.n [] <| .p 23 <| .p 24 <| .p 26 <| .p 27 <| .r 25 <| .e true [(28,.p 29 <| .p 30 <| .done)])]),(21,.e true [(5,.n [22] <| .e true [(22,.n [] <| .p 23 <| .p 24 <| .p 26 <| .p 27 <| .r 25 <| .e true [(28,.p 29 <| .p 30 <| .done)])])])]),(21,.e true [(5,.n [22] <| .r 16 <| .e true [(22,.n [] <| .p 23 <| .p 24 <| .p 26 <| .p 27 <| .r 25 <| .e true [(28,.p 29 <| .p 30 <| .done)])]),(16,.e true [(5,.n [22] <| .e true [(22,.n [] <| .p 23 <| .p 24 <| .p 26 <| .p 27 <| .r 25 <| .e true [(28,.p 29 <| .p 30 <| .done)])])])])]),(16,.e true [(5,.n [22] <| .r 11 <| .r 21 <| .e true [(22,.n [] <| .p 23 <| .p 24 <| .p 26 <| .p 27 <| .r 25 <| .e true [(28,.p 29 <| .p 30 <| .done)])]),(11,.e true [(5,.n [22] <| .r 21 <| .e true [(22,.n [] <| .p 23 <| .p 24 <| .p 26 <| .p 27 <| .r 25 <| .e true [(28,.p 29 <| .p 30 <| .done)])]),(21,.e true [(5,.n [22] <| .e true [(22,.n [] <| .p 23 <| .p 24 <| .p 26 <| .p 27 <| .r 25 <| .e true [(28,.p 29 <| .p 30 <| .done)])])])]),(21,.e true [(5,.n [22] <| .r 11 <| .e true [(22,.n [] <| .p 23 <| .p 24 <| .p 26 <| .p 27 <| .r 25 <| .e true [(28,.p 29 <| .p 30 <| .done)])]),(11,.e true [(5,.n [22] <| .e true [(22,.n [] <| .p 23 <| .p 24 <| .p 26 <| .p 27 <| .r 25 <| .e true [(28,.p 29 <| .p 30 <| .done)])])])])]),(21,.e true [(5,.n [22] <| .r 11 <| .r 16 <| .e true [(22,.n [] <| .p 23 <| .p 24 <| .p 26 <| .p 27 <| .r 25 <| .e true [(28,.p 29 <| .p 30 <| .done)])]),(11,.e true [(5,.n [22] <| .r 16 <| .e true [(22,.n [] <| .p 23 <| .p 24 <| .p 26 <| .p 27 <| .r 25 <| .e true [(28,.p 29 <| .p 30 <| .done)])]),(16,.e true [(5,.n [22] <| .e true [(22,.n [] <| .p 23 <| .p 24 <| .p 26 <| .p 27 <| .r 25 <| .e true [(28,.p 29 <| .p 30 <| .done)])])])]),(16,.e true [(5,.n [22] <| .r 11 <| .e true [(22,.n [] <| .p 23 <| .p 24 <| .p 26 <| .p 27 <| .r 25 <| .e true [(28,.p 29 <| .p 30 <| .done)])]),(11,.e true [(5,.n [22] <| .e true [(22,.n [] <| .p 23 <| .p 24 <| .p 26 <| .p 27 <| .r 25 <| .e true [(28,.p 29 <| .p 30 <| .done)])])])])])]) k.out)):P:=h ⟨k⟩
theorem I0 {W:World} {F:List HP} {c:au} {ps:List tP} {pu pv:Option Addr} {cu cv:Nat} {l:List Pk} (hc:c.wf) [k:wb W 3 (.slice pv l.length cv) l.length (aj Py l)] (hl:l.length≤1000000000000000) (Y7:∀ p∈l,Pk.wf p) [kp:wb W 1 (.slice pu ps.length cu) ps.length (aj Am ps)] (hp:ps.length≤1000000000000000) (hn:∀ p∈ps,p.1.length≤1000000000000000) (kr:EW W ps) :
    az prog 5 [c.val,.slice pu ps.length cu,.slice pv l.length cv] [Cs W] F (fun r L'=>r= .bool true∧L'=[Cs W]):=by
  have hL:=fun F (kp:bN F 1 (.slice pu ps.length cu) ps.length (aj Am ps))=>Lz (F:=F) (c:=c) (ps:=ps) (k:=l.length) kp hp hn;haveI:=kr.rd;refine ay func5 ntmps5 ?_;cases Hg:wR c (ps.map (·.1)) l.length with
  |true=>
   rw [Hg] at hL;repeat first|refine go ?_|intro _|refine nX ?_|refine av ?_|refine ae @uW ?_|refine ae @hL ?_
   exact aM
  |false=>
   rw [Hg] at hL;obtain ⟨_,_,U7,LY,hlen⟩:=IW Hg;have qJ:∀ p∈ps,p.1.length≤1099511627776:=fun p h=>by have:=Oz (List.mem_map_of_mem (f:=(·.1)) h);omega
   cases cO:sM c (ps.map (·.1)) with
   |false=>
    have hN:=fun F (kp:bN F 1 (.slice pu ps.length cu) ps.length (aj Am ps)) (kr:sN F ps)=>Du (F:=F) hc kp kr qJ cO;have hR:=fun F (kp:bN F 1 (.slice pu ps.length cu) ps.length (aj Am ps)) (kr:sN F ps)=>LH (F:=F) hc kp kr qJ cO;repeat first|refine go ?_|intro _|refine nX ?_|refine av ?_|refine ae @uW ?_|refine ae @hL ?_|refine ae @hN ?_|refine ae @hR ?_
    refine vn 1 ?_;repeat first|refine go ?_|intro _|refine nX ?_|refine av ?_
    exact aM
   |true=>
    have hN:=fun F (kp:bN F 1 (.slice pu ps.length cu) ps.length (aj Am ps)) (kr:sN F ps)=>MZ (F:=F) hc kp kr cO;have hR:=fun F (kp:bN F 1 (.slice pu ps.length cu) ps.length (aj Am ps)) (kr:sN F ps)=>T9 (F:=F) hc kp kr cO;repeat first|refine go ?_|intro _|refine nX ?_|refine av ?_|refine ae @uW ?_|refine ae @hL ?_|refine ae @hN ?_|refine ae @hR ?_
    rename_i b3 bm br;(first|refine aD (I8 bm c (cx c (ps.map (·.1)))) ?_|refine aE (I8 bm c (cx c (ps.map (·.1)))) ?_|refine aF (I8 bm c (cx c (ps.map (·.1)))) ?_);first|refine Dt fun x=>?_|refine Ow fun x=>?_
    (first|refine aD (dj bm c (cx c (x9 ps)) x) ?_|refine aE (dj bm c (cx c (x9 ps)) x) ?_|refine aF (dj bm c (cx c (x9 ps)) x) ?_);first|refine Dx fun hx=>?_|refine AZ fun hx=>?_
    (first|refine aD (PO br c (cx c (ps.map (·.1)))) ?_|refine aE (PO br c (cx c (ps.map (·.1)))) ?_|refine aF (PO br c (cx c (ps.map (·.1)))) ?_);first|refine LC fun y=>?_|refine OF fun y=>?_
    (first|refine aD (fy br c (cx c (x9 ps)) y) ?_|refine aE (fy br c (cx c (x9 ps)) y) ?_|refine aF (fy br c (cx c (x9 ps)) y) ?_);first|refine LD fun hy=>?_|refine FU fun hy=>?_
    have Sy:=fun F=>Hw (F:=F) (b:=bm) hx;repeat first|refine go ?_|intro _|refine nX ?_|refine av ?_|refine ae @Sy ?_
    apply aO (E0:=[(2,_),(3,_),(7,_),(9,_)]) (fun E0 (q:Nat×(Option Addr×Nat)×(Option Addr×Nat))=>(11,.int .i64 q.1)::E0) (fun q=>dj bm c (dh c (cx c (x9 ps)) (l.take q.1)) { x with pt:=q.2.1}::fy br c (dh c (cx c (x9 ps)) (l.take q.1)) { y with pt:=q.2.2}::ao b3 25 c.cells::Cs W::F) (fun q=>q.1≤l.length) (fun q=>l.length-q.1) (0,x.pt,y.pt)
    ·exact bH
    ·exact Nat.zero_le _
    ·show ai _ (dj bm c (cx c (x9 ps)) x::fy br c (cx c (x9 ps)) y::_::Cs W::F);exact af
    ·rintro ⟨i,pt,Xq⟩ hi;dsimp only at hi ⊢;(first|refine aD (fy br c (dh c (cx c (x9 ps)) (l.take i)) { y with pt:=Xq}) ?_|refine aE (fy br c (dh c (cx c (x9 ps)) (l.take i)) { y with pt:=Xq}) ?_|refine aF (fy br c (dh c (cx c (x9 ps)) (l.take i)) { y with pt:=Xq}) ?_);refine FU fun hy=>?_;(first|refine aD (dj bm c (dh c (cx c (x9 ps)) (l.take i)) { x with pt:=pt}) ?_|refine aE (dj bm c (dh c (cx c (x9 ps)) (l.take i)) { x with pt:=pt}) ?_|refine aF (dj bm c (dh c (cx c (x9 ps)) (l.take i)) { x with pt:=pt}) ?_);refine AZ fun hx=>?_;by_cases bB:i<l.length
     ·have VH:=DO cO l (i+1) bB;have ht1:=Hy cO l (i+1) bB;have hF:∀ (z:fP) rr,gG c (dh c (cx c (x9 ps)) (l.take i)) z→gG c (dh c (cx c (x9 ps)) (l.take (i+1))) { z with pt:=rr}:=fun z rr hz=>by
        have h0:=DO cO l i (om);obtain ⟨⟨a1,a2,a3⟩,⟨b1,b2,b3⟩,a5⟩:=hz;have e1:((dh c (cx c (x9 ps)) (l.take (i+1))).ks.length:Int)=c.ax:=VH.lk;have e2:((dh c (cx c (x9 ps)) (l.take (i+1))).cs.length:Int)=c.ax:=VH.la;have e3:((dh c (cx c (x9 ps)) (l.take (i+1))).hs.length:Int)=c.bY:=VH.lh;exact ⟨⟨by dsimp only;omega,by dsimp only;omega,by dsimp only;omega⟩,⟨b1,b2,b3⟩,a5⟩
      have hP:=fun F=>G3 (F:=F) (b:=bm) hc cO (om) Y7 bB hx;have hQ:=fun F=>IZ (F:=F) (b:=br) hc cO (om) Y7 bB hy;have hS:=fun F pt1 E2=>IX (F:=F) (b:=bm) (br:=br) hc VH (om) (om) (hF _ pt1 hx) (hF _ E2 hy);generalize dH c (dh c (cx c (ps.map (·.1))) (l.take i)) l[i]=did at hP hQ;(first|(refine aX (.slice pv l.length cv) inferInstance (om) ?_;intro _)|(refine aY (.slice pv l.length cv) inferInstance (om) ?_;intro _));repeat' (first|refine go ?_|intro _|refine nX ?_|refine av ?_|refine ae @hP ?_|refine ae @hQ ?_|refine ae @hS ?_|refine bj ?_ ?_|fail)
      all_goals rename_i E2 pu3
      all_goals refine aC (i+1,E2,pu3) (by dsimp only;omega) (by dsimp only;omega) ?_ ?_
      all_goals first|(exact bH;done)|exact af
     ·repeat first|refine go ?_|intro _|refine nX ?_|refine av ?_
      exact aM
end
section
open Go Go.Proofs Go.ChangeShapes Go.WideShapes
theorem H2 {W:World} {F:List HP} {c:au} {ps:List tP} {u v:Value} {l:List Pk} (hc:c.wf) (hp:∀ p∈ps,tP.ok W p) (hl:∀ p∈l,Pk.wf p) (kp:wb W 1 u ps.length (aj Am ps)) (bp:ps.length*prog.bytesOf 89≤reachBytes) (k:wb W 3 v l.length (aj Py l)) (bl:l.length*prog.bytesOf 39≤reachBytes) :
    az prog 5 [c.val,u,v] [Cs W] F (fun r L'=>r= .bool true∧L'=[Cs W]):=
  Wq hp kp bp k bl fun pu pv cu cv a b d e g h=>I0 hc b hl e g h
end
end Go.Sx
