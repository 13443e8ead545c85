/- FaL, FaLs: several of my texts as one. My own work. -/
import Derived.Test.YtjihlpjnebdiiaaGreatZbc
set_option linter.unusedVariables false
set_option linter.unusedSectionVars false
set_option linter.unusedSimpArgs false
set_option maxRecDepth 100000
set_option maxHeartbeats 4000000
namespace Go.Sx
open Go Go.Proofs
section
theorem d5e (ps:List (List Op3)):iP (fun l:List Op3=>l.length) ps=rL ps:=rfl
theorem e7a {c:Cfg} {ps:List (List Op3)} (hok:nE c ps=true) (ht:rL ps≤80) (h8:¬(8<c.cores∧c.cores≤64)):0≤eQ c ps∧eQ c ps≤10000:=by
  have hck:aF c=true:=by
    have:=hok
    simp only [nE,Bool.and_eq_true] at this
    exact this.1.1
  have hcc:=(bG hck).1
  unfold eQ
  rw [if_pos hok,d5e]
  have h1:0≤(rL ps:Int)*(6*c.cores+32):=Int.mul_nonneg (om) (om)
  have h2:(rL ps:Int)*(6*c.cores+32)≤80*80:=Int.mul_le_mul (om) (om) (om) (om)
  omega
theorem e8z {c:Cfg} {ps:List (List Op3)} {s:MaS} (h:Mi c ps s):d2e c s=false:=by
  unfold d2e
  cases hq:bR s with
  |true=>rfl
  |false=>
   have:¬(rd c s 0).2=0:=fun e=>by rw [b0m h (om) e] at hq;cases hq
   rw [decide_eq_false this];rfl
attribute [local irreducible] Exit.then Exit.inBlock Code.wp WC WO WE WQ V bT vL fP cY eI v8 IntKind.wrap WR Code.rounds WT KO
theorem lV {Q P:Prop} (k:Q) (h:Hid Q→P:=by
  intro k
  first
  |(refine aI ?_;refine uU (id:=13) (.only [4,5]) (pl:= .p 0 <| .p 3 <| .r 2 <| .e true [(1,.e true [(4,.n [5] <| .e true [(5,.n [] <| .p 6 <| .p 7 <| .p 8 <| .p 9 <| .p 10 <| .done)])]),(4,.n [5] <| .r 1 <| .e true [(5,.n [] <| .p 6 <| .p 7 <| .p 8 <| .p 9 <| .p 10 <| .done)])]) k.out)
  |(refine aI ?_;refine uU (id:=24) (.only []) (pl:= .p 1 <| .p 2 <| .r 0 <| .e true [(3,.e true [(4,.p 5 <| .p 6 <| .p 7 <| .p 8 <| .p 9 <| .done)])]) k.out)):P:=h ⟨k⟩
theorem c3k {W:World} {F:List HP} {c:Cfg} {ps:List PrQ} {pu pv:Option Addr} {cu cv:Nat} {l:List Pk} (hc:c.wf) [k:ROld W 3 (.slice pv l.length cv) l.length (aC e6l l)] (hl:l.length≤1000000000000000) (hpk:∀ p∈l,Pk.wf p) [kp:ROld W 1 (.slice pu ps.length cu) ps.length (aC b6n ps)] (hp:ps.length≤1000000000000000) (hn:∀ p∈ps,p.1.length≤1000000000000000) (kr:OldPs W ps) :
    FnF Tryz.prog 13 [c.val,.slice pu ps.length cu,.slice pv l.length cv] [Old W] F (fun r L'=>r= .bool true∧L'=[Old W]):=by
  have hL:=fun F (kp:RdL F 1 (.slice pu ps.length cu) ps.length (aC b6n ps))=>a3n (F:=F) (c:=c) (ps:=ps) (k:=l.length) kp hp hn
  haveI:=kr.rd
  refine FnF.mk' Tryz.func13 rfl rfl Tryz.ntmps13 rfl ?_
  cases hla:u9 c (ps.map (·.1)) l.length with
  |true=>
   rw [hla] at hL
   repeat first|refine go ?_|intro _|refine lV ?_|refine dM ?_|refine aD @gB ?_|refine aD @hL ?_
   exact bF
  |false=>
   rw [hla] at hL
   obtain ⟨hl8,_,htot,hps,hlen⟩:=z7 hla
   have hn2:∀ p∈ps,p.1.length≤1099511627776:=fun p h=>by have:=b0p (List.mem_map_of_mem (f:=(·.1)) h);omega
   cases hok:nE c (ps.map (·.1)) with
   |false=>
    have hN:=fun F (kp:RdL F 1 (.slice pu ps.length cu) ps.length (aC b6n ps)) (kr:RdPr F ps)=>a3v (F:=F) hc kp kr hn2 hok
    have hB:=fun F (kp:RdL F 1 (.slice pu ps.length cu) ps.length (aC b6n ps)) (kr:RdPr F ps)=>xL (F:=F) hc kp kr hn2
    have hb0:eQ c (ps.map (·.1))=0:=by unfold eQ;rw [if_neg (by rw [hok];simp)]
    rw [hb0] at hB
    repeat first|refine go ?_|intro _|refine lV ?_|refine dM ?_|refine aD @gB ?_|refine aD @hL ?_|refine aD @hN ?_|refine aD @hB ?_
    exact bF
   |true=>
    have hN:=fun F (kp:RdL F 1 (.slice pu ps.length cu) ps.length (aC b6n ps)) (kr:RdPr F ps)=>b7t (F:=F) hc kp kr hok
    have hck:aF c=true:=by
      have:=hok
      simp only [nE,Bool.and_eq_true] at this
      exact this.1.1
    have hcc:=(bG hck).1
    have hww:=dF hck
    have hB:=fun F (kp:RdL F 1 (.slice pu ps.length cu) ps.length (aC b6n ps)) (kr:RdPr F ps)=>xL (F:=F) hc kp kr hn2
    have hbd:=e7a hok htot (om)
    have hbe:=a0t hok l
    repeat first|refine go ?_|intro _|refine lV ?_|refine dM ?_|refine aD @gB ?_|refine aD @hL ?_|refine aD @hN ?_
    rename_i b3 bm
    (first|refine aX (e0r bm c (bK c (ps.map (·.1)))) ?_|refine aY (e0r bm c (bK c (ps.map (·.1)))) ?_|refine aZ (e0r bm c (bK c (ps.map (·.1)))) ?_)
    first|refine x9 fun x=>?_|refine b1e fun x=>?_
    apply aW (E0:=[(1,_),(3,_),(7,_),(37,_),(38,_)]) (fun E0 (q:Nat×(Option Addr×Nat))=>(39,.int .i64 q.1)::E0) (fun q=>i9 bm c (cM c (bK c (d5v ps)) (l.take q.1)) { x with pt:=q.2}::Cells b3 24 c.cells::Old W::F) (fun q=>q.1≤l.length) (fun q=>l.length-q.1) (0,x.pt)
    · exact m9
    · exact Nat.zero_le _
    · show Ent _ (i9 bm c (bK c (d5v ps)) x::_::Old W::F)
      exact aB
    · rintro ⟨i,pt⟩ hi
      dsimp only at hi ⊢
      (first|refine aX (i9 bm c (cM c (bK c (d5v ps)) (l.take i)) { x with pt:=pt}) ?_|refine aY (i9 bm c (cM c (bK c (d5v ps)) (l.take i)) { x with pt:=pt}) ?_|refine aZ (i9 bm c (cM c (bK c (d5v ps)) (l.take i)) { x with pt:=pt}) ?_)
      refine a1y fun hx=>?_
      by_cases hlt:i<l.length
      · have hP:=fun F=>z8 (F:=F) (b:=bm) hc hok (om) hpk hlt hx
        repeat first|refine go ?_|intro _|refine lV ?_|refine dM ?_|refine aD @hP ?_
        rename_i pt2
        refine aT (i+1,pt2) (by dsimp only;omega) (by dsimp only;omega) ?_ ?_
        · exact m9
        · exact aB
      · have hil:i=l.length:=by omega
        have hI:=c5s hok l i hi
        have hMi:=(Mi.new hok).picks (l.take i)
        have htk:l.take i=l:=by rw [hil,List.take_length]
        rw [←htk] at hbe
        generalize hs:cM c (bK c (d5v ps)) (l.take i)=s at *
        generalize { x with pt:=pt}=x at *
        obtain ⟨hM2,hle,_⟩:=e0g (eQ c (ps.map (·.1))).toNat 0 hMi
        obtain ⟨hF2,_⟩:=hI.rn (eQ c (ps.map (·.1))).toNat 0
        have hR:=fun F=>c5r (F:=F) (b:=bm) (most:=eQ c (ps.map (·.1))) hc hI (om) hbd.2 hx
        have hbq:bR (rn c (eQ c (ps.map (·.1))).toNat s 0).1=true:=hbe
        rw [hbq] at hR
        have hxr:=fun pt=>hF2.maf hx pt
        generalize hfb:eQ c (ps.map (·.1))=B at *
        generalize rn c B.toNat s 0=T at *
        obtain ⟨s2,n2⟩:=T
        dsimp only at hM2 hle hF2 hR hbq hxr
        repeat' (first|refine go ?_|intro _|refine lV ?_|refine dM ?_|refine aD @hB ?_|refine aD @hR ?_|apply zL|fail)
        all_goals
          rename_i pt2
          have hx2:=hxr pt2
          obtain ⟨q1,q2,q3,q4⟩:=oM hbq
          have hpc:(ps.length:Int)=c.cores:=by
            have:=hok
            simp only [nE,Bool.and_eq_true,decide_eq_true_eq,List.length_map] at this
            exact this.1.2
          have hkb:(x.kb.length:Int)=c.cores:=hx.2.1.1
          have htr:s2.tr.length=rL (ps.map (·.1)):=e9s hM2 hbq
          obtain ⟨e1,e2⟩:=e2c hok hF2.1
          apply aW (E0:=[(1,_),(3,_),(7,_),(65,_),(66,_)]) (fun E0 (j:Nat)=>(67,.int .i64 j)::(13,.int .i64 (rL ((ps.take j).map (·.1)):Nat))::E0) (fun _=>i9 bm c s2 { x with pt:=pt2}::Cells b3 24 c.cells::Old W::F) (fun j=>j≤ps.length) (fun j=>ps.length-j) 0
          · exact m9
          · exact Nat.zero_le _
          · exact aB
          · rintro j hj
            by_cases hjl:j<ps.length
            · haveI krk:=c4s (kr.rd F) hjl
              have hLf:=fun F=>c8a (F:=F) (b:=bm) (i:=j) (by show j<x.kb.length;omega) hx2
              rw [show lF (s2.ks.getD j coZ)=0 from nN (P:=fun k:CoS=>lF k=0) q2 rfl] at hLf
              have hst:=b3t hjl
              have hle:=c7q (ps:=ps) (j+1)
              generalize rL ((ps.take j).map (·.1))=a1 at *
              (first|(refine fJ (.slice pu ps.length cu) inferInstance (om) ?_;intro _)|(refine fM (.slice pu ps.length cu) inferInstance (om) ?_;intro _))
              repeat first|refine go ?_|intro _|refine lV ?_|refine dM ?_|refine aD @hLf ?_
              refine aT (j+1) (om) (om) ?_ ?_
              · rw [hst]
                exact m9
              · exact aB
            · have hjl:j=ps.length:=by omega
              subst hjl
              rw [List.take_length]
              rw [←htr]
              have hT:=fun F=>c1c (F:=F) (b:=bm) hx2 (by have:=hF2.2;omega)
              have hC:=fun F p d (k:RdL F 6 (.slice p s2.tr.length d) s2.tr.length (aC e0q s2.tr)) (kp:RdL F 1 (.slice pu ps.length cu) ps.length (aC b6n ps)) (kr:RdPr F ps)=>d3o (F:=F) (c:=c) hc k (om) kp kr
              rw [e1,e2] at hC
              repeat' (first|refine go ?_|intro _|refine lV ?_|refine dM ?_|refine aD @hT ?_|refine aD @hC ?_|apply zL|fail)
              all_goals exact bF
theorem b8m {W:World} {F:List HP} {c:Cfg} {ps:List PrQ} {pu pv:Option Addr} {cu cv:Nat} {l:List Pk} {r:Int} (hc:c.wf) (hr:nA r) [k:ROld W 3 (.slice pv l.length cv) l.length (aC e6l l)] (hl:l.length≤1000000000000000) (hpk:∀ p∈l,Pk.wf p) [kp:ROld W 1 (.slice pu ps.length cu) ps.length (aC b6n ps)] (hp:ps.length≤1000000000000000) (hn:∀ p∈ps,p.1.length≤1000000000000000) (kr:OldPs W ps) :
    FnF Tryz.prog 12 [c.val,.slice pu ps.length cu,.slice pv l.length cv,.int .i64 r] [Old W] F (fun r L'=>r= .bool true∧L'=[Old W]):=by
  have hL:=fun F (kp:RdL F 1 (.slice pu ps.length cu) ps.length (aC b6n ps))=>a3n (F:=F) (c:=c) (ps:=ps) (k:=l.length) kp hp hn
  haveI:=kr.rd
  refine FnF.mk' Tryz.func12 rfl rfl Tryz.ntmps12 rfl ?_
  cases hla:u9 c (ps.map (·.1)) l.length with
  |true=>
   rw [hla] at hL
   repeat first|refine gd ?_|intro _|refine aD @gB ?_|refine aD @hL ?_
   exact bF
  |false=>
   rw [hla] at hL
   obtain ⟨hl8,_,htot,hps,hlen⟩:=z7 hla
   have hn2:∀ p∈ps,p.1.length≤1099511627776:=fun p h=>by have:=b0p (List.mem_map_of_mem (f:=(·.1)) h);omega
   by_cases hr40:r>40
   · repeat first|refine gd ?_|intro _|refine aD @gB ?_|refine aD @hL ?_
     exact bF
   cases hok:nE c (ps.map (·.1)) with
   |false=>
    have hN:=fun F (kp:RdL F 1 (.slice pu ps.length cu) ps.length (aC b6n ps)) (kr:RdPr F ps)=>a3v (F:=F) hc kp kr hn2 hok
    repeat first|refine gd ?_|intro _|refine aD @gB ?_|refine aD @hL ?_|refine aD @hN ?_
    exact bF
   |true=>
    have hN:=fun F (kp:RdL F 1 (.slice pu ps.length cu) ps.length (aC b6n ps)) (kr:RdPr F ps)=>b7t (F:=F) hc kp kr hok
    have hck:aF c=true:=by
      have:=hok
      simp only [nE,Bool.and_eq_true] at this
      exact this.1.1
    have hcc:=(bG hck).1
    have hww:=dF hck
    repeat first|refine gd ?_|intro _|refine aD @gB ?_|refine aD @hL ?_|refine aD @hN ?_
    rename_i b3 bm
    (first|refine aX (e0r bm c (bK c (ps.map (·.1)))) ?_|refine aY (e0r bm c (bK c (ps.map (·.1)))) ?_|refine aZ (e0r bm c (bK c (ps.map (·.1)))) ?_)
    first|refine x9 fun x=>?_|refine b1e fun x=>?_
    apply aW (E0:=[(3,_),(4,_),(9,_),(35,_),(36,_)]) (fun E0 (q:Nat×(Option Addr×Nat))=>(37,.int .i64 q.1)::E0) (fun q=>i9 bm c (cM c (bK c (d5v ps)) (l.take q.1)) { x with pt:=q.2}::Cells b3 24 c.cells::Old W::F) (fun q=>q.1≤l.length) (fun q=>l.length-q.1) (0,x.pt)
    · exact m9
    · exact Nat.zero_le _
    · show Ent _ (i9 bm c (bK c (d5v ps)) x::_::Old W::F)
      exact aB
    · rintro ⟨i,pt⟩ hi
      dsimp only at hi ⊢
      (first|refine aX (i9 bm c (cM c (bK c (d5v ps)) (l.take i)) { x with pt:=pt}) ?_|refine aY (i9 bm c (cM c (bK c (d5v ps)) (l.take i)) { x with pt:=pt}) ?_|refine aZ (i9 bm c (cM c (bK c (d5v ps)) (l.take i)) { x with pt:=pt}) ?_)
      refine a1y fun hx=>?_
      by_cases hlt:i<l.length
      · have hP:=fun F=>z8 (F:=F) (b:=bm) hc hok (om) hpk hlt hx
        repeat first|refine gd ?_|intro _|refine aD @hP ?_
        rename_i pt2
        refine aT (i+1,pt2) (by dsimp only;omega) (by dsimp only;omega) ?_ ?_
        · exact m9
        · exact aB
      · have hil:i=l.length:=by omega
        have hI:=c5s hok l i hi
        have hMi:=(Mi.new hok).picks (l.take i)
        generalize hs:cM c (bK c (d5v ps)) (l.take i)=s at *
        generalize { x with pt:=pt}=x at *
        repeat first|refine gd ?_|intro _
        apply aW (E0:=[(3,_),(4,_),(9,_)]) (fun E0 (q:Nat×MaS×(Option Addr×Nat))=>(13,.int .i64 q.1)::E0) (fun q=>i9 bm c q.2.1 { x with pt:=q.2.2}::Cells b3 24 c.cells::Old W::F) (fun q=>q.1≤r.toNat∧Mi c (d5v ps) q.2.1∧Fn c (d5v ps) (i+2000*q.1) q.2.1) (fun q=>r.toNat-q.1) (0,s,x.pt)
        · exact m9
        · exact ⟨Nat.zero_le _,hMi,hI⟩
        · dsimp only;exact aB
        · rintro ⟨j,s1,pt1⟩ ⟨hj,hM1,hF1⟩
          dsimp only at hj hM1 hF1 ⊢
          have hx1:=hF1.maf hx pt1
          by_cases hjr:(j:Int)<r
          · have hQ:=fun F=>b0v (F:=F) (b:=bm) hx1 hF1.ks
            have hR:=fun F=>a1t (F:=F) (b:=bm) (w:=(j:Int)) hc (om) (by unfold nA;omega) hF1 (om) hx1
            obtain ⟨hF2,hd2⟩:=hF1.rd (j:Int)
            have hM2:=(e0f hM1 (j:Int)).1
            have hiff:=e9r hM1 (w:=(j:Int)) (om)
            have hne:¬(decide (((rd c s1 (j:Int)).2:Int)=0)≠bR s1):=fun h=>h (by
              cases hq:bR s1 with
              |true=>exact decide_eq_true (by have:=hiff.2 hq;omega)
              |false=>exact decide_eq_false (fun e=>by have:=hiff.1 (om);rw [hq] at this;cases this))
            repeat first|refine gd ?_|intro _|refine aD @hQ ?_|refine aD @hR ?_
            rename_i pt2
            refine aT (j+1,(rd c s1 (j:Int)).1,pt2) (by dsimp only;omega) ⟨by dsimp only;omega,hM2,by
              have e:i+2000*(j+1)=i+2000*j+2000:=by omega
              show Fn c (d5v ps) (i+2000*(j+1)) _
              rw [e];exact hF2⟩ ?_ ?_
            · exact m9
            · dsimp only;exact aB
          · have hS:=fun F=>b1b (F:=F) (b:=bm) hc hF1 (om) hx1
            rw [e8z hM1] at hS
            repeat first|refine gd ?_|intro _|refine aD @hS ?_
            exact bF
theorem kC {Q P:Prop} (k:Q) (h:Hid Q→P:=by
  intro k
  first
  |(refine aI ?_;refine uU (id:=13) (.only [4,5]) (pl:= .p 0 <| .p 3 <| .r 2 <| .e true [(1,.e true [(4,.n [5] <| .e true [(5,.n [] <| .done)])]),(4,.n [5] <| .r 1 <| .e true [(5,.n [] <| .done)])]) k.out)):P:=h ⟨k⟩
theorem b8n {W:World} {F:List HP} {c:Cfg} {ps:List PrQ} {pu pv:Option Addr} {cu cv:Nat} {l:List Pk} (hc:c.wf) [k:ROld W 3 (.slice pv l.length cv) l.length (aC e6l l)] (hl:l.length≤1000000000000000) (hpk:∀ p∈l,Pk.wf p) [kp:ROld W 1 (.slice pu ps.length cu) ps.length (aC b6n ps)] (hp:ps.length≤1000000000000000) (hn:∀ p∈ps,p.1.length≤1000000000000000) (kr:OldPs W ps) :
    FnF Tryz.prog 14 [c.val,.slice pu ps.length cu,.slice pv l.length cv] [Old W] F (fun r L'=>r= .bool true∧L'=[Old W]):=by
  have hL:=fun F (kp:RdL F 1 (.slice pu ps.length cu) ps.length (aC b6n ps))=>a3n (F:=F) (c:=c) (ps:=ps) (k:=l.length) kp hp hn
  haveI:=kr.rd
  refine FnF.mk' Tryz.func14 rfl rfl Tryz.ntmps14 rfl ?_
  cases hla:u9 c (ps.map (·.1)) l.length with
  |true=>
   rw [hla] at hL
   repeat first|refine go ?_|intro _|refine kC ?_|refine dM ?_|refine aD @gB ?_|refine aD @hL ?_
   exact bF
  |false=>
   rw [hla] at hL
   obtain ⟨hl8,_,htot,hps,hlen⟩:=z7 hla
   have hn2:∀ p∈ps,p.1.length≤1099511627776:=fun p h=>by have:=b0p (List.mem_map_of_mem (f:=(·.1)) h);omega
   cases hok:nE c (ps.map (·.1)) with
   |false=>
    have hN:=fun F (kp:RdL F 1 (.slice pu ps.length cu) ps.length (aC b6n ps)) (kr:RdPr F ps)=>a3v (F:=F) hc kp kr hn2 hok
    repeat first|refine go ?_|intro _|refine kC ?_|refine dM ?_|refine aD @gB ?_|refine aD @hL ?_|refine aD @hN ?_
    exact bF
   |true=>
    have hN:=fun F (kp:RdL F 1 (.slice pu ps.length cu) ps.length (aC b6n ps)) (kr:RdPr F ps)=>b7t (F:=F) hc kp kr hok
    have hck:aF c=true:=by
      have:=hok
      simp only [nE,Bool.and_eq_true] at this
      exact this.1.1
    have hcc:=(bG hck).1
    have hww:=dF hck
    have hB:=fun F (kp:RdL F 1 (.slice pu ps.length cu) ps.length (aC b6n ps)) (kr:RdPr F ps)=>xL (F:=F) hc kp kr hn2
    have hbd:=e7a hok htot (om)
    have hbe:=a0t hok l
    repeat first|refine go ?_|intro _|refine kC ?_|refine dM ?_|refine aD @gB ?_|refine aD @hL ?_|refine aD @hN ?_
    rename_i b3 bm
    (first|refine aX (e0r bm c (bK c (ps.map (·.1)))) ?_|refine aY (e0r bm c (bK c (ps.map (·.1)))) ?_|refine aZ (e0r bm c (bK c (ps.map (·.1)))) ?_)
    first|refine x9 fun x=>?_|refine b1e fun x=>?_
    apply aW (E0:=[(1,_),(3,_),(7,_),(30,_),(31,_)]) (fun E0 (q:Nat×(Option Addr×Nat))=>(32,.int .i64 q.1)::E0) (fun q=>i9 bm c (cM c (bK c (d5v ps)) (l.take q.1)) { x with pt:=q.2}::Cells b3 24 c.cells::Old W::F) (fun q=>q.1≤l.length) (fun q=>l.length-q.1) (0,x.pt)
    · exact m9
    · exact Nat.zero_le _
    · show Ent _ (i9 bm c (bK c (d5v ps)) x::_::Old W::F)
      exact aB
    · rintro ⟨i,pt⟩ hi
      dsimp only at hi ⊢
      (first|refine aX (i9 bm c (cM c (bK c (d5v ps)) (l.take i)) { x with pt:=pt}) ?_|refine aY (i9 bm c (cM c (bK c (d5v ps)) (l.take i)) { x with pt:=pt}) ?_|refine aZ (i9 bm c (cM c (bK c (d5v ps)) (l.take i)) { x with pt:=pt}) ?_)
      refine a1y fun hx=>?_
      by_cases hlt:i<l.length
      · have hP:=fun F=>z8 (F:=F) (b:=bm) hc hok (om) hpk hlt hx
        repeat first|refine go ?_|intro _|refine kC ?_|refine dM ?_|refine aD @hP ?_
        rename_i pt2
        refine aT (i+1,pt2) (by dsimp only;omega) (by dsimp only;omega) ?_ ?_
        · exact m9
        · exact aB
      · have hil:i=l.length:=by omega
        have hI:=c5s hok l i hi
        have hMi:=(Mi.new hok).picks (l.take i)
        have htk:l.take i=l:=by rw [hil,List.take_length]
        rw [←htk] at hbe
        generalize hs:cM c (bK c (d5v ps)) (l.take i)=s at *
        generalize { x with pt:=pt}=x at *
        obtain ⟨hM2,hle,_⟩:=e0g (eQ c (ps.map (·.1))).toNat 0 hMi
        obtain ⟨hF2,_⟩:=hI.rn (eQ c (ps.map (·.1))).toNat 0
        have hR:=fun F=>c5r (F:=F) (b:=bm) (most:=eQ c (ps.map (·.1))) hc hI (om) hbd.2 hx
        have hbq:bR (rn c (eQ c (ps.map (·.1))).toNat s 0).1=true:=hbe
        rw [hbq] at hR
        have hxr:=fun pt=>hF2.maf hx pt
        generalize hfb:eQ c (ps.map (·.1))=B at *
        generalize rn c B.toNat s 0=T at *
        obtain ⟨s2,n2⟩:=T
        dsimp only at hM2 hle hF2 hR hbq hxr
        have hwl:0≤c.words*c.lines∧c.words*c.lines≤8*1024:=⟨Int.mul_nonneg (om) (om),Int.mul_le_mul (om) (om) (om) (om)⟩
        repeat' (first|refine go ?_|intro _|refine kC ?_|refine dM ?_|refine aD @hB ?_|refine aD @hR ?_|apply zL|fail)
        all_goals
          rename_i pt2
          have hx2:=hxr pt2
          have hT:=fun F=>c1c (F:=F) (b:=bm) hx2 (by have:=hF2.2;omega)
          repeat first|refine go ?_|intro _|refine kC ?_|refine dM ?_|refine aD @hT ?_
          rename_i qt
          apply aW (E0:=[(3,_),(7,_),(11,_)]) (fun E0 (j:Nat)=>(12,.int .i64 j)::E0) (fun _=>Own 60 6 (.slice qt.1 s2.tr.length qt.2) s2.tr.length (aC e0q s2.tr)::i9 bm c s2 { x with pt:=pt2}::Cells b3 24 c.cells::Old W::F) (fun j=>(j:Int)≤c.words*c.lines) (fun j=>(c.words*c.lines).toNat-j) 0
          · exact m9
          · omega
          · exact aB
          · rintro j hj
            by_cases hjw:(j:Int)<c.words*c.lines
            · have hoa:fR c (j:Int)=true:=by
                unfold fR
                rw [hck,decide_eq_true (om)];rfl
              have hFi:=fun F=>d7l (F:=F) (b:=bm) (c:=c) (s:=s2) (x:={ x with pt:=pt2}) (addr:=(j:Int)) hc (by unfold nA;omega)
              have hV:=fun F (k:RdL F 6 (.slice qt.1 s2.tr.length qt.2) s2.tr.length (aC e0q s2.tr))=>d3n (F:=F) (c:=c) (addr:=(j:Int)) hc k (by have:=hF2.2;omega)
              rw [hoa,c2m hF2.1 hbq hoa] at hFi
              generalize d1w c s2.tr (j:Int)=v at hFi hV
              have hne:¬(v≠v):=fun h=>h rfl
              repeat first|refine go ?_|intro _|refine kC ?_|refine dM ?_|refine aD @hFi ?_|refine aD @hV ?_
              refine aT (j+1) (om) (om) ?_ ?_
              · exact m9
              · exact aB
            · have hO:=fun F=>f0j (F:=F) (b:=bm) hx2 hF2.1.o (fun y hy=>(hF2.1.f y hy).od)
              repeat first|refine go ?_|intro _|refine kC ?_|refine dM ?_|refine aD @hO ?_
              exact bF
end
section
open Go Go.Proofs Go.ChangeShapes Go.WideShapes
theorem f2n {W:World} {F:List HP} {f:FuncId} {c:Cfg} {ps:List PrQ} {u v:Value} {l:List Pk} {r:Int} (hp:∀ p∈ps,PrQ.ok W p) (kp:ROld W 1 u ps.length (aC b6n ps)) (bp:ps.length*Tryz.prog.bytesOf 61≤reachBytes) (k:ROld W 3 v l.length (aC e6l l)) (bl:l.length*Tryz.prog.bytesOf 34≤reachBytes)
    (law:∀ (pu pv:Option Addr) (cu cv:Nat),ROld W 3 (.slice pv l.length cv) l.length (aC e6l l)→l.length≤1000000000000000→ROld W 1 (.slice pu ps.length cu) ps.length (aC b6n ps)→ps.length≤1000000000000000→(∀ p∈ps,p.1.length≤1000000000000000)→OldPs W ps→
      FnF Tryz.prog f [c.val,.slice pu ps.length cu,.slice pv l.length cv,.int .i64 r] [Old W] F (fun r L'=>r= .bool true∧L'=[Old W])) :
    FnF Tryz.prog f [c.val,u,v,.int .i64 r] [Old W] F (fun r L'=>r= .bool true∧L'=[Old W]):=by
  obtain ⟨pu,cu,rfl⟩:=oN kp
  obtain ⟨pv,cv,rfl⟩:=oN k
  exact law pu pv cu cv k (b7e (k:=24) bl (by kernel_rfl) (by decide)) kp (b7e (k:=24) bp (by kernel_rfl) (by decide)) (fun p h=>(hp p h).2.2) (d9f hp)
theorem c3l {W:World} {F:List HP} {c:Cfg} {ps:List PrQ} {u v:Value} {l:List Pk} (hc:c.wf) (hp:∀ p∈ps,PrQ.ok W p) (hl:∀ p∈l,Pk.wf p) (kp:ROld W 1 u ps.length (aC b6n ps)) (bp:ps.length*Tryz.prog.bytesOf 61≤reachBytes) (k:ROld W 3 v l.length (aC e6l l)) (bl:l.length*Tryz.prog.bytesOf 34≤reachBytes) :
    FnF Tryz.prog 13 [c.val,u,v] [Old W] F (fun r L'=>r= .bool true∧L'=[Old W]):=
  e7c hp kp bp k bl fun pu pv cu cv a b d e g h=>c3k hc b hl e g h
theorem b8o {W:World} {F:List HP} {c:Cfg} {ps:List PrQ} {u v:Value} {l:List Pk} (hc:c.wf) (hp:∀ p∈ps,PrQ.ok W p) (hl:∀ p∈l,Pk.wf p) (kp:ROld W 1 u ps.length (aC b6n ps)) (bp:ps.length*Tryz.prog.bytesOf 61≤reachBytes) (k:ROld W 3 v l.length (aC e6l l)) (bl:l.length*Tryz.prog.bytesOf 34≤reachBytes) :
    FnF Tryz.prog 14 [c.val,u,v] [Old W] F (fun r L'=>r= .bool true∧L'=[Old W]):=
  e7c hp kp bp k bl fun pu pv cu cv a b d e g h=>b8n hc b hl e g h
theorem b8p {W:World} {F:List HP} {c:Cfg} {ps:List PrQ} {u v:Value} {l:List Pk} {r:Int} (hc:c.wf) (hp:∀ p∈ps,PrQ.ok W p) (hl:∀ p∈l,Pk.wf p) (hr:nA r) (kp:ROld W 1 u ps.length (aC b6n ps)) (bp:ps.length*Tryz.prog.bytesOf 61≤reachBytes) (k:ROld W 3 v l.length (aC e6l l)) (bl:l.length*Tryz.prog.bytesOf 34≤reachBytes) :
    FnF Tryz.prog 12 [c.val,u,v,.int .i64 r] [Old W] F (fun r L'=>r= .bool true∧L'=[Old W]):=
  f2n hp kp bp k bl fun pu pv cu cv a b d e g h=>b8m hc hr b hl e g h
end
end Go.Sx
