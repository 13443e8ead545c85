/- MaId: several of my texts as one. My own work. -/
import Derived.Test.YtjihlpjnebdiiaaGreatZr
import Derived.Test.YtjihlpjnebdiiaaGreatZaz
import Derived.Test.YtjihlpjnebdiiaaGreatZad
set_option linter.unusedVariables false
set_option linter.unusedSectionVars false
set_option linter.unusedSimpArgs false
/- The laws of machines: what does nothing changes nothing. My own work. -/
namespace Go.Sx
open Go Go.Proofs
theorem nets_len {c:Cfg} {n:Nat} {s:MaS} (h:MaL c n s) (k:Int) (hk:hasN k=true):((nget s.n k).length:Int)≤1099511627776:=by
  have h1:=h.rm k hk
  have h2:=(cfg_roomsN h.ok)
  unfold hasN at hk
  simp only [decide_eq_true_eq] at hk
  unfold nroom at h1
  have:k=0∨k=1∨k=2:=by omega
  rcases this with rfl|rfl|rfl<;>simp at h1<;>omega
set_option maxRecDepth 100000
set_option maxHeartbeats 4000000
attribute [local irreducible] Go.Exit.then Go.Exit.inBlock Go.Code.wp WC WO WE WQ V LoopQ FnQ Sat Star band bor IntKind.wrap WR Code.rounds WT KO
theorem law18_Idle {W:World} {F:List HP} {c:Cfg} {ps:List PrQ} {pu pv:Option Addr} {cu cv:Nat} {l:List Pk} (hc:c.wf) [k:ROld W 3 (.slice pv l.length cv) l.length (flat pkc l)] (hl:l.length≤1000000000000000) (hpk:∀ p∈l,Pk.wf p) [kp:ROld W 1 (.slice pu ps.length cu) ps.length (flat prc ps)] (hp:ps.length≤1000000000000000) (hn:∀ p∈ps,p.1.length≤1000000000000000) (kr:OldPs W ps) :
    FnF Tryz.prog 5 [c.val,.slice pu ps.length cu,.slice pv l.length cv] [Old W] F (fun r L'=>r= .bool true∧L'=[Old W]):=by
  have hL:=fun F (kp:RdL F 1 (.slice pu ps.length cu) ps.length (flat prc ps))=>r18_Large (F:=F) (c:=c) (ps:=ps) (k:=l.length) kp hp hn
  haveI:=kr.rd
  refine FnF.mk' Tryz.func5 rfl rfl Tryz.ntmps5 rfl ?_
  cases hla:large18 c (ps.map (·.1)) l.length with
  |true=>
   rw [hla] at hL
   repeat (first|refine gd ?_|intro _|refine cal @law18_awake ?_|refine cal @hL ?_)
   exact fin0
  |false=>
   rw [hla] at hL
   obtain ⟨_,_,htot,hps,hlen⟩:=large_fact hla
   have hn2:∀ p∈ps,p.1.length≤1099511627776:=fun p h=>by have:=totL_mem (List.mem_map_of_mem (f:=(·.1)) h);omega
   cases hok:maOk c (ps.map (·.1)) with
   |false=>
    have hN:=fun F (kp:RdL F 1 (.slice pu ps.length cu) ps.length (flat prc ps)) (kr:RdPr F ps)=>ma_New_no (F:=F) hc kp kr hn2 hok
    repeat (first|refine gd ?_|intro _|refine cal @law18_awake ?_|refine cal @hL ?_|refine cal @hN ?_)
    exact fin0
   |true=>
    have hN:=fun F (kp:RdL F 1 (.slice pu ps.length cu) ps.length (flat prc ps)) (kr:RdPr F ps)=>ma_New (F:=F) hc kp kr hok
    repeat (first|refine gd ?_|intro _|refine cal @law18_awake ?_|refine cal @hL ?_|refine cal @hN ?_)
    rename_i bm bn
    (first|refine WO_front (MaP bm c (maNew c (ps.map (·.1)))) ?_|refine WC_front (MaP bm c (maNew c (ps.map (·.1)))) ?_|refine WE_front (MaP bm c (maNew c (ps.map (·.1)))) ?_)
    first|refine map_openO fun x=>?_|refine map_open fun x=>?_
    (first|refine WO_front (MaQ bm c (maNew c (mps ps)) x) ?_|refine WC_front (MaQ bm c (maNew c (mps ps)) x) ?_|refine WE_front (MaQ bm c (maNew c (mps ps)) x) ?_)
    first|refine maq_factO fun hx=>?_|refine maq_fact fun hx=>?_
    (first|refine WO_front (MaP bn c (maNew c (ps.map (·.1)))) ?_|refine WC_front (MaP bn c (maNew c (ps.map (·.1)))) ?_|refine WE_front (MaP bn c (maNew c (ps.map (·.1)))) ?_)
    first|refine map_openO fun y=>?_|refine map_open fun y=>?_
    (first|refine WO_front (MaQ bn c (maNew c (mps ps)) y) ?_|refine WC_front (MaQ bn c (maNew c (mps ps)) y) ?_|refine WE_front (MaQ bn c (maNew c (mps ps)) y) ?_)
    first|refine maq_factO fun hy=>?_|refine maq_fact fun hy=>?_
    have hNx:=fun F=>ma_Net (F:=F) (b:=bm) hx
    have hNy:=fun F=>ma_Net (F:=F) (b:=bn) hy
    repeat (first|refine gd ?_|intro _|refine cal @hNx ?_|refine cal @hNy ?_)
    apply WC_loopE (E0:=[(7,_),(9,_),(56,_),(57,_)]) (fun E0 (q:Nat×(Option Addr×Nat)×(Option Addr×Nat))=>(58,.int .i64 q.1)::E0) (fun q=>MaQ bm c (maPicks c (maNew c (mps ps)) (l.take q.1)) { x with pt:=q.2.1}::MaQ bn c (maPicks c (maNew c (mps ps)) (l.take q.1)) { y with pt:=q.2.2}::Old W::F) (fun q=>q.1≤l.length) (fun q=>l.length-q.1) (0,x.pt,y.pt)
    · exact zqU
    · exact Nat.zero_le _
    · show Ent _ (MaQ bm c (maNew c (mps ps)) x::MaQ bn c (maNew c (mps ps)) y::Old W::F)
      exact entu0
    · rintro ⟨i,pt,pu2⟩ hi
      dsimp only at hi ⊢
      (first|refine WO_front (MaQ bn c (maPicks c (maNew c (mps ps)) (l.take i)) { y with pt:=pu2}) ?_|refine WC_front (MaQ bn c (maPicks c (maNew c (mps ps)) (l.take i)) { y with pt:=pu2}) ?_|refine WE_front (MaQ bn c (maPicks c (maNew c (mps ps)) (l.take i)) { y with pt:=pu2}) ?_)
      refine maq_fact fun hy=>?_
      (first|refine WO_front (MaQ bm c (maPicks c (maNew c (mps ps)) (l.take i)) { x with pt:=pt}) ?_|refine WC_front (MaQ bm c (maPicks c (maNew c (mps ps)) (l.take i)) { x with pt:=pt}) ?_|refine WE_front (MaQ bm c (maPicks c (maNew c (mps ps)) (l.take i)) { x with pt:=pt}) ?_)
      refine maq_fact fun hx=>?_
      have hI:=mi_pre hok l i hi
      by_cases hlt:i<l.length
      · have hP:=fun F=>ma_Pick_at (F:=F) (b:=bm) hc hok (by omega) hpk hlt hx
        have hQ:=fun F=>ma_Pick_at (F:=F) (b:=bn) hc hok (by omega) hpk hlt hy
        cases hb:maPickB c (maPicks c (maNew c (mps ps)) (l.take i)) l[i] with
        |true=>
         rw [hb] at hP hQ
         repeat (first|refine gd ?_|intro _|refine cal @hP ?_|refine cal @hQ ?_)
         rename_i pt2 pu3
         refine WE_loop (i+1,pt2,pu3) (by dsimp only;omega) (by dsimp only;omega) ?_ ?_
         · exact zqU
         · exact entu0
        |false=>
         rw [hb] at hP
         have e:maPicks c (maNew c (mps ps)) (l.take (i+1))=maPicks c (maNew c (mps ps)) (l.take i):=by rw [maPicks_succ hlt,pick_idle hI.l hb]
         repeat (first|refine gd ?_|intro _|refine cal @hP ?_)
         rename_i pt2
         refine WE_loop (i+1,pt2,pu2) (by dsimp only;omega) (by dsimp only;omega) ?_ ?_
         · exact zqU
         · dsimp only
           rw [e]
           exact entu0
      · have hil:i=l.length:=by omega
        repeat (first|refine gd ?_|intro _)
        generalize hs:maPicks c (maNew c (mps ps)) (l.take i)=s at *
        generalize { x with pt:=pt}=x at *
        generalize { y with pt:=pu2}=y at *
        have hNx:=fun F=>ma_Net (F:=F) (b:=bm) hx
        have hNy:=fun F=>ma_Net (F:=F) (b:=bn) hy
        apply WC_loopE (E0:=[(7,_),(9,_)]) (fun E0 (j:Nat)=>(13,.int .i64 j)::E0) (fun _=>MaQ bm c s x::MaQ bn c s y::Old W::F) (fun j=>j≤3) (fun j=>3-j) 0
        · exact zqU
        · exact Nat.zero_le _
        · exact entu0
        · rintro j hj
          by_cases hlt:j<3
          · have hn1:(nget s.n (j:Int)).length≤1099511627776:=by have:=nets_len hI.l (j:Int) (by unfold hasN;simp only [decide_eq_true_eq];omega);omega
            have hLx:=fun F=>mq_List (F:=F) (b:=bm) (k:=(j:Int)) hx
            have hLy:=fun F=>mq_List (F:=F) (b:=bn) (k:=(j:Int)) hy
            have hS:=fun F v u (k1:RdL F 15 v (nget s.n (j:Int)).length (flat mc (nget s.n (j:Int)))) (k2:RdL F 15 u (nget s.n (j:Int)).length (flat mc (nget s.n (j:Int))))=>ref07_Same (F:=F) k1 k2 hn1
            rw [decide_eq_true (rfl:nget s.n (j:Int)=nget s.n (j:Int))] at hS
            repeat (first|refine gd ?_|intro _|refine cal @hNx ?_|refine cal @hNy ?_|refine cal @hLx ?_|refine cal @hLy ?_|refine cal @hS ?_)
            refine WE_loop (j+1) (by omega) (by omega) ?_ ?_
            · exact zqU
            · exact entu0
          · have hj3:j=3:=by omega
            subst hj3
            have ht:s.tr.length≤1000000000000:=by have:=tr_pre hok l i hi;rw [show maPicks c (maNew c (ps.map (·.1))) (l.take i)=s from hs] at this;omega
            have hk0:∀ k∈s.ks,k.rs.length≤k.l.length∧k.l.length≤64:=fun k hk=>⟨(hI.l.kp k hk).2,by have:=(hI.l.kp k hk).1;unfold progB at this;simp only [Bool.and_eq_true,decide_eq_true_eq] at this;omega⟩
            have hTx:=fun F=>ma_Trace (F:=F) (b:=bm) hx ht
            have hTy:=fun F=>ma_Trace (F:=F) (b:=bn) hy ht
            have hQx:=fun F=>ma_Quiet (F:=F) (b:=bm) hx hk0
            have hQy:=fun F=>ma_Quiet (F:=F) (b:=bn) hy hk0
            have hOx:=fun F=>ma_Odd (F:=F) (b:=bm) hx hI.o (fun y hy=>(hI.f y hy).od)
            have hOy:=fun F=>ma_Odd (F:=F) (b:=bn) hy hI.o (fun y hy=>(hI.f y hy).od)
            repeat (first|refine gd ?_|intro _|refine cal @hTx ?_|refine cal @hTy ?_|refine cal @hQx ?_|refine cal @hQy ?_|refine cal @hOx ?_|refine cal @hOy ?_)
            rename_i q1 q2
            apply WC_loopE (E0:=[(14,_),(15,_),(110,_)]) (fun E0 (k:Nat)=>(111,.int .i64 k)::E0) (fun _=>Own 60 6 (.slice q1.1 s.tr.length q1.2) s.tr.length (flat cmc s.tr)::Own 60 6 (.slice q2.1 s.tr.length q2.2) s.tr.length (flat cmc s.tr)::Old W::F) (fun k=>k≤s.tr.length) (fun k=>s.tr.length-k) 0
            · exact zqU
            · exact Nat.zero_le _
            · exact entu0
            · rintro k hk
              by_cases hlt:k<s.tr.length
              · have he:¬(cmc s.tr[k]≠cmc s.tr[k]):=fun h=>h rfl
                repeat (first|refine gd ?_|intro _)
                refine WE_loop (k+1) (by omega) (by omega) ?_ Ent.refl
                exact zqU
              · repeat (first|refine gd ?_|intro _)
                exact fin0
end Go.Sx
