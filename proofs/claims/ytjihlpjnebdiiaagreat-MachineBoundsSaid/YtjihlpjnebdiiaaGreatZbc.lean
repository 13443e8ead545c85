/- MaBd, MaBdR: several of my texts as one. My own work. -/
import Derived.Test.YtjihlpjnebdiiaaGreatZr
import Derived.Test.YtjihlpjnebdiiaaGreatZba
import Derived.Test.YtjihlpjnebdiiaaGreatZam
import Derived.Test.YtjihlpjnebdiiaaGreatZaz
set_option linter.unusedVariables false
set_option linter.unusedSectionVars false
set_option linter.unusedSimpArgs false
/- The laws of machines: rooms, and the order of what is committed. My own work. -/
namespace Go.Sx
open Go Go.Proofs
theorem cap_rooms {b:Nat} {c:Cfg} {core:Int} {k:CaS} {L:List HP} {w:World} (h:Sat (CaP b c core k::L) w):(k.mis.length:Int)≤c.mshrs∧(k.buf.length:Int)≤c.writebacks:=by
  obtain ⟨q,hq⟩:=star_ex h
  exact ⟨(RL_len ((Ent.drop (Ent.drop Ent.refl)).sat hq)).1,(RL_len ((Ent.drop (Ent.drop (Ent.drop Ent.refl))).sat hq)).1⟩
theorem maq_rooms {P:Program} {N:Nat} {env:Env} {L:List HP} {Q:Exit→Act→World→Prop} {o:Code} {b:Nat} {c:Cfg} {s:MaS} {x:MaX} {i:Nat} (hi:i<x.ab.length)
    (h:(((s.cs.getD i caZ).mis.length:Int)≤c.mshrs∧((s.cs.getD i caZ).buf.length:Int)≤c.writebacks)→WC P N o env (MaQ b c s x::L) Q):WC P N o env (MaQ b c s x::L) Q:=
  fun a w ha hw=>h (cap_rooms ((maqc_out hi).sat hw)) a w ha hw
theorem tr_step {c:Cfg} {n:Nat} {s:MaS} (h:MaL c n s) (p:Pk):s.tr.length≤(maPick c s p).tr.length:=by
  rcases ms_pick h p with g|⟨i,v,_,_,_,g⟩
  · have:(maPick c s p).tr=s.tr:=congrArg Prod.snd g
    rw [this];exact Nat.le_refl _
  · have:(maPick c s p).tr=(maCom s i (coOp (maK s i)) v).tr:=congrArg Prod.snd g
    rw [this]
    show _≤(s.tr++[_]).length
    rw [List.length_append];omega
set_option maxRecDepth 100000
set_option maxHeartbeats 4000000
attribute [local irreducible] Go.Exit.then Go.Exit.inBlock Go.Code.wp WC WO WE WQ V LoopQ FnQ Sat Star band bor IntKind.wrap WR Code.rounds WT KO
theorem dr_MaBd_4m {Q P:Prop} (k:Q) (h:Hid Q→P:=by
  intro k
  first
  |(refine is_draw ?_;apply WC_mix (id:=30) (.only []) _ (pl:= .p 0 <| .p 1 <| .p 2 <| .p 3 <| .p 6 <| .r 7 <| .e true [(4,.p 5 <| .p 8 <| .p 9 <| .p 10 <| .p 11 <| .p 14 <| .r 15 <| .e true [(12,.p 13 <| .p 16 <| .p 17 <| .done)])]);exact mixed;kernel_rfl;kernel_rfl;exact Ent.refl;exact k.out)
  |(refine is_draw ?_;apply WC_mix (id:=36) (.only []) _ (pl:= .p 0 <| .p 1 <| .p 2 <| .p 3 <| .p 6 <| .r 7 <| .e true [(4,.p 5 <| .p 8 <| .p 9 <| .done)]);exact mixed;kernel_rfl;kernel_rfl;exact Ent.refl;exact k.out)
  |(refine is_draw ?_;apply WC_mix (id:=50) (.only []) _ (pl:= .p 0 <| .p 1 <| .p 3 <| .p 4 <| .p 5 <| .p 8 <| .r 6 <| .p 7 <| .p 9 <| .e true [(2,.p 10 <| .done)]);exact mixed;kernel_rfl;kernel_rfl;exact Ent.refl;exact k.out)):P:=h ⟨k⟩
theorem law18_Bounds {W:World} {F:List HP} {c:Cfg} {ps:List PrQ} {pu pv:Option Addr} {cu cv:Nat} {l:List Pk} (hc:c.wf) [k:ROld W 3 (.slice pv l.length cv) l.length (flat pkc l)] (hl:l.length≤1000000000000000) (hpk:∀ p∈l,Pk.wf p) [kp:ROld W 1 (.slice pu ps.length cu) ps.length (flat prc ps)] (hp:ps.length≤1000000000000000) (hn:∀ p∈ps,p.1.length≤1000000000000000) (kr:OldPs W ps) :
    FnF Tryz.prog 4 [c.val,.slice pu ps.length cu,.slice pv l.length cv] [Old W] F (fun r L'=>r= .bool true∧L'=[Old W]):=by
  have hL:=fun F (kp:RdL F 1 (.slice pu ps.length cu) ps.length (flat prc ps))=>r18_Large (F:=F) (c:=c) (ps:=ps) (k:=l.length) kp hp hn
  haveI:=kr.rd
  refine FnF.mk' Tryz.func4 rfl rfl Tryz.ntmps4 rfl ?_
  cases hla:large18 c (ps.map (·.1)) l.length with
  |true=>
   rw [hla] at hL
   repeat (first|refine go ?_|intro _|refine dr_MaBd_4m ?_|refine drq ?_|refine cal @law18_awake ?_|refine cal @hL ?_)
   exact fin0
  |false=>
   rw [hla] at hL
   obtain ⟨_,_,htot,hps,hlen⟩:=large_fact hla
   have hn2:∀ p∈ps,p.1.length≤1099511627776:=fun p h=>by have:=totL_mem (List.mem_map_of_mem (f:=(·.1)) h);omega
   cases hok:maOk c (ps.map (·.1)) with
   |false=>
    have hN:=fun F (kp:RdL F 1 (.slice pu ps.length cu) ps.length (flat prc ps)) (kr:RdPr F ps)=>ma_New_no (F:=F) hc kp kr hn2 hok
    repeat (first|refine go ?_|intro _|refine dr_MaBd_4m ?_|refine drq ?_|refine cal @law18_awake ?_|refine cal @hL ?_|refine cal @hN ?_)
    exact fin0
   |true=>
    have hN:=fun F (kp:RdL F 1 (.slice pu ps.length cu) ps.length (flat prc ps)) (kr:RdPr F ps)=>ma_New (F:=F) hc kp kr hok
    have hck:checkB c=true:=by
      have:=hok
      simp only [maOk,Bool.and_eq_true] at this
      exact this.1.1
    have hcc:=(check_facts hck).1
    have hch:=cfg_homes hck
    have hpc:(ps.length:Int)=c.cores:=by
      have:=hok
      simp only [maOk,Bool.and_eq_true,decide_eq_true_eq,List.length_map] at this
      exact this.1.2
    obtain ⟨n,hnc⟩:∃ n:Nat,c.cores=n:=⟨c.cores.toNat,by omega⟩
    repeat (first|refine go ?_|intro _|refine dr_MaBd_4m ?_|refine drq ?_|refine cal @law18_awake ?_|refine cal @hL ?_|refine cal @hN ?_)
    rename_i b3 bm
    (first|refine WO_front (MaP bm c (maNew c (ps.map (·.1)))) ?_|refine WC_front (MaP bm c (maNew c (ps.map (·.1)))) ?_|refine WE_front (MaP bm c (maNew c (ps.map (·.1)))) ?_)
    first|refine map_openO fun x=>?_|refine map_open fun x=>?_
    (first|refine WO_front (MaQ bm c (maNew c (mps ps)) x) ?_|refine WC_front (MaQ bm c (maNew c (mps ps)) x) ?_|refine WE_front (MaQ bm c (maNew c (mps ps)) x) ?_)
    first|refine maq_factO fun hx=>?_|refine maq_fact fun hx=>?_
    have hNx:=fun F=>ma_Net (F:=F) (b:=bm) hx
    repeat (first|refine go ?_|intro _|refine dr_MaBd_4m ?_|refine drq ?_|refine cal @hNx ?_)
    apply WC_loopE (E0:=[(1,_),(3,_),(7,_),(44,_),(45,_)]) (fun E0 (q:Nat×(Option Addr×Nat))=>(46,.int .i64 q.1)::E0) (fun q=>MaQ bm c (maPicks c (maNew c (mps ps)) (l.take q.1)) { x with pt:=q.2}::Cells b3 24 c.cells::Old W::F) (fun q=>q.1≤l.length) (fun q=>l.length-q.1) (0,x.pt)
    · exact zqU
    · exact Nat.zero_le _
    · show Ent _ (MaQ bm c (maNew c (mps ps)) x::_::Old W::F)
      exact entu0
    · rintro ⟨i,pt⟩ hi
      dsimp only at hi ⊢
      (first|refine WO_front (MaQ bm c (maPicks c (maNew c (mps ps)) (l.take i)) { x with pt:=pt}) ?_|refine WC_front (MaQ bm c (maPicks c (maNew c (mps ps)) (l.take i)) { x with pt:=pt}) ?_|refine WE_front (MaQ bm c (maPicks c (maNew c (mps ps)) (l.take i)) { x with pt:=pt}) ?_)
      refine maq_fact fun hx=>?_
      have hI:=mi_pre hok l i hi
      have ht:(maPicks c (maNew c (mps ps)) (l.take i)).tr.length≤i:=tr_pre hok l i hi
      by_cases hlt:i<l.length
      · have hP:=fun F=>ma_Pick_at (F:=F) (b:=bm) hc hok (by omega) hpk hlt hx
        have hNx:=fun F=>ma_Net (F:=F) (b:=bm) hx
        have hLx:=fun F k=>mq_List (F:=F) (b:=bm) (k:=k) hx
        have hT:=fun F=>ma_Trace (F:=F) (b:=bm) hx (by omega)
        have hI2:=mi_pre hok l (i+1) (by omega)
        have ht2:(maPicks c (maNew c (mps ps)) (l.take (i+1))).tr.length≤i+1:=tr_pre hok l (i+1) (by omega)
        have hst:maPicks c (maNew c (mps ps)) (l.take (i+1))=maPick c (maPicks c (maNew c (mps ps)) (l.take i)) l[i]:=maPicks_succ hlt
        have g1:=tr_step hI.l l[i]
        have g2:=ms_tr hI.l l[i]
        have g3:=pick_idle (p:=l[i]) hI.l
        rw [←hst] at g1 g2 g3
        repeat (first|refine go ?_|intro _|refine dr_MaBd_4m ?_|refine drq ?_|refine cal @hNx ?_|refine cal @hLx ?_|refine cal @hT ?_|refine cal @hP ?_)
        generalize hs:maPicks c (maNew c (mps ps)) (l.take i)=s at *
        generalize hs2:maPicks c (maNew c (mps ps)) (l.take (i+1))=s2 at *
        generalize hdd:maPickB c s l[i]=did at *
        rename_i bp q0 q1 q2 bb qt pt2
        generalize hx2:(⟨x.kb,x.ab,x.hb,x.pk,x.pa,x.ph,pt2,x.bn⟩:MaX)=x2
        have hf2:MaF c s2 x2:=by
          rw [←hx2]
          exact ⟨⟨by have:=hI2.l.lk;have:=hx.2.1.1;dsimp only at *;omega,by have:=hI2.l.la;have:=hx.2.1.2.1;dsimp only at *;omega,by have:=hI2.l.lh;have:=hx.2.1.2.2;dsimp only at *;omega⟩,hx.2⟩
        apply WC_loopE (E0:=[(1,_),(3,_),(7,_),(11,_),(12,_),(13,_),(44,_),(45,_),(46,_)]) (fun E0 (j:Nat)=>(66,.int .i64 j)::E0) (fun _=>MaQ bm c s2 x2::Cells bb 42 [.slice q0.1 (nget s.n 0).length q0.2,.slice q1.1 (nget s.n 1).length q1.2,.slice q2.1 (nget s.n 2).length q2.2]::Own 99 15 (.slice q0.1 (nget s.n 0).length q0.2) (nget s.n 0).length (flat mc (nget s.n 0))::Own 99 15 (.slice q1.1 (nget s.n 1).length q1.2) (nget s.n 1).length (flat mc (nget s.n 1))::Own 99 15 (.slice q2.1 (nget s.n 2).length q2.2) (nget s.n 2).length (flat mc (nget s.n 2))::Cells b3 24 c.cells::Old W::F) (fun j=>j≤3) (fun j=>3-j) 0
        · exact zqU
        · exact Nat.zero_le _
        · subst hx2
          exact entu0
        · rintro j hj
          have hNy:=fun F=>ma_Net (F:=F) (b:=bm) hf2
          have hLy:=fun F k=>mq_List (F:=F) (b:=bm) (k:=k) hf2
          by_cases hj3:j<3
          · have hrm:=hI2.l.rm (j:Int) (by unfold hasN;simp only [decide_eq_true_eq];omega)
            have hl2:=nets_len hI2.l (j:Int) (by unfold hasN;simp only [decide_eq_true_eq];omega)
            have:j=0∨j=1∨j=2:=by omega
            rcases this with rfl|rfl|rfl
            · have hrm':((nget s2.n ((0:Nat):Int)).length:Int)≤c.r0:=hrm
              cases did with
              |true=>
               repeat (first|refine go ?_|intro _|refine dr_MaBd_4m ?_|refine drq ?_|refine cal @hNy ?_|refine cal @hLy ?_)
               refine WE_loop 1 (by omega) (by omega) ?_ ?_
               · exact zqU
               · exact entu0
              |false=>
               obtain rfl:=g3 rfl
               have hS:=fun F v u (k1:RdL F 15 v (nget s2.n ((0:Nat):Int)).length (flat mc (nget s2.n ((0:Nat):Int)))) (k2:RdL F 15 u (nget s2.n 0).length (flat mc (nget s2.n 0)))=>ref07_Same (F:=F) k1 k2 (by omega)
               rw [decide_eq_true (show nget s2.n ((0:Nat):Int)=nget s2.n 0 from rfl)] at hS
               repeat (first|refine go ?_|intro _|refine dr_MaBd_4m ?_|refine drq ?_|refine cal @hNy ?_|refine cal @hLy ?_|refine cal @hS ?_)
               refine WE_loop 1 (by omega) (by omega) ?_ ?_
               · exact zqU
               · exact entu0
            · have hrm':((nget s2.n ((1:Nat):Int)).length:Int)≤c.r1:=hrm
              cases did with
              |true=>
               repeat (first|refine go ?_|intro _|refine dr_MaBd_4m ?_|refine drq ?_|refine cal @hNy ?_|refine cal @hLy ?_)
               refine WE_loop 2 (by omega) (by omega) ?_ ?_
               · exact zqU
               · exact entu0
              |false=>
               obtain rfl:=g3 rfl
               have hS:=fun F v u (k1:RdL F 15 v (nget s2.n ((1:Nat):Int)).length (flat mc (nget s2.n ((1:Nat):Int)))) (k2:RdL F 15 u (nget s2.n 1).length (flat mc (nget s2.n 1)))=>ref07_Same (F:=F) k1 k2 (by omega)
               rw [decide_eq_true (show nget s2.n ((1:Nat):Int)=nget s2.n 1 from rfl)] at hS
               repeat (first|refine go ?_|intro _|refine dr_MaBd_4m ?_|refine drq ?_|refine cal @hNy ?_|refine cal @hLy ?_|refine cal @hS ?_)
               refine WE_loop 2 (by omega) (by omega) ?_ ?_
               · exact zqU
               · exact entu0
            · have hrm':((nget s2.n ((2:Nat):Int)).length:Int)≤c.r2:=hrm
              cases did with
              |true=>
               repeat (first|refine go ?_|intro _|refine dr_MaBd_4m ?_|refine drq ?_|refine cal @hNy ?_|refine cal @hLy ?_)
               refine WE_loop 3 (by omega) (by omega) ?_ ?_
               · exact zqU
               · exact entu0
              |false=>
               obtain rfl:=g3 rfl
               have hS:=fun F v u (k1:RdL F 15 v (nget s2.n ((2:Nat):Int)).length (flat mc (nget s2.n ((2:Nat):Int)))) (k2:RdL F 15 u (nget s2.n 2).length (flat mc (nget s2.n 2)))=>ref07_Same (F:=F) k1 k2 (by omega)
               rw [decide_eq_true (show nget s2.n ((2:Nat):Int)=nget s2.n 2 from rfl)] at hS
               repeat (first|refine go ?_|intro _|refine dr_MaBd_4m ?_|refine drq ?_|refine cal @hNy ?_|refine cal @hLy ?_|refine cal @hS ?_)
               refine WE_loop 3 (by omega) (by omega) ?_ ?_
               · exact zqU
               · exact entu0
          · have hj3:j=3:=by omega
            subst hj3
            have hz:did=false→s2.tr.length=s.tr.length:=fun h=>by rw [g3 h]
            have hTy:=fun F=>ma_Trace (F:=F) (b:=bm) hf2 (by omega)
            have hab:(x2.ab.length:Int)=n:=by rw [←hnc];exact hf2.2.1.2.1
            have hhb:(x2.hb.length:Int)=c.homes:=hf2.2.1.2.2
            have hsh:s2.hs.length=x2.hb.length:=hf2.1.2.2
            clear hLy hNy
            cases did
            case' false=>replace hz:=hz rfl
            all_goals
              repeat (first|refine go ?_|intro _|refine dr_MaBd_4m ?_|refine drq ?_|refine cal @hTy ?_)
              apply WC_loopE (E0:=[(1,_),(3,_),(7,_),(44,_),(45,_),(46,_)]) (fun E0 (j:Nat)=>(17,.int .i64 j)::E0) (fun _=>MaQ bm c s2 x2::Cells b3 24 c.cells::Old W::F) (fun j=>j≤n) (fun j=>n-j) 0
              · exact zqU
              · exact Nat.zero_le _
              · exact entu0
              · rintro j hj
                by_cases hjn:j<n
                · have hC:=fun F=>ma_Cache (F:=F) (b:=bm) (c:=c) (s:=s2) (x:=x2) (i:=j) (by omega)
                  have hM:=fun F=>mq_Misses (F:=F) (b:=bm) (i:=j) (by omega) hf2
                  have hWr:=fun F=>mq_Written (F:=F) (b:=bm) (i:=j) (by omega) hf2
                  refine maq_rooms (i:=j) (by omega) fun ⟨r1,r2⟩=>?_
                  repeat (first|refine go ?_|intro _|refine dr_MaBd_4m ?_|refine drq ?_|refine cal @hC ?_|refine cal @hM ?_|refine cal @hWr ?_)
                  refine WE_loop (j+1) (by omega) (by omega) ?_ ?_
                  · exact zqU
                  · exact entu0
                · have hjn:j=n:=by omega
                  subst hjn
                  repeat (first|refine go ?_|intro _|refine dr_MaBd_4m ?_|refine drq ?_)
                  apply WC_loopE (E0:=[(1,_),(3,_),(7,_),(44,_),(45,_),(46,_)]) (fun E0 (j:Nat)=>(19,.int .i64 j)::E0) (fun _=>MaQ bm c s2 x2::Cells b3 24 c.cells::Old W::F) (fun j=>j≤x2.hb.length) (fun j=>x2.hb.length-j) 0
                  · exact zqU
                  · exact Nat.zero_le _
                  · exact entu0
                  · rintro d hd
                    by_cases hdn:d<x2.hb.length
                    · have hH:=fun F=>ma_Home (F:=F) (b:=bm) (c:=c) (s:=s2) (x:=x2) (i:=d) hdn
                      have hQ:=fun F=>mq_Queue (F:=F) (b:=bm) (i:=d) hdn hf2
                      have hql:((s2.hs.getD d hmZ).q.length:Int)≤c.buffer:=by
                        have hat:s2.hs[d]? =some (s2.hs.getD d hmZ):=by rw [List.getD_eq_getElem?_getD,List.getElem?_eq_getElem (by omega)];rfl
                        exact (hI2.l.hm d _ hat).1.len
                      repeat (first|refine go ?_|intro _|refine dr_MaBd_4m ?_|refine drq ?_|refine cal @hH ?_|refine cal @hQ ?_)
                      refine WE_loop (d+1) (by omega) (by omega) ?_ ?_
                      · exact zqU
                      · exact entu0
                    · have hdn:d=x2.hb.length:=by omega
                      repeat (first|refine go ?_|intro _|refine dr_MaBd_4m ?_|refine drq ?_)
                      refine WE_loop (i+1,pt2) (by dsimp only;omega) (by dsimp only;omega) ?_ ?_
                      · exact zqU
                      · dsimp only
                        rw [hs2,hx2]
                        exact entu0
      · generalize hs:maPicks c (maNew c (mps ps)) (l.take i)=s at *
        generalize { x with pt:=pt}=x at *
        have hT:=hI.p
        have hTx:=fun F=>ma_Trace (F:=F) (b:=bm) hx (by omega)
        have hpn:ps.length=n:=by omega
        repeat (first|refine go ?_|intro _|refine dr_MaBd_4m ?_|refine drq ?_|refine cal @hTx ?_)
        rename_i ba qt
        apply WC_loopE (E0:=[(1,_),(3,_),(7,_),(21,_),(163,_),(164,_)]) (fun E0 (j:Nat)=>(165,.int .i64 j)::E0) (fun j=>Cells ba 3 (flat ic (atC n s.tr j))::MaQ bm c s x::Own 60 6 (.slice qt.1 s.tr.length qt.2) s.tr.length (flat cmc s.tr)::Cells b3 24 c.cells::Old W::F) (fun j=>j≤s.tr.length) (fun j=>s.tr.length-j) 0
        · exact zqU
        · exact Nat.zero_le _
        · rw [atC_zero,←rep_ic,hnc,Int.toNat_natCast]
          exact entu0
        · rintro j hj
          by_cases hjt:j<s.tr.length
          · obtain ⟨⟨t0,t1⟩,t2,t3,t4⟩:=hT.tr j s.tr[j] (List.getElem?_eq_getElem hjt)
            obtain ⟨kc,hkc⟩:∃ k:Nat,s.tr[j].core=k:=⟨s.tr[j].core.toNat,by omega⟩
            rw [hkc] at t0 t1 t2 t3 t4
            have hkp:kc<ps.length:=by rw [List.length_map] at t1;omega
            have hkn:kc<n:=by omega
            have hpr:(ps.map (·.1)).getD ((kc:Nat):Int).toNat []=ps[kc].1:=by simp [hkp]
            rw [hpr] at t3 t4
            have hat:(flat ic (atC n s.tr j))[0+((kc:Nat):Int).toNat*1]? =some (.int .i64 (cntC s.tr j (kc:Int))):=by
              rw [Int.toNat_natCast,Nat.zero_add,Nat.mul_one,flat_ic_get (by simp [atC,hkn])]
              simp [atC]
            have hats:=atC_succ hjt hkn (by rw [hkc])
            have hcn:=cntC_le s.tr j (kc:Int)
            have t2':s.tr[j].pos=cntC s.tr j (kc:Int):=t2
            generalize hq:cntC s.tr j (kc:Int)=q at hat hats t2' hcn
            have hql:q<ps[kc].1.length:=by omega
            have t4':s.tr[j].op=ps[kc].1[q]:=by rw [t4,t2'];simp [hql]
            obtain ⟨xr,hxr⟩:∃ r,s.tr[j].res=r:=⟨_,rfl⟩
            have hx1:s.tr[j]=⟨(kc:Int),(q:Int),ps[kc].1[q],xr⟩:=by rw [←hkc,←t2',←t4',←hxr]
            haveI krk:=rd_pr (kr.rd F) hkp
            have ho':¬(oc ps[kc].1[q]≠oc ps[kc].1[q]):=fun h=>h rfl
            repeat (first|refine go ?_|intro _|refine dr_MaBd_4m ?_|refine drq ?_)
            simp only [hx1];dsimp only [cmc]
            repeat (first|refine go ?_|intro _|refine dr_MaBd_4m ?_|refine drq ?_)
            have hal:(atC n s.tr j).length=n:=by simp [atC]
            have hsp:splice (flat ic (atC n s.tr j)) (0+((kc:Nat):Int).toNat*1) [.int .i64 ((q:Int)+1)]=flat ic (atC n s.tr (j+1)):=by
              rw [Int.toNat_natCast,Nat.zero_add,Nat.mul_one,splice_ic (by omega),hats]
            have hbl:Nat.ble (0+((kc:Nat):Int).toNat*1+1) (flat ic (atC n s.tr j)).length=true:=by
              rw [flat_ic_len,hal,Int.toNat_natCast,Nat.ble_eq];omega
            (apply WO_k;rfl;(apply K_store (cs:=[.int .i64 ((q:Int)+1)]);rfl;rfl;exact inferInstance;rfl;rfl;rfl;exact hbl);refine same_intro ?_)
            rw [hsp]
            repeat (first|refine go ?_|intro _|refine dr_MaBd_4m ?_|refine drq ?_)
            refine WE_loop (j+1) (by omega) (by omega) ?_ ?_
            · exact zqU
            · exact entu0
          · have hjt:j=s.tr.length:=by omega
            subst hjt
            repeat (first|refine go ?_|intro _|refine dr_MaBd_4m ?_|refine drq ?_)
            apply WC_loopE (E0:=[(1,_),(7,_),(222,_),(223,_)]) (fun E0 (j:Nat)=>(224,.int .i64 j)::E0) (fun _=>Cells ba 3 (flat ic (atC n s.tr s.tr.length))::MaQ bm c s x::Old W::F) (fun j=>j≤n) (fun j=>n-j) 0
            · exact zqU
            · exact Nat.zero_le _
            · exact entu0
            · rintro j hj
              by_cases hjn:j<n
              · have hkb:(x.kb.length:Int)=n:=by rw [←hnc];exact hx.2.1.1
                have hkl:s.ks.length=x.kb.length:=hx.1.1
                have hjp:j<ps.length:=by omega
                have hkk:s.ks[j]? =some (s.ks.getD j coZ):=by rw [List.getD_eq_getElem?_getD,List.getElem?_eq_getElem (by omega)];rfl
                have hq:(maPj s).1[j]? =some ((s.ks.getD j coZ).l,(s.ks.getD j coZ).rs):=by
                  show (s.ks.map _)[j]? =_
                  rw [List.getElem?_map,hkk];rfl
                have hct:cntC s.tr s.tr.length (j:Int)=(s.ks.getD j coZ).rs.length:=hT.ct j _ hq
                have hle:(s.ks.getD j coZ).rs.length≤(s.ks.getD j coZ).l.length:=hT.le _ (List.mem_of_getElem? hq)
                have hpl:(s.ks.getD j coZ).l=ps[j].1:=by
                  have e:(ps.map (·.1))[j]? =some (s.ks.getD j coZ).l:=by rw [←hT.ln,List.getElem?_map,hq];rfl
                  rw [List.getElem?_map,List.getElem?_eq_getElem hjp] at e
                  simpa using e.symm
                have hpn:=hn2 ps[j] (List.getElem_mem hjp)
                have hat:(flat ic (atC n s.tr s.tr.length))[0+((j:Nat):Int).toNat*1]? =some (.int .i64 (cntC s.tr s.tr.length (j:Int))):=by
                  rw [Int.toNat_natCast,Nat.zero_add,Nat.mul_one,flat_ic_get (by simp [atC,hjn])]
                  simp [atC]
                have hLf:=fun F=>ma_Left (F:=F) (b:=bm) (i:=j) (by omega) hx
                unfold coLeft at hLf
                rw [hpl] at hLf hle
                rw [←hct] at hLf hle
                generalize cntC s.tr s.tr.length (j:Int)=q at hLf hle hat
                have hne:¬(((ps[j].1.length:Nat):Int)-(q:Int)≠((ps[j].1.length:Nat):Int)-(q:Int)):=fun h=>h rfl
                haveI krk:=rd_pr (kr.rd F) hjp
                (first|(refine WO_some (.slice pu ps.length cu) inferInstance (by omega) ?_;intro _)|(refine WC_some (.slice pu ps.length cu) inferInstance (by omega) ?_;intro _))
                repeat (first|refine go ?_|intro _|refine dr_MaBd_4m ?_|refine drq ?_|refine cal @hLf ?_)
                refine WE_loop (j+1) (by omega) (by omega) ?_ ?_
                · exact zqU
                · exact entu0
              · have hjn:j=n:=by omega
                repeat (first|refine go ?_|intro _|refine dr_MaBd_4m ?_|refine drq ?_)
                exact fin0
end Go.Sx

/- Programs and picks, read: rooms and order. My own work. -/
namespace Go.Sx
open Go Go.Proofs Go.ChangeShapes Go.WideShapes
theorem old18_Bounds {W:World} {F:List HP} {c:Cfg} {ps:List PrQ} {u v:Value} {l:List Pk} (hc:c.wf) (hp:∀ p∈ps,PrQ.ok W p) (hl:∀ p∈l,Pk.wf p) (kp:ROld W 1 u ps.length (flat prc ps)) (bp:ps.length*Tryz.prog.bytesOf 61≤reachBytes) (k:ROld W 3 v l.length (flat pkc l)) (bl:l.length*Tryz.prog.bytesOf 34≤reachBytes) :
    FnF Tryz.prog 4 [c.val,u,v] [Old W] F (fun r L'=>r= .bool true∧L'=[Old W]):=
  old18 hp kp bp k bl fun pu pv cu cv a b d e g h=>law18_Bounds hc b hl e g h
end Go.Sx
