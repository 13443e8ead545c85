/- WiFi: several of my texts as one. My own work. -/
import Derived.Test.YtjihlpjnebdiiaaGreatZr
import Derived.Test.YtjihlpjnebdiiaaGreatZaz
import Derived.Test.YtjihlpjnebdiiaaGreatZbd
set_option linter.unusedVariables false
set_option linter.unusedSectionVars false
set_option linter.unusedSimpArgs false
/- The laws of witnesses: whatever is picked, the trace is fine. My own work. -/
namespace Go.Sx
open Go Go.Proofs
theorem ok_fine {c:Cfg} {ps:List (List Op3)} {n:Nat} {s:MaS} (hok:maOk c ps=true) (h:MaI c ps n s):chkV c ps s.tr=s.tr.length∧chkE c ps s.tr=0:=by
  have e:=h.fine
  simp only [maOk,Bool.and_eq_true,decide_eq_true_eq] at hok
  have:chkOk c ps=true:=by simp [chkOk,hok.1.1,hok.1.2]
  simp [chkV,chkE,this,e]
set_option maxRecDepth 100000
set_option maxHeartbeats 4000000
attribute [local irreducible] Go.Exit.then Go.Exit.inBlock Go.Code.wp WC WO WE WQ V LoopQ FnQ Sat Star band bor IntKind.wrap WR Code.rounds WT KO
theorem dr_WiFi_6m {Q P:Prop} (k:Q) (h:Hid Q→P:=by
  intro k
  first
  |(refine is_draw ?_;apply WC_mix (id:=13) (.only []) _ (pl:= .p 1 <| .p 2 <| .r 0 <| .e true [(3,.e true [(4,.p 5 <| .p 6 <| .p 7 <| .p 8 <| .p 9 <| .done)])]);exact mixed;kernel_rfl;kernel_rfl;exact Ent.refl;exact k.out)):P:=h ⟨k⟩
theorem law19_Fine {W:World} {F:List HP} {c:Cfg} {ps:List PrQ} {pu pv:Option Addr} {cu cv:Nat} {l:List Pk} (hc:c.wf) [k:ROld W 3 (.slice pv l.length cv) l.length (flat pkc l)] (hl:l.length≤1000000000000000) (hpk:∀ p∈l,Pk.wf p) [kp:ROld W 1 (.slice pu ps.length cu) ps.length (flat prc ps)] (hp:ps.length≤1000000000000000) (hn:∀ p∈ps,p.1.length≤1000000000000000) (kr:OldPs W ps) :
    FnF Tryz.prog 6 [c.val,.slice pu ps.length cu,.slice pv l.length cv] [Old W] F (fun r L'=>r= .bool true∧L'=[Old W]):=by
  have hL:=fun F (kp:RdL F 1 (.slice pu ps.length cu) ps.length (flat prc ps))=>r18_Large (F:=F) (c:=c) (ps:=ps) (k:=l.length) kp hp hn
  haveI:=kr.rd
  refine FnF.mk' Tryz.func6 rfl rfl Tryz.ntmps6 rfl ?_
  cases hla:large18 c (ps.map (·.1)) l.length with
  |true=>
   rw [hla] at hL
   repeat (first|refine go ?_|intro _|refine dr_WiFi_6m ?_|refine drq ?_|refine cal @law19_awake ?_|refine cal @hL ?_)
   exact fin0
  |false=>
   rw [hla] at hL
   obtain ⟨_,_,htot,hps,hlen⟩:=large_fact hla
   have hn2:∀ p∈ps,p.1.length≤1099511627776:=fun p h=>by have:=totL_mem (List.mem_map_of_mem (f:=(·.1)) h);omega
   cases hok:maOk c (ps.map (·.1)) with
   |false=>
    have hN:=fun F (kp:RdL F 1 (.slice pu ps.length cu) ps.length (flat prc ps)) (kr:RdPr F ps)=>ma_New_no (F:=F) hc kp kr hn2 hok
    repeat (first|refine go ?_|intro _|refine dr_WiFi_6m ?_|refine drq ?_|refine cal @law19_awake ?_|refine cal @hL ?_|refine cal @hN ?_)
    exact fin0
   |true=>
    have hN:=fun F (kp:RdL F 1 (.slice pu ps.length cu) ps.length (flat prc ps)) (kr:RdPr F ps)=>ma_New (F:=F) hc kp kr hok
    repeat (first|refine go ?_|intro _|refine dr_WiFi_6m ?_|refine drq ?_|refine cal @law19_awake ?_|refine cal @hL ?_|refine cal @hN ?_)
    rename_i b3 bm
    (first|refine WO_front (MaP bm c (maNew c (ps.map (·.1)))) ?_|refine WC_front (MaP bm c (maNew c (ps.map (·.1)))) ?_|refine WE_front (MaP bm c (maNew c (ps.map (·.1)))) ?_)
    first|refine map_openO fun x=>?_|refine map_open fun x=>?_
    apply WC_loopE (E0:=[(1,_),(3,_),(7,_),(28,_),(29,_)]) (fun E0 (q:Nat×(Option Addr×Nat))=>(30,.int .i64 q.1)::E0) (fun q=>MaQ bm c (maPicks c (maNew c (mps ps)) (l.take q.1)) { x with pt:=q.2}::Cells b3 24 c.cells::Old W::F) (fun q=>q.1≤l.length) (fun q=>l.length-q.1) (0,x.pt)
    · exact zqU
    · exact Nat.zero_le _
    · show Ent _ (MaQ bm c (maNew c (mps ps)) x::_::Old W::F)
      exact entu0
    · rintro ⟨i,pt⟩ hi
      dsimp only at hi ⊢
      (first|refine WO_front (MaQ bm c (maPicks c (maNew c (mps ps)) (l.take i)) { x with pt:=pt}) ?_|refine WC_front (MaQ bm c (maPicks c (maNew c (mps ps)) (l.take i)) { x with pt:=pt}) ?_|refine WE_front (MaQ bm c (maPicks c (maNew c (mps ps)) (l.take i)) { x with pt:=pt}) ?_)
      refine maq_fact fun hx=>?_
      by_cases hlt:i<l.length
      · have hP:=fun F=>ma_Pick_at (F:=F) (b:=bm) hc hok (by omega) hpk hlt hx
        repeat (first|refine go ?_|intro _|refine dr_WiFi_6m ?_|refine drq ?_|refine cal @hP ?_)
        rename_i pt2
        refine WE_loop (i+1,pt2) (by dsimp only;omega) (by dsimp only;omega) ?_ ?_
        · exact zqU
        · exact entu0
      · have hI:=mi_pre hok l i hi
        have ht:(maPicks c (maNew c (mps ps)) (l.take i)).tr.length≤i:=tr_pre hok l i hi
        have ⟨e1,e2⟩:=ok_fine hok hI
        generalize hs:maPicks c (maNew c (mps ps)) (l.take i)=s at *
        generalize { x with pt:=pt}=x at *
        have hT:=fun F=>ma_Trace (F:=F) (b:=bm) hx (by omega)
        have hC:=fun F p d (k:RdL F 6 (.slice p s.tr.length d) s.tr.length (flat cmc s.tr)) (kp:RdL F 1 (.slice pu ps.length cu) ps.length (flat prc ps)) (kr:RdPr F ps)=>wi_Check (F:=F) (c:=c) hc k (by omega) kp kr
        rw [e1,e2] at hC
        repeat (first|refine go ?_|intro _|refine dr_WiFi_6m ?_|refine drq ?_|refine cal @hT ?_|refine cal @hC ?_)
        exact fin0
end Go.Sx
