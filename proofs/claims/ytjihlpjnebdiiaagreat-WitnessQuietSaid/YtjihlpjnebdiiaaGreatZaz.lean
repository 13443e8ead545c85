/- Lg, MaEn, MaRd: several of my texts as one. My own work. -/
import Derived.Test.YtjihlpjnebdiiaaGreatZr
import Derived.Test.YtjihlpjnebdiiaaGreatZan
import Derived.Test.YtjihlpjnebdiiaaGreatZay
import Derived.Test.YtjihlpjnebdiiaaGreatZax
set_option linter.unusedVariables false
set_option linter.unusedSectionVars false
set_option linter.unusedSimpArgs false
/- Machines that are more than statements look at. My own work. -/
namespace Go.Sx
open Go Go.Proofs
def totL (ps:List (List Op3)):Nat:=(ps.map List.length).sum
def large18 (c:Cfg) (ps:List (List Op3)) (k:Int):Bool:=decide ((8<c.cores∧c.cores≤64)∨(32<c.lines∧c.lines≤1024)∨80<totL ps∨100<ps.length∨300<k)
theorem totL_take {ps:List PrQ} {i:Nat} (hi:i<ps.length):totL ((ps.take (i+1)).map (·.1))=totL ((ps.take i).map (·.1))+ps[i].1.length:=by
  unfold totL
  rw [List.take_add_one,List.getElem?_eq_getElem hi,Option.toList_some,List.map_append,List.map_append,List.sum_append]
  simp
theorem totL_le {ps:List PrQ} (i:Nat):totL ((ps.take i).map (·.1))≤totL (ps.map (·.1)):=by
  have:ps.map (·.1)=(ps.take i).map (·.1)++(ps.drop i).map (·.1):=by rw [←List.map_append,List.take_append_drop]
  unfold totL
  rw [this,List.map_append,List.sum_append]
  omega
theorem totL_mem {ps:List (List Op3)} {l:List Op3} (h:l∈ps):l.length≤totL ps:=by
  unfold totL
  induction ps with
  |nil=>cases h
  |cons a r ih=>
   rw [List.map_cons,List.sum_cons]
   rcases List.mem_cons.1 h with rfl|h
   · omega
   · have:=ih h;omega
set_option maxRecDepth 100000
set_option maxHeartbeats 4000000
attribute [local irreducible] Go.Exit.then Go.Exit.inBlock Go.Code.wp WC WO WE WQ V LoopQ FnQ Sat Star band bor IntKind.wrap WR Code.rounds WT KO
theorem r18_Large {F:List HP} {c:Cfg} {ps:List PrQ} {v:Value} {k:Int} (hk:RdL F 1 v ps.length (flat prc ps)) (hp:ps.length≤1000000000000000) (hn:∀ p∈ps,p.1.length≤1000000000000000) :
    FnF Tryz.prog 16 [c.val,v,.int .i64 k] [] F (fun r L'=>r= .bool (large18 c (ps.map (·.1)) k)∧L'=[]):=by
  refine FnF.mk' Tryz.func16 rfl rfl Tryz.ntmps16 rfl ?_
  repeat (first|refine gd ?_|intro _)
  rename_i b3
  apply WC_loopE (E0:=[(1,_),(2,_),(3,_)]) (fun E0 (i:Nat)=>(8,.int .i64 i)::(7,.int .i64 (totL ((ps.take i).map (·.1))))::E0) (fun _=>Cells b3 24 c.cells::F) (fun i=>i≤ps.length∧totL ((ps.take i).map (·.1))≤1000000000000080) (fun i=>ps.length-i) 0
  · exact zqU
  · exact ⟨Nat.zero_le _,by simp [totL]⟩
  · exact entu0
  · rintro i ⟨hi,hb⟩
    by_cases hlt:i<ps.length∧totL ((ps.take i).map (·.1))≤80
    · obtain ⟨hlt,h80⟩:=hlt
      have hst:=totL_take hlt
      have hl:=hn _ (List.getElem_mem hlt)
      generalize totL ((ps.take i).map (·.1))=t at hst h80 hb ⊢
      repeat (first|refine gd ?_|intro _)
      refine WE_loop (i+1) (by omega) ⟨by omega,by omega⟩ ?_ ?_
      · simp only [hst];exact zqU
      · exact entu0
    · have htot:80<totL (ps.map (·.1))↔80<totL ((ps.take i).map (·.1)):=by
        by_cases h1:80<totL ((ps.take i).map (·.1))
        · have:=totL_le (ps:=ps) i;constructor<;>intro<;>omega
        · have h2:i=ps.length:=by omega
          rw [h2,List.take_length]
      have hex:¬(i:Int)<ps.length∨¬((totL ((ps.take i).map (·.1)):Nat):Int)≤80:=by omega
      unfold large18
      simp only [htot,List.length_map]
      generalize totL ((ps.take i).map (·.1))=t at hlt hb hex ⊢
      rcases hex with hex|hex
      all_goals repeat' (first|refine gd ?_|intro _|refine spl ?_ ?_|fail)
      all_goals (apply WE_ret rfl rfl zqR;(refine ⟨congrArg Value.bool ?_,rfl⟩;(first|(refine decide_eq_decide.2 ?_)|(refine (decide_eq_true ?_).symm)|(refine (decide_eq_false ?_).symm));(first|omega|(simp only [];omega)));exact zqN)
end Go.Sx

/- The laws of machines: nothing is odd. My own work. -/
namespace Go.Sx
open Go Go.Proofs
def OldPs (W:World) (ps:List PrQ):Prop:=∀ p∈ps,ROld W 3 (.slice p.2.1 p.1.length p.2.2) p.1.length (flat oc p.1)
theorem OldPs.rd {W:World} {ps:List PrQ} (k:OldPs W ps) (L:List HP):RdPr (Old W::L) ps:=⟨fun p hp=>by haveI:=k p hp;exact inferInstance⟩
theorem large_fact {c:Cfg} {ps:List (List Op3)} {k:Int} (h:large18 c ps k=false):¬(8<c.cores∧c.cores≤64)∧¬(32<c.lines∧c.lines≤1024)∧totL ps≤80∧ps.length≤100∧k≤300:=by
  simp only [large18,decide_eq_false_iff_not] at h
  omega
abbrev mps (ps:List PrQ):List (List Op3):=ps.map (·.1)
theorem mi_pre {c:Cfg} {ps:List (List Op3)} (h:maOk c ps=true) (l:List Pk) (i:Nat) (hi:i≤l.length):MaI c ps i (maPicks c (maNew c ps) (l.take i)):=by
  have:=(MaI.new h).picks (l.take i)
  rw [List.length_take,Nat.min_eq_left hi,Nat.zero_add] at this
  exact this
theorem tr_pre {c:Cfg} {ps:List (List Op3)} (h:maOk c ps=true) (l:List Pk) (i:Nat) (hi:i≤l.length):(maPicks c (maNew c ps) (l.take i)).tr.length≤i:=by
  have:=picks_tr (MaL.new h) (l.take i)
  have e:(maNew c ps).tr.length=0:=rfl
  rw [List.length_take,Nat.min_eq_left hi,e] at this
  omega
set_option maxRecDepth 100000
set_option maxHeartbeats 4000000
attribute [local irreducible] Go.Exit.then Go.Exit.inBlock Go.Code.wp WC WO WE WQ V LoopQ FnQ Sat Star band bor IntKind.wrap WR Code.rounds WT KO
theorem ma_Pick_at {F:List HP} {b:Nat} {c:Cfg} {ps:List (List Op3)} {l:List Pk} {x:MaX} {i:Nat} (hw:c.wf) (hok:maOk c ps=true) (hl:l.length≤300) (hp:∀ p∈l,Pk.wf p) (hi:i<l.length) (hx:MaF c (maPicks c (maNew c ps) (l.take i)) x) :
    FnF Tryz.prog 18 [.pointer (some ⟨b,0,none⟩),pkv l[i]] [MaQ b c (maPicks c (maNew c ps) (l.take i)) x] F (fun r L'=>∃ pt:Option Addr×Nat,r= .bool (maPickB c (maPicks c (maNew c ps) (l.take i)) l[i])∧L'=[MaQ b c (maPicks c (maNew c ps) (l.take (i+1))) { x with pt:=pt}]):=by
  have h:=ma_Pick (F:=F) (b:=b) (x:=x) (p:=l[i]) hw (mi_pre hok l i (by omega)).l (by omega) (by have:=tr_pre hok l i (by omega);omega) (hp _ (List.getElem_mem hi)) hx
  rw [←maPicks_succ hi] at h
  exact h
theorem law18_Entries {W:World} {F:List HP} {c:Cfg} {ps:List PrQ} {pu pv:Option Addr} {cu cv:Nat} {l:List Pk} (hc:c.wf) [k:ROld W 3 (.slice pv l.length cv) l.length (flat pkc l)] (hl:l.length≤1000000000000000) (hpk:∀ p∈l,Pk.wf p) [kp:ROld W 1 (.slice pu ps.length cu) ps.length (flat prc ps)] (hp:ps.length≤1000000000000000) (hn:∀ p∈ps,p.1.length≤1000000000000000) (kr:OldPs W ps) :
    FnF Tryz.prog 3 [c.val,.slice pu ps.length cu,.slice pv l.length cv] [Old W] F (fun r L'=>r= .bool true∧L'=[Old W]):=by
  have hL:=fun F (kp:RdL F 1 (.slice pu ps.length cu) ps.length (flat prc ps))=>r18_Large (F:=F) (c:=c) (ps:=ps) (k:=l.length) kp hp hn
  haveI:=kr.rd
  refine FnF.mk' Tryz.func3 rfl rfl Tryz.ntmps3 rfl ?_
  cases hla:large18 c (ps.map (·.1)) l.length with
  |true=>
   rw [hla] at hL
   repeat (first|refine gd ?_|intro _|refine cal @law18_awake ?_|refine cal @hL ?_)
   exact fin0
  |false=>
   rw [hla] at hL
   obtain ⟨_,_,htot,hps,hlen⟩:=large_fact hla
   have hn2:∀ p∈ps,p.1.length≤1099511627776:=fun p h=>by have:=totL_mem (List.mem_map_of_mem (f:=(·.1)) h);omega
   cases hok:maOk c (ps.map (·.1)) with
   |false=>
    have hN:=fun F (kp:RdL F 1 (.slice pu ps.length cu) ps.length (flat prc ps)) (kr:RdPr F ps)=>ma_New_no (F:=F) hc kp kr hn2 hok
    repeat (first|refine gd ?_|intro _|refine cal @law18_awake ?_|refine cal @hL ?_|refine cal @hN ?_)
    exact fin0
   |true=>
    have hN:=fun F (kp:RdL F 1 (.slice pu ps.length cu) ps.length (flat prc ps)) (kr:RdPr F ps)=>ma_New (F:=F) hc kp kr hok
    repeat (first|refine gd ?_|intro _|refine cal @law18_awake ?_|refine cal @hL ?_|refine cal @hN ?_)
    rename_i bm
    (first|refine WO_front (MaP bm c (maNew c (ps.map (·.1)))) ?_|refine WC_front (MaP bm c (maNew c (ps.map (·.1)))) ?_|refine WE_front (MaP bm c (maNew c (ps.map (·.1)))) ?_)
    first|refine map_openO fun x=>?_|refine map_open fun x=>?_
    apply WC_loopE (E0:=[(7,_),(28,_),(29,_)]) (fun E0 (q:Nat×(Option Addr×Nat))=>(30,.int .i64 q.1)::E0) (fun q=>MaQ bm c (maPicks c (maNew c (mps ps)) (l.take q.1)) { x with pt:=q.2}::Old W::F) (fun q=>q.1≤l.length) (fun q=>l.length-q.1) (0,x.pt)
    · exact zqU
    · exact Nat.zero_le _
    · show Ent _ (MaQ bm c (maNew c (mps ps)) x::Old W::F)
      exact entu0
    · rintro ⟨i,pt⟩ hi
      dsimp only at hi ⊢
      (first|refine WO_front (MaQ bm c (maPicks c (maNew c (mps ps)) (l.take i)) { x with pt:=pt}) ?_|refine WC_front (MaQ bm c (maPicks c (maNew c (mps ps)) (l.take i)) { x with pt:=pt}) ?_|refine WE_front (MaQ bm c (maPicks c (maNew c (mps ps)) (l.take i)) { x with pt:=pt}) ?_)
      refine maq_fact fun hx=>?_
      by_cases hlt:i<l.length
      · have hP:=fun F=>ma_Pick_at (F:=F) (b:=bm) hc hok (by omega) hpk hlt hx
        repeat (first|refine gd ?_|intro _|refine cal @hP ?_)
        rename_i pt2
        refine WE_loop (i+1,pt2) (by dsimp only;omega) (by dsimp only;omega) ?_ ?_
        · exact zqU
        · exact entu0
      · have hI:=mi_pre hok l i hi
        have hO:=fun F=>ma_Odd (F:=F) (b:=bm) hx hI.o (fun y hy=>(hI.f y hy).od)
        repeat (first|refine gd ?_|intro _|refine cal @hO ?_)
        exact fin0
end Go.Sx

/- Programs and picks, read. My own work. -/
namespace Go.Sx
open Go Go.Proofs Go.ChangeShapes Go.WideShapes
theorem rd_Pk {H:Type} (enc:TypeId×Value→H) (W:World) {cs:List Value} (h:LeafsOkS enc Tryz.prog W (List.replicate 3 (.int .i64)) cs):∃ x:Pk,x.wf∧cs=pkc x∧(pkc x).all one=true:=by
  simp only [List.replicate] at h
  obtain ⟨a0,cs,rfl,w0,h⟩:=leafsS_int enc _ W h
  obtain ⟨a1,cs,rfl,w1,h⟩:=leafsS_int enc _ W h
  obtain ⟨a2,cs,rfl,w2,h⟩:=leafsS_int enc _ W h
  obtain rfl:=leafsS_nil enc _ W h
  exact ⟨⟨a0,a1,a2⟩,⟨w0,w1,w2⟩,rfl,rfl⟩
theorem old_ps {W:World} {ps:List PrQ} (h:∀ p∈ps,PrQ.ok W p):OldPs W ps:=fun p hp=>(h p hp).1
theorem old_ln {n k b:Nat} (h:n*b≤reachBytes) (hb:b=k) (h0:0<k):n≤1000000000000000:=by
  subst hb
  have hr:reachBytes=140737488351232:=rfl
  rw [hr] at h
  have:n*1≤n*b:=Nat.mul_le_mul_left n h0
  omega
theorem old18 {W:World} {F:List HP} {f:FuncId} {c:Cfg} {ps:List PrQ} {u v:Value} {l:List Pk} (hp:∀ p∈ps,PrQ.ok W p) (kp:ROld W 1 u ps.length (flat prc ps)) (bp:ps.length*Tryz.prog.bytesOf 61≤reachBytes) (k:ROld W 3 v l.length (flat pkc l)) (bl:l.length*Tryz.prog.bytesOf 34≤reachBytes)
    (law:∀ (pu pv:Option Addr) (cu cv:Nat),ROld W 3 (.slice pv l.length cv) l.length (flat pkc l)→l.length≤1000000000000000→ROld W 1 (.slice pu ps.length cu) ps.length (flat prc ps)→ps.length≤1000000000000000→(∀ p∈ps,p.1.length≤1000000000000000)→OldPs W ps→
      FnF Tryz.prog f [c.val,.slice pu ps.length cu,.slice pv l.length cv] [Old W] F (fun r L'=>r= .bool true∧L'=[Old W])) :
    FnF Tryz.prog f [c.val,u,v] [Old W] F (fun r L'=>r= .bool true∧L'=[Old W]):=by
  obtain ⟨pu,cu,rfl⟩:=slice_shape kp
  obtain ⟨pv,cv,rfl⟩:=slice_shape k
  exact law pu pv cu cv k (old_ln (k:=24) bl (by kernel_rfl) (by decide)) kp (old_ln (k:=24) bp (by kernel_rfl) (by decide)) (fun p h=>(hp p h).2.2) (old_ps hp)
theorem old18_Entries {W:World} {F:List HP} {c:Cfg} {ps:List PrQ} {u v:Value} {l:List Pk} (hc:c.wf) (hp:∀ p∈ps,PrQ.ok W p) (hl:∀ p∈l,Pk.wf p) (kp:ROld W 1 u ps.length (flat prc ps)) (bp:ps.length*Tryz.prog.bytesOf 61≤reachBytes) (k:ROld W 3 v l.length (flat pkc l)) (bl:l.length*Tryz.prog.bytesOf 34≤reachBytes) :
    FnF Tryz.prog 3 [c.val,u,v] [Old W] F (fun r L'=>r= .bool true∧L'=[Old W]):=
  old18 hp kp bp k bl fun pu pv cu cv a b d e g h=>law18_Entries hc b hl e g h
end Go.Sx
