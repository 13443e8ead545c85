/- GhP, WiQ, WiQR: several of my texts as one. My own work. -/
import Derived.Test.YtjihlpjnebdiiaaGreatZr
import Derived.Test.YtjihlpjnebdiiaaGreatZax
import Derived.Test.YtjihlpjnebdiiaaGreatZbe
import Derived.Test.YtjihlpjnebdiiaaGreatZaz
set_option linter.unusedVariables false
set_option linter.unusedSectionVars false
set_option linter.unusedSimpArgs false
/- What is told of a machine's lines; and that it is so. In plain Lean. My own work. -/
namespace Go.Sx
open Go Go.Proofs
def cnK (c:Cfg) (p:Nat→Bool):Nat:=(List.range c.cores.toNat).countP p
def gWay (c:Cfg) (s:MaS) (line:Int) (i:Nat):Way:=findW c (s.cs.getD i caZ).ways line
def gOw (w:Way):Bool:=decide (2≤w.st)
def gLive (s:MaS) (line:Int) (i:Nat):Bool:=(s.cs.getD i caZ).buf.any fun b=>decide (b.line=line)&& b.live
def fiK (c:Cfg) (p:Nat→Bool):Option Nat:=(List.range c.cores.toNat).find? p
def gBuf (s:MaS) (line:Int) (i:Nat):Words:=(((s.cs.getD i caZ).buf.find? fun b=>decide (b.line=line)&& b.live).map (·.words)).getD .zero
def gFinL (c:Cfg) (s:MaS) (line:Int):Words:=match fiK c (fun i=>gOw (gWay c s line i)) with
  |some i=>(gWay c s line i).words
  |none=>match fiK c (gLive s line) with
   |some i=>gBuf s line i
   |none=>hmLine c (s.hs.getD (lineH c line).toNat hmZ) line
def gFinV (c:Cfg) (s:MaS) (addr:Int):Int:=if okAddr c addr then (gFinL c s (addrL c addr)).list.getD (addrW c addr).toNat 0 else 0
theorem cnK_zero {c:Cfg} {p:Nat→Bool}:cnK c p=0↔∀ i:Nat,(i:Int)<c.cores→p i=false:=by
  unfold cnK
  rw [List.countP_eq_zero]
  constructor
  · intro h i hi
    have:=h i (List.mem_range.2 (by omega))
    simpa using this
  · intro h i hi
    have:=h i (by have:=List.mem_range.1 hi;omega)
    simp [this]
section
variable {c:Cfg} {ps:List (List Op3)} {n:Nat} {s:MaS} {line:Int}
theorem gv_st (i:Nat):(maV c s line).st i=(gWay c s line i).st∧(maV c s line).wd i=(gWay c s line i).words:=by
  have e:maCa s (i:Int)=s.cs.getD i caZ:=by
    unfold maCa maA
    rw [if_pos (by omega),Int.toNat_natCast]
  constructor
  · show cst c (maCa s (i:Int)) line=_;rw [e];rfl
  · show cwd c (maCa s (i:Int)) line=_;rw [e];rfl
theorem gv_ca (i:Nat):maCa s (i:Int)=s.cs.getD i caZ:=by
  unfold maCa maA
  rw [if_pos (by omega),Int.toNat_natCast]
theorem v_rng (hl:MaL c n s) {r:Int} (h:(maV c s line).st r≠0∨(maV c s line).bf r≠none):0≤r∧r<c.cores:=by
  have h0:∀ k:CaS,k=caZ→cst c k line=0∧cbf k line=none:=fun k e=>by
    subst e
    refine ⟨?_,rfl⟩
    unfold cst
    have:caZ.ways=List.replicate 0 .zero:=rfl
    rw [this,fst_vw,vw_new];rfl
  have key:maCa s r≠caZ:=fun e=>by
    rcases h with h|h
    · exact h (h0 _ e).1
    · exact h (h0 _ e).2
  have h1:0≤r:=Decidable.byContradiction fun g=>key (if_neg g)
  refine ⟨h1,Decidable.byContradiction fun g=>key ?_⟩
  have:=hl.la
  unfold maCa maA
  rw [if_pos h1,List.getD_eq_getElem?_getD,List.getElem?_eq_none (by omega)];rfl
theorem buf_view (i:Nat) {w:Words} (h:(maV c s line).bf i=some (w,true)):gLive s line i=true:=by
  have e:(maV c s line).bf i=(fk bln (s.cs.getD i caZ).buf line).map fun e=>(e.words,e.live):=by
    show cbf (maCa s (i:Int)) line=_
    rw [gv_ca];rfl
  rw [e] at h
  cases g:fk bln (s.cs.getD i caZ).buf line with
  |none=>rw [g] at h;cases h
  |some b=>
   rw [g] at h
   obtain ⟨g1,g2⟩:=fk_some g
   simp at h
   refine List.any_eq_true.2 ⟨b,g1,?_⟩
   have:b.line=line:=g2
   simp [this,h.2]
theorem rest_mem (h:MaI c ps n s) (hl:okLine c line=true) (ha:(maV c s line).act=none) (h1:cnK c (fun i=>gOw (gWay c s line i))=0) (h2:cnK c (gLive s line)=0):hmLine c (maHo c s line) line=lineWo c (trMs c s.tr) line:=by
  have hLI:=(h.t.1 _ hl).1
  have ho:(maV c s line).o= -1:=Decidable.byContradiction fun g=>by
    rcases rest_own hLI ha g with g1|⟨w,g1,g2⟩
    · obtain ⟨r0,r1⟩:=v_rng h.l (.inl (show (maV c s line).st (maV c s line).o≠0 by omega))
      obtain ⟨i,hi⟩:∃ i:Nat,(maV c s line).o=i:=⟨(maV c s line).o.toNat,by omega⟩
      rw [hi] at g1 r1
      rw [(gv_st (c:=c) (s:=s) (line:=line) i).1] at g1
      have:=cnK_zero.1 h1 i r1
      unfold gOw at this
      exact absurd g1 (of_decide_eq_false this)
    · obtain ⟨r0,r1⟩:=v_rng h.l (.inr (show (maV c s line).bf (maV c s line).o≠none by rw [g1];simp))
      obtain ⟨i,hi⟩:∃ i:Nat,(maV c s line).o=i:=⟨(maV c s line).o.toNat,by omega⟩
      rw [hi] at g1 r1
      have:=cnK_zero.1 h2 i r1
      rw [buf_view i g1] at this;cases this
  have hm:=hLI.mn ho
  have hm':lineWo c (maHo c s line).ms line=lineWo c (trMs c s.tr) line:=hm
  have hl':=hl
  unfold okLine at hl'
  simp only [Bool.and_eq_true,decide_eq_true_eq] at hl'
  have hb:=(cfg_bnd h.l.ok).2.1
  have eH:lineH c line=line % c.homes:=by unfold lineH;rw [if_pos hl]
  have r0:=Int.emod_nonneg line (show c.homes≠0 by omega)
  have r1:=Int.emod_lt_of_pos line (show 0<c.homes by omega)
  rw [←eH] at r0 r1
  have hI:=(h.l.hmi r0 r1).1
  have hown:hmOwn (maHo c s line) line=true:=by
    show hmOwn (maH s (lineH c line)) line=true
    rw [hI.own]
    exact decide_eq_true ⟨hl'.2.1,hl'.2.2,eH.symm⟩
  unfold hmLine
  rw [if_pos hown];exact hm'
theorem fi_some {p:Nat→Bool} {i:Nat} (h:fiK c p=some i):(i:Int)<c.cores∧p i=true:=by
  unfold fiK at h
  exact ⟨by have:=List.mem_range.1 (List.mem_of_find?_eq_some h);omega,List.find?_some h⟩
theorem fi_none {p:Nat→Bool} (h:fiK c p=none):cnK c p=0:=by
  unfold fiK at h
  unfold cnK
  rw [List.countP_eq_zero]
  exact List.find?_eq_none.1 h
theorem quiet_facts (h:maQuiet s=true):nall s.n=[]∧(∀ k∈s.ks,coLeft k=0)∧(∀ a∈s.cs,a.mis=[]∧a.buf=[])∧∀ x∈s.hs,x.q=[]:=by
  unfold maQuiet at h
  simp only [Bool.and_eq_true,decide_eq_true_eq,List.all_eq_true] at h
  exact ⟨h.1.1.1,h.1.1.2,h.1.2,fun x hx=>List.length_eq_zero_iff.1 (h.2 x hx)⟩
theorem final_quiet (h:MaI c ps n s) (hq:maQuiet s=true) {addr:Int} (ha:okAddr c addr=true):gFinV c s addr=valV c s.tr addr:=by
  obtain ⟨q1,q2,q3,q4⟩:=quiet_facts hq
  have hap:apOk c ⟨1,addr,0⟩=true:=by
    unfold apOk
    have ha':=ha
    simp only [okAddr,Bool.and_eq_true,decide_eq_true_eq] at ha'
    have hw:=check_words h.l.ok
    have:c.words*c.lines≤8*1024:=Int.mul_le_mul (by omega) (by omega) (by omega) (by omega)
    have hm:mayB ⟨1,addr,0⟩=true:=by
      unfold mayB
      simp;omega
    rw [hm]
    show (okAddr c addr&& true&& !decide ((1:Int)=4))=true
    rw [ha];rfl
  have hn:=trMs_len' h.l.ok s.tr
  obtain ⟨b1,_,_,_,_,b6,_⟩:=apply_same hn hap
  have b6':(lineWo c (trMs c s.tr) (addrL c addr)).list.getD (addrW c addr).toNat 0=wordAt (trMs c s.tr) addr:=b6
  have hl:okLine c (addrL c addr)=true:=by
    have b1':okJoin c (addrL c addr) 0=true:=b1
    simp only [okJoin,Bool.and_eq_true,decide_eq_true_eq] at b1'
    unfold okLine
    rw [h.l.ok,decide_eq_true (by omega)];rfl
  have key:gFinL c s (addrL c addr)=lineWo c (trMs c s.tr) (addrL c addr):=by
    have hLI:=(h.t.1 _ hl).1
    have hact:(maV c s (addrL c addr)).act=none:=by
      show actQ (addrL c addr) (maHo c s (addrL c addr)).q=none
      have:(maHo c s (addrL c addr)).q=[]:=by
        unfold maHo maH
        rw [List.getD_eq_getElem?_getD]
        cases e:s.hs[(lineH c (addrL c addr)).toNat]? with
        |none=>rfl
        |some x=>exact q4 x (List.mem_of_getElem? e)
      rw [this];rfl
    unfold gFinL
    cases e1:fiK c (fun i=>gOw (gWay c s (addrL c addr) i)) with
    |some i=>
     obtain ⟨_,hp⟩:=fi_some e1
     have hp':=of_decide_eq_true hp
     have e2:=gv_st (c:=c) (s:=s) (line:=addrL c addr) i
     have:=hLI.wn i (by rw [e2.1];omega)
     rw [e2.2] at this
     exact this
    |none=>
     have hlive:∀ i,gLive s (addrL c addr) i=false:=fun i=>by
       have:(s.cs.getD i caZ).buf=[]:=by
         rw [List.getD_eq_getElem?_getD]
         cases e:s.cs[i]? with
         |none=>rfl
         |some x=>exact (q3 x (List.mem_of_getElem? e)).2
       unfold gLive;rw [this];rfl
     have e3:fiK c (gLive s (addrL c addr))=none:=by
       unfold fiK
       rw [List.find?_eq_none]
       intro i _
       rw [hlive i];simp
     rw [e3]
     have:=rest_mem h hl hact (fi_none e1) (fi_none e3)
     exact this
  unfold gFinV valV
  rw [if_pos ha,key,b6',if_pos h.l.ok]
end
end Go.Sx

/- The laws of witnesses: when a machine is quiet. My own work. -/
namespace Go.Sx
open Go Go.Proofs
theorem finL_same {c:Cfg} {ps:List (List Op3)} {n:Nat} {s:MaS} (h:MaI c ps n s) (hq:maQuiet s=true) (line:Int) (hl:(lineH c line).toNat=(lineH c line).toNat):finL c s line=gFinL c s line:=by
  obtain ⟨_,_,q3,_⟩:=quiet_facts hq
  have hla:=h.l.la
  have hg:∀ i (hi:i<s.cs.length),gWay c s line i=findW c s.cs[i].ways line:=fun i hi=>by
    unfold gWay;rw [List.getD_eq_getElem?_getD,List.getElem?_eq_getElem hi];rfl
  have hlive:∀ i,gLive s line i=false:=fun i=>by
    have:(s.cs.getD i caZ).buf=[]:=by
      rw [List.getD_eq_getElem?_getD]
      cases e:s.cs[i]? with
      |none=>rfl
      |some x=>exact (q3 x (List.mem_of_getElem? e)).2
    unfold gLive;rw [this];rfl
  have e3:fiK c (gLive s line)=none:=by
    unfold fiK
    rw [List.find?_eq_none]
    intro i _
    rw [hlive i];simp
  have e4:fin2 s.cs line=none:=fin2_no fun i hi=>by
    rw [(q3 _ (List.getElem_mem hi)).2];rfl
  unfold finL gFinL
  rw [e3,e4]
  cases e1:fiK c (fun i=>gOw (gWay c s line i)) with
  |some i=>
   obtain ⟨h1,h2⟩:=fi_some e1
   have hi:i<s.cs.length:=by omega
   have h3:∀ j (hj:j<s.cs.length),j<i→¬2≤(findW c s.cs[j].ways line).st:=fun j hj hji=>by
     unfold fiK at e1
     rw [List.find?_range_eq_some] at e1
     have:=e1.2.2 j hji
     rw [hg j hj] at this
     simpa [gOw] using this
   have h4:2≤(findW c s.cs[i].ways line).st:=by
     rw [hg i hi] at h2
     simpa [gOw] using h2
   rw [fin1_at hi h3 h4]
   dsimp only
   rw [hg i hi]
  |none=>
   have h0:=fi_none e1
   rw [cnK_zero] at h0
   have h5:fin1 c s.cs line=none:=fin1_no fun i hi=>by
     have:=h0 i (by omega)
     rw [hg i hi] at this
     simpa [gOw] using this
   rw [h5]
   rfl
theorem finV_quiet {c:Cfg} {ps:List (List Op3)} {n:Nat} {s:MaS} (h:MaI c ps n s) (hq:maQuiet s=true) {addr:Int} (ha:okAddr c addr=true):finV c s addr=valV c s.tr addr:=by
  rw [←final_quiet h hq ha]
  unfold finV gFinV
  rw [finL_same h hq _ rfl]
theorem picks_app {c:Cfg} {s:MaS} {ks l:List Pk} {i:Nat} (hi:i<l.length):maPicks c s (ks++l.take (i+1))=maPick c (maPicks c s (ks++l.take i)) l[i]:=by
  unfold maPicks
  rw [List.foldl_append,List.foldl_append]
  exact maPicks_succ (s:=ks.foldl (maPick c) s) hi
theorem mi_all {c:Cfg} {ps:List (List Op3)} (h:maOk c ps=true) (ks:List Pk):MaI c ps ks.length (maPicks c (maNew c ps) ks):=by
  have:=(MaI.new h).picks ks
  rwa [Nat.zero_add] at this
theorem tr_all' {c:Cfg} {ps:List (List Op3)} (h:maOk c ps=true) (ks:List Pk):(maPicks c (maNew c ps) ks).tr.length≤ks.length:=by
  have:=picks_tr (MaL.new h) ks
  have e:(maNew c ps).tr.length=0:=rfl
  rw [e] at this
  omega
set_option maxRecDepth 100000
set_option maxHeartbeats 4000000
attribute [local irreducible] Go.Exit.then Go.Exit.inBlock Go.Code.wp WC WO WE WQ V LoopQ FnQ Sat Star band bor IntKind.wrap WR Code.rounds WT KO
theorem law19_Quiet {W:World} {F:List HP} {c:Cfg} {ps:List PrQ} {pu pv:Option Addr} {cu cv:Nat} {l:List Pk} (hc:c.wf) [k:ROld W 3 (.slice pv l.length cv) l.length (flat pkc l)] (hl:l.length≤1000000000000000) (hpk:∀ p∈l,Pk.wf p) [kp:ROld W 1 (.slice pu ps.length cu) ps.length (flat prc ps)] (hp:ps.length≤1000000000000000) (hn:∀ p∈ps,p.1.length≤1000000000000000) (kr:OldPs W ps) :
    FnF Tryz.prog 7 [c.val,.slice pu ps.length cu,.slice pv l.length cv] [Old W] F (fun r L'=>r= .bool true∧L'=[Old W]):=by
  have hL:=fun F (kp:RdL F 1 (.slice pu ps.length cu) ps.length (flat prc ps))=>r18_Large (F:=F) (c:=c) (ps:=ps) (k:=l.length) kp hp hn
  haveI:=kr.rd
  refine FnF.mk' Tryz.func7 rfl rfl Tryz.ntmps7 rfl ?_
  cases hla:large18 c (ps.map (·.1)) l.length with
  |true=>
   rw [hla] at hL
   repeat (first|refine gd ?_|intro _|refine cal @law19_awake ?_|refine cal @hL ?_)
   exact fin0
  |false=>
   rw [hla] at hL
   obtain ⟨_,_,htot,hps,hlen⟩:=large_fact hla
   have hn2:∀ p∈ps,p.1.length≤1099511627776:=fun p h=>by have:=totL_mem (List.mem_map_of_mem (f:=(·.1)) h);omega
   cases hok:maOk c (ps.map (·.1)) with
   |false=>
    have hN:=fun F (kp:RdL F 1 (.slice pu ps.length cu) ps.length (flat prc ps)) (kr:RdPr F ps)=>ma_New_no (F:=F) hc kp kr hn2 hok
    repeat (first|refine gd ?_|intro _|refine cal @law19_awake ?_|refine cal @hL ?_|refine cal @hN ?_)
    exact fin0
   |true=>
    have hN:=fun F (kp:RdL F 1 (.slice pu ps.length cu) ps.length (flat prc ps)) (kr:RdPr F ps)=>ma_New (F:=F) hc kp kr hok
    have hck:checkB c=true:=by
      have:=hok
      simp only [maOk,Bool.and_eq_true] at this
      exact this.1.1
    have hww:=check_words hck
    have hwl:0≤c.words*c.lines∧c.words*c.lines≤8*1024:=⟨Int.mul_nonneg (by omega) (by omega),Int.mul_le_mul (by omega) (by omega) (by omega) (by omega)⟩
    repeat (first|refine gd ?_|intro _|refine cal @law19_awake ?_|refine cal @hL ?_|refine cal @hN ?_)
    rename_i b3 bm
    (first|refine WO_front (MaP bm c (maNew c (ps.map (·.1)))) ?_|refine WC_front (MaP bm c (maNew c (ps.map (·.1)))) ?_|refine WE_front (MaP bm c (maNew c (ps.map (·.1)))) ?_)
    first|refine map_openO fun x=>?_|refine map_open fun x=>?_
    apply WC_loopE (E0:=[(2,_),(3,_),(7,_)]) (fun E0 (q:Nat×List Pk×(Option Addr×Nat))=>(9,.int .i64 q.1)::E0) (fun q=>MaQ bm c (maPicks c (maNew c (mps ps)) q.2.1) { x with pt:=q.2.2}::Cells b3 24 c.cells::Old W::F) (fun q=>q.1≤20∧q.2.1.length≤300*q.1∧∀ p∈q.2.1,Pk.wf p) (fun q=>20-q.1) (0,[],x.pt)
    · exact zqU
    · exact ⟨Nat.zero_le _,Nat.zero_le _,fun p hp=>by cases hp⟩
    · show Ent _ (MaQ bm c (maNew c (mps ps)) x::_::Old W::F)
      exact entu0
    · rintro ⟨i,ks,pt⟩ ⟨hi,hks,hkw⟩
      dsimp only at hi hks hkw ⊢
      (first|refine WO_front (MaQ bm c (maPicks c (maNew c (mps ps)) ks) { x with pt:=pt}) ?_|refine WC_front (MaQ bm c (maPicks c (maNew c (mps ps)) ks) { x with pt:=pt}) ?_|refine WE_front (MaQ bm c (maPicks c (maNew c (mps ps)) ks) { x with pt:=pt}) ?_)
      refine maq_fact fun hx=>?_
      have hI:=mi_all hok ks
      have ht:(maPicks c (maNew c (mps ps)) ks).tr.length≤ks.length:=tr_all' hok ks
      have hk0:∀ k∈(maPicks c (maNew c (mps ps)) ks).ks,k.rs.length≤k.l.length∧k.l.length≤64:=fun k hk=>⟨(hI.l.kp k hk).2,by have:=(hI.l.kp k hk).1;unfold progB at this;simp only [Bool.and_eq_true,decide_eq_true_eq] at this;omega⟩
      have hQ:=fun F=>ma_Quiet (F:=F) (b:=bm) hx hk0
      by_cases hgo:i<20∧maQuiet (maPicks c (maNew c (mps ps)) ks)=false
      · obtain ⟨h20,hqf⟩:=hgo
        rw [hqf] at hQ
        repeat (first|refine gd ?_|intro _|refine cal @hQ ?_)
        apply WC_loopE (E0:=[(2,_),(3,_),(7,_),(9,_),(40,_),(41,_)]) (fun E0 (q:Nat×(Option Addr×Nat))=>(42,.int .i64 q.1)::E0) (fun q=>MaQ bm c (maPicks c (maNew c (mps ps)) (ks++l.take q.1)) { x with pt:=q.2}::Cells b3 24 c.cells::Old W::F) (fun q=>q.1≤l.length) (fun q=>l.length-q.1) (0,pt)
        · exact zqU
        · exact Nat.zero_le _
        · rw [List.take_zero,List.append_nil]
          exact entu0
        · rintro ⟨j,pt1⟩ hj
          dsimp only at hj ⊢
          (first|refine WO_front (MaQ bm c (maPicks c (maNew c (mps ps)) (ks++l.take j)) { x with pt:=pt1}) ?_|refine WC_front (MaQ bm c (maPicks c (maNew c (mps ps)) (ks++l.take j)) { x with pt:=pt1}) ?_|refine WE_front (MaQ bm c (maPicks c (maNew c (mps ps)) (ks++l.take j)) { x with pt:=pt1}) ?_)
          refine maq_fact fun hx1=>?_
          have hI1:=mi_all hok (ks++l.take j)
          have ht1:(maPicks c (maNew c (mps ps)) (ks++l.take j)).tr.length≤(ks++l.take j).length:=tr_all' hok _
          have hkl:(ks++l.take j).length=ks.length+j:=by rw [List.length_append,List.length_take,Nat.min_eq_left hj]
          by_cases hlt:j<l.length
          · have hP:=fun F=>ma_Pick (F:=F) (b:=bm) (s:=maPicks c (maNew c (mps ps)) (ks++l.take j)) (p:=l[j]) hc hI1.l (by omega) (by omega) (hpk _ (List.getElem_mem hlt)) hx1
            rw [←picks_app hlt] at hP
            repeat (first|refine gd ?_|intro _|refine cal @hP ?_)
            rename_i pt2
            refine WE_loop (j+1,pt2) (by dsimp only;omega) (by dsimp only;omega) ?_ ?_
            · exact zqU
            · exact entu0
          · have hjl:j=l.length:=by omega
            repeat (first|refine gd ?_|intro _)
            refine WE_loop (i+1,ks++l.take j,pt1) (by dsimp only;omega) ⟨by dsimp only;omega,by dsimp only;omega,fun p hp=>?_⟩ ?_ ?_
            · rcases List.mem_append.1 hp with g|g
              · exact hkw p g
              · exact hpk p (List.mem_of_mem_take g)
            · exact zqU
            · exact entu0
      · generalize hs:maPicks c (maNew c (mps ps)) ks=s at *
        generalize { x with pt:=pt}=x at *
        have hT:=fun F=>ma_Trace (F:=F) (b:=bm) hx (by omega)
        have hcs:(if i<20 then 1 else 0)=(if i<20 then 1 else 0):=rfl
        cases hq:maQuiet s with
        |false=>
         rw [hq] at hQ
         have h20:¬i<20:=fun h=>hgo ⟨h,hq⟩
         repeat (first|refine gd ?_|intro _|refine cal @hQ ?_|refine cal @hT ?_)
         rename_i qt
         apply WC_loopE (E0:=[(3,_),(7,_),(12,_)]) (fun E0 (j:Nat)=>(13,.int .i64 j)::E0) (fun _=>MaQ bm c s x::Cells b3 24 c.cells::Old W::F) (fun _=>True) (fun _=>0) 0
         · exact zqU
         · trivial
         · exact entu0
         · rintro j hj
           repeat (first|refine gd ?_|intro _|refine cal @hQ ?_)
           exact fin0
        |true=>
         have hQ0:=hQ
         rw [hq] at hQ
         by_cases h20:i<20
         all_goals
           repeat (first|refine gd ?_|intro _|refine cal @hQ ?_|refine cal @hT ?_)
           rename_i qt
           apply WC_loopE (E0:=[(3,_),(7,_),(12,_)]) (fun E0 (j:Nat)=>(13,.int .i64 j)::E0) (fun _=>Own 60 6 (.slice qt.1 s.tr.length qt.2) s.tr.length (flat cmc s.tr)::MaQ bm c s x::Cells b3 24 c.cells::Old W::F) (fun j=>(j:Int)≤c.words*c.lines) (fun j=>(c.words*c.lines).toNat-j) 0
           · exact zqU
           · omega
           · exact entu0
           · rintro j hj
             by_cases hjw:(j:Int)<c.words*c.lines
             · have hoa:okAddr c (j:Int)=true:=by
                 unfold okAddr
                 rw [hck,decide_eq_true (by omega)];rfl
               have hF:=fun F=>wi_Final (F:=F) (b:=bm) (c:=c) (s:=s) (x:=x) (addr:=(j:Int)) hc (by unfold I64;omega)
               have hV:=fun F (k:RdL F 6 (.slice qt.1 s.tr.length qt.2) s.tr.length (flat cmc s.tr))=>wi_Value (F:=F) (c:=c) (addr:=(j:Int)) hc k (by omega)
               rw [hoa,finV_quiet hI hq hoa] at hF
               generalize valV c s.tr (j:Int)=v at hF hV
               have hne:¬(v≠v):=fun h=>h rfl
               repeat (first|refine gd ?_|intro _|refine cal @hQ ?_|refine cal @hF ?_|refine cal @hV ?_)
               refine WE_loop (j+1) (by omega) (by omega) ?_ ?_
               · exact zqU
               · exact entu0
             · repeat (first|refine gd ?_|intro _|refine cal @hQ ?_)
               exact fin0
end Go.Sx

/- Programs and picks, read: when a machine is quiet. My own work. -/
namespace Go.Sx
open Go Go.Proofs Go.ChangeShapes Go.WideShapes
theorem old19_Quiet {W:World} {F:List HP} {c:Cfg} {ps:List PrQ} {u v:Value} {l:List Pk} (hc:c.wf) (hp:∀ p∈ps,PrQ.ok W p) (hl:∀ p∈l,Pk.wf p) (kp:ROld W 1 u ps.length (flat prc ps)) (bp:ps.length*Tryz.prog.bytesOf 61≤reachBytes) (k:ROld W 3 v l.length (flat pkc l)) (bl:l.length*Tryz.prog.bytesOf 34≤reachBytes) :
    FnF Tryz.prog 7 [c.val,u,v] [Old W] F (fun r L'=>r= .bool true∧L'=[Old W]):=
  old18 hp kp bp k bl fun pu pv cu cv a b d e g h=>law19_Quiet hc b hl e g h
end Go.Sx
