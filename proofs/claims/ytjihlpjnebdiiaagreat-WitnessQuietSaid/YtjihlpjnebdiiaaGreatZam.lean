/- Hom5, HomPl2, Net, Ma, CaE, WiPl: several of my texts as one. My own work. -/
import Derived.Test.YtjihlpjnebdiiaaGreatZr
import Derived.Test.YtjihlpjnebdiiaaGreatZal
import Derived.Test.YtjihlpjnebdiiaaGreatZah
import Derived.Test.YtjihlpjnebdiiaaGreatZaa
import Derived.Test.YtjihlpjnebdiiaaGreatZai
import Derived.Test.YtjihlpjnebdiiaaGreatZaf
import Derived.Test.YtjihlpjnebdiiaaGreatZae
set_option linter.unusedVariables false
set_option linter.unusedSectionVars false
set_option linter.unusedSimpArgs false
/- What homes do: a new one. The program's. My own work. -/
namespace Go.Sx
open Go Go.Proofs
def hmE0 (c:Cfg):TEnt:=⟨-1,⟨c.cores,c.pointers,[],false⟩⟩
def hmN0 (c:Cfg) (l:List Int):List (Int×HRd):=l.foldl (fun m k=>mset m k (hmE0 c,none,0)) []
def hmEs (c:Cfg) (l:List Int):List (Int×TEnt):=l.foldl (fun m k=>mset m k (hmE0 c)) []
theorem hmN0_es (c:Cfg) (l:List Int):hes (hmN0 c l)=hmEs c l:=by
  have:∀ (l:List Int) (m:List (Int×HRd)),hes (l.foldl (fun m k=>mset m k (hmE0 c,none,0)) m)=l.foldl (fun m k=>mset m k (hmE0 c)) (hes m):=by
    intro l
    induction l with
    |nil=>intro m;rfl
    |cons a r ih=>intro m;rw [List.foldl_cons,List.foldl_cons,ih,hes_mset]
  exact this l []
theorem hmEs_get (c:Cfg) (l:List Int) (k:Int):mget (hmEs c l) k=if k∈l then some (hmE0 c) else none:=by
  have:∀ (l:List Int) (m:List (Int×TEnt)),mget (l.foldl (fun m k=>mset m k (hmE0 c)) m) k=if k∈l then some (hmE0 c) else mget m k:=by
    intro l
    induction l with
    |nil=>intro m;simp
    |cons a r ih=>
     intro m
     rw [List.foldl_cons,ih,mget_mset]
     by_cases h1:k∈r
     · simp [h1]
     · by_cases h2:k=a<;>simp [h1,h2]
  exact this l []
def hmNew (c:Cfg) (num:Int):HomS:=⟨hmEs c (linesL c num),List.replicate (c.words*c.lines).toNat 0,[],0⟩
theorem may_e0 {c:Cfg} (h:checkB c=true):shMay ⟨c.cores,c.pointers,[],false⟩=true:=by
  simp only [checkB,fitsB,Bool.and_eq_true,decide_eq_true_eq] at h
  refine may_mk' (by dsimp only;omega) (by dsimp only;omega) (by dsimp only;omega) (by dsimp only;omega) (by simp;omega) (fun h=>by cases h) List.Pairwise.nil (fun c hc=>by cases hc)
def newOk (c:Cfg) (num:Int):Bool:=checkB c&& decide (0≤num∧num<c.homes)
theorem hrs_put0 {L M:List HP} {ps:List (Int×HRd)} {k:Int} {c:Cfg} (h:Ent L (All (hrs ps)::M)):Ent L (All (hrs (mset ps k (hmE0 c,none,0)))::M):=
  Ent.trans h (Ent.trans rds_nil (hrs_mset ps k (hmE0 c,none,0)))
set_option maxRecDepth 100000
set_option maxHeartbeats 4000000
attribute [local irreducible] Go.Exit.then Go.Exit.inBlock Go.Code.wp WC WO WE WQ V LoopQ FnQ Sat Star band bor IntKind.wrap WR Code.rounds WT KO
theorem dr_Hom5_48 {Q P:Prop} (k:Q) (h:Hid Q→P:=by
  intro k
  first
  |(refine is_draw ?_;apply WC_mix (id:=9) .false _ (pl:= .p 0 <| .p 1 <| .p 2 <| .p 4 <| .p 5 <| .p 7 <| .r 3 <| .r 6 <| .r 8 <| .e true [(9,.p 10 <| .p 11 <| .p 12 <| .e true [(13,.done)])]);exact mixed;kernel_rfl;kernel_rfl;exact Ent.refl;exact k.out)):P:=h ⟨k⟩
theorem hm_New {F:List HP} {c:Cfg} {num:Int} (hc:c.wf) (h:newOk c num=true):FnF Tryz.prog 48 [c.val,.int .i64 num] [] F (fun r L'=>∃ b,r= .tuple [.pointer (some ⟨b,0,none⟩),.int .i64 0].toArray∧L'=[HomP b c num (hmNew c num)]):=by
  simp only [newOk,Bool.and_eq_true,decide_eq_true_eq] at h
  obtain ⟨hb,h0,h1⟩:=h
  have hM:=fun F=>mem_New (F:=F) hc hb
  have hQ:=fun F=>qu_New (F:=F) (cfg_room' hb)
  have hI:I64 num:=by have:=(cfg_bnd hb).2.1;unfold I64;omega
  have hLi:=fun F=>split_Lines (F:=F) hc hI
  have hT:=fun F=>tab_New (F:=F) (cores:=c.cores) (most:=c.pointers)
  simp only [may_e0 hb,if_true] at hT
  have hll:(linesL c num).length≤1099511627776:=by
    have:=(cfg_bnd hb).2.2.2
    unfold linesL
    split
    · rw [rowN_len]
      unfold cntN
      refine Nat.le_trans (Nat.div_le_self _ _) ?_
      have:=(cfg_bnd hb).2.1
      omega
    · simp
  unfold hmNew
  generalize linesL c num=ll at hLi hll ⊢
  refine FnF.mk' Tryz.func48 rfl rfl Tryz.ntmps48 rfl ?_
  repeat (first|refine go ?_|intro _|refine dr_Hom5_48 ?_|refine drq ?_|refine cal @hM ?_|refine cal @hQ ?_|refine cal @hLi ?_)
  rename_i bc be bq bm b p cap
  apply WC_loopE (E0:=[(2,_),(10,_),(45,_),(46,_)]) (fun E0 (i:Nat)=>(47,.int .i64 i)::E0) (fun i=>Own 3 1 (.slice p ll.length cap) ll.length (flat ic ll)::Cells b 110 (hmc c num bm be bq 0)::MapAt bm hrc (hmN0 c (ll.take i))::All (hrs (hmN0 c (ll.take i)))::QuP bq c.buffer []::MemB be c (List.replicate (c.words*c.lines).toNat 0)::Cells bc 24 c.cells::F) (fun i=>i≤ll.length) (fun i=>ll.length-i) 0
  · exact zqU
  · exact Nat.zero_le _
  · simp only [List.take_zero,show hmN0 c []=[] from rfl]
    refine Ent.trans ?_ (Ent.cons (Ent.cons (Ent.cons all_nil)))
    exact entu0
  · intro i hi
    by_cases hlt:i<ll.length
    · have et:hmN0 c (ll.take (i+1))=mset (hmN0 c (ll.take i)) ll[i] (hmE0 c,none,0):=by
        rw [List.take_add_one,List.getElem?_eq_getElem hlt]
        show hmN0 c (_++[_])=_
        unfold hmN0
        rw [List.foldl_append]
        rfl
      repeat (first|refine go ?_|intro _|refine dr_Hom5_48 ?_|refine drq ?_|refine cal @hT ?_)
      (apply WT_k;rfl;exact zqI;exact K_mapUpdateT (xv:=(hmE0 c,none,0)) rfl rfl rfl inferInstance rfl;refine same_intro ?_)
      repeat (first|refine go ?_|intro _|refine dr_Hom5_48 ?_|refine drq ?_)
      refine WE_loop (i+1) (by omega) (by omega) ?_ ?_
      · exact zqU
      · rw [et];exact enx @hrs_put0
    · have hil:i=ll.length:=by omega
      subst hil
      rw [List.take_length]
      repeat (first|refine go ?_|intro _|refine dr_Hom5_48 ?_|refine drq ?_)
      (apply WE_ret rfl rfl zqR)
      · exact ⟨_,rfl,rfl⟩
      · ((repeat (first|(with_reducible exact Ent.refl)|exact Ent.nil|(apply ent_pickE;exact zqP)|(apply hm_in)|apply Ent.drop));all_goals (first|rfl|(with_reducible assumption)|(simp [hmN0_es];done)|(simp [hmN0_es];omega)|omega|(constructor<;>(simp [hmN0_es])<;>omega)))
end Go.Sx

/- What homes do, told of lists: what is so stays so. My own work. -/
namespace Go.Sx
open Go Go.Proofs
theorem next_sizes {e:TEnt} {m:Msg} (h:nextE e m=0):(nextT e m).s.cores=e.s.cores∧(nextT e m).s.most=e.s.most:=by
  obtain ⟨hok,hk⟩:=nextE_ok h
  obtain ⟨h1,h2,h3,h4,h5⟩:=okT_facts hok
  obtain ⟨a1,a2,a3⟩:=may_add' h1 h4 h5
  unfold nextT
  rw [if_pos h]
  rcases hk with ⟨k,ho⟩|k|k
  · rw [if_pos k]
    unfold readT
    rw [if_neg ho]
    split
    · exact ⟨a2,a3⟩
    · split
      · exact ⟨rfl,rfl⟩
      · exact ⟨a2,a3⟩
  · rw [if_neg (by omega),if_pos k]
    exact ⟨rfl,rfl⟩
  · rw [if_neg (by omega),if_neg (by omega)]
    unfold putT
    split<;>exact ⟨rfl,rfl⟩
theorem next_kinds {e:TEnt} {m:Msg} {w:Words} (h:nextE e m=0):∀ y∈nextS e m w,(4≤y.kind∧y.kind≤10)∧y.line=m.line∧y.src=m.dst:=by
  obtain ⟨hok,hk⟩:=nextE_ok h
  intro y hy
  unfold nextS at hy
  rw [if_pos h] at hy
  rcases hk with ⟨k,ho⟩|k|k
  · rw [if_pos k] at hy
    unfold readS at hy
    rw [if_neg ho] at hy
    split at hy
    · rw [List.mem_singleton] at hy;subst hy;exact ⟨⟨by simp [msgT],by simp [msgT]⟩,rfl,rfl⟩
    · split at hy<;>(rw [List.mem_singleton] at hy;subst hy;exact ⟨⟨by simp [msgT],by simp [msgT]⟩,rfl,rfl⟩)
  · rw [if_neg (by omega),if_pos k] at hy
    rcases List.mem_cons.1 hy with rfl|hy
    · unfold firstT
      split
      · exact ⟨⟨by simp [msgT],by simp [msgT]⟩,rfl,rfl⟩
      · split<;>exact ⟨⟨by simp [msgT],by simp [msgT]⟩,rfl,rfl⟩
    · obtain ⟨o,_,rfl⟩:=List.mem_map.1 hy
      exact ⟨⟨by simp [invT,msgT],by simp [invT,msgT]⟩,rfl,rfl⟩
  · rw [if_neg (by omega),if_neg (by omega)] at hy
    rw [List.mem_singleton] at hy;subst hy;exact ⟨⟨by simp [msgT],by simp [msgT]⟩,rfl,rfl⟩
theorem lines_mem {c:Cfg} {num:Int} (h:newOk c num=true) (k:Int):k∈linesL c num↔ownL c num k:=by
  simp only [newOk,Bool.and_eq_true,decide_eq_true_eq] at h
  obtain ⟨hb,h0,h1⟩:=h
  have hB:=cfg_bnd hb
  obtain ⟨H,eH⟩:∃ H:Nat,c.homes=H:=⟨c.homes.toNat,by omega⟩
  obtain ⟨n,en⟩:∃ n:Nat,c.lines=n:=⟨c.lines.toNat,by omega⟩
  obtain ⟨g,rfl⟩:∃ n:Nat,num=n:=⟨num.toNat,by omega⟩
  have r1:linesL c g=rowN g H (cntN n g H):=by simp [linesL,hb,eH,en];omega
  have hg:g<H:=by omega
  rw [r1]
  unfold ownL rowN
  rw [eH,en]
  simp only [List.mem_map,List.mem_range]
  constructor
  · rintro ⟨i,hi,rfl⟩
    have:=(cnt_lt (n:=n) (k:=i) hg).1 hi
    refine ⟨by omega,by omega,?_⟩
    have h3:(g+i*H) % H=g:=by rw [Nat.add_mul_mod_self_right];exact Nat.mod_eq_of_lt hg
    exact_mod_cast h3
  · rintro ⟨k0,k1,k2⟩
    obtain ⟨k,rfl⟩:∃ n:Nat,k=n:=⟨k.toNat,by omega⟩
    have h3:k % H=g:=by exact_mod_cast k2
    have h4:=Nat.div_add_mod k H
    have h5:g+k / H*H=k:=by rw [Nat.mul_comm];omega
    refine ⟨k / H,(cnt_lt (n:=n) (k:=k / H) hg).2 (by omega),by rw [h5]⟩
theorem hmI_new {c:Cfg} {num:Int} (h:newOk c num=true):HmI c num (hmNew c num):=by
  have h0:=h
  simp only [newOk,Bool.and_eq_true,decide_eq_true_eq] at h0
  refine ⟨h0.1,h0.2,fun k=>?_,fun k e he=>?_,fun x hx=>absurd hx (List.not_mem_nil),fun x hx=>absurd hx (List.not_mem_nil),?_⟩
  · show (mget (hmEs c (linesL c num)) k).isSome=_
    rw [hmEs_get]
    by_cases hk:ownL c num k
    · rw [if_pos ((lines_mem h k).2 hk),decide_eq_true hk];rfl
    · rw [if_neg (fun hh=>hk ((lines_mem h k).1 hh)),decide_eq_false hk];rfl
  · have he':mget (hmEs c (linesL c num)) k=some e:=he
    rw [hmEs_get] at he'
    split at he'
    · cases he'
      have hb:=cfg_bnd h0.1
      exact ⟨mayT_mk (may_e0 h0.1) (by simp [hmE0]) (by simp only [hmE0];omega),rfl,rfl⟩
    · cases he'
  · have:=cfg_room' h0.1
    show ((0:Nat):Int)≤_
    omega
theorem hmI_q {c:Cfg} {num:Int} {s:HomS} (h:HmI c num s) {q:List QE} (hr:∀ x∈q,mineB c num x.m 0=true) (hs:∀ x∈q,∀ y∈x.sends,(4≤y.kind∧y.kind≤10)∧y.line=x.m.line∧y.src=num) (hl:(q.length:Int)≤c.buffer) (o:Int):HmI c num ⟨s.es,s.ms,q,o⟩:=
  ⟨h.ok,h.nm,h.own,h.may,hr,hs,hl⟩
theorem hmI_acc {c:Cfg} {num:Int} {s:HomS} (h:HmI c num s) (m:Msg):HmI c num (hmAccS c num s m):=by
  unfold hmAccS
  split
  · rename_i hm
    refine hmI_q h ?_ ?_ ?_ s.odd
    all_goals unfold qaddL
    · intro x hx
      split at hx
      · rcases List.mem_append.1 hx with hx|hx
        · exact h.req x hx
        · rw [List.mem_singleton] at hx;subst hx;exact hm
      · exact h.req x hx
    · intro x hx
      split at hx
      · rcases List.mem_append.1 hx with hx|hx
        · exact h.snd x hx
        · rw [List.mem_singleton] at hx;subst hx;intro y hy;cases hy
      · exact h.snd x hx
    · have hl:=h.len
      split
      · rename_i he
        have:¬(s.q.length:Int)=c.buffer:=fun hh=>by
          unfold qaddE at he
          split at he
          · cases he
          · simp [hh] at he
        rw [List.length_append,List.length_singleton]
        omega
      · exact hl
  · exact h
theorem hmI_erase {c:Cfg} {num:Int} {s:HomS} (h:HmI c num s) (n:Nat) (o:Int):HmI c num ⟨s.es,s.ms,s.q.eraseIdx n,o⟩:=by
  refine hmI_q h (fun x hx=>h.req x (List.mem_of_mem_eraseIdx hx)) (fun x hx=>h.snd x (List.mem_of_mem_eraseIdx hx)) ?_ o
  have:=h.len
  have:=List.length_eraseIdx_le s.q n
  omega
theorem hmI_done {c:Cfg} {num:Int} {s:HomS} (h:HmI c num s) (m:Msg):HmI c num (hmDoneS c num s m):=by
  unfold hmDoneS qfinL
  split
  · split
    · exact h
    · exact hmI_erase h _ s.odd
  · exact h
theorem mem_set' {α:Type} {l:List α} {n:Nat} {a x:α} (h:x∈l.set n a):x∈l∨x=a:=List.mem_or_eq_of_mem_set h
theorem hmI_sent {c:Cfg} {num:Int} {s:HomS} (h:HmI c num s) (n:Int):HmI c num { s with q:=qsentL s.q n}:=by
  unfold qsentL
  split
  · rename_i he
    split
    · exact hmI_erase h _ s.odd
    · have hin:qin s.q n=true:=by
        cases hc:qin s.q n with
        |true=>rfl
        |false=>simp [qsentE,hc] at he
      have hm:=qat_mem hin
      refine hmI_q h ?_ ?_ (by rw [List.length_set];exact h.len) s.odd
      · intro x hx
        rcases mem_set' hx with hx|rfl
        · exact h.req x hx
        · exact h.req (qat s.q n) hm
      · intro x hx
        rcases mem_set' hx with hx|rfl
        · exact h.snd x hx
        · intro y hy
          exact h.snd (qat s.q n) hm y (List.mem_of_mem_drop hy)
  · exact h
theorem hmI_turn {c:Cfg} {num:Int} {s:HomS} (h:HmI c num s) {n:Int} (hr:qready s.q n=true) (h0:nextE (hmEnt s (hmX s n).line) (hmX s n)=0):HmI c num (hmTurnS c s n):=by
  have hm:=qat_mem (qready_in hr)
  have hmine:mineB c num (hmX s n) 0=true:=h.req _ hm
  obtain ⟨f1,f2,f3,f4,f5⟩:=mine_facts h.ok hmine
  obtain ⟨g1,g2,g3,g4⟩:=hmEnt_own h f3
  have hz:=next_sizes h0
  refine ⟨h.ok,h.nm,fun k=>?_,fun k e he=>?_,?_,?_,?_⟩
  · show (mget (mset s.es _ _) k).isSome=_
    rw [mget_mset]
    split
    · rename_i hk;subst hk;rw [decide_eq_true f3];rfl
    · exact h.own k
  · have he':mget (mset s.es (hmX s n).line (nextT (hmEnt s (hmX s n).line) (hmX s n))) k=some e:=he
    rw [mget_mset] at he'
    split at he'
    · cases he'
      exact ⟨next_may h0,by rw [hz.1,g3],by rw [hz.2,g4]⟩
    · exact h.may k e he'
  · intro x hx
    have hx':x∈qstartL s.q n (nextS (hmEnt s (hmX s n).line) (hmX s n) (lineWo c s.ms (hmX s n).line)):=hx
    unfold qstartL at hx'
    split at hx'
    · rcases mem_set' hx' with hx|rfl
      · exact h.req x hx
      · exact hmine
    · exact h.req x hx'
  · intro x hx
    have hx':x∈qstartL s.q n (nextS (hmEnt s (hmX s n).line) (hmX s n) (lineWo c s.ms (hmX s n).line)):=hx
    unfold qstartL at hx'
    split at hx'
    · rcases mem_set' hx' with hx|rfl
      · exact h.snd x hx
      · intro y hy
        have:=next_kinds h0 y hy
        rw [f5] at this
        exact this
    · exact h.snd x hx'
  · show ((qstartL s.q n _).length:Int)≤_
    unfold qstartL
    split
    · rw [List.length_set];exact h.len
    · exact h.len
theorem hmI_work {c:Cfg} {num:Int} {s:HomS} (h:HmI c num s) (n:Int) (l:L3):HmI c num (hmWorkS c s n l):=by
  unfold hmWorkS
  split
  · rename_i hr
    unfold hmStartS
    split
    · rename_i h0;exact hmI_turn h hr h0
    · exact hmI_erase h _ _
  · split
    · exact hmI_sent h n
    · exact h
theorem hm_odd {c:Cfg} {s:HomS} (n:Int) (l:L3):s.odd≤(hmWorkS c s n l).odd∧(hmWorkS c s n l).odd≤s.odd+1:=by
  unfold hmWorkS hmStartS hmTurnS hmOddS
  split
  · split
    · exact ⟨Int.le_refl _,by show s.odd≤_;omega⟩
    · exact ⟨by show s.odd≤s.odd+1;omega,Int.le_refl _⟩
  · split
    · exact ⟨Int.le_refl _,by show s.odd≤_;omega⟩
    · exact ⟨Int.le_refl _,by omega⟩
end Go.Sx

/- What nets do: three bags of messages. The program's. My own work. -/
namespace Go.Sx
open Go Go.Proofs
structure Nets where
  l0:List Msg
  l1:List Msg
  l2:List Msg
abbrev Nets.no:Nets:=⟨[],[],[]⟩
def hasN (k:Int):Bool:=decide (0≤k∧k<3)
def nget (n:Nets) (k:Int):List Msg:=if k=0 then n.l0 else if k=1 then n.l1 else if k=2 then n.l2 else []
def nset (n:Nets) (k:Int) (l:List Msg):Nets:=if k=0 then ⟨l,n.l1,n.l2⟩ else if k=1 then ⟨n.l0,l,n.l2⟩ else if k=2 then ⟨n.l0,n.l1,l⟩ else n
def nroom (c:Cfg) (k:Int):Int:=if k=0 then c.r0 else if k=1 then c.r1 else if k=2 then c.r2 else 0
def nleft (c:Cfg) (n:Nets) (k:Int):Int:=nroom c k-(nget n k).length
def natM (n:Nets) (k i:Int):Msg:=atL .zero (nget n k) i
def natB (n:Nets) (k i:Int):Bool:=inL (nget n k) i
def ntakeE (n:Nets) (k i:Int):Int:=takeE (nget n k) i
def ntakeN (n:Nets) (k i:Int):Nets:=nset n k (takeL (nget n k) i)
def nsendE (c:Cfg) (n:Nets) (m:Msg):Int:=if MayP c m then putE (nroom c (netK m.kind)) (nget n (netK m.kind)) else 1
def nsendN (c:Cfg) (n:Nets) (m:Msg):Nets:=if MayP c m then nset n (netK m.kind) (putL (nroom c (netK m.kind)) (nget n (netK m.kind)) m) else n
def nall (n:Nets):List Msg:=n.l0++n.l1++n.l2
theorem hasN_case {k:Int} (h:hasN k=true):k=0∨k=1∨k=2:=by simp [hasN] at h;omega
theorem nget_no {n:Nets} {k:Int} (h:hasN k=false):nget n k=[]:=by
  simp only [hasN,decide_eq_false_iff_not] at h
  unfold nget;rw [if_neg (by omega),if_neg (by omega),if_neg (by omega)]
theorem nroom_no {c:Cfg} {k:Int} (h:hasN k=false):nroom c k=0:=by
  simp only [hasN,decide_eq_false_iff_not] at h
  unfold nroom;rw [if_neg (by omega),if_neg (by omega),if_neg (by omega)]
theorem nset_no {n:Nets} {k:Int} {l:List Msg} (h:hasN k=false):nset n k l=n:=by
  simp only [hasN,decide_eq_false_iff_not] at h
  unfold nset;rw [if_neg (by omega),if_neg (by omega),if_neg (by omega)]
theorem netK_may {c:Cfg} {m:Msg} (h:MayP c m):netK m.kind=0∨netK m.kind=1∨netK m.kind=2:=by
  have:=h.2.1
  unfold netK;split<;>(try split)<;>(try split)<;>omega
abbrev ncells (c:Cfg) (b0 b1 b2:Nat):List Value:=[.int .i64 c.cores,.int .i64 c.homes,.int .i64 c.sets,.int .i64 c.ways,.int .i64 c.words,.int .i64 c.lines,.int .i64 c.pointers,.int .i64 c.mshrs,.int .i64 c.buffer,.int .i64 c.writebacks,.int .i64 c.r0,.int .i64 c.r1,.int .i64 c.r2,.pointer (some ⟨b0,0,none⟩),.pointer (some ⟨b1,0,none⟩),.pointer (some ⟨b2,0,none⟩)]
theorem RL_len {α:Type} {T e:TypeId} {sz:Nat} {enc:α→List Value} {b:Nat} {room:Int} {l:List α} {L:List HP} {w:World} (h:Sat (RL T e sz enc b room l::L) w):(l.length:Int)≤room∧room≤4096:=by
  obtain ⟨⟨p,c0⟩,hx⟩:=star_ex h
  simp only [app] at hx
  exact fact_of (star_drop (star_drop hx))
def NetB (T TB TM:TypeId) (b:Nat) (c:Cfg) (n:Nets):HP:=
  Ex fun q:Nat×Nat×Nat=>[Cells b T (ncells c q.1 q.2.1 q.2.2),RL TB TM 15 mc q.1 c.r0 n.l0,RL TB TM 15 mc q.2.1 c.r1 n.l1,RL TB TM 15 mc q.2.2 c.r2 n.l2,Fact (checkB c=true)]
theorem net_in {T TB TM:TypeId} {b:Nat} {c:Cfg} {n:Nets} {b0 b1 b2:Nat} {L M:List HP}
    (h:Ent L (Cells b T (ncells c b0 b1 b2)::RL TB TM 15 mc b0 c.r0 n.l0::RL TB TM 15 mc b1 c.r1 n.l1::RL TB TM 15 mc b2 c.r2 n.l2::M)) (hc:checkB c=true):Ent L (NetB T TB TM b c n::M):=by
  refine Ent.trans h (Ent.trans ?_ (ex_intro (p:=fun q:Nat×Nat×Nat=>[Cells b T (ncells c q.1 q.2.1 q.2.2),RL TB TM 15 mc q.1 c.r0 n.l0,RL TB TM 15 mc q.2.1 c.r1 n.l1,RL TB TM 15 mc q.2.2 c.r2 n.l2,Fact (checkB c=true)]) (b0,b1,b2)))
  exact Ent.cons (Ent.cons (Ent.cons (Ent.cons (star_fact_mk hc))))
theorem net_sat {T TB TM:TypeId} {b:Nat} {c:Cfg} {n:Nets} {L:List HP} {w:World} (h:Sat (NetB T TB TM b c n::L) w):∃ b0 b1 b2,(checkB c=true∧(n.l0.length:Int)≤c.r0∧(n.l1.length:Int)≤c.r1∧(n.l2.length:Int)≤c.r2)∧
    Sat (Cells b T (ncells c b0 b1 b2)::RL TB TM 15 mc b0 c.r0 n.l0::RL TB TM 15 mc b1 c.r1 n.l1::RL TB TM 15 mc b2 c.r2 n.l2::L) w:=by
  obtain ⟨⟨b0,b1,b2⟩,hx⟩:=star_ex h
  simp only [app] at hx
  have hf:=fact_of (star_drop (star_drop (star_drop (star_drop hx))))
  have h2:Sat (Cells b T (ncells c b0 b1 b2)::RL TB TM 15 mc b0 c.r0 n.l0::RL TB TM 15 mc b1 c.r1 n.l1::RL TB TM 15 mc b2 c.r2 n.l2::L) w:=(Ent.cons (Ent.cons (Ent.cons (Ent.cons (Ent.drop Ent.refl))))) _ hx
  exact ⟨b0,b1,b2,⟨hf,(RL_len ((Ent.drop Ent.refl).sat h2)).1,(RL_len ((Ent.drop (Ent.drop Ent.refl)).sat h2)).1,(RL_len ((Ent.drop (Ent.drop (Ent.drop Ent.refl))).sat h2)).1⟩,h2⟩
section
variable {T TB TM:TypeId} {b:Nat} {c:Cfg} {n:Nets} {P:Program} {N:Nat} {env:Env} {L:List HP} {Q:Exit→Act→World→Prop}
theorem net_open {co:Code} (h:∀ b0 b1 b2,(checkB c=true∧(n.l0.length:Int)≤c.r0∧(n.l1.length:Int)≤c.r1∧(n.l2.length:Int)≤c.r2)→WC P N co env (Cells b T (ncells c b0 b1 b2)::RL TB TM 15 mc b0 c.r0 n.l0::RL TB TM 15 mc b1 c.r1 n.l1::RL TB TM 15 mc b2 c.r2 n.l2::L) Q):WC P N co env (NetB T TB TM b c n::L) Q:=by
  intro a w ha hw
  obtain ⟨b0,b1,b2,hf,hx⟩:=net_sat hw
  exact h b0 b1 b2 hf a w ha hx
end
set_option maxRecDepth 100000
set_option maxHeartbeats 4000000
attribute [local irreducible] Go.Exit.then Go.Exit.inBlock Go.Code.wp WC WO WE WQ V LoopQ FnQ Sat Star band bor IntKind.wrap WR Code.rounds WT KO
abbrev NetP:=NetB 94 179 99
theorem dr_Net_45 {Q P:Prop} (k:Q) (h:Hid Q→P:=by
  intro k
  first
  |(refine is_draw ?_;apply WC_mix (id:=8) .true [] (pl:= .p 0 <| .p 1 <| .p 2 <| .p 7 <| .p 8 <| .e true [(3,.p 4 <| .p 5 <| .p 6 <| .p 9 <| .e false [(10,.done)])]);exact mixed;kernel_rfl;kernel_rfl;exact Ent.nil;exact k.out)):P:=h ⟨k⟩
theorem net_New {F:List HP} {c:Cfg} (hw:c.wf) (hc:checkB c=true):FnF Tryz.prog 45 [c.val] [] F (fun r L'=>∃ b,r= .tuple [.pointer (some ⟨b,0,none⟩),.int .i64 0].toArray∧L'=[NetP b c .no]):=by
  have hC:=fun F=>shape_Check (F:=F) hw
  simp only [checkE,hc,if_true] at hC
  have hr:(1≤c.r0∧c.r0≤4096)∧(1≤c.r1∧c.r1≤4096)∧(1≤c.r2∧c.r2≤4096):=by
    simp only [checkB,fitsB,Bool.and_eq_true,decide_eq_true_eq] at hc
    omega
  obtain ⟨h0,h1,h2⟩:=hr
  have hB0:=fun F=>bag_New_msg (F:=F) h0
  have hB1:=fun F=>bag_New_msg (F:=F) h1
  have hB2:=fun F=>bag_New_msg (F:=F) h2
  refine FnF.mk' Tryz.func45 rfl rfl Tryz.ntmps45 rfl ?_
  repeat (first|refine go ?_|intro _|refine dr_Net_45 ?_|refine drq ?_|refine cal @hC ?_)
  refine WC_rounds 4 ?_
  repeat (first|refine go ?_|intro _|refine dr_Net_45 ?_|refine drq ?_|refine cal @hB0 ?_|refine cal @hB1 ?_|refine cal @hB2 ?_)
  (apply WE_ret rfl rfl zqR)
  · exact ⟨_,rfl,rfl⟩
  · rename_i bc b w2 w1 w0
    change Ent (Bag_msg w0 c.r2 []::Bag_msg w1 c.r1 []::Bag_msg w2 c.r0 []::Cells b 94 (ncells c w2 w1 w0)::_) _
    (apply net_in;(focus (exact entu0));all_goals exact zqS)
theorem net_New_no {F:List HP} {c:Cfg} (hw:c.wf) (hc:checkB c=false):FnF Tryz.prog 45 [c.val] [] F (fun r L'=>r= .tuple [.pointer none,.int .i64 1].toArray∧L'=[]):=by
  have hC:=fun F=>shape_Check (F:=F) hw
  simp only [checkE,hc,Bool.false_eq_true,if_false] at hC
  refine FnF.mk' Tryz.func45 rfl rfl Tryz.ntmps45 rfl ?_
  repeat (first|refine go ?_|intro _|refine dr_Net_45 ?_|refine drq ?_|refine cal @hC ?_)
  exact fin0
theorem net_has {F:List HP} {k:Int}:FnF Tryz.prog 55 [.int .i64 k] [] F (fun r L'=>r= .bool (hasN k)∧L'=[]):=by
  refine FnF.mk' Tryz.func55 rfl rfl Tryz.ntmps55 rfl ?_
  repeat' (first|refine gd ?_|intro _|refine spl ?_ ?_|fail)
  all_goals (apply WE_ret rfl rfl zqR;(refine ⟨congrArg Value.bool ?_,rfl⟩;(first|(refine decide_eq_decide.2 ?_)|(refine (decide_eq_true ?_).symm)|(refine (decide_eq_false ?_).symm));(first|omega|(simp only [hasN];omega)));exact zqN)
theorem net_Left {F:List HP} {b:Nat} {c:Cfg} {n:Nets} {k:Int}:FnF Tryz.prog 99 [.pointer (some ⟨b,0,none⟩),.int .i64 k] [NetP b c n] F (fun r L'=>r= .int .i64 (nleft c n k)∧L'=[NetP b c n]):=by
  have hH:=fun F=>net_has (F:=F) (k:=k)
  refine FnF.mk' Tryz.func99 rfl rfl Tryz.ntmps99 rfl ?_
  refine net_open fun b0 b1 b2 ⟨hc,hn0,hn1,hn2⟩=>?_
  cases h:hasN k with
  |true=>
   rw [h] at hH
   rcases hasN_case h with rfl|rfl|rfl
   · repeat (first|refine gd ?_|intro _|refine cal @hH ?_|refine cal @bag_Left_msg ?_)
     (apply WE_ret rfl rfl zqR)
     · exact ⟨rfl,rfl⟩
     · (apply net_in;(focus (exact entu0));all_goals exact zqS)
   · repeat (first|refine gd ?_|intro _|refine cal @hH ?_|refine cal @bag_Left_msg ?_)
     (apply WE_ret rfl rfl zqR)
     · exact ⟨rfl,rfl⟩
     · (apply net_in;(focus (exact entu0));all_goals exact zqS)
   · repeat (first|refine gd ?_|intro _|refine cal @hH ?_|refine cal @bag_Left_msg ?_)
     (apply WE_ret rfl rfl zqR)
     · exact ⟨rfl,rfl⟩
     · (apply net_in;(focus (exact entu0));all_goals exact zqS)
  |false=>
   rw [h] at hH
   repeat (first|refine gd ?_|intro _|refine cal @hH ?_)
   (apply WE_ret rfl rfl zqR)
   · exact ⟨by simp [nleft,nroom_no h,nget_no h],rfl⟩
   · (apply net_in;(focus (exact entu0));all_goals exact zqS)
theorem net_At {F:List HP} {b:Nat} {c:Cfg} {n:Nets} {k i:Int}:FnF Tryz.prog 98 [.pointer (some ⟨b,0,none⟩),.int .i64 k,.int .i64 i] [NetP b c n] F (fun r L'=>r= .tuple [mv (natM n k i),.bool (natB n k i)].toArray∧L'=[NetP b c n]):=by
  have hH:=fun F=>net_has (F:=F) (k:=k)
  refine FnF.mk' Tryz.func98 rfl rfl Tryz.ntmps98 rfl ?_
  refine net_open fun b0 b1 b2 ⟨hc,hn0,hn1,hn2⟩=>?_
  cases h:hasN k with
  |true=>
   rw [h] at hH
   rcases hasN_case h with rfl|rfl|rfl
   · repeat (first|refine gd ?_|intro _|refine cal @hH ?_|refine cal @bag_At_msg ?_)
     (apply WE_ret rfl rfl zqR)
     · exact ⟨rfl,rfl⟩
     · (apply net_in;(focus (exact entu0));all_goals exact zqS)
   · repeat (first|refine gd ?_|intro _|refine cal @hH ?_|refine cal @bag_At_msg ?_)
     (apply WE_ret rfl rfl zqR)
     · exact ⟨rfl,rfl⟩
     · (apply net_in;(focus (exact entu0));all_goals exact zqS)
   · repeat (first|refine gd ?_|intro _|refine cal @hH ?_|refine cal @bag_At_msg ?_)
     (apply WE_ret rfl rfl zqR)
     · exact ⟨rfl,rfl⟩
     · (apply net_in;(focus (exact entu0));all_goals exact zqS)
  |false=>
   rw [h] at hH
   have e1:natM n k i= .zero:=by simp [natM,nget_no h,atL,inL]
   have e2:natB n k i=false:=by simp [natB,nget_no h,inL]
   repeat (first|refine gd ?_|intro _|refine cal @hH ?_)
   (apply WE_ret rfl rfl zqR)
   · rw [e1,e2];exact ⟨rfl,rfl⟩
   · (apply net_in;(focus (exact entu0));all_goals exact zqS)
theorem net_Take {F:List HP} {b:Nat} {c:Cfg} {n:Nets} {k i:Int}:FnF Tryz.prog 101 [.pointer (some ⟨b,0,none⟩),.int .i64 k,.int .i64 i] [NetP b c n] F (fun r L'=>r= .tuple [mv (natM n k i),.int .i64 (ntakeE n k i)].toArray∧L'=[NetP b c (ntakeN n k i)]):=by
  have hH:=fun F=>net_has (F:=F) (k:=k)
  refine FnF.mk' Tryz.func101 rfl rfl Tryz.ntmps101 rfl ?_
  refine net_open fun b0 b1 b2 ⟨hc,hn0,hn1,hn2⟩=>?_
  cases h:hasN k with
  |true=>
   rw [h] at hH
   rcases hasN_case h with rfl|rfl|rfl
   · have e3:ntakeN n 0 i=⟨takeL n.l0 i,n.l1,n.l2⟩:=rfl
     rw [e3]
     repeat (first|refine gd ?_|intro _|refine cal @hH ?_|refine cal @bag_Take_msg ?_)
     (apply WE_ret rfl rfl zqR)
     · exact ⟨rfl,rfl⟩
     · (apply net_in;(focus (exact entu0));all_goals exact zqS)
   · have e3:ntakeN n 1 i=⟨n.l0,takeL n.l1 i,n.l2⟩:=rfl
     rw [e3]
     repeat (first|refine gd ?_|intro _|refine cal @hH ?_|refine cal @bag_Take_msg ?_)
     (apply WE_ret rfl rfl zqR)
     · exact ⟨rfl,rfl⟩
     · (apply net_in;(focus (exact entu0));all_goals exact zqS)
   · have e3:ntakeN n 2 i=⟨n.l0,n.l1,takeL n.l2 i⟩:=rfl
     rw [e3]
     repeat (first|refine gd ?_|intro _|refine cal @hH ?_|refine cal @bag_Take_msg ?_)
     (apply WE_ret rfl rfl zqR)
     · exact ⟨rfl,rfl⟩
     · (apply net_in;(focus (exact entu0));all_goals exact zqS)
  |false=>
   rw [h] at hH
   have e1:natM n k i= .zero:=by simp [natM,nget_no h,atL,inL]
   have e2:ntakeE n k i=5:=by simp [ntakeE,nget_no h,takeE,inL]
   have e3:ntakeN n k i=n:=nset_no h
   repeat (first|refine gd ?_|intro _|refine cal @hH ?_)
   (apply WE_ret rfl rfl zqR)
   · rw [e1,e2];exact ⟨rfl,rfl⟩
   · rw [e3];(apply net_in;(focus (exact entu0));all_goals exact zqS)
theorem net_List {F:List HP} {b:Nat} {c:Cfg} {n:Nets} {k:Int}:FnF Tryz.prog 21 [.pointer (some ⟨b,0,none⟩),.int .i64 k] [NetP b c n] F (fun r L'=>∃ p q,r= .slice p (nget n k).length q∧L'=[Own 99 15 (.slice p (nget n k).length q) (nget n k).length (flat mc (nget n k)),NetP b c n]):=by
  have hH:=fun F=>net_has (F:=F) (k:=k)
  refine FnF.mk' Tryz.func21 rfl rfl Tryz.ntmps21 rfl ?_
  refine net_open fun b0 b1 b2 ⟨hc,hn0,hn1,hn2⟩=>?_
  cases h:hasN k with
  |true=>
   rw [h] at hH
   rcases hasN_case h with rfl|rfl|rfl
   · repeat (first|refine gd ?_|intro _|refine cal @hH ?_|refine cal @bag_List_msg ?_)
     (apply WE_ret rfl rfl zqR)
     · exact ⟨_,_,rfl,rfl⟩
     · refine Ent.cons ?_
       (apply net_in;(focus (exact entu0));all_goals exact zqS)
   · repeat (first|refine gd ?_|intro _|refine cal @hH ?_|refine cal @bag_List_msg ?_)
     (apply WE_ret rfl rfl zqR)
     · exact ⟨_,_,rfl,rfl⟩
     · refine Ent.cons ?_
       (apply net_in;(focus (exact entu0));all_goals exact zqS)
   · repeat (first|refine gd ?_|intro _|refine cal @hH ?_|refine cal @bag_List_msg ?_)
     (apply WE_ret rfl rfl zqR)
     · exact ⟨_,_,rfl,rfl⟩
     · refine Ent.cons ?_
       (apply net_in;(focus (exact entu0));all_goals exact zqS)
  |false=>
   rw [h] at hH
   rw [nget_no h]
   repeat (first|refine gd ?_|intro _|refine cal @hH ?_)
   (apply WE_ret rfl rfl zqR)
   · exact ⟨none,0,rfl,rfl⟩
   · refine Ent.trans ?_ (own_empty Ent.refl)
     (apply net_in;(focus (exact entu0));all_goals exact zqS)
theorem dr_Net_152s {Q P:Prop} (k:Q) (h:Hid Q→P:=by
  intro k
  first
  |(refine is_draw ?_;apply WC_mix (id:=1) .true _ (pl:= .p 0 <| .p 1 <| .p 2 <| .r 3 <| .r 4 <| .e true [(5,.p 6 <| .done)]);exact mixed;kernel_rfl;kernel_rfl;exact Ent.refl;exact k.out)
  |(refine is_draw ?_;apply WC_mix (id:=3) .true _ (pl:= .p 0 <| .p 1 <| .p 4 <| .p 5 <| .r 2 <| .e true [(3,.p 6 <| .e false [(7,.e false [(8,.e false [(9,.p 10 <| .done)])]),(8,.e false [(7,.e false [(9,.p 10 <| .done)])])]),(8,.e true [(3,.p 6 <| .e false [(7,.e false [(9,.p 10 <| .done)])])])]);exact mixed;kernel_rfl;kernel_rfl;exact Ent.refl;exact k.out)):P:=h ⟨k⟩
theorem net_Send {F:List HP} {b:Nat} {c:Cfg} {n:Nets} {m:Msg} (hw:c.wf):FnF Tryz.prog 152 [.pointer (some ⟨b,0,none⟩),mv m] [NetP b c n] F (fun r L'=>r= .int .i64 (nsendE c n m)∧L'=[NetP b c (nsendN c n m)]):=by
  have hM:=fun F=>msg_May (F:=F) (c:=c) (m:=m) hw
  have hN:=fun F=>msg_Net (F:=F) (k:=m.kind)
  refine FnF.mk' Tryz.func152 rfl rfl Tryz.ntmps152 rfl ?_
  refine net_open fun b0 b1 b2 ⟨hc,hn0,hn1,hn2⟩=>?_
  by_cases h:MayP c m
  · simp only [decide_eq_true h] at hM
    have e1:nsendE c n m=putE (nroom c (netK m.kind)) (nget n (netK m.kind)):=if_pos h
    have e2:nsendN c n m=nset n (netK m.kind) (putL (nroom c (netK m.kind)) (nget n (netK m.kind)) m):=if_pos h
    rw [e1,e2]
    rcases netK_may h with e|e|e
    · rw [e] at hN ⊢
      have e3:nset n 0 (putL (nroom c 0) (nget n 0) m)=⟨putL c.r0 n.l0 m,n.l1,n.l2⟩:=rfl
      rw [e3]
      repeat' (first|refine go ?_|intro _|refine dr_Net_152s ?_|refine drq ?_|refine cal @hM ?_|refine cal @hN ?_|refine cal @bag_Put_msg ?_|refine spl ?_ ?_|fail)
      all_goals (apply WE_ret rfl rfl zqR)
      all_goals first|exact ⟨rfl,rfl⟩|(apply net_in;(focus (exact entu0));all_goals exact zqS)
    · rw [e] at hN ⊢
      have e3:nset n 1 (putL (nroom c 1) (nget n 1) m)=⟨n.l0,putL c.r1 n.l1 m,n.l2⟩:=rfl
      rw [e3]
      repeat' (first|refine go ?_|intro _|refine dr_Net_152s ?_|refine drq ?_|refine cal @hM ?_|refine cal @hN ?_|refine cal @bag_Put_msg ?_|refine spl ?_ ?_|fail)
      all_goals (apply WE_ret rfl rfl zqR)
      all_goals first|exact ⟨rfl,rfl⟩|(apply net_in;(focus (exact entu0));all_goals exact zqS)
    · rw [e] at hN ⊢
      have e3:nset n 2 (putL (nroom c 2) (nget n 2) m)=⟨n.l0,n.l1,putL c.r2 n.l2 m⟩:=rfl
      rw [e3]
      repeat' (first|refine go ?_|intro _|refine dr_Net_152s ?_|refine drq ?_|refine cal @hM ?_|refine cal @hN ?_|refine cal @bag_Put_msg ?_|refine spl ?_ ?_|fail)
      all_goals (apply WE_ret rfl rfl zqR)
      all_goals first|exact ⟨rfl,rfl⟩|(apply net_in;(focus (exact entu0));all_goals exact zqS)
  · simp only [decide_eq_false h] at hM
    have e1:nsendE c n m=1:=if_neg h
    have e2:nsendN c n m=n:=if_neg h
    rw [e1,e2]
    repeat (first|refine go ?_|intro _|refine dr_Net_152s ?_|refine drq ?_|refine cal @hM ?_)
    (apply WE_ret rfl rfl zqR)
    · exact ⟨rfl,rfl⟩
    · (apply net_in;(focus (exact entu0));all_goals exact zqS)
end Go.Sx

/- A machine, told of lists: its state, and what each pick does. My own work. -/
namespace Go.Sx
open Go Go.Proofs
structure CoS where
  l:List Op3
  rs:List Int
  tr:List (Int×Bool)
structure Com where
  core:Int
  pos:Int
  op:Op3
  res:Int
structure MaS where
  ks:List CoS
  cs:List CaS
  hs:List HomS
  n:Nets
  tr:List Com
  odd:Int
abbrev coZ:CoS:=⟨[],[],[]⟩
abbrev caZ:CaS:=⟨[],[],[]⟩
abbrev hmZ:HomS:=⟨[],[],[],0⟩
def maK (s:MaS) (i:Int):CoS:=s.ks.getD i.toNat coZ
def maA (s:MaS) (i:Int):CaS:=s.cs.getD i.toNat caZ
def maH (s:MaS) (i:Int):HomS:=s.hs.getD i.toNat hmZ
def maKs (s:MaS) (i:Int) (k:CoS):MaS:=⟨s.ks.set i.toNat k,s.cs,s.hs,s.n,s.tr,s.odd⟩
def maAs (s:MaS) (i:Int) (k:CaS):MaS:=⟨s.ks,s.cs.set i.toNat k,s.hs,s.n,s.tr,s.odd⟩
def maHs (s:MaS) (i:Int) (k:HomS):MaS:=⟨s.ks,s.cs,s.hs.set i.toNat k,s.n,s.tr,s.odd⟩
def maNs (s:MaS) (n:Nets):MaS:=⟨s.ks,s.cs,s.hs,n,s.tr,s.odd⟩
def maOdd (s:MaS) (b:Bool):MaS:=⟨s.ks,s.cs,s.hs,s.n,s.tr,if b then s.odd+1 else s.odd⟩
def coHas (k:CoS):Bool:=headB k.l k.rs
def coOp (k:CoS):Op3:=headO k.l k.rs
def coCom (k:CoS) (n:Int):CoS:=⟨k.l,k.rs++[n],mdel k.tr k.rs.length⟩
def coTry (k:CoS) (d:Int):CoS:=⟨k.l,k.rs,mset k.tr ((k.rs.length:Int)+d) true⟩
def coLeft (k:CoS):Int:=(k.l.length:Int)-k.rs.length
def maCom (s:MaS) (i:Int) (x:Op3) (n:Int):MaS:=⟨s.ks.set i.toNat (coCom (maK s i) n),s.cs,s.hs,s.n,s.tr++[⟨i,(maK s i).rs.length,x,n⟩],s.odd⟩
def maSend (c:Cfg) (s:MaS) (m:Msg):MaS:=maNs s (nsendN c s.n m)
def maSent (c:Cfg) (s:MaS) (m:Msg):Bool:=decide (nsendE c s.n m=0)
def maLine (c:Cfg) (x:Op3):Int:=addrL c x.addr
def maDoesB (c:Cfg) (s:MaS) (i:Int) (x:Op3):Bool:=decide (caDoE c (maA s i) x=0)
def maDoes (c:Cfg) (s:MaS) (i:Int) (x:Op3):MaS:=if maDoesB c s i x then maCom (maAs s i (caDoK c (maA s i) x)) i x (caDoV c (maA s i) x) else s
def maFin (c:Cfg) (s:MaS) (i:Int):MaS:=maSend c (maAs s i (caFinK c (maA s i))) (caFinM c i (maA s i))
def maAsk (c:Cfg) (s:MaS) (i:Int) (x:Op3):MaS:=maSend c (maAs s i (caAskK c (maA s i) (maLine c x) (kindOf x))) (caAskM c i (maA s i) (maLine c x) (kindOf x))
def maAskE (c:Cfg) (s:MaS) (i:Int) (x:Op3):Int:=caAskE c (maA s i) (maLine c x) (kindOf x)
def maEvS (c:Cfg) (x:Op3):Int:=lineS c (maLine c x)
def maEv (c:Cfg) (s:MaS) (i:Int) (x:Op3) (w:Int):MaS:=
  if caEvB c (maA s i) (maEvS c x) w then maSend c (maAs s i (caEvK c (maA s i) (maEvS c x) w)) (caEvM c i (maA s i) (maEvS c x) w) else maAs s i (caEvK c (maA s i) (maEvS c x) w)
def maActB (c:Cfg) (s:MaS) (i w:Int):Bool:=
  if 0<nleft c s.n 2∧caFinB (maA s i)=true then maSent c s (caFinM c i (maA s i))
  else if coHas (maK s i)=false then false
  else if (coOp (maK s i)).kind=4 then decide ((maA s i).mis.length=0)
  else if maDoesB c s i (coOp (maK s i)) then true
  else if nleft c s.n 0=0 then false
  else if maAskE c s i (coOp (maK s i))=0 then maSent c s (caAskM c i (maA s i) (maLine c (coOp (maK s i))) (kindOf (coOp (maK s i))))
  else if maAskE c s i (coOp (maK s i))=5 then decide (caEvE c (maA s i) (maEvS c (coOp (maK s i))) (w.tmod c.ways)=0)&& (!caEvB c (maA s i) (maEvS c (coOp (maK s i))) (w.tmod c.ways)|| maSent c s (caEvM c i (maA s i) (maEvS c (coOp (maK s i))) (w.tmod c.ways)))
  else false
def maActS (c:Cfg) (s:MaS) (i w:Int):MaS:=
  if 0<nleft c s.n 2∧caFinB (maA s i)=true then maFin c s i
  else if coHas (maK s i)=false then s
  else if (coOp (maK s i)).kind=4 then (if (maA s i).mis.length=0 then maCom s i (coOp (maK s i)) 0 else s)
  else if maDoesB c s i (coOp (maK s i)) then maDoes c s i (coOp (maK s i))
  else if nleft c s.n 0=0 then s
  else if maAskE c s i (coOp (maK s i))=0 then maAsk c s i (coOp (maK s i))
  else if maAskE c s i (coOp (maK s i))=5 then maEv c s i (coOp (maK s i)) (w.tmod c.ways)
  else s
def maTake (c:Cfg) (s:MaS) (m:Msg):MaS:=
  if caTakeB c m.dst (maA s m.dst) m then maSend c (maOdd (maAs s m.dst (caTakeK c m.dst (maA s m.dst) m)) (decide (caTakeE c m.dst (maA s m.dst) m≠0))) (caTakeM c m.dst (maA s m.dst) m)
  else maOdd (maAs s m.dst (caTakeK c m.dst (maA s m.dst) m)) (decide (caTakeE c m.dst (maA s m.dst) m≠0))
def maThen (c:Cfg) (s:MaS) (m:Msg):MaS:=
  if coHas (maK s m.dst)=true∧(coOp (maK s m.dst)).kind≠4∧maLine c (coOp (maK s m.dst))=m.line then maDoes c s m.dst (coOp (maK s m.dst)) else s
def maDone (c:Cfg) (s:MaS) (m:Msg):MaS:=maOdd (maHs s m.dst (hmDoneS c m.dst (maH s m.dst) m)) (decide (hmDoneE c m.dst (maH s m.dst) m≠0))
def maDelB (c:Cfg) (s:MaS) (k i:Int):Bool:=
  if natB s.n k i=false∨(k=1∧nleft c s.n 2=0) then false
  else if k=0 then decide (hmAccE c (natM s.n 0 i).dst (maH s (natM s.n 0 i).dst) (natM s.n 0 i)=0)
  else true
def maDelS (c:Cfg) (s:MaS) (k i:Int):MaS:=
  if natB s.n k i=false∨(k=1∧nleft c s.n 2=0) then s
  else if k=0 then (if hmAccE c (natM s.n 0 i).dst (maH s (natM s.n 0 i).dst) (natM s.n 0 i)=0 then maNs (maHs s (natM s.n 0 i).dst (hmAccS c (natM s.n 0 i).dst (maH s (natM s.n 0 i).dst) (natM s.n 0 i))) (ntakeN s.n 0 i) else s)
  else if k=1 then maTake c (maNs s (ntakeN s.n 1 i)) (natM s.n 1 i)
  else if (natM s.n k i).kind=11 then maDone c (maNs s (ntakeN s.n k i)) (natM s.n k i)
  else maThen c (maTake c (maNs s (ntakeN s.n k i)) (natM s.n k i)) (natM s.n k i)
def maL (c:Cfg) (s:MaS):L3:=(nleft c s.n 0,nleft c s.n 1,nleft c s.n 2)
def maWorkB (c:Cfg) (s:MaS) (i j:Int):Bool:=hmDid (maH s i) j (maL c s)
def maWorkS (c:Cfg) (s:MaS) (i j:Int):MaS:=
  if hmWorkB (maH s i) j (maL c s) then maSend c (maHs s i (hmWorkS c (maH s i) j (maL c s))) (hmWorkM (maH s i) j (maL c s)) else maHs s i (hmWorkS c (maH s i) j (maL c s))
def coAhB (k:CoS) (d:Int):Bool:=aheadB k.l k.rs k.tr d
def coAhO (k:CoS) (d:Int):Op3:=aheadO k.l k.rs k.tr d
def maLookB (c:Cfg) (s:MaS) (i d:Int):Bool:=
  if coAhB (maK s i) d=false∨nleft c s.n 0=0 then false
  else if maAskE c s i (coAhO (maK s i) d)=0 then maSent c s (caAskM c i (maA s i) (maLine c (coAhO (maK s i) d)) (kindOf (coAhO (maK s i) d)))
  else false
def maLookS (c:Cfg) (s:MaS) (i d:Int):MaS:=
  if coAhB (maK s i) d=false∨nleft c s.n 0=0 then s
  else if maAskE c s i (coAhO (maK s i) d)=0 then maAsk c (maKs s i (coTry (maK s i) d)) i (coAhO (maK s i) d)
  else s
structure Pk where
  kind:Int
  a:Int
  b:Int
def inN (n:Int) (k:Nat):Bool:=decide (0≤n∧n<k)
def maPickB (c:Cfg) (s:MaS) (p:Pk):Bool:=
  if p.a<0∨p.b<0 then false
  else if p.kind=1 then maDelB c s p.a p.b
  else if p.kind=2∧inN p.a s.hs.length=true then maWorkB c s p.a p.b
  else if p.kind=0∧inN p.a s.ks.length=true then maActB c s p.a p.b
  else if p.kind=3∧inN p.a s.ks.length=true then maLookB c s p.a (1+p.b.tmod 4)
  else false
def maPick (c:Cfg) (s:MaS) (p:Pk):MaS:=
  if p.a<0∨p.b<0 then s
  else if p.kind=1 then maDelS c s p.a p.b
  else if p.kind=2∧inN p.a s.hs.length=true then maWorkS c s p.a p.b
  else if p.kind=0∧inN p.a s.ks.length=true then maActS c s p.a p.b
  else if p.kind=3∧inN p.a s.ks.length=true then maLookS c s p.a (1+p.b.tmod 4)
  else s
abbrev caNew (c:Cfg):CaS:=⟨List.replicate (c.sets*c.ways).toNat .zero,[],[]⟩
def maNew (c:Cfg) (ps:List (List Op3)):MaS:=⟨ps.map fun l=>⟨l,[],[]⟩,ps.map fun _=>caNew c,(List.range c.homes.toNat).map fun (i:Nat)=>hmNew c (i:Int),.no,[],0⟩
def maOk (c:Cfg) (ps:List (List Op3)):Bool:=checkB c&& decide ((ps.length:Int)=c.cores)&& ps.all (progB c)
def maQuiet (s:MaS):Bool:=decide (nall s.n=[])&& s.ks.all (fun k=>decide (coLeft k=0))&& s.cs.all (fun a=>decide (a.mis=[]∧a.buf=[]))&& s.hs.all fun h=>decide (h.q.length=0)
end Go.Sx

/- What each thing that a cache does makes of its lines: state and words, miss, buffer. My own work. -/
namespace Go.Sx
open Go Go.Proofs
abbrev mln (m:Miss):Int:=m.line
abbrev bln (m:WbE):Int:=m.line
def amS (m:Miss):AMs Words:=⟨m.kind,m.needs,m.got,m.own,m.words,m.granted,m.owes⟩
def cms (k:CaS) (x:Int):Option (AMs Words):=(fk mln k.mis x).map amS
def cbf (k:CaS) (x:Int):Option (Words×Bool):=(fk bln k.buf x).map fun e=>(e.words,e.live)
abbrev cst (c:Cfg) (k:CaS) (x:Int):Int:=fst' c k.ways x
abbrev cwd (c:Cfg) (k:CaS) (x:Int):Words:=fwd' c k.ways x
section
variable {c:Cfg} {n:Nat} {k:CaS} {line:Int}
theorem mis_at {l:List Miss} (h:misIn l line=true):∃ i,∃ hi:i<l.length,misP l line=i∧misAt l line=l[i]∧l[i].line=line∧∀ j (hj:j<l.length),j<i→l[j].line≠l[i].line:=by
  obtain ⟨i,hi,h1,h2,h3⟩:=fk_pos (f:=mln) (l:=l) (x:=line) (of_decide_eq_true h:0≤misP l line)
  refine ⟨i,hi,h1,?_,h2,h3⟩
  unfold misAt misP
  rw [h1];simp [hi]
theorem mis_fk {l:List Miss} (h:misIn l line=true):fk mln l line=some (misAt l line):=by
  obtain ⟨i,hi,e1,e2,e3,e4⟩:=mis_at h
  rw [e2,←e3];exact fk_get (f:=mln) hi e4
theorem mis_no {l:List Miss} (h:misIn l line=false):fk mln l line=none:=fk_neg (f:=mln) (l:=l) (x:=line) (of_decide_eq_false h:¬0≤misP l line)
theorem mis_in {l:List Miss} {m:Miss} (h:fk mln l line=some m):misIn l line=true∧misAt l line=m:=by
  cases e:misIn l line with
  |false=>rw [mis_no e] at h;cases h
  |true=>rw [mis_fk e] at h;cases h;exact ⟨rfl,rfl⟩
theorem mis_set {l:List Miss} {a:Miss} (h:misIn l line=true) (ha:a.line=(misAt l line).line) (x:Int):fk mln (l.set (misP l line).toNat a) x=if x=line then some a else fk mln l x:=by
  obtain ⟨i,hi,e1,e2,e3,e4⟩:=mis_at h
  rw [e1,Int.toNat_natCast]
  have:=fk_set (f:=mln) (a:=a) hi (by show a.line=l[i].line;rw [ha,e2]) e4 x
  have e3':mln l[i]=line:=e3
  rw [this,e3']
theorem wbf_at {l:List WbE} (h:wbIn l line=true):∃ i,∃ hi:i<l.length,wbPlace l line=i∧wbAt l line=l[i]∧l[i].line=line∧∀ j (hj:j<l.length),j<i→l[j].line≠l[i].line:=by
  obtain ⟨i,hi,h1,h2,h3⟩:=fk_pos (f:=bln) (l:=l) (x:=line) (of_decide_eq_true h:0≤wbPlace l line)
  refine ⟨i,hi,h1,?_,h2,h3⟩
  unfold wbAt wbPlace
  rw [h1];simp [hi]
theorem wb_fk {l:List WbE} (h:wbIn l line=true):fk bln l line=some (wbAt l line):=by
  obtain ⟨i,hi,e1,e2,e3,e4⟩:=wbf_at h
  rw [e2,←e3];exact fk_get (f:=bln) hi e4
theorem wb_no {l:List WbE} (h:wbIn l line=false):fk bln l line=none:=fk_neg (f:=bln) (l:=l) (x:=line) (of_decide_eq_false h:¬0≤wbPlace l line)
theorem wb_in {l:List WbE} {m:WbE} (h:fk bln l line=some m):wbIn l line=true∧wbAt l line=m:=by
  cases e:wbIn l line with
  |false=>rw [wb_no e] at h;cases h
  |true=>rw [wb_fk e] at h;cases h;exact ⟨rfl,rfl⟩
structure CaEv (c:Cfg) (k k':CaS) (st:Int→Int) (wd:Int→Words) (ms:Int→Option (AMs Words)) (bf:Int→Option (Words×Bool)):Prop where
  st:∀ x,cst c k' x=st x
  wd:∀ x,cst c k' x≠0→cwd c k' x=wd x
  ms:∀ x,cms k' x=ms x
  bf:∀ x,cbf k' x=bf x
theorem ev_ask {kind:Int} (h:CaX3 c n k) (he:caAskE c k line kind=0) :
    CaEv c k (caAskK c k line kind) (cst c k) (cwd c k) (fun x=>if x=line then some ⟨kind,-1,0,0,.zero,false,false⟩ else cms k x) (cbf k)∧cms k line=none∧cbf k line=none∧(kind=1∧cst c k line=0∨kind=2∧cst c k line≠2∧cst c k line≠4):=by
  have hk:caAskK c k line kind=⟨if findB c k.ways line then lockL c k.ways line true else layL c k.ways line (arrFree c k.ways line),openL c.mshrs k.mis line kind,k.buf⟩:=by unfold caAskK;rw [if_pos he]
  have he0:=he
  unfold caAskE at he
  split at he
  · cases he
  · rename_i g1
    split at he
    · cases he
    · rename_i g2
      split at he
      · cases he
      · rename_i g3
        split at he
        · cases he
        · rename_i g4
          have m0:misIn k.mis line=false:=by cases e:misIn k.mis line with|false=>rfl|true=>exact absurd (.inl e) g2
          have b0:wbIn k.buf line=false:=by cases e:wbIn k.buf line with|false=>rfl|true=>exact absurd (.inr (.inl e)) g2
          have c0:caCan c k line kind=false:=by cases e:caCan c k line kind with|false=>rfl|true=>exact absurd (.inr (.inr e)) g2
          have hkd:kind=1∨kind=2:=by omega
          have ho:openL c.mshrs k.mis line kind=k.mis++[⟨line,kind,-1,0,0,.zero,false,false⟩]:=by
            have e0:openE c.mshrs k.mis line kind=0:=by
              unfold openE
              rw [if_neg (by omega),if_neg (by rw [m0];simp),if_neg g3]
            unfold openL
            rw [if_pos e0]
          have hways:∀ x,fst' c (caAskK c k line kind).ways x=fst' c k.ways x∧(fst' c k.ways x≠0→fwd' c (caAskK c k line kind).ways x=fwd' c k.ways x):=by
            rw [hk]
            dsimp only
            split
            · exact fun x=>fw_lock h.1.1 x
            · rename_i gf
              intro x
              have hv:vw c k.ways line=none:=by
                have:=vw_findB (c:=c) (l:=k.ways) (line:=line)
                cases e:vw c k.ways line with
                |none=>rfl
                |some y=>rw [e] at this;exact absurd this gf
              have hf:¬arrFree c k.ways line<0:=fun g=>g4 ⟨by simpa using gf,g⟩
              exact ⟨(fw_lay h.1.1 hf hv x).1,fun _=>(fw_lay h.1.1 hf hv x).2⟩
          refine ⟨⟨fun x=>(hways x).1,fun x hx=>(hways x).2 (by rw [←(hways x).1];exact hx),fun x=>?_,fun x=>by rw [hk];rfl⟩,by unfold cms;rw [mis_no m0];rfl,by unfold cbf;rw [wb_no b0];rfl,?_⟩
          · unfold cms
            rw [hk]
            dsimp only
            rw [ho,fk_app,fk_cons,fk_nil]
            by_cases hx:x=line
            · subst hx;rw [if_pos rfl,mis_no m0,if_pos rfl];rfl
            · rw [if_neg hx,if_neg (Ne.symm hx)];cases fk mln k.mis x<;>rfl
          · unfold caCan at c0
            rcases hkd with rfl|rfl
            · left
              rw [if_pos rfl] at c0
              exact ⟨rfl,by have:=of_decide_eq_false c0;unfold cst fst';omega⟩
            · right
              rw [if_neg (by omega)] at c0
              have:=of_decide_eq_false c0
              exact ⟨rfl,by unfold cst fst';omega,by unfold cst fst';omega⟩
theorem wb_set {l:List WbE} {a:WbE} (h:wbIn l line=true) (ha:a.line=(wbAt l line).line) (x:Int):fk bln (l.set (wbPlace l line).toNat a) x=if x=line then some a else fk bln l x:=by
  obtain ⟨i,hi,e1,e2,e3,e4⟩:=wbf_at h
  rw [e1,Int.toNat_natCast]
  have:=fk_set (f:=bln) (a:=a) hi (by show a.line=l[i].line;rw [ha,e2]) e4 x
  have e3':bln l[i]=line:=e3
  rw [this,e3']
theorem there_st {w:Way} (h:w.st≠0):thereB w=true:=by unfold thereB;simp [h]
theorem ev_ev {sw w:Int} (h:CaX3 c n k) (he:caEvE c k sw w=0):∃ y:Way,y=atW c k.ways sw w∧cst c k y.line=y.st∧cwd c k y.line=y.words∧y.st≠0∧cms k y.line=none∧
    CaEv c k (caEvK c k sw w) (fun x=>if x=y.line then 0 else cst c k x) (cwd c k) (cms k) (fun x=>if x=y.line∧2≤y.st then some (y.words,true) else cbf k x):=by
  refine ⟨_,rfl,?_⟩
  have hk:caEvK c k sw w=⟨setL c k.ways (atW c k.ways sw w).line 0 .zero,k.mis,if 2≤(atW c k.ways sw w).st then wbPutL c.writebacks k.buf (atW c k.ways sw w).line (atW c k.ways sw w).words else k.buf⟩:=by unfold caEvK;rw [if_pos he]
  rw [hk]
  unfold caEvE at he
  split at he
  · cases he
  · rename_i g1
    split at he
    · cases he
    · rename_i g2
      split at he
      · cases he
      · rename_i g3
        have hst:(atW c k.ways sw w).st≠0:=fun e=>g1 (.inr e)
        have hv:=vw_mem h.1.1 (atW_mem hst) (there_st hst)
        have hlk:(atW c k.ways sw w).lk=false:=by simpa using g2
        have hm0:misIn k.mis (atW c k.ways sw w).line=false:=by
          cases e:misIn k.mis (atW c k.ways sw w).line with
          |false=>rfl
          |true=>
           obtain ⟨w1,h1,h2⟩:=h.2.1.ml _ (misIn_iff.1 e)
           rw [hv] at h1;cases h1;rw [hlk] at h2;cases h2
        have hs:setE c k.ways (atW c k.ways sw w).line 0 .zero=0:=setE_mk (by rw [hv];rfl) (by omega) (odd_zero c)
        refine ⟨by unfold cst;rw [fst_vw,hv];rfl,by unfold cwd;rw [fwd_vw,hv];rfl,hst,by unfold cms;rw [mis_no hm0];rfl,⟨fun x=>(fw_set h.1.1 hs x).1,fun x hx=>?_,fun x=>rfl,fun x=>?_⟩⟩
        · have e1:=(fw_set h.1.1 hs x).2 hx
          have e0:=(fw_set h.1.1 hs x).1
          refine Eq.trans e1 ?_
          by_cases hxl:x=(atW c k.ways sw w).line
          · rw [if_pos hxl] at e0;exact absurd e0 hx
          · rw [if_neg hxl]
        · unfold cbf
          dsimp only
          by_cases h2:2≤(atW c k.ways sw w).st
          · rw [if_pos h2]
            have hp:wbPutE c.writebacks k.buf (atW c k.ways sw w).line=0:=Decidable.byContradiction fun e=>g3 ⟨h2,e⟩
            unfold wbPutE at hp
            split at hp
            · cases hp
            · rename_i p1
              split at hp
              · cases hp
              · rename_i p2
                unfold wbPutL
                rw [if_neg p1,if_neg p2,fk_app,fk_cons,fk_nil]
                by_cases hx:x=(atW c k.ways sw w).line
                · rw [hx,wb_no (by simpa using p1),if_pos rfl,if_pos ⟨rfl,h2⟩];rfl
                · rw [if_neg (Ne.symm hx),if_neg (fun g=>hx g.1)]
                  cases fk bln k.buf x<;>rfl
          · rw [if_neg h2,if_neg (fun g=>h2 g.2)]
theorem ev_tell {st:Int} {g:Bool} (h:CaX3 c n k) (hst:0≤st∧st≤4) (he:caTellE c k line=0) :
    (2≤cst c k line∧caTellW c k line=cwd c k line∧CaEv c k (caTellK c k line st g) (fun x=>if x=line then st else cst c k x) (cwd c k) (cms k) (cbf k))
    ∨(cst c k line<2∧cbf k line=some (caTellW c k line,true)∧CaEv c k (caTellK c k line st g) (cst c k) (cwd c k) (cms k) (fun x=>if x=line∧g=true then some (caTellW c k line,false) else cbf k x)):=by
  unfold caTellE at he
  unfold caTellW caTellK
  by_cases h2:2≤(findW c k.ways line).st
  · left
    rw [if_pos h2,if_pos h2]
    obtain ⟨y,hv,_⟩:=fst_there (c:=c) (l:=k.ways) (line:=line) (by show (findW c k.ways line).st≠0;omega)
    have hs:setE c k.ways line st (findW c k.ways line).words=0:=setE_mk (by rw [hv];rfl) hst (by rw [(vw_some hv).2.2.2.2];exact (h.2.1.wd _ _ hv).1)
    refine ⟨h2,rfl,⟨fun x=>(fw_set h.1.1 hs x).1,fun x hx=>?_,fun x=>rfl,fun x=>rfl⟩⟩
    refine Eq.trans ((fw_set h.1.1 hs x).2 hx) ?_
    by_cases hxl:x=line
    · rw [if_pos hxl,hxl];rfl
    · rw [if_neg hxl]
  · right
    rw [if_neg h2] at he
    rw [if_neg h2,if_neg h2]
    have hw:wbTellE k.buf line=0:=Decidable.byContradiction fun e=>by rw [if_neg e] at he;cases he
    unfold wbTellE at hw
    split at hw
    · rename_i b1
      split at hw
      · rename_i b2
        have hb:fk bln k.buf line=some (wbAt k.buf line):=wb_fk b1
        have hw2:wbTellW k.buf line=(wbAt k.buf line).words:=by unfold wbTellW;rw [b1,b2];rfl
        refine ⟨by show (findW c k.ways line).st<2;omega,by unfold cbf;rw [hb,hw2,Option.map_some,b2],?_⟩
        cases g with
        |false=>exact ⟨fun x=>rfl,fun x _=>rfl,fun x=>rfl,fun x=>(if_neg (by simp)).symm⟩
        |true=>
         refine ⟨fun x=>rfl,fun x _=>rfl,fun x=>rfl,fun x=>?_⟩
         show (fk bln (wbGiveL k.buf line) x).map _=_
         unfold wbGiveL
         rw [if_pos (by rw [b1,b2];rfl),wb_set (a:=⟨(wbAt k.buf line).line,(wbAt k.buf line).words,false⟩) b1 rfl]
         by_cases hx:x=line
         · rw [if_pos hx,if_pos ⟨hx,rfl⟩,hw2];rfl
         · rw [if_neg hx,if_neg (fun e=>hx e.1)];rfl
      · cases hw
    · cases hw
theorem ev_inv1 (h:CaX3 c n k) (hs:cst c k line=1):CaEv c k (caInvK c k line) (fun x=>if x=line then 0 else cst c k x) (cwd c k) (cms k) (cbf k):=by
  unfold caInvK
  have hs':(findW c k.ways line).st=1:=hs
  rw [if_pos hs']
  obtain ⟨y,hv,_⟩:=fst_there (c:=c) (l:=k.ways) (line:=line) (by show (findW c k.ways line).st≠0;omega)
  have he:setE c k.ways line 0 .zero=0:=setE_mk (by rw [hv];rfl) (by omega) (odd_zero c)
  refine ⟨fun x=>(fw_set h.1.1 he x).1,fun x hx=>?_,fun x=>rfl,fun x=>rfl⟩
  have e0:=(fw_set h.1.1 he x).1
  refine Eq.trans ((fw_set h.1.1 he x).2 hx) ?_
  by_cases hxl:x=line
  · rw [if_pos hxl] at e0;exact absurd e0 hx
  · rw [if_neg hxl]
theorem ev_inv2 (hs:cst c k line≠1):caInvK c k line=k:=by
  unfold caInvK
  rw [if_neg (show ¬(findW c k.ways line).st=1 from hs)]
theorem ev_pack (h:CaX3 c n k):CaEv c k (caPaK k line) (cst c k) (cwd c k) (cms k) (fun x=>if x=line then none else cbf k x):=by
  refine ⟨fun x=>rfl,fun x _=>rfl,fun x=>rfl,fun x=>?_⟩
  show (fk bln (wbDropL k.buf line) x).map _=_
  unfold wbDropL
  split
  · rename_i b1
    obtain ⟨i,hi,e1,e2,e3,e4⟩:=wbf_at b1
    rw [e1,Int.toNat_natCast,fk_erase (f:=bln) hi h.2.1.bd,show bln k.buf[i]=line from e3]
    by_cases hx:x=line
    · rw [if_pos hx,if_pos hx];rfl
    · rw [if_neg hx,if_neg hx];rfl
  · rename_i b1
    by_cases hx:x=line
    · rw [if_pos hx,hx,wb_no (by simpa using b1)];rfl
    · rw [if_neg hx];rfl
theorem cms_in {l:List Miss} {b:List WbE} {w:List Way} {m:AMs Words} (h:cms ⟨w,l,b⟩ line=some m):misIn l line=true∧amS (misAt l line)=m:=by
  unfold cms at h
  dsimp only at h
  cases e:fk mln l line with
  |none=>rw [e] at h;cases h
  |some a=>
   rw [e] at h
   obtain ⟨g1,g2⟩:=mis_in e
   rw [g2]
   exact ⟨g1,by simpa using h⟩
theorem ms_turn {a:Miss} (hin:misIn k.mis line=true) (ha:a.line=(misAt k.mis line).line) (x:Int):cms ⟨k.ways,k.mis.set (misP k.mis line).toNat a,k.buf⟩ x=if x=line then some (amS a) else cms k x:=by
  unfold cms
  dsimp only
  rw [mis_set hin ha]
  by_cases hx:x=line
  · rw [if_pos hx,if_pos hx];rfl
  · rw [if_neg hx,if_neg hx]
theorem ev_data1 {acks own:Int} {w:Words} {m:AMs Words} (hm:cms k line=some m) (hn:m.needs= -1) (hg:m.got≤acks) (hk:(m.kind=2∧own=4)∨(m.kind=1∧acks=0∧(own=1∨own=2))) :
    dataE k.mis line acks own=0∧CaEv c k ⟨k.ways,dataL k.mis line acks own w,k.buf⟩ (cst c k) (cwd c k) (fun x=>if x=line then some { m with needs:=acks,own:=own,w:=w} else cms k x) (cbf k):=by
  obtain ⟨hin,rfl⟩:=cms_in (w:=k.ways) (b:=k.buf) hm
  have he:dataE k.mis line acks own=0:=by
    unfold dataE fitsM
    rw [if_pos hin,if_pos]
    have h1:(misAt k.mis line).needs= -1:=hn
    have h2:(misAt k.mis line).got≤acks:=hg
    rw [decide_eq_true (And.intro h1 h2),Bool.true_and]
    rcases hk with ⟨h3,h4⟩|⟨h3,h4,h5⟩
    · rw [if_pos (show (misAt k.mis line).kind=2 from h3)];exact decide_eq_true h4
    · rw [if_neg (by have:(misAt k.mis line).kind=1:=h3;omega)];exact decide_eq_true ⟨h4,h5⟩
  refine ⟨he,fun x=>rfl,fun x _=>rfl,fun x=>?_,fun x=>rfl⟩
  unfold dataL
  rw [if_pos he]
  exact ms_turn (a:={ misAt k.mis line with needs:=acks,own:=own,words:=w}) hin rfl x
theorem ev_grant1 {acks:Int} {m:AMs Words} (hm:cms k line=some m) (hn:m.needs= -1) (hg:m.got≤acks) (hk:m.kind=2) :
    dataE k.mis line acks 4=0∧CaEv c k ⟨k.ways,grantL k.mis line acks,k.buf⟩ (cst c k) (cwd c k) (fun x=>if x=line then some { m with needs:=acks,own:=4,w:= .zero,gr:=true} else cms k x) (cbf k):=by
  have he:=(ev_data1 (c:=c) (w:= .zero) (own:=4) hm hn hg (.inl ⟨hk,rfl⟩)).1
  obtain ⟨hin,rfl⟩:=cms_in (w:=k.ways) (b:=k.buf) hm
  refine ⟨he,fun x=>rfl,fun x _=>rfl,fun x=>?_,fun x=>rfl⟩
  unfold grantL
  rw [if_pos he]
  exact ms_turn (a:={ misAt k.mis line with needs:=acks,own:=4,words:= .zero,granted:=true}) hin rfl x
theorem ev_ack1 {m:AMs Words} (hm:cms k line=some m) (hk:m.kind≠1) (hn:m.needs≠m.got) :
    ackE k.mis line=0∧CaEv c k ⟨k.ways,ackL k.mis line,k.buf⟩ (cst c k) (cwd c k) (fun x=>if x=line then some { m with got:=m.got+1} else cms k x) (cbf k):=by
  obtain ⟨hin,rfl⟩:=cms_in (w:=k.ways) (b:=k.buf) hm
  have he:ackE k.mis line=0:=by
    unfold ackE
    rw [if_pos hin,if_neg]
    rintro (g|g)
    · exact hk g
    · exact hn g
  refine ⟨he,fun x=>rfl,fun x _=>rfl,fun x=>?_,fun x=>rfl⟩
  unfold ackL
  rw [if_pos he]
  exact ms_turn (a:={ misAt k.mis line with got:=(misAt k.mis line).got+1}) hin rfl x
theorem ev_fill {m:AMs Words} (h:CaX3 c n k) (hm:cms k line=some m) (h1:m.needs=m.got) (h2:m.ow=false) (h3:0≤m.own∧m.own≤4) :
    CaEv c k (caFill c k line) (fun x=>if x=line then m.own else cst c k x) (fun x=>if x=line then (if m.gr=true then cwd c k line else m.w) else cwd c k x) (fun x=>if x=line then some { m with ow:=true} else cms k x) (cbf k):=by
  obtain ⟨hin,rfl⟩:=cms_in (w:=k.ways) (b:=k.buf) hm
  have hb:oweB k.mis line=true:=by
    unfold oweB
    have g2:(misAt k.mis line).owes=false:=h2
    rw [hin,g2,decide_eq_true (show (misAt k.mis line).needs=(misAt k.mis line).got from h1)];rfl
  have hM:oweM k.mis line=misAt k.mis line:=by unfold oweM;rw [if_pos hb]
  have hk:caFill c k line=⟨setL c k.ways line (misAt k.mis line).own (if (misAt k.mis line).granted=true then (findW c k.ways line).words else (misAt k.mis line).words),oweL k.mis line,k.buf⟩:=by unfold caFill;rw [if_pos hb,hM]
  obtain ⟨y,hv,_⟩:=h.2.1.ml line (misIn_iff.1 hin)
  have hs:setE c k.ways line (misAt k.mis line).own (if (misAt k.mis line).granted=true then (findW c k.ways line).words else (misAt k.mis line).words)=0:=by
    refine setE_mk (by rw [hv];rfl) h3 ?_
    split
    · exact vals_odd (v_find h.2.2.1)
    · exact vals_odd (v_misAt h.2.2.2.1)
  rw [hk]
  refine ⟨fun x=>(fw_set h.1.1 hs x).1,fun x hx=>(fw_set h.1.1 hs x).2 hx,fun x=>?_,fun x=>rfl⟩
  have:oweL k.mis line=k.mis.set (misP k.mis line).toNat { misAt k.mis line with owes:=true}:=by unfold oweL;rw [if_pos hb]
  show cms ⟨_,oweL k.mis line,_⟩ x=_
  rw [this]
  exact ms_turn (a:={ misAt k.mis line with owes:=true}) hin rfl x
theorem ev_nofill {m:AMs Words} (hm:cms k line=some m) (h1:m.needs≠m.got∨m.ow=true):caFill c k line=k:=by
  obtain ⟨hin,rfl⟩:=cms_in (w:=k.ways) (b:=k.buf) hm
  have hb:oweB k.mis line=false:=by
    unfold oweB
    rcases h1 with g|g
    · rw [decide_eq_false (show ¬(misAt k.mis line).needs=(misAt k.mis line).got from g),Bool.and_false]
    · rw [show (misAt k.mis line).owes=true from g,Bool.not_true,Bool.and_false,Bool.false_and]
  unfold caFill
  rw [hb];rfl
theorem ev_fin (h:CaX3 c n k) (hb:caFinB k=true):(∃ m,cms k (caFinL k)=some m∧m.ow=true)∧CaEv c k (caFinK c k) (cst c k) (cwd c k) (fun x=>if x=caFinL k then none else cms k x) (cbf k):=by
  obtain ⟨he,i,hi,e1,e2,e3⟩:=fin_close h.2.1.nd hb
  have hin:misIn k.mis (caFinL k)=true:=decide_eq_true (by rw [e1];omega)
  have hat:misAt k.mis (caFinL k)=k.mis[i]:=by unfold misAt;rw [e1,Int.toNat_natCast,List.getD_eq_getElem?_getD,List.getElem?_eq_getElem hi];rfl
  have hk:caFinK c k=⟨lockL c k.ways (caFinL k) false,closeL k.mis (caFinL k),k.buf⟩:=by unfold caFinK;rw [if_pos hb]
  refine ⟨⟨amS (misAt k.mis (caFinL k)),by unfold cms;rw [mis_fk hin];rfl,by rw [hat];exact e3⟩,?_⟩
  rw [hk]
  refine ⟨fun x=>(fw_lock h.1.1 x).1,fun x hx=>(fw_lock h.1.1 x).2 (by rw [←(fw_lock (lk:=false) (line:=caFinL k) h.1.1 x).1];exact hx),fun x=>?_,fun x=>rfl⟩
  show (fk mln (closeL k.mis (caFinL k)) x).map amS=_
  unfold closeL
  rw [if_pos he,e1,Int.toNat_natCast,fk_erase (f:=mln) hi h.2.1.nd,show mln k.mis[i]=caFinL k from e2.symm]
  by_cases hx:x=caFinL k
  · rw [if_pos hx,if_pos hx];rfl
  · rw [if_neg hx,if_neg hx];rfl
theorem ev_do {x:Op3} (h:CaX3 c n k) (he:caDoE c k x=0) :
    (x.kind=1∧caDoK c k x=k∧cst c k (addrL c x.addr)≠0∧apE c x=0)
    ∨(x.kind≠1∧(cst c k (addrL c x.addr)=2∨cst c k (addrL c x.addr)=4)∧apE c x=0
     ∧CaEv c k (caDoK c k x) (fun y=>if y=addrL c x.addr then 4 else cst c k y) (fun y=>if y=addrL c x.addr then apW c (cwd c k (addrL c x.addr)) x else cwd c k y) (cms k) (cbf k)):=by
  have he0:=he
  unfold caDoE at he
  split at he
  · rename_i ha
    split at he
    · rename_i hc
      unfold caCan kindOf at hc
      by_cases hk:x.kind=1
      · left
        rw [if_pos hk,if_pos rfl] at hc
        exact ⟨hk,by unfold caDoK;rw [if_neg (fun g=>g.2 hk)],of_decide_eq_true hc,ha⟩
      · right
        rw [if_neg hk,if_neg (by omega)] at hc
        have hc:=of_decide_eq_true hc
        obtain ⟨y,hv,_⟩:=fst_there (c:=c) (l:=k.ways) (line:=addrL c x.addr) (by show (findW c k.ways (addrL c x.addr)).st≠0;omega)
        have hs:setE c k.ways (addrL c x.addr) 4 (apW c (findW c k.ways (addrL c x.addr)).words x)=0:=setE_mk (by rw [hv];rfl) (by omega) (vals_odd (v_ap (v_find h.2.2.1)))
        have hK:caDoK c k x=⟨setL c k.ways (addrL c x.addr) 4 (apW c (findW c k.ways (addrL c x.addr)).words x),k.mis,k.buf⟩:=by unfold caDoK;rw [if_pos ⟨he0,hk⟩]
        refine ⟨hk,hc,ha,?_⟩
        rw [hK]
        exact ⟨fun y=>(fw_set h.1.1 hs y).1,fun y hy=>(fw_set h.1.1 hs y).2 hy,fun y=>rfl,fun y=>rfl⟩
    · cases he
  · rename_i ha;exact absurd he ha
end
end Go.Sx

/- Traces, told of lists: the memory behind one, and how far one is fine. My own work. -/
namespace Go.Sx
open Go Go.Proofs
def trMs (c:Cfg) (l:List Com):List Int:=l.foldl (fun ms x=>memDoL ms x.op) (List.replicate (c.words*c.lines).toNat 0)
def valV (c:Cfg) (l:List Com) (addr:Int):Int:=if checkB c then wordAt (trMs c l) addr else 0
theorem trMs_take {c:Cfg} {l:List Com} {i:Nat} (hi:i<l.length):trMs c (l.take (i+1))=memDoL (trMs c (l.take i)) l[i].op:=by
  unfold trMs
  rw [List.take_add_one,List.getElem?_eq_getElem hi,Option.toList_some,List.foldl_append]
  rfl
theorem trMs_len (c:Cfg) (l:List Com):(trMs c l).length=(c.words*c.lines).toNat:=by
  have:∀ (l:List Com) (ms:List Int),(l.foldl (fun ms x=>memDoL ms x.op) ms).length=ms.length:=by
    intro l
    induction l with
    |nil=>intro ms;rfl
    |cons a r ih=>intro ms;rw [List.foldl_cons,ih,memDoL_len]
  unfold trMs;rw [this,List.length_replicate]
def cntC (l:List Com) (i:Nat) (k:Int):Nat:=(l.take i).countP fun y=>decide (y.core=k)
def goodC (c:Cfg) (ps:List (List Op3)) (l:List Com) (i:Nat):Bool:=match l[i]? with
  |none=>false
  |some x=>decide (0≤x.core∧x.core<c.cores)&& decide (x.pos=cntC l i x.core)&& decide (x.pos<((ps.getD x.core.toNat []).length:Int))&& decide (x.op=(ps.getD x.core.toNat []).getD x.pos.toNat .zero)
     && decide (memDoE (trMs c (l.take i)) x.op=0)&& decide (memDoV (trMs c (l.take i)) x.op=x.res)
def chkN (c:Cfg) (ps:List (List Op3)) (l:List Com):Nat:=(List.range l.length).findIdx fun i=> !goodC c ps l i
def chkOk (c:Cfg) (ps:List (List Op3)):Bool:=checkB c&& decide ((ps.length:Int)=c.cores)
def chkV (c:Cfg) (ps:List (List Op3)) (l:List Com):Int:=if chkOk c ps then (chkN c ps l:Int) else 0
def chkE (c:Cfg) (ps:List (List Op3)) (l:List Com):Int:=if chkOk c ps then (if chkN c ps l=l.length then 0 else 7) else 1
theorem chkN_at {c:Cfg} {ps:List (List Op3)} {l:List Com} {i:Nat} (hi:i<l.length) (h:∀ j,j<i→goodC c ps l j=true) (h2:goodC c ps l i=false):chkN c ps l=i:=by
  unfold chkN
  rw [List.findIdx_eq (by simpa using hi)]
  exact ⟨by simpa using h2,fun j hj=>by simpa using h j hj⟩
theorem chkN_all {c:Cfg} {ps:List (List Op3)} {l:List Com} (h:∀ j,j<l.length→goodC c ps l j=true):chkN c ps l=l.length:=by
  unfold chkN
  rw [List.findIdx_eq_length.2,List.length_range]
  intro x hx
  have:=h x (List.mem_range.1 hx)
  simp [this]
theorem cntC_succ {l:List Com} {i:Nat} (hi:i<l.length) (k:Int):cntC l (i+1) k=cntC l i k+if l[i].core=k then 1 else 0:=by
  unfold cntC
  rw [List.take_add_one,List.getElem?_eq_getElem hi,Option.toList_some,List.countP_append]
  simp [List.countP_cons]
theorem cntC_le (l:List Com) (i:Nat) (k:Int):cntC l i k≤i:=by
  unfold cntC
  exact Nat.le_trans List.countP_le_length (by rw [List.length_take];omega)
def atC (n:Nat) (l:List Com) (i:Nat):List Int:=(List.range n).map fun (k:Nat)=>(cntC l i (k:Int):Int)
theorem atC_zero (n:Nat) (l:List Com):atC n l 0=List.replicate n 0:=by
  unfold atC
  apply List.ext_getElem (by simp)
  intro j h1 h2
  simp [cntC]
theorem atC_succ {n:Nat} {l:List Com} {i k:Nat} (hi:i<l.length) (hk:k<n) (h:l[i].core=k):atC n l (i+1)=(atC n l i).set k ((cntC l i (k:Int):Int)+1):=by
  unfold atC
  apply List.ext_getElem (by simp)
  intro j h1 h2
  rw [List.getElem_set]
  simp only [List.getElem_map,List.getElem_range]
  rw [cntC_succ hi]
  by_cases e:k=j
  · subst e;rw [if_pos rfl,if_pos h];simp
  · rw [if_neg e,if_neg (by rw [h];omega)];simp
end Go.Sx
