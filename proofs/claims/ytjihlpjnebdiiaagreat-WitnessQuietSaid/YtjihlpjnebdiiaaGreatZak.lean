/- Qu2, Qu3, Hom, Hom2, HomPl, CaV: several of my texts as one. My own work. -/
import Derived.Test.YtjihlpjnebdiiaaGreatZr
import Derived.Test.YtjihlpjnebdiiaaGreatZaf
import Derived.Test.YtjihlpjnebdiiaaGreatZaa
import Derived.Test.YtjihlpjnebdiiaaGreatZaj
import Derived.Test.YtjihlpjnebdiiaaGreatZae
import Derived.Test.YtjihlpjnebdiiaaGreatZah
import Derived.Test.YtjihlpjnebdiiaaGreatZai
set_option linter.unusedVariables false
set_option linter.unusedSectionVars false
set_option linter.unusedSimpArgs false
/- What queues do: the program's functions. My own work. -/
namespace Go.Sx
open Go Go.Proofs
set_option maxRecDepth 100000
set_option maxHeartbeats 4000000
attribute [local irreducible] Go.Exit.then Go.Exit.inBlock Go.Code.wp WC WO WE WQ V LoopQ FnQ Sat Star band bor IntKind.wrap WR Code.rounds WT KO
abbrev QuP:=QuB 189 191
theorem qu_New {F:List HP} {room:Int} (h:1≤room∧room≤16):FnF Tryz.prog 95 [.int .i64 room] [] F (fun r L'=>∃ b,r= .tuple [.pointer (some ⟨b,0,none⟩),.int .i64 0].toArray∧L'=[QuP b room []]):=by
  refine FnF.mk' Tryz.func95 rfl rfl Tryz.ntmps95 rfl ?_
  repeat (first|refine gd ?_|intro _)
  (apply WE_ret rfl rfl zqR)
  · exact ⟨_,rfl,rfl⟩
  · exact qu_in (ps:=[]) (Ent.cons (own_empty all_nil)) rfl rfl rfl (by simp;omega) h.2 (by simp)
theorem qu_Left {F:List HP} {b:Nat} {room:Int} {l:List QE}:FnF Tryz.prog 179 [.pointer (some ⟨b,0,none⟩)] [QuP b room l] F (fun r L'=>r= .int .i64 (room-l.length)∧L'=[QuP b room l]):=by
  refine FnF.mk' Tryz.func179 rfl rfl Tryz.ntmps179 rfl ?_
  refine qu_open fun p c ps hf=>?_
  obtain ⟨rfl,h1,h2,h3,hcp⟩:=hf
  repeat (first|refine gd ?_|intro _)
  (apply WE_ret rfl rfl zqR)
  · exact ⟨by rw [List.length_map];rfl,rfl⟩
  · exact enx @qu_in
theorem qu_has {F:List HP} {b:Nat} {room:Int} {l:List QE} {n:Int}:FnF Tryz.prog 192 [.pointer (some ⟨b,0,none⟩),.int .i64 n] [QuP b room l] F (fun r L'=>r= .bool (qin l n)∧L'=[QuP b room l]):=by
  refine FnF.mk' Tryz.func192 rfl rfl Tryz.ntmps192 rfl ?_
  refine qu_open fun p c ps hf=>?_
  obtain ⟨rfl,h1,h2,h3,hcp⟩:=hf
  by_cases h:0≤n
  · repeat (first|refine gd ?_|intro _)
    (apply WE_ret rfl rfl zqR)
    · exact ⟨by simp [qin,h],rfl⟩
    · exact enx @qu_in
  · repeat (first|refine gd ?_|intro _)
    (apply WE_ret rfl rfl zqR)
    · exact ⟨by simp [qin,h],rfl⟩
    · exact enx @qu_in
theorem qu_Ready1 {F:List HP} {b:Nat} {line:Int} {T:TypeId} {C:List Value→List HP} {e:QP} (k:CellsAt b F T [.int .i64 line] C) :
    FnF Tryz.prog 194 [qv e,.pointer (some ⟨b,0,none⟩)] [] F (fun r L'=>r= .bool (decide (e.1.m.line=line))∧L'=[]):=by
  refine FnF.mk' Tryz.func194 rfl rfl Tryz.ntmps194 rfl ?_
  repeat (first|refine gd ?_|intro _)
  exact fin0
theorem qu_contains {F:List HP} {b:Nat} {line:Int} {T:TypeId} {C:List Value→List HP} {v:Value} {l:List QP} (k1:CellsAt b F T [.int .i64 line] C) (k:RdL F 17 v l.length (flat qc l)) (hn:l.length≤1099511627776) :
    FnF Tryz.prog 193 [v,.func (.func 194) [].toArray [.pointer (some ⟨b,0,none⟩)].toArray] [] F (fun r L'=>r= .bool (decide (0≤indexBy (fun e:QP=>decide (e.1.m.line=line)) l))∧L'=[]):=by
  have hI:=sl_IndexFunc_qe (F:=F) (first:=[]) (cap:=[.pointer (some ⟨b,0,none⟩)]) (fk:=194) (p:=fun e=>decide (e.1.m.line=line)) k hn (fun x _=>qu_Ready1 k1)
  refine FnF.mk' Tryz.func193 rfl rfl Tryz.ntmps193 rfl ?_
  repeat (first|refine gd ?_|intro _|refine cal @hI ?_)
  exact fin0
theorem qfree_ix {ps:List QP} {n:Nat} {line:Int}:qfree (ps.map (·.1)) n line=decide (indexBy (fun e:QP=>decide (e.1.m.line=line)) (ps.take n)<0):=by
  rcases Int.lt_or_le (indexBy (fun e:QP=>decide (e.1.m.line=line)) (ps.take n)) 0 with h|h
  · obtain ⟨h1,h2⟩:=indexBy_neg (p:=fun e:QP=>decide (e.1.m.line=line)) (l:=ps.take n) (by omega)
    have:qfree (ps.map (·.1)) n line=true:=by
      simp only [qfree,←List.map_take,List.all_map,List.all_eq_true]
      intro x hx
      have:=h2 x hx
      simpa using this
    rw [this,dec_t h]
  · obtain ⟨i,hi,h1,h2,h3⟩:=indexBy_nat h
    have:qfree (ps.map (·.1)) n line=false:=by
      simp only [qfree,←List.map_take,List.all_map,List.all_eq_false]
      exact ⟨_,List.getElem_mem hi,by simpa using h2⟩
    rw [this,dec_f (by omega)]
theorem qu_Ready {F:List HP} {b:Nat} {room:Int} {l:List QE} {n:Int}:FnF Tryz.prog 147 [.pointer (some ⟨b,0,none⟩),.int .i64 n] [QuP b room l] F (fun r L'=>r= .bool (qready l n)∧L'=[QuP b room l]):=by
  have hH:=fun F=>qu_has (F:=F) (b:=b) (room:=room) (l:=l) (n:=n)
  cases e:qin l n with
  |false=>
   rw [e] at hH
   refine FnF.mk' Tryz.func147 rfl rfl Tryz.ntmps147 rfl ?_
   repeat (first|refine gd ?_|intro _|refine cal @hH ?_)
   (apply WE_ret rfl rfl zqR)
   · exact ⟨by simp [qready,e],rfl⟩
   · exact entu0
  |true=>
   rw [e] at hH
   obtain ⟨i,hi,rfl,ea⟩:=qin_t e
   refine FnF.mk' Tryz.func147 rfl rfl Tryz.ntmps147 rfl ?_
   repeat (first|refine go ?_|intro _|refine cal @hH ?_)
   (first|refine WO_front (QuP b room l) ?_|refine WC_front (QuP b room l) ?_|refine WE_front (QuP b room l) ?_)
   refine qu_openO fun p c ps hf=>?_
   obtain ⟨rfl,h1,h2,h3,hcp⟩:=hf
   have hi':i<ps.length:=by simpa using hi
   have hst:(ps.map (·.1))[i]=ps[i].1:=by simp
   rw [hst] at ea
   cases es:ps[i].1.st with
   |true=>
    repeat (first|refine gd ?_|intro _)
    (apply WE_ret rfl rfl zqR)
    · exact ⟨by simp [qready,ea,es],rfl⟩
    · exact enx @qu_in
   |false=>
    have htl:(ps.take i).length=i:=by rw [List.length_take];omega
    haveI kr:=fun L=>rd_low (T:=191) (p:=p) (c:=c) (i:=i) (ps:=ps) (by omega) hcp L
    repeat (first|refine gd ?_|intro _|refine cal @qu_contains ?_)
    (apply WE_ret rfl rfl zqR)
    · exact ⟨by simp [qready,ea,es,e,qfree_ix],rfl⟩
    · exact enx @qu_in
theorem splice_st {ps:List QP} {i:Nat} (hi:i<ps.length) (b:Bool):splice (flat qc ps) (i*17+15) [.bool b]=flat qc (ps.set i ((⟨ps[i].1.m,b,ps[i].1.sends⟩:QE),ps[i].2)):=
  splice_flatJ (enc:=qc) (n:=17) (fun _=>rfl) ps i hi (j:=15) (cs:=[.bool b]) (x:=((⟨ps[i].1.m,b,ps[i].1.sends⟩:QE),ps[i].2)) (by simp) rfl
theorem splice_sd {ps:List QP} {i:Nat} (hi:i<ps.length) (s:List Msg) (a:Option Addr) (c:Nat):splice (flat qc ps) (i*17+16) [.slice a s.length c]=flat qc (ps.set i ((⟨ps[i].1.m,ps[i].1.st,s⟩:QE),(a,c))):=
  splice_flatJ (enc:=qc) (n:=17) (fun _=>rfl) ps i hi (j:=16) (cs:=[.slice a s.length c]) (x:=((⟨ps[i].1.m,ps[i].1.st,s⟩:QE),(a,c))) (by simp) rfl
theorem dr_Qu2_141 {Q P:Prop} (k:Q) (h:Hid Q→P:=by
  intro k
  first
  |(refine is_draw ?_;apply WC_mix (id:=5) .true _ (pl:= .p 0 <| .p 1 <| .p 2 <| .p 3 <| .r 4 <| .r 5 <| .p 6 <| .e true [(7,.e true [(8,.p 9 <| .p 10 <| .e false [(11,.done)])])]);exact mixed;kernel_rfl;kernel_rfl;exact Ent.refl;exact k.out)):P:=h ⟨k⟩
theorem qu_Add {F:List HP} {b:Nat} {room:Int} {l:List QE} {m:Msg}:FnF Tryz.prog 141 [.pointer (some ⟨b,0,none⟩),mv m] [QuP b room l] F (fun r L'=>r= .int .i64 (qaddE room l m)∧L'=[QuP b room (qaddL room l m)]):=by
  refine FnF.mk' Tryz.func141 rfl rfl Tryz.ntmps141 rfl ?_
  by_cases hk:m.kind<1∨m.kind>3
  · have e:qaddE room l m=1:=by simp only [qaddE,if_pos hk]
    have e2:qaddL room l m=l:=by simp [qaddL,e]
    rw [e,e2]
    by_cases h1:m.kind<1
    · repeat (first|refine go ?_|intro _|refine dr_Qu2_141 ?_|refine drq ?_)
      exact fin0
    · repeat (first|refine go ?_|intro _|refine dr_Qu2_141 ?_|refine drq ?_)
      exact fin0
  · by_cases hf:(l.length:Int)=room
    · have e:qaddE room l m=4:=by simp only [qaddE,if_neg hk,if_pos hf]
      have e2:qaddL room l m=l:=by simp [qaddL,e]
      rw [e,e2]
      repeat (first|refine go ?_|intro _|refine dr_Qu2_141 ?_|refine drq ?_|refine cal @qu_Left ?_)
      exact fin0
    · have e:qaddE room l m=0:=by simp only [qaddE,if_neg hk,if_neg hf]
      have e2:qaddL room l m=l++[⟨m,false,[]⟩]:=by simp [qaddL,e]
      rw [e,e2]
      repeat (first|refine go ?_|intro _|refine cal @qu_Left ?_)
      (first|refine WO_front (QuP b room l) ?_|refine WC_front (QuP b room l) ?_|refine WE_front (QuP b room l) ?_)
      refine qu_open fun p c ps hf=>?_
      obtain ⟨rfl,h1,h2,h3,hcp⟩:=hf
      repeat (first|refine go ?_|intro _|refine dr_Qu2_141 ?_|refine drq ?_)
      (apply WE_ret rfl rfl zqR)
      · exact ⟨rfl,rfl⟩
      · rw [List.length_map] at hf
        apply qu_in (ps:=ps++[((⟨m,false,[]⟩:QE),(none,0))])
        · exact enx @all_add0
        · simp
        · simp
        · rw [flat_append,flat_one];rfl
        · simp;omega
        · exact h2
        · intro p hp
          rcases List.mem_append.1 hp with h|h
          · exact h3 p h
          · rw [List.mem_singleton.1 h];simp
theorem headD_at {l:List Msg} {z:Msg} (h:0<l.length):l.headD z=l[(0:Int).toNat]'h:=by
  cases l with
  |nil=>simp at h
  |cons a r=>rfl
theorem map_erase {α β:Type} (f:α→β) (l:List α) (i:Nat):(l.eraseIdx i).map f=(l.map f).eraseIdx i:=by
  induction l generalizing i with
  |nil=>rfl
  |cons a r ih=>cases i with
   |zero=>rfl
   |succ i=>simp [ih]
theorem qset_map {ps:List QP} {i:Nat} {x:QP}:(ps.set i x).map (·.1)=(ps.map (·.1)).set i x.1:=by rw [List.map_set]
theorem qcap_set {ps:List QP} {i:Nat} {x:QP} (h3:∀ p∈ps,p.1.sends.length≤p.2.2∧p.1.sends.length≤1000) (hx:x.1.sends.length≤x.2.2∧x.1.sends.length≤1000):∀ p∈ps.set i x,p.1.sends.length≤p.2.2∧p.1.sends.length≤1000:=by
  intro p hp
  rcases List.mem_or_eq_of_mem_set hp with h|h
  · exact h3 p h
  · rw [h];exact hx
theorem dr_Qu2_196 {Q P:Prop} (k:Q) (h:Hid Q→P:=by
  intro k
  first
  |(refine is_draw ?_;apply WC_mix (id:=5) .false _ (pl:= .p 0 <| .p 1 <| .p 2 <| .p 4 <| .p 5 <| .p 6 <| .p 7 <| .p 9 <| .p 10 <| .r 3 <| .r 8 <| .e true [(11,.p 12 <| .p 13 <| .e true [(14,.p 15 <| .p 16 <| .e false [(17,.done)])])]);exact mixed;kernel_rfl;kernel_rfl;exact Ent.refl;exact k.out)):P:=h ⟨k⟩
theorem qu_Start {F:List HP} {b:Nat} {room:Int} {l:List QE} {n:Int} {u:Value} {s:List Msg} (k:RdL F 15 u s.length (flat mc s)) (hs:s.length≤1000) :
    FnF Tryz.prog 196 [.pointer (some ⟨b,0,none⟩),.int .i64 n,u] [QuP b room l] F (fun r L'=>r= .int .i64 (qstartE l n s)∧L'=[QuP b room (qstartL l n s)]):=by
  have hH:=fun F=>qu_has (F:=F) (b:=b) (room:=room) (l:=l) (n:=n)
  have hR:=fun F=>qu_Ready (F:=F) (b:=b) (room:=room) (l:=l) (n:=n)
  cases e:qin l n with
  |false=>
   have e1:qstartE l n s=5:=by simp [qstartE,e]
   have e2:qstartL l n s=l:=by simp [qstartL,e1]
   rw [e1,e2]
   rw [e] at hH
   refine FnF.mk' Tryz.func196 rfl rfl Tryz.ntmps196 rfl ?_
   repeat (first|refine go ?_|intro _|refine dr_Qu2_196 ?_|refine drq ?_|refine cal @hH ?_)
   exact fin0
  |true=>
   rw [e] at hH
   cases er:qready l n with
   |false=>
    have e1:qstartE l n s=7:=by simp [qstartE,e,er]
    have e2:qstartL l n s=l:=by simp [qstartL,e1]
    rw [e1,e2]
    rw [er] at hR
    refine FnF.mk' Tryz.func196 rfl rfl Tryz.ntmps196 rfl ?_
    repeat (first|refine go ?_|intro _|refine dr_Qu2_196 ?_|refine drq ?_|refine cal @hH ?_|refine cal @hR ?_)
    exact fin0
   |true=>
    rw [er] at hR
    by_cases hz:s.length=0
    · have e1:qstartE l n s=7:=by simp [qstartE,e,er,hz]
      have e2:qstartL l n s=l:=by simp [qstartL,e1]
      rw [e1,e2]
      refine FnF.mk' Tryz.func196 rfl rfl Tryz.ntmps196 rfl ?_
      repeat (first|refine go ?_|intro _|refine dr_Qu2_196 ?_|refine drq ?_|refine cal @hH ?_|refine cal @hR ?_)
      exact fin0
    · have e1:qstartE l n s=0:=by simp [qstartE,e,er,hz]
      obtain ⟨i,hi,rfl,ea⟩:=qin_t e
      have e2:qstartL l i s=l.set i { l[i] with st:=true,sends:=s}:=by simp [qstartL,e1,ea]
      rw [e1,e2]
      refine FnF.mk' Tryz.func196 rfl rfl Tryz.ntmps196 rfl ?_
      repeat (first|refine go ?_|intro _|refine cal @hH ?_|refine cal @hR ?_)
      (first|refine WO_front (QuP b room l) ?_|refine WC_front (QuP b room l) ?_|refine WE_front (QuP b room l) ?_)
      refine qu_open fun p c ps hf=>?_
      obtain ⟨rfl,h1,h2,h3,hcp⟩:=hf
      have hi':i<ps.length:=by simpa using hi
      (first|(refine WO_some (.slice p ps.length c) inferInstance (by omega) ?_;intro _)|(refine WC_some (.slice p ps.length c) inferInstance (by omega) ?_;intro _))
      repeat (first|refine go ?_|intro _|refine dr_Qu2_196 ?_|refine drq ?_|refine cal @sl_Clone_msg ?_)
      rename_i p' c'
      have hi2:i<(ps.set i ((⟨ps[i].1.m,true,ps[i].1.sends⟩:QE),ps[i].2)).length:=by simpa using hi'
      rw [splice_st hi' true,splice_sd hi2]
      simp only [List.getElem_set_self,List.set_set]
      have hset:=fun L M=>@all_set ps i hi' ((⟨ps[i].1.m,true,s⟩:QE),(p',c')) 99 L M
      (first|refine WO_front (Own 99 15 (.slice p' s.length c') s.length (flat mc s)) ?_|refine WC_front (Own 99 15 (.slice p' s.length c') s.length (flat mc s)) ?_|refine WE_front (Own 99 15 (.slice p' s.length c') s.length (flat mc s)) ?_)
      refine WE_owncap fun hc'=>?_
      (apply WE_ret rfl rfl zqR)
      · exact ⟨rfl,rfl⟩
      · apply qu_in (ps:=ps.set i ((⟨ps[i].1.m,true,s⟩:QE),(p',c')))
        · exact enx @hset
        · rw [qset_map];simp
        · simp
        · rfl
        · simpa using h1
        · exact h2
        · exact qcap_set h3 ⟨hc',hs⟩
theorem qu_Next {F:List HP} {b:Nat} {room:Int} {l:List QE} {n:Int}:FnF Tryz.prog 149 [.pointer (some ⟨b,0,none⟩),.int .i64 n] [QuP b room l] F (fun r L'=>r= .tuple [mv (qnextM l n),.bool (qnextB l n)].toArray∧L'=[QuP b room l]):=by
  have hH:=fun F=>qu_has (F:=F) (b:=b) (room:=room) (l:=l) (n:=n)
  cases e:qin l n with
  |false=>
   have e1:qnextB l n=false:=by simp [qnextB,e]
   rw [e] at hH
   refine FnF.mk' Tryz.func149 rfl rfl Tryz.ntmps149 rfl ?_
   repeat (first|refine gd ?_|intro _|refine cal @hH ?_)
   (apply WE_ret rfl rfl zqR)
   · exact ⟨by simp [qnextM,e1,Msg.zero,Words.zero],rfl⟩
   · exact entu0
  |true=>
   rw [e] at hH
   obtain ⟨i,hi,rfl,ea⟩:=qin_t e
   refine FnF.mk' Tryz.func149 rfl rfl Tryz.ntmps149 rfl ?_
   repeat (first|refine go ?_|intro _|refine cal @hH ?_)
   (first|refine WO_front (QuP b room l) ?_|refine WC_front (QuP b room l) ?_|refine WE_front (QuP b room l) ?_)
   refine qu_openO fun p c ps hf=>?_
   obtain ⟨rfl,h1,h2,h3,hcp⟩:=hf
   have hi':i<ps.length:=by simpa using hi
   have hst:(ps.map (·.1))[i]=ps[i].1:=by simp
   rw [hst] at ea
   by_cases hz:ps[i].1.sends.length=0
   · have e1:qnextB (ps.map (·.1)) i=false:=by simp [qnextB,ea,hz]
     repeat (first|refine gd ?_|intro _)
     (apply WE_ret rfl rfl zqR)
     · exact ⟨by simp [qnextM,e1,Msg.zero,Words.zero],rfl⟩
     · exact enx @qu_in
   · have e1:qnextB (ps.map (·.1)) i=true:=by simp [qnextB,ea,hz,e]
     haveI kr:=fun L=>rd_all (ps:=ps) (p:=ps[i]) (List.getElem_mem hi') (L:=L)
     have hq:qnextM (ps.map (·.1)) i=ps[i].1.sends[Int.toNat 0]:=by simp only [qnextM,e1,if_true,ea];exact headD_at (by omega)
     repeat (first|refine gd ?_|intro _)
     (apply WE_ret rfl rfl zqR)
     · exact ⟨by rw [hq,e1];rfl,rfl⟩
     · exact enx @qu_in
theorem qu_Sent {F:List HP} {b:Nat} {room:Int} {l:List QE} {n:Int}:FnF Tryz.prog 151 [.pointer (some ⟨b,0,none⟩),.int .i64 n] [QuP b room l] F (fun r L'=>r= .int .i64 (qsentE l n)∧L'=[QuP b room (qsentL l n)]):=by
  have hH:=fun F=>qu_has (F:=F) (b:=b) (room:=room) (l:=l) (n:=n)
  cases e:qin l n with
  |false=>
   have e1:qsentE l n=5:=by simp [qsentE,e]
   have e2:qsentL l n=l:=by simp [qsentL,e1]
   rw [e1,e2]
   rw [e] at hH
   refine FnF.mk' Tryz.func151 rfl rfl Tryz.ntmps151 rfl ?_
   repeat (first|refine gd ?_|intro _|refine cal @hH ?_)
   exact fin0
  |true=>
   rw [e] at hH
   obtain ⟨i,hi,rfl,ea⟩:=qin_t e
   by_cases hz:l[i].sends.length=0
   · have e1:qsentE l i=7:=by simp [qsentE,e,ea,hz]
     have e2:qsentL l i=l:=by simp [qsentL,e1]
     rw [e1,e2]
     refine FnF.mk' Tryz.func151 rfl rfl Tryz.ntmps151 rfl ?_
     repeat (first|refine go ?_|intro _|refine cal @hH ?_)
     (first|refine WO_front (QuP b room l) ?_|refine WC_front (QuP b room l) ?_|refine WE_front (QuP b room l) ?_)
     refine qu_openO fun p c ps hf=>?_
     obtain ⟨rfl,h1,h2,h3,hcp⟩:=hf
     have hi':i<ps.length:=by simpa using hi
     rw [List.getElem_map] at hz
     repeat (first|refine gd ?_|intro _)
     (apply WE_ret rfl rfl zqR)
     · exact ⟨rfl,rfl⟩
     · exact enx @qu_in
   · have e1:qsentE l i=0:=by simp [qsentE,e,ea,hz]
     have e2:qsentL l i=if l[i].sends.length=1∧l[i].m.kind=3 then l.eraseIdx i else l.set i { l[i] with sends:=l[i].sends.drop 1}:=by simp [qsentL,e1,ea]
     rw [e1,e2]
     refine FnF.mk' Tryz.func151 rfl rfl Tryz.ntmps151 rfl ?_
     repeat (first|refine go ?_|intro _|refine cal @hH ?_)
     (first|refine WO_front (QuP b room l) ?_|refine WC_front (QuP b room l) ?_|refine WE_front (QuP b room l) ?_)
     refine qu_openO fun p c ps hf=>?_
     obtain ⟨rfl,h1,h2,h3,hcp⟩:=hf
     have hi':i<ps.length:=by simpa using hi
     rw [List.getElem_map] at hz ⊢
     have hcx:=h3 _ (List.getElem_mem hi')
     have hx:cut (.slice ps[i].2.1 ps[i].1.sends.length ps[i].2.2) (Int.toNat 1) ps[i].1.sends.length ps[i].1.sends.length 15= .slice (if ps[i].1.sends.length=1 then ps[i].2.1 else ps[i].2.1.map (·.add (1*15))) (ps[i].1.sends.drop 1).length (ps[i].1.sends.length-1):=by
       rw [List.length_drop];rfl
     have hsp:=splice_sd hi' (ps[i].1.sends.drop 1) (if ps[i].1.sends.length=1 then ps[i].2.1 else ps[i].2.1.map (·.add (1*15))) (ps[i].1.sends.length-1)
     have htl:=fun L M=>@all_tail ps i hi' ((⟨ps[i].1.m,ps[i].1.st,ps[i].1.sends.drop 1⟩:QE),(if ps[i].1.sends.length=1 then ps[i].2.1 else ps[i].2.1.map (·.add (1*15)),ps[i].1.sends.length-1)) L M (by omega) hcx.1 rfl hx.symm
     (first|(refine WO_some (.slice p ps.length c) inferInstance (by omega) ?_;intro _)|(refine WC_some (.slice p ps.length c) inferInstance (by omega) ?_;intro _))
     repeat (first|refine gd ?_|intro _)
     refine WO_v (v_slice rfl (Bnd.some rfl (by omega)) (bnd_nat rfl) (bnd_nat rfl) (fun h=>h) (by omega) (by omega) (by omega)) rfl ?_
     rw [hx]
     repeat (first|refine gd ?_|intro _)
     rw [hsp]
     generalize hX:(⟨ps[i].1.m,ps[i].1.st,ps[i].1.sends.drop 1⟩:QE)=X at htl ⊢
     generalize hY:((if ps[i].1.sends.length=1 then ps[i].2.1 else ps[i].2.1.map (·.add (1*15)),ps[i].1.sends.length-1):Option Addr×Nat)=Y at htl ⊢
     have hi2:i<(ps.set i (X,Y)).length:=by simpa using hi'
     have hk2:(ps.set i (X,Y))[i].1.m.kind=ps[i].1.m.kind:=by simp [←hX]
     have hln:(ps.set i (X,Y)).length=ps.length:=by simp
     have hc2:=qcap_set (i:=i) (x:=(X,Y)) h3 (by rw [←hX,←hY];simp;omega)
     by_cases hd:ps[i].1.sends.length=1∧ps[i].1.m.kind=3
     · obtain ⟨hd1,hd2⟩:=hd
       have hk3:(ps.set i (X,Y))[i].1.m.kind=3:=by rw [hk2];exact hd2
       rw [if_pos (show ps[i].1.sends.length=1∧ps[i].1.m.kind=3 from ⟨hd1,hd2⟩)]
       repeat (first|refine gd ?_|intro _)
       refine cal (@sl_Delete_qe (i:=i) (j:=i+1)) ?_
       repeat (first|refine gd ?_|intro _)
       (apply WE_ret rfl rfl zqR)
       · exact ⟨rfl,rfl⟩
       · apply qu_in (ps:=(ps.set i (X,Y)).eraseIdx i)
         · rw [List.eraseIdx_set_eq]
           exact enx @all_era
         · rw [List.eraseIdx_set_eq,map_erase]
         · rw [List.length_eraseIdx,hln];split<;>omega
         · rw [flat_take (enc:=qc) (n:=17) (fun _=>rfl),flat_drop (enc:=qc) (n:=17) (fun _=>rfl)]
           simp [List.eraseIdx_eq_take_drop_succ]
         · rw [List.length_eraseIdx,hln];split<;>omega
         · exact h2
         · exact fun p hp=>hc2 p (List.mem_of_mem_eraseIdx hp)
     · rw [if_neg hd]
       have hend:∀ {L M:List HP} {p:Option Addr} {c:Nat},Ent L (Cells b 189 [.int .i64 room,.slice p ps.length c]::Own 191 17 (.slice p ps.length c) ps.length (flat qc (ps.set i (X,Y)))::All ((ps.set i (X,Y)).map qrd)::M)→Ent L (QuP b room ((ps.map (·.1)).set i X)::M):=fun h=>
         qu_in (ps:=ps.set i (X,Y)) h (by rw [qset_map]) (by rw [hln]) rfl (by rw [hln];exact h1) h2 hc2
       by_cases hd1:ps[i].1.sends.length=1
       · have hk3:(ps.set i (X,Y))[i].1.m.kind≠3:=by rw [hk2];exact fun h=>hd ⟨hd1,h⟩
         repeat (first|refine gd ?_|intro _)
         (apply WE_ret rfl rfl zqR)
         · exact ⟨rfl,rfl⟩
         · ((repeat (first|(with_reducible exact Ent.refl)|exact Ent.nil|(apply ent_pickE;exact zqP)|(apply hend)|(apply htl)|apply Ent.drop));all_goals exact zqS)
       · repeat (first|refine gd ?_|intro _)
         (apply WE_ret rfl rfl zqR)
         · exact ⟨rfl,rfl⟩
         · ((repeat (first|(with_reducible exact Ent.refl)|exact Ent.nil|(apply ent_pickE;exact zqP)|(apply hend)|(apply htl)|apply Ent.drop));all_goals exact zqS)
theorem index_map {α β:Type} (f:α→β) (p:β→Bool) (l:List α):indexBy p (l.map f)=indexBy (fun x=>p (f x)) l:=by
  unfold indexBy
  rw [List.findIdx?_map]
  rfl
theorem qu_Finish1 {F:List HP} {b1 b2:Nat} {line src:Int} {T1 T2:TypeId} {C1 C2:List Value→List HP} {e:QP} (k1:CellsAt b1 F T1 [.int .i64 line] C1) (k2:CellsAt b2 F T2 [.int .i64 src] C2) :
    FnF Tryz.prog 189 [qv e,.pointer (some ⟨b1,0,none⟩),.pointer (some ⟨b2,0,none⟩)] [] F (fun r L'=>r= .bool (qgone line src e.1)∧L'=[]):=by
  refine FnF.mk' Tryz.func189 rfl rfl Tryz.ntmps189 rfl ?_
  cases h1:e.1.st with
  |false=>
   repeat (first|refine gd ?_|intro _)
   (apply WE_ret rfl rfl zqR;(first|exact zqL|exact ⟨by simp [qgone,h1]<;>omega,rfl⟩);exact zqN)
  |true=>
   by_cases h2:e.1.m.line=line
   · by_cases h3:e.1.m.src=src
     · by_cases h4:e.1.m.kind=3
       · repeat (first|refine gd ?_|intro _)
         (apply WE_ret rfl rfl zqR;(first|exact zqL|exact ⟨by simp [qgone,h1,h2,h3,h4]<;>omega,rfl⟩);exact zqN)
       · repeat (first|refine gd ?_|intro _)
         (apply WE_ret rfl rfl zqR;(first|exact zqL|exact ⟨by simp [qgone,h1,h2,h3,h4]<;>omega,rfl⟩);exact zqN)
     · repeat (first|refine gd ?_|intro _)
       (apply WE_ret rfl rfl zqR;(first|exact zqL|exact ⟨by simp [qgone,h1,h2,h3]<;>omega,rfl⟩);exact zqN)
   · repeat (first|refine gd ?_|intro _)
     (apply WE_ret rfl rfl zqR;(first|exact zqL|exact ⟨by simp [qgone,h1,h2]<;>omega,rfl⟩);exact zqN)
theorem qu_fidx {F:List HP} {b1 b2:Nat} {line src:Int} {T1 T2:TypeId} {C1 C2:List Value→List HP} {v:Value} {l:List QP} (k1:CellsAt b1 F T1 [.int .i64 line] C1) (k2:CellsAt b2 F T2 [.int .i64 src] C2) (k:RdL F 17 v l.length (flat qc l)) (hn:l.length≤1099511627776) :
    FnF Tryz.prog 188 [v,.func (.func 189) [].toArray [.pointer (some ⟨b1,0,none⟩),.pointer (some ⟨b2,0,none⟩)].toArray] [] F (fun r L'=>r= .int .i64 (indexBy (qgone line src) (l.map (·.1)))∧L'=[]):=by
  rw [index_map]
  exact sl_IndexFunc_qe (first:=[]) (p:=fun e=>qgone line src e.1) k hn (fun x _=>qu_Finish1 k1 k2)
theorem qu_Finish {F:List HP} {b:Nat} {room:Int} {l:List QE} {line src:Int}:FnF Tryz.prog 144 [.pointer (some ⟨b,0,none⟩),.int .i64 line,.int .i64 src] [QuP b room l] F (fun r L'=>r= .int .i64 (qfinE l line src)∧L'=[QuP b room (qfinL l line src)]):=by
  refine FnF.mk' Tryz.func144 rfl rfl Tryz.ntmps144 rfl ?_
  refine qu_open fun p c ps hf=>?_
  obtain ⟨rfl,h1,h2,h3,hcp⟩:=hf
  by_cases h:indexBy (qgone line src) (ps.map (·.1))<0
  · have e1:qfinE (ps.map (·.1)) line src=7:=by simp [qfinE,h]
    have e2:qfinL (ps.map (·.1)) line src=ps.map (·.1):=by simp [qfinL,h]
    rw [e1,e2]
    repeat (first|refine gd ?_|intro _|refine cal @qu_fidx ?_)
    (apply WE_ret rfl rfl zqR)
    · exact ⟨rfl,rfl⟩
    · exact enx @qu_in
  · have e1:qfinE (ps.map (·.1)) line src=0:=by simp [qfinE,h]
    have e2:qfinL (ps.map (·.1)) line src=(ps.map (·.1)).eraseIdx (indexBy (qgone line src) (ps.map (·.1))).toNat:=by simp [qfinL,h]
    rw [e1,e2]
    obtain ⟨i,hi,g1,g2,g3⟩:=indexBy_nat (p:=qgone line src) (l:=ps.map (·.1)) (by omega)
    have hi':i<ps.length:=by simpa using hi
    have hI:=fun F b1 b2 v T1 T2 C1 C2=>qu_fidx (F:=F) (b1:=b1) (b2:=b2) (v:=v) (T1:=T1) (T2:=T2) (C1:=C1) (C2:=C2) (line:=line) (src:=src) (l:=ps)
    simp only [g1] at hI
    rw [g1]
    repeat (first|refine gd ?_|intro _|refine cal @hI ?_)
    refine cal (@sl_Delete_qe (i:=i) (j:=i+1)) ?_
    repeat (first|refine gd ?_|intro _)
    (apply WE_ret rfl rfl zqR)
    · exact ⟨rfl,rfl⟩
    · apply qu_in (ps:=ps.eraseIdx i)
      · exact enx @all_era
      · rw [map_erase];simp
      · rw [List.length_eraseIdx];split<;>omega
      · rw [flat_take (enc:=qc) (n:=17) (fun _=>rfl),flat_drop (enc:=qc) (n:=17) (fun _=>rfl)]
        simp [List.eraseIdx_eq_take_drop_succ]
      · rw [List.length_eraseIdx];split<;>omega
      · exact h2
      · exact fun p hp=>h3 p (List.mem_of_mem_eraseIdx hp)
end Go.Sx

/- What queues do: what is told of all. My own work. -/
namespace Go.Sx
open Go Go.Proofs
def QuL (e:TypeId) (v:Value) (l:List QE):HP:=Ex fun qs:List QP=>[Own e 17 v qs.length (flat qc qs),All (qs.map qrd),Fact (qs.map (·.1)=l)]
section
variable {e:TypeId} {v:Value} {l:List QE}
theorem ql_in {qs:List QP} {n:Nat} {xs:List Value} {L M:List HP} (h:Ent L (Own e 17 v n xs::All (qs.map qrd)::M)) (hl:qs.map (·.1)=l) (hn:n=qs.length) (hx:xs=flat qc qs):Ent L (QuL e v l::M):=by
  subst hn hx
  refine Ent.trans h (Ent.trans ?_ (ex_intro (p:=fun qs:List QP=>[Own e 17 v qs.length (flat qc qs),All (qs.map qrd),Fact (qs.map (·.1)=l)]) qs))
  exact Ent.cons (Ent.cons (star_fact_mk hl))
variable {P:Program} {N:Nat} {env:Env} {L:List HP} {Q:Exit→Act→World→Prop}
end
theorem all_more {qs:List QP} {x:QP} {T:TypeId} {L M:List HP} (h:Ent L (Own T 15 (.slice x.2.1 x.1.sends.length x.2.2) x.1.sends.length (flat mc x.1.sends)::All (qs.map qrd)::M)):Ent L (All ((qs++[x]).map qrd)::M):=
  Ent.trans h (Ent.trans own_rds (all_add (f:=qrd) x))
set_option maxRecDepth 100000
set_option maxHeartbeats 4000000
attribute [local irreducible] Go.Exit.then Go.Exit.inBlock Go.Code.wp WC WO WE WQ V LoopQ FnQ Sat Star band bor IntKind.wrap WR Code.rounds WT KO
theorem qu_copied {F:List HP} {p:QP} (k:RdL F 15 (.slice p.2.1 p.1.sends.length p.2.2) p.1.sends.length (flat mc p.1.sends)) (hn:p.1.sends.length≤1099511627776) :
    FnF Tryz.prog 119 [qv p] [] F (fun r L'=>∃ a c,r=qv (p.1,(a,c))∧L'=[Own 99 15 (.slice a p.1.sends.length c) p.1.sends.length (flat mc p.1.sends)]):=by
  refine FnF.mk' Tryz.func119 rfl rfl Tryz.ntmps119 rfl ?_
  repeat (first|refine gd ?_|intro _|refine cal @sl_Clone_msg ?_)
  rename_i a' c'
  (apply WE_ret rfl rfl zqR)
  · exact ⟨a',c',rfl,rfl⟩
  · exact entu0
theorem qu_Get {F:List HP} {b:Nat} {room:Int} {l:List QE} {n:Int} (h:qin l n=true) (hn:(qat l n).sends.length≤1099511627776):FnF Tryz.prog 146 [.pointer (some ⟨b,0,none⟩),.int .i64 n] [QuP b room l] F
    (fun r L'=>∃ a c,r= .tuple [qv (qat l n,(a,c)),.bool true].toArray∧L'=[Own 99 15 (.slice a (qat l n).sends.length c) (qat l n).sends.length (flat mc (qat l n).sends),QuP b room l]):=by
  have hH:=fun F=>qu_has (F:=F) (b:=b) (room:=room) (l:=l) (n:=n)
  rw [h] at hH
  obtain ⟨i,hi,rfl,ea⟩:=qin_t h
  rw [ea] at hn ⊢
  refine FnF.mk' Tryz.func146 rfl rfl Tryz.ntmps146 rfl ?_
  repeat (first|refine go ?_|intro _|refine cal @hH ?_)
  (first|refine WO_front (QuP b room l) ?_|refine WC_front (QuP b room l) ?_|refine WE_front (QuP b room l) ?_)
  refine qu_openO fun p c ps hf=>?_
  obtain ⟨rfl,h1,h2,h3,hcp⟩:=hf
  have hi':i<ps.length:=by simpa using hi
  rw [List.getElem_map] at hn ⊢
  haveI kr:=fun L=>rd_all (ps:=ps) (p:=ps[i]) (List.getElem_mem hi') (L:=L)
  have hb:=(h3 _ (List.getElem_mem hi')).2
  repeat (first|refine gd ?_|intro _|refine cal @qu_copied ?_)
  (apply WE_ret rfl rfl zqR)
  · exact ⟨_,_,rfl,rfl⟩
  · exact enx @qu_in
theorem qu_Get_no {F:List HP} {b:Nat} {room:Int} {l:List QE} {n:Int} (h:qin l n=false):FnF Tryz.prog 146 [.pointer (some ⟨b,0,none⟩),.int .i64 n] [QuP b room l] F
    (fun r L'=>r= .tuple [qv ((⟨.zero,false,[]⟩:QE),(none,0)),.bool false].toArray∧L'=[QuP b room l]):=by
  have hH:=fun F=>qu_has (F:=F) (b:=b) (room:=room) (l:=l) (n:=n)
  rw [h] at hH
  refine FnF.mk' Tryz.func146 rfl rfl Tryz.ntmps146 rfl ?_
  repeat (first|refine gd ?_|intro _|refine cal @hH ?_)
  exact fin0
theorem qu_List {F:List HP} {b:Nat} {room:Int} {l:List QE}:FnF Tryz.prog 60 [.pointer (some ⟨b,0,none⟩)] [QuP b room l] F (fun r L'=>∃ p c,r= .slice p l.length c∧L'=[QuL 191 (.slice p l.length c) l,QuP b room l]):=by
  refine FnF.mk' Tryz.func60 rfl rfl Tryz.ntmps60 rfl ?_
  refine qu_open fun p c ps hf=>?_
  obtain ⟨rfl,h1,h2,h3,hcp⟩:=hf
  repeat (first|refine gd ?_|intro _)
  apply WC_loopE (E0:=[(9,_),(10,_)]) (fun E0 (q:Nat×Option Addr×Nat×List QP)=>(11,.int .i64 q.1)::(3,.slice q.2.1 q.2.2.2.length q.2.2.1)::E0)
    (fun q=>Own 191 17 (.slice q.2.1 q.2.2.2.length q.2.2.1) q.2.2.2.length (flat qc q.2.2.2)::All (q.2.2.2.map qrd)::Cells b 189 [.int .i64 room,.slice p ps.length c]::Own 191 17 (.slice p ps.length c) ps.length (flat qc ps)::All (ps.map qrd)::F)
    (fun q=>q.1≤ps.length∧q.2.2.2.map (·.1)=(ps.take q.1).map (·.1)) (fun q=>ps.length-q.1) (0,none,0,[])
  · exact zqU
  · exact ⟨Nat.zero_le _,by simp⟩
  · refine Ent.trans ?_ (own_empty all_nil)
    exact entu0
  · rintro ⟨i,p',c',qs⟩ ⟨hi,hqs⟩
    dsimp only at hi hqs ⊢
    have hlq:qs.length=min i ps.length:=by have:=congrArg List.length hqs;simpa using this
    by_cases hlt:i<ps.length
    · haveI kr:=fun L=>rd_all (ps:=ps) (p:=ps[i]) (List.getElem_mem hlt) (L:=L)
      have hb:=(h3 _ (List.getElem_mem hlt)).2
      repeat (first|refine gd ?_|intro _|refine cal @qu_copied ?_)
      rename_i b1 a1 c1 b2 p2 c2
      refine WE_loop (i+1,p2,c2,qs++[(ps[i].1,(a1,c1))]) (by dsimp only;omega) ⟨by dsimp only;omega,?_⟩ ?_ ?_
      · dsimp only;rw [List.map_append,hqs,List.map_take,List.map_take,List.take_add_one];simp [hlt]
      · dsimp only;rw [List.length_append,List.length_singleton];exact zqU
      · dsimp only;rw [List.length_append,List.length_singleton,flat_append,flat_one]
        exact enx @all_more
    · have hil:i=ps.length:=by omega
      subst hil
      rw [List.take_length] at hqs
      have hlq:qs.length=ps.length:=by have:=congrArg List.length hqs;simpa using this
      repeat (first|refine gd ?_|intro _)
      (apply WE_ret rfl rfl zqR)
      · exact ⟨p',c',by rw [List.length_map,hlq];rfl,rfl⟩
      · rw [List.length_map,←hlq]
        ((repeat (first|(with_reducible exact Ent.refl)|exact Ent.nil|(apply ent_pickE;exact zqP)|(apply ql_in)|(apply qu_in)|apply Ent.drop));all_goals exact zqS)
end Go.Sx

/- What homes do: their place in memory, and the short ones of the program's functions. My own work. -/
namespace Go.Sx
open Go Go.Proofs
structure HomS where
  es:List (Int×TEnt)
  ms:List Int
  q:List QE
  odd:Int
abbrev HRd:=TEnt×Option Addr×Nat
abbrev hrv (x:HRd):Value:= .slice x.2.1 x.1.s.ps.length x.2.2
abbrev hrc (x:HRd):Value:= .agg (tec x.1 x.2.1 x.2.2).toArray
abbrev hrd (x:HRd):HP:=Rds 1 (hrv x) x.1.s.ps.length (flat ic x.1.s.ps)
abbrev hrs (ps:List (Int×HRd)):List HP:=ps.map fun p=>hrd p.2
abbrev hes (ps:List (Int×HRd)):List (Int×TEnt):=ps.map fun p=>(p.1,p.2.1)
abbrev hz:HRd:=(.no,none,0)
theorem hes_get (ps:List (Int×HRd)) (k:Int):mget (hes ps) k=(mget ps k).map (·.1):=by
  induction ps with
  |nil=>rfl
  |cons p r ih=>
   show mget ((p.1,p.2.1)::hes r) k=_
   rw [mget_cons,mget_cons,ih]
   split<;>rfl
theorem hes_mset (ps:List (Int×HRd)) (k:Int) (x:HRd):hes (mset ps k x)=mset (hes ps) k x.1:=by
  induction ps with
  |nil=>rfl
  |cons p r ih=>
   show hes (if p.1=k then (k,x)::r else p::mset r k x)=if p.1=k then (k,x.1)::hes r else (p.1,p.2.1)::mset (hes r) k x.1
   split
   · rfl
   · show (p.1,p.2.1)::hes (mset r k x)=_
     rw [ih]
theorem hrs_mset {L:List HP} (ps:List (Int×HRd)) (k:Int) (x:HRd):Ent (hrd x::All (hrs ps)::L) (All (hrs (mset ps k x))::L):=by
  have h:∀ ps:List (Int×HRd),Ent (hrd x::(hrs ps++L)) (hrs (mset ps k x)++L):=by
    intro ps
    induction ps with
    |nil=>exact Ent.refl
    |cons p r ih=>
     show Ent (hrd x::hrd p.2::(hrs r++L)) (hrs (if p.1=k then (k,x)::r else p::mset r k x)++L)
     split
     · exact Ent.cons (Ent.drop Ent.refl)
     · exact Ent.trans (ent_perm (List.Perm.swap _ _ _)) (Ent.cons ih)
  exact Ent.trans (Ent.cons all_open) (Ent.trans (h ps) all_close)
theorem hrs_put {L M:List HP} {T:TypeId} {ps:List (Int×HRd)} {k:Int} {x:HRd} (h:Ent L (Own T 1 (hrv x) x.1.s.ps.length (flat ic x.1.s.ps)::All (hrs ps)::M)):Ent L (All (hrs (mset ps k x))::M):=
  Ent.trans h (Ent.trans own_rds (hrs_mset ps k x))
theorem rd_hrs {L:List HP} (ps:List (Int×HRd)) (k:Int):RdL (All (hrs ps)::L) 1 (hrv ((mget ps k).getD hz)) ((mget ps k).getD hz).1.s.ps.length (flat ic ((mget ps k).getD hz).1.s.ps):=by
  cases e:mget ps k with
  |none=>exact rd_empty
  |some x=>
   obtain ⟨i,hi,h⟩:=List.getElem_of_mem (mget_mem e)
   have hx:ps[i].2=x:=by rw [h]
   have k:RdL (hrd ps[i].2::All ((ps.eraseIdx i).map fun p=>hrd p.2)::L) 1 (hrv ps[i].2) ps[i].2.1.s.ps.length (flat ic ps[i].2.1.s.ps):=RdL.rds
   have e:=all_take (f:=fun p:Int×HRd=>hrd p.2) (L:=L) i hi
   rw [hx] at k
   rw [hx] at e
   exact ⟨fun w h=>k.len w (e.sat (by simpa using h)),fun w h=>k.ones w (e.sat (by simpa using h)),fun w h=>k.pf w (e.sat (by simpa using h))⟩
abbrev hmc (c:Cfg) (num:Int) (bm be bq:Nat) (odd:Int):List Value:=[.int .i64 c.cores,.int .i64 c.homes,.int .i64 c.sets,.int .i64 c.ways,.int .i64 c.words,.int .i64 c.lines,.int .i64 c.pointers,.int .i64 c.mshrs,.int .i64 c.buffer,.int .i64 c.writebacks,.int .i64 c.r0,.int .i64 c.r1,.int .i64 c.r2,.int .i64 num,.map (some bm),.pointer (some ⟨be,0,none⟩),.pointer (some ⟨bq,0,none⟩),.int .i64 odd]
def HomP (b:Nat) (c:Cfg) (num:Int) (s:HomS):HP:=Ex fun x:(Nat×Nat×Nat)×List (Int×HRd)=>[Cells b 110 (hmc c num x.1.1 x.1.2.1 x.1.2.2 s.odd),MapAt x.1.1 hrc x.2,All (hrs x.2),MemB x.1.2.1 c s.ms,QuB 189 191 x.1.2.2 c.buffer s.q,Fact (hes x.2=s.es)]
theorem hm_in {b bm be bq:Nat} {c:Cfg} {num odd:Int} {ps:List (Int×HRd)} {es:List (Int×TEnt)} {ms:List Int} {q:List QE} {L M:List HP}
    (h:Ent L (Cells b 110 (hmc c num bm be bq odd)::MapAt bm hrc ps::All (hrs ps)::MemB be c ms::QuB 189 191 bq c.buffer q::M)) (he:hes ps=es):Ent L (HomP b c num ⟨es,ms,q,odd⟩::M):=by
  refine Ent.trans h (Ent.trans ?_ (ex_intro (p:=fun x:(Nat×Nat×Nat)×List (Int×HRd)=>[Cells b 110 (hmc c num x.1.1 x.1.2.1 x.1.2.2 odd),MapAt x.1.1 hrc x.2,All (hrs x.2),MemB x.1.2.1 c ms,QuB 189 191 x.1.2.2 c.buffer q,Fact (hes x.2=es)]) ((bm,be,bq),ps)))
  exact Ent.cons (Ent.cons (Ent.cons (Ent.cons (Ent.cons (star_fact_mk he)))))
theorem hm_sat {b:Nat} {c:Cfg} {num:Int} {s:HomS} {L:List HP} {w:World} (h:Sat (HomP b c num s::L) w):∃ bm be bq,∃ ps:List (Int×HRd),hes ps=s.es∧
    Sat (Cells b 110 (hmc c num bm be bq s.odd)::MapAt bm hrc ps::All (hrs ps)::MemB be c s.ms::QuB 189 191 bq c.buffer s.q::L) w:=by
  obtain ⟨⟨⟨bm,be,bq⟩,ps⟩,hx⟩:=star_ex h
  simp only [app] at hx
  exact ⟨bm,be,bq,ps,fact_of (star_drop (star_drop (star_drop (star_drop (star_drop hx))))),(Ent.cons (Ent.cons (Ent.cons (Ent.cons (Ent.cons (Ent.drop Ent.refl)))))) _ hx⟩
section
variable {b:Nat} {c:Cfg} {num:Int} {s:HomS} {P:Program} {N:Nat} {env:Env} {L:List HP} {Q:Exit→Act→World→Prop}
theorem hm_open {co:Code} (h:∀ bm be bq,∀ ps:List (Int×HRd),hes ps=s.es→WC P N co env (Cells b 110 (hmc c num bm be bq s.odd)::MapAt bm hrc ps::All (hrs ps)::MemB be c s.ms::QuB 189 191 bq c.buffer s.q::L) Q):WC P N co env (HomP b c num s::L) Q:=by
  intro a w ha hw
  obtain ⟨bm,be,bq,ps,he,hx⟩:=hm_sat hw
  exact h bm be bq ps he a w ha hx
end
def mineB (c:Cfg) (num:Int) (m:Msg) (net:Int):Bool:=decide (MayP c m)&& decide (netK m.kind=net)&& decide (HomeP m.kind)&& decide (m.dst=num)
def hmAccE (c:Cfg) (num:Int) (s:HomS) (m:Msg):Int:=if mineB c num m 0 then qaddE c.buffer s.q m else 1
def hmAccS (c:Cfg) (num:Int) (s:HomS) (m:Msg):HomS:=if mineB c num m 0 then { s with q:=qaddL c.buffer s.q m} else s
def hmDoneE (c:Cfg) (num:Int) (s:HomS) (m:Msg):Int:=if mineB c num m 2 then qfinE s.q m.line m.src else 1
def hmDoneS (c:Cfg) (num:Int) (s:HomS) (m:Msg):HomS:=if mineB c num m 2 then { s with q:=qfinL s.q m.line m.src} else s
def hmEnt (s:HomS) (line:Int):TEnt:=(mget s.es line).getD .no
def hmOwn (s:HomS) (line:Int):Bool:=(mget s.es line).isSome
def hmLine (c:Cfg) (s:HomS) (line:Int):Words:=if hmOwn s line then lineWo c s.ms line else .zero
set_option maxRecDepth 100000
set_option maxHeartbeats 4000000
attribute [local irreducible] Go.Exit.then Go.Exit.inBlock Go.Code.wp WC WO WE WQ V LoopQ FnQ Sat Star band bor IntKind.wrap WR Code.rounds WT KO
instance:MapT Tryz.prog 106 hrc hz:=⟨_,_,_,_,_,Tryz.underlying106,Tryz.underlying3,TZ.pf⟩
theorem hm_mine {F:List HP} {b:Nat} {c:Cfg} {num:Int} {s:HomS} {m:Msg} {net:Int} (hc:c.wf):FnF Tryz.prog 140 [.pointer (some ⟨b,0,none⟩),mv m,.int .i64 net] [HomP b c num s] F (fun r L'=>r= .bool (mineB c num m net)∧L'=[HomP b c num s]):=by
  have hM:=fun F=>msg_May (F:=F) (c:=c) (m:=m) hc
  have hH:=fun F=>msg_Home (F:=F) (k:=m.kind)
  obtain ⟨es,ms,q,odd⟩:=s
  refine FnF.mk' Tryz.func140 rfl rfl Tryz.ntmps140 rfl ?_
  refine hm_open fun bm be bq ps he=>?_
  by_cases h1:MayP c m
  · simp only [decide_eq_true h1] at hM
    by_cases h2:netK m.kind=net
    · by_cases h3:HomeP m.kind
      · simp only [decide_eq_true h3] at hH
        repeat (first|refine gd ?_|intro _|refine cal @hM ?_|refine cal @msg_Net ?_|refine cal @hH ?_)
        (apply WE_ret rfl rfl zqR)
        · exact ⟨by simp [mineB,h1,h2,h3],rfl⟩
        · exact enx @hm_in
      · simp only [decide_eq_false h3] at hH
        repeat (first|refine gd ?_|intro _|refine cal @hM ?_|refine cal @msg_Net ?_|refine cal @hH ?_)
        (apply WE_ret rfl rfl zqR)
        · exact ⟨by simp [mineB,h1,h2,h3],rfl⟩
        · exact enx @hm_in
    · repeat (first|refine gd ?_|intro _|refine cal @hM ?_|refine cal @msg_Net ?_|refine cal @hH ?_)
      (apply WE_ret rfl rfl zqR)
      · exact ⟨by simp [mineB,h1,h2],rfl⟩
      · exact enx @hm_in
  · simp only [decide_eq_false h1] at hM
    repeat (first|refine gd ?_|intro _|refine cal @hM ?_|refine cal @msg_Net ?_|refine cal @hH ?_)
    (apply WE_ret rfl rfl zqR)
    · exact ⟨by simp [mineB,h1],rfl⟩
    · exact enx @hm_in
end Go.Sx

/- What homes do: the short ones of the program's functions. My own work. -/
namespace Go.Sx
open Go Go.Proofs
set_option maxRecDepth 100000
set_option maxHeartbeats 4000000
attribute [local irreducible] Go.Exit.then Go.Exit.inBlock Go.Code.wp WC WO WE WQ V LoopQ FnQ Sat Star band bor IntKind.wrap WR Code.rounds WT KO
theorem dr_Hom2_100 {Q P:Prop} (k:Q) (h:Hid Q→P:=by
  intro k
  first
  |(refine is_draw ?_;apply WC_mix (id:=3) .true _ (pl:= .p 0 <| .p 1 <| .p 2 <| .r 3 <| .r 4 <| .e true [(5,.p 6 <| .done)]);exact mixed;kernel_rfl;kernel_rfl;exact Ent.refl;exact k.out)):P:=h ⟨k⟩
theorem hm_Accept {F:List HP} {b:Nat} {c:Cfg} {num:Int} {s:HomS} {m:Msg} (hc:c.wf):FnF Tryz.prog 100 [.pointer (some ⟨b,0,none⟩),mv m] [HomP b c num s] F (fun r L'=>r= .int .i64 (hmAccE c num s m)∧L'=[HomP b c num (hmAccS c num s m)]):=by
  have hM:=fun F=>hm_mine (F:=F) (b:=b) (num:=num) (s:=s) (m:=m) (net:=0) hc
  cases e:mineB c num m 0 with
  |true=>
   simp only [e] at hM
   have e1:hmAccE c num s m=qaddE c.buffer s.q m:=by simp [hmAccE,e]
   have e2:hmAccS c num s m=⟨s.es,s.ms,qaddL c.buffer s.q m,s.odd⟩:=by simp [hmAccS,e]
   rw [e1,e2]
   refine FnF.mk' Tryz.func100 rfl rfl Tryz.ntmps100 rfl ?_
   repeat (first|refine go ?_|intro _|refine cal @hM ?_)
   (first|refine WO_front (HomP b c num s) ?_|refine WC_front (HomP b c num s) ?_|refine WE_front (HomP b c num s) ?_)
   refine hm_open fun bm be bq ps he=>?_
   repeat (first|refine go ?_|intro _|refine dr_Hom2_100 ?_|refine drq ?_|refine cal @qu_Add ?_)
   (apply WE_ret rfl rfl zqR)
   · exact ⟨rfl,rfl⟩
   · exact enx @hm_in
  |false=>
   simp only [e] at hM
   have e1:hmAccE c num s m=1:=by simp [hmAccE,e]
   have e2:hmAccS c num s m=s:=by simp [hmAccS,e]
   rw [e1,e2]
   refine FnF.mk' Tryz.func100 rfl rfl Tryz.ntmps100 rfl ?_
   repeat (first|refine go ?_|intro _|refine dr_Hom2_100 ?_|refine drq ?_|refine cal @hM ?_)
   exact fin0
theorem dr_Hom2_103 {Q P:Prop} (k:Q) (h:Hid Q→P:=by
  intro k
  first
  |(refine is_draw ?_;apply WC_mix (id:=3) .true _ (pl:= .p 0 <| .p 1 <| .p 2 <| .p 4 <| .p 6 <| .r 3 <| .r 5 <| .r 7 <| .e true [(8,.p 9 <| .done)]);exact mixed;kernel_rfl;kernel_rfl;exact Ent.refl;exact k.out)):P:=h ⟨k⟩
theorem hm_Done {F:List HP} {b:Nat} {c:Cfg} {num:Int} {s:HomS} {m:Msg} (hc:c.wf):FnF Tryz.prog 103 [.pointer (some ⟨b,0,none⟩),mv m] [HomP b c num s] F (fun r L'=>r= .int .i64 (hmDoneE c num s m)∧L'=[HomP b c num (hmDoneS c num s m)]):=by
  have hM:=fun F=>hm_mine (F:=F) (b:=b) (num:=num) (s:=s) (m:=m) (net:=2) hc
  cases e:mineB c num m 2 with
  |true=>
   simp only [e] at hM
   have e1:hmDoneE c num s m=qfinE s.q m.line m.src:=by simp [hmDoneE,e]
   have e2:hmDoneS c num s m=⟨s.es,s.ms,qfinL s.q m.line m.src,s.odd⟩:=by simp [hmDoneS,e]
   rw [e1,e2]
   refine FnF.mk' Tryz.func103 rfl rfl Tryz.ntmps103 rfl ?_
   repeat (first|refine go ?_|intro _|refine cal @hM ?_)
   (first|refine WO_front (HomP b c num s) ?_|refine WC_front (HomP b c num s) ?_|refine WE_front (HomP b c num s) ?_)
   refine hm_open fun bm be bq ps he=>?_
   repeat (first|refine go ?_|intro _|refine dr_Hom2_103 ?_|refine drq ?_|refine cal @qu_Finish ?_)
   (apply WE_ret rfl rfl zqR)
   · exact ⟨rfl,rfl⟩
   · exact enx @hm_in
  |false=>
   simp only [e] at hM
   have e1:hmDoneE c num s m=1:=by simp [hmDoneE,e]
   have e2:hmDoneS c num s m=s:=by simp [hmDoneS,e]
   rw [e1,e2]
   refine FnF.mk' Tryz.func103 rfl rfl Tryz.ntmps103 rfl ?_
   repeat (first|refine go ?_|intro _|refine dr_Hom2_103 ?_|refine drq ?_|refine cal @hM ?_)
   exact fin0
theorem hm_Odd {F:List HP} {b:Nat} {c:Cfg} {num:Int} {s:HomS}:FnF Tryz.prog 54 [.pointer (some ⟨b,0,none⟩)] [HomP b c num s] F (fun r L'=>r= .int .i64 s.odd∧L'=[HomP b c num s]):=by
  obtain ⟨es,ms,q,odd⟩:=s
  refine FnF.mk' Tryz.func54 rfl rfl Tryz.ntmps54 rfl ?_
  refine hm_open fun bm be bq ps he=>?_
  repeat (first|refine gd ?_|intro _)
  (apply WE_ret rfl rfl zqR)
  · exact ⟨rfl,rfl⟩
  · exact enx @hm_in
theorem hm_Queue {F:List HP} {b:Nat} {c:Cfg} {num:Int} {s:HomS}:FnF Tryz.prog 28 [.pointer (some ⟨b,0,none⟩)] [HomP b c num s] F (fun r L'=>∃ p k,r= .slice p s.q.length k∧L'=[QuL 191 (.slice p s.q.length k) s.q,HomP b c num s]):=by
  obtain ⟨es,ms,q,odd⟩:=s
  refine FnF.mk' Tryz.func28 rfl rfl Tryz.ntmps28 rfl ?_
  refine hm_open fun bm be bq ps he=>?_
  repeat (first|refine gd ?_|intro _|refine cal @qu_List ?_)
  (apply WE_ret rfl rfl zqR)
  · exact ⟨_,_,rfl,rfl⟩
  · exact enx @hm_in
theorem hm_Line {F:List HP} {b:Nat} {c:Cfg} {num:Int} {s:HomS} {line:Int} (hc:c.wf) (hl:I64 line):FnF Tryz.prog 67 [.pointer (some ⟨b,0,none⟩),.int .i64 line] [HomP b c num s] F (fun r L'=>r= .tuple [wv (hmLine c s line),.bool (hmOwn s line)].toArray∧L'=[HomP b c num s]):=by
  obtain ⟨es,ms,q,odd⟩:=s
  have hL:=fun F b=>mem_Line (F:=F) (b:=b) (c:=c) (ms:=ms) hc hl
  refine FnF.mk' Tryz.func67 rfl rfl Tryz.ntmps67 rfl ?_
  refine hm_open fun bm be bq ps he=>?_
  subst he
  have hg:=hes_get ps line
  cases e:mget ps line with
  |none=>
   have e1:hmOwn ⟨hes ps,ms,q,odd⟩ line=false:=by simp [hmOwn,hg,e]
   have e2:hmLine c ⟨hes ps,ms,q,odd⟩ line= .zero:=by simp [hmLine,e1]
   repeat (first|rintro _ _ ⟨rfl,rfl⟩|refine exq fun _=>?_|intro _|refine go ?_)
   simp only [e,Option.isSome_none]
   repeat (first|refine gd ?_|intro _)
   (apply WE_ret rfl rfl zqR)
   · exact ⟨by rw [e1,e2];rfl,rfl⟩
   · exact enx @hm_in
  |some x=>
   have e1:hmOwn ⟨hes ps,ms,q,odd⟩ line=true:=by simp [hmOwn,hg,e]
   have e2:hmLine c ⟨hes ps,ms,q,odd⟩ line=lineWo c ms line:=by simp [hmLine,e1]
   repeat (first|rintro _ _ ⟨rfl,rfl⟩|refine exq fun _=>?_|intro _|refine go ?_)
   simp only [e,Option.isSome_some]
   repeat (first|refine gd ?_|intro _|refine cal @hL ?_)
   (apply WE_ret rfl rfl zqR)
   · exact ⟨by rw [e1,e2];rfl,rfl⟩
   · exact enx @hm_in
theorem rd_hrs_some {ps:List (Int×HRd)} {k:Int} {x:HRd} (e:mget ps k=some x) (L:List HP):RdL (All (hrs ps)::L) 1 (.slice x.2.1 x.1.s.ps.length x.2.2) x.1.s.ps.length (flat ic x.1.s.ps):=by
  have:=rd_hrs (L:=L) ps k
  rw [e] at this
  exact this
end Go.Sx

/- What homes do, told of lists: the invariant, and a request's start. My own work. -/
namespace Go.Sx
open Go Go.Proofs
def ownL (c:Cfg) (num k:Int):Prop:=0≤k∧k<c.lines∧k % c.homes=num
instance (c:Cfg) (num k:Int):Decidable (ownL c num k):=by unfold ownL;infer_instance
structure HmI (c:Cfg) (num:Int) (s:HomS):Prop where
  ok:checkB c=true
  nm:0≤num∧num<c.homes
  own:∀ k,hmOwn s k=decide (ownL c num k)
  may:∀ k e,mget s.es k=some e→mayT e=true∧e.s.cores=c.cores∧e.s.most=c.pointers
  req:∀ x∈s.q,mineB c num x.m 0=true
  snd:∀ x∈s.q,∀ y∈x.sends,(4≤y.kind∧y.kind≤10)∧y.line=x.m.line∧y.src=num
  len:(s.q.length:Int)≤c.buffer
theorem cfg_wf' {c:Cfg} (h:checkB c=true):c.wf:=by
  simp only [checkB,fitsB,Bool.and_eq_true,decide_eq_true_eq] at h
  unfold Cfg.wf I64
  omega
theorem cfg_room' {c:Cfg} (h:checkB c=true):1≤c.buffer∧c.buffer≤16:=by
  simp only [checkB,fitsB,Bool.and_eq_true,decide_eq_true_eq] at h
  omega
theorem mine_facts {c:Cfg} {num:Int} {m:Msg} (hc:checkB c=true) (h:mineB c num m 0=true):MayP c m∧(1≤m.kind∧m.kind≤3)∧ownL c num m.line∧(0≤m.src∧m.src<c.cores)∧m.dst=num:=by
  simp only [mineB,Bool.and_eq_true,decide_eq_true_eq] at h
  obtain ⟨⟨⟨h1,h2⟩,h3⟩,h4⟩:=h
  have hk:1≤m.kind∧m.kind≤3:=by
    unfold netK at h2
    split at h2
    · assumption
    · split at h2
      · omega
      · split at h2<;>omega
  obtain ⟨g1,g2,g3,g4,g5⟩:=h1
  have hu:UpP c m:=by unfold FormP at g4;rw [if_pos h3] at g4;exact g4
  obtain ⟨u1,u2,u3⟩:=hu
  have hh:=(cfg_bnd hc).2.1
  refine ⟨⟨g1,g2,g3,g4,g5⟩,hk,⟨g3.1,g3.2,?_⟩,u1,h4⟩
  rw [←h4,u2]
  unfold homeN
  rw [Int.tmod_eq_emod_of_nonneg g3.1]
theorem hmEnt_own {c:Cfg} {num:Int} {s:HomS} (h:HmI c num s) {k:Int} (ho:ownL c num k):mget s.es k=some (hmEnt s k)∧mayT (hmEnt s k)=true∧(hmEnt s k).s.cores=c.cores∧(hmEnt s k).s.most=c.pointers:=by
  have h1:=h.own k
  rw [decide_eq_true ho] at h1
  unfold hmOwn at h1
  cases e:mget s.es k with
  |none=>rw [e] at h1;cases h1
  |some x=>
   have e2:hmEnt s k=x:=by unfold hmEnt;rw [e];rfl
   rw [e2]
   exact ⟨rfl,h.may k x e⟩
def hmX (s:HomS) (at':Int):Msg:=(qat s.q at').m
def hmOddS (s:HomS) (at':Int):HomS:=⟨s.es,s.ms,s.q.eraseIdx at'.toNat,s.odd+1⟩
def hmTurnS (c:Cfg) (s:HomS) (at':Int):HomS:=
  ⟨mset s.es (hmX s at').line (nextT (hmEnt s (hmX s at').line) (hmX s at')),if nextW (hmEnt s (hmX s at').line) (hmX s at') then wrL c s.ms (hmX s at').line (hmX s at').words else s.ms,
    qstartL s.q at' (nextS (hmEnt s (hmX s at').line) (hmX s at') (lineWo c s.ms (hmX s at').line)),s.odd⟩
def hmStartS (c:Cfg) (s:HomS) (at':Int):HomS:=if nextE (hmEnt s (hmX s at').line) (hmX s at')=0 then hmTurnS c s at' else hmOddS s at'
abbrev L3:=Int×Int×Int
abbrev l3c (l:L3):List Value:=[.int .i64 l.1,.int .i64 l.2.1,.int .i64 l.2.2]
def l3at (l:L3) (n:Int):Int:=if n=0 then l.1 else if n=1 then l.2.1 else l.2.2
def hmGoes (s:HomS) (at':Int) (l:L3):Bool:=qnextB s.q at'&& decide (0<l3at l (netK (qnextM s.q at').kind))
def hmWorkS (c:Cfg) (s:HomS) (at':Int) (l:L3):HomS:=if qready s.q at' then hmStartS c s at' else if hmGoes s at' l then { s with q:=qsentL s.q at'} else s
def hmWorkM (s:HomS) (at':Int) (l:L3):Msg:=if qready s.q at' then .zero else if hmGoes s at' l then qnextM s.q at' else .zero
def hmWorkB (s:HomS) (at':Int) (l:L3):Bool:=if qready s.q at' then false else hmGoes s at' l
def hmDid (s:HomS) (at':Int) (l:L3):Bool:=if qready s.q at' then true else hmGoes s at' l
theorem nextE_cases {c:Cfg} {num:Int} {s:HomS} (h:HmI c num s) {m:Msg} (hm:mineB c num m 0=true):(nextE (hmEnt s m.line) m=7∧m.kind=1∧(hmEnt s m.line).o=m.src)∨nextE (hmEnt s m.line) m=0:=by
  obtain ⟨f1,f2,f3,f4,f5⟩:=mine_facts h.ok hm
  obtain ⟨g1,g2,g3,_⟩:=hmEnt_own h f3
  have hok:okT (hmEnt s m.line) m=true:=by
    simp only [okT,g2,Bool.true_and,Bool.and_eq_true,decide_eq_true_eq]
    omega
  unfold nextE
  rw [if_pos hok]
  by_cases k1:m.kind=1
  · rw [if_pos k1]
    split
    · exact .inl ⟨rfl,k1,by assumption⟩
    · exact .inr rfl
  · rw [if_neg k1]
    right
    split
    · rfl
    · rw [if_pos (by omega)]
theorem odd_out {q:List QE} {n:Int} {m:Msg} (hr:qready q n=true) (hm:(qat q n).m=m) (hk:m.kind≠3):qfinL (qsentL (qstartL q n [m]) n) m.line m.src=q.eraseIdx n.toNat:=by
  have hr0:=hr
  obtain ⟨i,hi,rfl,ea,hs,hf⟩:=qready_t hr
  have hin:qin q (i:Int)=true:=by simp only [qin,decide_eq_true_eq];omega
  have e1:qstartL q i [m]=q.set i { q[i] with st:=true,sends:=[m]}:=by simp [qstartL,qstartE,hin,hr0,ea]
  rw [e1]
  have hm':q[i].m=m:=by rw [←ea];exact hm
  generalize hx:({ q[i] with st:=true,sends:=[m]}:QE)=x
  have x1:x.m=m:=by rw [←hx];exact hm'
  have x2:x.st=true:=by rw [←hx]
  have x3:x.sends=[m]:=by rw [←hx]
  have hin2:qin (q.set i x) (i:Int)=true:=by simp only [qin,decide_eq_true_eq,List.length_set];omega
  have ea2:qat (q.set i x) i=x:=by simp [qat,hin2,hi]
  have e2:qsentL (q.set i x) i=q.set i { x with sends:=[]}:=by
    simp [qsentL,qsentE,hin2,ea2,x3,x1,hk]
  rw [e2]
  generalize hy:({ x with sends:=[]}:QE)=y
  have y1:y.m=m:=by rw [←hy];exact x1
  have y2:y.st=true:=by rw [←hy];exact x2
  have y3:y.sends=[]:=by rw [←hy]
  have hix:indexBy (qgone m.line m.src) (q.set i y)=i:=by
    refine indexBy_at (by simpa using hi) ?_ ?_
    · intro j hj hji
      have hj':j<q.length:=by simpa using hj
      rw [List.getElem_set_ne (by omega)]
      have:=hf j hj' hji
      rw [hm'] at this
      simp [qgone,this]
    · simp [qgone,y1,y2,y3,hk]
  unfold qfinL
  rw [hix,if_neg (by omega),Int.toNat_natCast,List.eraseIdx_set_eq]
end Go.Sx

/- What words caches have: such as may be sent. My own work. -/
namespace Go.Sx
open Go Go.Proofs
def CaV (c:Cfg) (k:CaS):Prop:=(∀ w∈k.ways,ValsP c w.words)∧(∀ m∈k.mis,ValsP c m.words)∧(∀ e∈k.buf,ValsP c e.words)
section
variable {c:Cfg} {k:CaS}
theorem vals_zero (c:Cfg):ValsP c .zero:=fun i hi=>by
  have:Words.zero.at i=0:=by
    rcases i with _|_|_|_|_|_|_|_|i
    all_goals first|rfl|omega
  unfold OkAt
  rw [this]
  omega
theorem v_find {l:List Way} {line:Int} (h:∀ w∈l,ValsP c w.words):ValsP c (findW c l line).words:=findW_all (P:=fun w=>ValsP c w.words) h (vals_zero c)
theorem v_set {l:List Way} {line st:Int} {u:Words} (h:∀ w∈l,ValsP c w.words) (hw:ValsP c u):∀ w∈setL c l line st u,ValsP c w.words:=by
  unfold setL
  split
  · refine set_all (P:=fun w:Way=>ValsP c w.words) h ?_
    dsimp only
    split
    · exact vals_zero c
    · exact hw
  · exact h
theorem v_lock {l:List Way} {line:Int} {lk:Bool} (h:∀ w∈l,ValsP c w.words):∀ w∈lockL c l line lk,ValsP c w.words:=by
  unfold lockL
  split
  · exact set_all (P:=fun w:Way=>ValsP c w.words) h (v_find h)
  · exact h
theorem v_lay {l:List Way} {line way:Int} (h:∀ w∈l,ValsP c w.words):∀ w∈layL c l line way,ValsP c w.words:=by
  unfold layL
  split
  · exact set_all (P:=fun w:Way=>ValsP c w.words) h (vals_zero c)
  · exact h
theorem v_misAt {l:List Miss} {line:Int} (h:∀ m∈l,ValsP c m.words):ValsP c (misAt l line).words:=by
  unfold misAt
  rw [List.getD_eq_getElem?_getD]
  cases e:l[(misP l line).toNat]? with
  |none=>exact vals_zero c
  |some x=>exact h x (List.mem_of_getElem? e)
theorem v_wbAt {l:List WbE} {line:Int} (h:∀ m∈l,ValsP c m.words):ValsP c (wbAt l line).words:=by
  unfold wbAt
  rw [List.getD_eq_getElem?_getD]
  cases e:l[(wbPlace l line).toNat]? with
  |none=>exact vals_zero c
  |some x=>exact h x (List.mem_of_getElem? e)
theorem v_dataL {l:List Miss} {line acks own:Int} {u:Words} (h:∀ m∈l,ValsP c m.words) (hm:ValsP c u):∀ m∈dataL l line acks own u,ValsP c m.words:=by
  unfold dataL
  split
  · exact set_all (P:=fun m:Miss=>ValsP c m.words) h hm
  · exact h
theorem v_grantL {l:List Miss} {line acks:Int} (h:∀ m∈l,ValsP c m.words):∀ m∈grantL l line acks,ValsP c m.words:=by
  unfold grantL
  split
  · exact set_all (P:=fun m:Miss=>ValsP c m.words) h (vals_zero c)
  · exact h
theorem v_ackL {l:List Miss} {line:Int} (h:∀ m∈l,ValsP c m.words):∀ m∈ackL l line,ValsP c m.words:=by
  unfold ackL
  split
  · exact set_all (P:=fun m:Miss=>ValsP c m.words) h (v_misAt (c:=c) h)
  · exact h
theorem v_oweL {l:List Miss} {line:Int} (h:∀ m∈l,ValsP c m.words):∀ m∈oweL l line,ValsP c m.words:=by
  unfold oweL
  split
  · exact set_all (P:=fun m:Miss=>ValsP c m.words) h (v_misAt (c:=c) h)
  · exact h
theorem v_fill (h:CaV c k) (line:Int):CaV c (caFill c k line):=by
  unfold caFill
  split
  · rename_i h0
    refine ⟨v_set h.1 ?_,v_oweL h.2.1,h.2.2⟩
    split
    · exact v_find h.1
    · unfold oweM;rw [if_pos h0];exact v_misAt h.2.1
  · exact h
theorem v_ask (h:CaV c k) (line kind:Int):CaV c (caAskK c k line kind):=by
  unfold caAskK
  split
  · refine ⟨?_,?_,h.2.2⟩
    · dsimp only;split
      · exact v_lock h.1
      · exact v_lay h.1
    · show ∀ m∈openL c.mshrs k.mis line kind,_
      unfold openL
      split
      · intro m hm
        rcases List.mem_append.1 hm with g|g
        · exact h.2.1 m g
        · obtain rfl:=List.mem_singleton.1 g
          exact vals_zero c
      · exact h.2.1
  · exact h
theorem v_atW (h:∀ w∈k.ways,ValsP c w.words) (s w:Int):ValsP c (atW c k.ways s w).words:=by
  by_cases h0:(atW c k.ways s w).st=0
  · unfold atW at h0 ⊢
    split
    · rw [List.getD_eq_getElem?_getD]
      cases e:k.ways[s.toNat*c.ways.toNat+w.toNat]? with
      |none=>exact vals_zero c
      |some x=>exact h x (List.mem_of_getElem? e)
    · exact vals_zero c
  · exact h _ (atW_mem h0)
theorem v_ev (h:CaV c k) (s w:Int):CaV c (caEvK c k s w):=by
  unfold caEvK
  split
  · refine ⟨v_set h.1 (vals_zero c),h.2.1,?_⟩
    dsimp only
    split
    · unfold wbPutL
      split
      · exact h.2.2
      · split
        · exact h.2.2
        · intro m hm
          rcases List.mem_append.1 hm with g|g
          · exact h.2.2 m g
          · obtain rfl:=List.mem_singleton.1 g
            exact v_atW h.1 s w
    · exact h.2.2
  · exact h
theorem v_tell (h:CaV c k) (line st:Int) (g:Bool):CaV c (caTellK c k line st g):=by
  unfold caTellK
  split
  · exact ⟨v_set h.1 (v_find h.1),h.2.1,h.2.2⟩
  · split
    · refine ⟨h.1,h.2.1,?_⟩
      show ∀ e∈wbGiveL k.buf line,_
      unfold wbGiveL
      split
      · exact set_all (P:=fun e:WbE=>ValsP c e.words) h.2.2 (v_wbAt (c:=c) h.2.2)
      · exact h.2.2
    · exact h
theorem may_vals {m:Msg} (h:MayP c m):ValsP c m.words:=by
  have h5:=h.2.2.2.2
  unfold WordsP at h5
  split at h5
  · exact h5
  · rw [h5];exact vals_zero c
theorem v_take {core:Int} {m:Msg} (h:CaV c k):CaV c (caTakeK c core k m):=by
  unfold caTakeK
  split
  · rename_i hok
    have hm:ValsP c m.words:=by
      unfold caTakeOk at hok
      simp only [Bool.and_eq_true,decide_eq_true_eq] at hok
      exact may_vals hok.1.1
    split
    · exact v_tell h _ _ _
    · split
      · exact v_tell h _ _ _
      · split
        · split
          · unfold caInvK
            split
            · exact ⟨v_set h.1 (vals_zero c),h.2.1,h.2.2⟩
            · exact h
          · exact h
        · split
          · unfold caDataK
            split
            · exact v_fill (k:=⟨k.ways,dataL k.mis m.line m.acks m.own m.words,k.buf⟩) ⟨h.1,v_dataL h.2.1 hm,h.2.2⟩ _
            · exact h
          · split
            · unfold caGrK
              split
              · exact v_fill (k:=⟨k.ways,grantL k.mis m.line m.acks,k.buf⟩) ⟨h.1,v_grantL h.2.1,h.2.2⟩ _
              · exact h
            · split
              · unfold caAckK
                split
                · exact v_fill (k:=⟨k.ways,ackL k.mis m.line,k.buf⟩) ⟨h.1,v_ackL h.2.1,h.2.2⟩ _
                · exact h
              · refine ⟨h.1,h.2.1,?_⟩
                show ∀ e∈wbDropL k.buf m.line,_
                unfold wbDropL
                split
                · exact fun e he=>h.2.2 e (List.mem_of_mem_eraseIdx he)
                · exact h.2.2
  · exact h
theorem v_fin (h:CaV c k):CaV c (caFinK c k):=by
  unfold caFinK
  split
  · refine ⟨v_lock h.1,?_,h.2.2⟩
    show ∀ m∈closeL k.mis (caFinL k),_
    unfold closeL
    split
    · exact fun m hm=>h.2.1 m (List.mem_of_mem_eraseIdx hm)
    · exact h.2.1
  · exact h
theorem v_ap {w:Words} {x:Op3} (h:ValsP c w):ValsP c (apW c w x):=by
  unfold apW
  split
  · rename_i hok
    unfold apOk at hok
    simp only [Bool.and_eq_true] at hok
    obtain ⟨⟨h1,h2⟩,h3⟩:=hok
    obtain ⟨hck,g0,g1⟩:=addr_big h1
    have hcb:=cfg_bnd hck
    have hw:0≤addrW c x.addr∧addrW c x.addr<c.words:=by
      unfold addrW;rw [if_pos h1]
      exact ⟨Int.emod_nonneg _ (by omega),Int.emod_lt_of_pos _ (by omega)⟩
    unfold touchL
    split
    · rename_i hk
      have hv: -2147483648≤x.value∧x.value≤2147483647:=by
        unfold mayB at h2
        rw [if_neg (by omega),if_neg (by omega),if_pos hk] at h2
        simp only [Bool.and_eq_true,decide_eq_true_eq] at h2
        exact ⟨h2.1.2,h2.2⟩
      obtain ⟨i,hi⟩:∃ i:Nat,(addrW c x.addr).toNat=i:=⟨_,rfl⟩
      rw [hi]
      intro j hj
      have hat:(Words.of (w.list.set i x.value)).at j=if i=j then x.value else w.at j:=by
        have hlen:(w.list.set i x.value).length=8:=by rw [List.length_set];rfl
        unfold Words.at
        rw [Words.list_of hlen,List.getD_eq_getElem?_getD,List.getElem?_set]
        have hj':j<w.list.length:=hj
        split
        · rename_i e;subst e;rw [if_pos hj'];rfl
        · rw [←List.getD_eq_getElem?_getD]
      unfold OkAt
      rw [hat]
      split
      · exact ⟨hv.1,hv.2,fun g=>by omega⟩
      · exact h j hj
    · rw [Words.of_list];exact h
  · exact vals_zero c
theorem v_do (h:CaV c k) (x:Op3):CaV c (caDoK c k x):=by
  unfold caDoK
  split
  · exact ⟨v_set h.1 (v_ap (v_find h.1)),h.2.1,h.2.2⟩
  · exact h
theorem v_new (c:Cfg) (n:Nat):CaV c ⟨List.replicate n .zero,[],[]⟩:=by
  refine ⟨fun w hw=>?_,?_,?_⟩
  · obtain ⟨_,rfl⟩:=List.mem_replicate.1 hw;exact vals_zero c
  · intro m hm;cases hm
  · intro m hm;cases hm
end
def CaX3 (c:Cfg) (n:Nat) (k:CaS):Prop:=CaInv c n k∧CaJ c k∧CaV c k
section
variable {c:Cfg} {n:Nat} {k:CaS}
theorem x3_mono {n':Nat} (hn:n≤n') (h:CaX3 c n k):CaX3 c n' k:=⟨caInv_mono hn h.1,h.2⟩
theorem x3_ask {line kind:Int} (h:CaX3 c n k):CaX3 c n (caAskK c k line kind):=⟨ask_inv h.1,j_ask h.1.1 h.2.1,v_ask h.2.2 _ _⟩
theorem x3_ev {s w:Int} (h:CaX3 c n k):CaX3 c n (caEvK c k s w):=⟨ev_inv h.1,j_ev h.1.1 h.2.1,v_ev h.2.2 _ _⟩
theorem x3_take {core:Int} {m:Msg} (h:CaX3 c n k):CaX3 c (n+1) (caTakeK c core k m):=⟨take_inv h.1,j_take h.1.1 h.2.1,v_take h.2.2⟩
theorem x3_fin (h:CaX3 c n k):CaX3 c n (caFinK c k):=⟨fin_inv h.1,j_fin h.1.1 h.2.1,v_fin h.2.2⟩
theorem x3_do {x:Op3} (h:CaX3 c n k):CaX3 c n (caDoK c k x):=⟨do_inv h.1,j_do h.1.1 h.2.1,v_do h.2.2 _⟩
theorem x3_new (c:Cfg) (n m:Nat):CaX3 c n ⟨List.replicate m .zero,[],[]⟩:=⟨caInv_new c n m,j_new c m,v_new c m⟩
end
end Go.Sx
