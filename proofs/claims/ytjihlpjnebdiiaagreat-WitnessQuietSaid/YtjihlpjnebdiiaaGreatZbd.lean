/- Wi, Wi2, WiAw: several of my texts as one. My own work. -/
import Derived.Test.YtjihlpjnebdiiaaGreatZr
import Derived.Test.YtjihlpjnebdiiaaGreatZao
import Derived.Test.YtjihlpjnebdiiaaGreatZac
import Derived.Test.YtjihlpjnebdiiaaGreatZae
import Derived.Test.YtjihlpjnebdiiaaGreatZam
import Derived.Test.YtjihlpjnebdiiaaGreatZaz
set_option linter.unusedVariables false
set_option linter.unusedSectionVars false
set_option linter.unusedSimpArgs false
/- What witnesses do, told of lists. My own work. -/
namespace Go.Sx
open Go Go.Proofs
def fin1 (c:Cfg) (cs:List CaS) (line:Int):Option Words:=(cs.find? fun k=>decide (2≤(findW c k.ways line).st)).map fun k=>(findW c k.ways line).words
def liveB (line:Int) (e:WbE):Bool:=decide (e.line=line)&& e.live
def fin2 (cs:List CaS) (line:Int):Option Words:=(cs.findSome? fun k=>k.buf.find? (liveB line)).map (·.words)
def finL (c:Cfg) (s:MaS) (line:Int):Words:=match fin1 c s.cs line with|some w=>w|none=>match fin2 s.cs line with|some w=>w|none=>hmLine c (maH s (lineH c line)) line
def finV (c:Cfg) (s:MaS) (addr:Int):Int:=if okAddr c addr then (finL c s (addrL c addr)).list.getD (addrW c addr).toNat 0 else 0
theorem fin1_no {c:Cfg} {cs:List CaS} {line:Int} (h:∀ i (hi:i<cs.length),¬2≤(findW c cs[i].ways line).st):fin1 c cs line=none:=by
  unfold fin1
  rw [List.find?_eq_none.2]
  · rfl
  · intro k hk
    obtain ⟨i,hi,rfl⟩:=List.getElem_of_mem hk
    simpa using h i hi
theorem fin1_at {c:Cfg} {cs:List CaS} {line:Int} {i:Nat} (hi:i<cs.length) (h:∀ j (hj:j<cs.length),j<i→¬2≤(findW c cs[j].ways line).st) (h2:2≤(findW c cs[i].ways line).st):fin1 c cs line=some (findW c cs[i].ways line).words:=by
  unfold fin1
  have:cs.find? (fun k=>decide (2≤(findW c k.ways line).st))=some cs[i]:=by
    rw [List.find?_eq_some_iff_getElem]
    exact ⟨by simpa using h2,i,hi,rfl,fun j hj=>by simpa using h j (by omega) hj⟩
  rw [this];rfl
theorem fin2_no {cs:List CaS} {line:Int} (h:∀ i (hi:i<cs.length),cs[i].buf.find? (liveB line)=none):fin2 cs line=none:=by
  unfold fin2
  rw [List.findSome?_eq_none_iff.2]
  · rfl
  · intro k hk
    obtain ⟨i,hi,rfl⟩:=List.getElem_of_mem hk
    exact h i hi
theorem fin2_at {cs:List CaS} {line:Int} {i:Nat} {e:WbE} (hi:i<cs.length) (h:∀ j (hj:j<cs.length),j<i→cs[j].buf.find? (liveB line)=none) (h2:cs[i].buf.find? (liveB line)=some e):fin2 cs line=some e.words:=by
  unfold fin2
  have:∀ (l:List CaS) (i:Nat) (hi:i<l.length),(∀ j (hj:j<l.length),j<i→l[j].buf.find? (liveB line)=none)→l[i].buf.find? (liveB line)=some e→l.findSome? (fun k=>k.buf.find? (liveB line))=some e:=by
    intro l
    induction l with
    |nil=>intro i hi;simp at hi
    |cons a r ih=>
     intro i hi h h2
     cases i with
     |zero=>rw [List.findSome?_cons];simp only [List.getElem_cons_zero] at h2;rw [h2]
     |succ i=>
      rw [List.findSome?_cons]
      have:=h 0 (by simp) (by omega)
      simp only [List.getElem_cons_zero] at this
      rw [this]
      exact ih i (by simpa using hi) (fun j hj hji=>by have:=h (j+1) (by simpa using hj) (by omega);simpa using this) (by simpa using h2)
  rw [this cs i hi h h2];rfl
theorem w_get (w:Words) {i:Nat} (h:i<8):(wc w)[0+((i:Nat):Int).toNat*1]? =some (.int .i64 (w.list.getD i 0)):=by
  rw [Int.toNat_natCast,Nat.zero_add,Nat.mul_one]
  match i,h with
  |0,_=>rfl|1,_=>rfl|2,_=>rfl|3,_=>rfl|4,_=>rfl|5,_=>rfl|6,_=>rfl|7,_=>rfl
theorem WC_ownmax {e:TypeId} {sz n:Nat} {v:Value} {xs:List Value} {P:Program} {N:Nat} {env:Env} {L:List HP} {Q:Exit→Act→World→Prop} {co:Code} (h:n≤9223372036854775807→WC P N co env (Own e sz v n xs::L) Q):WC P N co env (Own e sz v n xs::L) Q:=fun a w ha hw=>h (by
  rcases (own_open hw).2.2 with ⟨_,_,hn,_⟩|⟨g,cap,spare,hv,hnc,hm,_⟩
  · omega
  · simp only [maxLen] at hm;omega) a w ha hw
set_option maxRecDepth 100000
set_option maxHeartbeats 4000000
attribute [local irreducible] Go.Exit.then Go.Exit.inBlock Go.Code.wp WC WO WE WQ V LoopQ FnQ Sat Star band bor IntKind.wrap WR Code.rounds WT KO
theorem wi_Final {F:List HP} {b:Nat} {c:Cfg} {s:MaS} {x:MaX} {addr:Int} (hc:c.wf) (ha:I64 addr):FnF Tryz.prog 33 [.pointer (some ⟨b,0,none⟩),c.val,.int .i64 addr] [MaQ b c s x] F
    (fun r L'=>r= .tuple [.int .i64 (finV c s addr),.bool (okAddr c addr)].toArray∧L'=[MaQ b c s x]):=by
  have hAd:=fun F=>split_Addr (F:=F) (c:=c) (a:=addr) hc ha
  refine FnF.mk' Tryz.func33 rfl rfl Tryz.ntmps33 rfl ?_
  cases hok:okAddr c addr with
  |false=>
   have he:addrE c addr≠0:=by unfold addrE;rw [hok];simp
   have hv:finV c s addr=0:=by unfold finV;rw [hok];rfl
   rw [hv]
   repeat (first|refine gd ?_|intro _)
   apply WC_scope (P:=Tryz.prog) (l:=0) (fun _:Unit=>[]) (fun _=>[]) (fun _=>False) (by rfl)
   · repeat (first|refine gd ?_|intro _|refine cal @hAd ?_)
     refine WE_jump_ret ?_
     repeat (first|refine gd ?_|intro _)
     exact fin0
   · intro _ h
     exact absurd h id
  |true=>
   have he:addrE c addr=0:=by unfold addrE;rw [hok];rfl
   obtain ⟨hck,h0,h1⟩:=addr_big hok
   have hcf:=check_words hck
   have hline:okLine c (addrL c addr)=true:=by
     unfold addrL okLine
     rw [if_pos hok,hck]
     have:0≤addr / c.words:=Int.ediv_nonneg h0 (by omega)
     have:addr / c.words<c.lines:=Int.ediv_lt_of_lt_mul (by omega) (by rw [Int.mul_comm];exact h1)
     simp;omega
   have hlI:=okLine_i64 hline
   have hLn:=fun F=>split_Line (F:=F) (c:=c) (a:=addrL c addr) hc hlI
   generalize hL:addrL c addr=line at hline hlI hLn hAd
   have hH0:0≤lineH c line∧lineH c line<c.homes:=by
     unfold lineH;rw [if_pos hline]
     have:=cfg_homes hck
     exact ⟨Int.emod_nonneg _ (by omega),Int.emod_lt_of_pos _ (by omega)⟩
   obtain ⟨hn,hhn⟩:∃ n:Nat,lineH c line=n:=⟨(lineH c line).toNat,by omega⟩
   have hW0:0≤addrW c addr∧addrW c addr<c.words:=by
     unfold addrW;rw [if_pos hok]
     exact ⟨Int.emod_nonneg _ (by omega),Int.emod_lt_of_pos _ (by omega)⟩
   obtain ⟨wn,hwn⟩:∃ n:Nat,addrW c addr=n:=⟨(addrW c addr).toNat,by omega⟩
   have hw8:wn<8:=by have:=hcf.2.1;omega
   have hv:finV c s addr=(finL c s line).list.getD wn 0:=by unfold finV;rw [if_pos hok,hL,hwn];rfl
   rw [hv]
   rw [hhn] at hLn
   rw [hwn] at hAd
   repeat (first|refine gd ?_|intro _)
   rename_i b4
   apply WC_scope (P:=Tryz.prog) (l:=0) (fun q:Nat=>[(9,.int .i64 (wn:Int)),(15,.pointer (some ⟨q,0,none⟩))]) (fun q=>Cells q 97 (wc (finL c s line))::MaQ b c s x::F) (fun _=>True) (by rfl)
   · (first|refine WO_front (MaQ b c s x) ?_|refine WC_front (MaQ b c s x) ?_|refine WE_front (MaQ b c s x) ?_)
     refine maq_fact fun hf=>?_
     have hhb:hn<x.hb.length:=by have:=hf.2.1.2.2;omega
     have hHo:=fun F=>ma_Home (F:=F) (b:=b) (c:=c) (s:=s) (x:=x) hhb
     have hLi:=fun F=>hm_Line (F:=F) (b:=x.hb.getD hn 0) (c:=c) (num:=(hn:Int)) (s:=s.hs.getD hn hmZ) (line:=line) hc hlI
     have hmH:maH s (lineH c line)=s.hs.getD hn hmZ:=by unfold maH;rw [hhn];rfl
     repeat (first|refine gd ?_|intro _|refine cal @hAd ?_|refine cal @hLn ?_|refine cal @hHo ?_)
     (first|refine WO_front (MaQ b c s x) ?_|refine WC_front (MaQ b c s x) ?_|refine WE_front (MaQ b c s x) ?_)
     refine maqh_openO hn hhb ?_
     repeat (first|refine gd ?_|intro _|refine cal @hLi ?_)
     rename_i b15
     generalize hwH:hmLine c (s.hs.getD hn hmZ) line=wH
     have hfin:finL c s line=match fin1 c s.cs line with|some w=>w|none=>match fin2 s.cs line with|some w=>w|none=>wH:=by unfold finL;rw [hmH,hwH]
     have hcl:s.cs.length=x.ab.length:=hf.1.2.1
     have hhl:s.hs.length=x.hb.length:=hf.1.2.2
     have hab:x.ab.length≤64:=by have:=(check_facts hck).1;have:=hf.2.1.2.1;omega
     have hcc:(x.ab.length:Int)=c.cores:=hf.2.1.2.1
     apply WC_loopE (E0:=[(0,_),(4,_),(8,_),(9,_),(15,_),(53,_)]) (fun E0 (i:Nat)=>(54,.int .i64 i)::E0) (fun _=>Cells b15 97 (wc wH)::MaQ b c s x::Cells b4 24 c.cells::F) (fun i=>i≤x.ab.length∧∀ j (hj:j<s.cs.length),j<i→¬2≤(findW c s.cs[j].ways line).st) (fun i=>x.ab.length-i) 0
     · exact zqU
     · exact ⟨Nat.zero_le _,fun j _ h=>absurd h (Nat.not_lt_zero _)⟩
     · exact enx @maqh_back
     · rintro i ⟨hi,hno⟩
       by_cases hlt:i<x.ab.length
       · have hCa:=fun F=>ma_Cache (F:=F) (b:=b) (c:=c) (s:=s) (x:=x) hlt
         have hgi:s.cs.getD i caZ=s.cs[i]:=by simp [show i<s.cs.length by omega]
         have hLk:=fun F=>ca_Look (F:=F) (b:=x.ab.getD i 0) (c:=c) (core:=(i:Int)) (k:=s.cs.getD i caZ) (line:=line) hlI
         repeat (first|refine gd ?_|intro _|refine cal @hCa ?_)
         (first|refine WO_front (MaQ b c s x) ?_|refine WC_front (MaQ b c s x) ?_|refine WE_front (MaQ b c s x) ?_)
         refine maqc_openO i hlt ?_
         by_cases h2:2≤(findW c (s.cs.getD i caZ).ways line).st
         · repeat (first|refine gd ?_|intro _|refine cal @hLk ?_)
           (repeat (first|refine WC_goto ?_|refine WE_then_goto ?_|refine WE_block_goto ?_|refine WE_loop_goto ?_))
           have hfw:wc (findW c (s.cs.getD i caZ).ways line).words=wc (finL c s line):=by
             rw [hfin,hgi] at *
             rw [fin1_at (by omega) hno h2]
           refine WE_jump b15 trivial ?_ ?_
           · exact zqU
           · simp only [←hfw]
             exact enx @maqc_back
         · have hno2:i+1≤x.ab.length∧∀ j (hj:j<s.cs.length),j<i+1→¬2≤(findW c s.cs[j].ways line).st:=by
             refine ⟨by omega,fun j hj hji=>?_⟩
             by_cases e:j=i
             · subst e;rw [←hgi];exact h2
             · exact hno j hj (by omega)
           repeat (first|refine gd ?_|intro _|refine cal @hLk ?_)
           refine WE_loop (i+1) (by omega) hno2 ?_ ?_
           · exact zqU
           · exact enx @maqc_back
       · have hf1:fin1 c s.cs line=none:=fin1_no fun j hj=>hno j hj (by omega)
         have hfin2:finL c s line=match fin2 s.cs line with|some w=>w|none=>wH:=by rw [hfin,hf1]
         repeat (first|refine gd ?_|intro _)
         apply WC_loopE (E0:=[(0,_),(8,_),(9,_),(15,_),(72,_)]) (fun E0 (i:Nat)=>(73,.int .i64 i)::E0) (fun _=>Cells b15 97 (wc wH)::MaQ b c s x::F) (fun i=>i≤x.ab.length∧∀ j (hj:j<s.cs.length),j<i→s.cs[j].buf.find? (liveB line)=none) (fun i=>x.ab.length-i) 0
         · exact zqU
         · exact ⟨Nat.zero_le _,fun j _ h=>absurd h (Nat.not_lt_zero _)⟩
         · exact entu0
         · rintro i ⟨hi2,hnl⟩
           by_cases hlt2:i<x.ab.length
           · have hCa:=fun F=>ma_Cache (F:=F) (b:=b) (c:=c) (s:=s) (x:=x) hlt2
             have hgi:s.cs.getD i caZ=s.cs[i]:=by simp [show i<s.cs.length by omega]
             have hWr:=fun F=>ca_Written (F:=F) (b:=x.ab.getD i 0) (c:=c) (core:=(i:Int)) (k:=s.cs.getD i caZ)
             repeat (first|refine gd ?_|intro _|refine cal @hCa ?_)
             (first|refine WO_front (MaQ b c s x) ?_|refine WC_front (MaQ b c s x) ?_|refine WE_front (MaQ b c s x) ?_)
             refine maqc_openO i hlt2 ?_
             repeat (first|refine gd ?_|intro _|refine cal @hWr ?_)
             rename_i pw cw
             obtain ⟨bf,hbf⟩:∃ bf,(s.cs.getD i caZ).buf=bf:=⟨_,rfl⟩
             have hbf':s.cs[i].buf=bf:=by rw [←hgi];exact hbf
             rw [hbf]
             (first|refine WO_front (Own 125 10 (.slice pw bf.length cw) bf.length (flat bc bf)) ?_|refine WC_front (Own 125 10 (.slice pw bf.length cw) bf.length (flat bc bf)) ?_|refine WE_front (Own 125 10 (.slice pw bf.length cw) bf.length (flat bc bf)) ?_)
             refine WC_ownmax fun hbm=>?_
             apply WC_loopE (E0:=[(0,_),(8,_),(9,_),(15,_),(72,_),(73,_),(79,_),(80,_)]) (fun E0 (j:Nat)=>(81,.int .i64 j)::E0) (fun _=>Own 125 10 (.slice pw bf.length cw) bf.length (flat bc bf)::Cells b15 97 (wc wH)::MaQ b c s x::F) (fun j=>j≤bf.length∧∀ k (hk:k<bf.length),k<j→liveB line bf[k]=false) (fun j=>bf.length-j) 0
             · exact zqU
             · exact ⟨Nat.zero_le _,fun j _ h=>absurd h (Nat.not_lt_zero _)⟩
             · exact enx @maqc_back
             · rintro j ⟨hj,hnj⟩
               by_cases hlt3:j<bf.length
               · by_cases h3:bf[j].line=line
                 · cases h4:bf[j].live with
                   |true=>
                    repeat (first|refine gd ?_|intro _)
                    (repeat (first|refine WC_goto ?_|refine WE_then_goto ?_|refine WE_block_goto ?_|refine WE_loop_goto ?_))
                    have hfw:wc bf[j].words=wc (finL c s line):=by
                      have hfd:bf.find? (liveB line)=some bf[j]:=by
                        rw [List.find?_eq_some_iff_getElem]
                        exact ⟨by simp [liveB,h3,h4],j,hlt3,rfl,fun k hk=>by simp [hnj k (by omega) hk]⟩
                      rw [hfin2,fin2_at (i:=i) (by omega) hnl (by rw [hbf'];exact hfd)]
                    refine WE_jump b15 trivial ?_ ?_
                    · exact zqU
                    · simp only [←hfw]
                      exact entu0
                   |false=>
                    have hnj2:j+1≤bf.length∧∀ k (hk:k<bf.length),k<j+1→liveB line bf[k]=false:=by
                      refine ⟨by omega,fun k hk hkj=>?_⟩
                      by_cases e:k=j
                      · subst e;simp [liveB,h4]
                      · exact hnj k hk (by omega)
                    repeat (first|refine gd ?_|intro _)
                    refine WE_loop (j+1) (by omega) hnj2 ?_ ?_
                    · exact zqU
                    · exact entu0
                 · have hnj2:j+1≤bf.length∧∀ k (hk:k<bf.length),k<j+1→liveB line bf[k]=false:=by
                     refine ⟨by omega,fun k hk hkj=>?_⟩
                     by_cases e:k=j
                     · subst e;simp [liveB,h3]
                     · exact hnj k hk (by omega)
                   repeat (first|refine gd ?_|intro _)
                   refine WE_loop (j+1) (by omega) hnj2 ?_ ?_
                   · exact zqU
                   · exact entu0
               · have hnl2:i+1≤x.ab.length∧∀ j (hj:j<s.cs.length),j<i+1→s.cs[j].buf.find? (liveB line)=none:=by
                   refine ⟨by omega,fun k hk hki=>?_⟩
                   by_cases e:k=i
                   · subst e
                     rw [hbf',List.find?_eq_none]
                     intro e he
                     obtain ⟨q,hq,rfl⟩:=List.getElem_of_mem he
                     simp [hnj q hq (by omega)]
                   · exact hnl k hk (by omega)
                 repeat (first|refine gd ?_|intro _)
                 refine WE_loop (i+1) (by omega) hnl2 ?_ ?_
                 · exact zqU
                 · exact entu0
           · have hf2:fin2 s.cs line=none:=fin2_no fun j hj=>hnl j hj (by omega)
             have hfin3:finL c s line=wH:=by rw [hfin2,hf2]
             rw [hfin3]
             repeat (first|refine gd ?_|intro _)
             refine WC_label ?_
             have hg:=w_get wH hw8
             repeat (first|refine gd ?_|intro _)
             refine WE_jump_ret ?_
             repeat (first|refine gd ?_|intro _)
             exact fin0
   · rintro b15 _
     have hg:=w_get (finL c s line) hw8
     repeat (first|refine gd ?_|intro _)
     refine WE_jump_ret ?_
     repeat (first|refine gd ?_|intro _)
     exact fin0
end Go.Sx

/- What witnesses do: a trace is told fine, or where it isn't. The program's. My own work. -/
namespace Go.Sx
open Go Go.Proofs
set_option maxRecDepth 100000
set_option maxHeartbeats 4000000
attribute [local irreducible] Go.Exit.then Go.Exit.inBlock Go.Code.wp WC WO WE WQ V LoopQ FnQ Sat Star band bor IntKind.wrap WR Code.rounds WT KO
theorem wi_Value {F:List HP} {c:Cfg} {l:List Com} {v:Value} {addr:Int} (hc:c.wf) (k:RdL F 6 v l.length (flat cmc l)) (hl:l.length≤1099511627776):FnF Tryz.prog 34 [c.val,v,.int .i64 addr] [] F (fun r L'=>r= .int .i64 (valV c l addr)∧L'=[]):=by
  cases hck:checkB c with
  |false=>
   have hN:=fun F=>mem_New_no (F:=F) hc hck
   refine FnF.mk' Tryz.func34 rfl rfl Tryz.ntmps34 rfl ?_
   repeat (first|refine gd ?_|intro _|refine cal @hN ?_)
   (apply WE_ret rfl rfl zqR;(first|exact zqL|exact ⟨by simp [valV,hck]<;>omega,rfl⟩);exact zqN)
  |true=>
   have hN:=fun F=>mem_New (F:=F) hc hck
   refine FnF.mk' Tryz.func34 rfl rfl Tryz.ntmps34 rfl ?_
   repeat (first|refine gd ?_|intro _|refine cal @hN ?_)
   rename_i bm
   apply WC_loopE (E0:=[(2,_),(7,_),(18,_),(19,_)]) (fun E0 (i:Nat)=>(20,.int .i64 i)::E0) (fun i=>MemB bm c (trMs c (l.take i))::F) (fun i=>i≤l.length) (fun i=>l.length-i) 0
   · exact zqU
   · exact Nat.zero_le _
   · rw [show trMs c (l.take 0)=List.replicate (c.words*c.lines).toNat 0 from rfl]
     exact entu0
   · intro i hi
     by_cases hlt:i<l.length
     · have hst:=trMs_take (c:=c) hlt
       have hD:=fun F=>mem_Do (F:=F) (b:=bm) (c:=c) (ms:=trMs c (l.take i)) (x:=l[i].op)
       repeat (first|refine gd ?_|intro _|refine cal @hD ?_)
       refine WE_loop (i+1) (by omega) (by omega) ?_ ?_
       · exact zqU
       · rw [hst];exact entu0
     · have hil:i=l.length:=by omega
       subst hil
       rw [List.take_length]
       repeat (first|refine gd ?_|intro _|refine cal @mem_Word ?_)
       (apply WE_ret rfl rfl zqR;(first|exact zqL|exact ⟨by simp [valV,hck]<;>omega,rfl⟩);exact zqN)
theorem wi_Check {F:List HP} {c:Cfg} {ps:List PrQ} {u v:Value} {l:List Com} (hc:c.wf) (k:RdL F 6 v l.length (flat cmc l)) (hl:l.length≤1099511627776) (kp:RdL F 1 u ps.length (flat prc ps)) (kr:RdPr F ps) :
    FnF Tryz.prog 32 [c.val,u,v] [] F (fun r L'=>r= .tuple [.int .i64 (chkV c (ps.map (·.1)) l),.int .i64 (chkE c (ps.map (·.1)) l)].toArray∧L'=[]):=by
  cases hck:checkB c with
  |false=>
   have hN:=fun F=>mem_New_no (F:=F) hc hck
   refine FnF.mk' Tryz.func32 rfl rfl Tryz.ntmps32 rfl ?_
   repeat (first|refine gd ?_|intro _|refine cal @hN ?_)
   (apply WE_ret rfl rfl zqR;(first|exact zqL|exact ⟨by simp [chkV,chkE,chkOk,hck]<;>omega,rfl⟩);exact zqN)
  |true=>
   have hN:=fun F=>mem_New (F:=F) hc hck
   by_cases hlen:(ps.length:Int)=c.cores
   · have hcc:=(check_facts hck).1
     have e1:chkV c (ps.map (·.1)) l=chkN c (ps.map (·.1)) l:=by simp [chkV,chkOk,hck,hlen]
     have e2:chkE c (ps.map (·.1)) l=if chkN c (ps.map (·.1)) l=l.length then 0 else 7:=by simp [chkE,chkOk,hck,hlen]
     rw [e1,e2]
     obtain ⟨n,hn⟩:∃ n:Nat,c.cores=n:=⟨c.cores.toNat,by omega⟩
     have hpn:ps.length=n:=by omega
     refine FnF.mk' Tryz.func32 rfl rfl Tryz.ntmps32 rfl ?_
     repeat (first|refine gd ?_|intro _|refine cal @hN ?_)
     rename_i b3 bm ba
     have hbad:∀ i,i<l.length→(∀ j,j<i→goodC c (ps.map (·.1)) l j=true)→goodC c (ps.map (·.1)) l i=false→chkN c (ps.map (·.1)) l=i∧¬i=l.length:=fun i hi h1 h2=>⟨chkN_at hi h1 h2,by omega⟩
     apply WC_loopE (E0:=[(1,_),(2,_),(3,_),(8,_),(10,_),(32,_),(33,_)]) (fun E0 (i:Nat)=>(34,.int .i64 i)::E0) (fun i=>Cells ba 3 (flat ic (atC n l i))::MemB bm c (trMs c (l.take i))::Cells b3 24 c.cells::F) (fun i=>i≤l.length∧∀ j,j<i→goodC c (ps.map (·.1)) l j=true) (fun i=>l.length-i) 0
     · exact zqU
     · exact ⟨Nat.zero_le _,fun j h=>absurd h (Nat.not_lt_zero _)⟩
     · rw [show trMs c (l.take 0)=List.replicate (c.words*c.lines).toNat 0 from rfl,atC_zero,←rep_ic,hn,Int.toNat_natCast]
       exact entu0
     · rintro i ⟨hi,hgo⟩
       by_cases hlt:i<l.length
       · have hst:=trMs_take (c:=c) hlt
         have hbi:=hbad i hlt hgo
         have hgd:goodC c (ps.map (·.1)) l i=(decide (0≤l[i].core∧l[i].core<c.cores)&& decide (l[i].pos=cntC l i l[i].core)&& decide (l[i].pos<(((ps.map (·.1)).getD l[i].core.toNat []).length:Int))&& decide (l[i].op=((ps.map (·.1)).getD l[i].core.toNat []).getD l[i].pos.toNat .zero)
          && decide (memDoE (trMs c (l.take i)) l[i].op=0)&& decide (memDoV (trMs c (l.take i)) l[i].op=l[i].res)):=by unfold goodC;rw [List.getElem?_eq_getElem hlt]
         have hD:=fun F=>mem_Do (F:=F) (b:=bm) (c:=c) (ms:=trMs c (l.take i)) (x:=l[i].op)
         by_cases h0:l[i].core<0
         · obtain ⟨f1,f2⟩:=hbi (by rw [hgd];simp [show ¬0≤l[i].core by omega])
           repeat (first|refine gd ?_|intro _)
           rw [f1,if_neg f2]
           exact fin0
         · by_cases h1:l[i].core≥c.cores
           · obtain ⟨f1,f2⟩:=hbi (by rw [hgd];simp [show ¬l[i].core<c.cores by omega])
             repeat (first|refine gd ?_|intro _)
             rw [f1,if_neg f2]
             exact fin0
           · obtain ⟨kc,hkc⟩:∃ k:Nat,l[i].core=k:=⟨l[i].core.toNat,by omega⟩
             have hkn:kc<n:=by omega
             have hkp:kc<ps.length:=by omega
             have hat:(flat ic (atC n l i))[0+((kc:Nat):Int).toNat*1]? =some (.int .i64 (cntC l i (kc:Int))):=by
               rw [Int.toNat_natCast,Nat.zero_add,Nat.mul_one,flat_ic_get (by simp [atC,hkn])]
               simp [atC]
             have hcn:=cntC_le l i (kc:Int)
             have hpr:(ps.map (·.1)).getD kc []=ps[kc].1:=by simp [hkp]
             rw [hkc,Int.toNat_natCast,hpr] at hgd
             haveI krk:=rd_pr kr hkp
             generalize hq:cntC l i (kc:Int)=q at hat hcn hgd
             have hIn:decide (0≤(kc:Int)∧(kc:Int)<c.cores)=true:=decide_eq_true (by omega)
             generalize hxo:l[i].op=xo at hgd hst hD
             generalize hxr:l[i].res=xr at hgd
             by_cases hp:l[i].pos=q
             · have hx:l[i]=⟨(kc:Int),(q:Int),xo,xr⟩:=by rw [←hkc,←hp,←hxo,←hxr]
               by_cases hql:q<ps[kc].1.length
               · have hge:ps[kc].1.getD q .zero=ps[kc].1[q]:=by simp [hql]
                 rw [hIn,hp,Int.toNat_natCast,hge,decide_eq_true rfl,decide_eq_true (show (q:Int)<(ps[kc].1.length:Int) by omega)] at hgd
                 simp only [Bool.true_and] at hgd
                 by_cases ho:xo=ps[kc].1[q]
                 · have ho':¬(oc xo≠oc ps[kc].1[q]):=fun h=>h (by rw [ho])
                   rw [decide_eq_true ho,Bool.true_and] at hgd
                   by_cases hE:memDoE (trMs c (l.take i)) xo=0
                   · rw [decide_eq_true hE,Bool.true_and] at hgd
                     by_cases hV:memDoV (trMs c (l.take i)) xo=xr
                     · rw [decide_eq_true hV] at hgd
                       have hgo2:∀ j,j<i+1→goodC c (ps.map (·.1)) l j=true:=fun j hj=>by
                         by_cases e:j=i
                         · subst e;exact hgd
                         · exact hgo j (by omega)
                       have hats:=atC_succ hlt hkn (by rw [hkc])
                       rw [hq] at hats
                       repeat (first|refine gd ?_|intro _)
                       simp only [hx];dsimp only [cmc]
                       repeat (first|refine gd ?_|intro _|refine cal @hD ?_)
                       have hal:(atC n l i).length=n:=by simp [atC]
                       have hsp:splice (flat ic (atC n l i)) (0+((kc:Nat):Int).toNat*1) [.int .i64 ((q:Int)+1)]=flat ic (atC n l (i+1)):=by
                         rw [Int.toNat_natCast,Nat.zero_add,Nat.mul_one,splice_ic (by omega),hats]
                       have hbl:Nat.ble (0+((kc:Nat):Int).toNat*1+1) (flat ic (atC n l i)).length=true:=by
                         rw [flat_ic_len,hal,Int.toNat_natCast,Nat.ble_eq];omega
                       (apply WO_k;rfl;(apply K_store (cs:=[.int .i64 ((q:Int)+1)]);rfl;rfl;exact inferInstance;rfl;rfl;rfl;exact hbl);refine same_intro ?_)
                       rw [hsp]
                       repeat (first|refine gd ?_|intro _)
                       refine WE_loop (i+1) (by omega) ⟨by omega,hgo2⟩ ?_ ?_
                       · exact zqU
                       · rw [hst];exact entu0
                     · obtain ⟨f1,f2⟩:=hbi (by rw [hgd];exact decide_eq_false hV)
                       repeat (first|refine gd ?_|intro _)
                       simp only [hx];dsimp only [cmc]
                       repeat (first|refine gd ?_|intro _|refine cal @hD ?_)
                       rw [f1,if_neg f2]
                       exact fin0
                   · obtain ⟨f1,f2⟩:=hbi (by rw [hgd,decide_eq_false hE];rfl)
                     repeat (first|refine gd ?_|intro _)
                     simp only [hx];dsimp only [cmc]
                     repeat (first|refine gd ?_|intro _|refine cal @hD ?_)
                     rw [f1,if_neg f2]
                     exact fin0
                 · obtain ⟨f1,f2⟩:=hbi (by rw [hgd,decide_eq_false ho];rfl)
                   have ho':oc xo≠oc ps[kc].1[q]:=fun h=>ho (by
                     have h1:∀ a b:Op3,oc a=oc b→a=b:=fun ⟨a1,a2,a3⟩ ⟨b1,b2,b3⟩ h=>by simp only [oc,List.cons.injEq,Value.int.injEq,true_and,and_true] at h;obtain ⟨rfl,rfl,rfl⟩:=h;rfl
                     exact h1 _ _ h)
                   repeat (first|refine gd ?_|intro _)
                   simp only [hx];dsimp only [cmc]
                   repeat (first|refine gd ?_|intro _)
                   rw [f1,if_neg f2]
                   exact fin0
               · obtain ⟨f1,f2⟩:=hbi (by rw [hgd,hp,decide_eq_false (show ¬(q:Int)<(ps[kc].1.length:Int) by omega)];simp)
                 repeat (first|refine gd ?_|intro _)
                 simp only [hx];dsimp only [cmc]
                 repeat (first|refine gd ?_|intro _)
                 rw [f1,if_neg f2]
                 exact fin0
             · obtain ⟨f1,f2⟩:=hbi (by rw [hgd,decide_eq_false hp];simp)
               repeat (first|refine gd ?_|intro _)
               simp only [hkc]
               repeat (first|refine gd ?_|intro _)
               rw [f1,if_neg f2]
               exact fin0
       · have hil:i=l.length:=by omega
         subst hil
         have f1:=chkN_all hgo
         rw [f1,if_pos rfl]
         repeat (first|refine gd ?_|intro _)
         exact fin0
   · refine FnF.mk' Tryz.func32 rfl rfl Tryz.ntmps32 rfl ?_
     repeat (first|refine gd ?_|intro _|refine cal @hN ?_)
     (apply WE_ret rfl rfl zqR;(first|exact zqL|exact ⟨by simp [chkV,chkE,chkOk,hck,hlen]<;>omega,rfl⟩);exact zqN)
end Go.Sx

/- The laws of witnesses: what they ask first. My own work. -/
namespace Go.Sx
open Go Go.Proofs
abbrev c19:Cfg:=⟨2,1,1,1,1,2,0,1,1,1,1,1,1⟩
abbrev oS7:Op3:=⟨2,0,7⟩
abbrev oL0:Op3:=⟨1,0,0⟩
abbrev k19a:Com:=⟨0,0,oS7,0⟩
abbrev k19b:Com:=⟨1,0,oL0,7⟩
theorem cells_rds {g n c sz:Nat} {T:TypeId} {l:List Value} {L:List HP} (hl:l.length=n*sz) (h1:l.all one=true):Ent (Cells g T l::L) (Rds sz (.slice (some ⟨g,0,none⟩) n c) n l::L):=fun h ⟨S,U,d,hp,hL⟩=>
  ⟨S,U,d,⟨hl,h1,.inr ⟨g,0,c,l.toArray,T,rfl,hp.pf,fun j u hu=>by simpa using hu⟩⟩,hL⟩
abbrev p19 (g1 g2:Nat):List PrQ:=[([oS7],(some ⟨g1,0,none⟩,1)),([oL0],(some ⟨g2,0,none⟩,1))]
theorem rdpr19 {L:List HP} {g1 g2:Nat} [k1:RdL L 3 (.slice (some ⟨g1,0,none⟩) 1 1) 1 (flat oc [oS7])] [k2:RdL L 3 (.slice (some ⟨g2,0,none⟩) 1 1) 1 (flat oc [oL0])]:RdPr L (p19 g1 g2):=⟨fun p hp=>by
  rcases List.mem_cons.1 hp with rfl|hp
  · exact k1
  · rcases List.mem_cons.1 hp with rfl|hp
    · exact k2
    · cases hp⟩
theorem v19a (g1 g2:Nat):chkV c19 ((p19 g1 g2).map (·.1)) [k19a,k19b]=2∧chkE c19 ((p19 g1 g2).map (·.1)) [k19a,k19b]=0:=by
  show chkV c19 [[oS7],[oL0]] [k19a,k19b]=2∧chkE c19 [[oS7],[oL0]] [k19a,k19b]=0
  decide
theorem v19b (g1 g2:Nat):chkV c19 ((p19 g1 g2).map (·.1)) [k19b]=0∧chkE c19 ((p19 g1 g2).map (·.1)) [k19b]=7:=by
  show chkV c19 [[oS7],[oL0]] [k19b]=0∧chkE c19 [[oS7],[oL0]] [k19b]=7
  decide
theorem v19c:chkV c19 [] [k19a,k19b]=0∧chkE c19 [] [k19a,k19b]=1:=by decide
theorem v19d:valV c19 [k19a,k19b] 0=7∧valV c19 [k19a,k19b] 2=0:=by decide
theorem v19e (g1 g2:Nat):maOk c19 ((p19 g1 g2).map (·.1))=true:=by
  show maOk c19 [[oS7],[oL0]]=true
  decide
theorem v19f (g1 g2:Nat):finV c19 (maNew c19 ((p19 g1 g2).map (·.1))) 1=0∧okAddr c19 1=true∧finV c19 (maNew c19 ((p19 g1 g2).map (·.1))) 2=0∧okAddr c19 2=false:=by
  show finV c19 (maNew c19 [[oS7],[oL0]]) 1=0∧okAddr c19 1=true∧finV c19 (maNew c19 [[oS7],[oL0]]) 2=0∧okAddr c19 2=false
  decide
set_option maxRecDepth 100000
set_option maxHeartbeats 4000000
attribute [local irreducible] Go.Exit.then Go.Exit.inBlock Go.Code.wp WC WO WE WQ V LoopQ FnQ Sat Star band bor IntKind.wrap WR Code.rounds WT KO
theorem dr_WiAw_31m {Q P:Prop} (k:Q) (h:Hid Q→P:=by
  intro k
  first
  |(refine is_draw ?_;apply WC_mix (id:=5) (.only []) _ (pl:= .p 1 <| .p 2 <| .p 3 <| .r 0 <| .e true [(4,.p 5 <| .p 6 <| .p 7 <| .p 8 <| .p 9 <| .done)]);exact mixed;kernel_rfl;kernel_rfl;exact Ent.refl;exact k.out)
  |(refine is_draw ?_;apply WC_mix (id:=3) .true _ (pl:= .p 0 <| .p 1 <| .p 6 <| .p 7 <| .r 2 <| .p 3 <| .r 4 <| .p 5 <| .r 8 <| .p 9 <| .r 10 <| .p 11 <| .e true [(12,.p 13 <| .done)]);exact mixed;kernel_rfl;kernel_rfl;exact Ent.refl;exact k.out)):P:=h ⟨k⟩
theorem law19_awake {F:List HP}:FnF Tryz.prog 31 [] [] F (fun r L'=>r= .bool true∧L'=[]):=by
  have hw:c19.wf:=cfg_wf' (by decide)
  refine FnF.mk' Tryz.func31 rfl rfl Tryz.ntmps31 rfl ?_
  repeat (first|refine go ?_|intro _|refine dr_WiAw_31m ?_|refine drq ?_)
  rename_i b4 g1 g2 g3 g4
  (first|refine WO_ent (Ent.trans (cells_rds (n:=2) (c:=2) (sz:=6) rfl rfl) (Ent.cons (Ent.trans (cells_rds (n:=2) (c:=2) (sz:=1) rfl rfl) (Ent.cons (Ent.trans (cells_rds (n:=1) (c:=1) (sz:=3) rfl rfl) (Ent.cons (cells_rds (n:=1) (c:=1) (sz:=3) rfl rfl))))))) ?_|refine WC_ent' (Ent.trans (cells_rds (n:=2) (c:=2) (sz:=6) rfl rfl) (Ent.cons (Ent.trans (cells_rds (n:=2) (c:=2) (sz:=1) rfl rfl) (Ent.cons (Ent.trans (cells_rds (n:=1) (c:=1) (sz:=3) rfl rfl) (Ent.cons (cells_rds (n:=1) (c:=1) (sz:=3) rfl rfl))))))) ?_|refine WE_ent' (Ent.trans (cells_rds (n:=2) (c:=2) (sz:=6) rfl rfl) (Ent.cons (Ent.trans (cells_rds (n:=2) (c:=2) (sz:=1) rfl rfl) (Ent.cons (Ent.trans (cells_rds (n:=1) (c:=1) (sz:=3) rfl rfl) (Ent.cons (cells_rds (n:=1) (c:=1) (sz:=3) rfl rfl))))))) ?_)
  have hC1:=fun F (k1:RdL F 6 (.slice (some ⟨g4,0,none⟩) 2 2) 2 (flat cmc [k19a,k19b])) (k2:RdL F 1 (.slice (some ⟨g3,0,none⟩) 2 2) 2 (flat prc (p19 g1 g2))) (k3:RdL F 3 (.slice (some ⟨g1,0,none⟩) 1 1) 1 (flat oc [oS7])) (k4:RdL F 3 (.slice (some ⟨g2,0,none⟩) 1 1) 1 (flat oc [oL0]))=>wi_Check (F:=F) (ps:=p19 g1 g2) (l:=[k19a,k19b]) hw k1 (by simp) k2 rdpr19
  have hC2:=fun F (k1:RdL F 6 (.slice (some ⟨g4,0,none⟩) 2 2) 2 (flat cmc [k19a,k19b])) (k2:RdL F 1 (.slice (some ⟨g3,0,none⟩) 2 2) 2 (flat prc (p19 g1 g2))) (k3:RdL F 3 (.slice (some ⟨g1,0,none⟩) 1 1) 1 (flat oc [oS7])) (k4:RdL F 3 (.slice (some ⟨g2,0,none⟩) 1 1) 1 (flat oc [oL0]))=>wi_Check (F:=F) (ps:=p19 g1 g2) (l:=[k19b]) hw (RdL.cut (l:=1) (h:=2) (m:=2) k1 (by omega) (by omega) (by omega)) (by simp) k2 rdpr19
  have hC3:=fun F (k1:RdL F 6 (.slice (some ⟨g4,0,none⟩) 2 2) 2 (flat cmc [k19a,k19b]))=>wi_Check (F:=F) (u:= .slice none 0 0) (ps:=[]) (l:=[k19a,k19b]) hw k1 (by simp) rd_empty ⟨fun p hp=>by cases hp⟩
  have hN:=fun F (k2:RdL F 1 (.slice (some ⟨g3,0,none⟩) 2 2) 2 (flat prc (p19 g1 g2))) (k3:RdL F 3 (.slice (some ⟨g1,0,none⟩) 1 1) 1 (flat oc [oS7])) (k4:RdL F 3 (.slice (some ⟨g2,0,none⟩) 1 1) 1 (flat oc [oL0]))=>ma_New (F:=F) (ps:=p19 g1 g2) hw k2 rdpr19 (v19e g1 g2)
  have hV0:=fun F (k1:RdL F 6 (.slice (some ⟨g4,0,none⟩) 2 2) 2 (flat cmc [k19a,k19b]))=>wi_Value (F:=F) (l:=[k19a,k19b]) (addr:=0) hw k1 (by simp)
  have hV2:=fun F (k1:RdL F 6 (.slice (some ⟨g4,0,none⟩) 2 2) 2 (flat cmc [k19a,k19b]))=>wi_Value (F:=F) (l:=[k19a,k19b]) (addr:=2) hw k1 (by simp)
  simp only [v19a] at hC1
  simp only [v19b] at hC2
  simp only [List.map_nil,v19c] at hC3
  simp only [v19d] at hV0 hV2
  repeat (first|refine go ?_|intro _|refine dr_WiAw_31m ?_|refine drq ?_|refine cal @hC1 ?_|refine cal @hC2 ?_|refine cal @hC3 ?_|refine cal @hN ?_|refine cal @hV0 ?_|refine cal @hV2 ?_)
  refine WT_p rfl GIn.none (v_slice rfl (by exact bnd_nat (i:=1) rfl) Bnd.none Bnd.none (fun h=>by cases h) (by omega) (by omega) (by omega)) rfl ?_
  repeat (first|refine go ?_|intro _|refine dr_WiAw_31m ?_|refine drq ?_|refine cal @hC1 ?_|refine cal @hC2 ?_|refine cal @hC3 ?_|refine cal @hN ?_|refine cal @hV0 ?_|refine cal @hV2 ?_)
  rename_i bm
  (first|refine WO_front (MaP bm c19 (maNew c19 ((p19 g1 g2).map (·.1)))) ?_|refine WC_front (MaP bm c19 (maNew c19 ((p19 g1 g2).map (·.1)))) ?_|refine WE_front (MaP bm c19 (maNew c19 ((p19 g1 g2).map (·.1)))) ?_)
  refine map_openO fun xm=>?_
  have hF1:=fun F=>wi_Final (F:=F) (b:=bm) (c:=c19) (s:=maNew c19 ((p19 g1 g2).map (·.1))) (x:=xm) (addr:=1) hw (by decide)
  have hF2:=fun F=>wi_Final (F:=F) (b:=bm) (c:=c19) (s:=maNew c19 ((p19 g1 g2).map (·.1))) (x:=xm) (addr:=2) hw (by decide)
  simp only [v19f] at hF1 hF2
  repeat (first|refine go ?_|intro _|refine dr_WiAw_31m ?_|refine drq ?_|refine cal @hF1 ?_|refine cal @hF2 ?_|refine cal @hV0 ?_|refine cal @hV2 ?_)
  have q1:=(v19f g1 g2).2.1
  have q2:=(v19f g1 g2).2.2.2
  (apply WE_ret rfl rfl zqR;(first|exact zqL|exact ⟨by simp [q1,q2]<;>omega,rfl⟩);exact zqN)
end Go.Sx
