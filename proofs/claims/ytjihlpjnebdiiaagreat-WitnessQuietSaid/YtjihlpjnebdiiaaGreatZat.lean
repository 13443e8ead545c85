/- MaW, MaX, Pro4, Pro5, MaY, Pro6: several of my texts as one. My own work. -/
import Derived.Test.YtjihlpjnebdiiaaGreatZr
import Derived.Test.YtjihlpjnebdiiaaGreatZar
import Derived.Test.YtjihlpjnebdiiaaGreatZas
import Derived.Test.YtjihlpjnebdiiaaGreatZaf
set_option linter.unusedVariables false
set_option linter.unusedSectionVars false
set_option linter.unusedSimpArgs false
/- What cores and caches do keeps each line's protocol. My own work. -/
namespace Go.Sx
open Go Go.Proofs
def NF (v:LV Words):Prop:=∀ r m,v.ms r=some m→m.needs=m.got→m.ow=true
def LIs (c:Cfg) (s:MaS):Prop:=∀ line,okLine c line=true→LI (maV c s line)∧NF (maV c s line)
section
variable {c:Cfg} {n:Nat} {s:MaS} {line i:Int}
theorem ca_as {k:CaS} (h0:0≤i) (h1:i<s.cs.length) (x:Int):maCa (maAs s i k) x=if x=i then k else maCa s x:=by
  unfold maCa maA
  show (if 0≤x then (s.cs.set i.toNat k).getD x.toNat caZ else caZ)=_
  by_cases hx:x=i
  · subst hx
    rw [if_pos h0,if_pos rfl,List.getD_eq_getElem?_getD,List.getElem?_set_self (by omega)];rfl
  · rw [if_neg hx]
    split
    · rw [List.getD_eq_getElem?_getD,List.getElem?_set_ne (by omega),←List.getD_eq_getElem?_getD]
    · rfl
theorem ca_at (h0:0≤i):maCa s i=maA s i:=if_pos h0
structure MavAs (c:Cfg) (s:MaS) (line i:Int) (cs':List CaS) (st:Int→Int) (wd:Int→Words) (ms:Int→Option (AMs Words)) (bf:Int→Option (Words×Bool)):Prop where
  st:∀ x,cst c (if 0≤x then cs'.getD x.toNat caZ else caZ) line=if x=i then st line else (maV c s line).st x
  wd:∀ x,cst c (if 0≤x then cs'.getD x.toNat caZ else caZ) line≠0→cwd c (if 0≤x then cs'.getD x.toNat caZ else caZ) line=if x=i then wd line else (maV c s line).wd x
  ms:∀ x,cms (if 0≤x then cs'.getD x.toNat caZ else caZ) line=if x=i then ms line else (maV c s line).ms x
  bf:∀ x,cbf (if 0≤x then cs'.getD x.toNat caZ else caZ) line=if x=i then bf line else (maV c s line).bf x
theorem mav_as {k':CaS} {st:Int→Int} {wd:Int→Words} {ms:Int→Option (AMs Words)} {bf:Int→Option (Words×Bool)} (h0:0≤i) (h1:i<s.cs.length) (ev:CaEv c (maA s i) k' st wd ms bf):MavAs c s line i (maAs s i k').cs st wd ms bf:=by
  have hc:=fun x=>ca_as (s:=s) (k:=k') h0 h1 x
  unfold maCa maA at hc
  refine ⟨fun x=>?_,fun x=>?_,fun x=>?_,fun x=>?_⟩
  all_goals
    rw [hc]
    by_cases hx:x=i
    · rw [if_pos hx,if_pos hx]
      first|exact ev.st line|exact ev.wd line|exact ev.ms line|exact ev.bf line
    · rw [if_neg hx,if_neg hx]
      first|rfl|exact fun _=>rfl
theorem cs_rng (h:MaL c n s) (hi:0≤i∧i<c.cores):i<s.cs.length:=by have:=h.la;omega
theorem nn0 (h:MaL c n s) (hr:nleft c s.n 0≠0):0<nleft c s.n 0:=by have:=left_nn h (k:=0) rfl;omega
theorem lis_ask {L kind:Int} (h:LIs c s) (hl:MaL c n s) (hi:0≤i∧i<c.cores) (hr:nleft c s.n 0≠0) (he:caAskE c (maA s i) L kind=0):LIs c (maSend c (maAs s i (caAskK c (maA s i) L kind)) (caAskM c i (maA s i) L kind)):=by
  intro line hline
  obtain ⟨ev,m0,b0,hkd⟩:=ev_ask (hl.cai i) he
  obtain ⟨g1,g2⟩:=ask_line he
  have hM:caAskM c i (maA s i) L kind=homeMsg c i kind L .zero:=by unfold caAskM;rw [if_pos he]
  have hk0:netK (homeMsg c i kind L .zero).kind=0:=by show netK kind=0;unfold netK;rw [if_pos (by omega)]
  have hmay:MayP c (homeMsg c i kind L .zero):=home_may g1 hi (.inl ⟨by omega,rfl⟩)
  have hroom:0<nleft c s.n (netK (homeMsg c i kind L .zero).kind):=by rw [hk0];exact nn0 hl hr
  have hv:=mav_as (line:=line) hi.1 (cs_rng hl hi) ev
  have hq:=vrq_send (line:=line) (q:=(maHo c s line).q) hmay hroom
  have hf:=vfly_send (line:=line) (q:=(maHo c s line).q) hmay hroom
  rw [if_neg (by rw [hk0];omega)] at hf
  rw [hM]
  have hA:amM (homeMsg c i kind L .zero)= .get kind i:=by rcases g2 with rfl|rfl<;>rfl
  obtain ⟨hLI,hNF⟩:=h line hline
  by_cases hL:L=line
  · subst hL
    rw [if_pos ⟨rfl,hk0⟩,hA] at hq
    refine ⟨li_ask (r:=i) (k:=kind) (z:= .zero) hLI hi.1 (by show cms (maCa s i) L=none;rw [ca_at hi.1];exact m0) (by show cbf (maCa s i) L=none;rw [ca_at hi.1];exact b0) (by show (kind=1∧cst c (maCa s i) L=0)∨(kind=2∧cst c (maCa s i) L≠2∧cst c (maCa s i) L≠4);rw [ca_at hi.1];exact hkd)
      (fun x=>?_) (fun x hx=>?_) (fun x=>?_) (fun x=>?_) hq hf rfl rfl (fun _=>rfl) rfl rfl,fun r m hm hn=>?_⟩
    · refine (hv.st x).trans ?_
      by_cases hx:x=i
      · rw [if_pos hx,hx];show _=cst c (maCa s i) L;rw [ca_at hi.1]
      · rw [if_neg hx]
    · refine (hv.wd x hx).trans ?_
      by_cases hx:x=i
      · rw [if_pos hx,hx];show _=cwd c (maCa s i) L;rw [ca_at hi.1]
      · rw [if_neg hx]
    · refine (hv.ms x).trans ?_
      by_cases hx:x=i
      · rw [if_pos hx,if_pos hx,if_pos rfl]
      · rw [if_neg hx,if_neg hx]
    · refine (hv.bf x).trans ?_
      by_cases hx:x=i
      · rw [if_pos hx,hx];show _=cbf (maCa s i) L;rw [ca_at hi.1]
      · rw [if_neg hx]
    · have e:=(hv.ms r).symm.trans hm
      by_cases hx:r=i
      · rw [if_pos hx,if_pos rfl] at e
        cases e
        cases hn
      · rw [if_neg hx] at e
        exact hNF r m e hn
  · rw [if_neg (fun g=>hL g.1)] at hq
    have hst:∀ x,(maV c (maSend c (maAs s i (caAskK c (maA s i) L kind)) (homeMsg c i kind L .zero)) line).ms x=(maV c s line).ms x:=fun x=>by
      refine (hv.ms x).trans ?_
      by_cases hx:x=i
      · rw [if_pos hx,hx,if_neg (Ne.symm hL)];show _=cms (maCa s i) line;rw [ca_at hi.1]
      · rw [if_neg hx]
    refine ⟨li_same hLI (fun x=>?_) (fun x hx=>?_) hst (fun x=>?_) hq hf rfl rfl (fun _=>rfl) rfl rfl,fun r m hm hn=>hNF r m (by rw [←hst];exact hm) hn⟩
    · refine (hv.st x).trans ?_
      by_cases hx:x=i
      · rw [if_pos hx,hx];show _=cst c (maCa s i) line;rw [ca_at hi.1]
      · rw [if_neg hx]
    · refine (hv.wd x hx).trans ?_
      by_cases hx:x=i
      · rw [if_pos hx,hx];show _=cwd c (maCa s i) line;rw [ca_at hi.1]
      · rw [if_neg hx]
    · refine (hv.bf x).trans ?_
      by_cases hx:x=i
      · rw [if_pos hx,hx];show _=cbf (maCa s i) line;rw [ca_at hi.1]
      · rw [if_neg hx]
structure EvPt (c:Cfg) (s s':MaS) (line i:Int) (A:Int) (B:Words) (M:Option (AMs Words)) (E:Option (Words×Bool)):Prop where
  st:∀ x,(maV c s' line).st x=if x=i then A else (maV c s line).st x
  wd:∀ x,(maV c s' line).st x≠0→(maV c s' line).wd x=if x=i then B else (maV c s line).wd x
  ms:∀ x,(maV c s' line).ms x=if x=i then M else (maV c s line).ms x
  bf:∀ x,(maV c s' line).bf x=if x=i then E else (maV c s line).bf x
theorem ev_pt {s':MaS} {k':CaS} {st:Int→Int} {wd:Int→Words} {ms:Int→Option (AMs Words)} {bf:Int→Option (Words×Bool)} (h0:0≤i) (h1:i<s.cs.length) (hcs:s'.cs=(maAs s i k').cs) (ev:CaEv c (maA s i) k' st wd ms bf) :
    EvPt c s s' line i (st line) (wd line) (ms line) (bf line):=by
  have hv:=mav_as (line:=line) h0 h1 ev
  rw [←hcs] at hv
  exact ⟨hv.st,hv.wd,hv.ms,hv.bf⟩
theorem v_i (h0:0≤i):(maV c s line).st i=cst c (maA s i) line∧(maV c s line).wd i=cwd c (maA s i) line∧(maV c s line).ms i=cms (maA s i) line∧(maV c s line).bf i=cbf (maA s i) line:=by
  show cst c (maCa s i) line=_∧cwd c (maCa s i) line=_∧cms (maCa s i) line=_∧cbf (maCa s i) line=_
  rw [ca_at h0];exact ⟨rfl,rfl,rfl,rfl⟩
theorem pt_same {α:Type} {f f':Int→α} {a:α} (h:∀ x,f' x=if x=i then a else f x) (e:a=f i) (x:Int):f' x=f x:=by
  rw [h x];split
  · rename_i g;rw [g,e]
  · rfl
theorem ev_same {s':MaS} (h0:0≤i) {A:Int} {B:Words} {M:Option (AMs Words)} {E:Option (Words×Bool)} (ev:EvPt c s s' line i A B M E) (hA:A=cst c (maA s i) line) (hB:B=cwd c (maA s i) line) (hM:M=cms (maA s i) line) (hE:E=cbf (maA s i) line)
    (hhs:s'.hs=s.hs) (hnow:lineWo c (trMs c s'.tr) line=lineWo c (trMs c s.tr) line) (hq:(maV c s' line).rq.Perm (maV c s line).rq) (hf:(maV c s' line).fly.Perm (maV c s line).fly) (h:LI (maV c s line)∧NF (maV c s line)):LI (maV c s' line)∧NF (maV c s' line):=by
  obtain ⟨v1,v2,v3,v4⟩:=v_i (c:=c) (s:=s) (line:=line) h0
  have hms:=pt_same ev.ms (hM.trans v3.symm)
  have hH:maHo c s' line=maHo c s line:=by unfold maHo maH;rw [hhs]
  refine ⟨li_same h.1 (pt_same ev.st (hA.trans v1.symm)) (fun x hx=>?_) hms (pt_same ev.bf (hE.trans v4.symm)) hq hf ?_ ?_ (fun x=>?_) ?_ hnow,fun r m hm hn=>h.2 r m (by rw [←hms];exact hm) hn⟩
  · refine (ev.wd x hx).trans ?_
    split
    · rename_i g;rw [g,v2,hB]
    · rfl
  · show actQ line (maHo c s' line).q=_;rw [hH];rfl
  · show (hmEnt (maHo c s' line) line).o=_;rw [hH];rfl
  · show shHas (hmEnt (maHo c s' line) line).s x=_;rw [hH];rfl
  · show lineWo c (maHo c s' line).ms line=_;rw [hH];rfl
theorem rq_send {m:Msg} (hm:MayP c m) (hr:0<nleft c s.n (netK m.kind)) {k':CaS}:(maV c (maSend c (maAs s i k') m) line).rq.Perm (if m.line=line∧netK m.kind=0 then amM m::(maV c s line).rq else (maV c s line).rq):=vrq_send hm hr
theorem fly_send {m:Msg} (hm:MayP c m) (hr:0<nleft c s.n (netK m.kind)) {k':CaS}:(maV c (maSend c (maAs s i k') m) line).fly.Perm (if m.line=line∧netK m.kind≠0 then amM m::(maV c s line).fly else (maV c s line).fly):=vfly_send hm hr
theorem lis_ev {sw w:Int} (h:LIs c s) (hl:MaL c n s) (hi:0≤i∧i<c.cores) (hr:nleft c s.n 0≠0) (he:caEvE c (maA s i) sw w=0) :
    LIs c (if caEvB c (maA s i) sw w then maSend c (maAs s i (caEvK c (maA s i) sw w)) (caEvM c i (maA s i) sw w) else maAs s i (caEvK c (maA s i) sw w)):=by
  obtain ⟨y,hy,y1,y2,y3,y4,ev⟩:=ev_ev (hl.cai i) he
  have hB:caEvB c (maA s i) sw w=decide (2≤y.st):=by
    unfold caEvB
    rw [←hy]
    exact decide_eq_decide.2 ⟨fun g=>g.2,fun g=>⟨he,g⟩⟩
  have hyl:okLine c y.line=true:=by rw [hy];exact way_ok (hl.cai i) (by rw [←hy];exact y3)
  have hyst:0≤y.st∧y.st≤4:=by rw [hy];exact (hl.cai i).1.2.1 _ (atW_mem (by rw [←hy];exact y3))
  intro line hline
  obtain ⟨v1,v2,v3,v4⟩:=v_i (c:=c) (s:=s) (line:=line) hi.1
  by_cases h2:2≤y.st
  · rw [hB,decide_eq_true h2,if_pos rfl]
    have hM:caEvM c i (maA s i) sw w=homeMsg c i 3 y.line y.words:=by unfold caEvM;rw [hB,decide_eq_true h2,if_pos rfl,←hy]
    rw [hM]
    have hmay:MayP c (homeMsg c i 3 y.line y.words):=home_may hyl hi (.inr ⟨rfl,by rw [hy];exact v_atW (hl.cai i).2.2.1 _ _⟩)
    have hroom:0<nleft c s.n (netK (homeMsg c i 3 y.line y.words).kind):=nn0 hl hr
    have hp:=ev_pt (c:=c) (s:=s) (s':=maSend c (maAs s i (caEvK c (maA s i) sw w)) (homeMsg c i 3 y.line y.words)) (line:=line) hi.1 (cs_rng hl hi) rfl ev
    have hq:=rq_send (i:=i) (line:=line) (k':=caEvK c (maA s i) sw w) hmay hroom
    have hf:=fly_send (i:=i) (line:=line) (k':=caEvK c (maA s i) sw w) hmay hroom
    rw [if_neg (fun g=>g.2 rfl)] at hf
    by_cases hL:y.line=line
    · subst hL
      rw [if_pos ⟨rfl,rfl⟩] at hq
      rw [if_pos rfl,if_pos ⟨rfl,h2⟩] at hp
      have hA:amM (homeMsg c i 3 y.line y.words)= .put i ((maV c s y.line).wd i):=by rw [v2,y2];rfl
      rw [hA] at hq
      have hms:=pt_same hp.ms (v3.symm)
      refine ⟨li_evictO (r:=i) (h _ hline).1 (by rw [v3];exact y4) (by rw [v1,y1];exact h2) hp.st (fun x hx=>?_) hms (fun x=>by rw [hp.bf x,v2,y2]) hq hf rfl rfl (fun _=>rfl) rfl rfl,fun r m hm hn=>(h _ hline).2 r m (by rw [←hms];exact hm) hn⟩
      refine (hp.wd x hx).trans ?_
      split
      · rename_i g;rw [g,v2]
      · rfl
    · rw [if_neg (fun g=>hL g.1)] at hq
      rw [if_neg (Ne.symm hL),if_neg (fun g=>hL g.1.symm)] at hp
      exact ev_same hi.1 hp rfl rfl rfl rfl rfl rfl hq hf (h _ hline)
  · rw [hB,decide_eq_false h2,if_neg (by simp)]
    have hp:=ev_pt (c:=c) (s:=s) (s':=maAs s i (caEvK c (maA s i) sw w)) (line:=line) hi.1 (cs_rng hl hi) rfl ev
    by_cases hL:y.line=line
    · subst hL
      rw [if_pos rfl,if_neg (fun g=>h2 g.2)] at hp
      have hms:=pt_same hp.ms (v3.symm)
      refine ⟨li_evictS (r:=i) (h _ hline).1 (by rw [v3];exact y4) (by rw [v1,y1];omega) hp.st (fun x hx=>?_) hms (pt_same hp.bf v4.symm) (List.Perm.refl _) (List.Perm.refl _) rfl rfl (fun _=>rfl) rfl rfl,fun r m hm hn=>(h _ hline).2 r m (by rw [←hms];exact hm) hn⟩
      refine (hp.wd x hx).trans ?_
      split
      · rename_i g;rw [g,v2]
      · rfl
    · rw [if_neg (Ne.symm hL),if_neg (fun g=>hL g.1.symm)] at hp
      exact ev_same hi.1 hp rfl rfl rfl rfl rfl rfl (List.Perm.refl _) (List.Perm.refl _) (h _ hline)
theorem lis_fin (h:LIs c s) (hl:MaL c n s) (hi:0≤i∧i<c.cores) (hr:0<nleft c s.n 2) (hb:caFinB (maA s i)=true):LIs c (maSend c (maAs s i (caFinK c (maA s i))) (caFinM c i (maA s i))):=by
  obtain ⟨⟨m,hm,how⟩,ev⟩:=ev_fin (hl.cai i) hb
  have hM:caFinM c i (maA s i)=homeMsg c i 11 (caFinL (maA s i)) .zero:=by unfold caFinM;rw [if_pos hb]
  have hL0:=fin_ok (hl.cai i) hb
  rw [hM]
  generalize caFinL (maA s i)=L at *
  have hmay:MayP c (homeMsg c i 11 L .zero):=home_may hL0 hi (.inl ⟨by omega,rfl⟩)
  have hroom:0<nleft c s.n (netK (homeMsg c i 11 L .zero).kind):=hr
  intro line hline
  obtain ⟨v1,v2,v3,v4⟩:=v_i (c:=c) (s:=s) (line:=line) hi.1
  have hp:=ev_pt (c:=c) (s:=s) (s':=maSend c (maAs s i (caFinK c (maA s i))) (homeMsg c i 11 L .zero)) (line:=line) hi.1 (cs_rng hl hi) rfl ev
  have hq:=rq_send (i:=i) (line:=line) (k':=caFinK c (maA s i)) hmay hroom
  have hf:=fly_send (i:=i) (line:=line) (k':=caFinK c (maA s i)) hmay hroom
  rw [if_neg (fun g=>by cases g.2)] at hq
  by_cases hL:L=line
  · subst hL
    rw [if_pos ⟨rfl,by show (2:Int)≠0;decide⟩] at hf
    rw [if_pos rfl] at hp
    refine ⟨li_fin (r:=i) (m:=m) (h _ hline).1 (by rw [v3];exact hm) how (pt_same hp.st v1.symm) (fun x hx=>?_) hp.ms (pt_same hp.bf v4.symm) hq hf rfl rfl (fun _=>rfl) rfl rfl,fun r m' hm' hn=>?_⟩
    · refine (hp.wd x hx).trans ?_
      split
      · rename_i g;rw [g,v2]
      · rfl
    · have e:=(hp.ms r).symm.trans hm'
      by_cases hx:r=i
      · rw [if_pos hx] at e;cases e
      · rw [if_neg hx] at e;exact (h _ hline).2 r m' e hn
  · rw [if_neg (fun g=>hL g.1)] at hf
    rw [if_neg (Ne.symm hL)] at hp
    exact ev_same hi.1 hp rfl rfl rfl rfl rfl rfl hq hf (h _ hline)
theorem trMs_app (l:List Com) (x:Com):trMs c (l++[x])=memDoL (trMs c l) x.op:=by
  unfold trMs;rw [List.foldl_append];rfl
theorem trMs_len' (hc:checkB c=true) (l:List Com):((trMs c l).length:Int)=c.words*c.lines:=by
  rw [trMs_len]
  have hb:=cfg_bnd hc
  have h0:0≤c.words*c.lines:=by
    have hw:=check_words hc
    simp only [checkB,fitsB,Bool.and_eq_true,decide_eq_true_eq] at hc
    exact Int.mul_nonneg (by omega) (by omega)
  omega
theorem lis_do {x:Op3} (h:LIs c s) (hl:MaL c n s) (hi:0≤i∧i<c.cores) (he:caDoE c (maA s i) x=0) :
    LIs c (maCom (maAs s i (caDoK c (maA s i) x)) i x (caDoV c (maA s i) x))∧memDoE (trMs c s.tr) x=0∧memDoV (trMs c s.tr) x=caDoV c (maA s i) x:=by
  have hn:=trMs_len' hl.ok s.tr
  have hV:caDoV c (maA s i) x=apV c (cwd c (maA s i) (addrL c x.addr)) x:=by unfold caDoV;rw [if_pos he];rfl
  have hnow:∀ line,(maV c (maCom (maAs s i (caDoK c (maA s i) x)) i x (caDoV c (maA s i) x)) line).now=lineWo c (memDoL (trMs c s.tr) x) line:=fun line=>by
    show lineWo c (trMs c (s.tr++[⟨i,_,x,_⟩])) line=_
    rw [trMs_app]
  have hcase:=ev_do (hl.cai i) he
  have hap:apE c x=0:=by
    rcases hcase with g|g
    · exact g.2.2.2
    · exact g.2.2.1
  have hok:apOk c x=true:=Decidable.byContradiction fun e=>by unfold apE at hap;rw [if_neg e] at hap;cases hap
  obtain ⟨hj,hdo,_,_,_,_,_,_,hvv⟩:=apply_same hn hok
  have hlok:okLine c (addrL c x.addr)=true:=by
    simp only [okJoin,Bool.and_eq_true,decide_eq_true_eq] at hj
    unfold okLine
    rw [hj.1,decide_eq_true ⟨hj.2.1,hj.2.2.1⟩];rfl
  have hst:cst c (maA s i) (addrL c x.addr)≠0:=by
    rcases hcase with g|g
    · exact g.2.2.1
    · have:=g.2.1;omega
  obtain ⟨w1,w2,_,_⟩:=v_i (c:=c) (s:=s) (line:=addrL c x.addr) hi.1
  have hw:cwd c (maA s i) (addrL c x.addr)=lineWo c (trMs c s.tr) (addrL c x.addr):=by
    have:=(h _ hlok).1.wn i (by rw [w1];exact hst)
    rw [w2] at this;exact this
  refine ⟨?_,by unfold memDoE;rw [if_pos hdo],by rw [hV,hw,hvv]⟩
  intro line hline
  obtain ⟨v1,v2,v3,v4⟩:=v_i (c:=c) (s:=s) (line:=line) hi.1
  rcases hcase with ⟨k1,k2,_,_⟩|⟨k1,k2,_,ev⟩
  · have hs:maAs s i (caDoK c (maA s i) x)=s:=by rw [k2,as_same]
    have hN:(maV c (maCom (maAs s i (caDoK c (maA s i) x)) i x (caDoV c (maA s i) x)) line).now=(maV c s line).now:=by
      rw [hnow,line_do hn hap,ap_load hap k1]
      show (if _ then _ else _)=lineWo c (trMs c s.tr) line
      split<;>rfl
    rw [hs] at hN ⊢
    exact ⟨li_same (h _ hline).1 (fun _=>rfl) (fun _ _=>rfl) (fun _=>rfl) (fun _=>rfl) (List.Perm.refl _) (List.Perm.refl _) rfl rfl (fun _=>rfl) rfl hN,(h _ hline).2⟩
  · have hp:=ev_pt (c:=c) (s:=s) (s':=maCom (maAs s i (caDoK c (maA s i) x)) i x (caDoV c (maA s i) x)) (line:=line) hi.1 (cs_rng hl hi) rfl ev
    by_cases hL:line=addrL c x.addr
    · rw [if_pos hL,if_pos hL] at hp
      have hms:=pt_same hp.ms v3.symm
      refine ⟨li_store (r:=i) (w:=apW c (cwd c (maA s i) (addrL c x.addr)) x) (h _ hline).1 hi.1 (by rw [v1,hL];exact k2) hp.st hp.wd hms (pt_same hp.bf v4.symm) (List.Perm.refl _) (List.Perm.refl _) rfl rfl (fun _=>rfl) rfl ?_,fun r m hm hn'=>(h _ hline).2 r m (by rw [←hms];exact hm) hn'⟩
      rw [hnow,line_do hn hap,if_pos hL,hw,hL]
    · rw [if_neg hL,if_neg hL] at hp
      refine ev_same hi.1 hp rfl rfl rfl rfl rfl ?_ (List.Perm.refl _) (List.Perm.refl _) (h _ hline)
      have:=hnow line
      rw [line_do hn hap,if_neg hL] at this
      exact this
end
end Go.Sx

/- What cores do keeps each line's protocol; and what is told is what the memory behind the trace tells. My own work. -/
namespace Go.Sx
open Go Go.Proofs
def TrV (c:Cfg) (l:List Com):Prop:=∀ j x,l[j]? =some x→memDoE (trMs c (l.take j)) x.op=0∧memDoV (trMs c (l.take j)) x.op=x.res
section
variable {c:Cfg} {n:Nat} {s:MaS} {i:Int}
theorem trv_app {l:List Com} {x:Com} (h:TrV c l) (h1:memDoE (trMs c l) x.op=0) (h2:memDoV (trMs c l) x.op=x.res):TrV c (l++[x]):=by
  intro j y hy
  by_cases hj:j<l.length
  · rw [List.getElem?_append_left hj] at hy
    rw [List.take_append_of_le_length (by omega)]
    exact h j y hy
  · have hj2:j=l.length:=by
      have:=(List.getElem?_eq_some_iff.1 hy).1
      rw [List.length_append] at this
      simp at this;omega
    subst hj2
    rw [List.getElem?_append_right (Nat.le_refl _)] at hy
    simp at hy
    subst hy
    rw [List.take_append_of_le_length (Nat.le_refl _),List.take_length]
    exact ⟨h1,h2⟩
def LT (c:Cfg) (s:MaS):Prop:=LIs c s∧TrV c s.tr
theorem lt_ask {L kind:Int} (h:LT c s) (hl:MaL c n s) (hi:0≤i∧i<c.cores) (hr:nleft c s.n 0≠0) (he:caAskE c (maA s i) L kind=0):LT c (maSend c (maAs s i (caAskK c (maA s i) L kind)) (caAskM c i (maA s i) L kind)):=⟨lis_ask h.1 hl hi hr he,h.2⟩
theorem lt_does {x:Op3} (h:LT c s) (hl:MaL c n s) (hi:0≤i∧i<c.cores):LT c (maDoes c s i x):=by
  unfold maDoes
  split
  · rename_i hb
    have he:caDoE c (maA s i) x=0:=of_decide_eq_true hb
    obtain ⟨g1,g2,g3⟩:=lis_do h.1 hl hi he
    exact ⟨g1,trv_app h.2 g2 g3⟩
  · exact h
theorem lt_end {x:Op3} (h:LT c s) (hl:MaL c n s) (hi:0≤i∧i<c.cores) (hk:x.kind=4) (hm:mayB x=true) (ha:x.addr<sizeOf' c):LT c (maCom s i x 0):=by
  have hms:∀ ms,memDoL ms x=ms:=fun ms=>by
    unfold memDoL
    split<;>first|rfl|exact if_pos hk
  have hn:=trMs_len' hl.ok s.tr
  have hdo:doOk (trMs c s.tr) x=true:=by
    unfold doOk
    rw [hm,Bool.true_and]
    refine decide_eq_true ?_
    have h0:x.addr=0:=by
      unfold mayB at hm
      rw [if_pos hk] at hm
      simp only [Bool.and_eq_true,decide_eq_true_eq] at hm
      exact hm.1
    have hw:=check_words hl.ok
    have hb:=hl.ok
    simp only [checkB,fitsB,Bool.and_eq_true,decide_eq_true_eq] at hb
    have:0<c.words*c.lines:=Int.mul_pos (by omega) (by omega)
    omega
  refine ⟨fun line hline=>?_,trv_app h.2 (by unfold memDoE;rw [if_pos hdo]) (by show memDoV (trMs c s.tr) x=0;unfold memDoV;rw [if_pos hdo,if_pos hk])⟩
  have hN:(maV c (maCom s i x 0) line).now=(maV c s line).now:=by
    show lineWo c (trMs c (s.tr++[⟨i,_,x,_⟩])) line=_
    rw [trMs_app]
    show lineWo c (memDoL (trMs c s.tr) x) line=_
    rw [hms];rfl
  exact ⟨li_same (h.1 line hline).1 (fun _=>rfl) (fun _ _=>rfl) (fun _=>rfl) (fun _=>rfl) (List.Perm.refl _) (List.Perm.refl _) rfl rfl (fun _=>rfl) rfl hN,(h.1 line hline).2⟩
theorem lt_ev {x:Op3} {w:Int} (h:LT c s) (hl:MaL c n s) (hi:0≤i∧i<c.cores) (hr:nleft c s.n 0≠0):LT c (maEv c s i x w):=by
  unfold maEv
  by_cases he:caEvE c (maA s i) (maEvS c x) w=0
  · have:=lis_ev h.1 hl hi hr he
    refine ⟨this,?_⟩
    split<;>exact h.2
  · have hb:caEvB c (maA s i) (maEvS c x) w=false:=by unfold caEvB;exact decide_eq_false (fun g=>he g.1)
    have hk:caEvK c (maA s i) (maEvS c x) w=maA s i:=by unfold caEvK;rw [if_neg he]
    rw [hb,hk,as_same];exact h
theorem op_ok (h:MaL c n s) (hh:coHas (maK s i)=true):mayB (coOp (maK s i))=true∧(coOp (maK s i)).addr<sizeOf' c:=by
  by_cases hi:i.toNat<s.ks.length
  · have e:maK s i=s.ks[i.toNat]:=by unfold maK;rw [List.getD_eq_getElem?_getD,List.getElem?_eq_getElem hi];rfl
    have hk:=h.kp _ (List.getElem_mem hi)
    rw [←e] at hk
    have hlt:(maK s i).rs.length≠(maK s i).l.length:=by simpa [coHas,headB] using hh
    have hl:(maK s i).rs.length<(maK s i).l.length:=by omega
    have hm:coOp (maK s i)∈(maK s i).l:=by
      unfold coOp headO
      rw [List.getD_eq_getElem?_getD,List.getElem?_eq_getElem hl]
      exact List.getElem_mem hl
    have:=hk.1
    unfold progB at this
    simp only [Bool.and_eq_true,List.all_eq_true,decide_eq_true_eq] at this
    exact this.1.1 _ hm
  · have e:maK s i=coZ:=by unfold maK;rw [List.getD_eq_getElem?_getD,List.getElem?_eq_none (by omega)];rfl
    rw [e] at hh;cases hh
theorem lt_act {w:Int} (h:LT c s) (hl:MaL c n s) (hi:0≤i∧i<c.cores):LT c (maActS c s i w):=by
  unfold maActS
  split
  · rename_i g
    exact ⟨lis_fin h.1 hl hi g.1 g.2,h.2⟩
  · split
    · exact h
    · rename_i hh
      have hh:coHas (maK s i)=true:=by simpa using hh
      split
      · rename_i h4
        split
        · exact lt_end h hl hi h4 (op_ok hl hh).1 (op_ok hl hh).2
        · exact h
      · split
        · exact lt_does h hl hi
        · split
          · exact h
          · rename_i hr
            split
            · rename_i he
              exact lt_ask h hl hi hr he
            · split
              · exact lt_ev h hl hi hr
              · exact h
theorem lt_look {d:Int} (h:LT c s) (hl:MaL c n s) (hi:0≤i∧i<c.cores):LT c (maLookS c s i d):=by
  unfold maLookS
  split
  · exact h
  · rename_i g
    split
    · rename_i he
      have hK:LT c (maKs s i (coTry (maK s i) d)):=h
      have hM:MaL c n (maKs s i (coTry (maK s i) d)):=by
        by_cases hi':i.toNat<s.ks.length
        · have e:maK s i=s.ks[i.toNat]:=by unfold maK;rw [List.getD_eq_getElem?_getD,List.getElem?_eq_getElem hi'];rfl
          have hk:=hl.kp _ (List.getElem_mem hi')
          rw [←e] at hk
          exact hl.setK hk
        · have:maKs s i (coTry (maK s i) d)=s:=by unfold maKs;rw [List.set_eq_of_length_le (by omega)]
          rw [this];exact hl
      exact lt_ask hK hM hi (fun e=>g (.inr e)) he
    · exact h
end
end Go.Sx

/- One line of a machine: its steps, 4. Written by a program of mine (pro/genpro.py). -/
namespace Go.Sx
section
variable {W:Type}
theorem li_put1 {v v':LV W} (h:LI v) {r:Int} {w:W} (ha:v.act=none) (hO:v.o=r)
    (hst:∀ x,v'.st x=v.st x) (hwd:∀ x,v'.st x≠0→v'.wd x=v.wd x) (hms:∀ x,v'.ms x=v.ms x) (hbf:∀ x,v'.bf x=v.bf x) {Rq:List (AM W)} (hrq0:v.rq.Perm (.put r w::Rq)) (hrq:v'.rq.Perm Rq) (hfly:v'.fly.Perm (.pack r::v.fly)) (hact:v'.act=v.act) (ho:v'.o= -1) (hsh:∀ x,v'.sh x=v.sh x) (hmem:v'.mem=w) (hnow:v'.now=v.now):LI v':=by
  obtain ⟨qm0,cg0,cp0⟩:=rq_a hrq0
  obtain ⟨qm,cg,cp⟩:=rq_d hrq
  obtain ⟨fm,ck,ct,ci,cd⟩:=fly_b hfly
  have hna:∀ k r,v.act≠some (k,r):=fun k r e=>by rw [ha] at e;cases e
  have hnb:=rest_busy ha
  obtain ⟨hfr,hct,hci,hcd⟩:=rest_fly h ha
  have hfk:=h.f0 ha
  have hnb':=rest_busy (v:=v') (by rw [hact];exact ha)
  obtain ⟨l,hb⟩:=h.bw r w ((qm0 _).2 (.inl rfl))
  obtain ⟨b1,b2,b3⟩:=h.b1 r w l hb
  have hrg:=h.rg r
  have hh:=rest_own h ha (by grind)
  have hw:w=v.now:=by unfold LV.holds at hh;rw [hO] at hh;have:=h.bl r w;grind
  constructor
  case rqk=>intro x hx;have:=h.rqk x;exact zqE
  case g0=>intro r1 h1;have:=h.g0 r1;exact zqE
  case g1=>intro r1 m1 h1 h2;have:=h.g1 r1 m1;exact zqE
  case gk=>intro k1 r1 h1;have:=h.gk k1 r1;exact zqE
  case gA=>intro r1 h1;have:=h.gA r1;exact zqE
  case aK=>intro k1 r1 h1;have:=h.aK k1 r1;exact zqE
  case mK=>intro r1 m1 h1;have:=h.mK r1 m1;exact zqE
  case ml=>intro r1 m1 h1 h2;have:=h.ml r1 m1;exact zqE
  case b0=>intro r1 h1;have:=h.b0 r1;exact zqE
  case b1=>intro r1 w1 l1 h1;have:=h.b1 r1 w1 l1;exact zqE
  case bw=>intro r1 w1 h1;have:=h.bw r1 w1;exact zqE
  case bl=>intro r1 w1 h1 h2;have:=h.bl r1 w1;exact zqE
  case f0=>intro h1 x hx;have:=h.f0;exact zqE
  case f1=>intro r1 h1 x hx;have:=h.f1 r1;exact zqE
  case f2=>intro r1 h1 x hx;have:=h.f2 r1;exact zqE
  case p=>intro k1 r1 h1;have:=h.p k1 r1;exact zqE
  case a2=>intro r1 h1;have:=h.a2 r1;exact zqE
  case tf=>intro k1 o1 r1 n1 h1;have:=h.tf k1 o1 r1 n1;exact zqE
  case td=>intro r1 own1 n1 w1 h1;have:=h.td r1 own1 n1 w1;exact zqE
  case tg=>intro r1 n1 h1;have:=h.tg r1 n1;exact zqE
  case iv=>intro c1 r1 h1;have:=h.iv c1 r1;exact zqE
  case e=>intro c1 h1;have:=h.e c1;exact zqE
  case h=>intro h1;have:=h.h;exact zqE
  case s=>intro c1 h1 c2 h2;have:=h.s c1;exact zqE
  case wn=>intro c1 h1;have:=h.wn c1;exact zqE
  case mn=>intro h1;have:=h.mn;exact zqE
  case k=>intro c1 h1;have:=h.k c1;exact zqE
  case r=>intro c1;have:=h.r c1;exact zqE
  case rg=>intro c1 h1;have:=h.rg c1;exact zqE
theorem li_put2 {v v':LV W} (h:LI v) {r:Int} {w:W} (ha:v.act=none) (hO:v.o≠r)
    (hst:∀ x,v'.st x=v.st x) (hwd:∀ x,v'.st x≠0→v'.wd x=v.wd x) (hms:∀ x,v'.ms x=v.ms x) (hbf:∀ x,v'.bf x=v.bf x) {Rq:List (AM W)} (hrq0:v.rq.Perm (.put r w::Rq)) (hrq:v'.rq.Perm Rq) (hfly:v'.fly.Perm (.pack r::v.fly)) (hact:v'.act=v.act) (ho:v'.o=v.o) (hsh:∀ x,v'.sh x=v.sh x) (hmem:v'.mem=v.mem) (hnow:v'.now=v.now):LI v':=by
  obtain ⟨qm0,cg0,cp0⟩:=rq_a hrq0
  obtain ⟨qm,cg,cp⟩:=rq_d hrq
  obtain ⟨fm,ck,ct,ci,cd⟩:=fly_b hfly
  have hna:∀ k r,v.act≠some (k,r):=fun k r e=>by rw [ha] at e;cases e
  have hnb:=rest_busy ha
  obtain ⟨hfr,hct,hci,hcd⟩:=rest_fly h ha
  have hfk:=h.f0 ha
  have hnb':=rest_busy (v:=v') (by rw [hact];exact ha)
  obtain ⟨l,hb⟩:=h.bw r w ((qm0 _).2 (.inl rfl))
  obtain ⟨b1,b2,b3⟩:=h.b1 r w l hb
  have hrg:=h.rg r
  have hho:∀ x,x≠r→(v.holds x↔v'.holds x):=fun x hx=>by unfold LV.holds;rw [hst,hbf,cp,cp0];grind [isPut]
  constructor
  case rqk=>intro x hx;have:=h.rqk x;exact zqE
  case g0=>intro r1 h1;have:=h.g0 r1;exact zqE
  case g1=>intro r1 m1 h1 h2;have:=h.g1 r1 m1;exact zqE
  case gk=>intro k1 r1 h1;have:=h.gk k1 r1;exact zqE
  case gA=>intro r1 h1;have:=h.gA r1;exact zqE
  case aK=>intro k1 r1 h1;have:=h.aK k1 r1;exact zqE
  case mK=>intro r1 m1 h1;have:=h.mK r1 m1;exact zqE
  case ml=>intro r1 m1 h1 h2;have:=h.ml r1 m1;exact zqE
  case b0=>intro r1 h1;have:=h.b0 r1;exact zqE
  case b1=>intro r1 w1 l1 h1;have:=h.b1 r1 w1 l1;exact zqE
  case bw=>intro r1 w1 h1;have:=h.bw r1 w1;exact zqE
  case bl=>intro r1 w1 h1 h2;have:=h.bl r1 w1;exact zqE
  case f0=>intro h1 x hx;have:=h.f0;exact zqE
  case f1=>intro r1 h1 x hx;have:=h.f1 r1;exact zqE
  case f2=>intro r1 h1 x hx;have:=h.f2 r1;exact zqE
  case p=>intro k1 r1 h1;have:=h.p k1 r1;exact zqE
  case a2=>intro r1 h1;have:=h.a2 r1;exact zqE
  case tf=>intro k1 o1 r1 n1 h1;have:=h.tf k1 o1 r1 n1;exact zqE
  case td=>intro r1 own1 n1 w1 h1;have:=h.td r1 own1 n1 w1;exact zqE
  case tg=>intro r1 n1 h1;have:=h.tg r1 n1;exact zqE
  case iv=>intro c1 r1 h1;have:=h.iv c1 r1;exact zqE
  case e=>intro c1 h1;have:=h.e c1;exact zqE
  case h=>intro h1;have:=h.h;exact zqE
  case s=>intro c1 h1 c2 h2;have:=h.s c1;exact zqE
  case wn=>intro c1 h1;have:=h.wn c1;exact zqE
  case mn=>intro h1;have:=h.mn;exact zqE
  case k=>intro c1 h1;have:=h.k c1;exact zqE
  case r=>intro c1;have:=h.r c1;exact zqE
  case rg=>intro c1 h1;have:=h.rg c1;exact zqE
theorem li_fwdS1 {v v':LV W} (h:LI v) {o r n:Int} (hs:2≤v.st o)
    (hst:∀ x,v'.st x=if x=o then 3 else v.st x) (hwd:∀ x,v'.st x≠0→v'.wd x=v.wd x) (hms:∀ x,v'.ms x=v.ms x) (hbf:∀ x,v'.bf x=v.bf x) (hrq:v'.rq.Perm v.rq) {Rf:List (AM W)} (hfly0:v.fly.Perm (.fwd 1 o r n::Rf)) (hfly:v'.fly.Perm (.data r 1 n (v.wd o)::Rf)) (hact:v'.act=v.act) (ho:v'.o=v.o) (hsh:∀ x,v'.sh x=v.sh x) (hmem:v'.mem=v.mem) (hnow:v'.now=v.now):LI v':=by
  obtain ⟨qm,cg,cp⟩:=rq_c hrq
  obtain ⟨fm,ck,ct,ci,cd⟩:=fly_a hfly
  obtain ⟨fm0,ck0,ct0,ci0,cd0⟩:=fly_a hfly0
  have hin:=(fm0 _).2 (.inl rfl)
  obtain ⟨k0,r0,m,hac,hr0,hm,hmk,hmn,hmo,hmg,hgot,hct,hcd,hn,hrr⟩:=tok_act h hin rfl
  simp only [tokR,tokN] at hrr hn
  subst hrr
  have hk0:k0=1:=by rcases (h.aK _ _ hac).1 with e|e<;>subst e<;>first|rfl|(exfalso;have f1:=h.f1 _ hac _ hin;grind)|(exfalso;have f2:=h.f2 _ hac _ hin;grind)
  subst hk0
  have hR:∀ x∈Rf,isTok x=false:=fun x hx=>by have:=List.countP_eq_zero.1 (by have:=ct0;simp only [isTok] at this;grind:Rf.countP isTok=0) x hx;simpa using this
  have hbu:∀ x,v'.busy x↔v.busy x:=fun x=>by unfold LV.busy;rw [hact];grind [isDone]
  have hmr:=h.ml r m hm hmo
  have hbn:v.bf r=none:=by cases e:v.bf r with|none=>rfl|some x=>(have:=(h.b1 r x.1 x.2 e).2.2;rw [hm] at this;cases this)
  have htf:=h.tf _ _ _ _ hin
  obtain ⟨t1,t2,t3,t4,t5⟩:=htf
  have hn0:n=0:=by have:=h.f1 _ hac _ hin;grind
  have hun:=fun d=>own_uni h (c:=o) (d:=d) hs
  have hw:=h.wn o (by omega)
  have hho:∀ x,v.holds x↔v'.holds x:=fun x=>by unfold LV.holds;rw [hst,hbf,cp];grind
  constructor
  case rqk=>intro x hx;have:=h.rqk x;exact zqE
  case g0=>intro r1 h1;have:=h.g0 r1;exact zqE
  case g1=>intro r1 m1 h1 h2;have:=h.g1 r1 m1;exact zqE
  case gk=>intro k1 r1 h1;have:=h.gk k1 r1;exact zqE
  case gA=>intro r1 h1;have:=h.gA r1;exact zqE
  case aK=>intro k1 r1 h1;have:=h.aK k1 r1;exact zqE
  case mK=>intro r1 m1 h1;have:=h.mK r1 m1;exact zqE
  case ml=>intro r1 m1 h1 h2;have:=h.ml r1 m1;exact zqE
  case b0=>intro r1 h1;have:=h.b0 r1;exact zqE
  case b1=>intro r1 w1 l1 h1;have:=h.b1 r1 w1 l1;exact zqE
  case bw=>intro r1 w1 h1;have:=h.bw r1 w1;exact zqE
  case bl=>intro r1 w1 h1 h2;have:=h.bl r1 w1;exact zqE
  case f0=>intro h1 x hx;have:=h.f0;exact zqE
  case f1=>intro r1 h1 x hx;have:=h.f1 r1;exact zqE
  case f2=>intro r1 h1 x hx;have:=h.f2 r1;exact zqE
  case p=>intro k1 r1 h1;have:=h.p k1 r1;exact zqE
  case a2=>intro r1 h1;have:=h.a2 r1;exact zqE
  case tf=>intro k1 o1 r1 n1 h1;have:=h.tf k1 o1 r1 n1;exact zqE
  case td=>intro r1 own1 n1 w1 h1;have:=h.td r1 own1 n1 w1;exact zqE
  case tg=>intro r1 n1 h1;have:=h.tg r1 n1;exact zqE
  case iv=>intro c1 r1 h1;have:=h.iv c1 r1;exact zqE
  case e=>intro c1 h1;have:=h.e c1;exact zqE
  case h=>intro h1;have:=h.h;exact zqE
  case s=>intro c1 h1 c2 h2;have:=h.s c1;exact zqE
  case wn=>intro c1 h1;have:=h.wn c1;exact zqE
  case mn=>intro h1;have:=h.mn;exact zqE
  case k=>intro c1 h1;have:=h.k c1;exact zqE
  case r=>intro c1;have:=h.r c1;exact zqE
  case rg=>intro c1 h1;have:=h.rg c1;exact zqE
theorem li_fwdS2 {v v':LV W} (h:LI v) {o r n:Int} {w:W} (hs:v.st o<2) (hb:v.bf o=some (w,true))
    (hst:∀ x,v'.st x=v.st x) (hwd:∀ x,v'.st x≠0→v'.wd x=v.wd x) (hms:∀ x,v'.ms x=v.ms x) (hbf:∀ x,v'.bf x=v.bf x) (hrq:v'.rq.Perm v.rq) {Rf:List (AM W)} (hfly0:v.fly.Perm (.fwd 1 o r n::Rf)) (hfly:v'.fly.Perm (.data r 1 n w::Rf)) (hact:v'.act=v.act) (ho:v'.o=v.o) (hsh:∀ x,v'.sh x=v.sh x) (hmem:v'.mem=v.mem) (hnow:v'.now=v.now):LI v':=by
  obtain ⟨qm,cg,cp⟩:=rq_c hrq
  obtain ⟨fm,ck,ct,ci,cd⟩:=fly_a hfly
  obtain ⟨fm0,ck0,ct0,ci0,cd0⟩:=fly_a hfly0
  have hin:=(fm0 _).2 (.inl rfl)
  obtain ⟨k0,r0,m,hac,hr0,hm,hmk,hmn,hmo,hmg,hgot,hct,hcd,hn,hrr⟩:=tok_act h hin rfl
  simp only [tokR,tokN] at hrr hn
  subst hrr
  have hk0:k0=1:=by rcases (h.aK _ _ hac).1 with e|e<;>subst e<;>first|rfl|(exfalso;have f1:=h.f1 _ hac _ hin;grind)|(exfalso;have f2:=h.f2 _ hac _ hin;grind)
  subst hk0
  have hR:∀ x∈Rf,isTok x=false:=fun x hx=>by have:=List.countP_eq_zero.1 (by have:=ct0;simp only [isTok] at this;grind:Rf.countP isTok=0) x hx;simpa using this
  have hbu:∀ x,v'.busy x↔v.busy x:=fun x=>by unfold LV.busy;rw [hact];grind [isDone]
  have hmr:=h.ml r m hm hmo
  have hbn:v.bf r=none:=by cases e:v.bf r with|none=>rfl|some x=>(have:=(h.b1 r x.1 x.2 e).2.2;rw [hm] at this;cases this)
  have htf:=h.tf _ _ _ _ hin
  obtain ⟨t1,t2,t3,t4,t5⟩:=htf
  have hn0:n=0:=by have:=h.f1 _ hac _ hin;grind
  have hcp:v.cp o=1:=by unfold LV.holds at t3;grind
  have hw:=h.bl o w hb hcp
  have hun:=fun d (hd:2≤v.st d)=>own_uni h (c:=d) (d:=o) hd (.inr ⟨w,hb,hcp⟩)
  have hho:∀ x,v.holds x↔v'.holds x:=fun x=>by unfold LV.holds;rw [hst,hbf,cp]
  constructor
  case rqk=>intro x hx;have:=h.rqk x;exact zqE
  case g0=>intro r1 h1;have:=h.g0 r1;exact zqE
  case g1=>intro r1 m1 h1 h2;have:=h.g1 r1 m1;exact zqE
  case gk=>intro k1 r1 h1;have:=h.gk k1 r1;exact zqE
  case gA=>intro r1 h1;have:=h.gA r1;exact zqE
  case aK=>intro k1 r1 h1;have:=h.aK k1 r1;exact zqE
  case mK=>intro r1 m1 h1;have:=h.mK r1 m1;exact zqE
  case ml=>intro r1 m1 h1 h2;have:=h.ml r1 m1;exact zqE
  case b0=>intro r1 h1;have:=h.b0 r1;exact zqE
  case b1=>intro r1 w1 l1 h1;have:=h.b1 r1 w1 l1;exact zqE
  case bw=>intro r1 w1 h1;have:=h.bw r1 w1;exact zqE
  case bl=>intro r1 w1 h1 h2;have:=h.bl r1 w1;exact zqE
  case f0=>intro h1 x hx;have:=h.f0;exact zqE
  case f1=>intro r1 h1 x hx;have:=h.f1 r1;exact zqE
  case f2=>intro r1 h1 x hx;have:=h.f2 r1;exact zqE
  case p=>intro k1 r1 h1;have:=h.p k1 r1;exact zqE
  case a2=>intro r1 h1;have:=h.a2 r1;exact zqE
  case tf=>intro k1 o1 r1 n1 h1;have:=h.tf k1 o1 r1 n1;exact zqE
  case td=>intro r1 own1 n1 w1 h1;have:=h.td r1 own1 n1 w1;exact zqE
  case tg=>intro r1 n1 h1;have:=h.tg r1 n1;exact zqE
  case iv=>intro c1 r1 h1;have:=h.iv c1 r1;exact zqE
  case e=>intro c1 h1;have:=h.e c1;exact zqE
  case h=>intro h1;have:=h.h;exact zqE
  case s=>intro c1 h1 c2 h2;have:=h.s c1;exact zqE
  case wn=>intro c1 h1;have:=h.wn c1;exact zqE
  case mn=>intro h1;have:=h.mn;exact zqE
  case k=>intro c1 h1;have:=h.k c1;exact zqE
  case r=>intro c1;have:=h.r c1;exact zqE
  case rg=>intro c1 h1;have:=h.rg c1;exact zqE
end
end Go.Sx

/- One line of a machine: its steps, 5. Written by a program of mine (pro/genpro.py). -/
namespace Go.Sx
section
variable {W:Type}
theorem li_fwdM1 {v v':LV W} (h:LI v) {o r n:Int} (hs:2≤v.st o)
    (hst:∀ x,v'.st x=if x=o then 0 else v.st x) (hwd:∀ x,v'.st x≠0→v'.wd x=v.wd x) (hms:∀ x,v'.ms x=v.ms x) (hbf:∀ x,v'.bf x=v.bf x) (hrq:v'.rq.Perm v.rq) {Rf:List (AM W)} (hfly0:v.fly.Perm (.fwd 2 o r n::Rf)) (hfly:v'.fly.Perm (.data r 4 n (v.wd o)::Rf)) (hact:v'.act=v.act) (ho:v'.o=v.o) (hsh:∀ x,v'.sh x=v.sh x) (hmem:v'.mem=v.mem) (hnow:v'.now=v.now):LI v':=by
  obtain ⟨qm,cg,cp⟩:=rq_c hrq
  obtain ⟨fm,ck,ct,ci,cd⟩:=fly_a hfly
  obtain ⟨fm0,ck0,ct0,ci0,cd0⟩:=fly_a hfly0
  have hin:=(fm0 _).2 (.inl rfl)
  obtain ⟨k0,r0,m,hac,hr0,hm,hmk,hmn,hmo,hmg,hgot,hct,hcd,hn,hrr⟩:=tok_act h hin rfl
  simp only [tokR,tokN] at hrr hn
  subst hrr
  have hk0:k0=2:=by rcases (h.aK _ _ hac).1 with e|e<;>subst e<;>first|rfl|(exfalso;have f1:=h.f1 _ hac _ hin;grind)|(exfalso;have f2:=h.f2 _ hac _ hin;grind)
  subst hk0
  have hR:∀ x∈Rf,isTok x=false:=fun x hx=>by have:=List.countP_eq_zero.1 (by have:=ct0;simp only [isTok] at this;grind:Rf.countP isTok=0) x hx;simpa using this
  have hbu:∀ x,v'.busy x↔v.busy x:=fun x=>by unfold LV.busy;rw [hact];grind [isDone]
  have hmr:=h.ml r m hm hmo
  have hbn:v.bf r=none:=by cases e:v.bf r with|none=>rfl|some x=>(have:=(h.b1 r x.1 x.2 e).2.2;rw [hm] at this;cases this)
  have htf:=h.tf _ _ _ _ hin
  obtain ⟨t1,t2,t3,t4,t5⟩:=htf
  have hun:=fun d=>own_uni h (c:=o) (d:=d) hs
  have hw:=h.wn o (by omega)
  have hho:∀ x,x≠o→(v.holds x↔v'.holds x):=fun x hx=>by unfold LV.holds;rw [hst,hbf,cp];grind
  refine { bl:=?zbl}
  case zbl=>
    intro r1 w1 h1 h2
    have:=h.bl r1 w1
    have:=h.b1 r1 w1 true;exact zqE
theorem li_fwdM2 {v v':LV W} (h:LI v) {o r n:Int} {w:W} (hs:v.st o<2) (hb:v.bf o=some (w,true))
    (hst:∀ x,v'.st x=v.st x) (hwd:∀ x,v'.st x≠0→v'.wd x=v.wd x) (hms:∀ x,v'.ms x=v.ms x) (hbf:∀ x,v'.bf x=if x=o then some (w,false) else v.bf x) (hrq:v'.rq.Perm v.rq) {Rf:List (AM W)} (hfly0:v.fly.Perm (.fwd 2 o r n::Rf)) (hfly:v'.fly.Perm (.data r 4 n w::Rf)) (hact:v'.act=v.act) (ho:v'.o=v.o) (hsh:∀ x,v'.sh x=v.sh x) (hmem:v'.mem=v.mem) (hnow:v'.now=v.now):LI v':=by
  obtain ⟨qm,cg,cp⟩:=rq_c hrq
  obtain ⟨fm,ck,ct,ci,cd⟩:=fly_a hfly
  obtain ⟨fm0,ck0,ct0,ci0,cd0⟩:=fly_a hfly0
  have hin:=(fm0 _).2 (.inl rfl)
  obtain ⟨k0,r0,m,hac,hr0,hm,hmk,hmn,hmo,hmg,hgot,hct,hcd,hn,hrr⟩:=tok_act h hin rfl
  simp only [tokR,tokN] at hrr hn
  subst hrr
  have hk0:k0=2:=by rcases (h.aK _ _ hac).1 with e|e<;>subst e<;>first|rfl|(exfalso;have f1:=h.f1 _ hac _ hin;grind)|(exfalso;have f2:=h.f2 _ hac _ hin;grind)
  subst hk0
  have hR:∀ x∈Rf,isTok x=false:=fun x hx=>by have:=List.countP_eq_zero.1 (by have:=ct0;simp only [isTok] at this;grind:Rf.countP isTok=0) x hx;simpa using this
  have hbu:∀ x,v'.busy x↔v.busy x:=fun x=>by unfold LV.busy;rw [hact];grind [isDone]
  have hmr:=h.ml r m hm hmo
  have hbn:v.bf r=none:=by cases e:v.bf r with|none=>rfl|some x=>(have:=(h.b1 r x.1 x.2 e).2.2;rw [hm] at this;cases this)
  have htf:=h.tf _ _ _ _ hin
  obtain ⟨t1,t2,t3,t4,t5⟩:=htf
  have hcp:v.cp o=1:=by unfold LV.holds at t3;grind
  have hw:=h.bl o w hb hcp
  have hun:=fun d (hd:2≤v.st d)=>own_uni h (c:=d) (d:=o) hd (.inr ⟨w,hb,hcp⟩)
  have hho:∀ x,x≠o→(v.holds x↔v'.holds x):=fun x hx=>by unfold LV.holds;rw [hst,hbf,cp];grind
  refine { b1:=?zb1,k:=?zk}
  case zb1=>
    intro r1 w1 l1 h1
    have:=h.b1 r1 w1 l1
    have:=h.b1 r1 w1 true;exact zqE
  case zk=>
    intro c1 h1
    have:=h.k c1
    have:=h.b1 o w true hb;exact zqE
theorem li_inv1 {v v':LV W} (h:LI v) {c r:Int} (hs:v.st c=1)
    (hst:∀ x,v'.st x=if x=c then 0 else v.st x) (hwd:∀ x,v'.st x≠0→v'.wd x=v.wd x) (hms:∀ x,v'.ms x=v.ms x) (hbf:∀ x,v'.bf x=v.bf x) (hrq:v'.rq.Perm v.rq) {Rf:List (AM W)} (hfly0:v.fly.Perm (.inv c r::Rf)) (hfly:v'.fly.Perm (.ack r::Rf)) (hact:v'.act=v.act) (ho:v'.o=v.o) (hsh:∀ x,v'.sh x=v.sh x) (hmem:v'.mem=v.mem) (hnow:v'.now=v.now):LI v':=by
  obtain ⟨qm,cg,cp⟩:=rq_c hrq
  obtain ⟨fm,ck,ct,ci,cd⟩:=fly_a hfly
  obtain ⟨fm0,ck0,ct0,ci0,cd0⟩:=fly_a hfly0
  have hin:=(fm0 _).2 (.inl rfl)
  have hiv:=h.iv _ _ hin
  have hac:v.act=some (2,r):=by cases e:v.act with|none=>(have:=h.f0 e _ hin;grind)|some a=>(have:=h.aK a.1 a.2 e;have:=h.f1 a.2;have:=h.f2 a.2;grind)
  have hbu:∀ x,v'.busy x↔v.busy x:=fun x=>by unfold LV.busy;rw [hact];grind [isDone]
  have hho:∀ x,v.holds x↔v'.holds x:=fun x=>by unfold LV.holds;rw [hst,hbf,cp];grind
  constructor
  case rqk=>intro x hx;have:=h.rqk x;exact zqE
  case g0=>intro r1 h1;have:=h.g0 r1;exact zqE
  case g1=>intro r1 m1 h1 h2;have:=h.g1 r1 m1;exact zqE
  case gk=>intro k1 r1 h1;have:=h.gk k1 r1;exact zqE
  case gA=>intro r1 h1;have:=h.gA r1;exact zqE
  case aK=>intro k1 r1 h1;have:=h.aK k1 r1;exact zqE
  case mK=>intro r1 m1 h1;have:=h.mK r1 m1;exact zqE
  case ml=>intro r1 m1 h1 h2;have:=h.ml r1 m1;exact zqE
  case b0=>intro r1 h1;have:=h.b0 r1;exact zqE
  case b1=>intro r1 w1 l1 h1;have:=h.b1 r1 w1 l1;exact zqE
  case bw=>intro r1 w1 h1;have:=h.bw r1 w1;exact zqE
  case bl=>intro r1 w1 h1 h2;have:=h.bl r1 w1;exact zqE
  case f0=>intro h1 x hx;have:=h.f0;exact zqE
  case f1=>intro r1 h1 x hx;have:=h.f1 r1;exact zqE
  case f2=>intro r1 h1 x hx;have:=h.f2 r1;exact zqE
  case p=>intro k1 r1 h1;have:=h.p k1 r1;exact zqE
  case a2=>intro r1 h1;have:=h.a2 r1;exact zqE
  case tf=>intro k1 o1 r1 n1 h1;have:=h.tf k1 o1 r1 n1;exact zqE
  case td=>intro r1 own1 n1 w1 h1;have:=h.td r1 own1 n1 w1;exact zqE
  case tg=>intro r1 n1 h1;have:=h.tg r1 n1;exact zqE
  case iv=>intro c1 r1 h1;have:=h.iv c1 r1;exact zqE
  case e=>intro c1 h1;have:=h.e c1;exact zqE
  case h=>intro h1;have:=h.h;exact zqE
  case s=>intro c1 h1 c2 h2;have:=h.s c1;exact zqE
  case wn=>intro c1 h1;have:=h.wn c1;exact zqE
  case mn=>intro h1;have:=h.mn;exact zqE
  case k=>intro c1 h1;have:=h.k c1;exact zqE
  case r=>intro c1;have:=h.r c1;exact zqE
  case rg=>intro c1 h1;have:=h.rg c1;exact zqE
theorem li_inv2 {v v':LV W} (h:LI v) {c r:Int} (hs:v.st c≠1)
    (hst:∀ x,v'.st x=v.st x) (hwd:∀ x,v'.st x≠0→v'.wd x=v.wd x) (hms:∀ x,v'.ms x=v.ms x) (hbf:∀ x,v'.bf x=v.bf x) (hrq:v'.rq.Perm v.rq) {Rf:List (AM W)} (hfly0:v.fly.Perm (.inv c r::Rf)) (hfly:v'.fly.Perm (.ack r::Rf)) (hact:v'.act=v.act) (ho:v'.o=v.o) (hsh:∀ x,v'.sh x=v.sh x) (hmem:v'.mem=v.mem) (hnow:v'.now=v.now):LI v':=by
  obtain ⟨qm,cg,cp⟩:=rq_c hrq
  obtain ⟨fm,ck,ct,ci,cd⟩:=fly_a hfly
  obtain ⟨fm0,ck0,ct0,ci0,cd0⟩:=fly_a hfly0
  have hin:=(fm0 _).2 (.inl rfl)
  have hiv:=h.iv _ _ hin
  have hac:v.act=some (2,r):=by cases e:v.act with|none=>(have:=h.f0 e _ hin;grind)|some a=>(have:=h.aK a.1 a.2 e;have:=h.f1 a.2;have:=h.f2 a.2;grind)
  have hbu:∀ x,v'.busy x↔v.busy x:=fun x=>by unfold LV.busy;rw [hact];grind [isDone]
  have hho:∀ x,v.holds x↔v'.holds x:=fun x=>by unfold LV.holds;rw [hst,hbf,cp]
  refine { k:=?zk}
  case zk=>
    intro c1 h1
    have:=h.k c1
    have:=h.r c1;exact zqE
end
end Go.Sx

/- What caches make of messages keeps each line's protocol: forwards and invalidations. My own work. -/
namespace Go.Sx
open Go Go.Proofs
section
variable {c:Cfg} {n:Nat} {s:MaS} {line j k:Int}
theorem take_fr (hb:natB s.n k j=true) (hk:k=1∨k=2) :
    (maV c s line).rq.Perm (vrq line (ntakeN s.n k j) (maHo c s line).q)∧(maV c s line).fly.Perm (if (natM s.n k j).line=line then amM (natM s.n k j)::vfly line (ntakeN s.n k j) (maHo c s line).q else vfly line (ntakeN s.n k j) (maHo c s line).q):=by
  have hh:hasN k=true:=by unfold hasN;exact decide_eq_true (by omega)
  have h1:=vrq_take (line:=line) (q:=(maHo c s line).q) hb hh
  have h2:=vfly_take (line:=line) (q:=(maHo c s line).q) hb hh
  rw [if_neg (by omega)] at h1
  refine ⟨h1,?_⟩
  by_cases hl:(natM s.n k j).line=line
  · rw [if_pos hl];rw [if_pos ⟨hl,by omega⟩] at h2;exact h2
  · rw [if_neg hl];rw [if_neg (fun g=>hl g.1)] at h2;exact h2
theorem left_take:nleft c (ntakeN s.n 1 j) 2=nleft c s.n 2:=rfl
theorem fwd_facts {m:Msg} (hm:MayP c m) (hk:m.kind=4∨m.kind=5∨m.kind=6):(0≤m.dst∧m.dst<c.cores)∧(0≤m.who∧m.who<c.cores)∧m.who≠m.dst∧0≤m.acks∧m.acks<c.cores∧okLine c m.line=true:=by
  obtain ⟨g1,g2,g3,g4,g5⟩:=hm
  have hcb:=g1
  simp only [checkB,fitsB,Bool.and_eq_true,decide_eq_true_eq] at hcb
  have hl:okLine c m.line=true:=by unfold okLine;rw [g1,decide_eq_true g3];rfl
  unfold FormP at g4
  rw [if_neg (by unfold HomeP;omega)] at g4
  rcases hk with hk|hk|hk
  · rw [if_pos (.inl hk)] at g4
    obtain ⟨a1,a2,_,a3,_,_,a4,a5⟩:=g4
    exact ⟨a3,a1,a2,a4,by simp at a5;omega,hl⟩
  · rw [if_neg (by omega),if_pos hk] at g4
    obtain ⟨a1,a2,_,a3,_,_,a4,a5⟩:=g4
    exact ⟨a3,a1,a2,a4,by simpa using a5,hl⟩
  · rw [if_pos (.inr hk)] at g4
    obtain ⟨a1,a2,_,a3,_,_,a4,a5⟩:=g4
    exact ⟨a3,a1,a2,a4,by simp at a5;omega,hl⟩
theorem take_ok {m:Msg} (hm:MayP c m) (hk:4≤m.kind∧m.kind≤10):caTakeOk c m.dst m=true:=by
  unfold caTakeOk
  rw [decide_eq_true hm,decide_eq_false (by unfold HomeP;omega),decide_eq_true rfl];rfl
theorem lis_fwd {m:Msg} {kd st own:Int} {g:Bool} (h:LIs c s) (hl:MaL c n s) (hb:natB s.n 1 j=true) (h2:nleft c s.n 2≠0) (hm:natM s.n 1 j=m) (hk:(m.kind=4∧kd=1∧st=3∧own=1∧g=false)∨(m.kind=5∧kd=2∧st=0∧own=4∧g=true)) :
    caTakeE c m.dst (maA s m.dst) m=0∧LIs c (maTake c (maNs s (ntakeN s.n 1 j)) m):=by
  have hmay:=(hl.nt 1 _ (nat_mem hb)).1
  rw [hm] at hmay
  obtain ⟨hd,hw,hwd,ha0,ha1,hlok⟩:=fwd_facts hmay (by omega)
  obtain ⟨f1,f2⟩:=take_fr (c:=c) (line:=m.line) hb (.inl rfl)
  rw [hm,if_pos rfl] at f2
  have hA:amM m= .fwd kd m.dst m.who m.acks:=by
    unfold amM
    rcases hk with ⟨a,rfl,_⟩|⟨a,rfl,_⟩<;>rw [if_neg (by omega),if_neg (by omega)]
    · rw [if_pos a]
    · rw [if_neg (by omega),if_pos a]
  rw [hA] at f2
  obtain ⟨hLI,hNF⟩:=h _ hlok
  obtain ⟨v1,v2,v3,v4⟩:=v_i (c:=c) (s:=s) (line:=m.line) hd.1
  obtain ⟨_,_,hho,_,_⟩:=hLI.tf kd m.dst m.who m.acks (f2.mem_iff.2 (List.mem_cons_self ..))
  have hT:caTellE c (maA s m.dst) m.line=0:=by
    unfold caTellE
    by_cases h2':2≤(findW c (maA s m.dst).ways m.line).st
    · rw [if_pos h2']
    · rw [if_neg h2']
      rcases hho with g1|⟨w,g1,_⟩
      · rw [v1] at g1;exact absurd g1 h2'
      · rw [v4] at g1
        unfold cbf at g1
        cases e:fk bln (maA s m.dst).buf m.line with
        |none=>rw [e] at g1;cases g1
        |some x=>
         rw [e] at g1
         obtain ⟨b1,b2⟩:=wb_in e
         have b3:x.live=true:=by simp at g1;exact g1.2
         unfold wbTellE
         rw [if_pos b1,b2,if_pos b3,if_pos rfl]
  have hok:=take_ok hmay (by omega)
  have hE:caTakeE c m.dst (maA s m.dst) m=0:=by unfold caTakeE;rw [if_pos hok,if_pos (by omega),hT]
  have hK:caTakeK c m.dst (maA s m.dst) m=caTellK c (maA s m.dst) m.line st g:=by
    unfold caTakeK
    rw [if_pos hok]
    rcases hk with ⟨a,_,rfl,_,rfl⟩|⟨a,_,rfl,_,rfl⟩
    · rw [if_pos a]
    · rw [if_neg (by omega),if_pos a]
  have hM:caTakeM c m.dst (maA s m.dst) m=⟨7,m.line,m.dst,m.who,1,m.acks,own,caTellW c (maA s m.dst) m.line⟩:=by
    unfold caTakeM caTellM
    rw [if_pos hok,if_pos hT,if_pos hT]
    rcases hk with ⟨a,_,_,rfl,_⟩|⟨a,_,_,rfl,_⟩
    · rw [if_pos a]
    · rw [if_neg (by omega),if_pos a]
  have hB:caTakeB c m.dst (maA s m.dst) m=true:=by unfold caTakeB;exact decide_eq_true ⟨hE,by omega,by omega⟩
  refine ⟨hE,?_⟩
  have hS:maTake c (maNs s (ntakeN s.n 1 j)) m=maSend c (maOdd (maAs (maNs s (ntakeN s.n 1 j)) m.dst (caTellK c (maA s m.dst) m.line st g)) (decide (caTakeE c m.dst (maA s m.dst) m≠0))) ⟨7,m.line,m.dst,m.who,1,m.acks,own,caTellW c (maA s m.dst) m.line⟩:=by
    unfold maTake
    show (if caTakeB c m.dst (maA s m.dst) m=true then maSend c (maOdd (maAs (maNs s (ntakeN s.n 1 j)) m.dst (caTakeK c m.dst (maA s m.dst) m)) (decide (caTakeE c m.dst (maA s m.dst) m≠0))) (caTakeM c m.dst (maA s m.dst) m) else _)=_
    rw [if_pos hB,hK,hM]
  rw [hS]
  have hst4:0≤st∧st≤4:=by omega
  have hcase:=ev_tell (st:=st) (g:=g) (hl.cai m.dst) hst4 hT
  have hcl:=cs_rng hl hd
  have hwv:ValsP c (caTellW c (maA s m.dst) m.line):=by
    unfold caTellW
    split
    · exact v_find (hl.cai m.dst).2.2.1
    · unfold wbTellW
      split
      · exact v_wbAt (hl.cai m.dst).2.2.2.2
      · exact vals_zero c
  generalize caTellW c (maA s m.dst) m.line=W at *
  have hD:MayP c ⟨7,m.line,m.dst,m.who,1,m.acks,own,W⟩:=by
    refine ⟨hl.ok,⟨by show (1:Int)≤7;decide,by show (7:Int)≤11;decide⟩,hmay.2.2.1,?_,?_⟩
    · unfold FormP
      rw [if_neg (by unfold HomeP;simp),if_neg (by simp),if_neg (by simp),if_pos rfl]
      exact ⟨by show own=1∨own=2∨own=4;omega,⟨ha0,ha1⟩,hw,.inr ⟨rfl,hd,fun e=>hwd e.symm⟩⟩
    · unfold WordsP
      rw [if_pos (show Wordy 7 from .inr rfl)]
      exact hwv
  have hroom:0<nleft c (ntakeN s.n 1 j) (netK (⟨7,m.line,m.dst,m.who,1,m.acks,own,W⟩:Msg).kind):=by
    show 0<nleft c (ntakeN s.n 1 j) 2
    rw [left_take]
    have:=left_nn hl (k:=2) rfl
    omega
  have hA2:amM ⟨7,m.line,m.dst,m.who,1,m.acks,own,W⟩= .data m.who own m.acks W:=rfl
  generalize hs':maSend c (maOdd (maAs (maNs s (ntakeN s.n 1 j)) m.dst (caTellK c (maA s m.dst) m.line st g)) (decide (caTakeE c m.dst (maA s m.dst) m≠0))) ⟨7,m.line,m.dst,m.who,1,m.acks,own,W⟩=s'
  have hcs:s'.cs=(maAs s m.dst (caTellK c (maA s m.dst) m.line st g)).cs:=by rw [←hs'];rfl
  have hhs:s'.hs=s.hs:=by rw [←hs'];rfl
  have htr:s'.tr=s.tr:=by rw [←hs'];rfl
  have hns:s'.n=nsendN c (ntakeN s.n 1 j) ⟨7,m.line,m.dst,m.who,1,m.acks,own,W⟩:=by rw [←hs'];rfl
  intro line hline
  have hH:maHo c s' line=maHo c s line:=by unfold maHo maH;rw [hhs]
  obtain ⟨q1,q2⟩:=take_fr (c:=c) (line:=line) hb (.inl rfl)
  rw [hm] at q2
  have hq:(maV c s' line).rq.Perm (maV c s line).rq:=by
    have:=vrq_send (line:=line) (q:=(maHo c s line).q) hD hroom
    rw [if_neg (fun g=>by cases g.2)] at this
    show (vrq line s'.n (maHo c s' line).q).Perm _
    rw [hns,hH]
    exact this.trans q1.symm
  have hf:(maV c s' line).fly.Perm (if m.line=line then .data m.who own m.acks W::vfly line (ntakeN s.n 1 j) (maHo c s line).q else vfly line (ntakeN s.n 1 j) (maHo c s line).q):=by
    have:=vfly_send (line:=line) (q:=(maHo c s line).q) hD hroom
    rw [hA2] at this
    show (vfly line s'.n (maHo c s' line).q).Perm _
    rw [hns,hH]
    refine this.trans ?_
    by_cases hL:m.line=line
    · rw [if_pos hL,if_pos ⟨hL,by show (2:Int)≠0;decide⟩]
    · rw [if_neg hL,if_neg (fun g=>hL g.1)]
  obtain ⟨u1,u2,u3,u4⟩:=v_i (c:=c) (s:=s) (line:=line) hd.1
  have hnow:lineWo c (trMs c s'.tr) line=lineWo c (trMs c s.tr) line:=by rw [htr]
  by_cases hL:m.line=line
  · subst hL
    rw [if_pos rfl] at hf
    have e1:(maV c s' m.line).act=(maV c s m.line).act:=by show actQ _ (maHo c s' _).q=_;rw [hH];rfl
    have e2:(maV c s' m.line).o=(maV c s m.line).o:=by show (hmEnt (maHo c s' _) _).o=_;rw [hH];rfl
    have e3:∀ x,(maV c s' m.line).sh x=(maV c s m.line).sh x:=fun x=>by show shHas (hmEnt (maHo c s' _) _).s x=_;rw [hH];rfl
    have e4:(maV c s' m.line).mem=(maV c s m.line).mem:=by show lineWo c (maHo c s' _).ms _=_;rw [hH];rfl
    rcases hcase with ⟨c1,c2,ev⟩|⟨c1,c2,ev⟩
    · have hp:=ev_pt (c:=c) (s:=s) (s':=s') (line:=m.line) hd.1 hcl hcs ev
      rw [if_pos rfl] at hp
      have hms:=pt_same hp.ms v3.symm
      have hwd':∀ x,(maV c s' m.line).st x≠0→(maV c s' m.line).wd x=(maV c s m.line).wd x:=fun x hx=>by
        refine (hp.wd x hx).trans ?_
        split
        · rename_i g;rw [g,v2]
        · rfl
      have hWd:W=(maV c s m.line).wd m.dst:=by rw [v2];exact c2
      rw [hWd] at hf
      refine ⟨?_,fun r m' hm' hn=>hNF r m' (by rw [←hms];exact hm') hn⟩
      rcases hk with ⟨_,rfl,rfl,rfl,rfl⟩|⟨_,rfl,rfl,rfl,rfl⟩
      · exact li_fwdS1 hLI (by rw [v1];exact c1) hp.st hwd' hms (pt_same hp.bf v4.symm) hq f2 hf e1 e2 e3 e4 hnow
      · exact li_fwdM1 hLI (by rw [v1];exact c1) hp.st hwd' hms (pt_same hp.bf v4.symm) hq f2 hf e1 e2 e3 e4 hnow
    · have hp:=ev_pt (c:=c) (s:=s) (s':=s') (line:=m.line) hd.1 hcl hcs ev
      have hms:=pt_same hp.ms v3.symm
      have hst:=pt_same hp.st v1.symm
      have hwd':∀ x,(maV c s' m.line).st x≠0→(maV c s' m.line).wd x=(maV c s m.line).wd x:=fun x hx=>by
        refine (hp.wd x hx).trans ?_
        split
        · rename_i g;rw [g,v2]
        · rfl
      refine ⟨?_,fun r m' hm' hn=>hNF r m' (by rw [←hms];exact hm') hn⟩
      rcases hk with ⟨_,rfl,rfl,rfl,rfl⟩|⟨_,rfl,rfl,rfl,rfl⟩
      · have hbf:=hp.bf
        rw [if_neg (by simp)] at hbf
        exact li_fwdS2 hLI (by rw [v1];exact c1) (by rw [v4];exact c2) hst hwd' hms (pt_same hbf v4.symm) hq f2 hf e1 e2 e3 e4 hnow
      · have hbf:=hp.bf
        rw [if_pos ⟨rfl,rfl⟩] at hbf
        exact li_fwdM2 hLI (by rw [v1];exact c1) (by rw [v4];exact c2) hst hwd' hms hbf hq f2 hf e1 e2 e3 e4 hnow
  · rw [if_neg hL] at hf q2
    rcases hcase with ⟨c1,c2,ev⟩|⟨c1,c2,ev⟩
    · have hp:=ev_pt (c:=c) (s:=s) (s':=s') (line:=line) hd.1 hcl hcs ev
      rw [if_neg (Ne.symm hL)] at hp
      exact ev_same hd.1 hp rfl rfl rfl rfl hhs hnow hq (hf.trans q2.symm) (h _ hline)
    · have hp:=ev_pt (c:=c) (s:=s) (s':=s') (line:=line) hd.1 hcl hcs ev
      rw [if_neg (fun g=>hL g.1.symm)] at hp
      exact ev_same hd.1 hp rfl rfl rfl rfl hhs hnow hq (hf.trans q2.symm) (h _ hline)
end
end Go.Sx

/- One line of a machine: its steps, 6. Written by a program of mine (pro/genpro.py). -/
namespace Go.Sx
section
variable {W:Type}
theorem li_data {v v':LV W} (h:LI v) {r own n:Int} {w:W} {m:AMs W} (hm':v.ms r=some m)
    (hst:∀ x,v'.st x=v.st x) (hwd:∀ x,v'.st x≠0→v'.wd x=v.wd x) (hms:∀ x,v'.ms x=if x=r then some { m with needs:=n,own:=own,w:=w} else v.ms x) (hbf:∀ x,v'.bf x=v.bf x) (hrq:v'.rq.Perm v.rq) {Rf:List (AM W)} (hfly0:v.fly.Perm (.data r own n w::Rf)) (hfly:v'.fly.Perm Rf) (hact:v'.act=v.act) (ho:v'.o=v.o) (hsh:∀ x,v'.sh x=v.sh x) (hmem:v'.mem=v.mem) (hnow:v'.now=v.now):LI v':=by
  obtain ⟨qm,cg,cp⟩:=rq_c hrq
  obtain ⟨fm0,ck0,ct0,ci0,cd0⟩:=fly_a hfly0
  obtain ⟨fm,ck,ct,ci,cd⟩:=fly_d hfly
  have hin:=(fm0 _).2 (.inl rfl)
  obtain ⟨k0,r0,m1,hac,hr0,hm,hmk,hmn,hmo,hmg,hgot,hct,hcd,hn,hrr⟩:=tok_act h hin rfl
  simp only [tokR,tokN] at hrr hn
  subst hrr
  have hR:∀ x∈Rf,isTok x=false:=fun x hx=>by have:=List.countP_eq_zero.1 (by have:=ct0;simp only [isTok] at this;grind:Rf.countP isTok=0) x hx;simpa using this
  have hbu:∀ x,v'.busy x↔v.busy x:=fun x=>by unfold LV.busy;rw [hact];grind [isDone]
  have hmr:=h.ml r m1 hm hmo
  have hbn:v.bf r=none:=by cases e:v.bf r with|none=>rfl|some x=>(have:=(h.b1 r x.1 x.2 e).2.2;rw [hm] at this;cases this)
  obtain rfl:m=m1:=by rw [hm'] at hm;cases hm;rfl
  have htd:=h.td _ _ _ _ hin
  have haK:=h.aK _ _ hac
  have hbr:v.busy r:=⟨_,hac,hcd⟩
  have hho:∀ x,v.holds x↔v'.holds x:=fun x=>by unfold LV.holds;rw [hst,hbf,cp]
  refine { p:=?zp}
  case zp=>
    intro k1 r1 h1
    have:=h.p k1 r1
    have f1:=h.f1 r
    have f2:=h.f2 r
    obtain ⟨rfl,rfl⟩:k1=m.kind∧r1=r:=by grind
    refine .inr (.inl ⟨_,by rw [hms,if_pos rfl],?_⟩)
    grind [isTok,isIA,isDone]
theorem li_grant {v v':LV W} (h:LI v) {r n:Int} {z:W} {m:AMs W} (hm':v.ms r=some m)
    (hst:∀ x,v'.st x=v.st x) (hwd:∀ x,v'.st x≠0→v'.wd x=v.wd x) (hms:∀ x,v'.ms x=if x=r then some { m with needs:=n,own:=4,w:=z,gr:=true} else v.ms x) (hbf:∀ x,v'.bf x=v.bf x) (hrq:v'.rq.Perm v.rq) {Rf:List (AM W)} (hfly0:v.fly.Perm (.grant r n::Rf)) (hfly:v'.fly.Perm Rf) (hact:v'.act=v.act) (ho:v'.o=v.o) (hsh:∀ x,v'.sh x=v.sh x) (hmem:v'.mem=v.mem) (hnow:v'.now=v.now):LI v':=by
  obtain ⟨qm,cg,cp⟩:=rq_c hrq
  obtain ⟨fm0,ck0,ct0,ci0,cd0⟩:=fly_a hfly0
  obtain ⟨fm,ck,ct,ci,cd⟩:=fly_d hfly
  have hin:=(fm0 _).2 (.inl rfl)
  obtain ⟨k0,r0,m1,hac,hr0,hm,hmk,hmn,hmo,hmg,hgot,hct,hcd,hn,hrr⟩:=tok_act h hin rfl
  simp only [tokR,tokN] at hrr hn
  subst hrr
  have hk0:k0=2:=by rcases (h.aK _ _ hac).1 with e|e<;>subst e<;>first|rfl|(exfalso;have f1:=h.f1 _ hac _ hin;grind)|(exfalso;have f2:=h.f2 _ hac _ hin;grind)
  subst hk0
  have hR:∀ x∈Rf,isTok x=false:=fun x hx=>by have:=List.countP_eq_zero.1 (by have:=ct0;simp only [isTok] at this;grind:Rf.countP isTok=0) x hx;simpa using this
  have hbu:∀ x,v'.busy x↔v.busy x:=fun x=>by unfold LV.busy;rw [hact];grind [isDone]
  have hmr:=h.ml r m1 hm hmo
  have hbn:v.bf r=none:=by cases e:v.bf r with|none=>rfl|some x=>(have:=(h.b1 r x.1 x.2 e).2.2;rw [hm] at this;cases this)
  obtain rfl:m=m1:=by rw [hm'] at hm;cases hm;rfl
  have htg:=h.tg _ _ hin
  have hbr:v.busy r:=⟨_,hac,hcd⟩
  have hho:∀ x,v.holds x↔v'.holds x:=fun x=>by unfold LV.holds;rw [hst,hbf,cp]
  constructor
  case rqk=>intro x hx;have:=h.rqk x;exact zqE
  case g0=>intro r1 h1;have:=h.g0 r1;exact zqE
  case g1=>intro r1 m1 h1 h2;have:=h.g1 r1 m1;exact zqE
  case gk=>intro k1 r1 h1;have:=h.gk k1 r1;exact zqE
  case gA=>intro r1 h1;have:=h.gA r1;exact zqE
  case aK=>intro k1 r1 h1;have:=h.aK k1 r1;exact zqE
  case mK=>intro r1 m1 h1;have:=h.mK r1 m1;exact zqE
  case ml=>intro r1 m1 h1 h2;have:=h.ml r1 m1;exact zqE
  case b0=>intro r1 h1;have:=h.b0 r1;exact zqE
  case b1=>intro r1 w1 l1 h1;have:=h.b1 r1 w1 l1;exact zqE
  case bw=>intro r1 w1 h1;have:=h.bw r1 w1;exact zqE
  case bl=>intro r1 w1 h1 h2;have:=h.bl r1 w1;exact zqE
  case f0=>intro h1 x hx;have:=h.f0;exact zqE
  case f1=>intro r1 h1 x hx;have:=h.f1 r1;exact zqE
  case f2=>intro r1 h1 x hx;have:=h.f2 r1;exact zqE
  case p=>intro k1 r1 h1;have:=h.p k1 r1;exact zqE
  case a2=>intro r1 h1;have:=h.a2 r1;exact zqE
  case tf=>intro k1 o1 r1 n1 h1;have:=h.tf k1 o1 r1 n1;exact zqE
  case td=>intro r1 own1 n1 w1 h1;have:=h.td r1 own1 n1 w1;exact zqE
  case tg=>intro r1 n1 h1;have:=h.tg r1 n1;exact zqE
  case iv=>intro c1 r1 h1;have:=h.iv c1 r1;exact zqE
  case e=>intro c1 h1;have:=h.e c1;exact zqE
  case h=>intro h1;have:=h.h;exact zqE
  case s=>intro c1 h1 c2 h2;have:=h.s c1;exact zqE
  case wn=>intro c1 h1;have:=h.wn c1;exact zqE
  case mn=>intro h1;have:=h.mn;exact zqE
  case k=>intro c1 h1;have:=h.k c1;exact zqE
  case r=>intro c1;have:=h.r c1;exact zqE
  case rg=>intro c1 h1;have:=h.rg c1;exact zqE
theorem li_ack {v v':LV W} (h:LI v) {r:Int} {m:AMs W} (hm:v.ms r=some m)
    (hst:∀ x,v'.st x=v.st x) (hwd:∀ x,v'.st x≠0→v'.wd x=v.wd x) (hms:∀ x,v'.ms x=if x=r then some { m with got:=m.got+1} else v.ms x) (hbf:∀ x,v'.bf x=v.bf x) (hrq:v'.rq.Perm v.rq) {Rf:List (AM W)} (hfly0:v.fly.Perm (.ack r::Rf)) (hfly:v'.fly.Perm Rf) (hact:v'.act=v.act) (ho:v'.o=v.o) (hsh:∀ x,v'.sh x=v.sh x) (hmem:v'.mem=v.mem) (hnow:v'.now=v.now):LI v':=by
  obtain ⟨qm,cg,cp⟩:=rq_c hrq
  obtain ⟨fm0,ck0,ct0,ci0,cd0⟩:=fly_a hfly0
  obtain ⟨fm,ck,ct,ci,cd⟩:=fly_d hfly
  have hin:=(fm0 _).2 (.inl rfl)
  have hac:v.act=some (2,r):=by cases e:v.act with|none=>(have:=h.f0 e _ hin;grind)|some a=>(have:=h.aK a.1 a.2 e;have:=h.f1 a.2;have:=h.f2 a.2;grind)
  have hbu:∀ x,v'.busy x↔v.busy x:=fun x=>by unfold LV.busy;rw [hact];grind [isDone]
  have hp:=h.p 2 r hac
  have hbr:v.busy r:=⟨_,hac,by grind [isIA]⟩
  have hho:∀ x,v.holds x↔v'.holds x:=fun x=>by unfold LV.holds;rw [hst,hbf,cp]
  refine { ml:=?zml,p:=?zp}
  case zml=>
    intro r1 m1 h1 h2
    have:=h.ml r1 m1
    have:=h.ml r m hm;exact zqE
  case zp=>
    intro k1 r1 h1
    have:=h.p k1 r1
    obtain ⟨rfl,rfl⟩:k1=2∧r1=r:=by grind
    rcases hp with ⟨m1,g1,g2⟩|⟨m1,g1,g2⟩|⟨m1,g1,g2⟩|g2
    · refine .inl ⟨_,by rw [hms,if_pos rfl],?_⟩;grind [isTok,isIA,isDone]
    · refine .inr (.inl ⟨_,by rw [hms,if_pos rfl],?_⟩);grind [isTok,isIA,isDone]
    · grind [isTok,isIA,isDone]
    · grind [isTok,isIA,isDone]
end
end Go.Sx
