/- Wi2, WiFi, WiQ: several of my texts as one. My own work. -/
import Derived.Test.YtjihlpjnebdiiaaGreatZbb
set_option linter.unusedVariables false
set_option linter.unusedSectionVars false
set_option linter.unusedSimpArgs false
set_option maxRecDepth 100000
set_option maxHeartbeats 4000000
namespace Go.Sx
open Go Go.Proofs
section
attribute [local irreducible] Exit.then Exit.inBlock Code.wp WC WO WE WQ V bT vL fP cY eI v8 IntKind.wrap WR Code.rounds WT KO
theorem d3n {F:List HP} {c:Cfg} {l:List Com} {v:Value} {addr:Int} (hc:c.wf) (k:RdL F 6 v l.length (aC e0q l)) (hl:l.length≤1099511627776):FnF Tryz.prog 34 [c.val,v,.int .i64 addr] [] F (fun r L'=>r= .int .i64 (d1w c l addr)∧L'=[]):=by
  cases hck:aF c with
  |false=>
   have hN:=fun F=>a9i (F:=F) hc hck
   refine FnF.mk' Tryz.func34 rfl rfl Tryz.ntmps34 rfl ?_
   repeat first|refine gd ?_|intro _|refine aD @hN ?_
   (apply aA rfl rfl bH;(first|exact oO|exact ⟨by simp [d1w,hck]<;>omega,rfl⟩);exact jM)
  |true=>
   have hN:=fun F=>b6m (F:=F) hc hck
   refine FnF.mk' Tryz.func34 rfl rfl Tryz.ntmps34 rfl ?_
   repeat first|refine gd ?_|intro _|refine aD @hN ?_
   rename_i bm
   apply aW (E0:=[(2,_),(7,_),(18,_),(19,_)]) (fun E0 (i:Nat)=>(20,.int .i64 i)::E0) (fun i=>zN bm c (iL c (l.take i))::F) (fun i=>i≤l.length) (fun i=>l.length-i) 0
   · exact m9
   · exact Nat.zero_le _
   · rw [show iL c (l.take 0)=List.replicate (c.words*c.lines).toNat 0 from rfl]
     exact aB
   · intro i hi
     by_cases hlt:i<l.length
     · have hst:=b3g (c:=c) hlt
       have hD:=fun F=>d9v (F:=F) (b:=bm) (c:=c) (ms:=iL c (l.take i)) (x:=l[i].op)
       repeat first|refine gd ?_|intro _|refine aD @hD ?_
       refine aT (i+1) (om) (om) ?_ ?_
       · exact m9
       · rw [hst];exact aB
     · have hil:i=l.length:=by omega
       subst hil
       rw [List.take_length]
       repeat first|refine gd ?_|intro _|refine aD @d7h ?_
       (apply aA rfl rfl bH;(first|exact oO|exact ⟨by simp [d1w,hck]<;>omega,rfl⟩);exact jM)
theorem d3o {F:List HP} {c:Cfg} {ps:List PrQ} {u v:Value} {l:List Com} (hc:c.wf) (k:RdL F 6 v l.length (aC e0q l)) (hl:l.length≤1099511627776) (kp:RdL F 1 u ps.length (aC b6n ps)) (kr:RdPr F ps) :
    FnF Tryz.prog 32 [c.val,u,v] [] F (fun r L'=>r= .tuple [.int .i64 (d1x c (ps.map (·.1)) l),.int .i64 (d1y c (ps.map (·.1)) l)].toArray∧L'=[]):=by
  cases hck:aF c with
  |false=>
   have hN:=fun F=>a9i (F:=F) hc hck
   refine FnF.mk' Tryz.func32 rfl rfl Tryz.ntmps32 rfl ?_
   repeat first|refine gd ?_|intro _|refine aD @hN ?_
   (apply aA rfl rfl bH;(first|exact oO|exact ⟨by simp [d1x,d1y,a7h,hck]<;>omega,rfl⟩);exact jM)
  |true=>
   have hN:=fun F=>b6m (F:=F) hc hck
   by_cases hlen:(ps.length:Int)=c.cores
   · have hcc:=(bG hck).1
     have e1:d1x c (ps.map (·.1)) l=c0b c (ps.map (·.1)) l:=by simp [d1x,a7h,hck,hlen]
     have e2:d1y c (ps.map (·.1)) l=if c0b c (ps.map (·.1)) l=l.length then 0 else 7:=by simp [d1y,a7h,hck,hlen]
     rw [e1,e2]
     obtain ⟨n,hn⟩:∃ n:Nat,c.cores=n:=⟨c.cores.toNat,om⟩
     have hpn:ps.length=n:=by omega
     refine FnF.mk' Tryz.func32 rfl rfl Tryz.ntmps32 rfl ?_
     repeat first|refine gd ?_|intro _|refine aD @hN ?_
     rename_i b3 bm ba
     have hbad:∀ i,i<l.length→(∀ j,j<i→zY c (ps.map (·.1)) l j=true)→zY c (ps.map (·.1)) l i=false→c0b c (ps.map (·.1)) l=i∧¬i=l.length:=fun i hi h1 h2=>⟨e2m hi h1 h2,om⟩
     apply aW (E0:=[(1,_),(2,_),(3,_),(8,_),(10,_),(32,_),(33,_)]) (fun E0 (i:Nat)=>(34,.int .i64 i)::E0) (fun i=>Cells ba 3 (aC ic (e6w n l i))::zN bm c (iL c (l.take i))::Cells b3 24 c.cells::F) (fun i=>i≤l.length∧∀ j,j<i→zY c (ps.map (·.1)) l j=true) (fun i=>l.length-i) 0
     · exact m9
     · exact ⟨Nat.zero_le _,fun j h=>absurd h (Nat.not_lt_zero _)⟩
     · rw [show iL c (l.take 0)=List.replicate (c.words*c.lines).toNat 0 from rfl,d4d,←d9t,hn,Int.toNat_natCast]
       exact aB
     · rintro i ⟨hi,hgo⟩
       by_cases hlt:i<l.length
       · have hst:=b3g (c:=c) hlt
         have hbi:=hbad i hlt hgo
         have hgd:zY c (ps.map (·.1)) l i=(decide (0≤l[i].core∧l[i].core<c.cores)&& decide (l[i].pos=yM l i l[i].core)&& decide (l[i].pos<(((ps.map (·.1)).getD l[i].core.toNat []).length:Int))&& decide (l[i].op=((ps.map (·.1)).getD l[i].core.toNat []).getD l[i].pos.toNat .zero)
          && decide (pD (iL c (l.take i)) l[i].op=0)&& decide (nD (iL c (l.take i)) l[i].op=l[i].res)):=by unfold zY;rw [List.getElem?_eq_getElem hlt]
         have hD:=fun F=>d9v (F:=F) (b:=bm) (c:=c) (ms:=iL c (l.take i)) (x:=l[i].op)
         by_cases h0:l[i].core<0
         · obtain ⟨f1,f2⟩:=hbi (by rw [hgd];simp [show ¬0≤l[i].core by omega])
           repeat first|refine gd ?_|intro _
           rw [f1,if_neg f2]
           exact bF
         · by_cases h1:l[i].core≥c.cores
           · obtain ⟨f1,f2⟩:=hbi (by rw [hgd];simp [show ¬l[i].core<c.cores by omega])
             repeat first|refine gd ?_|intro _
             rw [f1,if_neg f2]
             exact bF
           · obtain ⟨kc,hkc⟩:∃ k:Nat,l[i].core=k:=⟨l[i].core.toNat,om⟩
             have hkn:kc<n:=by omega
             have hkp:kc<ps.length:=by omega
             have hat:(aC ic (e6w n l i))[0+((kc:Nat):Int).toNat*1]? =some (.int .i64 (yM l i (kc:Int))):=by
               rw [Int.toNat_natCast,Nat.zero_add,Nat.mul_one,wB (by simp [e6w,hkn])]
               simp [e6w]
             have hcn:=e2n l i (kc:Int)
             have hpr:(ps.map (·.1)).getD kc []=ps[kc].1:=by simp [hkp]
             rw [hkc,Int.toNat_natCast,hpr] at hgd
             haveI krk:=c4s kr hkp
             generalize hq:yM l i (kc:Int)=q at hat hcn hgd
             have hIn:decide (0≤(kc:Int)∧(kc:Int)<c.cores)=true:=decide_eq_true (om)
             generalize hxo:l[i].op=xo at hgd hst hD
             generalize hxr:l[i].res=xr at hgd
             by_cases hp:l[i].pos=q
             · have hx:l[i]=⟨(kc:Int),(q:Int),xo,xr⟩:=by rw [←hkc,←hp,←hxo,←hxr]
               by_cases hql:q<ps[kc].1.length
               · have hge:ps[kc].1.getD q .zero=ps[kc].1[q]:=by simp [hql]
                 rw [hIn,hp,Int.toNat_natCast,hge,decide_eq_true rfl,decide_eq_true (show (q:Int)<(ps[kc].1.length:Int) by omega)] at hgd
                 simp only [Bool.true_and] at hgd
                 by_cases ho:xo=ps[kc].1[q]
                 · have ho':¬(oc xo≠oc ps[kc].1[q]):=fun h=>h (by rw [ho])
                   rw [decide_eq_true ho,Bool.true_and] at hgd
                   by_cases hE:pD (iL c (l.take i)) xo=0
                   · rw [decide_eq_true hE,Bool.true_and] at hgd
                     by_cases hV:nD (iL c (l.take i)) xo=xr
                     · rw [decide_eq_true hV] at hgd
                       have hgo2:∀ j,j<i+1→zY c (ps.map (·.1)) l j=true:=fun j hj=>by
                         by_cases e:j=i
                         · subst e;exact hgd
                         · exact hgo j (om)
                       have hats:=d4e hlt hkn (by rw [hkc])
                       rw [hq] at hats
                       repeat first|refine gd ?_|intro _
                       simp only [hx];dsimp only [e0q]
                       repeat first|refine gd ?_|intro _|refine aD @hD ?_
                       have hal:(e6w n l i).length=n:=by simp [e6w]
                       have hsp:aQ (aC ic (e6w n l i)) (0+((kc:Nat):Int).toNat*1) [.int .i64 ((q:Int)+1)]=aC ic (e6w n l (i+1)):=by
                         rw [Int.toNat_natCast,Nat.zero_add,Nat.mul_one,a3u (om),hats]
                       have hbl:Nat.ble (0+((kc:Nat):Int).toNat*1+1) (aC ic (e6w n l i)).length=true:=by
                         rw [mE,hal,Int.toNat_natCast,Nat.ble_eq];omega
                       (apply xG;rfl;(apply vE (cs:=[.int .i64 ((q:Int)+1)]);rfl;rfl;exact inferInstance;rfl;rfl;rfl;exact hbl);refine aM ?_)
                       rw [hsp]
                       repeat first|refine gd ?_|intro _
                       refine aT (i+1) (om) ⟨om,hgo2⟩ ?_ ?_
                       · exact m9
                       · rw [hst];exact aB
                     · obtain ⟨f1,f2⟩:=hbi (by rw [hgd];exact decide_eq_false hV)
                       repeat first|refine gd ?_|intro _
                       simp only [hx];dsimp only [e0q]
                       repeat first|refine gd ?_|intro _|refine aD @hD ?_
                       rw [f1,if_neg f2]
                       exact bF
                   · obtain ⟨f1,f2⟩:=hbi (by rw [hgd,decide_eq_false hE];rfl)
                     repeat first|refine gd ?_|intro _
                     simp only [hx];dsimp only [e0q]
                     repeat first|refine gd ?_|intro _|refine aD @hD ?_
                     rw [f1,if_neg f2]
                     exact bF
                 · obtain ⟨f1,f2⟩:=hbi (by rw [hgd,decide_eq_false ho];rfl)
                   have ho':oc xo≠oc ps[kc].1[q]:=fun h=>ho (by
                     have h1:∀ a b:Op3,oc a=oc b→a=b:=fun ⟨a1,a2,a3⟩ ⟨b1,b2,b3⟩ h=>by simp only [oc,List.cons.injEq,Value.int.injEq,true_and,and_true] at h;obtain ⟨rfl,rfl,rfl⟩:=h;rfl
                     exact h1 _ _ h)
                   repeat first|refine gd ?_|intro _
                   simp only [hx];dsimp only [e0q]
                   repeat first|refine gd ?_|intro _
                   rw [f1,if_neg f2]
                   exact bF
               · obtain ⟨f1,f2⟩:=hbi (by rw [hgd,hp,decide_eq_false (show ¬(q:Int)<(ps[kc].1.length:Int) by omega)];simp)
                 repeat first|refine gd ?_|intro _
                 simp only [hx];dsimp only [e0q]
                 repeat first|refine gd ?_|intro _
                 rw [f1,if_neg f2]
                 exact bF
             · obtain ⟨f1,f2⟩:=hbi (by rw [hgd,decide_eq_false hp];simp)
               repeat first|refine gd ?_|intro _
               simp only [hkc]
               repeat first|refine gd ?_|intro _
               rw [f1,if_neg f2]
               exact bF
       · have hil:i=l.length:=by omega
         subst hil
         have f1:=c0c hgo
         rw [f1,if_pos rfl]
         repeat first|refine gd ?_|intro _
         exact bF
   · refine FnF.mk' Tryz.func32 rfl rfl Tryz.ntmps32 rfl ?_
     repeat first|refine gd ?_|intro _|refine aD @hN ?_
     (apply aA rfl rfl bH;(first|exact oO|exact ⟨by simp [d1x,d1y,a7h,hck,hlen]<;>omega,rfl⟩);exact jM)
end
section
theorem e2c {c:Cfg} {ps:List (List Op3)} {n:Nat} {s:MaS} (hok:nE c ps=true) (h:MaI c ps n s):d1x c ps s.tr=s.tr.length∧d1y c ps s.tr=0:=by
  have e:=h.fine
  simp only [nE,Bool.and_eq_true,decide_eq_true_eq] at hok
  have:a7h c ps=true:=by simp [a7h,hok.1.1,hok.1.2]
  simp [d1x,d1y,this,e]
attribute [local irreducible] Exit.then Exit.inBlock Code.wp WC WO WE WQ V bT vL fP cY eI v8 IntKind.wrap WR Code.rounds WT KO
end
section
theorem c9p {c:Cfg} {ps:List (List Op3)} {n:Nat} {s:MaS} (h:MaI c ps n s) (hq:bR s=true) (line:Int) (hl:(cU c line).toNat=(cU c line).toNat):b4e c s line=c4d c s line:=by
  obtain ⟨_,_,q3,_⟩:=oM hq
  have hla:=h.l.la
  have hg:∀ i (hi:i<s.cs.length),c4c c s line i=aP c s.cs[i].ways line:=fun i hi=>by
    unfold c4c;rw [List.getD_eq_getElem?_getD,List.getElem?_eq_getElem hi];rfl
  have hlive:∀ i,a5j s line i=false:=fun i=>by
    have:(s.cs.getD i caZ).buf=[]:=by
      rw [List.getD_eq_getElem?_getD]
      cases e:s.cs[i]? with
      |none=>rfl
      |some x=>exact (q3 x (List.mem_of_getElem? e)).2
    unfold a5j;rw [this];rfl
  have e3:f0k c (a5j s line)=none:=by
    unfold f0k
    rw [List.find?_eq_none]
    intro i _
    rw [hlive i];simp
  have e4:c4p s.cs line=none:=c8p fun i hi=>by
    rw [(q3 _ (List.getElem_mem hi)).2];rfl
  unfold b4e c4d
  rw [e3,e4]
  cases e1:f0k c (fun i=>f3z (c4c c s line i)) with
  |some i=>
   obtain ⟨h1,h2⟩:=c8b e1
   have hi:i<s.cs.length:=by omega
   have h3:∀ j (hj:j<s.cs.length),j<i→¬2≤(aP c s.cs[j].ways line).st:=fun j hj hji=>by
     unfold f0k at e1
     rw [List.find?_range_eq_some] at e1
     have:=e1.2.2 j hji
     rw [hg j hj] at this
     simpa [f3z] using this
   have h4:2≤(aP c s.cs[i].ways line).st:=by
     rw [hg i hi] at h2
     simpa [f3z] using h2
   rw [c8o hi h3 h4]
   dsimp only
   rw [hg i hi]
  |none=>
   have h0:=b6i e1
   rw [b0w] at h0
   have h5:c8m c s.cs line=none:=c8n fun i hi=>by
     have:=h0 i (om)
     rw [hg i hi] at this
     simpa [f3z] using this
   rw [h5]
   rfl
theorem c2m {c:Cfg} {ps:List (List Op3)} {n:Nat} {s:MaS} (h:MaI c ps n s) (hq:bR s=true) {addr:Int} (ha:fR c addr=true):d2f c s addr=d1w c s.tr addr:=by
  rw [←b9a h hq ha]
  unfold d2f e0j
  rw [c9p h hq _ rfl]
attribute [local irreducible] Exit.then Exit.inBlock Code.wp WC WO WE WQ V bT vL fP cY eI v8 IntKind.wrap WR Code.rounds WT KO
end
end Go.Sx
