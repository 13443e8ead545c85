/- Lg, WiRead: several of my texts as one. My own work. -/
import Derived.Test.YtjihlpjnebdiiabGreatZbb
import Derived.Test.YtjihlpjnebdiiabGreatZac
set_option linter.unusedVariables false
set_option linter.unusedSectionVars false
set_option linter.unusedSimpArgs false
set_option maxRecDepth 100000
set_option maxHeartbeats 4000000
namespace Go.Sx
open Go Go.Proofs Tryz
section
def qA (ps:List (List c5)):Nat:=(ps.map List.length).sum
def wR (c:au) (ps:List (List c5)) (k:Int):Bool:=decide ((8<c.ax∧c.ax≤64)∨(32<c.aZ∧c.aZ≤1024)∨80<qA ps∨100<ps.length∨300<k)
theorem Ly {ps:List tP} {i:Nat} (hi:i<ps.length):qA ((ps.take (i+1)).map (·.1))=qA ((ps.take i).map (·.1))+ps[i].1.length:=by
  unfold qA;rw [List.take_add_one,List.getElem?_eq_getElem hi,Option.toList_some,List.map_append,List.map_append,List.sum_append];simp
theorem Rl {ps:List tP} (i:Nat):qA ((ps.take i).map (·.1))≤qA (ps.map (·.1)):=by
  have:ps.map (·.1)=(ps.take i).map (·.1)++(ps.drop i).map (·.1):=by rw [←List.map_append,List.take_append_drop]
  unfold qA;rw [this,List.map_append,List.sum_append];omega
theorem Oz {ps:List (List c5)} {l:List c5} (h:l∈ps):l.length≤qA ps:=by
  unfold qA;induction ps with
  |nil=>cases h
  |cons a r ih=>
   rw [List.map_cons,List.sum_cons];rcases List.mem_cons.1 h with rfl|h
   ·omega
   ·have:=ih h;omega
attribute [local irreducible] Exit.then Exit.inBlock Code.wp WC WO WE WQ V aW dL Sat bz bK dU IntKind.wrap WR Code.rounds WT KO
theorem Lz {F:List HP} {c:au} {ps:List tP} {v:Value} {k:Int} (hk:bN F 1 v ps.length (aj Am ps)) (hp:ps.length≤1000000000000000) (hn:∀ p∈ps,p.1.length≤1000000000000000) :
    az prog 13 [c.val,v,.int .i64 k] [] F (fun r L'=>r= .bool (wR c (ps.map (·.1)) k)∧L'=[]):=by
  refine ay func13 ntmps13 ?_;repeat first|refine gd ?_|intro _
  rename_i b3;apply aO (E0:=[(1,_),(2,_),(3,_)]) (fun E0 (i:Nat)=>(8,.int .i64 i)::(7,.int .i64 (qA ((ps.take i).map (·.1))))::E0) (fun _=>ao b3 25 c.cells::F) (fun i=>i≤ps.length∧qA ((ps.take i).map (·.1))≤1000000000000080) (fun i=>ps.length-i) 0
  ·exact bH
  ·exact ⟨Nat.zero_le _,by simp [qA]⟩
  ·exact af
  ·rintro i ⟨hi,hb⟩;by_cases bB:i<ps.length∧qA ((ps.take i).map (·.1))≤80
   ·obtain ⟨bB,h80⟩:=bB;have uG:=Ly bB;have hl:=hn _ (List.getElem_mem bB);generalize qA ((ps.take i).map (·.1))=t at uG h80 hb ⊢;repeat first|refine gd ?_|intro _
    refine aC (i+1) (om) ⟨om,om⟩ ?_ ?_
    ·simp only [uG];exact bH
    ·exact af
   ·have U7:80<qA (ps.map (·.1))↔80<qA ((ps.take i).map (·.1)):=by
      by_cases h1:80<qA ((ps.take i).map (·.1))
      ·have:=Rl (ps:=ps) i;constructor<;>intro<;>omega
      ·have h2:i=ps.length:=by omega
       rw [h2,List.take_length]
    have hex:¬(i:Int)<ps.length∨¬((qA ((ps.take i).map (·.1)):Nat):Int)≤80:=by omega
    unfold wR;simp only [U7,List.length_map];generalize qA ((ps.take i).map (·.1))=t at bB hb hex ⊢;rcases hex with hex|hex;all_goals repeat' (first|refine gd ?_|intro _|refine bj ?_ ?_|fail)
    all_goals (apply ad rfl rfl ar;(refine ⟨congrArg Value.bool ?_,rfl⟩;(first|(refine decide_eq_decide.2 ?_)|(refine (decide_eq_true ?_).symm)|(refine (decide_eq_false ?_).symm));(first|omega|(simp only [];omega)));exact bM)
end
section
open Go Go.Proofs Go.ChangeShapes Go.WideShapes
theorem uV {W:World} {sz:Nat} {v:Value} {n:Nat} {xs:List Value} (k:wb W sz v n xs):∃ a c,v= .slice a n c:=by
  rcases k.pf with ⟨q,c,h1,h2⟩|⟨b,o,c,h1,_⟩
  ·exact ⟨q,c,by rw [h1,h2]⟩
  ·exact ⟨_,c,h1⟩
def tP.ok (W:World) (p:tP):Prop:=wb W 3 (.slice p.2.1 p.1.length p.2.2) p.1.length (aj oc p.1)∧(∀ x∈p.1,x.wf)∧p.1.length≤1000000000000000
theorem S0 {H:Type} (enc:TypeId×Value→H) (W:World) {cs:List Value} (h:fr enc prog W [.other 89] cs):∃ x:tP,x.ok W∧cs=Am x∧(Am x).all one=true:=by
  obtain ⟨c,cs,rfl,hc,h⟩:=zg enc _ W h;obtain rfl:=Bk enc _ W h;obtain ⟨a,m,e,x,p,rfl,ht,hsm⟩:=Gp enc _ W (e:=74) underlying89 hc;obtain ⟨xs,hx,kx,lx,bx⟩:=wj enc prog W (d:=6) (encA:=oc) (wf:=c5.wf) (ks:=List.replicate 3 (.int .i64)) underlying89 (by kernel_rfl) (by kernel_rfl) (by decide) (fun cs h=>S3 enc _ W (ED enc _ W h)) ⟨a,m,e,rfl⟩ ht hsm;have hb:prog.bytesOf 74=24:=by kernel_rfl
  have hr:reachBytes=140737488351232:=rfl;rw [hb,hr] at bx;obtain ⟨a',c',hv⟩:=uV kx;rw [hv] at kx ⊢;exact ⟨(xs,a',c'),⟨kx,hx,by dsimp only;omega⟩,rfl,rfl⟩
end
end Go.Sx
