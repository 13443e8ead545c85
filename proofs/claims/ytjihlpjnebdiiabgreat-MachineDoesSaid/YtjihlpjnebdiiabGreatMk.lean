/- Slices that are made with a length known at the run; copying. My own work; names no program. -/
import Derived.Laws.IdiomCopy
import Derived.Laws.MakeOwn
import Derived.Test.YtjihlpjnebdiiabGreatSl
set_option linter.unusedVariables false
set_option linter.unusedSectionVars false
set_option linter.unusedSimpArgs false
namespace Go.Sx
open Go
section
variable {P:Program} {N:Nat} {t ty:TypeId} {x y:Operand} {env:Env} {L:List HP}
theorem Es {e:TypeId} {nn:Int} {z z0:Value} {bs:Nat} {pos:String} {c9:Array Edge} {d:Nat} [hT:TU P t (.slice e)] [hZ:TZ P e 1 z bs] [yG:CO z [z0]]
    (hx:ev env x=some (.int .i64 nn)) (h0:0≤nn) (hb:(bs:Int)*nn≤140737488355328) (hm:nn≤1099511627776) (h1:one z0=true) (hd:Nat.blt d N=true) :
    KO P N ⟨some d,.makeSlice t x x,ty,pos,c9,none⟩ env L (uX env d (fun b=> .slice (some ⟨b,0,none⟩) nn.toNat nn.toNat) (fun b=>ao b e (List.replicate nn.toNat z0)::L)):=by
  have hz:=yG.pf;have R6:z.cells= #[z0]:=by rw [dT,hz]
  have hi:=hZ.pf;cases hq:P.info? e with
  |none=>simp [hq] at hi
  |some i=>
   simp only [hq,Option.map_some,Option.some.injEq,Prod.mk.injEq] at hi;obtain ⟨WH,sq,I2⟩:=hi;have G5:madeCells z.cells (nn.toNat*i.size)=(List.replicate nn.toNat z0).toArray:=by
     apply Array.ext';simp only [madeCells,R6,WH,Nat.mul_one,Array.toList_map,Array.toList_range];apply List.ext_getElem
     ·simp
     ·intro j h1 h2;simp [Nat.mod_one]
   refine zN (P:=P) (o:= .cells (List.replicate nn.toNat z0).toArray e (0,0)) (v:=fun b=> .slice (some ⟨b,0,none⟩) nn.toNat nn.toNat) (fun b h hc=>⟨hc⟩) ?_ hd;intro a w ha _;have hr:=run_make (P:=P) w t e i z hT.pf hq sq .i64 .i64 nn nn h0 (Int.le_refl _) (by rw [I2];omega) (om);rw [G5] at hr;simp only [execOp,ha.ev hx,hr,Sem.run_bind,Result.andThen_ok,Sem.run_pure];rfl
theorem Mp {e:TypeId} {g o T n m c sz bs:Nat} {z u:Value} {l ys l':List Value} {C:List Value→List HP} {pos:String} {c9:Array Edge} {d:Option Nat} {t2:TypeId} [hT:TU P t (.slice e)] [hZ:TZ P e sz z bs]
    (hx:ev env x=some (.slice (some ⟨g,o,none⟩) n c)) (hy:ev env y=some u) (k:bX g L T l C) (hr:bN L sz u m ys) (LJ:o+min m n*sz≤l.length) (hd:sh N d=true) (hl:aV l o (ys.take (min m n*sz))=l') :
    KO P N ⟨d,.call ⟨.builtin .copy,[x,y].toArray,[t,t2].toArray⟩,ty,pos,c9,none⟩ env L (tq (pj env d (.int .i64 (min m n:Nat))) (C l')):=by
  subst hl;intro a w ha hw K Q next
  obtain ⟨R,k1,k2⟩:=k.pf;have hs:=k1.gX hw;have hh:=nT hs;have Cr:=hr.len w hw;have JW:=hr.q7 w hw;have hle:min m n*sz≤m*sz:=Nat.mul_le_mul_right _ (Nat.min_le_left _ _);have BK:(ys.take (min m n*sz)).length=min m n*sz:=by rw [List.length_take,Cr];omega
  have Zn:(ys.take (min m n*sz)).all one=true:=by
    rw [List.all_eq_true] at JW ⊢;exact fun v hv=>JW v (List.mem_of_mem_take hv)
  have Pt:∃ p c,u= .slice p m c:=by
    rcases hr.pf w hw with ⟨p,c,h,h'⟩|⟨b,o,c,h,_⟩
    ·exact ⟨p,c,by rw [h,h']⟩
    ·exact ⟨_,c,h⟩
  have hf:(Builtin.firstCells sz (min m n) u).run P w= .ok (ys.take (min m n*sz)).toArray w:=by
    rcases hr.pf w hw with ⟨p,c,h,h'⟩|⟨b,o,c,h,hc⟩
    ·subst h h';cases p<;>simp [Builtin.firstCells,loadCells,loadCellsFrom]
    ·subst h;simp only [Builtin.firstCells];refine gK BK fun j v hj=>hc j v ?_;rw [List.getElem?_take] at hj;split at hj
     ·exact hj
     ·cases hj
  obtain ⟨w',r1,r2,r3,r4,r5,r6⟩:=gL (P:=P) g T (ys.take (min m n*sz)) l o 0 w hh (by rw [BK];omega) Zn;have yQ:(Builtin.copy_ #[t,t2] ty #[.slice (some ⟨g,o,none⟩) n c,u]).run P w= .ok (goInt (min m n:Nat)) w':=by
    obtain ⟨p,c,rfl⟩:=Pt;have WI:Nat.min m n=min m n:=rfl;simp [Builtin.copy_,run_underlying hT.pf,run_sizeOf hZ,Builtin.lenOf,WI,hf,r1]
  unfold Oper.wp;have ex:=ji (P:=P) (ρ:=a.eval) (b:= .copy) (args:=[x,y]) (ats:=[t,t2].toArray) (ty:=ty) (vs:=[.slice (some ⟨g,o,none⟩) n c,u]) (by simp [ha.ev hx,ha.ev hy]) (w:=w) (r:= .ok (.value (goInt (min m n:Nat))) w') (fun cs=>by
    simp [builtin,yQ])
  rw [cY,ex];refine next _ _ _ _ ⟨rfl,rfl⟩ (ha.B1 hd _) ((k2 _).gX ?_)
  exact qN (b:=g) (ao g T (aV l o (ys.take (min m n*sz)))) (fun h hp=>⟨_,hp.pf⟩) (fun h e=>⟨e⟩) (by simpa using r2) r3 r4 r5 r6 hs
end
end Go.Sx
