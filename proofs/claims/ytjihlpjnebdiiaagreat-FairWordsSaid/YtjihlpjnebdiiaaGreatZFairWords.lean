/- Behind Bound rounds the Final word of each address is its value by the trace, and no message was ever odd: the law FairWords answers true for every input. -/
import Derived.Test.YtjihlpjnebdiiaaGreatRows
import Derived.Test.YtjihlpjnebdiiaaGreatZbd
set_option linter.unusedVariables false
set_option linter.unusedSectionVars false
set_option linter.unusedSimpArgs false
namespace Go.Proofs.YtjihlpjnebdiiaaGreat.fairWords
open Go.Sx Go.ChangeShapes Go.WideShapes Go.ChangeAt Go.RowKit
theorem own:ownKnob Tryz.prog.godebug=none:=by kernel_rfl
theorem laidOut:laidOutB Tryz.prog=true:=by kernel_rfl
set_option maxRecDepth 100000 in
theorem lifted (os:Os) (started:os.Started) (H:Type) (enc:TypeId×Value→H) :
    ReturnsInHanded {} Tryz.checked os 14 .any (Rows.fairWordsSpec.pre6 enc Tryz.prog Tryz.f14 Rows.fairWordsRow.domain false) (Rows.fairWordsSpec.post enc Tryz.prog Tryz.f14 false true false false):=by
  refine returnsInHanded_of_change_sized (C:=Tryz.checked) own started (by kernel_rfl) Tryz.func14
    (ChangeSpec.witness6 (enc:=enc) (C:=Tryz.checked) false ⟨#[], #[.agg #[.int .i64 0,.int .i64 0,.int .i64 0,.int .i64 0,.int .i64 0,.int .i64 0,.int .i64 0,.int .i64 0,.int .i64 0,.int .i64 0,.int .i64 0,.int .i64 0,.int .i64 0],.slice none 0 0,.slice none 0 0],[]⟩ 8 (by kernel_rfl) (by kernel_rfl) (by kernel_rfl) (by kernel_rfl)) ?_
  intro W base args ds gs before hval0 hW hcnd hwt _
  have hval:∀ (j:Nat) t v,Tryz.f14.params[j]? =some t→args[j]? =some v→Value.okWide Tryz.prog W .any base t v:=hval0
  have hW':=hW
  obtain ⟨p,q,hA0,hV,rfl,hfz,hnd⟩:=hW
  have hA:DataW.TrodAll enc Tryz.prog W 0 (fun _=>true) true Tryz.f14.params.toList args.toList ds p:=hA0
  rw [Tryz.params14] at hA hval
  obtain ⟨v0,vs0,d0,ds0,p0,q0,hargs,rfl,rfl,h0,r0⟩:=trodAll_cons hA
  obtain ⟨v1,vs1,d1,ds1,p1,q1,rfl,rfl,rfl,h1,r1⟩:=trodAll_cons r0
  obtain ⟨v2,vs2,d2,ds2,p2,q2,rfl,rfl,rfl,h2,r2⟩:=trodAll_cons r1
  obtain ⟨rfl,rfl,rfl⟩:=trodAll_nil r2
  obtain rfl:args= #[v0,v1,v2]:=by cases args;simp_all
  obtain ⟨rfl,rfl⟩:=trodVars_none hV
  have lt0:∀ x∈p0,x.block<W.heap.size:=by obtain ⟨m,hm⟩:=h0;exact DataW.trod_lt m _ _ _ hm
  have lt1:∀ x∈p1,x.block<W.heap.size:=by obtain ⟨m,hm⟩:=h1;exact DataW.trod_lt m _ _ _ hm
  have lt2:∀ x∈p2,x.block<W.heap.size:=by obtain ⟨m,hm⟩:=h2;exact DataW.trod_lt m _ _ _ hm
  have hwt0:(DataW.weightsEach Tryz.prog (24::25::26::_) (d0::d1::d2::_)).all (· ≤reachBytes)=true:=hwt
  obtain ⟨s0,hwt1⟩:=nR _ hwt0
  obtain ⟨s1,hwt2⟩:=nR _ hwt1
  obtain ⟨s2,hwt3⟩:=nR _ hwt2
  obtain ⟨c0,hc0,rfl⟩:∃ c:Cfg,c.wf∧v0=c.val:=by
    obtain ⟨cs,e,_⟩:=okWide_struct Tryz.underlying24 (hval 0 24 v0 rfl rfl)
    have k:=uA enc Tryz.prog W (d:=4) (ks:=List.replicate 13 (.int .i64)) (by kernel_rfl) h0
    obtain ⟨a0,cs,e0,w0,k⟩:=aV enc _ W k
    obtain ⟨a1,cs,rfl,w1,k⟩:=aV enc _ W k
    obtain ⟨a2,cs,rfl,w2,k⟩:=aV enc _ W k
    obtain ⟨a3,cs,rfl,w3,k⟩:=aV enc _ W k
    obtain ⟨a4,cs,rfl,w4,k⟩:=aV enc _ W k
    obtain ⟨a5,cs,rfl,w5,k⟩:=aV enc _ W k
    obtain ⟨a6,cs,rfl,w6,k⟩:=aV enc _ W k
    obtain ⟨a7,cs,rfl,w7,k⟩:=aV enc _ W k
    obtain ⟨a8,cs,rfl,w8,k⟩:=aV enc _ W k
    obtain ⟨a9,cs,rfl,w9,k⟩:=aV enc _ W k
    obtain ⟨a10,cs,rfl,w10,k⟩:=aV enc _ W k
    obtain ⟨a11,cs,rfl,w11,k⟩:=aV enc _ W k
    obtain ⟨a12,cs,rfl,w12,k⟩:=aV enc _ W k
    obtain rfl:=sJ enc _ W k
    refine ⟨⟨a0,a1,a2,a3,a4,a5,a6,a7,a8,a9,a10,a11,a12⟩,⟨w0,w1,w2,w3,w4,w5,w6,w7,w8,w9,w10,w11,w12⟩,?_⟩
    rw [tK e,e0]
  obtain ⟨c1,hc1,k1,l1,b1⟩:=lU enc Tryz.prog W (d:=6) (encA:=b6n) (wf:=fun x=>PrQ.ok W x) (ks:=[.other 61]) Tryz.underlying25 (by kernel_rfl) (by kernel_rfl) (by decide) (fun cs h=>c5t enc W h) (okWide_slice Tryz.underlying25 (hval 1 25 v1 rfl rfl)) h1 s1
  obtain ⟨c2,hc2,k2,l2,b2⟩:=lU enc Tryz.prog W (d:=6) (encA:=e6l) (wf:=Pk.wf) (ks:=List.replicate 3 (.int .i64)) Tryz.underlying26 (by kernel_rfl) (by kernel_rfl) (by decide) (fun cs h=>e0h enc W h) (okWide_slice Tryz.underlying26 (hval 2 26 v2 rfl rfl)) h2 s2
  clear hA0 hval0
  refine (a3o (FnF.all fun F=>b8o hc0 hc1 hc2 k1 b1 k2 b2)).mono fun e W' ⟨he,bel⟩=>?_
  subst he
  exact ⟨_,rfl,_,_,_,[],_,[],hW',trodAll_mk1 (shut_bool Tryz.underlying4 _),(trodAll_cons_mk (Below.trod laidOut (by kernel_rfl) (of_decide_eq_true (by kernel_rfl)) h0 bel lt0) (trodAll_cons_mk (Below.trod laidOut (by kernel_rfl) (of_decide_eq_true (by kernel_rfl)) h1 bel lt1) (trodAll_cons_mk (Below.trod laidOut (by kernel_rfl) (of_decide_eq_true (by kernel_rfl)) h2 bel lt2) trodAll_mk0))),rfl,bel.frame _,fun h=>by cases h⟩
theorem over:Rows.fairWordsRow.holds Tryz.pinned (OpenSpec.ofChange Rows.fairWordsSpec):=
  OpenClaim.holds_of_wide 14 Tryz.f14 rfl rfl rfl rfl rfl rfl rfl ⟨rfl,rfl,rfl,rfl,rfl⟩ rfl rfl rfl rfl rfl (by kernel_rfl) Tryz.func14 (by kernel_rfl)
    (of_decide_eq_true (by kernel_rfl)) (by unfold Func.isWrapper;first|(rw [if_pos (by decide +kernel)];kernel_rfl)|(rw [if_neg (by decide +kernel)];exact ⟨rfl,rfl⟩))
    (fun os started H enc _=>lifted os started H enc)
theorem proved:Rows.FairWordsSaid:=over
#print axioms proved
end Go.Proofs.YtjihlpjnebdiiaaGreat.fairWords
