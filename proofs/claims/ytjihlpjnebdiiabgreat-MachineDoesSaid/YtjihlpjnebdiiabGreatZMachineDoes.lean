/- Pick by pick a machine is as the document says: the law MachineDoes answers true for every input. -/
import Derived.Test.YtjihlpjnebdiiabGreatZMachineDoesF
import Derived.Test.YtjihlpjnebdiiabGreatRows
import Derived.Test.YtjihlpjnebdiiabGreatZbq
set_option linter.unusedVariables false
set_option linter.unusedSectionVars false
set_option linter.unusedSimpArgs false
namespace Go.Proofs.YtjihlpjnebdiiabGreat.machineDoes
open Go.Sx Go.ChangeShapes Go.WideShapes Go.ChangeAt Go.RowKit
theorem bI:ownKnob Tryz.prog.godebug=none:=by kernel_rfl
theorem laidOut:laidOutB Tryz.prog=true:=by kernel_rfl
set_option maxRecDepth 100000 in
theorem lifted (os:Os) (started:os.Started) (H:Type) (enc:TypeId×Value→H) :
    ReturnsInHanded {} Tryz.checked os 5 .any (Rows.machineDoesSpec.pre6 enc Tryz.prog Tryz.f5 Rows.machineDoesRow.domain false) (Rows.machineDoesSpec.post enc Tryz.prog Tryz.f5 false true false false):=by
  refine returnsInHanded_of_change_sized (C:=Tryz.checked) bI started (by kernel_rfl) Tryz.func5
    (ChangeSpec.witness6 (enc:=enc) (C:=Tryz.checked) false ⟨#[], #[.agg #[.int .i64 0,.int .i64 0,.int .i64 0,.int .i64 0,.int .i64 0,.int .i64 0,.int .i64 0,.int .i64 0,.int .i64 0,.int .i64 0,.int .i64 0,.int .i64 0,.int .i64 0],.slice none 0 0,.slice none 0 0],[]⟩ 8 (by kernel_rfl) (by kernel_rfl) (by kernel_rfl) (by kernel_rfl)) ?_
  intro W base args ds gs before RO hW hcnd ZF _
  have Pl:∀ (j:Nat) t v,Tryz.f5.params[j]? =some t→args[j]? =some v→Value.okWide Tryz.prog W .any base t v:=RO
  have ZG:=hW
  obtain ⟨p,q,Yt,hV,rfl,hfz,hnd⟩:=hW
  have hA:DataW.TrodAll enc Tryz.prog W 0 (fun _=>true) true Tryz.f5.params.toList args.toList ds p:=Yt
  rw [Tryz.params5] at hA Pl
  obtain ⟨v0,vs0,d0,ds0,p0,q0,Zb,rfl,rfl,h0,r0⟩:=trodAll_cons hA
  obtain ⟨v1,vs1,d1,ds1,p1,q1,rfl,rfl,rfl,h1,r1⟩:=trodAll_cons r0
  obtain ⟨v2,vs2,d2,ds2,p2,q2,rfl,rfl,rfl,h2,r2⟩:=trodAll_cons r1
  obtain ⟨rfl,rfl,rfl⟩:=trodAll_nil r2
  obtain rfl:args= #[v0,v1,v2]:=by cases args;simp_all
  obtain ⟨rfl,rfl⟩:=trodVars_none hV
  have ZH:∀ x∈p0,x.block<W.heap.size:=by obtain ⟨m,hm⟩:=h0;exact DataW.trod_lt m _ _ _ hm
  have ZI:∀ x∈p1,x.block<W.heap.size:=by obtain ⟨m,hm⟩:=h1;exact DataW.trod_lt m _ _ _ hm
  have ZJ:∀ x∈p2,x.block<W.heap.size:=by obtain ⟨m,hm⟩:=h2;exact DataW.trod_lt m _ _ _ hm
  have XF:(DataW.weightsEach Tryz.prog (25::26::27::_) (d0::d1::d2::_)).all (· ≤reachBytes)=true:=ZF
  obtain ⟨s0,XG⟩:=zW _ XF
  obtain ⟨s1,XH⟩:=zW _ XG
  obtain ⟨s2,hwt3⟩:=zW _ XH
  obtain ⟨c0,Vh,rfl⟩:∃ c:au,c.wf∧v0=c.val:=by
    obtain ⟨cs,e,_⟩:=okWide_struct Tryz.underlying25 (Pl 0 25 v0 rfl rfl)
    have k:=H0 enc Tryz.prog W (d:=4) (ks:=List.replicate 13 (.int .i64)) (by kernel_rfl) h0
    obtain ⟨a0,cs,e0,w0,k⟩:=gN enc _ W k
    obtain ⟨a1,cs,rfl,w1,k⟩:=gN enc _ W k
    obtain ⟨a2,cs,rfl,w2,k⟩:=gN enc _ W k
    obtain ⟨a3,cs,rfl,w3,k⟩:=gN enc _ W k
    obtain ⟨a4,cs,rfl,w4,k⟩:=gN enc _ W k
    obtain ⟨a5,cs,rfl,w5,k⟩:=gN enc _ W k
    obtain ⟨a6,cs,rfl,w6,k⟩:=gN enc _ W k
    obtain ⟨a7,cs,rfl,w7,k⟩:=gN enc _ W k
    obtain ⟨a8,cs,rfl,w8,k⟩:=gN enc _ W k
    obtain ⟨a9,cs,rfl,w9,k⟩:=gN enc _ W k
    obtain ⟨ZK,cs,rfl,ZL,k⟩:=gN enc _ W k
    obtain ⟨ZM,cs,rfl,ZN,k⟩:=gN enc _ W k
    obtain ⟨ZO,cs,rfl,ZP,k⟩:=gN enc _ W k
    obtain rfl:=CS enc _ W k
    refine ⟨⟨a0,a1,a2,a3,a4,a5,a6,a7,a8,a9,ZK,ZM,ZO⟩,⟨w0,w1,w2,w3,w4,w5,w6,w7,w8,w9,ZL,ZN,ZP⟩,?_⟩
    rw [Ez e,e0]
  obtain ⟨c1,Vi,k1,l1,b1⟩:=wj enc Tryz.prog W (d:=6) (encA:=Am) (wf:=fun x=>tP.ok W x) (ks:=[.other 89]) Tryz.underlying26 (by kernel_rfl) (by kernel_rfl) (by decide) (fun cs h=>S0 enc W h) (okWide_slice Tryz.underlying26 (Pl 1 26 v1 rfl rfl)) h1 s1
  obtain ⟨c2,Sa,k2,l2,b2⟩:=wj enc Tryz.prog W (d:=6) (encA:=Py) (wf:=Pk.wf) (ks:=List.replicate 3 (.int .i64)) Tryz.underlying27 (by kernel_rfl) (by kernel_rfl) (by decide) (fun cs h=>VZ enc W h) (okWide_slice Tryz.underlying27 (Pl 2 27 v2 rfl rfl)) h2 s2
  clear Yt RO
  refine (Kr (az.all fun F=>H2 Vh Vi Sa k1 b1 k2 b2)).mono fun e W' ⟨he,Vj⟩=>?_
  subst he
  exact ⟨_,rfl,_,_,_,[],_,[],ZG,trodAll_mk1 (shut_bool Tryz.underlying4 _),(trodAll_cons_mk (Below.trod laidOut (by kernel_rfl) (of_decide_eq_true (by kernel_rfl)) h0 Vj ZH) (trodAll_cons_mk (Below.trod laidOut (by kernel_rfl) (of_decide_eq_true (by kernel_rfl)) h1 Vj ZI) (trodAll_cons_mk (Below.trod laidOut (by kernel_rfl) (of_decide_eq_true (by kernel_rfl)) h2 Vj ZJ) trodAll_mk0))),rfl,Vj.frame _,fun h=>by cases h⟩
theorem XJ:Rows.machineDoesRow.holds Tryz.pinned (OpenSpec.ofChange Rows.machineDoesSpec):=
  OpenClaim.holds_of_wide 5 Tryz.f5 rfl rfl rfl rfl rfl rfl rfl ⟨rfl,rfl,rfl,rfl,rfl⟩ rfl rfl rfl rfl rfl ZQ Tryz.func5 V0 XI ZR
    (fun os started H enc _=>lifted os started H enc)
theorem proved:Rows.MachineDoesSaid:=XJ
#print axioms proved
end Go.Proofs.YtjihlpjnebdiiabGreat.machineDoes
