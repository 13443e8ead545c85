/- The law of who may have a line behind a turn: the walk. My own work; written by a program (tools/gental.py). -/
import Derived.Test.YtcjagmphobdbbaaTabAPl
import Derived.Test.YtcjagmphobdbbaaTabOne
import Derived.Test.YtcjagmphobdbbaaTabAl1
import Derived.Test.YtcjagmphobdbbaaTabAl2
import Derived.Test.YtcjagmphobdbbaaTabAl3
namespace Go.Sx
open Go Go.Proofs
set_option linter.unusedVariables false
set_option linter.unusedSectionVars false
set_option linter.unusedSimpArgs false
set_option maxRecDepth 100000
set_option maxHeartbeats 4000000
attribute [local irreducible] Go.Exit.then Go.Exit.inBlock Go.Code.wp WC WO WE WQ V LoopQ FnQ Sat Star band bor IntKind.wrap WR Code.rounds WT KO
theorem law13_Alone {W : World} {F : List HP} {e : TEnt} {a : Option Addr} {k : Nat} {m : Msg} {w : Words} {core : Int} (hk : ROld W 1 (.slice a e.s.ps.length k) e.s.ps.length (flat ic e.s.ps)) (hl : e.s.ps.length ≤ 9223372036854775807) :
    FnF Try.prog 7 [.agg (tec e a k).toArray, mv m, wv w, .int .i64 core] [Old W] F (fun r L' => r = .bool true ∧ L' = [Old W]) := by
  by_cases k1 : m.kind = 1
  · exact law13_Alone1 hk k1 hl
  · by_cases k2 : m.kind = 2
    · exact law13_Alone2 hk k2 hl
    · by_cases k3 : m.kind = 3
      · exact law13_Alone3 hk k3 hl
      · haveI := hk
        have h0 : ¬ nextE e m = 0 := fun h0 => by have := (nextE_ok h0).2; omega
        have e1 : nextT e m = .no := by simp [nextT, h0]
        have e2 : nextS e m w = [] := by simp [nextS, h0]
        have e3 : nextW e m = false := by simp [nextW, h0]
        have hN := fun F (hk : RdL F 1 (.slice a e.s.ps.length k) e.s.ps.length (flat ic e.s.ps)) (hl : e.s.ps.length ≤ 1000) => tab_Next (F := F) (e := e) (a := a) (k := k) (m := m) (w := w) hk hl
        simp only [e1, e2, e3] at hN
        refine FnF.mk' Try.func7 rfl rfl Try.ntmps7 rfl ?_
        by_cases h1 : 100 < e.s.ps.length
        · repeat (first | rintro _ _ ⟨rfl, rfl⟩ | rintro _ _ ⟨_, rfl, rfl⟩ | rintro _ _ ⟨_, _, rfl, rfl⟩ | rintro _ _ ⟨_, _, _, _, rfl, rfl⟩ | intro _ | refine go ?_ | (refine is_draw ?_; refine WC_draw mixed (by kernel_rfl) ?_) | refine cal @law13_awake ?_)
          (apply WE_ret rfl rfl (by (repeat (first | exact ResOk.nil | (apply ResOk.tmp; rfl) | (apply resOk_cell; rfl; exact inferInstance; rfl; rfl)))); (first | exact ⟨rfl, rfl⟩ | exact ⟨congrArg Value.bool (by decide), rfl⟩ | exact ⟨_, rfl, rfl⟩ | exact ⟨_, _, rfl, rfl⟩ | exact ⟨by first | (simp []; done) | (simp [] <;> omega), rfl⟩); (repeat (first | exact Ent.refl | exact Ent.nil | apply Ent.pick | apply Ent.drop)))
        · repeat (first | rintro _ _ ⟨rfl, rfl⟩ | rintro _ _ ⟨_, rfl, rfl⟩ | rintro _ _ ⟨_, _, rfl, rfl⟩ | rintro _ _ ⟨_, _, _, _, rfl, rfl⟩ | intro _ | refine go ?_ | (refine is_draw ?_; refine WC_draw mixed (by kernel_rfl) ?_) | refine cal @law13_awake ?_ | refine cal @hN ?_)
          (apply WE_ret rfl rfl (by (repeat (first | exact ResOk.nil | (apply ResOk.tmp; rfl) | (apply resOk_cell; rfl; exact inferInstance; rfl; rfl)))); (first | exact ⟨rfl, rfl⟩ | exact ⟨congrArg Value.bool (by decide), rfl⟩ | exact ⟨_, rfl, rfl⟩ | exact ⟨_, _, rfl, rfl⟩ | exact ⟨by first | (simp []; done) | (simp [] <;> omega), rfl⟩); (repeat (first | exact Ent.refl | exact Ent.nil | apply Ent.pick | apply Ent.drop)))
end Go.Sx
