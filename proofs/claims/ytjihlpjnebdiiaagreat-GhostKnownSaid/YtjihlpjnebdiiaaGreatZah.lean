/- Msg3: several of my texts as one. My own work. -/
import Derived.Test.YtjihlpjnebdiiaaGreatZag
set_option linter.unusedVariables false
set_option linter.unusedSectionVars false
set_option linter.unusedSimpArgs false
set_option maxRecDepth 100000
set_option maxHeartbeats 4000000
namespace Go.Sx
open Go Go.Proofs
section
theorem iE {c:Cfg} (h:aF c=true):(1≤c.cores∧c.cores≤64)∧(1≤c.homes∧c.homes≤16)∧(1≤c.words∧c.words≤8)∧(1≤c.lines∧c.lines≤1024):=by
  simp only [aF,fI,Bool.and_eq_true,decide_eq_true_eq] at h
  omega
theorem cC (w:Words):([Value.int .i64 w.w0,Value.int .i64 w.w1,Value.int .i64 w.w2,Value.int .i64 w.w3,Value.int .i64 w.w4,Value.int .i64 w.w5,Value.int .i64 w.w6,Value.int .i64 w.w7]=[Value.int .i64 0,Value.int .i64 0,Value.int .i64 0,Value.int .i64 0,Value.int .i64 0,Value.int .i64 0,Value.int .i64 0,Value.int .i64 0])↔w= .zero:=by
  cases w;simp [Words.zero]
attribute [local irreducible] Exit.then Exit.inBlock Code.wp WC WO WE WQ V bF tV d3 bW dF uH IntKind.wrap WR Code.rounds WT KO
theorem b2y {F:List HP} {c:Cfg} {m:Msg} (hc:c.wf):FnF Tryz.prog 177 [c.val,mv m] [] F (fun r L'=>r= .bool (decide (d6 c m))∧L'=[]):=by
  have hC:=fun F=>dC (F:=F) hc
  have hW:=fun F=>gL (F:=F) (n:=m.line) (k:=c.lines)
  have hN:=fun F=>qP (F:=F) (k:=m.kind)
  have hF:=fun F=>b8y (F:=F) (k:=m.kind)
  by_cases he:aF c=true
  · simp only [d4,he,if_true] at hC
    obtain ⟨b1,b2,b3,b4⟩:=iE he
    have h0:c.homes≠0:=by omega
    by_cases hk:1≤m.kind∧m.kind≤11
    · have hnk:dJ m.kind=0∨dJ m.kind=1∨dJ m.kind=2:=by unfold dJ;split<;>(try split)<;>(try split)<;>omega
      by_cases hl:e6x m.line c.lines
      · simp only [hl,decide_true] at hW
        have hl':0≤m.line∧m.line<c.lines:=hl
        have hcase:m.kind=1∨m.kind=2∨m.kind=3∨m.kind=4∨m.kind=5∨m.kind=6∨m.kind=7∨m.kind=8∨m.kind=9∨m.kind=10∨m.kind=11:=by omega
        rcases hcase with h|h|h|h|h|h|h|h|h|h|h
        · have hmay:d6 c m↔(e2l c m∧m.words= .zero):=by simp [d6,jD,iD,cE,gK,he,h,hl']
          have hfv:uI m.kind= .iface 297 (.agg #[]):=by rw [h];rfl
          simp only [hfv] at hF
          have hU:=fun F=>b3w (F:=F) (c:=c) (m:=m) h0
          refine FnF.mk' Tryz.func177 rfl rfl Tryz.ntmps177 rfl ?_
          by_cases hx:e2l c m
          · simp only [hx,decide_true] at hU
            by_cases hy:m.words= .zero
            · repeat first|refine gd ?_|intro _|refine aD @hC ?_|refine aD @hN ?_|refine aD @hW ?_|refine aD @hF ?_|refine b4d ?_|refine lT @hU ?_
              simp only [cC,hy,decide_true]
              (apply aA rfl rfl bB;(first|exact lW|exact ⟨by simp [hmay,hx,hy]<;>omega,rfl⟩);exact iC)
            · repeat first|refine gd ?_|intro _|refine aD @hC ?_|refine aD @hN ?_|refine aD @hW ?_|refine aD @hF ?_|refine b4d ?_|refine lT @hU ?_
              try simp only [cC,hy,decide_false]
              (apply aA rfl rfl bB;(first|exact lW|exact ⟨by simp [hmay,hx,hy]<;>omega,rfl⟩);exact iC)
          · simp only [hx,decide_false] at hU
            repeat first|refine gd ?_|intro _|refine aD @hC ?_|refine aD @hN ?_|refine aD @hW ?_|refine aD @hF ?_|refine b4d ?_|refine lT @hU ?_
            (apply aA rfl rfl bB;(first|exact lW|exact ⟨by simp [hmay,hx]<;>omega,rfl⟩);exact iC)
        · have hmay:d6 c m↔(e2l c m∧m.words= .zero):=by simp [d6,jD,iD,cE,gK,he,h,hl']
          have hfv:uI m.kind= .iface 297 (.agg #[]):=by rw [h];rfl
          simp only [hfv] at hF
          have hU:=fun F=>b3w (F:=F) (c:=c) (m:=m) h0
          refine FnF.mk' Tryz.func177 rfl rfl Tryz.ntmps177 rfl ?_
          by_cases hx:e2l c m
          · simp only [hx,decide_true] at hU
            by_cases hy:m.words= .zero
            · repeat first|refine gd ?_|intro _|refine aD @hC ?_|refine aD @hN ?_|refine aD @hW ?_|refine aD @hF ?_|refine b4d ?_|refine lT @hU ?_
              simp only [cC,hy,decide_true]
              (apply aA rfl rfl bB;(first|exact lW|exact ⟨by simp [hmay,hx,hy]<;>omega,rfl⟩);exact iC)
            · repeat first|refine gd ?_|intro _|refine aD @hC ?_|refine aD @hN ?_|refine aD @hW ?_|refine aD @hF ?_|refine b4d ?_|refine lT @hU ?_
              try simp only [cC,hy,decide_false]
              (apply aA rfl rfl bB;(first|exact lW|exact ⟨by simp [hmay,hx,hy]<;>omega,rfl⟩);exact iC)
          · simp only [hx,decide_false] at hU
            repeat first|refine gd ?_|intro _|refine aD @hC ?_|refine aD @hN ?_|refine aD @hW ?_|refine aD @hF ?_|refine b4d ?_|refine lT @hU ?_
            (apply aA rfl rfl bB;(first|exact lW|exact ⟨by simp [hmay,hx]<;>omega,rfl⟩);exact iC)
        · have hmay:d6 c m↔(e2l c m∧bJ c m.words):=by simp [d6,jD,iD,cE,gK,he,h,hl']
          have hfv:uI m.kind= .iface 299 (.agg #[]):=by rw [h];rfl
          simp only [hfv] at hF
          have hU:=fun F=>b3w (F:=F) (c:=c) (m:=m) h0
          refine FnF.mk' Tryz.func177 rfl rfl Tryz.ntmps177 rfl ?_
          by_cases hx:e2l c m
          · simp only [hx,decide_true] at hU
            by_cases hy:bJ c m.words
            · have hV:=fun F=>a4b (F:=F) (c:=c) (m:=m)
              simp only [hy,decide_true] at hV
              repeat first|refine gd ?_|intro _|refine aD @hC ?_|refine aD @hN ?_|refine aD @hW ?_|refine aD @hF ?_|refine b4d ?_|refine lT @hU ?_|refine lT @hV ?_
              (apply aA rfl rfl bB;(first|exact lW|exact ⟨by simp [hmay,hx,hy]<;>omega,rfl⟩);exact iC)
            · have hV:=fun F=>a4b (F:=F) (c:=c) (m:=m)
              simp only [hy,decide_false] at hV
              repeat first|refine gd ?_|intro _|refine aD @hC ?_|refine aD @hN ?_|refine aD @hW ?_|refine aD @hF ?_|refine b4d ?_|refine lT @hU ?_|refine lT @hV ?_
              (apply aA rfl rfl bB;(first|exact lW|exact ⟨by simp [hmay,hx,hy]<;>omega,rfl⟩);exact iC)
          · simp only [hx,decide_false] at hU
            repeat first|refine gd ?_|intro _|refine aD @hC ?_|refine aD @hN ?_|refine aD @hW ?_|refine aD @hF ?_|refine b4d ?_|refine lT @hU ?_
            (apply aA rfl rfl bB;(first|exact lW|exact ⟨by simp [hmay,hx]<;>omega,rfl⟩);exact iC)
        · have hmay:d6 c m↔(iY c m false∧m.words= .zero):=by simp [d6,jD,iD,cE,gK,he,h,hl']
          have hfv:uI m.kind= .iface 301 (.agg #[.bool false]):=by rw [h];rfl
          simp only [hfv] at hF
          have hU:=fun F=>uW (F:=F) (c:=c) (m:=m) (a:=false) h0
          refine FnF.mk' Tryz.func177 rfl rfl Tryz.ntmps177 rfl ?_
          by_cases hx:iY c m false
          · simp only [hx,decide_true] at hU
            by_cases hy:m.words= .zero
            · repeat first|refine gd ?_|intro _|refine aD @hC ?_|refine aD @hN ?_|refine aD @hW ?_|refine aD @hF ?_|refine b4d ?_|refine lT @hU ?_
              simp only [cC,hy,decide_true]
              (apply aA rfl rfl bB;(first|exact lW|exact ⟨by simp [hmay,hx,hy]<;>omega,rfl⟩);exact iC)
            · repeat first|refine gd ?_|intro _|refine aD @hC ?_|refine aD @hN ?_|refine aD @hW ?_|refine aD @hF ?_|refine b4d ?_|refine lT @hU ?_
              try simp only [cC,hy,decide_false]
              (apply aA rfl rfl bB;(first|exact lW|exact ⟨by simp [hmay,hx,hy]<;>omega,rfl⟩);exact iC)
          · simp only [hx,decide_false] at hU
            repeat first|refine gd ?_|intro _|refine aD @hC ?_|refine aD @hN ?_|refine aD @hW ?_|refine aD @hF ?_|refine b4d ?_|refine lT @hU ?_
            (apply aA rfl rfl bB;(first|exact lW|exact ⟨by simp [hmay,hx]<;>omega,rfl⟩);exact iC)
        · have hmay:d6 c m↔(iY c m true∧m.words= .zero):=by simp [d6,jD,iD,cE,gK,he,h,hl']
          have hfv:uI m.kind= .iface 301 (.agg #[.bool true]):=by rw [h];rfl
          simp only [hfv] at hF
          have hU:=fun F=>uW (F:=F) (c:=c) (m:=m) (a:=true) h0
          refine FnF.mk' Tryz.func177 rfl rfl Tryz.ntmps177 rfl ?_
          by_cases hx:iY c m true
          · simp only [hx,decide_true] at hU
            by_cases hy:m.words= .zero
            · repeat first|refine gd ?_|intro _|refine aD @hC ?_|refine aD @hN ?_|refine aD @hW ?_|refine aD @hF ?_|refine b4d ?_|refine lT @hU ?_
              simp only [cC,hy,decide_true]
              (apply aA rfl rfl bB;(first|exact lW|exact ⟨by simp [hmay,hx,hy]<;>omega,rfl⟩);exact iC)
            · repeat first|refine gd ?_|intro _|refine aD @hC ?_|refine aD @hN ?_|refine aD @hW ?_|refine aD @hF ?_|refine b4d ?_|refine lT @hU ?_
              try simp only [cC,hy,decide_false]
              (apply aA rfl rfl bB;(first|exact lW|exact ⟨by simp [hmay,hx,hy]<;>omega,rfl⟩);exact iC)
          · simp only [hx,decide_false] at hU
            repeat first|refine gd ?_|intro _|refine aD @hC ?_|refine aD @hN ?_|refine aD @hW ?_|refine aD @hF ?_|refine b4d ?_|refine lT @hU ?_
            (apply aA rfl rfl bB;(first|exact lW|exact ⟨by simp [hmay,hx]<;>omega,rfl⟩);exact iC)
        · have hmay:d6 c m↔(iY c m false∧m.words= .zero):=by simp [d6,jD,iD,cE,gK,he,h,hl']
          have hfv:uI m.kind= .iface 301 (.agg #[.bool false]):=by rw [h];rfl
          simp only [hfv] at hF
          have hU:=fun F=>uW (F:=F) (c:=c) (m:=m) (a:=false) h0
          refine FnF.mk' Tryz.func177 rfl rfl Tryz.ntmps177 rfl ?_
          by_cases hx:iY c m false
          · simp only [hx,decide_true] at hU
            by_cases hy:m.words= .zero
            · repeat first|refine gd ?_|intro _|refine aD @hC ?_|refine aD @hN ?_|refine aD @hW ?_|refine aD @hF ?_|refine b4d ?_|refine lT @hU ?_
              simp only [cC,hy,decide_true]
              (apply aA rfl rfl bB;(first|exact lW|exact ⟨by simp [hmay,hx,hy]<;>omega,rfl⟩);exact iC)
            · repeat first|refine gd ?_|intro _|refine aD @hC ?_|refine aD @hN ?_|refine aD @hW ?_|refine aD @hF ?_|refine b4d ?_|refine lT @hU ?_
              try simp only [cC,hy,decide_false]
              (apply aA rfl rfl bB;(first|exact lW|exact ⟨by simp [hmay,hx,hy]<;>omega,rfl⟩);exact iC)
          · simp only [hx,decide_false] at hU
            repeat first|refine gd ?_|intro _|refine aD @hC ?_|refine aD @hN ?_|refine aD @hW ?_|refine aD @hF ?_|refine b4d ?_|refine lT @hU ?_
            (apply aA rfl rfl bB;(first|exact lW|exact ⟨by simp [hmay,hx]<;>omega,rfl⟩);exact iC)
        · have hmay:d6 c m↔(a9a c m∧bJ c m.words):=by simp [d6,jD,iD,cE,gK,he,h,hl']
          have hfv:uI m.kind= .iface 302 (.agg #[]):=by rw [h];rfl
          simp only [hfv] at hF
          have hU:=fun F=>c9i (F:=F) (c:=c) (m:=m) h0
          refine FnF.mk' Tryz.func177 rfl rfl Tryz.ntmps177 rfl ?_
          by_cases hx:a9a c m
          · simp only [hx,decide_true] at hU
            by_cases hy:bJ c m.words
            · have hV:=fun F=>a4c (F:=F) (c:=c) (m:=m)
              simp only [hy,decide_true] at hV
              repeat first|refine gd ?_|intro _|refine aD @hC ?_|refine aD @hN ?_|refine aD @hW ?_|refine aD @hF ?_|refine b4d ?_|refine lT @hU ?_|refine lT @hV ?_
              (apply aA rfl rfl bB;(first|exact lW|exact ⟨by simp [hmay,hx,hy]<;>omega,rfl⟩);exact iC)
            · have hV:=fun F=>a4c (F:=F) (c:=c) (m:=m)
              simp only [hy,decide_false] at hV
              repeat first|refine gd ?_|intro _|refine aD @hC ?_|refine aD @hN ?_|refine aD @hW ?_|refine aD @hF ?_|refine b4d ?_|refine lT @hU ?_|refine lT @hV ?_
              (apply aA rfl rfl bB;(first|exact lW|exact ⟨by simp [hmay,hx,hy]<;>omega,rfl⟩);exact iC)
          · simp only [hx,decide_false] at hU
            repeat first|refine gd ?_|intro _|refine aD @hC ?_|refine aD @hN ?_|refine aD @hW ?_|refine aD @hF ?_|refine b4d ?_|refine lT @hU ?_
            (apply aA rfl rfl bB;(first|exact lW|exact ⟨by simp [hmay,hx]<;>omega,rfl⟩);exact iC)
        · have hmay:d6 c m↔(xY c m true∧m.words= .zero):=by simp [d6,jD,iD,cE,gK,he,h,hl']
          have hfv:uI m.kind= .iface 303 (.agg #[.bool true]):=by rw [h];rfl
          simp only [hfv] at hF
          have hU:=fun F=>a6z (F:=F) (c:=c) (m:=m) (a:=true) h0
          refine FnF.mk' Tryz.func177 rfl rfl Tryz.ntmps177 rfl ?_
          by_cases hx:xY c m true
          · simp only [hx,decide_true] at hU
            by_cases hy:m.words= .zero
            · repeat first|refine gd ?_|intro _|refine aD @hC ?_|refine aD @hN ?_|refine aD @hW ?_|refine aD @hF ?_|refine b4d ?_|refine lT @hU ?_
              simp only [cC,hy,decide_true]
              (apply aA rfl rfl bB;(first|exact lW|exact ⟨by simp [hmay,hx,hy]<;>omega,rfl⟩);exact iC)
            · repeat first|refine gd ?_|intro _|refine aD @hC ?_|refine aD @hN ?_|refine aD @hW ?_|refine aD @hF ?_|refine b4d ?_|refine lT @hU ?_
              try simp only [cC,hy,decide_false]
              (apply aA rfl rfl bB;(first|exact lW|exact ⟨by simp [hmay,hx,hy]<;>omega,rfl⟩);exact iC)
          · simp only [hx,decide_false] at hU
            repeat first|refine gd ?_|intro _|refine aD @hC ?_|refine aD @hN ?_|refine aD @hW ?_|refine aD @hF ?_|refine b4d ?_|refine lT @hU ?_
            (apply aA rfl rfl bB;(first|exact lW|exact ⟨by simp [hmay,hx]<;>omega,rfl⟩);exact iC)
        · have hmay:d6 c m↔(tX c m∧m.words= .zero):=by simp [d6,jD,iD,cE,gK,he,h,hl']
          have hfv:uI m.kind= .iface 304 (.agg #[]):=by rw [h];rfl
          simp only [hfv] at hF
          have hU:=fun F=>b9g (F:=F) (c:=c) (m:=m)
          refine FnF.mk' Tryz.func177 rfl rfl Tryz.ntmps177 rfl ?_
          by_cases hx:tX c m
          · simp only [hx,decide_true] at hU
            by_cases hy:m.words= .zero
            · repeat first|refine gd ?_|intro _|refine aD @hC ?_|refine aD @hN ?_|refine aD @hW ?_|refine aD @hF ?_|refine b4d ?_|refine lT @hU ?_
              simp only [cC,hy,decide_true]
              (apply aA rfl rfl bB;(first|exact lW|exact ⟨by simp [hmay,hx,hy]<;>omega,rfl⟩);exact iC)
            · repeat first|refine gd ?_|intro _|refine aD @hC ?_|refine aD @hN ?_|refine aD @hW ?_|refine aD @hF ?_|refine b4d ?_|refine lT @hU ?_
              try simp only [cC,hy,decide_false]
              (apply aA rfl rfl bB;(first|exact lW|exact ⟨by simp [hmay,hx,hy]<;>omega,rfl⟩);exact iC)
          · simp only [hx,decide_false] at hU
            repeat first|refine gd ?_|intro _|refine aD @hC ?_|refine aD @hN ?_|refine aD @hW ?_|refine aD @hF ?_|refine b4d ?_|refine lT @hU ?_
            (apply aA rfl rfl bB;(first|exact lW|exact ⟨by simp [hmay,hx]<;>omega,rfl⟩);exact iC)
        · have hmay:d6 c m↔(xY c m false∧m.words= .zero):=by simp [d6,jD,iD,cE,gK,he,h,hl']
          have hfv:uI m.kind= .iface 303 (.agg #[.bool false]):=by rw [h];rfl
          simp only [hfv] at hF
          have hU:=fun F=>a6z (F:=F) (c:=c) (m:=m) (a:=false) h0
          refine FnF.mk' Tryz.func177 rfl rfl Tryz.ntmps177 rfl ?_
          by_cases hx:xY c m false
          · simp only [hx,decide_true] at hU
            by_cases hy:m.words= .zero
            · repeat first|refine gd ?_|intro _|refine aD @hC ?_|refine aD @hN ?_|refine aD @hW ?_|refine aD @hF ?_|refine b4d ?_|refine lT @hU ?_
              simp only [cC,hy,decide_true]
              (apply aA rfl rfl bB;(first|exact lW|exact ⟨by simp [hmay,hx,hy]<;>omega,rfl⟩);exact iC)
            · repeat first|refine gd ?_|intro _|refine aD @hC ?_|refine aD @hN ?_|refine aD @hW ?_|refine aD @hF ?_|refine b4d ?_|refine lT @hU ?_
              try simp only [cC,hy,decide_false]
              (apply aA rfl rfl bB;(first|exact lW|exact ⟨by simp [hmay,hx,hy]<;>omega,rfl⟩);exact iC)
          · simp only [hx,decide_false] at hU
            repeat first|refine gd ?_|intro _|refine aD @hC ?_|refine aD @hN ?_|refine aD @hW ?_|refine aD @hF ?_|refine b4d ?_|refine lT @hU ?_
            (apply aA rfl rfl bB;(first|exact lW|exact ⟨by simp [hmay,hx]<;>omega,rfl⟩);exact iC)
        · have hmay:d6 c m↔(e2l c m∧m.words= .zero):=by simp [d6,jD,iD,cE,gK,he,h,hl']
          have hfv:uI m.kind= .iface 297 (.agg #[]):=by rw [h];rfl
          simp only [hfv] at hF
          have hU:=fun F=>b3w (F:=F) (c:=c) (m:=m) h0
          refine FnF.mk' Tryz.func177 rfl rfl Tryz.ntmps177 rfl ?_
          by_cases hx:e2l c m
          · simp only [hx,decide_true] at hU
            by_cases hy:m.words= .zero
            · repeat first|refine gd ?_|intro _|refine aD @hC ?_|refine aD @hN ?_|refine aD @hW ?_|refine aD @hF ?_|refine b4d ?_|refine lT @hU ?_
              simp only [cC,hy,decide_true]
              (apply aA rfl rfl bB;(first|exact lW|exact ⟨by simp [hmay,hx,hy]<;>omega,rfl⟩);exact iC)
            · repeat first|refine gd ?_|intro _|refine aD @hC ?_|refine aD @hN ?_|refine aD @hW ?_|refine aD @hF ?_|refine b4d ?_|refine lT @hU ?_
              try simp only [cC,hy,decide_false]
              (apply aA rfl rfl bB;(first|exact lW|exact ⟨by simp [hmay,hx,hy]<;>omega,rfl⟩);exact iC)
          · simp only [hx,decide_false] at hU
            repeat first|refine gd ?_|intro _|refine aD @hC ?_|refine aD @hN ?_|refine aD @hW ?_|refine aD @hF ?_|refine b4d ?_|refine lT @hU ?_
            (apply aA rfl rfl bB;(first|exact lW|exact ⟨by simp [hmay,hx]<;>omega,rfl⟩);exact iC)
      · simp only [hl,decide_false] at hW
        have hno:¬d6 c m:=fun h=>hl h.2.2.1
        refine FnF.mk' Tryz.func177 rfl rfl Tryz.ntmps177 rfl ?_
        repeat first|refine gd ?_|intro _|refine aD @hC ?_|refine aD @hN ?_|refine aD @hW ?_
        (apply aA rfl rfl bB;(first|exact lW|exact ⟨by simp [hno]<;>omega,rfl⟩);exact iC)
    · have hnk:dJ m.kind= -1:=by unfold dJ;rw [if_neg (om),if_neg (om),if_neg (om)]
      have hno:¬d6 c m:=fun h=>hk h.2.1
      simp only [hnk] at hN
      refine FnF.mk' Tryz.func177 rfl rfl Tryz.ntmps177 rfl ?_
      repeat first|refine gd ?_|intro _|refine aD @hC ?_|refine aD @hN ?_
      (apply aA rfl rfl bB;(first|exact lW|exact ⟨by simp [hno]<;>omega,rfl⟩);exact iC)
  · simp only [d4,if_neg he] at hC
    have hno:¬d6 c m:=fun h=>he h.1
    refine FnF.mk' Tryz.func177 rfl rfl Tryz.ntmps177 rfl ?_
    repeat first|refine gd ?_|intro _|refine aD @hC ?_
    (apply aA rfl rfl bB;(first|exact lW|exact ⟨by simp [hno]<;>omega,rfl⟩);exact iC)
end
end Go.Sx
