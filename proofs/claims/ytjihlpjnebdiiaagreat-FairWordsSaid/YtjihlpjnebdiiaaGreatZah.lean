/- Msg3: several of my texts as one. My own work. -/
import Derived.Test.YtjihlpjnebdiiaaGreatZag
set_option linter.unusedVariables false
set_option linter.unusedSectionVars false
set_option linter.unusedSimpArgs false
set_option maxRecDepth 100000
set_option maxHeartbeats 4000000
namespace Go.Sx
open Go Go.Proofs
section
theorem gP {c:Cfg} (h:aF c=true):(1≤c.cores∧c.cores≤64)∧(1≤c.homes∧c.homes≤16)∧(1≤c.words∧c.words≤8)∧(1≤c.lines∧c.lines≤1024):=by
  simp only [aF,gI,Bool.and_eq_true,decide_eq_true_eq] at h
  omega
theorem c9 (w:Words):([Value.int .i64 w.w0,Value.int .i64 w.w1,Value.int .i64 w.w2,Value.int .i64 w.w3,Value.int .i64 w.w4,Value.int .i64 w.w5,Value.int .i64 w.w6,Value.int .i64 w.w7]=[Value.int .i64 0,Value.int .i64 0,Value.int .i64 0,Value.int .i64 0,Value.int .i64 0,Value.int .i64 0,Value.int .i64 0,Value.int .i64 0])↔w= .zero:=by
  cases w;simp [Words.zero]
attribute [local irreducible] Exit.then Exit.inBlock Code.wp WC WO WE WQ V bT vL fP cY eI v8 IntKind.wrap WR Code.rounds WT KO
theorem b5s {F:List HP} {c:Cfg} {m:Msg} (hc:c.wf):FnF Tryz.prog 177 [c.val,mv m] [] F (fun r L'=>r= .bool (decide (fG c m))∧L'=[]):=by
  have hC:=fun F=>dK (F:=F) hc
  have hW:=fun F=>iC (F:=F) (n:=m.line) (k:=c.lines)
  have hN:=fun F=>rP (F:=F) (k:=m.kind)
  have hF:=fun F=>c1w (F:=F) (k:=m.kind)
  by_cases he:aF c=true
  · simp only [eD,he,if_true] at hC
    obtain ⟨b1,b2,b3,b4⟩:=gP he
    have h0:c.homes≠0:=by omega
    by_cases hk:1≤m.kind∧m.kind≤11
    · have hnk:c6 m.kind=0∨c6 m.kind=1∨c6 m.kind=2:=by unfold c6;split<;>(try split)<;>(try split)<;>omega
      by_cases hl:f1f m.line c.lines
      · simp only [hl,decide_true] at hW
        have hl':0≤m.line∧m.line<c.lines:=hl
        have hcase:m.kind=1∨m.kind=2∨m.kind=3∨m.kind=4∨m.kind=5∨m.kind=6∨m.kind=7∨m.kind=8∨m.kind=9∨m.kind=10∨m.kind=11:=by omega
        rcases hcase with h|h|h|h|h|h|h|h|h|h|h
        · have hmay:fG c m↔(e6p c m∧m.words= .zero):=by simp [fG,jY,iX,cK,iB,he,h,hl']
          have hfv:vI m.kind= .iface 297 (.agg #[]):=by rw [h];rfl
          simp only [hfv] at hF
          have hU:=fun F=>b6q (F:=F) (c:=c) (m:=m) h0
          refine FnF.mk' Tryz.func177 rfl rfl Tryz.ntmps177 rfl ?_
          by_cases hx:e6p c m
          · simp only [hx,decide_true] at hU
            by_cases hy:m.words= .zero
            · repeat first|refine gd ?_|intro _|refine aD @hC ?_|refine aD @hN ?_|refine aD @hW ?_|refine aD @hF ?_|refine b6p ?_|refine mX @hU ?_
              simp only [c9,hy,decide_true]
              (apply aA rfl rfl bH;(first|exact oO|exact ⟨by simp [hmay,hx,hy]<;>omega,rfl⟩);exact jM)
            · repeat first|refine gd ?_|intro _|refine aD @hC ?_|refine aD @hN ?_|refine aD @hW ?_|refine aD @hF ?_|refine b6p ?_|refine mX @hU ?_
              try simp only [c9,hy,decide_false]
              (apply aA rfl rfl bH;(first|exact oO|exact ⟨by simp [hmay,hx,hy]<;>omega,rfl⟩);exact jM)
          · simp only [hx,decide_false] at hU
            repeat first|refine gd ?_|intro _|refine aD @hC ?_|refine aD @hN ?_|refine aD @hW ?_|refine aD @hF ?_|refine b6p ?_|refine mX @hU ?_
            (apply aA rfl rfl bH;(first|exact oO|exact ⟨by simp [hmay,hx]<;>omega,rfl⟩);exact jM)
        · have hmay:fG c m↔(e6p c m∧m.words= .zero):=by simp [fG,jY,iX,cK,iB,he,h,hl']
          have hfv:vI m.kind= .iface 297 (.agg #[]):=by rw [h];rfl
          simp only [hfv] at hF
          have hU:=fun F=>b6q (F:=F) (c:=c) (m:=m) h0
          refine FnF.mk' Tryz.func177 rfl rfl Tryz.ntmps177 rfl ?_
          by_cases hx:e6p c m
          · simp only [hx,decide_true] at hU
            by_cases hy:m.words= .zero
            · repeat first|refine gd ?_|intro _|refine aD @hC ?_|refine aD @hN ?_|refine aD @hW ?_|refine aD @hF ?_|refine b6p ?_|refine mX @hU ?_
              simp only [c9,hy,decide_true]
              (apply aA rfl rfl bH;(first|exact oO|exact ⟨by simp [hmay,hx,hy]<;>omega,rfl⟩);exact jM)
            · repeat first|refine gd ?_|intro _|refine aD @hC ?_|refine aD @hN ?_|refine aD @hW ?_|refine aD @hF ?_|refine b6p ?_|refine mX @hU ?_
              try simp only [c9,hy,decide_false]
              (apply aA rfl rfl bH;(first|exact oO|exact ⟨by simp [hmay,hx,hy]<;>omega,rfl⟩);exact jM)
          · simp only [hx,decide_false] at hU
            repeat first|refine gd ?_|intro _|refine aD @hC ?_|refine aD @hN ?_|refine aD @hW ?_|refine aD @hF ?_|refine b6p ?_|refine mX @hU ?_
            (apply aA rfl rfl bH;(first|exact oO|exact ⟨by simp [hmay,hx]<;>omega,rfl⟩);exact jM)
        · have hmay:fG c m↔(e6p c m∧bX c m.words):=by simp [fG,jY,iX,cK,iB,he,h,hl']
          have hfv:vI m.kind= .iface 299 (.agg #[]):=by rw [h];rfl
          simp only [hfv] at hF
          have hU:=fun F=>b6q (F:=F) (c:=c) (m:=m) h0
          refine FnF.mk' Tryz.func177 rfl rfl Tryz.ntmps177 rfl ?_
          by_cases hx:e6p c m
          · simp only [hx,decide_true] at hU
            by_cases hy:bX c m.words
            · have hV:=fun F=>a6m (F:=F) (c:=c) (m:=m)
              simp only [hy,decide_true] at hV
              repeat first|refine gd ?_|intro _|refine aD @hC ?_|refine aD @hN ?_|refine aD @hW ?_|refine aD @hF ?_|refine b6p ?_|refine mX @hU ?_|refine mX @hV ?_
              (apply aA rfl rfl bH;(first|exact oO|exact ⟨by simp [hmay,hx,hy]<;>omega,rfl⟩);exact jM)
            · have hV:=fun F=>a6m (F:=F) (c:=c) (m:=m)
              simp only [hy,decide_false] at hV
              repeat first|refine gd ?_|intro _|refine aD @hC ?_|refine aD @hN ?_|refine aD @hW ?_|refine aD @hF ?_|refine b6p ?_|refine mX @hU ?_|refine mX @hV ?_
              (apply aA rfl rfl bH;(first|exact oO|exact ⟨by simp [hmay,hx,hy]<;>omega,rfl⟩);exact jM)
          · simp only [hx,decide_false] at hU
            repeat first|refine gd ?_|intro _|refine aD @hC ?_|refine aD @hN ?_|refine aD @hW ?_|refine aD @hF ?_|refine b6p ?_|refine mX @hU ?_
            (apply aA rfl rfl bH;(first|exact oO|exact ⟨by simp [hmay,hx]<;>omega,rfl⟩);exact jM)
        · have hmay:fG c m↔(jL c m false∧m.words= .zero):=by simp [fG,jY,iX,cK,iB,he,h,hl']
          have hfv:vI m.kind= .iface 301 (.agg #[.bool false]):=by rw [h];rfl
          simp only [hfv] at hF
          have hU:=fun F=>vV (F:=F) (c:=c) (m:=m) (a:=false) h0
          refine FnF.mk' Tryz.func177 rfl rfl Tryz.ntmps177 rfl ?_
          by_cases hx:jL c m false
          · simp only [hx,decide_true] at hU
            by_cases hy:m.words= .zero
            · repeat first|refine gd ?_|intro _|refine aD @hC ?_|refine aD @hN ?_|refine aD @hW ?_|refine aD @hF ?_|refine b6p ?_|refine mX @hU ?_
              simp only [c9,hy,decide_true]
              (apply aA rfl rfl bH;(first|exact oO|exact ⟨by simp [hmay,hx,hy]<;>omega,rfl⟩);exact jM)
            · repeat first|refine gd ?_|intro _|refine aD @hC ?_|refine aD @hN ?_|refine aD @hW ?_|refine aD @hF ?_|refine b6p ?_|refine mX @hU ?_
              try simp only [c9,hy,decide_false]
              (apply aA rfl rfl bH;(first|exact oO|exact ⟨by simp [hmay,hx,hy]<;>omega,rfl⟩);exact jM)
          · simp only [hx,decide_false] at hU
            repeat first|refine gd ?_|intro _|refine aD @hC ?_|refine aD @hN ?_|refine aD @hW ?_|refine aD @hF ?_|refine b6p ?_|refine mX @hU ?_
            (apply aA rfl rfl bH;(first|exact oO|exact ⟨by simp [hmay,hx]<;>omega,rfl⟩);exact jM)
        · have hmay:fG c m↔(jL c m true∧m.words= .zero):=by simp [fG,jY,iX,cK,iB,he,h,hl']
          have hfv:vI m.kind= .iface 301 (.agg #[.bool true]):=by rw [h];rfl
          simp only [hfv] at hF
          have hU:=fun F=>vV (F:=F) (c:=c) (m:=m) (a:=true) h0
          refine FnF.mk' Tryz.func177 rfl rfl Tryz.ntmps177 rfl ?_
          by_cases hx:jL c m true
          · simp only [hx,decide_true] at hU
            by_cases hy:m.words= .zero
            · repeat first|refine gd ?_|intro _|refine aD @hC ?_|refine aD @hN ?_|refine aD @hW ?_|refine aD @hF ?_|refine b6p ?_|refine mX @hU ?_
              simp only [c9,hy,decide_true]
              (apply aA rfl rfl bH;(first|exact oO|exact ⟨by simp [hmay,hx,hy]<;>omega,rfl⟩);exact jM)
            · repeat first|refine gd ?_|intro _|refine aD @hC ?_|refine aD @hN ?_|refine aD @hW ?_|refine aD @hF ?_|refine b6p ?_|refine mX @hU ?_
              try simp only [c9,hy,decide_false]
              (apply aA rfl rfl bH;(first|exact oO|exact ⟨by simp [hmay,hx,hy]<;>omega,rfl⟩);exact jM)
          · simp only [hx,decide_false] at hU
            repeat first|refine gd ?_|intro _|refine aD @hC ?_|refine aD @hN ?_|refine aD @hW ?_|refine aD @hF ?_|refine b6p ?_|refine mX @hU ?_
            (apply aA rfl rfl bH;(first|exact oO|exact ⟨by simp [hmay,hx]<;>omega,rfl⟩);exact jM)
        · have hmay:fG c m↔(jL c m false∧m.words= .zero):=by simp [fG,jY,iX,cK,iB,he,h,hl']
          have hfv:vI m.kind= .iface 301 (.agg #[.bool false]):=by rw [h];rfl
          simp only [hfv] at hF
          have hU:=fun F=>vV (F:=F) (c:=c) (m:=m) (a:=false) h0
          refine FnF.mk' Tryz.func177 rfl rfl Tryz.ntmps177 rfl ?_
          by_cases hx:jL c m false
          · simp only [hx,decide_true] at hU
            by_cases hy:m.words= .zero
            · repeat first|refine gd ?_|intro _|refine aD @hC ?_|refine aD @hN ?_|refine aD @hW ?_|refine aD @hF ?_|refine b6p ?_|refine mX @hU ?_
              simp only [c9,hy,decide_true]
              (apply aA rfl rfl bH;(first|exact oO|exact ⟨by simp [hmay,hx,hy]<;>omega,rfl⟩);exact jM)
            · repeat first|refine gd ?_|intro _|refine aD @hC ?_|refine aD @hN ?_|refine aD @hW ?_|refine aD @hF ?_|refine b6p ?_|refine mX @hU ?_
              try simp only [c9,hy,decide_false]
              (apply aA rfl rfl bH;(first|exact oO|exact ⟨by simp [hmay,hx,hy]<;>omega,rfl⟩);exact jM)
          · simp only [hx,decide_false] at hU
            repeat first|refine gd ?_|intro _|refine aD @hC ?_|refine aD @hN ?_|refine aD @hW ?_|refine aD @hF ?_|refine b6p ?_|refine mX @hU ?_
            (apply aA rfl rfl bH;(first|exact oO|exact ⟨by simp [hmay,hx]<;>omega,rfl⟩);exact jM)
        · have hmay:fG c m↔(b2f c m∧bX c m.words):=by simp [fG,jY,iX,cK,iB,he,h,hl']
          have hfv:vI m.kind= .iface 302 (.agg #[]):=by rw [h];rfl
          simp only [hfv] at hF
          have hU:=fun F=>d2x (F:=F) (c:=c) (m:=m) h0
          refine FnF.mk' Tryz.func177 rfl rfl Tryz.ntmps177 rfl ?_
          by_cases hx:b2f c m
          · simp only [hx,decide_true] at hU
            by_cases hy:bX c m.words
            · have hV:=fun F=>a6n (F:=F) (c:=c) (m:=m)
              simp only [hy,decide_true] at hV
              repeat first|refine gd ?_|intro _|refine aD @hC ?_|refine aD @hN ?_|refine aD @hW ?_|refine aD @hF ?_|refine b6p ?_|refine mX @hU ?_|refine mX @hV ?_
              (apply aA rfl rfl bH;(first|exact oO|exact ⟨by simp [hmay,hx,hy]<;>omega,rfl⟩);exact jM)
            · have hV:=fun F=>a6n (F:=F) (c:=c) (m:=m)
              simp only [hy,decide_false] at hV
              repeat first|refine gd ?_|intro _|refine aD @hC ?_|refine aD @hN ?_|refine aD @hW ?_|refine aD @hF ?_|refine b6p ?_|refine mX @hU ?_|refine mX @hV ?_
              (apply aA rfl rfl bH;(first|exact oO|exact ⟨by simp [hmay,hx,hy]<;>omega,rfl⟩);exact jM)
          · simp only [hx,decide_false] at hU
            repeat first|refine gd ?_|intro _|refine aD @hC ?_|refine aD @hN ?_|refine aD @hW ?_|refine aD @hF ?_|refine b6p ?_|refine mX @hU ?_
            (apply aA rfl rfl bH;(first|exact oO|exact ⟨by simp [hmay,hx]<;>omega,rfl⟩);exact jM)
        · have hmay:fG c m↔(zU c m true∧m.words= .zero):=by simp [fG,jY,iX,cK,iB,he,h,hl']
          have hfv:vI m.kind= .iface 303 (.agg #[.bool true]):=by rw [h];rfl
          simp only [hfv] at hF
          have hU:=fun F=>a9s (F:=F) (c:=c) (m:=m) (a:=true) h0
          refine FnF.mk' Tryz.func177 rfl rfl Tryz.ntmps177 rfl ?_
          by_cases hx:zU c m true
          · simp only [hx,decide_true] at hU
            by_cases hy:m.words= .zero
            · repeat first|refine gd ?_|intro _|refine aD @hC ?_|refine aD @hN ?_|refine aD @hW ?_|refine aD @hF ?_|refine b6p ?_|refine mX @hU ?_
              simp only [c9,hy,decide_true]
              (apply aA rfl rfl bH;(first|exact oO|exact ⟨by simp [hmay,hx,hy]<;>omega,rfl⟩);exact jM)
            · repeat first|refine gd ?_|intro _|refine aD @hC ?_|refine aD @hN ?_|refine aD @hW ?_|refine aD @hF ?_|refine b6p ?_|refine mX @hU ?_
              try simp only [c9,hy,decide_false]
              (apply aA rfl rfl bH;(first|exact oO|exact ⟨by simp [hmay,hx,hy]<;>omega,rfl⟩);exact jM)
          · simp only [hx,decide_false] at hU
            repeat first|refine gd ?_|intro _|refine aD @hC ?_|refine aD @hN ?_|refine aD @hW ?_|refine aD @hF ?_|refine b6p ?_|refine mX @hU ?_
            (apply aA rfl rfl bH;(first|exact oO|exact ⟨by simp [hmay,hx]<;>omega,rfl⟩);exact jM)
        · have hmay:fG c m↔(uV c m∧m.words= .zero):=by simp [fG,jY,iX,cK,iB,he,h,hl']
          have hfv:vI m.kind= .iface 304 (.agg #[]):=by rw [h];rfl
          simp only [hfv] at hF
          have hU:=fun F=>c2b (F:=F) (c:=c) (m:=m)
          refine FnF.mk' Tryz.func177 rfl rfl Tryz.ntmps177 rfl ?_
          by_cases hx:uV c m
          · simp only [hx,decide_true] at hU
            by_cases hy:m.words= .zero
            · repeat first|refine gd ?_|intro _|refine aD @hC ?_|refine aD @hN ?_|refine aD @hW ?_|refine aD @hF ?_|refine b6p ?_|refine mX @hU ?_
              simp only [c9,hy,decide_true]
              (apply aA rfl rfl bH;(first|exact oO|exact ⟨by simp [hmay,hx,hy]<;>omega,rfl⟩);exact jM)
            · repeat first|refine gd ?_|intro _|refine aD @hC ?_|refine aD @hN ?_|refine aD @hW ?_|refine aD @hF ?_|refine b6p ?_|refine mX @hU ?_
              try simp only [c9,hy,decide_false]
              (apply aA rfl rfl bH;(first|exact oO|exact ⟨by simp [hmay,hx,hy]<;>omega,rfl⟩);exact jM)
          · simp only [hx,decide_false] at hU
            repeat first|refine gd ?_|intro _|refine aD @hC ?_|refine aD @hN ?_|refine aD @hW ?_|refine aD @hF ?_|refine b6p ?_|refine mX @hU ?_
            (apply aA rfl rfl bH;(first|exact oO|exact ⟨by simp [hmay,hx]<;>omega,rfl⟩);exact jM)
        · have hmay:fG c m↔(zU c m false∧m.words= .zero):=by simp [fG,jY,iX,cK,iB,he,h,hl']
          have hfv:vI m.kind= .iface 303 (.agg #[.bool false]):=by rw [h];rfl
          simp only [hfv] at hF
          have hU:=fun F=>a9s (F:=F) (c:=c) (m:=m) (a:=false) h0
          refine FnF.mk' Tryz.func177 rfl rfl Tryz.ntmps177 rfl ?_
          by_cases hx:zU c m false
          · simp only [hx,decide_true] at hU
            by_cases hy:m.words= .zero
            · repeat first|refine gd ?_|intro _|refine aD @hC ?_|refine aD @hN ?_|refine aD @hW ?_|refine aD @hF ?_|refine b6p ?_|refine mX @hU ?_
              simp only [c9,hy,decide_true]
              (apply aA rfl rfl bH;(first|exact oO|exact ⟨by simp [hmay,hx,hy]<;>omega,rfl⟩);exact jM)
            · repeat first|refine gd ?_|intro _|refine aD @hC ?_|refine aD @hN ?_|refine aD @hW ?_|refine aD @hF ?_|refine b6p ?_|refine mX @hU ?_
              try simp only [c9,hy,decide_false]
              (apply aA rfl rfl bH;(first|exact oO|exact ⟨by simp [hmay,hx,hy]<;>omega,rfl⟩);exact jM)
          · simp only [hx,decide_false] at hU
            repeat first|refine gd ?_|intro _|refine aD @hC ?_|refine aD @hN ?_|refine aD @hW ?_|refine aD @hF ?_|refine b6p ?_|refine mX @hU ?_
            (apply aA rfl rfl bH;(first|exact oO|exact ⟨by simp [hmay,hx]<;>omega,rfl⟩);exact jM)
        · have hmay:fG c m↔(e6p c m∧m.words= .zero):=by simp [fG,jY,iX,cK,iB,he,h,hl']
          have hfv:vI m.kind= .iface 297 (.agg #[]):=by rw [h];rfl
          simp only [hfv] at hF
          have hU:=fun F=>b6q (F:=F) (c:=c) (m:=m) h0
          refine FnF.mk' Tryz.func177 rfl rfl Tryz.ntmps177 rfl ?_
          by_cases hx:e6p c m
          · simp only [hx,decide_true] at hU
            by_cases hy:m.words= .zero
            · repeat first|refine gd ?_|intro _|refine aD @hC ?_|refine aD @hN ?_|refine aD @hW ?_|refine aD @hF ?_|refine b6p ?_|refine mX @hU ?_
              simp only [c9,hy,decide_true]
              (apply aA rfl rfl bH;(first|exact oO|exact ⟨by simp [hmay,hx,hy]<;>omega,rfl⟩);exact jM)
            · repeat first|refine gd ?_|intro _|refine aD @hC ?_|refine aD @hN ?_|refine aD @hW ?_|refine aD @hF ?_|refine b6p ?_|refine mX @hU ?_
              try simp only [c9,hy,decide_false]
              (apply aA rfl rfl bH;(first|exact oO|exact ⟨by simp [hmay,hx,hy]<;>omega,rfl⟩);exact jM)
          · simp only [hx,decide_false] at hU
            repeat first|refine gd ?_|intro _|refine aD @hC ?_|refine aD @hN ?_|refine aD @hW ?_|refine aD @hF ?_|refine b6p ?_|refine mX @hU ?_
            (apply aA rfl rfl bH;(first|exact oO|exact ⟨by simp [hmay,hx]<;>omega,rfl⟩);exact jM)
      · simp only [hl,decide_false] at hW
        have hno:¬fG c m:=fun h=>hl h.2.2.1
        refine FnF.mk' Tryz.func177 rfl rfl Tryz.ntmps177 rfl ?_
        repeat first|refine gd ?_|intro _|refine aD @hC ?_|refine aD @hN ?_|refine aD @hW ?_
        (apply aA rfl rfl bH;(first|exact oO|exact ⟨by simp [hno]<;>omega,rfl⟩);exact jM)
    · have hnk:c6 m.kind= -1:=by unfold c6;rw [if_neg (om),if_neg (om),if_neg (om)]
      have hno:¬fG c m:=fun h=>hk h.2.1
      simp only [hnk] at hN
      refine FnF.mk' Tryz.func177 rfl rfl Tryz.ntmps177 rfl ?_
      repeat first|refine gd ?_|intro _|refine aD @hC ?_|refine aD @hN ?_
      (apply aA rfl rfl bH;(first|exact oO|exact ⟨by simp [hno]<;>omega,rfl⟩);exact jM)
  · simp only [eD,if_neg he] at hC
    have hno:¬fG c m:=fun h=>he h.1
    refine FnF.mk' Tryz.func177 rfl rfl Tryz.ntmps177 rfl ?_
    repeat first|refine gd ?_|intro _|refine aD @hC ?_
    (apply aA rfl rfl bH;(first|exact oO|exact ⟨by simp [hno]<;>omega,rfl⟩);exact jM)
end
end Go.Sx
