/- Msg3: several of my texts as one. My own work. -/
import Derived.Test.YtjihlpjnebdiiaaGreatZr
import Derived.Test.YtjihlpjnebdiiaaGreatZag
set_option linter.unusedVariables false
set_option linter.unusedSectionVars false
set_option linter.unusedSimpArgs false
/- Messages, third part: May. My own work. -/
namespace Go.Sx
open Go Go.Proofs
theorem cfg_bnd {c:Cfg} (h:checkB c=true):(1≤c.cores∧c.cores≤64)∧(1≤c.homes∧c.homes≤16)∧(1≤c.words∧c.words≤8)∧(1≤c.lines∧c.lines≤1024):=by
  simp only [checkB,fitsB,Bool.and_eq_true,decide_eq_true_eq] at h
  omega
theorem words_zero (w:Words):([Value.int .i64 w.w0,Value.int .i64 w.w1,Value.int .i64 w.w2,Value.int .i64 w.w3,Value.int .i64 w.w4,Value.int .i64 w.w5,Value.int .i64 w.w6,Value.int .i64 w.w7]=[Value.int .i64 0,Value.int .i64 0,Value.int .i64 0,Value.int .i64 0,Value.int .i64 0,Value.int .i64 0,Value.int .i64 0,Value.int .i64 0])↔w= .zero:=by
  cases w;simp [Words.zero]
set_option maxRecDepth 100000
set_option maxHeartbeats 4000000
attribute [local irreducible] Go.Exit.then Go.Exit.inBlock Go.Code.wp WC WO WE WQ V LoopQ FnQ Sat Star band bor IntKind.wrap WR Code.rounds WT KO
theorem msg_May {F:List HP} {c:Cfg} {m:Msg} (hc:c.wf):FnF Tryz.prog 177 [c.val,mv m] [] F (fun r L'=>r= .bool (decide (MayP c m))∧L'=[]):=by
  have hC:=fun F=>shape_Check (F:=F) hc
  have hW:=fun F=>msg_within (F:=F) (n:=m.line) (k:=c.lines)
  have hN:=fun F=>msg_Net (F:=F) (k:=m.kind)
  have hF:=fun F=>msg_formed (F:=F) (k:=m.kind)
  by_cases he:checkB c=true
  · simp only [checkE,he,if_true] at hC
    obtain ⟨b1,b2,b3,b4⟩:=cfg_bnd he
    have h0:c.homes≠0:=by omega
    by_cases hk:1≤m.kind∧m.kind≤11
    · have hnk:netK m.kind=0∨netK m.kind=1∨netK m.kind=2:=by unfold netK;split<;>(try split)<;>(try split)<;>omega
      by_cases hl:InP m.line c.lines
      · simp only [hl,decide_true] at hW
        have hl':0≤m.line∧m.line<c.lines:=hl
        have hcase:m.kind=1∨m.kind=2∨m.kind=3∨m.kind=4∨m.kind=5∨m.kind=6∨m.kind=7∨m.kind=8∨m.kind=9∨m.kind=10∨m.kind=11:=by omega
        rcases hcase with h|h|h|h|h|h|h|h|h|h|h
        · have hmay:MayP c m↔(UpP c m∧m.words= .zero):=by simp [MayP,FormP,WordsP,HomeP,Wordy,he,h,hl']
          have hfv:formV m.kind= .iface 297 (.agg #[]):=by rw [h];rfl
          simp only [hfv] at hF
          have hU:=fun F=>msg_up (F:=F) (c:=c) (m:=m) h0
          refine FnF.mk' Tryz.func177 rfl rfl Tryz.ntmps177 rfl ?_
          by_cases hx:UpP c m
          · simp only [hx,decide_true] at hU
            by_cases hy:m.words= .zero
            · repeat (first|refine gd ?_|intro _|refine cal @hC ?_|refine cal @hN ?_|refine cal @hW ?_|refine cal @hF ?_|refine str ?_|refine cali @hU ?_)
              simp only [words_zero,hy,decide_true]
              (apply WE_ret rfl rfl zqR;(first|exact zqL|exact ⟨by simp [hmay,hx,hy]<;>omega,rfl⟩);exact zqN)
            · repeat (first|refine gd ?_|intro _|refine cal @hC ?_|refine cal @hN ?_|refine cal @hW ?_|refine cal @hF ?_|refine str ?_|refine cali @hU ?_)
              try simp only [words_zero,hy,decide_false]
              (apply WE_ret rfl rfl zqR;(first|exact zqL|exact ⟨by simp [hmay,hx,hy]<;>omega,rfl⟩);exact zqN)
          · simp only [hx,decide_false] at hU
            repeat (first|refine gd ?_|intro _|refine cal @hC ?_|refine cal @hN ?_|refine cal @hW ?_|refine cal @hF ?_|refine str ?_|refine cali @hU ?_)
            (apply WE_ret rfl rfl zqR;(first|exact zqL|exact ⟨by simp [hmay,hx]<;>omega,rfl⟩);exact zqN)
        · have hmay:MayP c m↔(UpP c m∧m.words= .zero):=by simp [MayP,FormP,WordsP,HomeP,Wordy,he,h,hl']
          have hfv:formV m.kind= .iface 297 (.agg #[]):=by rw [h];rfl
          simp only [hfv] at hF
          have hU:=fun F=>msg_up (F:=F) (c:=c) (m:=m) h0
          refine FnF.mk' Tryz.func177 rfl rfl Tryz.ntmps177 rfl ?_
          by_cases hx:UpP c m
          · simp only [hx,decide_true] at hU
            by_cases hy:m.words= .zero
            · repeat (first|refine gd ?_|intro _|refine cal @hC ?_|refine cal @hN ?_|refine cal @hW ?_|refine cal @hF ?_|refine str ?_|refine cali @hU ?_)
              simp only [words_zero,hy,decide_true]
              (apply WE_ret rfl rfl zqR;(first|exact zqL|exact ⟨by simp [hmay,hx,hy]<;>omega,rfl⟩);exact zqN)
            · repeat (first|refine gd ?_|intro _|refine cal @hC ?_|refine cal @hN ?_|refine cal @hW ?_|refine cal @hF ?_|refine str ?_|refine cali @hU ?_)
              try simp only [words_zero,hy,decide_false]
              (apply WE_ret rfl rfl zqR;(first|exact zqL|exact ⟨by simp [hmay,hx,hy]<;>omega,rfl⟩);exact zqN)
          · simp only [hx,decide_false] at hU
            repeat (first|refine gd ?_|intro _|refine cal @hC ?_|refine cal @hN ?_|refine cal @hW ?_|refine cal @hF ?_|refine str ?_|refine cali @hU ?_)
            (apply WE_ret rfl rfl zqR;(first|exact zqL|exact ⟨by simp [hmay,hx]<;>omega,rfl⟩);exact zqN)
        · have hmay:MayP c m↔(UpP c m∧ValsP c m.words):=by simp [MayP,FormP,WordsP,HomeP,Wordy,he,h,hl']
          have hfv:formV m.kind= .iface 299 (.agg #[]):=by rw [h];rfl
          simp only [hfv] at hF
          have hU:=fun F=>msg_up (F:=F) (c:=c) (m:=m) h0
          refine FnF.mk' Tryz.func177 rfl rfl Tryz.ntmps177 rfl ?_
          by_cases hx:UpP c m
          · simp only [hx,decide_true] at hU
            by_cases hy:ValsP c m.words
            · have hV:=fun F=>msg_pwords (F:=F) (c:=c) (m:=m)
              simp only [hy,decide_true] at hV
              repeat (first|refine gd ?_|intro _|refine cal @hC ?_|refine cal @hN ?_|refine cal @hW ?_|refine cal @hF ?_|refine str ?_|refine cali @hU ?_|refine cali @hV ?_)
              (apply WE_ret rfl rfl zqR;(first|exact zqL|exact ⟨by simp [hmay,hx,hy]<;>omega,rfl⟩);exact zqN)
            · have hV:=fun F=>msg_pwords (F:=F) (c:=c) (m:=m)
              simp only [hy,decide_false] at hV
              repeat (first|refine gd ?_|intro _|refine cal @hC ?_|refine cal @hN ?_|refine cal @hW ?_|refine cal @hF ?_|refine str ?_|refine cali @hU ?_|refine cali @hV ?_)
              (apply WE_ret rfl rfl zqR;(first|exact zqL|exact ⟨by simp [hmay,hx,hy]<;>omega,rfl⟩);exact zqN)
          · simp only [hx,decide_false] at hU
            repeat (first|refine gd ?_|intro _|refine cal @hC ?_|refine cal @hN ?_|refine cal @hW ?_|refine cal @hF ?_|refine str ?_|refine cali @hU ?_)
            (apply WE_ret rfl rfl zqR;(first|exact zqL|exact ⟨by simp [hmay,hx]<;>omega,rfl⟩);exact zqN)
        · have hmay:MayP c m↔(ForwardP c m false∧m.words= .zero):=by simp [MayP,FormP,WordsP,HomeP,Wordy,he,h,hl']
          have hfv:formV m.kind= .iface 301 (.agg #[.bool false]):=by rw [h];rfl
          simp only [hfv] at hF
          have hU:=fun F=>msg_forward (F:=F) (c:=c) (m:=m) (a:=false) h0
          refine FnF.mk' Tryz.func177 rfl rfl Tryz.ntmps177 rfl ?_
          by_cases hx:ForwardP c m false
          · simp only [hx,decide_true] at hU
            by_cases hy:m.words= .zero
            · repeat (first|refine gd ?_|intro _|refine cal @hC ?_|refine cal @hN ?_|refine cal @hW ?_|refine cal @hF ?_|refine str ?_|refine cali @hU ?_)
              simp only [words_zero,hy,decide_true]
              (apply WE_ret rfl rfl zqR;(first|exact zqL|exact ⟨by simp [hmay,hx,hy]<;>omega,rfl⟩);exact zqN)
            · repeat (first|refine gd ?_|intro _|refine cal @hC ?_|refine cal @hN ?_|refine cal @hW ?_|refine cal @hF ?_|refine str ?_|refine cali @hU ?_)
              try simp only [words_zero,hy,decide_false]
              (apply WE_ret rfl rfl zqR;(first|exact zqL|exact ⟨by simp [hmay,hx,hy]<;>omega,rfl⟩);exact zqN)
          · simp only [hx,decide_false] at hU
            repeat (first|refine gd ?_|intro _|refine cal @hC ?_|refine cal @hN ?_|refine cal @hW ?_|refine cal @hF ?_|refine str ?_|refine cali @hU ?_)
            (apply WE_ret rfl rfl zqR;(first|exact zqL|exact ⟨by simp [hmay,hx]<;>omega,rfl⟩);exact zqN)
        · have hmay:MayP c m↔(ForwardP c m true∧m.words= .zero):=by simp [MayP,FormP,WordsP,HomeP,Wordy,he,h,hl']
          have hfv:formV m.kind= .iface 301 (.agg #[.bool true]):=by rw [h];rfl
          simp only [hfv] at hF
          have hU:=fun F=>msg_forward (F:=F) (c:=c) (m:=m) (a:=true) h0
          refine FnF.mk' Tryz.func177 rfl rfl Tryz.ntmps177 rfl ?_
          by_cases hx:ForwardP c m true
          · simp only [hx,decide_true] at hU
            by_cases hy:m.words= .zero
            · repeat (first|refine gd ?_|intro _|refine cal @hC ?_|refine cal @hN ?_|refine cal @hW ?_|refine cal @hF ?_|refine str ?_|refine cali @hU ?_)
              simp only [words_zero,hy,decide_true]
              (apply WE_ret rfl rfl zqR;(first|exact zqL|exact ⟨by simp [hmay,hx,hy]<;>omega,rfl⟩);exact zqN)
            · repeat (first|refine gd ?_|intro _|refine cal @hC ?_|refine cal @hN ?_|refine cal @hW ?_|refine cal @hF ?_|refine str ?_|refine cali @hU ?_)
              try simp only [words_zero,hy,decide_false]
              (apply WE_ret rfl rfl zqR;(first|exact zqL|exact ⟨by simp [hmay,hx,hy]<;>omega,rfl⟩);exact zqN)
          · simp only [hx,decide_false] at hU
            repeat (first|refine gd ?_|intro _|refine cal @hC ?_|refine cal @hN ?_|refine cal @hW ?_|refine cal @hF ?_|refine str ?_|refine cali @hU ?_)
            (apply WE_ret rfl rfl zqR;(first|exact zqL|exact ⟨by simp [hmay,hx]<;>omega,rfl⟩);exact zqN)
        · have hmay:MayP c m↔(ForwardP c m false∧m.words= .zero):=by simp [MayP,FormP,WordsP,HomeP,Wordy,he,h,hl']
          have hfv:formV m.kind= .iface 301 (.agg #[.bool false]):=by rw [h];rfl
          simp only [hfv] at hF
          have hU:=fun F=>msg_forward (F:=F) (c:=c) (m:=m) (a:=false) h0
          refine FnF.mk' Tryz.func177 rfl rfl Tryz.ntmps177 rfl ?_
          by_cases hx:ForwardP c m false
          · simp only [hx,decide_true] at hU
            by_cases hy:m.words= .zero
            · repeat (first|refine gd ?_|intro _|refine cal @hC ?_|refine cal @hN ?_|refine cal @hW ?_|refine cal @hF ?_|refine str ?_|refine cali @hU ?_)
              simp only [words_zero,hy,decide_true]
              (apply WE_ret rfl rfl zqR;(first|exact zqL|exact ⟨by simp [hmay,hx,hy]<;>omega,rfl⟩);exact zqN)
            · repeat (first|refine gd ?_|intro _|refine cal @hC ?_|refine cal @hN ?_|refine cal @hW ?_|refine cal @hF ?_|refine str ?_|refine cali @hU ?_)
              try simp only [words_zero,hy,decide_false]
              (apply WE_ret rfl rfl zqR;(first|exact zqL|exact ⟨by simp [hmay,hx,hy]<;>omega,rfl⟩);exact zqN)
          · simp only [hx,decide_false] at hU
            repeat (first|refine gd ?_|intro _|refine cal @hC ?_|refine cal @hN ?_|refine cal @hW ?_|refine cal @hF ?_|refine str ?_|refine cali @hU ?_)
            (apply WE_ret rfl rfl zqR;(first|exact zqL|exact ⟨by simp [hmay,hx]<;>omega,rfl⟩);exact zqN)
        · have hmay:MayP c m↔(DataP c m∧ValsP c m.words):=by simp [MayP,FormP,WordsP,HomeP,Wordy,he,h,hl']
          have hfv:formV m.kind= .iface 302 (.agg #[]):=by rw [h];rfl
          simp only [hfv] at hF
          have hU:=fun F=>msg_data (F:=F) (c:=c) (m:=m) h0
          refine FnF.mk' Tryz.func177 rfl rfl Tryz.ntmps177 rfl ?_
          by_cases hx:DataP c m
          · simp only [hx,decide_true] at hU
            by_cases hy:ValsP c m.words
            · have hV:=fun F=>msg_dwords (F:=F) (c:=c) (m:=m)
              simp only [hy,decide_true] at hV
              repeat (first|refine gd ?_|intro _|refine cal @hC ?_|refine cal @hN ?_|refine cal @hW ?_|refine cal @hF ?_|refine str ?_|refine cali @hU ?_|refine cali @hV ?_)
              (apply WE_ret rfl rfl zqR;(first|exact zqL|exact ⟨by simp [hmay,hx,hy]<;>omega,rfl⟩);exact zqN)
            · have hV:=fun F=>msg_dwords (F:=F) (c:=c) (m:=m)
              simp only [hy,decide_false] at hV
              repeat (first|refine gd ?_|intro _|refine cal @hC ?_|refine cal @hN ?_|refine cal @hW ?_|refine cal @hF ?_|refine str ?_|refine cali @hU ?_|refine cali @hV ?_)
              (apply WE_ret rfl rfl zqR;(first|exact zqL|exact ⟨by simp [hmay,hx,hy]<;>omega,rfl⟩);exact zqN)
          · simp only [hx,decide_false] at hU
            repeat (first|refine gd ?_|intro _|refine cal @hC ?_|refine cal @hN ?_|refine cal @hW ?_|refine cal @hF ?_|refine str ?_|refine cali @hU ?_)
            (apply WE_ret rfl rfl zqR;(first|exact zqL|exact ⟨by simp [hmay,hx]<;>omega,rfl⟩);exact zqN)
        · have hmay:MayP c m↔(DownP c m true∧m.words= .zero):=by simp [MayP,FormP,WordsP,HomeP,Wordy,he,h,hl']
          have hfv:formV m.kind= .iface 303 (.agg #[.bool true]):=by rw [h];rfl
          simp only [hfv] at hF
          have hU:=fun F=>msg_down (F:=F) (c:=c) (m:=m) (a:=true) h0
          refine FnF.mk' Tryz.func177 rfl rfl Tryz.ntmps177 rfl ?_
          by_cases hx:DownP c m true
          · simp only [hx,decide_true] at hU
            by_cases hy:m.words= .zero
            · repeat (first|refine gd ?_|intro _|refine cal @hC ?_|refine cal @hN ?_|refine cal @hW ?_|refine cal @hF ?_|refine str ?_|refine cali @hU ?_)
              simp only [words_zero,hy,decide_true]
              (apply WE_ret rfl rfl zqR;(first|exact zqL|exact ⟨by simp [hmay,hx,hy]<;>omega,rfl⟩);exact zqN)
            · repeat (first|refine gd ?_|intro _|refine cal @hC ?_|refine cal @hN ?_|refine cal @hW ?_|refine cal @hF ?_|refine str ?_|refine cali @hU ?_)
              try simp only [words_zero,hy,decide_false]
              (apply WE_ret rfl rfl zqR;(first|exact zqL|exact ⟨by simp [hmay,hx,hy]<;>omega,rfl⟩);exact zqN)
          · simp only [hx,decide_false] at hU
            repeat (first|refine gd ?_|intro _|refine cal @hC ?_|refine cal @hN ?_|refine cal @hW ?_|refine cal @hF ?_|refine str ?_|refine cali @hU ?_)
            (apply WE_ret rfl rfl zqR;(first|exact zqL|exact ⟨by simp [hmay,hx]<;>omega,rfl⟩);exact zqN)
        · have hmay:MayP c m↔(AcrossP c m∧m.words= .zero):=by simp [MayP,FormP,WordsP,HomeP,Wordy,he,h,hl']
          have hfv:formV m.kind= .iface 304 (.agg #[]):=by rw [h];rfl
          simp only [hfv] at hF
          have hU:=fun F=>msg_across (F:=F) (c:=c) (m:=m)
          refine FnF.mk' Tryz.func177 rfl rfl Tryz.ntmps177 rfl ?_
          by_cases hx:AcrossP c m
          · simp only [hx,decide_true] at hU
            by_cases hy:m.words= .zero
            · repeat (first|refine gd ?_|intro _|refine cal @hC ?_|refine cal @hN ?_|refine cal @hW ?_|refine cal @hF ?_|refine str ?_|refine cali @hU ?_)
              simp only [words_zero,hy,decide_true]
              (apply WE_ret rfl rfl zqR;(first|exact zqL|exact ⟨by simp [hmay,hx,hy]<;>omega,rfl⟩);exact zqN)
            · repeat (first|refine gd ?_|intro _|refine cal @hC ?_|refine cal @hN ?_|refine cal @hW ?_|refine cal @hF ?_|refine str ?_|refine cali @hU ?_)
              try simp only [words_zero,hy,decide_false]
              (apply WE_ret rfl rfl zqR;(first|exact zqL|exact ⟨by simp [hmay,hx,hy]<;>omega,rfl⟩);exact zqN)
          · simp only [hx,decide_false] at hU
            repeat (first|refine gd ?_|intro _|refine cal @hC ?_|refine cal @hN ?_|refine cal @hW ?_|refine cal @hF ?_|refine str ?_|refine cali @hU ?_)
            (apply WE_ret rfl rfl zqR;(first|exact zqL|exact ⟨by simp [hmay,hx]<;>omega,rfl⟩);exact zqN)
        · have hmay:MayP c m↔(DownP c m false∧m.words= .zero):=by simp [MayP,FormP,WordsP,HomeP,Wordy,he,h,hl']
          have hfv:formV m.kind= .iface 303 (.agg #[.bool false]):=by rw [h];rfl
          simp only [hfv] at hF
          have hU:=fun F=>msg_down (F:=F) (c:=c) (m:=m) (a:=false) h0
          refine FnF.mk' Tryz.func177 rfl rfl Tryz.ntmps177 rfl ?_
          by_cases hx:DownP c m false
          · simp only [hx,decide_true] at hU
            by_cases hy:m.words= .zero
            · repeat (first|refine gd ?_|intro _|refine cal @hC ?_|refine cal @hN ?_|refine cal @hW ?_|refine cal @hF ?_|refine str ?_|refine cali @hU ?_)
              simp only [words_zero,hy,decide_true]
              (apply WE_ret rfl rfl zqR;(first|exact zqL|exact ⟨by simp [hmay,hx,hy]<;>omega,rfl⟩);exact zqN)
            · repeat (first|refine gd ?_|intro _|refine cal @hC ?_|refine cal @hN ?_|refine cal @hW ?_|refine cal @hF ?_|refine str ?_|refine cali @hU ?_)
              try simp only [words_zero,hy,decide_false]
              (apply WE_ret rfl rfl zqR;(first|exact zqL|exact ⟨by simp [hmay,hx,hy]<;>omega,rfl⟩);exact zqN)
          · simp only [hx,decide_false] at hU
            repeat (first|refine gd ?_|intro _|refine cal @hC ?_|refine cal @hN ?_|refine cal @hW ?_|refine cal @hF ?_|refine str ?_|refine cali @hU ?_)
            (apply WE_ret rfl rfl zqR;(first|exact zqL|exact ⟨by simp [hmay,hx]<;>omega,rfl⟩);exact zqN)
        · have hmay:MayP c m↔(UpP c m∧m.words= .zero):=by simp [MayP,FormP,WordsP,HomeP,Wordy,he,h,hl']
          have hfv:formV m.kind= .iface 297 (.agg #[]):=by rw [h];rfl
          simp only [hfv] at hF
          have hU:=fun F=>msg_up (F:=F) (c:=c) (m:=m) h0
          refine FnF.mk' Tryz.func177 rfl rfl Tryz.ntmps177 rfl ?_
          by_cases hx:UpP c m
          · simp only [hx,decide_true] at hU
            by_cases hy:m.words= .zero
            · repeat (first|refine gd ?_|intro _|refine cal @hC ?_|refine cal @hN ?_|refine cal @hW ?_|refine cal @hF ?_|refine str ?_|refine cali @hU ?_)
              simp only [words_zero,hy,decide_true]
              (apply WE_ret rfl rfl zqR;(first|exact zqL|exact ⟨by simp [hmay,hx,hy]<;>omega,rfl⟩);exact zqN)
            · repeat (first|refine gd ?_|intro _|refine cal @hC ?_|refine cal @hN ?_|refine cal @hW ?_|refine cal @hF ?_|refine str ?_|refine cali @hU ?_)
              try simp only [words_zero,hy,decide_false]
              (apply WE_ret rfl rfl zqR;(first|exact zqL|exact ⟨by simp [hmay,hx,hy]<;>omega,rfl⟩);exact zqN)
          · simp only [hx,decide_false] at hU
            repeat (first|refine gd ?_|intro _|refine cal @hC ?_|refine cal @hN ?_|refine cal @hW ?_|refine cal @hF ?_|refine str ?_|refine cali @hU ?_)
            (apply WE_ret rfl rfl zqR;(first|exact zqL|exact ⟨by simp [hmay,hx]<;>omega,rfl⟩);exact zqN)
      · simp only [hl,decide_false] at hW
        have hno:¬MayP c m:=fun h=>hl h.2.2.1
        refine FnF.mk' Tryz.func177 rfl rfl Tryz.ntmps177 rfl ?_
        repeat (first|refine gd ?_|intro _|refine cal @hC ?_|refine cal @hN ?_|refine cal @hW ?_)
        (apply WE_ret rfl rfl zqR;(first|exact zqL|exact ⟨by simp [hno]<;>omega,rfl⟩);exact zqN)
    · have hnk:netK m.kind= -1:=by unfold netK;rw [if_neg (by omega),if_neg (by omega),if_neg (by omega)]
      have hno:¬MayP c m:=fun h=>hk h.2.1
      simp only [hnk] at hN
      refine FnF.mk' Tryz.func177 rfl rfl Tryz.ntmps177 rfl ?_
      repeat (first|refine gd ?_|intro _|refine cal @hC ?_|refine cal @hN ?_)
      (apply WE_ret rfl rfl zqR;(first|exact zqL|exact ⟨by simp [hno]<;>omega,rfl⟩);exact zqN)
  · simp only [checkE,if_neg he] at hC
    have hno:¬MayP c m:=fun h=>he h.1
    refine FnF.mk' Tryz.func177 rfl rfl Tryz.ntmps177 rfl ?_
    repeat (first|refine gd ?_|intro _|refine cal @hC ?_)
    (apply WE_ret rfl rfl zqR;(first|exact zqL|exact ⟨by simp [hno]<;>omega,rfl⟩);exact zqN)
end Go.Sx
