/- Contracts of functions, by program (gen.py). No condition. -/
import Derived.Test.YtpfihfiimeepfaaGreatDoorZL
import Derived.Test.YtpfihfiimeepfaaGreatDoorZM
import Derived.Test.YtpfihfiimeepfaaGreatDoorZCB
import Derived.Test.YtpfihfiimeepfaaGreatDoorZC7
import Derived.Test.YtpfihfiimeepfaaGreatDoorZS5
namespace Go.Proofs.Tryz
open Go Go.Abs Go.Stop
set_option maxRecDepth 8000
set_option linter.unusedVariables false
set_option linter.unusedSimpArgs false
theorem P157 (v_1 : Thistory_view) (runner_2 : Int) (r_3 : TOutcome) (h : M157 v_1 runner_2 = some r_3) :
    PC prog 59 [(eThistory_view v_1), (.i .i64 runner_2)] (fun rs => rs = [(eTOutcome r_3)]) := by
 refine PC.of_tr (cx := ⟨17, none, lay, 0⟩) layOK func59 rfl rfl rfl rfl rfl (by simp [f59]) ?_
 unfold M157 at h
 refine sg ?_
 conv=>whnf
 refine sd [(12,1)] [(0,3),(1,1),(2,1),(3,3),(4,3),(5,3),(6,1),(7,2),(8,2),(9,2),(10,2),(11,2),(12,0)] ?_
 conv=>whnf
 refine q2 ?_
 conv=>whnf
 refine q1 ?_
 conv=>whnf
 obtain ⟨r_4, hc5, h⟩ := bS h
 refine q1 ?_ (fun _ => pe (P156 v_1 runner_2 r_4 hc5) rr)
 conv=>whnf
 refine q2 ?_
 conv=>whnf
 refine q2 ?_
 conv=>whnf
 refine q2 ?_
 conv=>whnf
 refine q1 ?_
 conv=>whnf
 obtain ⟨x_6, hx_6, h⟩ := bS h
 refine q3 (ixP_of hx_6 rr) ?_
 conv=>whnf
 refine q2 ?_
 conv=>whnf
 refine q2 ?_
 conv=>whnf
 obtain ⟨x_7, hx_7, h⟩ := bS h
 refine q3 (ixP_of hx_7 rr) ?_
 conv=>whnf
 refine q2 ?_
 conv=>whnf
 refine ⟨_, _, rr, kp_ok (by repeat (first | exact trivial | refine ⟨trivial, ?_⟩ | refine ⟨rfl, ?_⟩)), ?_⟩
 conv=>whnf
 refine Tr.ret ?_
 conv=>whnf
 cases h
 rfl
theorem P160 (f_1 : TField) (h_2 : THistory) (r_3 : Thistory_view) (r_4 : Int) (h : M160 f_1 h_2 = some (r_3, r_4)) :
    PC prog 30 [(eTField f_1), (eTHistory h_2)] (fun rs => rs = [(eThistory_view r_3), (.i .i64 r_4)]) := by
 refine PC.of_tr (cx := ⟨105, none, lay, 0⟩) layOK func30 rfl rfl rfl rfl rfl (by simp [f30]) ?_
 unfold M160 at h
 refine sg ?_
 conv=>whnf
 refine Tr.seq ?_
 refine sg ?_
 conv=>whnf
 obtain ⟨r_5, hc6, h⟩ := bS h
 refine PC.ecall (P49 f_1 r_5 hc6) (fun rs hrs => ?_)
 subst hrs
 conv=>whnf
 refine Tr.cond ?_
 conv=>whnf
 refine cB h (fun hb7 h => ?_) (fun hb7 h => ?_)
 ·refine sg ?_
  conv=>whnf
  refine orB_l ?_
  conv=>whnf
  refine Tr.ret ?_
  conv=>whnf
  cases h
  rfl
 refine Tr.skip ?_
 conv=>whnf
 refine sg ?_
 conv=>whnf
 refine Tr.seq ?_
 refine Tr.seq ?_
 obtain ⟨v_8, hv9, h⟩ := bS h
 refine Tr.cutQ1 ([(3, .pt 0 0), (4, .pt 1 0), (5, (dI 0)), (60, .d (.b v_8))]) ([some (.var [(dI h_2.World), .d (.ls (List.map eI h_2.Offsets)), .d (.ls (List.map eTChoice h_2.Choices))]), some (.var [.d (.ls (List.map eTSegment f_1.Clocks.Segments)), .d (.ls (List.map (eL eI) f_1.Clocks.Far)), .d (.ls (List.map eTPair f_1.Pairs)), .d (.ls (List.map eTRunner f_1.Runners)), (dI h_2.World), .d (.ls (List.map eI h_2.Offsets)), .d (.ls (List.map eTChoice h_2.Choices))])]) ?_ (fun T1 H1 hw => ?_)
 ·replace h := hv9; clear hv9
  refine rg ?_
  conv=>whnf
  refine cB h (fun hb10 h => ?_) (fun hb10 h => ?_)
  ·conv=>whnf
   cases h
   exact Wk.mk2 [1, 2] 3 rfl rfl (by decide) rfl ⟨rr, rr, trivial⟩ ⟨⟨rfl, (by first | rfl | (simp only [↓hb7, ↓hb10, bl]; done) | (simp only [↓hb7, ↓hb10, bl]; rfl))⟩, ⟨rfl, (by first | rfl | (simp only [↓hb7, ↓hb10, bl]; done) | (simp only [↓hb7, ↓hb10, bl]; rfl))⟩, rr, rr, trivial⟩
  conv=>whnf
  refine lnS_map ?_
  conv=>whnf
  refine cB h (fun hb11 h => ?_) (fun hb11 h => ?_)
  ·conv=>whnf
   cases h
   exact Wk.mk2 [1, 2] 3 rfl rfl (by decide) rfl ⟨rr, rr, trivial⟩ ⟨⟨rfl, (by first | rfl | (simp only [↓hb7, ↓hb10, ↓hb11, bl]; done) | (simp only [↓hb7, ↓hb10, ↓hb11, bl]; rfl))⟩, ⟨rfl, (by first | rfl | (simp only [↓hb7, ↓hb10, ↓hb11, bl]; done) | (simp only [↓hb7, ↓hb10, ↓hb11, bl]; rfl))⟩, rr, rr, trivial⟩
  conv=>whnf
  obtain ⟨r_12, hc13, h⟩ := bS h
  refine PC.ecall (P145 f_1 h_2.World r_12 hc13) (fun rs hrs => ?_)
  subst hrs
  conv=>whnf
  refine cB h (fun hb14 h => ?_) (fun hb14 h => ?_)
  ·conv=>whnf
   cases h
   exact Wk.mk2 [1, 2] 3 rfl rfl (by decide) rfl ⟨rr, rr, trivial⟩ ⟨⟨rfl, (by first | rfl | (simp only [↓hb7, ↓hb10, ↓hb11, ↓hb14, bl]; done) | (simp only [↓hb7, ↓hb10, ↓hb11, ↓hb14, bl]; rfl))⟩, ⟨rfl, (by first | rfl | (simp only [↓hb7, ↓hb10, ↓hb11, ↓hb14, bl]; done) | (simp only [↓hb7, ↓hb10, ↓hb11, ↓hb14, bl]; rfl))⟩, rr, rr, trivial⟩
  conv=>whnf
  refine lnS_map ?_
  conv=>whnf
  refine lnS_map ?_
  conv=>whnf
  refine cB h (fun hb15 h => ?_) (fun hb15 h => ?_)
  ·conv=>whnf
   cases h
   exact Wk.mk2 [1, 2] 3 rfl rfl (by decide) rfl ⟨rr, rr, trivial⟩ ⟨⟨rfl, (by first | rfl | (simp only [↓hb7, ↓hb10, ↓hb11, ↓hb14, ↓hb15, bl]; done) | (simp only [↓hb7, ↓hb10, ↓hb11, ↓hb14, ↓hb15, bl]; rfl))⟩, ⟨rfl, (by first | rfl | (simp only [↓hb7, ↓hb10, ↓hb11, ↓hb14, ↓hb15, bl]; done) | (simp only [↓hb7, ↓hb10, ↓hb11, ↓hb14, ↓hb15, bl]; rfl))⟩, rr, rr, trivial⟩
  conv=>whnf
  refine lnS_map ?_
  conv=>whnf
  refine lnS_map ?_
  conv=>whnf
  refine cB h (fun hb16 h => ?_) (fun hb16 h => ?_)
  ·conv=>whnf
   cases h
   exact Wk.mk2 [1, 2] 3 rfl rfl (by decide) rfl ⟨rr, rr, trivial⟩ ⟨⟨rfl, (by first | rfl | (simp only [↓hb7, ↓hb10, ↓hb11, ↓hb14, ↓hb15, ↓hb16, bl]; done) | (simp only [↓hb7, ↓hb10, ↓hb11, ↓hb14, ↓hb15, ↓hb16, bl]; rfl))⟩, ⟨rfl, (by first | rfl | (simp only [↓hb7, ↓hb10, ↓hb11, ↓hb14, ↓hb15, ↓hb16, bl]; done) | (simp only [↓hb7, ↓hb10, ↓hb11, ↓hb14, ↓hb15, ↓hb16, bl]; rfl))⟩, rr, rr, trivial⟩
  conv=>whnf
  obtain ⟨r_17, hc18, h⟩ := bS h
  refine PC.ecall (P155 f_1.Clocks h_2.Offsets r_17 hc18) (fun rs hrs => ?_)
  subst hrs
  conv=>whnf
  cases h
  exact Wk.mk2 [1, 2] 3 rfl rfl (by decide) rfl ⟨rr, rr, trivial⟩ ⟨⟨rfl, (by first | rfl | (simp only [↓hb7, ↓hb10, ↓hb11, ↓hb14, ↓hb15, ↓hb16, bl]; done) | (simp only [↓hb7, ↓hb10, ↓hb11, ↓hb14, ↓hb15, ↓hb16, bl]; rfl))⟩, ⟨rfl, (by first | rfl | (simp only [↓hb7, ↓hb10, ↓hb11, ↓hb14, ↓hb15, ↓hb16, bl]; done) | (simp only [↓hb7, ↓hb10, ↓hb11, ↓hb14, ↓hb15, ↓hb16, bl]; rfl))⟩, rr, rr, trivial⟩
 clear hv9
 conv=>whnf
 refine Tr.weak hw ?_
 refine Tr.cond ?_
 conv=>whnf
 refine cB h (fun hb19 h => ?_) (fun hb19 h => ?_)
 ·refine sg ?_
  conv=>whnf
  refine Tr.ret ?_
  conv=>whnf
  cases h
  rfl
 refine Tr.skip ?_
 conv=>whnf
 refine Tr.seq ?_
 refine sg ?_
 conv=>whnf
 refine lnS_map ?_
 conv=>whnf
 refine Tr.cutQ (α := Unit) (fun s => ([(4, .pt 0 0), (5, (dI 0))], [some (.var [.d (.ls (List.map eTSegment f_1.Clocks.Segments)), .d (.ls (List.map (eL eI) f_1.Clocks.Far)), .d (.ls (List.map eTPair f_1.Pairs)), .d (.ls (List.map eTRunner f_1.Runners)), (dI h_2.World), .d (.ls (List.map eI h_2.Offsets)), .d (.ls (List.map eTChoice h_2.Choices))])])) (fun s => M159 f_1 h_2 s = some (r_3, r_4)) ?_ ?_
 ·refine Tr.block ?_
  refine Tr.loopM (σ := Int) (fun n s => M158 f_1 h_2 (M159 f_1 h_2) n s) (r_3, r_4) (fun s => ([(4, .pt 0 0), (5, (dI 0)), (63, .d (.ls (List.map eTChoice h_2.Choices))), (64, (dI (((h_2.Choices).length : Int)))), (65, (dI s))], [some (.var [.d (.ls (List.map eTSegment f_1.Clocks.Segments)), .d (.ls (List.map (eL eI) f_1.Clocks.Far)), .d (.ls (List.map eTPair f_1.Pairs)), .d (.ls (List.map eTRunner f_1.Runners)), (dI h_2.World), .d (.ls (List.map eI h_2.Offsets)), .d (.ls (List.map eTChoice h_2.Choices))])])) (((((h_2.Choices).length : Int)) - 0 : Int).toNat + 1) (0) h (fun s => rfl) (Wk.mk2 [1] 2 rfl rfl (by decide) rfl ⟨rr, trivial⟩ ⟨⟨rfl, (by first | rfl | (simp only [↓hb7, ↓hb19, bl]; done) | (simp only [↓hb7, ↓hb19, bl]; rfl))⟩, rr, rr, rr, rr, trivial⟩) ?_
  clear h
  rintro n_22 v_21 h
  replace h : M158 f_1 h_2 (M159 f_1 h_2) (n_22 + 1) v_21 = some (r_3, r_4) := h
  rw [M158] at h
  refine sg ?_
  conv=>whnf
  refine Tr.seq ?_
  refine Tr.cond ?_
  conv=>whnf
  refine cB h (fun hb25 h => ?_) (fun hb25 h => ?_)
  ·refine Tr.skip ?_
   conv=>whnf
   refine Tr.seq ?_
   refine Tr.block ?_
   refine sg ?_
   conv=>whnf
   obtain ⟨x_26, hx_26, h⟩ := bS h
   refine ixP_of hx_26 ?_
   conv=>whnf
   refine Tr.seq ?_
   refine sd [] [(0,4),(1,4),(2,1),(3,1),(4,4),(5,4),(6,3),(7,1),(8,1),(9,2),(10,1),(11,1)] ?_
   conv=>whnf
   refine q2 ?_
   conv=>whnf
   refine q2 ?_
   conv=>whnf
   refine q1 ?_
   conv=>whnf
   refine q1 ?_
   conv=>whnf
   refine cB h (fun hb27 h => ?_) (fun hb27 h => ?_)
   ·conv=>whnf
    refine q1 ?_
    conv=>whnf
    refine Tr.cond ?_
    conv=>whnf
    refine sg ?_
    conv=>whnf
    refine Tr.ret ?_
    conv=>whnf
    cases h
    rfl
   conv=>whnf
   refine q2 ?_
   conv=>whnf
   refine q2 ?_
   conv=>whnf
   refine q2 ?_
   conv=>whnf
   refine q1 ?_
   conv=>whnf
   obtain ⟨r_28, hc29, h⟩ := bS h
   refine q1 ?_ (fun _ => pe (P156 ({ f := f_1, h := h_2 } : Thistory_view) v_21 r_28 hc29) rr)
   conv=>whnf
   refine q3 (lnS_map rr) ?_
   conv=>whnf
   refine q1 ?_
   conv=>whnf
   refine q1 ?_
   conv=>whnf
   refine Tr.cond ?_
   conv=>whnf
   refine cB h (fun hb30 h => ?_) (fun hb30 h => ?_)
   ·refine sg ?_
    conv=>whnf
    refine Tr.ret ?_
    conv=>whnf
    cases h
    rfl
   refine Tr.skip ?_
   conv=>whnf
   refine sg ?_
   conv=>whnf
   obtain ⟨r_31, hc32, h⟩ := bS h
   refine PC.ecall (P157 ({ f := f_1, h := h_2 } : Thistory_view) v_21 r_31 hc32) (fun rs hrs => ?_)
   subst hrs
   conv=>whnf
   refine Tr.seq ?_
   refine sg ?_
   conv=>whnf
   refine Tr.cond ?_
   conv=>whnf
   refine cB h (fun hb33 h => ?_) (fun hb33 h => ?_)
   ·refine rg ?_
    conv=>whnf
    refine sg ?_
    conv=>whnf
    refine cB h (fun hb34 h => ?_) (fun hb34 h => ?_)
    ·conv=>whnf
     refine Tr.cond ?_
     conv=>whnf
     refine sg ?_
     conv=>whnf
     refine Tr.ret ?_
     conv=>whnf
     cases h
     rfl
    conv=>whnf
    refine Tr.cond ?_
    conv=>whnf
    refine cB h (fun hb35 h => ?_) (fun hb35 h => ?_)
    ·refine sg ?_
     conv=>whnf
     refine Tr.ret ?_
     conv=>whnf
     cases h
     rfl
    refine Tr.skip ?_
    conv=>whnf
    refine rg ?_
    conv=>whnf
    refine arS_raw ?_
    conv=>whnf
    refine ⟨((w64 (v_21 + 1))), h, ?_⟩
    exact Wk.mk2 [0] 3 rfl rfl (by decide) rfl ⟨rr, trivial⟩ ⟨rr, rr, rr, rr, rr, trivial⟩
   refine Tr.skip ?_
   conv=>whnf
   refine sg ?_
   conv=>whnf
   refine cB h (fun hb36 h => ?_) (fun hb36 h => ?_)
   ·conv=>whnf
    refine Tr.cond ?_
    conv=>whnf
    refine sg ?_
    conv=>whnf
    refine Tr.ret ?_
    conv=>whnf
    cases h
    rfl
   conv=>whnf
   refine Tr.cond ?_
   conv=>whnf
   refine cB h (fun hb37 h => ?_) (fun hb37 h => ?_)
   ·refine sg ?_
    conv=>whnf
    refine Tr.ret ?_
    conv=>whnf
    cases h
    rfl
   refine Tr.skip ?_
   conv=>whnf
   refine rg ?_
   conv=>whnf
   refine arS_raw ?_
   conv=>whnf
   refine ⟨((w64 (v_21 + 1))), h, ?_⟩
   exact Wk.mk2 [0] 3 rfl rfl (by decide) rfl ⟨rr, trivial⟩ ⟨rr, rr, rr, rr, rr, trivial⟩
  refine Tr.exit ?_
  conv=>whnf
  refine ⟨(), h, ?_⟩
  exact Wk.mk2 [0] 1 rfl rfl (by decide) rfl ⟨rr, trivial⟩ ⟨rr, rr, trivial⟩
 clear h
 rintro _ h T1 H1 hw
 replace h : M159 f_1 h_2 () = some (r_3, r_4) := h
 conv=>whnf
 refine Tr.weak hw ?_
 unfold M159 at h
 refine sg ?_
 conv=>whnf
 refine Tr.ret ?_
 conv=>whnf
 cases h
 rfl
theorem P161 (f_1 : TField) (h_2 : THistory) (r_3 : Int) (h : M161 f_1 h_2 = some r_3) :
    PC prog 13 [(eTField f_1), (eTHistory h_2)] (fun rs => rs = [(.i .i64 r_3)]) := by
 refine PC.of_tr (cx := ⟨12, none, lay, 0⟩) layOK func13 rfl rfl rfl rfl rfl (by simp [f13]) ?_
 unfold M161 at h
 refine sg ?_
 conv=>whnf
 refine sg ?_
 conv=>whnf
 obtain ⟨⟨r_4, r_5⟩, hc6, h⟩ := bS h
 refine PC.ecall (P160 f_1 h_2 r_4 r_5 hc6) (fun rs hrs => ?_)
 subst hrs
 conv=>whnf
 refine sg ?_
 conv=>whnf
 refine Tr.ret ?_
 conv=>whnf
 cases h
 rfl
theorem P162 (f_1 : TField) (h_2 : THistory) (runner_3 : Int) (r_4 : Thistory_view) (r_5 : Int) (h : M162 f_1 h_2 runner_3 = some (r_4, r_5)) :
    PC prog 62 [(eTField f_1), (eTHistory h_2), (.i .i64 runner_3)] (fun rs => rs = [(eThistory_view r_4), (.i .i64 r_5)]) := by
 refine PC.of_tr (cx := ⟨29, none, lay, 0⟩) layOK func62 rfl rfl rfl rfl rfl (by simp [f62]) ?_
 unfold M162 at h
 refine sg ?_
 conv=>whnf
 refine Tr.seq ?_
 refine sg ?_
 conv=>whnf
 obtain ⟨⟨r_6, r_7⟩, hc8, h⟩ := bS h
 refine PC.ecall (P160 f_1 h_2 r_6 r_7 hc8) (fun rs hrs => ?_)
 subst hrs
 conv=>whnf
 refine sg ?_
 conv=>whnf
 refine cB h (fun hb9 h => ?_) (fun hb9 h => ?_)
 ·conv=>whnf
  refine cB h (fun hb10 h => ?_) (fun hb10 h => ?_)
  ·conv=>whnf
   refine Tr.cond ?_
   conv=>whnf
   refine rg ?_
   conv=>whnf
   refine sg ?_
   conv=>whnf
   refine Tr.ret ?_
   conv=>whnf
   cases h
   rfl
  conv=>whnf
  refine lnS_map ?_
  conv=>whnf
  refine Tr.cond ?_
  conv=>whnf
  refine cB h (fun hb11 h => ?_) (fun hb11 h => ?_)
  ·refine rg ?_
   conv=>whnf
   refine sg ?_
   conv=>whnf
   refine Tr.ret ?_
   conv=>whnf
   cases h
   rfl
  refine Tr.skip ?_
  conv=>whnf
  refine sg ?_
  conv=>whnf
  refine Tr.ret ?_
  conv=>whnf
  cases h
  rfl
 conv=>whnf
 refine Tr.cond ?_
 conv=>whnf
 refine Tr.skip ?_
 conv=>whnf
 refine sg ?_
 conv=>whnf
 refine Tr.ret ?_
 conv=>whnf
 cases h
 rfl
theorem P163 (v_1 : Thistory_view) (runner_2 : Int) (r_3 : Int) (r_4 : Bool) (h : M163 v_1 runner_2 = some (r_3, r_4)) :
    PC prog 63 [(eThistory_view v_1), (.i .i64 runner_2)] (fun rs => rs = [(.i .i64 r_3), (.b r_4)]) := by
 refine PC.of_tr (cx := ⟨32, none, lay, 0⟩) layOK func63 rfl rfl rfl rfl rfl (by simp [f63]) ?_
 unfold M163 at h
 refine sg ?_
 conv=>whnf
 refine sg ?_
 conv=>whnf
 obtain ⟨r_5, hc6, h⟩ := bS h
 refine PC.ecall (P157 v_1 runner_2 r_5 hc6) (fun rs hrs => ?_)
 subst hrs
 conv=>whnf
 refine Tr.seq ?_
 refine sg ?_
 conv=>whnf
 refine Tr.cond ?_
 conv=>whnf
 refine cB h (fun hb7 h => ?_) (fun hb7 h => ?_)
 ·refine sg ?_
  conv=>whnf
  refine Tr.ret ?_
  conv=>whnf
  cases h
  rfl
 refine Tr.skip ?_
 conv=>whnf
 refine sg ?_
 conv=>whnf
 obtain ⟨x_8, hx_8, h⟩ := bS h
 refine ixP_of hx_8 ?_
 conv=>whnf
 refine Tr.seq ?_
 refine sg ?_
 conv=>whnf
 refine Tr.cond ?_
 conv=>whnf
 refine cB h (fun hb9 h => ?_) (fun hb9 h => ?_)
 ·refine rg ?_
  conv=>whnf
  obtain ⟨x_10, hx_10, h⟩ := bS h
  refine ixP_of hx_10 ?_
  conv=>whnf
  refine arS_raw ?_
  conv=>whnf
  refine sg ?_
  conv=>whnf
  refine Tr.ret ?_
  conv=>whnf
  cases h
  rfl
 refine Tr.skip ?_
 conv=>whnf
 refine sg ?_
 conv=>whnf
 refine Tr.ret ?_
 conv=>whnf
 cases h
 rfl
theorem P164 (f_1 : TField) (h_2 : THistory) (runner_3 : Int) (r_4 : Int) (r_5 : Bool) (r_6 : Int) (h : M164 f_1 h_2 runner_3 = some (r_4, r_5, r_6)) :
    PC prog 32 [(eTField f_1), (eTHistory h_2), (.i .i64 runner_3)] (fun rs => rs = [(.i .i64 r_4), (.b r_5), (.i .i64 r_6)]) := by
 refine PC.of_tr (cx := ⟨28, none, lay, 0⟩) layOK func32 rfl rfl rfl rfl rfl (by simp [f32]) ?_
 unfold M164 at h
 refine sg ?_
 conv=>whnf
 refine sg ?_
 conv=>whnf
 obtain ⟨⟨r_7, r_8⟩, hc9, h⟩ := bS h
 refine PC.ecall (P162 f_1 h_2 runner_3 r_7 r_8 hc9) (fun rs hrs => ?_)
 subst hrs
 conv=>whnf
 refine Tr.seq ?_
 refine sg ?_
 conv=>whnf
 refine Tr.cond ?_
 conv=>whnf
 refine cB h (fun hb10 h => ?_) (fun hb10 h => ?_)
 ·refine sg ?_
  conv=>whnf
  refine Tr.ret ?_
  conv=>whnf
  cases h
  rfl
 refine Tr.skip ?_
 conv=>whnf
 refine sg ?_
 conv=>whnf
 obtain ⟨⟨r_11, r_12⟩, hc13, h⟩ := bS h
 refine PC.ecall (P163 r_7 runner_3 r_11 r_12 hc13) (fun rs hrs => ?_)
 subst hrs
 conv=>whnf
 refine sg ?_
 conv=>whnf
 refine Tr.ret ?_
 conv=>whnf
 cases h
 rfl
theorem P169 (f_1 : TField) (h_2 : THistory) (t_3 : TTeam) (r_4 : Int) (r_5 : Bool) (h : M169 f_1 h_2 t_3 = some (r_4, r_5)) :
    PC prog 15 [(eTField f_1), (eTHistory h_2), (eTTeam t_3)] (fun rs => rs = [(.i .i64 r_4), (.b r_5)]) := by
 refine PC.of_tr (cx := ⟨102, none, lay, 0⟩) layOK func15 rfl rfl rfl rfl rfl (by simp [f15]) ?_
 unfold M169 at h
 refine sg ?_
 conv=>whnf
 refine sg ?_
 conv=>whnf
 refine Tr.seq ?_
 refine sg ?_
 conv=>whnf
 refine Tr.cutQ (α := List Int) (fun s => ([(5, .pt 0 0), (6, (dI 0)), (7, .d (.b false)), (8, .sl 1 1 0 (List.length s))], [some (.var [.d (.s t_3.Name), .d (.ls (List.map eI t_3.Bibs)), (dI t_3.Best)]), some (.arr 1 (List.map .d (List.map eI s)))])) (fun s => M168 t_3 s = some (r_4, r_5)) ?_ ?_
 ·refine Tr.block ?_
  refine Tr.loopM (σ := Int × List Int) (fun n s => M166 f_1 h_2 t_3 (M168 t_3) n s.1 s.2) (r_4, r_5) (fun s => ([(3, .pt 0 0), (4, .pt 1 0), (5, .pt 2 0), (6, (dI 0)), (7, .d (.b false)), (8, .sl 3 1 0 (List.length s.2)), (9, (dI s.1))], [some (.var [.d (.ls (List.map eTSegment f_1.Clocks.Segments)), .d (.ls (List.map (eL eI) f_1.Clocks.Far)), .d (.ls (List.map eTPair f_1.Pairs)), .d (.ls (List.map eTRunner f_1.Runners))]), some (.var [(dI h_2.World), .d (.ls (List.map eI h_2.Offsets)), .d (.ls (List.map eTChoice h_2.Choices))]), some (.var [.d (.s t_3.Name), .d (.ls (List.map eI t_3.Bibs)), (dI t_3.Best)]), some (.arr 1 (List.map .d (List.map eI s.2)))])) (((((t_3.Bibs).length : Int)) - 0 : Int).toNat + 1) (0, (([] : List Int))) h (fun s => rfl) (Wk.mk2 [0, 1, 2, 3] 3 rfl rfl (by decide) rfl ⟨rr, rr, rr, rfl, trivial⟩ ⟨rr, rr, rr, rr, rr, ⟨rfl, (by first | rfl | simp)⟩, rr, trivial⟩) ?_
  clear h
  rintro n_10 ⟨i_8, l_9⟩ h
  replace h : M166 f_1 h_2 t_3 (M168 t_3) (n_10 + 1) i_8 l_9 = some (r_4, r_5) := h
  rw [M166] at h
  refine Tr.seq ?_
  refine sg ?_
  conv=>whnf
  refine lnS_map ?_
  conv=>whnf
  refine Tr.cond ?_
  conv=>whnf
  refine cB h (fun hb14 h => ?_) (fun hb14 h => ?_)
  ·refine Tr.skip ?_
   conv=>whnf
   refine Tr.seq ?_
   refine Tr.block ?_
   refine sd [] [(0,3),(1,5),(2,5),(3,1),(4,2),(5,2),(6,1),(7,1),(8,1),(9,1),(10,1),(11,1)] ?_
   conv=>whnf
   refine q2 ?_
   conv=>whnf
   refine q2 ?_
   conv=>whnf
   refine q2 ?_
   conv=>whnf
   refine q1 ?_
   conv=>whnf
   obtain ⟨x_15, hx_15, h⟩ := bS h
   refine q3 (ixP_of hx_15 rr) ?_
   conv=>whnf
   refine q2 ?_
   conv=>whnf
   obtain ⟨⟨r_16, r_17⟩, hc18, h⟩ := bS h
   refine q1 ?_ (fun _ => pe (P54 f_1 x_15 r_16 r_17 hc18) rr)
   conv=>whnf
   refine q1 ?_
   conv=>whnf
   refine q1 ?_
   conv=>whnf
   refine q1 ?_
   conv=>whnf
   refine q1 ?_
   conv=>whnf
   refine q1 ?_
   conv=>whnf
   refine Tr.seq ?_
   refine sg ?_
   conv=>whnf
   refine Tr.cond ?_
   conv=>whnf
   refine cB h (fun hb19 h => ?_) (fun hb19 h => ?_)
   ·refine sg ?_
    conv=>whnf
    refine Tr.ret ?_
    conv=>whnf
    cases h
    rfl
   refine Tr.skip ?_
   conv=>whnf
   refine sg ?_
   conv=>whnf
   obtain ⟨⟨r_20, r_21, r_22⟩, hc23, h⟩ := bS h
   refine PC.ecall (P164 f_1 h_2 r_16 r_20 r_21 r_22 hc23) (fun rs hrs => ?_)
   subst hrs
   conv=>whnf
   refine Tr.seq ?_
   refine sg ?_
   conv=>whnf
   refine cB h (fun hb24 h => ?_) (fun hb24 h => ?_)
   ·conv=>whnf
    refine Tr.cond ?_
    conv=>whnf
    refine Tr.exit ?_
    conv=>whnf
    refine rg ?_
    conv=>whnf
    refine arS_raw ?_
    conv=>whnf
    refine ⟨((w64 (i_8 + 1)), l_9), h, ?_⟩
    exact Wk.mk2 [0, 1, 2, 3] 4 rfl rfl (by decide) rfl ⟨rr, rr, rr, daS_d rfl, trivial⟩ ⟨rr, rr, rr, rr, rr, rr, rr, trivial⟩
   conv=>whnf
   refine Tr.cond ?_
   conv=>whnf
   refine cB h (fun hb25 h => ?_) (fun hb25 h => ?_)
   ·refine Tr.exit ?_
    conv=>whnf
    refine rg ?_
    conv=>whnf
    refine arS_raw ?_
    conv=>whnf
    refine ⟨((w64 (i_8 + 1)), l_9), h, ?_⟩
    exact Wk.mk2 [0, 1, 2, 3] 4 rfl rfl (by decide) rfl ⟨rr, rr, rr, daS_d rfl, trivial⟩ ⟨rr, rr, rr, rr, rr, rr, rr, trivial⟩
   refine Tr.skip ?_
   conv=>whnf
   refine sg ?_
   conv=>whnf
   refine Tr.seq ?_
   obtain ⟨k_29, hv35, h⟩ := bS h
   refine Tr.cutQ1 ([(3, .pt 0 0), (4, .pt 1 0), (5, .pt 2 0), (6, (dI 0)), (7, .d (.b false)), (8, .sl 3 1 0 (List.length l_9)), (9, (dI i_8)), (12, (dI r_20)), (15, (dI k_29))]) ([some (.var [.d (.ls (List.map eTSegment f_1.Clocks.Segments)), .d (.ls (List.map (eL eI) f_1.Clocks.Far)), .d (.ls (List.map eTPair f_1.Pairs)), .d (.ls (List.map eTRunner f_1.Runners))]), some (.var [(dI h_2.World), .d (.ls (List.map eI h_2.Offsets)), .d (.ls (List.map eTChoice h_2.Choices))]), some (.var [.d (.s t_3.Name), .d (.ls (List.map eI t_3.Bibs)), (dI t_3.Best)]), some (.arr 1 (List.map .d (List.map eI l_9)))]) ?_ (fun T1 H1 hw => ?_)
   ·replace h := hv35; clear hv35
    refine Tr.block ?_
    refine Tr.loopM (σ := Int) (fun n s => M165 l_9 r_20 n s) k_29 (fun s => ([(3, .pt 0 0), (4, .pt 1 0), (5, .pt 2 0), (6, (dI 0)), (7, .d (.b false)), (8, .sl 3 1 0 (List.length l_9)), (9, (dI i_8)), (12, (dI r_20)), (15, (dI s))], [some (.var [.d (.ls (List.map eTSegment f_1.Clocks.Segments)), .d (.ls (List.map (eL eI) f_1.Clocks.Far)), .d (.ls (List.map eTPair f_1.Pairs)), .d (.ls (List.map eTRunner f_1.Runners))]), some (.var [(dI h_2.World), .d (.ls (List.map eI h_2.Offsets)), .d (.ls (List.map eTChoice h_2.Choices))]), some (.var [.d (.s t_3.Name), .d (.ls (List.map eI t_3.Bibs)), (dI t_3.Best)]), some (.arr 1 (List.map .d (List.map eI l_9)))])) (((((l_9).length : Int)) - 0 : Int).toNat + 1) (0) h (fun s => rfl) (Wk.mk2 [0, 1, 2, 3] 4 rfl rfl (by decide) rfl ⟨rr, rr, rr, daS_d rfl, trivial⟩ ⟨rr, rr, rr, rr, rr, rr, rr, rr, rr, trivial⟩) ?_
    clear h
    rintro n_28 k_27 h
    replace h : M165 l_9 r_20 (n_28 + 1) k_27 = some k_29 := h
    rw [M165] at h
    refine Tr.seq ?_
    refine sg ?_
    conv=>whnf
    refine lnS_mk rfl ?_
    conv=>whnf
    refine cB h (fun hb32 h => ?_) (fun hb32 h => ?_)
    ·conv=>whnf
     obtain ⟨x_33, hx_33, h⟩ := bS h
     refine ixS_of hx_33 rfl ?_
     conv=>whnf
     refine elP_of hx_33 ?_
     conv=>whnf
     refine Tr.cond ?_
     conv=>whnf
     refine cB h (fun hb34 h => ?_) (fun hb34 h => ?_)
     ·refine Tr.skip ?_
      conv=>whnf
      refine Tr.block ?_
      refine rg ?_
      conv=>whnf
      refine arS_raw ?_
      conv=>whnf
      refine ⟨((w64 (k_27 + 1))), h, ?_⟩
      exact Wk.mk2 [0, 1, 2, 3] 4 rfl rfl (by decide) rfl ⟨rr, rr, rr, daS_d rfl, trivial⟩ ⟨rr, rr, rr, rr, rr, rr, rr, rr, rr, trivial⟩
     refine Tr.exit ?_
     conv=>whnf
     cases h
     exact Wk.mk2 [0, 1, 2, 3] 4 rfl rfl (by decide) rfl ⟨rr, rr, rr, daS_d rfl, trivial⟩ ⟨rr, rr, rr, rr, rr, rr, rr, rr, rr, trivial⟩
    conv=>whnf
    refine Tr.cond ?_
    conv=>whnf
    refine Tr.exit ?_
    conv=>whnf
    cases h
    exact Wk.mk2 [0, 1, 2, 3] 4 rfl rfl (by decide) rfl ⟨rr, rr, rr, daS_d rfl, trivial⟩ ⟨rr, rr, rr, rr, rr, rr, rr, rr, rr, trivial⟩
   clear hv35
   conv=>whnf
   refine Tr.weak hw ?_
   refine sg ?_
   conv=>whnf
   refine orB_l ?_
   conv=>whnf
   obtain ⟨l_36, hl_36, h⟩ := bS h
   refine orS_l ?_
   conv=>whnf
   refine slS_from hl_36 rfl rfl (fun he37 => ?_)
   conv=>whnf
   refine sxP_mk (List.map .d (List.map eI l_36)) (by simp only [Nat.zero_add, ← List.map_drop, ← he37]; exact List.take_of_length_le (by simp [he37])) (by simp [he37]) ?_
   conv=>whnf
   refine frP_no ?_
   conv=>whnf
   refine eqS_mk (by first | rfl | simp) ?_
   conv=>whnf
   obtain ⟨l_38, hl_38, h⟩ := bS h
   refine apS_of hl_38 (aQ (f := eI) (l := l_36) fun _ => rfl) (by first | rfl | simp) (by first | rfl | simp) (fun he => ?_)
   conv=>whnf
   refine rS (es' := List.map .d (List.map eI l_38)) (n' := List.length l_38) (by subst he; simp only [List.map_append, List.map_cons, List.map_nil, List.nil_append]; first | done | rfl) (by subst he; simp <;> omega) ?_
   clear he
   conv=>whnf
   refine rg ?_
   conv=>whnf
   obtain ⟨l_39, hl_39, h⟩ := bS h
   refine slS_to hl_39 rfl rfl (fun he => ?_)
   conv=>whnf
   refine orS_r ?_
   conv=>whnf
   refine rS (es' := List.map .d (List.map eI l_39)) (n' := List.length l_39) (by subst he; simp [List.map_take]) (by simp [slcTo_len hl_39]) ?_
   clear he
   conv=>whnf
   refine orB_r ?_
   conv=>whnf
   refine frP_no ?_
   conv=>whnf
   refine eqS_mk (by first | rfl | simp) ?_
   conv=>whnf
   obtain ⟨l_40, hl_40, h⟩ := bS h
   refine apS_of hl_40 (aQ (f := eI) (l := (([r_20] : List Int))) fun _ => rfl) (by first | rfl | simp) (by first | rfl | simp) (fun he => ?_)
   conv=>whnf
   refine rS (es' := List.map .d (List.map eI l_40)) (n' := List.length l_40) (by subst he; simp only [List.map_append, List.map_cons, List.map_nil, List.nil_append]; first | done | rfl) (by subst he; simp <;> omega) ?_
   clear he
   conv=>whnf
   refine sxP_all (by first | rfl | simp) ?_
   conv=>whnf
   refine frP_no ?_
   conv=>whnf
   refine eqS_mk (by first | rfl | simp) ?_
   conv=>whnf
   obtain ⟨l_41, hl_41, h⟩ := bS h
   refine apS_of hl_41 (aQ (f := eI) (l := l_38) fun _ => rfl) (by first | rfl | simp) (by first | rfl | simp) (fun he => ?_)
   conv=>whnf
   refine rS (es' := List.map .d (List.map eI l_41)) (n' := List.length l_41) (by subst he; simp only [List.map_append, List.map_cons, List.map_nil, List.nil_append]; first | done | rfl) (by subst he; simp <;> omega) ?_
   clear he
   conv=>whnf
   refine rg ?_
   conv=>whnf
   refine arS_raw ?_
   conv=>whnf
   refine ⟨((w64 (i_8 + 1)), l_41), h, ?_⟩
   exact Wk.mk2 [0, 1, 2, 7] 8 rfl rfl (by decide) rfl ⟨rr, rr, rr, daS_d rfl, trivial⟩ ⟨rr, rr, rr, rr, rr, ⟨rfl, (by first | rfl | (simp only [↓hb14, ↓hb19, ↓hb24, ↓hb25, bl]; done) | (simp only [↓hb14, ↓hb19, ↓hb24, ↓hb25, bl]; rfl))⟩, rr, trivial⟩
  refine Tr.exit ?_
  conv=>whnf
  refine ⟨(l_9), h, ?_⟩
  exact Wk.mk2 [2, 3] 4 rfl rfl (by decide) rfl ⟨rr, daS_d rfl, trivial⟩ ⟨⟨rfl, (by first | rfl | (simp only [↓hb14, bl]; done) | (simp only [↓hb14, bl]; rfl))⟩, rr, rr, ⟨rfl, (by first | rfl | (simp only [↓hb14, bl]; done) | (simp only [↓hb14, bl]; rfl))⟩, trivial⟩
 clear h
 rintro l_11 h T1 H1 hw
 replace h : M168 t_3 l_11 = some (r_4, r_5) := h
 conv=>whnf
 refine Tr.weak hw ?_
 unfold M168 at h
 refine Tr.seq ?_
 refine sg ?_
 conv=>whnf
 refine cB h (fun hb42 h => ?_) (fun hb42 h => ?_)
 ·conv=>whnf
  refine Tr.cond ?_
  conv=>whnf
  refine sg ?_
  conv=>whnf
  refine Tr.ret ?_
  conv=>whnf
  cases h
  rfl
 conv=>whnf
 refine lnS_mk rfl ?_
 conv=>whnf
 refine Tr.cond ?_
 conv=>whnf
 refine cB h (fun hb43 h => ?_) (fun hb43 h => ?_)
 ·refine sg ?_
  conv=>whnf
  refine Tr.ret ?_
  conv=>whnf
  cases h
  rfl
 refine Tr.skip ?_
 conv=>whnf
 refine sg ?_
 conv=>whnf
 refine Tr.seq ?_
 refine sg ?_
 conv=>whnf
 obtain ⟨sum_49, hv54, h⟩ := bS h
 refine Tr.cutQ1 ([(6, (dI 0)), (7, .d (.b false)), (17, (dI sum_49))]) ([]) ?_ (fun T1 H1 hw => ?_)
 ·replace h := hv54; clear hv54
  refine Tr.block ?_
  refine Tr.loopM (σ := Int × Int) (fun n s => M167 t_3 l_11 n s.1 s.2) sum_49 (fun s => ([(5, .pt 0 0), (6, (dI 0)), (7, .d (.b false)), (8, .sl 1 1 0 (List.length l_11)), (17, (dI s.1)), (18, (dI s.2))], [some (.var [.d (.s t_3.Name), .d (.ls (List.map eI t_3.Bibs)), (dI t_3.Best)]), some (.arr 1 (List.map .d (List.map eI l_11)))])) ((t_3.Best - 0 : Int).toNat + 1) (0, 0) h (fun s => rfl) (Wk.mk2 [0, 1] 2 rfl rfl (by decide) rfl ⟨rr, daS_d rfl, trivial⟩ ⟨rr, rr, rr, rr, rr, rr, trivial⟩) ?_
  clear h
  rintro n_48 ⟨sum_46, i_47⟩ h
  replace h : M167 t_3 l_11 (n_48 + 1) sum_46 i_47 = some sum_49 := h
  rw [M167] at h
  refine Tr.seq ?_
  refine sg ?_
  conv=>whnf
  refine Tr.cond ?_
  conv=>whnf
  refine cB h (fun hb52 h => ?_) (fun hb52 h => ?_)
  ·refine Tr.skip ?_
   conv=>whnf
   refine Tr.seq ?_
   refine Tr.block ?_
   refine rg ?_
   conv=>whnf
   obtain ⟨x_53, hx_53, h⟩ := bS h
   refine ixS_of hx_53 rfl ?_
   conv=>whnf
   refine elP_of hx_53 ?_
   conv=>whnf
   refine arS_raw ?_
   conv=>whnf
   refine rg ?_
   conv=>whnf
   refine arS_raw ?_
   conv=>whnf
   refine ⟨((w64 (sum_46 + x_53)), (w64 (i_47 + 1))), h, ?_⟩
   exact Wk.mk2 [0, 1] 2 rfl rfl (by decide) rfl ⟨rr, daS_d rfl, trivial⟩ ⟨rr, rr, rr, rr, rr, rr, trivial⟩
  refine Tr.exit ?_
  conv=>whnf
  cases h
  exact Wk.mk2 [] 2 rfl rfl (by decide) rfl trivial ⟨rr, rr, rr, trivial⟩
 clear hv54
 conv=>whnf
 refine Tr.weak hw ?_
 refine sg ?_
 conv=>whnf
 refine Tr.ret ?_
 conv=>whnf
 cases h
 rfl
theorem P173 (f_1 : TField) (l_2 : List TTeam) (h_3 : THistory) (at_4 : Int) (r_5 : Bool) (h : M173 f_1 l_2 h_3 at_4 = some r_5) :
    PC prog 3 [(eTField f_1), (.ls (List.map eTTeam l_2)), (eTHistory h_3), (.i .i64 at_4)] (fun rs => rs = [(.b r_5)]) := by
 refine PC.of_tr (cx := ⟨158, none, lay, 0⟩) layOK func3 rfl rfl rfl rfl rfl (by simp [f3]) ?_
 unfold M173 at h
 refine sg ?_
 conv=>whnf
 refine Tr.seq ?_
 refine sg ?_
 conv=>whnf
 obtain ⟨r_6, hc7, h⟩ := bS h
 refine PC.ecall (P105 r_6 hc7) (fun rs hrs => ?_)
 subst hrs
 conv=>whnf
 refine Tr.cond ?_
 conv=>whnf
 refine cB h (fun hb8 h => ?_) (fun hb8 h => ?_)
 ·refine sg ?_
  conv=>whnf
  refine Tr.ret ?_
  conv=>whnf
  cases h
  rfl
 refine Tr.skip ?_
 conv=>whnf
 refine Tr.seq ?_
 refine Tr.seq ?_
 obtain ⟨v_9, hv10, h⟩ := bS h
 refine Tr.cutQ1 ([(1, .d (.ls (List.map eTTeam l_2))), (3, (dI at_4)), (4, .pt 0 0), (6, .pt 1 0), (8, .d (.b false)), (45, .d (.b v_9))]) ([some (.var [.d (.ls (List.map eTSegment f_1.Clocks.Segments)), .d (.ls (List.map (eL eI) f_1.Clocks.Far)), .d (.ls (List.map eTPair f_1.Pairs)), .d (.ls (List.map eTRunner f_1.Runners))]), some (.var [(dI h_3.World), .d (.ls (List.map eI h_3.Offsets)), .d (.ls (List.map eTChoice h_3.Choices))])]) ?_ (fun T1 H1 hw => ?_)
 ·replace h := hv10; clear hv10
  refine rg ?_
  conv=>whnf
  obtain ⟨r_11, hc12, h⟩ := bS h
  refine PC.ecall (P112 f_1 r_11 hc12) (fun rs hrs => ?_)
  subst hrs
  conv=>whnf
  refine cB h (fun hb13 h => ?_) (fun hb13 h => ?_)
  ·conv=>whnf
   cases h
   exact Wk.mk2 [0, 1] 2 rfl rfl (by decide) rfl ⟨rr, rr, trivial⟩ ⟨rr, rr, rr, rr, rr, rr, trivial⟩
  conv=>whnf
  obtain ⟨r_14, hc15, h⟩ := bS h
  refine PC.ecall (P117 l_2 r_14 hc15) (fun rs hrs => ?_)
  subst hrs
  conv=>whnf
  refine cB h (fun hb16 h => ?_) (fun hb16 h => ?_)
  ·conv=>whnf
   cases h
   exact Wk.mk2 [0, 1] 2 rfl rfl (by decide) rfl ⟨rr, rr, trivial⟩ ⟨rr, rr, rr, rr, rr, rr, trivial⟩
  conv=>whnf
  refine cB h (fun hb17 h => ?_) (fun hb17 h => ?_)
  ·conv=>whnf
   cases h
   exact Wk.mk2 [0, 1] 2 rfl rfl (by decide) rfl ⟨rr, rr, trivial⟩ ⟨rr, rr, rr, rr, rr, rr, trivial⟩
  conv=>whnf
  refine lnS_map ?_
  conv=>whnf
  refine cB h (fun hb18 h => ?_) (fun hb18 h => ?_)
  ·conv=>whnf
   cases h
   exact Wk.mk2 [0, 1] 2 rfl rfl (by decide) rfl ⟨rr, rr, trivial⟩ ⟨rr, rr, rr, rr, rr, rr, trivial⟩
  conv=>whnf
  obtain ⟨r_19, hc20, h⟩ := bS h
  refine PC.ecall (P161 f_1 h_3 r_19 hc20) (fun rs hrs => ?_)
  subst hrs
  conv=>whnf
  cases h
  exact Wk.mk2 [0, 1] 2 rfl rfl (by decide) rfl ⟨rr, rr, trivial⟩ ⟨rr, rr, rr, rr, rr, rr, trivial⟩
 clear hv10
 conv=>whnf
 refine Tr.weak hw ?_
 refine Tr.cond ?_
 conv=>whnf
 refine cB h (fun hb21 h => ?_) (fun hb21 h => ?_)
 ·refine sg ?_
  conv=>whnf
  refine Tr.ret ?_
  conv=>whnf
  cases h
  rfl
 refine Tr.skip ?_
 conv=>whnf
 refine sg ?_
 conv=>whnf
 obtain ⟨⟨r_22, r_23, r_24⟩, hc25, h⟩ := bS h
 refine PC.ecall (P91 f_1 l_2 at_4 r_22 r_23 r_24 hc25) (fun rs hrs => ?_)
 subst hrs
 conv=>whnf
 refine Tr.seq ?_
 refine sg ?_
 conv=>whnf
 refine Tr.cond ?_
 conv=>whnf
 refine cB h (fun hb26 h => ?_) (fun hb26 h => ?_)
 ·refine sg ?_
  conv=>whnf
  refine cB h (fun hb27 h => ?_) (fun hb27 h => ?_)
  ·conv=>whnf
   refine Tr.ret ?_
   conv=>whnf
   cases h
   rfl
  conv=>whnf
  refine Tr.ret ?_
  conv=>whnf
  cases h
  rfl
 refine Tr.skip ?_
 conv=>whnf
 refine sd [] [(0,3),(1,4),(2,1),(3,1),(4,2),(5,2),(6,1),(7,1),(8,1),(9,1),(10,1),(11,1)] ?_
 conv=>whnf
 refine q2 ?_
 conv=>whnf
 refine q2 ?_
 conv=>whnf
 refine q1 ?_
 conv=>whnf
 refine q1 ?_
 conv=>whnf
 obtain ⟨x_28, hx_28, h⟩ := bS h
 refine q3 (ixP_of hx_28 rr) ?_
 conv=>whnf
 refine q2 ?_
 conv=>whnf
 obtain ⟨⟨r_29, r_30⟩, hc31, h⟩ := bS h
 refine q1 ?_ (fun _ => pe (P169 f_1 h_3 x_28 r_29 r_30 hc31) rr)
 conv=>whnf
 refine q1 ?_
 conv=>whnf
 refine q1 ?_
 conv=>whnf
 refine q1 ?_
 conv=>whnf
 refine q1 ?_
 conv=>whnf
 refine q1 ?_
 conv=>whnf
 refine sg ?_
 conv=>whnf
 refine Tr.seq ?_
 refine sg ?_
 conv=>whnf
 refine Tr.cutQ (α := Int) (fun s => ([(8, .d (.b false)), (9, (dI r_22)), (10, (dI r_23)), (13, .d (.b r_30)), (14, (dI s))], [])) (fun s => M172 r_22 r_23 r_30 s = some r_5) ?_ ?_
 ·refine Tr.block ?_
  refine Tr.loopM (σ := Int × Int) (fun n s => M171 f_1 l_2 h_3 r_29 r_30 (M172 r_22 r_23 r_30) n s.1 s.2) r_5 (fun s => ([(1, .d (.ls (List.map eTTeam l_2))), (4, .pt 0 0), (6, .pt 1 0), (8, .d (.b false)), (9, (dI r_22)), (10, (dI r_23)), (12, (dI r_29)), (13, .d (.b r_30)), (14, (dI s.1)), (15, (dI s.2))], [some (.var [.d (.ls (List.map eTSegment f_1.Clocks.Segments)), .d (.ls (List.map (eL eI) f_1.Clocks.Far)), .d (.ls (List.map eTPair f_1.Pairs)), .d (.ls (List.map eTRunner f_1.Runners))]), some (.var [(dI h_3.World), .d (.ls (List.map eI h_3.Offsets)), .d (.ls (List.map eTChoice h_3.Choices))])])) (((((l_2).length : Int)) - 0 : Int).toNat + 1) (1, 0) h (fun s => rfl) (Wk.mk2 [0, 1] 2 rfl rfl (by decide) rfl ⟨rr, rr, trivial⟩ ⟨rr, rr, rr, rr, rr, rr, rr, rr, rr, rr, trivial⟩) ?_
  clear h
  rintro n_36 ⟨rank_34, i_35⟩ h
  replace h : M171 f_1 l_2 h_3 r_29 r_30 (M172 r_22 r_23 r_30) (n_36 + 1) rank_34 i_35 = some r_5 := h
  rw [M171] at h
  refine Tr.seq ?_
  refine sg ?_
  conv=>whnf
  refine lnS_map ?_
  conv=>whnf
  refine Tr.cond ?_
  conv=>whnf
  refine cB h (fun hb40 h => ?_) (fun hb40 h => ?_)
  ·refine Tr.skip ?_
   conv=>whnf
   refine Tr.seq ?_
   refine Tr.cutQ (α := Int) (fun s => ([(1, .d (.ls (List.map eTTeam l_2))), (4, .pt 0 0), (6, .pt 1 0), (8, .d (.b false)), (9, (dI r_22)), (10, (dI r_23)), (12, (dI r_29)), (13, .d (.b r_30)), (14, (dI s)), (15, (dI i_35))], [some (.var [.d (.ls (List.map eTSegment f_1.Clocks.Segments)), .d (.ls (List.map (eL eI) f_1.Clocks.Far)), .d (.ls (List.map eTPair f_1.Pairs)), .d (.ls (List.map eTRunner f_1.Runners))]), some (.var [(dI h_3.World), .d (.ls (List.map eI h_3.Offsets)), .d (.ls (List.map eTChoice h_3.Choices))])])) (fun s => M170 i_35 (M171 f_1 l_2 h_3 r_29 r_30 (M172 r_22 r_23 r_30) n_36) s = some r_5) ?_ ?_
   ·refine Tr.block ?_
    refine sd [(10,2)] [(0,3),(1,1),(2,1),(3,2),(4,2),(5,1),(6,1),(7,1),(8,1),(9,0),(10,0),(11,1)] ?_
    conv=>whnf
    refine q2 ?_
    conv=>whnf
    refine q1 ?_
    conv=>whnf
    refine q1 ?_
    conv=>whnf
    obtain ⟨x_42, hx_42, h⟩ := bS h
    refine q3 (ixP_of hx_42 rr) ?_
    conv=>whnf
    refine q2 ?_
    conv=>whnf
    obtain ⟨⟨r_43, r_44⟩, hc45, h⟩ := bS h
    refine q1 ?_ (fun _ => pe (P82 f_1 x_42 r_43 r_44 hc45) rr)
    conv=>whnf
    refine q1 ?_
    conv=>whnf
    refine q1 ?_
    conv=>whnf
    refine q1 ?_
    conv=>whnf
    refine ⟨_, _, rr, kp_ok (by repeat (first | exact trivial | refine ⟨trivial, ?_⟩ | refine ⟨rfl, ?_⟩)), ?_⟩
    conv=>whnf
    refine ⟨_, _, rr, kp_ok (by repeat (first | exact trivial | refine ⟨trivial, ?_⟩ | refine ⟨rfl, ?_⟩)), ?_⟩
    conv=>whnf
    refine q1 ?_
    conv=>whnf
    refine sd [] [(0,3),(1,4),(2,1),(3,1),(4,2),(5,2),(6,1),(7,1),(8,1),(9,1),(10,1),(11,1)] ?_
    conv=>whnf
    refine q2 ?_
    conv=>whnf
    refine q2 ?_
    conv=>whnf
    refine q1 ?_
    conv=>whnf
    refine q1 ?_
    conv=>whnf
    obtain ⟨x_46, hx_46, h⟩ := bS h
    refine q3 (ixP_of hx_46 rr) ?_
    conv=>whnf
    refine q2 ?_
    conv=>whnf
    obtain ⟨⟨r_47, r_48⟩, hc49, h⟩ := bS h
    refine q1 ?_ (fun _ => pe (P169 f_1 h_3 x_46 r_47 r_48 hc49) rr)
    conv=>whnf
    refine q1 ?_
    conv=>whnf
    refine q1 ?_
    conv=>whnf
    refine q1 ?_
    conv=>whnf
    refine q1 ?_
    conv=>whnf
    refine q1 ?_
    conv=>whnf
    refine Tr.seq ?_
    refine Tr.seq ?_
    obtain ⟨v_50, hv51, h⟩ := bS h
    refine Tr.cutQ1 ([(1, .d (.ls (List.map eTTeam l_2))), (4, .pt 0 0), (6, .pt 1 0), (8, .d (.b false)), (9, (dI r_22)), (10, (dI r_23)), (12, (dI r_29)), (13, .d (.b r_30)), (14, (dI rank_34)), (15, (dI i_35)), (18, (dI r_47)), (19, .d (.b r_48)), (134, .d (.b v_50))]) ([some (.var [.d (.ls (List.map eTSegment f_1.Clocks.Segments)), .d (.ls (List.map (eL eI) f_1.Clocks.Far)), .d (.ls (List.map eTPair f_1.Pairs)), .d (.ls (List.map eTRunner f_1.Runners))]), some (.var [(dI h_3.World), .d (.ls (List.map eI h_3.Offsets)), .d (.ls (List.map eTChoice h_3.Choices))])]) ?_ (fun T1 H1 hw => ?_)
    ·replace h := hv51; clear hv51
     refine rg ?_
     conv=>whnf
     refine cB h (fun hb52 h => ?_) (fun hb52 h => ?_)
     ·conv=>whnf
      cases h
      exact Wk.mk2 [0, 1] 3 rfl rfl (by decide) rfl ⟨rr, rr, trivial⟩ ⟨rr, rr, rr, rr, rr, rr, rr, rr, rr, rr, rr, rr, rr, trivial⟩
     conv=>whnf
     refine cB h (fun hb53 h => ?_) (fun hb53 h => ?_)
     ·conv=>whnf
      refine cB h (fun hb54 h => ?_) (fun hb54 h => ?_)
      ·conv=>whnf
       cases h
       exact Wk.mk2 [0, 1] 3 rfl rfl (by decide) rfl ⟨rr, rr, trivial⟩ ⟨rr, rr, rr, rr, rr, rr, rr, rr, rr, rr, rr, rr, rr, trivial⟩
      conv=>whnf
      refine condS_kf (by simpa using hb53) ?_
      conv=>whnf
      cases h
      exact Wk.mk2 [0, 1] 3 rfl rfl (by decide) rfl ⟨rr, rr, trivial⟩ ⟨rr, rr, rr, rr, rr, rr, rr, rr, rr, rr, rr, rr, rr, trivial⟩
     conv=>whnf
     refine condS_kt (by simpa using hb53) ?_
     conv=>whnf
     refine lnS_map ?_
     conv=>whnf
     refine cB h (fun hb55 h => ?_) (fun hb55 h => ?_)
     ·conv=>whnf
      cases h
      exact Wk.mk2 [0, 1] 3 rfl rfl (by decide) rfl ⟨rr, rr, trivial⟩ ⟨rr, rr, rr, rr, rr, rr, rr, rr, rr, rr, rr, rr, rr, trivial⟩
     conv=>whnf
     obtain ⟨x_56, hx_56, h⟩ := bS h
     refine ixP_of hx_56 ?_
     conv=>whnf
     refine cB h (fun hb57 h => ?_) (fun hb57 h => ?_)
     ·conv=>whnf
      cases h
      exact Wk.mk2 [0, 1] 3 rfl rfl (by decide) rfl ⟨rr, rr, trivial⟩ ⟨rr, rr, rr, rr, rr, rr, rr, rr, rr, rr, rr, rr, rr, trivial⟩
     conv=>whnf
     obtain ⟨x_58, hx_58, h⟩ := bS h
     refine ixP_of hx_58 ?_
     conv=>whnf
     cases h
     exact Wk.mk2 [0, 1] 3 rfl rfl (by decide) rfl ⟨rr, rr, trivial⟩ ⟨rr, rr, rr, rr, rr, rr, rr, rr, rr, rr, rr, rr, rr, trivial⟩
    clear hv51
    conv=>whnf
    refine Tr.weak hw ?_
    refine Tr.cond ?_
    conv=>whnf
    refine cB h (fun hb59 h => ?_) (fun hb59 h => ?_)
    ·refine sg ?_
     conv=>whnf
     refine Tr.ret ?_
     conv=>whnf
     cases h
     rfl
    refine Tr.skip ?_
    conv=>whnf
    refine sg ?_
    conv=>whnf
    refine cB h (fun hb60 h => ?_) (fun hb60 h => ?_)
    ·conv=>whnf
     refine cB h (fun hb61 h => ?_) (fun hb61 h => ?_)
     ·conv=>whnf
      refine Tr.cond ?_
      conv=>whnf
      refine cB h (fun hb62 h => ?_) (fun hb62 h => ?_)
      ·refine rg ?_
       conv=>whnf
       refine arS_raw ?_
       conv=>whnf
       refine ⟨((w64 (rank_34 + 1))), h, ?_⟩
       exact Wk.mk2 [0, 1] 2 rfl rfl (by decide) rfl ⟨rr, rr, trivial⟩ ⟨rr, rr, rr, rr, rr, rr, rr, rr, rr, rr, trivial⟩
      refine Tr.skip ?_
      conv=>whnf
      refine ⟨(rank_34), h, ?_⟩
      exact Wk.mk2 [0, 1] 2 rfl rfl (by decide) rfl ⟨rr, rr, trivial⟩ ⟨rr, rr, rr, rr, rr, rr, rr, rr, rr, rr, trivial⟩
     conv=>whnf
     refine Tr.cond ?_
     conv=>whnf
     refine Tr.skip ?_
     conv=>whnf
     refine ⟨(rank_34), h, ?_⟩
     exact Wk.mk2 [0, 1] 2 rfl rfl (by decide) rfl ⟨rr, rr, trivial⟩ ⟨rr, rr, rr, rr, rr, rr, rr, rr, rr, rr, trivial⟩
    conv=>whnf
    refine Tr.cond ?_
    conv=>whnf
    refine Tr.skip ?_
    conv=>whnf
    refine ⟨(rank_34), h, ?_⟩
    exact Wk.mk2 [0, 1] 2 rfl rfl (by decide) rfl ⟨rr, rr, trivial⟩ ⟨rr, rr, rr, rr, rr, rr, rr, rr, rr, rr, trivial⟩
   clear h
   rintro rank_41 h T1 H1 hw
   replace h : M170 i_35 (M171 f_1 l_2 h_3 r_29 r_30 (M172 r_22 r_23 r_30) n_36) rank_41 = some r_5 := h
   conv=>whnf
   refine Tr.weak hw ?_
   unfold M170 at h
   refine rg ?_
   conv=>whnf
   refine arS_raw ?_
   conv=>whnf
   refine ⟨(rank_41, (w64 (i_35 + 1))), h, ?_⟩
   exact Wk.mk2 [0, 1] 2 rfl rfl (by decide) rfl ⟨rr, rr, trivial⟩ ⟨rr, rr, rr, rr, rr, rr, rr, rr, rr, rr, trivial⟩
  refine Tr.exit ?_
  conv=>whnf
  refine ⟨(rank_34), h, ?_⟩
  exact Wk.mk2 [] 2 rfl rfl (by decide) rfl trivial ⟨rr, rr, rr, rr, rr, trivial⟩
 clear h
 rintro rank_37 h T1 H1 hw
 replace h : M172 r_22 r_23 r_30 rank_37 = some r_5 := h
 conv=>whnf
 refine Tr.weak hw ?_
 unfold M172 at h
 refine sg ?_
 conv=>whnf
 refine cB h (fun hb63 h => ?_) (fun hb63 h => ?_)
 ·conv=>whnf
  refine Tr.ret ?_
  conv=>whnf
  cases h
  rfl
 conv=>whnf
 refine cB h (fun hb64 h => ?_) (fun hb64 h => ?_)
 ·conv=>whnf
  refine Tr.ret ?_
  conv=>whnf
  cases h
  rfl
 conv=>whnf
 refine Tr.ret ?_
 conv=>whnf
 cases h
 rfl
end Go.Proofs.Tryz
