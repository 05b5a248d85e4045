/- Contracts of functions, by program (gen.py). No condition. -/
import Derived.Test.YtolclhjojfcipaaGreatZL
import Derived.Test.YtolclhjojfcipaaGreatZM
import Derived.Test.YtolclhjojfcipaaGreatZS8
namespace Go.Proofs.Tryz
open Go Go.Abs Go.Stop
set_option maxRecDepth 8000
set_option linter.unusedVariables false
set_option linter.unusedSimpArgs false
theorem P209 (v_1 : Thistory_view) (runner_2 : Int) (r_3 : TOutcome) (h : M209 v_1 runner_2 = some r_3) :
    PC prog 92 [(eThistory_view v_1), (.i .i64 runner_2)] (fun rs => rs = [(eTOutcome r_3)]) := by
 refine PC.of_tr (cx := ⟨17, none, lay, 0⟩) layOK func92 rfl rfl rfl rfl rfl (by simp [f92]) ?_
 unfold M209 at h
 refine Tr.seq ?_
 refine rg ?_
 conv => whnf
 refine Tr.seq ?_
 refine Tr.draw (DrawP.seqQ layOK mixed [(12, 1)] [(0, 3), (1, 1), (2, 1), (3, 3), (4, 3), (5, 3), (6, 1), (7, 2), (8, 2), (9, 2), (10, 2), (11, 2), (12, 0)] (by kernel_rfl) ?_)
 conv => whnf
 refine ⟨_, ⟨rfl, rfl, rr⟩, ?_⟩
 conv => whnf
 refine ⟨_, (fun _ => rr), ?_⟩
 conv => whnf
 obtain ⟨r_4, hc5, h⟩ := bS h
 refine ⟨_, (fun _ => by (conv => whnf); (refine PC.ecall (P208 v_1 runner_2 r_4 hc5) (fun rs hrs => ?_)); (subst hrs); (conv => whnf); (exact rr)), ?_⟩
 conv => whnf
 refine ⟨_, ⟨rfl, rfl, rr⟩, ?_⟩
 conv => whnf
 refine ⟨_, ⟨rfl, rfl, rr⟩, ?_⟩
 conv => whnf
 refine ⟨_, ⟨rfl, rfl, rr⟩, ?_⟩
 conv => whnf
 refine ⟨_, (fun _ => rr), ?_⟩
 conv => whnf
 obtain ⟨x_6, hx_6, h⟩ := bS h
 refine ⟨_, ⟨rfl, rfl, (by (conv => whnf); (refine ixP_of hx_6 ?_); (conv => whnf); (exact rr))⟩, ?_⟩
 conv => whnf
 refine ⟨_, ⟨rfl, rfl, rr⟩, ?_⟩
 conv => whnf
 refine ⟨_, ⟨rfl, rfl, rr⟩, ?_⟩
 conv => whnf
 obtain ⟨x_7, hx_7, h⟩ := bS h
 refine ⟨_, ⟨rfl, rfl, (by (conv => whnf); (refine ixP_of hx_7 ?_); (conv => whnf); (exact rr))⟩, ?_⟩
 conv => whnf
 refine ⟨_, ⟨rfl, rfl, rr⟩, ?_⟩
 conv => whnf
 refine ⟨_, _, rr, kp_ok (by repeat (first | exact trivial | refine ⟨trivial, ?_⟩ | refine ⟨rfl, ?_⟩)), ?_⟩
 conv => whnf
 refine Tr.ret ?_
 conv => whnf
 cases h
 rfl
theorem P212 (f_1 : TField) (h_2 : THistory) (r_3 : Thistory_view) (r_4 : Int) (h : M212 f_1 h_2 = some (r_3, r_4)) :
    PC prog 59 [(eTField f_1), (eTHistory h_2)] (fun rs => rs = [(eThistory_view r_3), (.i .i64 r_4)]) := by
 refine PC.of_tr (cx := ⟨105, none, lay, 0⟩) layOK func59 rfl rfl rfl rfl rfl (by simp [f59]) ?_
 unfold M212 at h
 refine Tr.seq ?_
 refine rg ?_
 conv => whnf
 refine Tr.seq ?_
 refine Tr.seq ?_
 refine rg ?_
 conv => whnf
 obtain ⟨r_5, hc6, h⟩ := bS h
 refine PC.ecall (P46 f_1 r_5 hc6) (fun rs hrs => ?_)
 subst hrs
 conv => whnf
 refine Tr.cond ?_
 conv => whnf
 refine cB h (fun hb7 h => ?_) (fun hb7 h => ?_)
 ·refine Tr.seq ?_
  refine rg ?_
  conv => whnf
  refine orB_l ?_
  conv => whnf
  refine Tr.ret ?_
  conv => whnf
  cases h
  rfl
 refine Tr.skip ?_
 conv => whnf
 refine Tr.seq ?_
 refine rg ?_
 conv => whnf
 refine Tr.seq ?_
 refine Tr.seq ?_
 obtain ⟨v_8, hv9, h⟩ := bS h
 refine Tr.cutQ1 ([(3, .pt 0 0), (4, .pt 1 0), (5, (dI 0)), (60, .d (.b v_8))]) ([some (.var [(dI h_2.World), .d (.ls (List.map eI h_2.Offsets)), .d (.ls (List.map eTChoice h_2.Choices))]), some (.var [.d (.ls (List.map eTSegment f_1.Clocks.Segments)), .d (.ls (List.map (eL eI) f_1.Clocks.Far)), .d (.ls (List.map eTPair f_1.Pairs)), .d (.ls (List.map eTRunner f_1.Runners)), (dI h_2.World), .d (.ls (List.map eI h_2.Offsets)), .d (.ls (List.map eTChoice h_2.Choices))])]) ?_ (fun T1 H1 hw => ?_)
 ·replace h := hv9; clear hv9
  refine rg ?_
  conv => whnf
  refine cB h (fun hb10 h => ?_) (fun hb10 h => ?_)
  ·conv => whnf
   cases h
   exact Wk.mk2 [1, 2] 3 rfl rfl (by decide) rfl ⟨rr, rr, trivial⟩ ⟨⟨rfl, (by first | rfl | (simp only [↓hb7, ↓hb10, bl]; done) | (simp only [↓hb7, ↓hb10, bl]; rfl))⟩, ⟨rfl, (by first | rfl | (simp only [↓hb7, ↓hb10, bl]; done) | (simp only [↓hb7, ↓hb10, bl]; rfl))⟩, rr, rr, trivial⟩
  conv => whnf
  refine lnS_map ?_
  conv => whnf
  refine cB h (fun hb11 h => ?_) (fun hb11 h => ?_)
  ·conv => whnf
   cases h
   exact Wk.mk2 [1, 2] 3 rfl rfl (by decide) rfl ⟨rr, rr, trivial⟩ ⟨⟨rfl, (by first | rfl | (simp only [↓hb7, ↓hb10, ↓hb11, bl]; done) | (simp only [↓hb7, ↓hb10, ↓hb11, bl]; rfl))⟩, ⟨rfl, (by first | rfl | (simp only [↓hb7, ↓hb10, ↓hb11, bl]; done) | (simp only [↓hb7, ↓hb10, ↓hb11, bl]; rfl))⟩, rr, rr, trivial⟩
  conv => whnf
  obtain ⟨r_12, hc13, h⟩ := bS h
  refine PC.ecall (P197 f_1 h_2.World r_12 hc13) (fun rs hrs => ?_)
  subst hrs
  conv => whnf
  refine cB h (fun hb14 h => ?_) (fun hb14 h => ?_)
  ·conv => whnf
   cases h
   exact Wk.mk2 [1, 2] 3 rfl rfl (by decide) rfl ⟨rr, rr, trivial⟩ ⟨⟨rfl, (by first | rfl | (simp only [↓hb7, ↓hb10, ↓hb11, ↓hb14, bl]; done) | (simp only [↓hb7, ↓hb10, ↓hb11, ↓hb14, bl]; rfl))⟩, ⟨rfl, (by first | rfl | (simp only [↓hb7, ↓hb10, ↓hb11, ↓hb14, bl]; done) | (simp only [↓hb7, ↓hb10, ↓hb11, ↓hb14, bl]; rfl))⟩, rr, rr, trivial⟩
  conv => whnf
  refine lnS_map ?_
  conv => whnf
  refine lnS_map ?_
  conv => whnf
  refine cB h (fun hb15 h => ?_) (fun hb15 h => ?_)
  ·conv => whnf
   cases h
   exact Wk.mk2 [1, 2] 3 rfl rfl (by decide) rfl ⟨rr, rr, trivial⟩ ⟨⟨rfl, (by first | rfl | (simp only [↓hb7, ↓hb10, ↓hb11, ↓hb14, ↓hb15, bl]; done) | (simp only [↓hb7, ↓hb10, ↓hb11, ↓hb14, ↓hb15, bl]; rfl))⟩, ⟨rfl, (by first | rfl | (simp only [↓hb7, ↓hb10, ↓hb11, ↓hb14, ↓hb15, bl]; done) | (simp only [↓hb7, ↓hb10, ↓hb11, ↓hb14, ↓hb15, bl]; rfl))⟩, rr, rr, trivial⟩
  conv => whnf
  refine lnS_map ?_
  conv => whnf
  refine lnS_map ?_
  conv => whnf
  refine cB h (fun hb16 h => ?_) (fun hb16 h => ?_)
  ·conv => whnf
   cases h
   exact Wk.mk2 [1, 2] 3 rfl rfl (by decide) rfl ⟨rr, rr, trivial⟩ ⟨⟨rfl, (by first | rfl | (simp only [↓hb7, ↓hb10, ↓hb11, ↓hb14, ↓hb15, ↓hb16, bl]; done) | (simp only [↓hb7, ↓hb10, ↓hb11, ↓hb14, ↓hb15, ↓hb16, bl]; rfl))⟩, ⟨rfl, (by first | rfl | (simp only [↓hb7, ↓hb10, ↓hb11, ↓hb14, ↓hb15, ↓hb16, bl]; done) | (simp only [↓hb7, ↓hb10, ↓hb11, ↓hb14, ↓hb15, ↓hb16, bl]; rfl))⟩, rr, rr, trivial⟩
  conv => whnf
  obtain ⟨r_17, hc18, h⟩ := bS h
  refine PC.ecall (P207 f_1.Clocks h_2.Offsets r_17 hc18) (fun rs hrs => ?_)
  subst hrs
  conv => whnf
  cases h
  exact Wk.mk2 [1, 2] 3 rfl rfl (by decide) rfl ⟨rr, rr, trivial⟩ ⟨⟨rfl, (by first | rfl | (simp only [↓hb7, ↓hb10, ↓hb11, ↓hb14, ↓hb15, ↓hb16, bl]; done) | (simp only [↓hb7, ↓hb10, ↓hb11, ↓hb14, ↓hb15, ↓hb16, bl]; rfl))⟩, ⟨rfl, (by first | rfl | (simp only [↓hb7, ↓hb10, ↓hb11, ↓hb14, ↓hb15, ↓hb16, bl]; done) | (simp only [↓hb7, ↓hb10, ↓hb11, ↓hb14, ↓hb15, ↓hb16, bl]; rfl))⟩, rr, rr, trivial⟩
 clear hv9
 conv => whnf
 refine Tr.weak hw ?_
 refine Tr.cond ?_
 conv => whnf
 refine cB h (fun hb19 h => ?_) (fun hb19 h => ?_)
 ·refine Tr.seq ?_
  refine rg ?_
  conv => whnf
  refine Tr.ret ?_
  conv => whnf
  cases h
  rfl
 refine Tr.skip ?_
 conv => whnf
 refine Tr.seq ?_
 refine Tr.seq ?_
 refine rg ?_
 conv => whnf
 refine lnS_map ?_
 conv => whnf
 refine Tr.cutQ (α := Unit) (fun s => ([(4, .pt 0 0), (5, (dI 0))], [some (.var [.d (.ls (List.map eTSegment f_1.Clocks.Segments)), .d (.ls (List.map (eL eI) f_1.Clocks.Far)), .d (.ls (List.map eTPair f_1.Pairs)), .d (.ls (List.map eTRunner f_1.Runners)), (dI h_2.World), .d (.ls (List.map eI h_2.Offsets)), .d (.ls (List.map eTChoice h_2.Choices))])])) (fun s => M211 f_1 h_2 s = some (r_3, r_4)) ?_ ?_
 ·refine Tr.block ?_
  refine Tr.loopM (σ := Int) (fun n s => M210 f_1 h_2 (M211 f_1 h_2) n s) (r_3, r_4) (fun s => ([(4, .pt 0 0), (5, (dI 0)), (63, .d (.ls (List.map eTChoice h_2.Choices))), (64, (dI (((h_2.Choices).length : Int)))), (65, (dI s))], [some (.var [.d (.ls (List.map eTSegment f_1.Clocks.Segments)), .d (.ls (List.map (eL eI) f_1.Clocks.Far)), .d (.ls (List.map eTPair f_1.Pairs)), .d (.ls (List.map eTRunner f_1.Runners)), (dI h_2.World), .d (.ls (List.map eI h_2.Offsets)), .d (.ls (List.map eTChoice h_2.Choices))])])) (((((h_2.Choices).length : Int)) - 0 : Int).toNat + 1) (0) h (fun s => rfl) (Wk.mk2 [1] 2 rfl rfl (by decide) rfl ⟨rr, trivial⟩ ⟨⟨rfl, (by first | rfl | (simp only [↓hb7, ↓hb19, bl]; done) | (simp only [↓hb7, ↓hb19, bl]; rfl))⟩, rr, rr, rr, rr, trivial⟩) ?_
  clear h
  rintro n_22 v_21 h
  replace h : M210 f_1 h_2 (M211 f_1 h_2) (n_22 + 1) v_21 = some (r_3, r_4) := h
  rw [M210] at h
  refine Tr.seq ?_
  refine rg ?_
  conv => whnf
  refine Tr.seq ?_
  refine Tr.cond ?_
  conv => whnf
  refine cB h (fun hb25 h => ?_) (fun hb25 h => ?_)
  ·refine Tr.skip ?_
   conv => whnf
   refine Tr.seq ?_
   refine Tr.block ?_
   refine Tr.seq ?_
   refine rg ?_
   conv => whnf
   obtain ⟨x_26, hx_26, h⟩ := bS h
   refine ixP_of hx_26 ?_
   conv => whnf
   refine Tr.seq ?_
   refine Tr.seq ?_
   refine Tr.draw (DrawP.seqQ layOK mixed [] [(0, 4), (1, 4), (2, 1), (3, 1), (4, 4), (5, 4), (6, 3), (7, 1), (8, 1), (9, 2), (10, 1), (11, 1)] (by kernel_rfl) ?_)
   conv => whnf
   refine ⟨_, ⟨rfl, rfl, rr⟩, ?_⟩
   conv => whnf
   refine ⟨_, ⟨rfl, rfl, rr⟩, ?_⟩
   conv => whnf
   refine ⟨_, (fun _ => rr), ?_⟩
   conv => whnf
   refine ⟨_, (fun _ => rr), ?_⟩
   conv => whnf
   refine cB h (fun hb27 h => ?_) (fun hb27 h => ?_)
   ·conv => whnf
    refine ⟨_, (fun _ => rr), ?_⟩
    conv => whnf
    refine Tr.cond ?_
    conv => whnf
    refine Tr.seq ?_
    refine rg ?_
    conv => whnf
    refine Tr.ret ?_
    conv => whnf
    cases h
    rfl
   conv => whnf
   refine ⟨_, ⟨rfl, rfl, rr⟩, ?_⟩
   conv => whnf
   refine ⟨_, ⟨rfl, rfl, rr⟩, ?_⟩
   conv => whnf
   refine ⟨_, ⟨rfl, rfl, rr⟩, ?_⟩
   conv => whnf
   refine ⟨_, (fun _ => rr), ?_⟩
   conv => whnf
   obtain ⟨r_28, hc29, h⟩ := bS h
   refine ⟨_, (fun _ => by (conv => whnf); (refine PC.ecall (P208 ({ f := f_1, h := h_2 } : Thistory_view) v_21 r_28 hc29) (fun rs hrs => ?_)); (subst hrs); (conv => whnf); (exact rr)), ?_⟩
   conv => whnf
   refine ⟨_, ⟨rfl, rfl, (by (conv => whnf); (refine lnS_map ?_); (conv => whnf); (exact rr))⟩, ?_⟩
   conv => whnf
   refine ⟨_, (fun _ => rr), ?_⟩
   conv => whnf
   refine ⟨_, (fun _ => rr), ?_⟩
   conv => whnf
   refine Tr.cond ?_
   conv => whnf
   refine cB h (fun hb30 h => ?_) (fun hb30 h => ?_)
   ·refine Tr.seq ?_
    refine rg ?_
    conv => whnf
    refine Tr.ret ?_
    conv => whnf
    cases h
    rfl
   refine Tr.skip ?_
   conv => whnf
   refine Tr.seq ?_
   refine rg ?_
   conv => whnf
   obtain ⟨r_31, hc32, h⟩ := bS h
   refine PC.ecall (P209 ({ f := f_1, h := h_2 } : Thistory_view) v_21 r_31 hc32) (fun rs hrs => ?_)
   subst hrs
   conv => whnf
   refine Tr.seq ?_
   refine Tr.seq ?_
   refine rg ?_
   conv => whnf
   refine Tr.cond ?_
   conv => whnf
   refine cB h (fun hb33 h => ?_) (fun hb33 h => ?_)
   ·refine rg ?_
    conv => whnf
    refine Tr.seq ?_
    refine rg ?_
    conv => whnf
    refine cB h (fun hb34 h => ?_) (fun hb34 h => ?_)
    ·conv => whnf
     refine Tr.cond ?_
     conv => whnf
     refine Tr.seq ?_
     refine rg ?_
     conv => whnf
     refine Tr.ret ?_
     conv => whnf
     cases h
     rfl
    conv => whnf
    refine Tr.cond ?_
    conv => whnf
    refine cB h (fun hb35 h => ?_) (fun hb35 h => ?_)
    ·refine Tr.seq ?_
     refine rg ?_
     conv => whnf
     refine Tr.ret ?_
     conv => whnf
     cases h
     rfl
    refine Tr.skip ?_
    conv => whnf
    refine rg ?_
    conv => whnf
    refine arS_raw ?_
    conv => whnf
    refine ⟨((w64 (v_21 + 1))), h, ?_⟩
    exact Wk.mk2 [0] 3 rfl rfl (by decide) rfl ⟨rr, trivial⟩ ⟨rr, rr, rr, rr, rr, trivial⟩
   refine Tr.skip ?_
   conv => whnf
   refine Tr.seq ?_
   refine rg ?_
   conv => whnf
   refine cB h (fun hb36 h => ?_) (fun hb36 h => ?_)
   ·conv => whnf
    refine Tr.cond ?_
    conv => whnf
    refine Tr.seq ?_
    refine rg ?_
    conv => whnf
    refine Tr.ret ?_
    conv => whnf
    cases h
    rfl
   conv => whnf
   refine Tr.cond ?_
   conv => whnf
   refine cB h (fun hb37 h => ?_) (fun hb37 h => ?_)
   ·refine Tr.seq ?_
    refine rg ?_
    conv => whnf
    refine Tr.ret ?_
    conv => whnf
    cases h
    rfl
   refine Tr.skip ?_
   conv => whnf
   refine rg ?_
   conv => whnf
   refine arS_raw ?_
   conv => whnf
   refine ⟨((w64 (v_21 + 1))), h, ?_⟩
   exact Wk.mk2 [0] 3 rfl rfl (by decide) rfl ⟨rr, trivial⟩ ⟨rr, rr, rr, rr, rr, trivial⟩
  refine Tr.exit ?_
  conv => whnf
  refine ⟨(), h, ?_⟩
  exact Wk.mk2 [0] 1 rfl rfl (by decide) rfl ⟨rr, trivial⟩ ⟨rr, rr, trivial⟩
 clear h
 rintro _ h T1 H1 hw
 replace h : M211 f_1 h_2 () = some (r_3, r_4) := h
 conv => whnf
 refine Tr.weak hw ?_
 unfold M211 at h
 refine Tr.seq ?_
 refine rg ?_
 conv => whnf
 refine Tr.ret ?_
 conv => whnf
 cases h
 rfl
theorem P213 (f_1 : TField) (h_2 : THistory) (runner_3 : Int) (r_4 : Thistory_view) (r_5 : Int) (h : M213 f_1 h_2 runner_3 = some (r_4, r_5)) :
    PC prog 55 [(eTField f_1), (eTHistory h_2), (.i .i64 runner_3)] (fun rs => rs = [(eThistory_view r_4), (.i .i64 r_5)]) := by
 refine PC.of_tr (cx := ⟨29, none, lay, 0⟩) layOK func55 rfl rfl rfl rfl rfl (by simp [f55]) ?_
 unfold M213 at h
 refine Tr.seq ?_
 refine rg ?_
 conv => whnf
 refine Tr.seq ?_
 refine Tr.seq ?_
 refine rg ?_
 conv => whnf
 obtain ⟨⟨r_6, r_7⟩, hc8, h⟩ := bS h
 refine PC.ecall (P212 f_1 h_2 r_6 r_7 hc8) (fun rs hrs => ?_)
 subst hrs
 conv => whnf
 refine Tr.seq ?_
 refine rg ?_
 conv => whnf
 refine cB h (fun hb9 h => ?_) (fun hb9 h => ?_)
 ·conv => whnf
  refine cB h (fun hb10 h => ?_) (fun hb10 h => ?_)
  ·conv => whnf
   refine Tr.cond ?_
   conv => whnf
   refine rg ?_
   conv => whnf
   refine Tr.seq ?_
   refine rg ?_
   conv => whnf
   refine Tr.ret ?_
   conv => whnf
   cases h
   rfl
  conv => whnf
  refine lnS_map ?_
  conv => whnf
  refine Tr.cond ?_
  conv => whnf
  refine cB h (fun hb11 h => ?_) (fun hb11 h => ?_)
  ·refine rg ?_
   conv => whnf
   refine Tr.seq ?_
   refine rg ?_
   conv => whnf
   refine Tr.ret ?_
   conv => whnf
   cases h
   rfl
  refine Tr.skip ?_
  conv => whnf
  refine Tr.seq ?_
  refine rg ?_
  conv => whnf
  refine Tr.ret ?_
  conv => whnf
  cases h
  rfl
 conv => whnf
 refine Tr.cond ?_
 conv => whnf
 refine Tr.skip ?_
 conv => whnf
 refine Tr.seq ?_
 refine rg ?_
 conv => whnf
 refine Tr.ret ?_
 conv => whnf
 cases h
 rfl
theorem P214 (v_1 : Thistory_view) (runner_2 : Int) (r_3 : Int) (r_4 : Bool) (h : M214 v_1 runner_2 = some (r_3, r_4)) :
    PC prog 56 [(eThistory_view v_1), (.i .i64 runner_2)] (fun rs => rs = [(.i .i64 r_3), (.b r_4)]) := by
 refine PC.of_tr (cx := ⟨32, none, lay, 0⟩) layOK func56 rfl rfl rfl rfl rfl (by simp [f56]) ?_
 unfold M214 at h
 refine Tr.seq ?_
 refine rg ?_
 conv => whnf
 refine Tr.seq ?_
 refine rg ?_
 conv => whnf
 obtain ⟨r_5, hc6, h⟩ := bS h
 refine PC.ecall (P209 v_1 runner_2 r_5 hc6) (fun rs hrs => ?_)
 subst hrs
 conv => whnf
 refine Tr.seq ?_
 refine Tr.seq ?_
 refine rg ?_
 conv => whnf
 refine Tr.cond ?_
 conv => whnf
 refine cB h (fun hb7 h => ?_) (fun hb7 h => ?_)
 ·refine Tr.seq ?_
  refine rg ?_
  conv => whnf
  refine Tr.ret ?_
  conv => whnf
  cases h
  rfl
 refine Tr.skip ?_
 conv => whnf
 refine Tr.seq ?_
 refine rg ?_
 conv => whnf
 obtain ⟨x_8, hx_8, h⟩ := bS h
 refine ixP_of hx_8 ?_
 conv => whnf
 refine Tr.seq ?_
 refine Tr.seq ?_
 refine rg ?_
 conv => whnf
 refine Tr.cond ?_
 conv => whnf
 refine cB h (fun hb9 h => ?_) (fun hb9 h => ?_)
 ·refine rg ?_
  conv => whnf
  obtain ⟨x_10, hx_10, h⟩ := bS h
  refine ixP_of hx_10 ?_
  conv => whnf
  refine arS_raw ?_
  conv => whnf
  refine Tr.seq ?_
  refine rg ?_
  conv => whnf
  refine Tr.ret ?_
  conv => whnf
  cases h
  rfl
 refine Tr.skip ?_
 conv => whnf
 refine Tr.seq ?_
 refine rg ?_
 conv => whnf
 refine Tr.ret ?_
 conv => whnf
 cases h
 rfl
theorem P216 (v_1 : Thistory_view) (r_2 : List Thistory_pair_int_int) (h : M216 v_1 = some r_2) :
    PC prog 57 [(eThistory_view v_1)] (fun rs => rs = [(.ls (List.map eThistory_pair_int_int r_2))]) := by
 refine PC.of_tr (cx := ⟨28, none, lay, 0⟩) layOK func57 rfl rfl rfl rfl rfl (by simp [f57]) ?_
 unfold M216 at h
 refine Tr.seq ?_
 refine rg ?_
 conv => whnf
 refine Tr.seq ?_
 refine Tr.seq ?_
 refine rg ?_
 conv => whnf
 refine lnS_map ?_
 conv => whnf
 obtain ⟨l_8, hv17, h⟩ := bS h
 refine Tr.cutQ1 ([(2, .sl 0 2 0 (List.length l_8))]) ([some (.arr 2 (List.map .d (List.map eThistory_pair_int_int l_8)))]) ?_ (fun T1 H1 hw => ?_)
 ·replace h := hv17; clear hv17
  refine Tr.block ?_
  refine Tr.loopM (σ := Int × List Thistory_pair_int_int) (fun n s => M215 v_1 n s.1 s.2) l_8 (fun s => ([(1, .pt 0 0), (2, .sl 1 2 0 (List.length s.2)), (9, (dI (((v_1.f.Runners).length : Int)))), (10, (dI s.1))], [some (.var [.d (.ls (List.map eTSegment v_1.f.Clocks.Segments)), .d (.ls (List.map (eL eI) v_1.f.Clocks.Far)), .d (.ls (List.map eTPair v_1.f.Pairs)), .d (.ls (List.map eTRunner v_1.f.Runners)), (dI v_1.h.World), .d (.ls (List.map eI v_1.h.Offsets)), .d (.ls (List.map eTChoice v_1.h.Choices))]), some (.arr 2 (List.map .d (List.map eThistory_pair_int_int s.2)))])) (((((v_1.f.Runners).length : Int)) - 0 : Int).toNat + 1) (0, (([] : List Thistory_pair_int_int))) h (fun s => rfl) (Wk.mk2 [0, 1] 1 rfl rfl (by decide) rfl ⟨rr, rfl, trivial⟩ ⟨rr, ⟨rfl, (by first | rfl | simp)⟩, rr, rr, trivial⟩) ?_
  clear h
  rintro n_7 ⟨v_5, l_6⟩ h
  replace h : M215 v_1 (n_7 + 1) v_5 l_6 = some l_8 := h
  rw [M215] at h
  refine Tr.seq ?_
  refine rg ?_
  conv => whnf
  refine Tr.seq ?_
  refine Tr.cond ?_
  conv => whnf
  refine cB h (fun hb11 h => ?_) (fun hb11 h => ?_)
  ·refine Tr.skip ?_
   conv => whnf
   refine Tr.seq ?_
   refine Tr.block ?_
   refine Tr.seq ?_
   refine rg ?_
   conv => whnf
   refine Tr.seq ?_
   refine rg ?_
   conv => whnf
   obtain ⟨⟨r_12, r_13⟩, hc14, h⟩ := bS h
   refine PC.ecall (P214 v_1 v_5 r_12 r_13 hc14) (fun rs hrs => ?_)
   subst hrs
   conv => whnf
   refine Tr.seq ?_
   refine rg ?_
   conv => whnf
   refine Tr.cond ?_
   conv => whnf
   refine cB h (fun hb15 h => ?_) (fun hb15 h => ?_)
   ·refine rg ?_
    conv => whnf
    refine orB_r ?_
    conv => whnf
    refine frP_no ?_
    conv => whnf
    refine eqS_mk (by first | rfl | simp) ?_
    conv => whnf
    obtain ⟨l_16, hl_16, h⟩ := bS h
    refine apS_of hl_16 (aQ (f := eThistory_pair_int_int) (l := (([({ first := v_5, second := r_12 } : Thistory_pair_int_int)] : List Thistory_pair_int_int))) fun _ => rfl) (by first | rfl | simp) (by first | rfl | simp) (fun he => ?_)
    conv => whnf
    refine rS (es' := List.map .d (List.map eThistory_pair_int_int l_16)) (n' := List.length l_16) (by subst he; simp only [List.map_append, List.map_cons, List.map_nil, List.nil_append]; first | done | rfl) (by subst he; simp <;> omega) ?_
    clear he
    conv => whnf
    refine rg ?_
    conv => whnf
    refine arS_raw ?_
    conv => whnf
    refine ⟨((w64 (v_5 + 1)), l_16), h, ?_⟩
    exact Wk.mk2 [0, 2] 3 rfl rfl (by decide) rfl ⟨rr, daS_d rfl, trivial⟩ ⟨rr, ⟨rfl, (by first | rfl | (simp only [↓hb11, ↓hb15, bl]; done) | (simp only [↓hb11, ↓hb15, bl]; rfl))⟩, rr, rr, trivial⟩
   refine Tr.skip ?_
   conv => whnf
   refine rg ?_
   conv => whnf
   refine arS_raw ?_
   conv => whnf
   refine ⟨((w64 (v_5 + 1)), l_6), h, ?_⟩
   exact Wk.mk2 [0, 1] 2 rfl rfl (by decide) rfl ⟨rr, daS_d rfl, trivial⟩ ⟨rr, rr, rr, rr, trivial⟩
  refine Tr.exit ?_
  conv => whnf
  cases h
  exact Wk.mk2 [1] 2 rfl rfl (by decide) rfl ⟨daS_d rfl, trivial⟩ ⟨⟨rfl, (by first | rfl | (simp only [↓hb11, bl]; done) | (simp only [↓hb11, bl]; rfl))⟩, trivial⟩
 clear hv17
 conv => whnf
 refine Tr.weak hw ?_
 refine Tr.seq ?_
 refine rg ?_
 conv => whnf
 refine Tr.ret ?_
 conv => whnf
 refine frE_of (f := eThistory_pair_int_int) (l := l_8) rfl ?_
 conv => whnf
 cases h
 rfl
theorem P217 (v_1 : Thistory_view) (a_2 : Thistory_pair_int_int) (b_3 : Thistory_pair_int_int) (r_4 : Int) (h : M217 v_1 a_2 b_3 = some r_4) :
    PC prog 58 [(eThistory_view v_1), (eThistory_pair_int_int a_2), (eThistory_pair_int_int b_3)] (fun rs => rs = [(.i .i64 r_4)]) := by
 refine PC.of_tr (cx := ⟨31, none, lay, 0⟩) layOK func58 rfl rfl rfl rfl rfl (by simp [f58]) ?_
 unfold M217 at h
 refine Tr.seq ?_
 refine rg ?_
 conv => whnf
 refine Tr.seq ?_
 refine Tr.draw (DrawP.seqQ layOK mixed [] [(0, 4), (1, 4), (2, 5), (3, 5), (4, 1), (5, 3), (6, 3), (7, 3), (8, 4), (9, 4), (10, 2), (11, 2), (12, 2), (13, 3), (14, 3), (15, 3), (16, 5), (17, 5), (18, 2), (19, 2), (20, 2), (21, 1), (22, 1), (23, 0), (24, 1)] (by kernel_rfl) ?_)
 conv => whnf
 refine ⟨_, ⟨rfl, rfl, rr⟩, ?_⟩
 conv => whnf
 refine ⟨_, ⟨rfl, rfl, rr⟩, ?_⟩
 conv => whnf
 refine ⟨_, ⟨rfl, rfl, rr⟩, ?_⟩
 conv => whnf
 refine ⟨_, ⟨rfl, rfl, rr⟩, ?_⟩
 conv => whnf
 obtain ⟨r_5, hc6, h⟩ := bS h
 refine ⟨_, (fun _ => by (conv => whnf); (refine PC.ecall (P4 a_2.second b_3.second r_5 hc6) (fun rs hrs => ?_)); (subst hrs); (conv => whnf); (exact rr)), ?_⟩
 conv => whnf
 refine ⟨_, ⟨rfl, rfl, rr⟩, ?_⟩
 conv => whnf
 refine ⟨_, ⟨rfl, rfl, rr⟩, ?_⟩
 conv => whnf
 refine ⟨_, ⟨rfl, rfl, rr⟩, ?_⟩
 conv => whnf
 refine ⟨_, ⟨rfl, rfl, rr⟩, ?_⟩
 conv => whnf
 refine ⟨_, ⟨rfl, rfl, rr⟩, ?_⟩
 conv => whnf
 obtain ⟨x_7, hx_7, h⟩ := bS h
 refine ⟨_, ⟨rfl, rfl, (by (conv => whnf); (refine ixP_of hx_7 ?_); (conv => whnf); (exact rr))⟩, ?_⟩
 conv => whnf
 refine ⟨_, ⟨rfl, rfl, rr⟩, ?_⟩
 conv => whnf
 refine ⟨_, ⟨rfl, rfl, rr⟩, ?_⟩
 conv => whnf
 refine ⟨_, ⟨rfl, rfl, rr⟩, ?_⟩
 conv => whnf
 refine ⟨_, ⟨rfl, rfl, rr⟩, ?_⟩
 conv => whnf
 refine ⟨_, ⟨rfl, rfl, rr⟩, ?_⟩
 conv => whnf
 refine ⟨_, ⟨rfl, rfl, rr⟩, ?_⟩
 conv => whnf
 refine ⟨_, ⟨rfl, rfl, rr⟩, ?_⟩
 conv => whnf
 obtain ⟨x_8, hx_8, h⟩ := bS h
 refine ⟨_, ⟨rfl, rfl, (by (conv => whnf); (refine ixP_of hx_8 ?_); (conv => whnf); (exact rr))⟩, ?_⟩
 conv => whnf
 refine ⟨_, ⟨rfl, rfl, rr⟩, ?_⟩
 conv => whnf
 refine ⟨_, ⟨rfl, rfl, rr⟩, ?_⟩
 conv => whnf
 obtain ⟨r_9, hc10, h⟩ := bS h
 refine ⟨_, (fun _ => by (conv => whnf); (refine PC.ecall (P71 x_7.Keys x_8.Keys r_9 hc10) (fun rs hrs => ?_)); (subst hrs); (conv => whnf); (exact rr)), ?_⟩
 conv => whnf
 refine ⟨_, (fun _ => by (conv => whnf); (refine orB_r ?_); (conv => whnf); (exact rr)), ?_⟩
 conv => whnf
 obtain ⟨r_11, hc12, h⟩ := bS h
 refine ⟨_, _, (by (conv => whnf); (refine PC.ecall (P7 ((([r_5, r_9] : List Int))) r_11 hc12) (fun rs hrs => ?_)); (subst hrs); (conv => whnf); (exact rr)), kp_ok (by repeat (first | exact trivial | refine ⟨trivial, ?_⟩ | refine ⟨rfl, ?_⟩)), ?_⟩
 conv => whnf
 refine ⟨_, (fun _ => rr), ?_⟩
 conv => whnf
 refine Tr.ret ?_
 conv => whnf
 cases h
 rfl
theorem P219 (f_1 : TField) (h_2 : THistory) (runner_3 : Int) (r_4 : Int) (r_5 : Int) (h : M219 f_1 h_2 runner_3 = some (r_4, r_5)) :
    PC prog 21 [(eTField f_1), (eTHistory h_2), (.i .i64 runner_3)] (fun rs => rs = [(.i .i64 r_4), (.i .i64 r_5)]) := by
 refine PC.of_tr (cx := ⟨52, none, lay, 0⟩) layOK func21 rfl rfl rfl rfl rfl (by simp [f21]) ?_
 unfold M219 at h
 refine Tr.seq ?_
 refine rg ?_
 conv => whnf
 refine Tr.seq ?_
 refine rg ?_
 conv => whnf
 obtain ⟨⟨r_6, r_7⟩, hc8, h⟩ := bS h
 refine PC.ecall (P213 f_1 h_2 runner_3 r_6 r_7 hc8) (fun rs hrs => ?_)
 subst hrs
 conv => whnf
 refine Tr.seq ?_
 refine Tr.seq ?_
 refine rg ?_
 conv => whnf
 refine Tr.cond ?_
 conv => whnf
 refine cB h (fun hb9 h => ?_) (fun hb9 h => ?_)
 ·refine Tr.seq ?_
  refine rg ?_
  conv => whnf
  refine Tr.ret ?_
  conv => whnf
  cases h
  rfl
 refine Tr.skip ?_
 conv => whnf
 refine Tr.seq ?_
 refine rg ?_
 conv => whnf
 obtain ⟨⟨r_10, r_11⟩, hc12, h⟩ := bS h
 refine PC.ecall (P214 r_6 runner_3 r_10 r_11 hc12) (fun rs hrs => ?_)
 subst hrs
 conv => whnf
 refine Tr.seq ?_
 refine Tr.seq ?_
 refine rg ?_
 conv => whnf
 refine Tr.cond ?_
 conv => whnf
 refine cB h (fun hb13 h => ?_) (fun hb13 h => ?_)
 ·refine Tr.seq ?_
  refine rg ?_
  conv => whnf
  refine Tr.ret ?_
  conv => whnf
  cases h
  rfl
 refine Tr.skip ?_
 conv => whnf
 refine Tr.seq ?_
 refine rg ?_
 conv => whnf
 refine Tr.seq ?_
 refine Tr.seq ?_
 refine rg ?_
 conv => whnf
 obtain ⟨r_14, hc15, h⟩ := bS h
 refine PC.ecall (P216 r_6 r_14 hc15) (fun rs hrs => ?_)
 subst hrs
 conv => whnf
 refine lnS_map ?_
 conv => whnf
 obtain ⟨n_21, hv29, h⟩ := bS h
 refine Tr.cutQ1 ([(6, (dI n_21)), (7, (dI r_7))]) ([]) ?_ (fun T1 H1 hw => ?_)
 ·replace h := hv29; clear hv29
  refine Tr.block ?_
  refine Tr.loopM (σ := Int × Int) (fun n s => M218 runner_3 r_6 r_10 r_14 n s.1 s.2) n_21 (fun s => ([(6, (dI s.1)), (7, (dI r_7)), (8, .pt 0 0), (11, .pt 1 0), (36, .d (.ls (List.map eThistory_pair_int_int r_14))), (37, (dI (((r_14).length : Int)))), (38, (dI s.2))], [some (.var [.d (.ls (List.map eTSegment r_6.f.Clocks.Segments)), .d (.ls (List.map (eL eI) r_6.f.Clocks.Far)), .d (.ls (List.map eTPair r_6.f.Pairs)), .d (.ls (List.map eTRunner r_6.f.Runners)), (dI r_6.h.World), .d (.ls (List.map eI r_6.h.Offsets)), .d (.ls (List.map eTChoice r_6.h.Choices))]), some (.var [(dI runner_3), (dI r_10)])])) (((((r_14).length : Int)) - 0 : Int).toNat + 1) (0, 0) h (fun s => rfl) (Wk.mk2 [2, 3] 4 rfl rfl (by decide) rfl ⟨rr, rr, trivial⟩ ⟨rr, rr, ⟨rfl, (by first | rfl | (simp only [↓hb9, ↓hb13, bl]; done) | (simp only [↓hb9, ↓hb13, bl]; rfl))⟩, ⟨rfl, (by first | rfl | (simp only [↓hb9, ↓hb13, bl]; done) | (simp only [↓hb9, ↓hb13, bl]; rfl))⟩, rr, rr, rr, trivial⟩) ?_
  clear h
  rintro n_20 ⟨n_18, v_19⟩ h
  replace h : M218 runner_3 r_6 r_10 r_14 (n_20 + 1) n_18 v_19 = some n_21 := h
  rw [M218] at h
  refine Tr.seq ?_
  refine rg ?_
  conv => whnf
  refine Tr.seq ?_
  refine Tr.cond ?_
  conv => whnf
  refine cB h (fun hb24 h => ?_) (fun hb24 h => ?_)
  ·refine Tr.skip ?_
   conv => whnf
   refine Tr.seq ?_
   refine Tr.block ?_
   refine Tr.seq ?_
   refine rg ?_
   conv => whnf
   obtain ⟨x_25, hx_25, h⟩ := bS h
   refine ixP_of hx_25 ?_
   conv => whnf
   refine Tr.seq ?_
   refine rg ?_
   conv => whnf
   obtain ⟨r_26, hc27, h⟩ := bS h
   refine PC.ecall (P217 r_6 x_25 ({ first := runner_3, second := r_10 } : Thistory_pair_int_int) r_26 hc27) (fun rs hrs => ?_)
   subst hrs
   conv => whnf
   refine Tr.cond ?_
   conv => whnf
   refine cB h (fun hb28 h => ?_) (fun hb28 h => ?_)
   ·refine rg ?_
    conv => whnf
    refine arS_raw ?_
    conv => whnf
    refine rg ?_
    conv => whnf
    refine arS_raw ?_
    conv => whnf
    refine ⟨((w64 (n_18 + 1)), (w64 (v_19 + 1))), h, ?_⟩
    exact Wk.mk2 [0, 1] 3 rfl rfl (by decide) rfl ⟨rr, rr, trivial⟩ ⟨rr, rr, rr, rr, rr, rr, rr, trivial⟩
   refine Tr.skip ?_
   conv => whnf
   refine rg ?_
   conv => whnf
   refine arS_raw ?_
   conv => whnf
   refine ⟨(n_18, (w64 (v_19 + 1))), h, ?_⟩
   exact Wk.mk2 [0, 1] 3 rfl rfl (by decide) rfl ⟨rr, rr, trivial⟩ ⟨rr, rr, rr, rr, rr, rr, rr, trivial⟩
  refine Tr.exit ?_
  conv => whnf
  cases h
  exact Wk.mk2 [] 2 rfl rfl (by decide) rfl trivial ⟨rr, rr, trivial⟩
 clear hv29
 conv => whnf
 refine Tr.weak hw ?_
 refine Tr.seq ?_
 refine rg ?_
 conv => whnf
 refine arS_raw ?_
 conv => whnf
 refine Tr.ret ?_
 conv => whnf
 cases h
 rfl
theorem P220 (f_1 : TField) (r_2 : TRank) (p_3 : TProof) (r_4 : Int) (h : M220 f_1 r_2 p_3 = some r_4) :
    PC prog 22 [(eTField f_1), (eTRank r_2), (eTProof p_3)] (fun rs => rs = [(.i .i64 r_4)]) := by
 refine PC.of_tr (cx := ⟨92, none, lay, 0⟩) layOK func22 rfl rfl rfl rfl rfl (by simp [f22]) ?_
 unfold M220 at h
 refine Tr.seq ?_
 refine rg ?_
 conv => whnf
 refine Tr.seq ?_
 refine Tr.seq ?_
 refine rg ?_
 conv => whnf
 obtain ⟨r_5, hc6, h⟩ := bS h
 refine PC.ecall (P46 f_1 r_5 hc6) (fun rs hrs => ?_)
 subst hrs
 conv => whnf
 refine Tr.cond ?_
 conv => whnf
 refine cB h (fun hb7 h => ?_) (fun hb7 h => ?_)
 ·refine Tr.seq ?_
  refine rg ?_
  conv => whnf
  refine Tr.ret ?_
  conv => whnf
  cases h
  rfl
 refine Tr.skip ?_
 conv => whnf
 refine Tr.seq ?_
 refine rg ?_
 conv => whnf
 obtain ⟨⟨r_8, r_9⟩, hc10, h⟩ := bS h
 refine PC.ecall (P191 f_1 r_2.Bib r_8 r_9 hc10) (fun rs hrs => ?_)
 subst hrs
 conv => whnf
 refine Tr.seq ?_
 refine Tr.seq ?_
 refine rg ?_
 conv => whnf
 refine cB h (fun hb11 h => ?_) (fun hb11 h => ?_)
 ·conv => whnf
  refine Tr.cond ?_
  conv => whnf
  refine Tr.seq ?_
  refine rg ?_
  conv => whnf
  refine Tr.ret ?_
  conv => whnf
  cases h
  rfl
 conv => whnf
 refine cB h (fun hb12 h => ?_) (fun hb12 h => ?_)
 ·conv => whnf
  refine Tr.cond ?_
  conv => whnf
  refine Tr.seq ?_
  refine rg ?_
  conv => whnf
  refine Tr.ret ?_
  conv => whnf
  cases h
  rfl
 conv => whnf
 refine Tr.cond ?_
 conv => whnf
 refine cB h (fun hb13 h => ?_) (fun hb13 h => ?_)
 ·refine Tr.seq ?_
  refine rg ?_
  conv => whnf
  refine Tr.ret ?_
  conv => whnf
  cases h
  rfl
 refine Tr.skip ?_
 conv => whnf
 refine Tr.seq ?_
 refine rg ?_
 conv => whnf
 obtain ⟨⟨r_14, r_15⟩, hc16, h⟩ := bS h
 refine PC.ecall (P219 f_1 p_3.A r_8 r_14 r_15 hc16) (fun rs hrs => ?_)
 subst hrs
 conv => whnf
 refine Tr.seq ?_
 refine Tr.seq ?_
 refine rg ?_
 conv => whnf
 refine Tr.cond ?_
 conv => whnf
 refine cB h (fun hb17 h => ?_) (fun hb17 h => ?_)
 ·refine Tr.seq ?_
  refine rg ?_
  conv => whnf
  refine Tr.ret ?_
  conv => whnf
  cases h
  rfl
 refine Tr.skip ?_
 conv => whnf
 refine Tr.seq ?_
 refine rg ?_
 conv => whnf
 obtain ⟨⟨r_18, r_19⟩, hc20, h⟩ := bS h
 refine PC.ecall (P219 f_1 p_3.B r_8 r_18 r_19 hc20) (fun rs hrs => ?_)
 subst hrs
 conv => whnf
 refine Tr.seq ?_
 refine Tr.seq ?_
 refine rg ?_
 conv => whnf
 refine Tr.cond ?_
 conv => whnf
 refine cB h (fun hb21 h => ?_) (fun hb21 h => ?_)
 ·refine Tr.seq ?_
  refine rg ?_
  conv => whnf
  refine Tr.ret ?_
  conv => whnf
  cases h
  rfl
 refine Tr.skip ?_
 conv => whnf
 refine Tr.seq ?_
 refine rg ?_
 conv => whnf
 refine Tr.seq ?_
 refine Tr.seq ?_
 refine rg ?_
 conv => whnf
 refine Tr.cond ?_
 conv => whnf
 refine cB h (fun hb22 h => ?_) (fun hb22 h => ?_)
 ·refine rg ?_
  conv => whnf
  refine Tr.seq ?_
  refine Tr.seq ?_
  refine Tr.cutQ1 ([(6, (dI r_19)), (91, .d (.b ((r_14 != r_2.Lo) || ((decide (r_14 < 1)) || ((decide (r_2.Lo > r_2.Hi)) || ((r_18 != 0) || (!r_2.Out)))))))]) ([]) ?_ (fun T1 H1 hw => ?_)
  ·refine rg ?_
   conv => whnf
   refine condS_mk (fun hb24 => ?_) (fun hb24 => ?_)
   ·conv => whnf
    exact Wk.mk2 [] 3 rfl rfl (by decide) rfl trivial ⟨rr, ⟨rfl, (by first | rfl | (simp only [↓hb7, ↓hb11, ↓hb12, ↓hb13, ↓hb17, ↓hb21, ↓hb22, ↓hb24, bl]; done) | (simp only [↓hb7, ↓hb11, ↓hb12, ↓hb13, ↓hb17, ↓hb21, ↓hb22, ↓hb24, bl]; rfl))⟩, trivial⟩
   conv => whnf
   refine condS_mk (fun hb25 => ?_) (fun hb25 => ?_)
   ·conv => whnf
    exact Wk.mk2 [] 3 rfl rfl (by decide) rfl trivial ⟨rr, ⟨rfl, (by first | rfl | (simp only [↓hb7, ↓hb11, ↓hb12, ↓hb13, ↓hb17, ↓hb21, ↓hb22, ↓hb24, ↓hb25, bl]; done) | (simp only [↓hb7, ↓hb11, ↓hb12, ↓hb13, ↓hb17, ↓hb21, ↓hb22, ↓hb24, ↓hb25, bl]; rfl))⟩, trivial⟩
   conv => whnf
   refine condS_mk (fun hb26 => ?_) (fun hb26 => ?_)
   ·conv => whnf
    exact Wk.mk2 [] 3 rfl rfl (by decide) rfl trivial ⟨rr, ⟨rfl, (by first | rfl | (simp only [↓hb7, ↓hb11, ↓hb12, ↓hb13, ↓hb17, ↓hb21, ↓hb22, ↓hb24, ↓hb25, ↓hb26, bl]; done) | (simp only [↓hb7, ↓hb11, ↓hb12, ↓hb13, ↓hb17, ↓hb21, ↓hb22, ↓hb24, ↓hb25, ↓hb26, bl]; rfl))⟩, trivial⟩
   conv => whnf
   refine condS_mk (fun hb27 => ?_) (fun hb27 => ?_)
   ·conv => whnf
    exact Wk.mk2 [] 3 rfl rfl (by decide) rfl trivial ⟨rr, ⟨rfl, (by first | rfl | (simp only [↓hb7, ↓hb11, ↓hb12, ↓hb13, ↓hb17, ↓hb21, ↓hb22, ↓hb24, ↓hb25, ↓hb26, ↓hb27, bl]; done) | (simp only [↓hb7, ↓hb11, ↓hb12, ↓hb13, ↓hb17, ↓hb21, ↓hb22, ↓hb24, ↓hb25, ↓hb26, ↓hb27, bl]; rfl))⟩, trivial⟩
   conv => whnf
   exact Wk.mk2 [] 3 rfl rfl (by decide) rfl trivial ⟨rr, ⟨rfl, (by first | rfl | (simp only [↓hb7, ↓hb11, ↓hb12, ↓hb13, ↓hb17, ↓hb21, ↓hb22, ↓hb24, ↓hb25, ↓hb26, ↓hb27, bl]; done) | (simp only [↓hb7, ↓hb11, ↓hb12, ↓hb13, ↓hb17, ↓hb21, ↓hb22, ↓hb24, ↓hb25, ↓hb26, ↓hb27, bl]; rfl))⟩, trivial⟩
  conv => whnf
  refine Tr.weak hw ?_
  refine Tr.cond ?_
  conv => whnf
  refine cB h (fun hb28 h => ?_) (fun hb28 h => ?_)
  ·refine Tr.seq ?_
   refine rg ?_
   conv => whnf
   refine Tr.ret ?_
   conv => whnf
   cases h
   rfl
  refine Tr.skip ?_
  conv => whnf
  refine Tr.seq ?_
  refine rg ?_
  conv => whnf
  refine Tr.ret ?_
  conv => whnf
  cases h
  rfl
 refine Tr.skip ?_
 conv => whnf
 refine Tr.seq ?_
 refine Tr.seq ?_
 refine Tr.cutQ1 ([(6, (dI r_19)), (91, .d (.b ((r_14 != r_2.Lo) || ((decide (r_14 < 1)) || ((decide (r_2.Lo > r_2.Hi)) || ((r_18 != r_2.Hi) || ((r_2.Hi == 0) && (!r_2.Out))))))))]) ([]) ?_ (fun T1 H1 hw => ?_)
 ·refine rg ?_
  conv => whnf
  refine condS_mk (fun hb30 => ?_) (fun hb30 => ?_)
  ·conv => whnf
   exact Wk.mk2 [] 3 rfl rfl (by decide) rfl trivial ⟨rr, ⟨rfl, (by first | rfl | (simp only [↓hb7, ↓hb11, ↓hb12, ↓hb13, ↓hb17, ↓hb21, ↓hb22, ↓hb30, bl]; done) | (simp only [↓hb7, ↓hb11, ↓hb12, ↓hb13, ↓hb17, ↓hb21, ↓hb22, ↓hb30, bl]; rfl))⟩, trivial⟩
  conv => whnf
  refine condS_mk (fun hb31 => ?_) (fun hb31 => ?_)
  ·conv => whnf
   exact Wk.mk2 [] 3 rfl rfl (by decide) rfl trivial ⟨rr, ⟨rfl, (by first | rfl | (simp only [↓hb7, ↓hb11, ↓hb12, ↓hb13, ↓hb17, ↓hb21, ↓hb22, ↓hb30, ↓hb31, bl]; done) | (simp only [↓hb7, ↓hb11, ↓hb12, ↓hb13, ↓hb17, ↓hb21, ↓hb22, ↓hb30, ↓hb31, bl]; rfl))⟩, trivial⟩
  conv => whnf
  refine condS_mk (fun hb32 => ?_) (fun hb32 => ?_)
  ·conv => whnf
   exact Wk.mk2 [] 3 rfl rfl (by decide) rfl trivial ⟨rr, ⟨rfl, (by first | rfl | (simp only [↓hb7, ↓hb11, ↓hb12, ↓hb13, ↓hb17, ↓hb21, ↓hb22, ↓hb30, ↓hb31, ↓hb32, bl]; done) | (simp only [↓hb7, ↓hb11, ↓hb12, ↓hb13, ↓hb17, ↓hb21, ↓hb22, ↓hb30, ↓hb31, ↓hb32, bl]; rfl))⟩, trivial⟩
  conv => whnf
  refine condS_mk (fun hb33 => ?_) (fun hb33 => ?_)
  ·conv => whnf
   exact Wk.mk2 [] 3 rfl rfl (by decide) rfl trivial ⟨rr, ⟨rfl, (by first | rfl | (simp only [↓hb7, ↓hb11, ↓hb12, ↓hb13, ↓hb17, ↓hb21, ↓hb22, ↓hb30, ↓hb31, ↓hb32, ↓hb33, bl]; done) | (simp only [↓hb7, ↓hb11, ↓hb12, ↓hb13, ↓hb17, ↓hb21, ↓hb22, ↓hb30, ↓hb31, ↓hb32, ↓hb33, bl]; rfl))⟩, trivial⟩
  conv => whnf
  refine condS_mk (fun hb34 => ?_) (fun hb34 => ?_)
  ·conv => whnf
   exact Wk.mk2 [] 3 rfl rfl (by decide) rfl trivial ⟨rr, ⟨rfl, (by first | rfl | (simp only [↓hb7, ↓hb11, ↓hb12, ↓hb13, ↓hb17, ↓hb21, ↓hb22, ↓hb30, ↓hb31, ↓hb32, ↓hb33, ↓hb34, bl]; done) | (simp only [↓hb7, ↓hb11, ↓hb12, ↓hb13, ↓hb17, ↓hb21, ↓hb22, ↓hb30, ↓hb31, ↓hb32, ↓hb33, ↓hb34, bl]; rfl))⟩, trivial⟩
  conv => whnf
  exact Wk.mk2 [] 3 rfl rfl (by decide) rfl trivial ⟨rr, ⟨rfl, (by first | rfl | (simp only [↓hb7, ↓hb11, ↓hb12, ↓hb13, ↓hb17, ↓hb21, ↓hb22, ↓hb30, ↓hb31, ↓hb32, ↓hb33, ↓hb34, bl]; done) | (simp only [↓hb7, ↓hb11, ↓hb12, ↓hb13, ↓hb17, ↓hb21, ↓hb22, ↓hb30, ↓hb31, ↓hb32, ↓hb33, ↓hb34, bl]; rfl))⟩, trivial⟩
 conv => whnf
 refine Tr.weak hw ?_
 refine Tr.cond ?_
 conv => whnf
 refine cB h (fun hb35 h => ?_) (fun hb35 h => ?_)
 ·refine Tr.seq ?_
  refine rg ?_
  conv => whnf
  refine Tr.ret ?_
  conv => whnf
  cases h
  rfl
 refine Tr.skip ?_
 conv => whnf
 refine Tr.seq ?_
 refine rg ?_
 conv => whnf
 refine Tr.ret ?_
 conv => whnf
 cases h
 rfl
theorem P221 (a_1 : List Int) (b_2 : List Int) (r_3 : Int) (h : M221 a_1 b_2 = some r_3) :
    PC prog 125 [(.ls (List.map eI a_1)), (.ls (List.map eI b_2))] (fun rs => rs = [(.i .i64 r_3)]) := by
 refine PC.of_tr (cx := ⟨8, none, lay, 0⟩) layOK func125 rfl rfl rfl rfl rfl (by simp [f125]) ?_
 unfold M221 at h
 refine Tr.seq ?_
 refine rg ?_
 conv => whnf
 refine Tr.seq ?_
 refine rg ?_
 conv => whnf
 obtain ⟨r_4, hc5, h⟩ := bS h
 refine PC.ecall (P71 a_1 b_2 r_4 hc5) (fun rs hrs => ?_)
 subst hrs
 conv => whnf
 refine Tr.ret ?_
 conv => whnf
 cases h
 rfl
theorem P222 (d_1 : Twitness_duel) (difference_2 : Int) (r_3 : Bool) (h : M222 d_1 difference_2 = some r_3) :
    PC prog 91 [(eTwitness_duel d_1), (.i .i64 difference_2)] (fun rs => rs = [(.b r_3)]) := by
 refine PC.of_tr (cx := ⟨21, none, lay, 0⟩) layOK func91 rfl rfl rfl rfl rfl (by simp [f91]) ?_
 unfold M222 at h
 refine Tr.seq ?_
 refine rg ?_
 conv => whnf
 refine Tr.seq ?_
 refine rg ?_
 conv => whnf
 refine cB h (fun hb4 h => ?_) (fun hb4 h => ?_)
 ·conv => whnf
  refine Tr.ret ?_
  conv => whnf
  cases h
  rfl
 conv => whnf
 refine cB h (fun hb5 h => ?_) (fun hb5 h => ?_)
 ·conv => whnf
  obtain ⟨r_6, hc7, h⟩ := bS h
  refine PC.ecall (P221 d_1.rival.Keys d_1.runner.Keys r_6 hc7) (fun rs hrs => ?_)
  subst hrs
  conv => whnf
  refine Tr.ret ?_
  conv => whnf
  cases h
  rfl
 conv => whnf
 refine Tr.ret ?_
 conv => whnf
 cases h
 rfl
theorem P223 (d_1 : Twitness_duel) (y_2 : TOutcome) (r_3 : Bool) (h : M223 d_1 y_2 = some r_3) :
    PC prog 53 [(eTwitness_duel d_1), (eTOutcome y_2)] (fun rs => rs = [(.b r_3)]) := by
 refine PC.of_tr (cx := ⟨32, none, lay, 0⟩) layOK func53 rfl rfl rfl rfl rfl (by simp [f53]) ?_
 unfold M223 at h
 refine Tr.seq ?_
 refine rg ?_
 conv => whnf
 refine Tr.seq ?_
 refine Tr.draw (DrawP.seqQ layOK mixed [] [(0, 4), (1, 4), (2, 1), (3, 1), (4, 3), (5, 4), (6, 4), (7, 3), (8, 3), (9, 3), (10, 1), (11, 3), (12, 3), (13, 3), (14, 3), (15, 3), (16, 1), (17, 2), (18, 2), (19, 4), (20, 4), (21, 1), (22, 2), (23, 2), (24, 1), (25, 1), (26, 1), (27, 1)] (by kernel_rfl) ?_)
 conv => whnf
 refine ⟨_, ⟨rfl, rfl, rr⟩, ?_⟩
 conv => whnf
 refine ⟨_, ⟨rfl, rfl, rr⟩, ?_⟩
 conv => whnf
 refine ⟨_, (fun _ => rr), ?_⟩
 conv => whnf
 refine ⟨_, (fun _ => rr), ?_⟩
 conv => whnf
 refine cB h (fun hb4 h => ?_) (fun hb4 h => ?_)
 ·conv => whnf
  refine ⟨_, ⟨rfl, rfl, rr⟩, ?_⟩
  conv => whnf
  refine ⟨_, ⟨rfl, rfl, rr⟩, ?_⟩
  conv => whnf
  refine ⟨_, ⟨rfl, rfl, rr⟩, ?_⟩
  conv => whnf
  refine ⟨_, ⟨rfl, rfl, rr⟩, ?_⟩
  conv => whnf
  refine ⟨_, ⟨rfl, rfl, rr⟩, ?_⟩
  conv => whnf
  refine ⟨_, ⟨rfl, rfl, rr⟩, ?_⟩
  conv => whnf
  refine ⟨_, (fun _ => by (conv => whnf); (refine arS_raw ?_); (conv => whnf); (exact rr)), ?_⟩
  conv => whnf
  refine ⟨_, ⟨rfl, rfl, rr⟩, ?_⟩
  conv => whnf
  refine ⟨_, ⟨rfl, rfl, rr⟩, ?_⟩
  conv => whnf
  refine ⟨_, ⟨rfl, rfl, rr⟩, ?_⟩
  conv => whnf
  refine ⟨_, ⟨rfl, rfl, rr⟩, ?_⟩
  conv => whnf
  refine ⟨_, ⟨rfl, rfl, rr⟩, ?_⟩
  conv => whnf
  refine ⟨_, (fun _ => by (conv => whnf); (refine arS_raw ?_); (conv => whnf); (exact rr)), ?_⟩
  conv => whnf
  obtain ⟨x_5, hx_5, h⟩ := bS h
  refine ⟨_, ⟨rfl, rfl, (by (conv => whnf); (refine ixP_of hx_5 ?_); (conv => whnf); (exact rr))⟩, ?_⟩
  conv => whnf
  refine ⟨_, ⟨rfl, rfl, rr⟩, ?_⟩
  conv => whnf
  refine ⟨_, ⟨rfl, rfl, rr⟩, ?_⟩
  conv => whnf
  refine ⟨_, ⟨rfl, rfl, rr⟩, ?_⟩
  conv => whnf
  refine ⟨_, (fun _ => by (conv => whnf); (refine arS_raw ?_); (conv => whnf); (exact rr)), ?_⟩
  conv => whnf
  obtain ⟨x_6, hx_6, h⟩ := bS h
  refine ⟨_, ⟨rfl, rfl, (by (conv => whnf); (refine ixP_of hx_6 ?_); (conv => whnf); (exact rr))⟩, ?_⟩
  conv => whnf
  refine ⟨_, ⟨rfl, rfl, rr⟩, ?_⟩
  conv => whnf
  refine ⟨_, (fun _ => by (conv => whnf); (refine arS_raw ?_); (conv => whnf); (exact rr)), ?_⟩
  conv => whnf
  obtain ⟨r_7, hc8, h⟩ := bS h
  refine ⟨_, (fun _ => by (conv => whnf); (refine PC.ecall (P222 d_1 ((w64 ((w64 (y_2.Hi - d_1.x.Lo)) + x_6))) r_7 hc8) (fun rs hrs => ?_)); (subst hrs); (conv => whnf); (exact rr)), ?_⟩
  conv => whnf
  refine ⟨_, (fun _ => rr), ?_⟩
  conv => whnf
  refine ⟨_, (fun _ => rr), ?_⟩
  conv => whnf
  refine Tr.ret ?_
  conv => whnf
  cases h
  rfl
 conv => whnf
 refine ⟨_, (fun _ => rr), ?_⟩
 conv => whnf
 refine ⟨_, (fun _ => rr), ?_⟩
 conv => whnf
 refine Tr.ret ?_
 conv => whnf
 cases h
 rfl
theorem P224 (y_1 : TOutcome) (c_2 : List (List Int)) (c_3 : Int) (c_4 : List Int) (c_5 : List (List TOutcome)) (c_6 : Int) (c_7 : List Int) (c_8 : List (List TOutcome)) (c_9 : Bool) (c_10 : Int) (c_11 : Int) (c_12 : Int) (r_13 : Bool) (h : M224 y_1 c_2 c_3 c_4 c_5 c_6 c_7 c_8 c_9 c_10 c_11 c_12 = some r_13) :
    PC prog 52 [(eTOutcome y_1), (.ro [(.ls (List.map (eL eI) c_2)), (.i .i64 c_3), (.ls (List.map eI c_4)), (.ls (List.map (eL eTOutcome) c_5)), (.i .i64 c_6), (.ls (List.map eI c_7)), (.ls (List.map (eL eTOutcome) c_8)), (.b c_9), (.i .i64 c_10), (.i .i64 c_11), (.i .i64 c_12)])] (fun rs => rs = [(.b r_13)]) := by
 refine PC.of_tr (cx := ⟨8, none, lay, 0⟩) layOK func52 rfl rfl rfl rfl rfl (by simp [f52]) ?_
 unfold M224 at h
 refine Tr.seq ?_
 refine rg ?_
 conv => whnf
 refine Tr.seq ?_
 refine rg ?_
 conv => whnf
 obtain ⟨r_14, hc15, h⟩ := bS h
 refine PC.ecall (P223 (({ far := c_2, rival := ({ Bib := c_3, Keys := c_4, Worlds := c_5 } : TRunner), runner := ({ Bib := c_6, Keys := c_7, Worlds := c_8 } : TRunner), x := ({ Out := c_9, Seg := c_10, Lo := c_11, Hi := c_12 } : TOutcome) } : Twitness_duel)) y_1 r_14 hc15) (fun rs hrs => ?_)
 subst hrs
 conv => whnf
 refine Tr.ret ?_
 conv => whnf
 cases h
 rfl
end Go.Proofs.Tryz
