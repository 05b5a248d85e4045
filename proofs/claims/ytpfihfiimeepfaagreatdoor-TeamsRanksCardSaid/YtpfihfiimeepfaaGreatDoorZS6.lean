/- Contracts of functions, by program (gen.py). No condition. -/
import Derived.Test.YtpfihfiimeepfaaGreatDoorZL
import Derived.Test.YtpfihfiimeepfaaGreatDoorZM
import Derived.Test.YtpfihfiimeepfaaGreatDoorZCB
import Derived.Test.YtpfihfiimeepfaaGreatDoorZC7
import Derived.Test.YtpfihfiimeepfaaGreatDoorZS5
namespace Go.Proofs.Tryz
open Go Go.Abs Go.Stop
set_option maxRecDepth 8000
set_option linter.unusedVariables false
set_option linter.unusedSimpArgs false
theorem P153 (f_1 : TField) (r_2 : Int) (h : M153 f_1 = some r_2) :
    PC prog 43 [(eTField f_1)] (fun rs => rs = [(.i .i64 r_2)]) := by
 refine PC.of_tr (cx := ⟨182, none, lay, 0⟩) layOK func43 rfl rfl rfl rfl rfl (by simp [f43]) ?_
 unfold M153 at h
 refine sg ?_
 conv=>whnf
 refine Tr.seq ?_
 refine Tr.seq ?_
 obtain ⟨v_3, hv4, h⟩ := bS h
 refine Tr.cutQ1 ([(1, .pt 0 0), (2, (dI 0)), (30, .d (.b v_3))]) ([some (.var [.d (.ls (List.map eTSegment f_1.Clocks.Segments)), .d (.ls (List.map (eL eI) f_1.Clocks.Far)), .d (.ls (List.map eTPair f_1.Pairs)), .d (.ls (List.map eTRunner f_1.Runners))])]) ?_ (fun T1 H1 hw => ?_)
 ·replace h := hv4; clear hv4
  refine rg ?_
  conv=>whnf
  obtain ⟨r_5, hc6, h⟩ := bS h
  refine PC.ecall (P135 f_1.Clocks r_5 hc6) (fun rs hrs => ?_)
  subst hrs
  conv=>whnf
  refine cB h (fun hb7 h => ?_) (fun hb7 h => ?_)
  ·conv=>whnf
   cases h
   exact Wk.mk2 [0] 1 rfl rfl (by decide) rfl ⟨rr, trivial⟩ ⟨rr, rr, rr, trivial⟩
  conv=>whnf
  refine lnS_map ?_
  conv=>whnf
  refine cB h (fun hb8 h => ?_) (fun hb8 h => ?_)
  ·conv=>whnf
   cases h
   exact Wk.mk2 [0] 1 rfl rfl (by decide) rfl ⟨rr, trivial⟩ ⟨rr, rr, rr, trivial⟩
  conv=>whnf
  refine lnS_map ?_
  conv=>whnf
  refine cB h (fun hb9 h => ?_) (fun hb9 h => ?_)
  ·conv=>whnf
   cases h
   exact Wk.mk2 [0] 1 rfl rfl (by decide) rfl ⟨rr, trivial⟩ ⟨rr, rr, rr, trivial⟩
  conv=>whnf
  refine lnS_map ?_
  conv=>whnf
  cases h
  exact Wk.mk2 [0] 1 rfl rfl (by decide) rfl ⟨rr, trivial⟩ ⟨rr, rr, rr, trivial⟩
 clear hv4
 conv=>whnf
 refine Tr.weak hw ?_
 refine Tr.cond ?_
 conv=>whnf
 refine cB h (fun hb10 h => ?_) (fun hb10 h => ?_)
 ·refine sg ?_
  conv=>whnf
  refine Tr.ret ?_
  conv=>whnf
  cases h
  rfl
 refine Tr.skip ?_
 conv=>whnf
 refine Tr.seq ?_
 refine sg ?_
 conv=>whnf
 refine Tr.cutQ (α := Unit) (fun s => ([(1, .pt 0 0), (2, (dI 0))], [some (.var [.d (.ls (List.map eTSegment f_1.Clocks.Segments)), .d (.ls (List.map (eL eI) f_1.Clocks.Far)), .d (.ls (List.map eTPair f_1.Pairs)), .d (.ls (List.map eTRunner f_1.Runners))])])) (fun s => M152 f_1 s = some r_2) ?_ ?_
 ·refine Tr.block ?_
  refine Tr.loopM (σ := Int) (fun n s => M145 f_1 (M152 f_1) n s) r_2 (fun s => ([(1, .pt 0 0), (2, (dI 0)), (3, (dI s))], [some (.var [.d (.ls (List.map eTSegment f_1.Clocks.Segments)), .d (.ls (List.map (eL eI) f_1.Clocks.Far)), .d (.ls (List.map eTPair f_1.Pairs)), .d (.ls (List.map eTRunner f_1.Runners))])])) (((((f_1.Pairs).length : Int)) - 0 : Int).toNat + 1) (0) h (fun s => rfl) (Wk.mk2 [0] 1 rfl rfl (by decide) rfl ⟨rr, trivial⟩ ⟨rr, rr, rr, trivial⟩) ?_
  clear h
  rintro n_13 i_12 h
  replace h : M145 f_1 (M152 f_1) (n_13 + 1) i_12 = some r_2 := h
  rw [M145] at h
  refine Tr.seq ?_
  refine sg ?_
  conv=>whnf
  refine lnS_map ?_
  conv=>whnf
  refine Tr.cond ?_
  conv=>whnf
  refine cB h (fun hb16 h => ?_) (fun hb16 h => ?_)
  ·refine Tr.skip ?_
   conv=>whnf
   refine Tr.seq ?_
   refine Tr.block ?_
   refine sg ?_
   conv=>whnf
   obtain ⟨x_17, hx_17, h⟩ := bS h
   refine ixP_of hx_17 ?_
   conv=>whnf
   refine Tr.seq ?_
   refine sg ?_
   conv=>whnf
   refine cB h (fun hb18 h => ?_) (fun hb18 h => ?_)
   ·conv=>whnf
    refine Tr.cond ?_
    conv=>whnf
    refine sg ?_
    conv=>whnf
    refine Tr.ret ?_
    conv=>whnf
    cases h
    rfl
   conv=>whnf
   refine cB h (fun hb19 h => ?_) (fun hb19 h => ?_)
   ·conv=>whnf
    refine Tr.cond ?_
    conv=>whnf
    refine sg ?_
    conv=>whnf
    refine Tr.ret ?_
    conv=>whnf
    cases h
    rfl
   conv=>whnf
   refine Tr.cond ?_
   conv=>whnf
   refine cB h (fun hb20 h => ?_) (fun hb20 h => ?_)
   ·refine sg ?_
    conv=>whnf
    refine Tr.ret ?_
    conv=>whnf
    cases h
    rfl
   refine Tr.skip ?_
   conv=>whnf
   refine Tr.seq ?_
   obtain ⟨v_21, hv22, h⟩ := bS h
   refine Tr.cutQ1 ([(1, .pt 0 0), (2, (dI 0)), (3, (dI i_12)), (95, .d (.b v_21))]) ([some (.var [.d (.ls (List.map eTSegment f_1.Clocks.Segments)), .d (.ls (List.map (eL eI) f_1.Clocks.Far)), .d (.ls (List.map eTPair f_1.Pairs)), .d (.ls (List.map eTRunner f_1.Runners))])]) ?_ (fun T1 H1 hw => ?_)
   ·replace h := hv22; clear hv22
    refine dq [] [(0,1),(1,1),(2,1),(3,3),(4,3),(5,1),(6,1),(7,2),(8,2),(9,2),(10,4),(11,4),(12,1),(13,1),(14,3),(15,3),(16,1),(17,1),(18,2),(19,2),(20,2),(21,4),(22,4),(23,1),(24,1),(25,3),(26,3),(27,1),(28,1),(29,2),(30,2),(31,2),(32,4),(33,4),(34,1),(35,1),(36,1),(37,1)] ?_
    conv=>whnf
    refine q1 ?_
    conv=>whnf
    refine q1 ?_
    conv=>whnf
    refine q1 ?_
    conv=>whnf
    refine cB h (fun hb23 h => ?_) (fun hb23 h => ?_)
    ·conv=>whnf
     refine q2 ?_
     conv=>whnf
     refine q2 ?_
     conv=>whnf
     refine q1 ?_
     conv=>whnf
     refine q4 ?_
     conv=>whnf
     obtain ⟨x_24, hx_24, h⟩ := bS h
     refine q3 (ixP_of hx_24 rr) ?_
     conv=>whnf
     refine q2 ?_
     conv=>whnf
     refine q2 ?_
     conv=>whnf
     refine q2 ?_
     conv=>whnf
     refine q2 ?_
     conv=>whnf
     refine q1 ?_
     conv=>whnf
     refine q1 ?_
     conv=>whnf
     refine cB h (fun hb25 h => ?_) (fun hb25 h => ?_)
     ·conv=>whnf
      refine q1 ?_
      conv=>whnf
      refine q1 ?_
      conv=>whnf
      cases h
      exact Wk.mk2 [0] 2 rfl rfl (by decide) rfl ⟨rr, trivial⟩ ⟨rr, rr, rr, rr, trivial⟩
     conv=>whnf
     refine q2 ?_
     conv=>whnf
     refine q2 ?_
     conv=>whnf
     refine q1 ?_
     conv=>whnf
     refine q4 ?_
     conv=>whnf
     obtain ⟨x_26, hx_26, h⟩ := bS h
     refine q3 (ixP_of hx_26 rr) ?_
     conv=>whnf
     refine q2 ?_
     conv=>whnf
     refine q2 ?_
     conv=>whnf
     refine q2 ?_
     conv=>whnf
     refine q2 ?_
     conv=>whnf
     refine q1 ?_
     conv=>whnf
     refine q1 ?_
     conv=>whnf
     refine cB h (fun hb27 h => ?_) (fun hb27 h => ?_)
     ·conv=>whnf
      refine q2 ?_
      conv=>whnf
      refine q2 ?_
      conv=>whnf
      refine q1 ?_
      conv=>whnf
      refine q4 ?_
      conv=>whnf
      obtain ⟨x_28, hx_28, h⟩ := bS h
      refine q3 (ixP_of hx_28 rr) ?_
      conv=>whnf
      refine q2 ?_
      conv=>whnf
      refine q2 ?_
      conv=>whnf
      refine q2 ?_
      conv=>whnf
      refine q2 ?_
      conv=>whnf
      refine q1 ?_
      conv=>whnf
      refine q1 ?_
      conv=>whnf
      refine q1 ?_
      conv=>whnf
      refine q1 ?_
      conv=>whnf
      cases h
      exact Wk.mk2 [0] 2 rfl rfl (by decide) rfl ⟨rr, trivial⟩ ⟨rr, rr, rr, rr, trivial⟩
     conv=>whnf
     refine q1 ?_
     conv=>whnf
     refine q1 ?_
     conv=>whnf
     refine q1 ?_
     conv=>whnf
     cases h
     exact Wk.mk2 [0] 2 rfl rfl (by decide) rfl ⟨rr, trivial⟩ ⟨rr, rr, rr, rr, trivial⟩
    conv=>whnf
    refine q1 ?_
    conv=>whnf
    cases h
    exact Wk.mk2 [0] 2 rfl rfl (by decide) rfl ⟨rr, trivial⟩ ⟨rr, rr, rr, rr, trivial⟩
   clear hv22
   conv=>whnf
   refine Tr.weak hw ?_
   refine Tr.cond ?_
   conv=>whnf
   refine cB h (fun hb29 h => ?_) (fun hb29 h => ?_)
   ·refine sg ?_
    conv=>whnf
    refine Tr.ret ?_
    conv=>whnf
    cases h
    rfl
   refine Tr.skip ?_
   conv=>whnf
   refine rg ?_
   conv=>whnf
   refine arS_raw ?_
   conv=>whnf
   refine ⟨((w64 (i_12 + 1))), h, ?_⟩
   exact Wk.mk2 [0] 1 rfl rfl (by decide) rfl ⟨rr, trivial⟩ ⟨rr, rr, rr, trivial⟩
  refine Tr.exit ?_
  conv=>whnf
  refine ⟨(), h, ?_⟩
  exact Wk.mk2 [0] 1 rfl rfl (by decide) rfl ⟨rr, trivial⟩ ⟨rr, rr, trivial⟩
 clear h
 rintro _ h T1 H1 hw
 replace h : M152 f_1 () = some r_2 := h
 conv=>whnf
 refine Tr.weak hw ?_
 unfold M152 at h
 refine Tr.seq ?_
 refine sg ?_
 conv=>whnf
 refine Tr.cutQ (α := Unit) (fun s => ([(1, .pt 0 0), (2, (dI 0))], [some (.var [.d (.ls (List.map eTSegment f_1.Clocks.Segments)), .d (.ls (List.map (eL eI) f_1.Clocks.Far)), .d (.ls (List.map eTPair f_1.Pairs)), .d (.ls (List.map eTRunner f_1.Runners))])])) (fun s => M151 f_1 s = some r_2) ?_ ?_
 ·refine Tr.block ?_
  refine Tr.loopM (σ := Int) (fun n s => M150 f_1 (M151 f_1) n s) r_2 (fun s => ([(1, .pt 0 0), (2, (dI 0)), (5, (dI s))], [some (.var [.d (.ls (List.map eTSegment f_1.Clocks.Segments)), .d (.ls (List.map (eL eI) f_1.Clocks.Far)), .d (.ls (List.map eTPair f_1.Pairs)), .d (.ls (List.map eTRunner f_1.Runners))])])) (((((f_1.Runners).length : Int)) - 0 : Int).toNat + 1) (0) h (fun s => rfl) (Wk.mk2 [0] 1 rfl rfl (by decide) rfl ⟨rr, trivial⟩ ⟨rr, rr, rr, trivial⟩) ?_
  clear h
  rintro n_32 i_31 h
  replace h : M150 f_1 (M151 f_1) (n_32 + 1) i_31 = some r_2 := h
  rw [M150] at h
  refine Tr.seq ?_
  refine sg ?_
  conv=>whnf
  refine lnS_map ?_
  conv=>whnf
  refine Tr.cond ?_
  conv=>whnf
  refine cB h (fun hb35 h => ?_) (fun hb35 h => ?_)
  ·refine Tr.skip ?_
   conv=>whnf
   refine Tr.seq ?_
   refine Tr.block ?_
   refine sg ?_
   conv=>whnf
   obtain ⟨x_36, hx_36, h⟩ := bS h
   refine ixP_of hx_36 ?_
   conv=>whnf
   refine Tr.seq ?_
   refine Tr.seq ?_
   obtain ⟨v_37, hv38, h⟩ := bS h
   refine Tr.cutQ1 ([(1, .pt 0 0), (2, (dI 0)), (5, (dI i_31)), (6, .pt 1 0), (149, .d (.b v_37))]) ([some (.var [.d (.ls (List.map eTSegment f_1.Clocks.Segments)), .d (.ls (List.map (eL eI) f_1.Clocks.Far)), .d (.ls (List.map eTPair f_1.Pairs)), .d (.ls (List.map eTRunner f_1.Runners))]), some (.var [(dI x_36.Bib), .d (.ls (List.map eI x_36.Keys)), .d (.ls (List.map (eL eTOutcome) x_36.Worlds))])]) ?_ (fun T1 H1 hw => ?_)
   ·replace h := hv38; clear hv38
    refine dq [] [(0,4),(1,4),(2,1),(3,1),(4,1),(5,1),(6,1),(7,1),(8,3),(9,3),(10,1),(11,1),(12,2),(13,2),(14,2),(15,4),(16,4),(17,1),(18,1),(19,1),(20,1),(21,4),(22,4),(23,2),(24,3),(25,3),(26,2),(27,2),(28,2),(29,2),(30,1),(31,1),(32,1),(33,4),(34,4),(35,2),(36,3),(37,3),(38,2),(39,1),(40,1),(41,1)] ?_
    conv=>whnf
    refine q2 ?_
    conv=>whnf
    refine q2 ?_
    conv=>whnf
    obtain ⟨r_39, hc40, h⟩ := bS h
    refine q1 ?_ (fun _ => pe (P137 x_36.Bib r_39 hc40) rr)
    conv=>whnf
    refine q1 ?_
    conv=>whnf
    refine q1 ?_
    conv=>whnf
    refine cB h (fun hb41 h => ?_) (fun hb41 h => ?_)
    ·conv=>whnf
     refine q1 ?_
     conv=>whnf
     refine q1 ?_
     conv=>whnf
     refine q1 ?_
     conv=>whnf
     refine q1 ?_
     conv=>whnf
     refine q1 ?_
     conv=>whnf
     cases h
     exact Wk.mk2 [0, 1] 2 rfl rfl (by decide) rfl ⟨rr, rr, trivial⟩ ⟨rr, rr, rr, rr, rr, trivial⟩
    conv=>whnf
    refine q1 ?_
    conv=>whnf
    refine q1 ?_
    conv=>whnf
    refine q1 ?_
    conv=>whnf
    refine cB h (fun hb42 h => ?_) (fun hb42 h => ?_)
    ·conv=>whnf
     refine q2 ?_
     conv=>whnf
     refine q2 ?_
     conv=>whnf
     refine q1 ?_
     conv=>whnf
     refine q4 ?_
     conv=>whnf
     obtain ⟨x_43, hx_43, h⟩ := bS h
     refine q3 (ixP_of hx_43 rr) ?_
     conv=>whnf
     refine q2 ?_
     conv=>whnf
     refine q2 ?_
     conv=>whnf
     refine q2 ?_
     conv=>whnf
     refine q2 ?_
     conv=>whnf
     refine q1 ?_
     conv=>whnf
     refine q1 ?_
     conv=>whnf
     refine q1 ?_
     conv=>whnf
     refine q1 ?_
     conv=>whnf
     refine cB h (fun hb44 h => ?_) (fun hb44 h => ?_)
     ·conv=>whnf
      refine q1 ?_
      conv=>whnf
      refine q1 ?_
      conv=>whnf
      refine q1 ?_
      conv=>whnf
      cases h
      exact Wk.mk2 [0, 1] 2 rfl rfl (by decide) rfl ⟨rr, rr, trivial⟩ ⟨rr, rr, rr, rr, rr, trivial⟩
     conv=>whnf
     refine q2 ?_
     conv=>whnf
     refine q2 ?_
     conv=>whnf
     refine q3 (lnS_map rr) ?_
     conv=>whnf
     refine q2 ?_
     conv=>whnf
     refine q2 ?_
     conv=>whnf
     obtain ⟨x_45, hx_45, h⟩ := bS h
     refine q3 (ixP_of hx_45 rr) ?_
     conv=>whnf
     refine q2 ?_
     conv=>whnf
     refine q2 ?_
     conv=>whnf
     refine q3 (lnS_map rr) ?_
     conv=>whnf
     refine q1 ?_
     conv=>whnf
     refine q1 ?_
     conv=>whnf
     refine q1 ?_
     conv=>whnf
     refine cB h (fun hb46 h => ?_) (fun hb46 h => ?_)
     ·conv=>whnf
      refine q1 ?_
      conv=>whnf
      cases h
      exact Wk.mk2 [0, 1] 2 rfl rfl (by decide) rfl ⟨rr, rr, trivial⟩ ⟨rr, rr, rr, rr, rr, trivial⟩
     conv=>whnf
     refine q2 ?_
     conv=>whnf
     refine q2 ?_
     conv=>whnf
     refine q3 (lnS_map rr) ?_
     conv=>whnf
     refine q2 ?_
     conv=>whnf
     refine q2 ?_
     conv=>whnf
     refine q3 (lnS_map rr) ?_
     conv=>whnf
     refine q4 ?_
     conv=>whnf
     refine q1 ?_
     conv=>whnf
     refine q1 ?_
     conv=>whnf
     cases h
     exact Wk.mk2 [0, 1] 2 rfl rfl (by decide) rfl ⟨rr, rr, trivial⟩ ⟨rr, rr, rr, rr, rr, trivial⟩
    conv=>whnf
    refine q1 ?_
    conv=>whnf
    refine q1 ?_
    conv=>whnf
    refine q1 ?_
    conv=>whnf
    refine q2 ?_
    conv=>whnf
    refine q2 ?_
    conv=>whnf
    refine q3 (lnS_map rr) ?_
    conv=>whnf
    refine q2 ?_
    conv=>whnf
    refine q2 ?_
    conv=>whnf
    obtain ⟨x_47, hx_47, h⟩ := bS h
    refine q3 (ixP_of hx_47 rr) ?_
    conv=>whnf
    refine q2 ?_
    conv=>whnf
    refine q2 ?_
    conv=>whnf
    refine q3 (lnS_map rr) ?_
    conv=>whnf
    refine q1 ?_
    conv=>whnf
    refine q1 ?_
    conv=>whnf
    refine q1 ?_
    conv=>whnf
    refine cB h (fun hb48 h => ?_) (fun hb48 h => ?_)
    ·conv=>whnf
     refine q1 ?_
     conv=>whnf
     cases h
     exact Wk.mk2 [0, 1] 2 rfl rfl (by decide) rfl ⟨rr, rr, trivial⟩ ⟨rr, rr, rr, rr, rr, trivial⟩
    conv=>whnf
    refine q2 ?_
    conv=>whnf
    refine q2 ?_
    conv=>whnf
    refine q3 (lnS_map rr) ?_
    conv=>whnf
    refine q2 ?_
    conv=>whnf
    refine q2 ?_
    conv=>whnf
    refine q3 (lnS_map rr) ?_
    conv=>whnf
    refine q4 ?_
    conv=>whnf
    refine q1 ?_
    conv=>whnf
    refine q1 ?_
    conv=>whnf
    cases h
    exact Wk.mk2 [0, 1] 2 rfl rfl (by decide) rfl ⟨rr, rr, trivial⟩ ⟨rr, rr, rr, rr, rr, trivial⟩
   clear hv38
   conv=>whnf
   refine Tr.weak hw ?_
   refine Tr.cond ?_
   conv=>whnf
   refine cB h (fun hb49 h => ?_) (fun hb49 h => ?_)
   ·refine sg ?_
    conv=>whnf
    refine Tr.ret ?_
    conv=>whnf
    cases h
    rfl
   refine Tr.skip ?_
   conv=>whnf
   refine sg ?_
   conv=>whnf
   refine Tr.cutQ (α := Unit) (fun s => ([(1, .pt 0 0), (2, (dI 0)), (5, (dI i_31))], [some (.var [.d (.ls (List.map eTSegment f_1.Clocks.Segments)), .d (.ls (List.map (eL eI) f_1.Clocks.Far)), .d (.ls (List.map eTPair f_1.Pairs)), .d (.ls (List.map eTRunner f_1.Runners))])])) (fun s => M149 i_31 (M150 f_1 (M151 f_1) n_32) s = some r_2) ?_ ?_
   ·refine Tr.block ?_
    refine Tr.loopM (σ := Int) (fun n s => M148 f_1 x_36 (M149 i_31 (M150 f_1 (M151 f_1) n_32)) n s) r_2 (fun s => ([(1, .pt 0 0), (2, (dI 0)), (5, (dI i_31)), (6, .pt 1 0), (7, (dI s))], [some (.var [.d (.ls (List.map eTSegment f_1.Clocks.Segments)), .d (.ls (List.map (eL eI) f_1.Clocks.Far)), .d (.ls (List.map eTPair f_1.Pairs)), .d (.ls (List.map eTRunner f_1.Runners))]), some (.var [(dI x_36.Bib), .d (.ls (List.map eI x_36.Keys)), .d (.ls (List.map (eL eTOutcome) x_36.Worlds))])])) (((((x_36.Worlds).length : Int)) - 0 : Int).toNat + 1) (0) h (fun s => rfl) (Wk.mk2 [0, 1] 2 rfl rfl (by decide) rfl ⟨rr, rr, trivial⟩ ⟨rr, rr, rr, rr, rr, trivial⟩) ?_
    clear h
    rintro n_52 w_51 h
    replace h : M148 f_1 x_36 (M149 i_31 (M150 f_1 (M151 f_1) n_32)) (n_52 + 1) w_51 = some r_2 := h
    rw [M148] at h
    refine Tr.seq ?_
    refine sg ?_
    conv=>whnf
    refine lnS_map ?_
    conv=>whnf
    refine Tr.cond ?_
    conv=>whnf
    refine cB h (fun hb55 h => ?_) (fun hb55 h => ?_)
    ·refine Tr.skip ?_
     conv=>whnf
     refine Tr.seq ?_
     refine Tr.block ?_
     refine sg ?_
     conv=>whnf
     refine Tr.cutQ (α := Unit) (fun s => ([(1, .pt 0 0), (2, (dI 0)), (5, (dI i_31)), (6, .pt 1 0), (7, (dI w_51))], [some (.var [.d (.ls (List.map eTSegment f_1.Clocks.Segments)), .d (.ls (List.map (eL eI) f_1.Clocks.Far)), .d (.ls (List.map eTPair f_1.Pairs)), .d (.ls (List.map eTRunner f_1.Runners))]), some (.var [(dI x_36.Bib), .d (.ls (List.map eI x_36.Keys)), .d (.ls (List.map (eL eTOutcome) x_36.Worlds))])])) (fun s => M147 w_51 (M148 f_1 x_36 (M149 i_31 (M150 f_1 (M151 f_1) n_32)) n_52) s = some r_2) ?_ ?_
     ·refine Tr.block ?_
      refine Tr.loopM (σ := Int) (fun n s => M146 f_1 x_36 w_51 (M147 w_51 (M148 f_1 x_36 (M149 i_31 (M150 f_1 (M151 f_1) n_32)) n_52)) n s) r_2 (fun s => ([(1, .pt 0 0), (2, (dI 0)), (5, (dI i_31)), (6, .pt 1 0), (7, (dI w_51)), (8, (dI s))], [some (.var [.d (.ls (List.map eTSegment f_1.Clocks.Segments)), .d (.ls (List.map (eL eI) f_1.Clocks.Far)), .d (.ls (List.map eTPair f_1.Pairs)), .d (.ls (List.map eTRunner f_1.Runners))]), some (.var [(dI x_36.Bib), .d (.ls (List.map eI x_36.Keys)), .d (.ls (List.map (eL eTOutcome) x_36.Worlds))])])) ((((((Option.getD (idx x_36.Worlds w_51) default)).length : Int)) - 0 : Int).toNat + 1) (0) h (fun s => rfl) (Wk.mk2 [0, 1] 2 rfl rfl (by decide) rfl ⟨rr, rr, trivial⟩ ⟨rr, rr, rr, rr, rr, rr, trivial⟩) ?_
      clear h
      rintro n_58 n_57 h
      replace h : M146 f_1 x_36 w_51 (M147 w_51 (M148 f_1 x_36 (M149 i_31 (M150 f_1 (M151 f_1) n_32)) n_52)) (n_58 + 1) n_57 = some r_2 := h
      rw [M146] at h
      refine Tr.seq ?_
      refine sg ?_
      conv=>whnf
      obtain ⟨x_61, hx_61, h⟩ := bS h
      refine ixP_of hx_61 ?_
      conv=>whnf
      refine lnS_map ?_
      conv=>whnf
      refine Tr.cond ?_
      conv=>whnf
      refine cB h (fun hb62 h => ?_) (fun hb62 h => ?_)
      ·refine Tr.skip ?_
       conv=>whnf
       refine Tr.seq ?_
       refine Tr.block ?_
       refine sd [] [(0,3),(1,3),(2,4),(3,4),(4,1),(5,2),(6,2),(7,1),(8,2),(9,2),(10,1),(11,1)] ?_
       conv=>whnf
       refine q2 ?_
       conv=>whnf
       refine q2 ?_
       conv=>whnf
       refine q2 ?_
       conv=>whnf
       refine q2 ?_
       conv=>whnf
       refine q1 ?_
       conv=>whnf
       obtain ⟨x_63, hx_63, h⟩ := bS h
       refine q3 (ixP_of hx_63 rr) ?_
       conv=>whnf
       refine q2 ?_
       conv=>whnf
       refine q1 ?_
       conv=>whnf
       obtain ⟨x_64, hx_64, h⟩ := bS h
       refine q3 (ixP_of hx_64 rr) ?_
       conv=>whnf
       refine q2 ?_
       conv=>whnf
       obtain ⟨r_65, hc66, h⟩ := bS h
       refine q1 ?_ (fun _ => pe (P138 f_1.Clocks x_64 r_65 hc66) rr)
       conv=>whnf
       refine q1 ?_
       conv=>whnf
       refine Tr.cond ?_
       conv=>whnf
       refine cB h (fun hb67 h => ?_) (fun hb67 h => ?_)
       ·refine sg ?_
        conv=>whnf
        refine Tr.ret ?_
        conv=>whnf
        cases h
        rfl
       refine Tr.skip ?_
       conv=>whnf
       refine rg ?_
       conv=>whnf
       refine arS_raw ?_
       conv=>whnf
       refine ⟨((w64 (n_57 + 1))), h, ?_⟩
       exact Wk.mk2 [0, 1] 2 rfl rfl (by decide) rfl ⟨rr, rr, trivial⟩ ⟨rr, rr, rr, rr, rr, rr, trivial⟩
      refine Tr.exit ?_
      conv=>whnf
      refine ⟨(), h, ?_⟩
      exact Wk.mk2 [0, 1] 2 rfl rfl (by decide) rfl ⟨rr, rr, trivial⟩ ⟨rr, rr, rr, rr, rr, trivial⟩
     clear h
     rintro _ h T1 H1 hw
     replace h : M147 w_51 (M148 f_1 x_36 (M149 i_31 (M150 f_1 (M151 f_1) n_32)) n_52) () = some r_2 := h
     conv=>whnf
     refine Tr.weak hw ?_
     unfold M147 at h
     refine rg ?_
     conv=>whnf
     refine arS_raw ?_
     conv=>whnf
     refine ⟨((w64 (w_51 + 1))), h, ?_⟩
     exact Wk.mk2 [0, 1] 2 rfl rfl (by decide) rfl ⟨rr, rr, trivial⟩ ⟨rr, rr, rr, rr, rr, trivial⟩
    refine Tr.exit ?_
    conv=>whnf
    refine ⟨(), h, ?_⟩
    exact Wk.mk2 [0] 2 rfl rfl (by decide) rfl ⟨rr, trivial⟩ ⟨rr, rr, rr, trivial⟩
   clear h
   rintro _ h T1 H1 hw
   replace h : M149 i_31 (M150 f_1 (M151 f_1) n_32) () = some r_2 := h
   conv=>whnf
   refine Tr.weak hw ?_
   unfold M149 at h
   refine rg ?_
   conv=>whnf
   refine arS_raw ?_
   conv=>whnf
   refine ⟨((w64 (i_31 + 1))), h, ?_⟩
   exact Wk.mk2 [0] 1 rfl rfl (by decide) rfl ⟨rr, trivial⟩ ⟨rr, rr, rr, trivial⟩
  refine Tr.exit ?_
  conv=>whnf
  refine ⟨(), h, ?_⟩
  exact Wk.mk2 [0] 1 rfl rfl (by decide) rfl ⟨rr, trivial⟩ ⟨rr, rr, trivial⟩
 clear h
 rintro _ h T1 H1 hw
 replace h : M151 f_1 () = some r_2 := h
 conv=>whnf
 refine Tr.weak hw ?_
 unfold M151 at h
 refine Tr.seq ?_
 refine sg ?_
 conv=>whnf
 obtain ⟨r_68, hc69, h⟩ := bS h
 refine PC.ecall (P144 f_1 r_68 hc69) (fun rs hrs => ?_)
 subst hrs
 conv=>whnf
 refine Tr.cond ?_
 conv=>whnf
 refine cB h (fun hb70 h => ?_) (fun hb70 h => ?_)
 ·refine sg ?_
  conv=>whnf
  refine Tr.ret ?_
  conv=>whnf
  cases h
  rfl
 refine Tr.skip ?_
 conv=>whnf
 refine sg ?_
 conv=>whnf
 refine Tr.ret ?_
 conv=>whnf
 cases h
 rfl
theorem P156 (f_1 : TField) (bib_2 : Int) (r_3 : Int) (r_4 : Bool) (h : M156 f_1 bib_2 = some (r_3, r_4)) :
    PC prog 44 [(eTField f_1), (.i .i64 bib_2)] (fun rs => rs = [(.i .i64 r_3), (.b r_4)]) := by
 refine PC.of_tr (cx := ⟨23, none, lay, 0⟩) layOK func44 rfl rfl rfl rfl rfl (by simp [f44]) ?_
 unfold M156 at h
 refine sg ?_
 conv=>whnf
 refine Tr.seq ?_
 refine sg ?_
 conv=>whnf
 refine Tr.cutQ (α := Unit) (fun s => ([(4, (dI 0)), (5, .d (.b false))], [])) (fun s => M155 s = some (r_3, r_4)) ?_ ?_
 ·refine Tr.block ?_
  refine Tr.loopM (σ := Int) (fun n s => M154 f_1 bib_2 M155 n s) (r_3, r_4) (fun s => ([(1, (dI bib_2)), (2, .pt 0 0), (4, (dI 0)), (5, .d (.b false)), (6, (dI s))], [some (.var [.d (.ls (List.map eTSegment f_1.Clocks.Segments)), .d (.ls (List.map (eL eI) f_1.Clocks.Far)), .d (.ls (List.map eTPair f_1.Pairs)), .d (.ls (List.map eTRunner f_1.Runners))])])) (((((f_1.Runners).length : Int)) - 0 : Int).toNat + 1) (0) h (fun s => rfl) (Wk.mk2 [0] 1 rfl rfl (by decide) rfl ⟨rr, trivial⟩ ⟨rr, rr, rr, rr, rr, trivial⟩) ?_
  clear h
  rintro n_7 i_6 h
  replace h : M154 f_1 bib_2 M155 (n_7 + 1) i_6 = some (r_3, r_4) := h
  rw [M154] at h
  refine Tr.seq ?_
  refine sg ?_
  conv=>whnf
  refine lnS_map ?_
  conv=>whnf
  refine Tr.cond ?_
  conv=>whnf
  refine cB h (fun hb10 h => ?_) (fun hb10 h => ?_)
  ·refine Tr.skip ?_
   conv=>whnf
   refine Tr.seq ?_
   refine Tr.block ?_
   refine sg ?_
   conv=>whnf
   obtain ⟨x_11, hx_11, h⟩ := bS h
   refine ixP_of hx_11 ?_
   conv=>whnf
   refine Tr.cond ?_
   conv=>whnf
   refine cB h (fun hb12 h => ?_) (fun hb12 h => ?_)
   ·refine sg ?_
    conv=>whnf
    refine Tr.ret ?_
    conv=>whnf
    cases h
    rfl
   refine Tr.skip ?_
   conv=>whnf
   refine rg ?_
   conv=>whnf
   refine arS_raw ?_
   conv=>whnf
   refine ⟨((w64 (i_6 + 1))), h, ?_⟩
   exact Wk.mk2 [0] 1 rfl rfl (by decide) rfl ⟨rr, trivial⟩ ⟨rr, rr, rr, rr, rr, trivial⟩
  refine Tr.exit ?_
  conv=>whnf
  refine ⟨(), h, ?_⟩
  exact Wk.mk2 [] 1 rfl rfl (by decide) rfl trivial ⟨rr, rr, trivial⟩
 clear h
 rintro _ h T1 H1 hw
 replace h : M155 () = some (r_3, r_4) := h
 conv=>whnf
 refine Tr.weak hw ?_
 unfold M155 at h
 refine sg ?_
 conv=>whnf
 refine Tr.ret ?_
 conv=>whnf
 cases h
 rfl
theorem P159 (f_1 : TField) (world_2 : Int) (r_3 : Bool) (h : M159 f_1 world_2 = some r_3) :
    PC prog 79 [(eTField f_1), (.i .i64 world_2)] (fun rs => rs = [(.b r_3)]) := by
 refine PC.of_tr (cx := ⟨35, none, lay, 0⟩) layOK func79 rfl rfl rfl rfl rfl (by simp [f79]) ?_
 unfold M159 at h
 refine sg ?_
 conv=>whnf
 refine Tr.seq ?_
 refine sg ?_
 conv=>whnf
 refine Tr.cutQ (α := Unit) (fun s => ([(4, .d (.b false))], [])) (fun s => M158 s = some r_3) ?_ ?_
 ·refine Tr.block ?_
  refine Tr.loopM (σ := Int) (fun n s => M157 f_1 world_2 M158 n s) r_3 (fun s => ([(1, (dI world_2)), (2, .pt 0 0), (4, .d (.b false)), (5, (dI s))], [some (.var [.d (.ls (List.map eTSegment f_1.Clocks.Segments)), .d (.ls (List.map (eL eI) f_1.Clocks.Far)), .d (.ls (List.map eTPair f_1.Pairs)), .d (.ls (List.map eTRunner f_1.Runners))])])) (((((f_1.Runners).length : Int)) - 0 : Int).toNat + 1) (0) h (fun s => rfl) (Wk.mk2 [0] 1 rfl rfl (by decide) rfl ⟨rr, trivial⟩ ⟨rr, rr, rr, rr, trivial⟩) ?_
  clear h
  rintro n_6 i_5 h
  replace h : M157 f_1 world_2 M158 (n_6 + 1) i_5 = some r_3 := h
  rw [M157] at h
  refine Tr.seq ?_
  refine sg ?_
  conv=>whnf
  refine lnS_map ?_
  conv=>whnf
  refine Tr.cond ?_
  conv=>whnf
  refine cB h (fun hb9 h => ?_) (fun hb9 h => ?_)
  ·refine Tr.skip ?_
   conv=>whnf
   refine Tr.seq ?_
   refine Tr.block ?_
   refine sg ?_
   conv=>whnf
   obtain ⟨x_10, hx_10, h⟩ := bS h
   refine ixP_of hx_10 ?_
   conv=>whnf
   refine lnS_map ?_
   conv=>whnf
   refine cB h (fun hb11 h => ?_) (fun hb11 h => ?_)
   ·conv=>whnf
    refine Tr.cond ?_
    conv=>whnf
    refine sg ?_
    conv=>whnf
    refine Tr.ret ?_
    conv=>whnf
    cases h
    rfl
   conv=>whnf
   obtain ⟨x_12, hx_12, h⟩ := bS h
   refine ixP_of hx_12 ?_
   conv=>whnf
   obtain ⟨x_13, hx_13, h⟩ := bS h
   refine ixP_of hx_13 ?_
   conv=>whnf
   refine lnS_map ?_
   conv=>whnf
   refine Tr.cond ?_
   conv=>whnf
   refine cB h (fun hb14 h => ?_) (fun hb14 h => ?_)
   ·refine sg ?_
    conv=>whnf
    refine Tr.ret ?_
    conv=>whnf
    cases h
    rfl
   refine Tr.skip ?_
   conv=>whnf
   refine rg ?_
   conv=>whnf
   refine arS_raw ?_
   conv=>whnf
   refine ⟨((w64 (i_5 + 1))), h, ?_⟩
   exact Wk.mk2 [0] 1 rfl rfl (by decide) rfl ⟨rr, trivial⟩ ⟨rr, rr, rr, rr, trivial⟩
  refine Tr.exit ?_
  conv=>whnf
  refine ⟨(), h, ?_⟩
  exact Wk.mk2 [] 1 rfl rfl (by decide) rfl trivial ⟨rr, trivial⟩
 clear h
 rintro _ h T1 H1 hw
 replace h : M158 () = some r_3 := h
 conv=>whnf
 refine Tr.weak hw ?_
 unfold M158 at h
 refine sg ?_
 conv=>whnf
 refine Tr.ret ?_
 conv=>whnf
 cases h
 rfl
theorem P160 (k_1 : TClocks) (seg_2 : Int) (x_3 : TSpan) (r_4 : TSpan) (h : M160 k_1 seg_2 x_3 = some r_4) :
    PC prog 102 [(eTClocks k_1), (.i .i64 seg_2), (eTSpan x_3)] (fun rs => rs = [(eTSpan r_4)]) := by
 refine PC.of_tr (cx := ⟨33, none, lay, 0⟩) layOK func102 rfl rfl rfl rfl rfl (by simp [f102]) ?_
 unfold M160 at h
 refine sg ?_
 conv=>whnf
 refine Tr.seq ?_
 refine sg ?_
 conv=>whnf
 refine Tr.cond ?_
 conv=>whnf
 refine cB h (fun hb5 h => ?_) (fun hb5 h => ?_)
 ·refine sg ?_
  conv=>whnf
  refine Tr.ret ?_
  conv=>whnf
  cases h
  rfl
 refine Tr.skip ?_
 conv=>whnf
 refine sd [(23,2)] [(0,4),(1,4),(2,3),(3,3),(4,1),(5,1),(6,2),(7,2),(8,2),(9,2),(10,1),(11,4),(12,4),(13,3),(14,3),(15,2),(16,2),(17,1),(18,1),(19,2),(20,2),(21,1),(22,1),(23,0)] ?_
 conv=>whnf
 refine q2 ?_
 conv=>whnf
 refine q2 ?_
 conv=>whnf
 refine q2 ?_
 conv=>whnf
 refine q2 ?_
 conv=>whnf
 refine q1 ?_
 conv=>whnf
 refine q4 ?_
 conv=>whnf
 obtain ⟨x_6, hx_6, h⟩ := bS h
 refine q3 (ixP_of hx_6 rr) ?_
 conv=>whnf
 refine q2 ?_
 conv=>whnf
 obtain ⟨x_7, hx_7, h⟩ := bS h
 refine q3 (ixP_of hx_7 rr) ?_
 conv=>whnf
 refine q2 ?_
 conv=>whnf
 refine q4 ?_
 conv=>whnf
 refine q2 ?_
 conv=>whnf
 refine q2 ?_
 conv=>whnf
 refine q2 ?_
 conv=>whnf
 refine q2 ?_
 conv=>whnf
 obtain ⟨x_8, hx_8, h⟩ := bS h
 refine q3 (ixP_of hx_8 rr) ?_
 conv=>whnf
 refine q2 ?_
 conv=>whnf
 refine q1 ?_
 conv=>whnf
 refine q4 ?_
 conv=>whnf
 obtain ⟨x_9, hx_9, h⟩ := bS h
 refine q3 (ixP_of hx_9 rr) ?_
 conv=>whnf
 refine q2 ?_
 conv=>whnf
 refine q4 ?_
 conv=>whnf
 refine q1 ?_
 conv=>whnf
 refine ⟨_, _, rr, kp_ok (by repeat (first | exact trivial | refine ⟨trivial, ?_⟩ | refine ⟨rfl, ?_⟩)), ?_⟩
 conv=>whnf
 refine Tr.ret ?_
 conv=>whnf
 cases h
 rfl
theorem P161 (k_1 : TClocks) (x_2 : TOutcome) (r_3 : TSpan) (r_4 : Int) (h : M161 k_1 x_2 = some (r_3, r_4)) :
    PC prog 80 [(eTClocks k_1), (eTOutcome x_2)] (fun rs => rs = [(eTSpan r_3), (.i .i64 r_4)]) := by
 refine PC.of_tr (cx := ⟨26, none, lay, 0⟩) layOK func80 rfl rfl rfl rfl rfl (by simp [f80]) ?_
 unfold M161 at h
 refine sg ?_
 conv=>whnf
 refine sg ?_
 conv=>whnf
 obtain ⟨r_5, hc6, h⟩ := bS h
 refine PC.ecall (P138 k_1 x_2 r_5 hc6) (fun rs hrs => ?_)
 subst hrs
 conv=>whnf
 refine Tr.seq ?_
 refine sg ?_
 conv=>whnf
 refine Tr.cond ?_
 conv=>whnf
 refine cB h (fun hb7 h => ?_) (fun hb7 h => ?_)
 ·refine sg ?_
  conv=>whnf
  refine Tr.ret ?_
  conv=>whnf
  cases h
  rfl
 refine Tr.skip ?_
 conv=>whnf
 refine Tr.seq ?_
 refine sg ?_
 conv=>whnf
 refine Tr.cond ?_
 conv=>whnf
 refine cB h (fun hb8 h => ?_) (fun hb8 h => ?_)
 ·refine sg ?_
  conv=>whnf
  refine Tr.ret ?_
  conv=>whnf
  cases h
  rfl
 refine Tr.skip ?_
 conv=>whnf
 refine sg ?_
 conv=>whnf
 obtain ⟨r_9, hc10, h⟩ := bS h
 refine PC.ecall (P160 k_1 x_2.Seg ({ Lo := x_2.Lo, Hi := x_2.Hi } : TSpan) r_9 hc10) (fun rs hrs => ?_)
 subst hrs
 conv=>whnf
 refine Tr.ret ?_
 conv=>whnf
 cases h
 rfl
theorem P164 (f_1 : TField) (runner_2 : Int) (r_3 : Tstopwatchref34_member) (h : M164 f_1 runner_2 = some r_3) :
    PC prog 45 [(eTField f_1), (.i .i64 runner_2)] (fun rs => rs = [(eTstopwatchref34_member r_3)]) := by
 refine PC.of_tr (cx := ⟨93, none, lay, 0⟩) layOK func45 rfl rfl rfl rfl rfl (by simp [f45]) ?_
 unfold M164 at h
 refine sg ?_
 conv=>whnf
 refine sg ?_
 conv=>whnf
 refine Tr.seq ?_
 refine sg ?_
 conv=>whnf
 obtain ⟨⟨v_15, v_16, v_17, v_18⟩, hv62, h⟩ := bS h
 refine Tr.cutQ1 ([(4, .pt 0 0), (5, .pt 1 0)]) ([some (.var [(dI 0), (dI 0), .d (.b false), .d (.b false)]), some (.var [(dI v_15), (dI v_16), .d (.b v_17), .d (.b v_18)])]) ?_ (fun T1 H1 hw => ?_)
 ·replace h := hv62; clear hv62
  refine Tr.block ?_
  refine Tr.loopM (σ := Int × Int × Int × Bool × Bool) (fun n s => M163 f_1 runner_2 n s.1 s.2.1 s.2.2.1 s.2.2.2.1 s.2.2.2.2) (v_15, v_16, v_17, v_18) (fun s => ([(1, (dI runner_2)), (2, .pt 0 0), (4, .pt 1 0), (5, .pt 2 0), (6, (dI s.1))], [some (.var [.d (.ls (List.map eTSegment f_1.Clocks.Segments)), .d (.ls (List.map (eL eI) f_1.Clocks.Far)), .d (.ls (List.map eTPair f_1.Pairs)), .d (.ls (List.map eTRunner f_1.Runners))]), some (.var [(dI 0), (dI 0), .d (.b false), .d (.b false)]), some (.var [(dI s.2.1), (dI s.2.2.1), .d (.b s.2.2.2.1), .d (.b s.2.2.2.2)])])) ((((((Option.getD (idx f_1.Runners runner_2) default).Worlds).length : Int)) - 0 : Int).toNat + 1) (0, 0, 0, false, true) h (fun s => rfl) (Wk.mk2 [0, 1, 2] 3 rfl rfl (by decide) rfl ⟨rr, rr, rr, trivial⟩ ⟨rr, rr, rr, rr, rr, trivial⟩) ?_
  clear h
  rintro n_14 ⟨w_9, v_10, v_11, v_12, v_13⟩ h
  replace h : M163 f_1 runner_2 (n_14 + 1) w_9 v_10 v_11 v_12 v_13 = some (v_15, v_16, v_17, v_18) := h
  rw [M163] at h
  refine Tr.seq ?_
  refine sg ?_
  conv=>whnf
  obtain ⟨x_21, hx_21, h⟩ := bS h
  refine ixP_of hx_21 ?_
  conv=>whnf
  refine lnS_map ?_
  conv=>whnf
  refine Tr.cond ?_
  conv=>whnf
  refine cB h (fun hb22 h => ?_) (fun hb22 h => ?_)
  ·refine Tr.skip ?_
   conv=>whnf
   refine Tr.seq ?_
   refine Tr.block ?_
   refine Tr.seq ?_
   refine sg ?_
   conv=>whnf
   obtain ⟨r_23, hc24, h⟩ := bS h
   refine PC.ecall (P159 f_1 w_9 r_23 hc24) (fun rs hrs => ?_)
   subst hrs
   conv=>whnf
   refine Tr.cond ?_
   conv=>whnf
   refine cB h (fun hb25 h => ?_) (fun hb25 h => ?_)
   ·refine Tr.exit ?_
    conv=>whnf
    refine rg ?_
    conv=>whnf
    refine arS_raw ?_
    conv=>whnf
    refine ⟨((w64 (w_9 + 1)), v_10, v_11, v_12, v_13), h, ?_⟩
    exact Wk.mk2 [0, 1, 2] 3 rfl rfl (by decide) rfl ⟨rr, rr, rr, trivial⟩ ⟨rr, rr, rr, rr, rr, trivial⟩
   refine Tr.skip ?_
   conv=>whnf
   refine sg ?_
   conv=>whnf
   obtain ⟨x_26, hx_26, h⟩ := bS h
   refine ixP_of hx_26 ?_
   conv=>whnf
   obtain ⟨x_27, hx_27, h⟩ := bS h
   refine ixP_of hx_27 ?_
   conv=>whnf
   refine sg ?_
   conv=>whnf
   obtain ⟨⟨v_39, v_40, v_41, v_42⟩, hv61, h⟩ := bS h
   refine Tr.cutQ1 ([(1, (dI runner_2)), (2, .pt 0 0), (4, .pt 1 0), (5, .pt 2 0), (6, (dI w_9))]) ([some (.var [.d (.ls (List.map eTSegment f_1.Clocks.Segments)), .d (.ls (List.map (eL eI) f_1.Clocks.Far)), .d (.ls (List.map eTPair f_1.Pairs)), .d (.ls (List.map eTRunner f_1.Runners))]), some (.var [(dI 0), (dI 0), .d (.b false), .d (.b false)]), some (.var [(dI v_39), (dI v_40), .d (.b v_41), .d (.b v_42)])]) ?_ (fun T1 H1 hw => ?_)
   ·replace h := hv61; clear hv61
    refine Tr.block ?_
    refine Tr.loopM (σ := Int × Int × Int × Bool × Bool) (fun n s => M162 f_1 x_27 n s.1 s.2.1 s.2.2.1 s.2.2.2.1 s.2.2.2.2) (v_39, v_40, v_41, v_42) (fun s => ([(1, (dI runner_2)), (2, .pt 0 0), (4, .pt 1 0), (5, .pt 2 0), (6, (dI w_9)), (7, .d (.ls (List.map eTOutcome x_27))), (8, (dI s.1))], [some (.var [.d (.ls (List.map eTSegment f_1.Clocks.Segments)), .d (.ls (List.map (eL eI) f_1.Clocks.Far)), .d (.ls (List.map eTPair f_1.Pairs)), .d (.ls (List.map eTRunner f_1.Runners))]), some (.var [(dI 0), (dI 0), .d (.b false), .d (.b false)]), some (.var [(dI s.2.1), (dI s.2.2.1), .d (.b s.2.2.2.1), .d (.b s.2.2.2.2)])])) (((((x_27).length : Int)) - 0 : Int).toNat + 1) (0, v_10, v_11, v_12, v_13) h (fun s => rfl) (Wk.mk2 [0, 1, 2] 3 rfl rfl (by decide) rfl ⟨rr, rr, rr, trivial⟩ ⟨rr, rr, rr, rr, rr, rr, rr, trivial⟩) ?_
    clear h
    rintro n_38 ⟨i_33, v_34, v_35, v_36, v_37⟩ h
    replace h : M162 f_1 x_27 (n_38 + 1) i_33 v_34 v_35 v_36 v_37 = some (v_39, v_40, v_41, v_42) := h
    rw [M162] at h
    refine Tr.seq ?_
    refine sg ?_
    conv=>whnf
    refine lnS_map ?_
    conv=>whnf
    refine Tr.cond ?_
    conv=>whnf
    refine cB h (fun hb45 h => ?_) (fun hb45 h => ?_)
    ·refine Tr.skip ?_
     conv=>whnf
     refine Tr.seq ?_
     obtain ⟨⟨v_46, v_47, v_48, v_49⟩, hv50, h⟩ := bS h
     refine Tr.cutQ1 ([(1, (dI runner_2)), (2, .pt 0 0), (4, .pt 1 0), (5, .pt 2 0), (6, (dI w_9)), (7, .d (.ls (List.map eTOutcome x_27))), (8, (dI i_33))]) ([some (.var [.d (.ls (List.map eTSegment f_1.Clocks.Segments)), .d (.ls (List.map (eL eI) f_1.Clocks.Far)), .d (.ls (List.map eTPair f_1.Pairs)), .d (.ls (List.map eTRunner f_1.Runners))]), some (.var [(dI 0), (dI 0), .d (.b false), .d (.b false)]), some (.var [(dI v_46), (dI v_47), .d (.b v_48), .d (.b v_49)])]) ?_ (fun T1 H1 hw => ?_)
     ·replace h := hv50; clear hv50
      refine Tr.block ?_
      refine Tr.seq ?_
      refine sg ?_
      conv=>whnf
      obtain ⟨x_51, hx_51, h⟩ := bS h
      refine ixP_of hx_51 ?_
      conv=>whnf
      refine Tr.cond ?_
      conv=>whnf
      refine cB h (fun hb52 h => ?_) (fun hb52 h => ?_)
      ·refine sg ?_
       conv=>whnf
       refine Tr.exit ?_
       conv=>whnf
       cases h
       exact Wk.mk2 [0, 1, 2] 3 rfl rfl (by decide) rfl ⟨rr, rr, rr, trivial⟩ ⟨rr, rr, rr, rr, rr, rr, rr, trivial⟩
      refine Tr.skip ?_
      conv=>whnf
      refine sd [(11,3)] [(0,3),(1,3),(2,1),(3,1),(4,2),(5,2),(6,1),(7,1),(8,1),(9,1),(10,0),(11,0),(12,1)] ?_
      conv=>whnf
      refine q2 ?_
      conv=>whnf
      refine q2 ?_
      conv=>whnf
      refine q1 ?_
      conv=>whnf
      refine q1 ?_
      conv=>whnf
      obtain ⟨x_53, hx_53, h⟩ := bS h
      refine q3 (ixP_of hx_53 rr) ?_
      conv=>whnf
      refine q2 ?_
      conv=>whnf
      obtain ⟨⟨r_54, r_55⟩, hc56, h⟩ := bS h
      refine q1 ?_ (fun _ => pe (P161 f_1.Clocks x_53 r_54 r_55 hc56) rr)
      conv=>whnf
      refine q1 ?_
      conv=>whnf
      refine q1 ?_
      conv=>whnf
      refine q1 ?_
      conv=>whnf
      refine ⟨_, _, rr, kp_ok (by repeat (first | exact trivial | refine ⟨trivial, ?_⟩ | refine ⟨rfl, ?_⟩)), ?_⟩
      conv=>whnf
      refine ⟨_, _, rr, kp_ok (by repeat (first | exact trivial | refine ⟨trivial, ?_⟩ | refine ⟨rfl, ?_⟩)), ?_⟩
      conv=>whnf
      refine q1 ?_
      conv=>whnf
      refine Tr.seq ?_
      refine sg ?_
      conv=>whnf
      refine cB h (fun hb57 h => ?_) (fun hb57 h => ?_)
      ·conv=>whnf
       refine Tr.cond ?_
       conv=>whnf
       refine rg ?_
       conv=>whnf
       refine Tr.seq ?_
       refine sg ?_
       conv=>whnf
       refine condS_kt hb57 ?_
       conv=>whnf
       refine Tr.cond ?_
       conv=>whnf
       refine rg ?_
       conv=>whnf
       refine rg ?_
       conv=>whnf
       cases h
       exact Wk.mk2 [0, 1, 2] 4 rfl rfl (by decide) rfl ⟨rr, rr, rr, trivial⟩ ⟨rr, rr, rr, rr, rr, rr, rr, trivial⟩
      conv=>whnf
      refine Tr.cond ?_
      conv=>whnf
      refine cB h (fun hb58 h => ?_) (fun hb58 h => ?_)
      ·refine rg ?_
       conv=>whnf
       refine Tr.seq ?_
       refine sg ?_
       conv=>whnf
       refine condS_kf hb57 ?_
       conv=>whnf
       refine Tr.cond ?_
       conv=>whnf
       refine cB h (fun hb59 h => ?_) (fun hb59 h => ?_)
       ·refine rg ?_
        conv=>whnf
        refine rg ?_
        conv=>whnf
        cases h
        exact Wk.mk2 [0, 1, 2] 4 rfl rfl (by decide) rfl ⟨rr, rr, rr, trivial⟩ ⟨rr, rr, rr, rr, rr, rr, rr, trivial⟩
       refine Tr.skip ?_
       conv=>whnf
       refine rg ?_
       conv=>whnf
       cases h
       exact Wk.mk2 [0, 1, 2] 4 rfl rfl (by decide) rfl ⟨rr, rr, rr, trivial⟩ ⟨rr, rr, rr, rr, rr, rr, rr, trivial⟩
      refine Tr.skip ?_
      conv=>whnf
      refine Tr.seq ?_
      refine sg ?_
      conv=>whnf
      refine condS_kf hb57 ?_
      conv=>whnf
      refine Tr.cond ?_
      conv=>whnf
      refine cB h (fun hb60 h => ?_) (fun hb60 h => ?_)
      ·refine rg ?_
       conv=>whnf
       refine rg ?_
       conv=>whnf
       cases h
       exact Wk.mk2 [0, 1, 2] 4 rfl rfl (by decide) rfl ⟨rr, rr, rr, trivial⟩ ⟨rr, rr, rr, rr, rr, rr, rr, trivial⟩
      refine Tr.skip ?_
      conv=>whnf
      refine rg ?_
      conv=>whnf
      cases h
      exact Wk.mk2 [0, 1, 2] 4 rfl rfl (by decide) rfl ⟨rr, rr, rr, trivial⟩ ⟨rr, rr, rr, rr, rr, rr, rr, trivial⟩
     clear hv50
     conv=>whnf
     refine Tr.weak hw ?_
     refine rg ?_
     conv=>whnf
     refine arS_raw ?_
     conv=>whnf
     refine ⟨((w64 (i_33 + 1)), v_46, v_47, v_48, v_49), h, ?_⟩
     exact Wk.mk2 [0, 1, 2] 3 rfl rfl (by decide) rfl ⟨rr, rr, rr, trivial⟩ ⟨rr, rr, rr, rr, rr, rr, rr, trivial⟩
    refine Tr.exit ?_
    conv=>whnf
    cases h
    exact Wk.mk2 [0, 1, 2] 3 rfl rfl (by decide) rfl ⟨rr, rr, rr, trivial⟩ ⟨rr, rr, rr, rr, rr, trivial⟩
   clear hv61
   conv=>whnf
   refine Tr.weak hw ?_
   refine rg ?_
   conv=>whnf
   refine arS_raw ?_
   conv=>whnf
   refine ⟨((w64 (w_9 + 1)), v_39, v_40, v_41, v_42), h, ?_⟩
   exact Wk.mk2 [0, 1, 2] 3 rfl rfl (by decide) rfl ⟨rr, rr, rr, trivial⟩ ⟨rr, rr, rr, rr, rr, trivial⟩
  refine Tr.exit ?_
  conv=>whnf
  cases h
  exact Wk.mk2 [1, 2] 3 rfl rfl (by decide) rfl ⟨rr, rr, trivial⟩ ⟨⟨rfl, (by first | rfl | (simp only [↓hb22, bl]; done) | (simp only [↓hb22, bl]; rfl))⟩, ⟨rfl, (by first | rfl | (simp only [↓hb22, bl]; done) | (simp only [↓hb22, bl]; rfl))⟩, trivial⟩
 clear hv62
 conv=>whnf
 refine Tr.weak hw ?_
 refine Tr.seq ?_
 refine Tr.cutQ1 ([(4, .pt 0 0), (5, .pt 1 0)]) ([some (.var [(dI 0), (dI 0), .d (.b false), .d (.b false)]), some (.var [(dI v_15), (dI v_16), .d (.b v_17), .d (.b (v_18 && v_17))])]) ?_ (fun T1 H1 hw => ?_)
 ·refine rg ?_
  conv=>whnf
  refine condS_mk (fun hb64 => ?_) (fun hb64 => ?_)
  ·conv=>whnf
   exact Wk.mk2 [0, 1] 2 rfl rfl (by decide) rfl ⟨rr, ⟨rfl, (by first | rfl | (simp only [↓hb64, bl]; done) | (simp only [↓hb64, bl]; rfl))⟩, trivial⟩ ⟨rr, rr, trivial⟩
  conv=>whnf
  exact Wk.mk2 [0, 1] 2 rfl rfl (by decide) rfl ⟨rr, ⟨rfl, (by first | rfl | (simp only [↓hb64, bl]; done) | (simp only [↓hb64, bl]; rfl))⟩, trivial⟩ ⟨rr, rr, trivial⟩
 conv=>whnf
 refine Tr.weak hw ?_
 refine sg ?_
 conv=>whnf
 refine Tr.ret ?_
 conv=>whnf
 cases h
 rfl
theorem P167 (l_1 : List Int) (r_2 : List Int) (h : M167 l_1 = some r_2) :
    PC prog 47 [(.ls (List.map eI l_1))] (fun rs => rs = [(.ls (List.map eI r_2))]) := by
 refine PC.of_tr (cx := ⟨51, none, lay, 0⟩) layOK func47 rfl rfl rfl rfl rfl (by simp [f47]) ?_
 unfold M167 at h
 refine sg ?_
 conv=>whnf
 refine sg ?_
 conv=>whnf
 refine orB_l ?_
 conv=>whnf
 refine frP_no ?_
 conv=>whnf
 refine eqS_mk (by first | rfl | simp) ?_
 conv=>whnf
 obtain ⟨l_3, hl_3, h⟩ := bS h
 refine apS_of hl_3 (aQ (f := eI) (l := l_1) fun _ => rfl) (by first | rfl | simp) (by first | rfl | simp) (fun he => ?_)
 conv=>whnf
 refine rS (es' := List.map .d (List.map eI l_3)) (n' := List.length l_3) (by subst he; simp only [List.map_append, List.map_cons, List.map_nil, List.nil_append]; first | done | rfl) (by subst he; simp <;> omega) ?_
 clear he
 conv=>whnf
 refine Tr.seq ?_
 refine sg ?_
 conv=>whnf
 obtain ⟨l_10, hv31, h⟩ := bS h
 refine Tr.cutQ1 ([(2, .nsl), (3, .sl 0 1 0 (List.length l_10))]) ([some (.arr 1 (List.map .d (List.map eI l_10)))]) ?_ (fun T1 H1 hw => ?_)
 ·replace h := hv31; clear hv31
  refine Tr.block ?_
  refine Tr.loopM (σ := Int × List Int) (fun n s => M166 n s.1 s.2) l_10 (fun s => ([(2, .nsl), (3, .sl 0 1 0 (List.length s.2)), (4, (dI s.1))], [some (.arr 1 (List.map .d (List.map eI s.2)))])) (((((l_3).length : Int)) - 0 : Int).toNat + 1) (0, l_3) h (fun s => rfl) (Wk.mk2 [1] 2 rfl rfl (by decide) rfl ⟨daS_d rfl, trivial⟩ ⟨rr, ⟨rfl, (by first | rfl | simp)⟩, rr, trivial⟩) ?_
  clear h
  rintro n_9 ⟨i_7, l_8⟩ h
  replace h : M166 (n_9 + 1) i_7 l_8 = some l_10 := h
  rw [M166] at h
  refine Tr.seq ?_
  refine sg ?_
  conv=>whnf
  refine lnS_mk rfl ?_
  conv=>whnf
  refine Tr.cond ?_
  conv=>whnf
  refine cB h (fun hb13 h => ?_) (fun hb13 h => ?_)
  ·refine Tr.skip ?_
   conv=>whnf
   refine Tr.seq ?_
   refine Tr.block ?_
   refine sg ?_
   conv=>whnf
   obtain ⟨l_19, hv30, h⟩ := bS h
   refine Tr.cutQ1 ([(2, .nsl), (3, .sl 0 1 0 (List.length l_19)), (4, (dI i_7))]) ([some (.arr 1 (List.map .d (List.map eI l_19)))]) ?_ (fun T1 H1 hw => ?_)
   ·replace h := hv30; clear hv30
    refine Tr.block ?_
    refine Tr.loopM (σ := Int × List Int) (fun n s => M165 n s.1 s.2) l_19 (fun s => ([(2, .nsl), (3, .sl 0 1 0 (List.length s.2)), (4, (dI i_7)), (5, (dI s.1))], [some (.arr 1 (List.map .d (List.map eI s.2)))])) ((i_7 - 0 : Int).toNat + 1) (i_7, l_8) h (fun s => rfl) (Wk.mk2 [0] 1 rfl rfl (by decide) rfl ⟨daS_d rfl, trivial⟩ ⟨rr, rr, rr, rr, trivial⟩) ?_
    clear h
    rintro n_18 ⟨k_16, l_17⟩ h
    replace h : M165 (n_18 + 1) k_16 l_17 = some l_19 := h
    rw [M165] at h
    refine Tr.seq ?_
    refine sd [] [(0,1),(1,1),(2,1),(3,1),(4,1),(5,1),(6,3),(7,3),(8,1),(9,1),(10,3),(11,3),(12,1),(13,1)] ?_
    conv=>whnf
    refine q1 ?_
    conv=>whnf
    refine q1 ?_
    conv=>whnf
    refine q1 ?_
    conv=>whnf
    refine cB h (fun hb22 h => ?_) (fun hb22 h => ?_)
    ·conv=>whnf
     refine q1 ?_
     conv=>whnf
     refine q1 ?_
     conv=>whnf
     refine q4 ?_
     conv=>whnf
     obtain ⟨x_23, hx_23, h⟩ := bS h
     refine q3 (ixS_of hx_23 rfl rr) ?_
     conv=>whnf
     refine q3 (elP_of hx_23 rr) ?_
     conv=>whnf
     refine q1 ?_
     conv=>whnf
     refine q1 ?_
     conv=>whnf
     obtain ⟨x_24, hx_24, h⟩ := bS h
     refine q3 (ixS_of hx_24 rfl rr) ?_
     conv=>whnf
     refine q3 (elP_of hx_24 rr) ?_
     conv=>whnf
     refine q1 ?_
     conv=>whnf
     refine q1 ?_
     conv=>whnf
     refine Tr.cond ?_
     conv=>whnf
     refine cB h (fun hb25 h => ?_) (fun hb25 h => ?_)
     ·refine Tr.skip ?_
      conv=>whnf
      refine Tr.seq ?_
      refine Tr.block ?_
      refine sg ?_
      conv=>whnf
      obtain ⟨x_26, hx_26, h⟩ := bS h
      refine ixS_of hx_26 rfl ?_
      conv=>whnf
      refine elP_of hx_26 ?_
      conv=>whnf
      refine sg ?_
      conv=>whnf
      refine arS_raw ?_
      conv=>whnf
      obtain ⟨x_27, hx_27, h⟩ := bS h
      refine ixS_of hx_27 rfl ?_
      conv=>whnf
      refine elP_of hx_27 ?_
      conv=>whnf
      obtain ⟨x_28, hx_28, h⟩ := bS h
      refine ixS_of hx_28 rfl ?_
      conv=>whnf
      refine elP_of hx_28 ?_
      conv=>whnf
      refine lvS_mk (es' := List.map .d (List.map eI (List.set l_17 (Int.toNat k_16) x_27))) (by simp only [Nat.zero_add, List.map_set]; first | done | rfl) ?_
      conv=>whnf
      refine rg ?_
      conv=>whnf
      refine arS_raw ?_
      conv=>whnf
      obtain ⟨x_29, hx_29, h⟩ := bS h
      refine ixS_of hx_29 (by first | rfl | simp) ?_
      conv=>whnf
      refine elP_of hx_29 ?_
      conv=>whnf
      refine lvS_mk (es' := List.map .d (List.map eI (List.set (List.set l_17 (Int.toNat k_16) x_27) (Int.toNat (w64 (k_16 - 1))) x_26))) (by simp only [Nat.zero_add, List.map_set]; first | done | rfl) ?_
      conv=>whnf
      refine rg ?_
      conv=>whnf
      refine arS_raw ?_
      conv=>whnf
      refine ⟨((w64 (k_16 - 1)), (List.set (List.set l_17 (Int.toNat k_16) x_27) (Int.toNat (w64 (k_16 - 1))) x_26)), h, ?_⟩
      exact Wk.mk2 [0] 1 rfl rfl (by decide) rfl ⟨daS_d rfl, trivial⟩ ⟨rr, ⟨rfl, (slEq (by first | rfl | simp))⟩, rr, rr, trivial⟩
     refine Tr.exit ?_
     conv=>whnf
     cases h
     exact Wk.mk2 [0] 1 rfl rfl (by decide) rfl ⟨daS_d rfl, trivial⟩ ⟨rr, rr, rr, trivial⟩
    conv=>whnf
    refine q1 ?_
    conv=>whnf
    refine Tr.cond ?_
    conv=>whnf
    refine Tr.exit ?_
    conv=>whnf
    cases h
    exact Wk.mk2 [0] 1 rfl rfl (by decide) rfl ⟨daS_d rfl, trivial⟩ ⟨rr, rr, rr, trivial⟩
   clear hv30
   conv=>whnf
   refine Tr.weak hw ?_
   refine rg ?_
   conv=>whnf
   refine arS_raw ?_
   conv=>whnf
   refine ⟨((w64 (i_7 + 1)), l_19), h, ?_⟩
   exact Wk.mk2 [0] 1 rfl rfl (by decide) rfl ⟨daS_d rfl, trivial⟩ ⟨rr, rr, rr, trivial⟩
  refine Tr.exit ?_
  conv=>whnf
  cases h
  exact Wk.mk2 [0] 1 rfl rfl (by decide) rfl ⟨daS_d rfl, trivial⟩ ⟨rr, rr, trivial⟩
 clear hv31
 conv=>whnf
 refine Tr.weak hw ?_
 refine sg ?_
 conv=>whnf
 refine Tr.ret ?_
 conv=>whnf
 refine frE_of (f := eI) (l := l_10) rfl ?_
 conv=>whnf
 cases h
 rfl
theorem P169 (l_1 : List Int) (n_2 : Int) (r_3 : Int) (h : M169 l_1 n_2 = some r_3) :
    PC prog 46 [(.ls (List.map eI l_1)), (.i .i64 n_2)] (fun rs => rs = [(.i .i64 r_3)]) := by
 refine PC.of_tr (cx := ⟨19, none, lay, 0⟩) layOK func46 rfl rfl rfl rfl rfl (by simp [f46]) ?_
 unfold M169 at h
 refine sg ?_
 conv=>whnf
 refine sg ?_
 conv=>whnf
 refine Tr.seq ?_
 refine sg ?_
 conv=>whnf
 obtain ⟨t_9, hv14, h⟩ := bS h
 refine Tr.cutQ1 ([(4, (dI 0)), (5, (dI t_9))]) ([]) ?_ (fun T1 H1 hw => ?_)
 ·replace h := hv14; clear hv14
  refine Tr.block ?_
  refine Tr.loopM (σ := Int × Int) (fun n s => M168 l_1 n_2 n s.1 s.2) t_9 (fun s => ([(0, .d (.ls (List.map eI l_1))), (1, (dI n_2)), (4, (dI 0)), (5, (dI s.1)), (6, (dI s.2))], [])) ((n_2 - 0 : Int).toNat + 1) (0, 0) h (fun s => rfl) (Wk.mk2 [] 0 rfl rfl (by decide) rfl trivial ⟨rr, rr, rr, rr, rr, trivial⟩) ?_
  clear h
  rintro n_8 ⟨t_6, i_7⟩ h
  replace h : M168 l_1 n_2 (n_8 + 1) t_6 i_7 = some t_9 := h
  rw [M168] at h
  refine Tr.seq ?_
  refine sg ?_
  conv=>whnf
  refine Tr.cond ?_
  conv=>whnf
  refine cB h (fun hb12 h => ?_) (fun hb12 h => ?_)
  ·refine Tr.skip ?_
   conv=>whnf
   refine Tr.seq ?_
   refine Tr.block ?_
   refine rg ?_
   conv=>whnf
   obtain ⟨x_13, hx_13, h⟩ := bS h
   refine ixP_of hx_13 ?_
   conv=>whnf
   refine arS_raw ?_
   conv=>whnf
   refine rg ?_
   conv=>whnf
   refine arS_raw ?_
   conv=>whnf
   refine ⟨((w64 (t_6 + x_13)), (w64 (i_7 + 1))), h, ?_⟩
   exact Wk.mk2 [] 0 rfl rfl (by decide) rfl trivial ⟨rr, rr, rr, rr, rr, trivial⟩
  refine Tr.exit ?_
  conv=>whnf
  cases h
  exact Wk.mk2 [] 0 rfl rfl (by decide) rfl trivial ⟨rr, rr, trivial⟩
 clear hv14
 conv=>whnf
 refine Tr.weak hw ?_
 refine sg ?_
 conv=>whnf
 refine Tr.ret ?_
 conv=>whnf
 cases h
 rfl
theorem P173 (f_1 : TField) (t_2 : TTeam) (r_3 : TTotal) (r_4 : Int) (h : M173 f_1 t_2 = some (r_3, r_4)) :
    PC prog 17 [(eTField f_1), (eTTeam t_2)] (fun rs => rs = [(eTTotal r_3), (.i .i64 r_4)]) := by
 refine PC.of_tr (cx := ⟨132, none, lay, 0⟩) layOK func17 rfl rfl rfl rfl rfl (by simp [f17]) ?_
 unfold M173 at h
 refine sg ?_
 conv=>whnf
 refine Tr.seq ?_
 refine sg ?_
 conv=>whnf
 obtain ⟨r_5, hc6, h⟩ := bS h
 refine PC.ecall (P120 t_2 r_5 hc6) (fun rs hrs => ?_)
 subst hrs
 conv=>whnf
 refine Tr.cond ?_
 conv=>whnf
 refine cB h (fun hb7 h => ?_) (fun hb7 h => ?_)
 ·refine sg ?_
  conv=>whnf
  refine orB_l ?_
  conv=>whnf
  refine Tr.ret ?_
  conv=>whnf
  cases h
  rfl
 refine Tr.skip ?_
 conv=>whnf
 refine sg ?_
 conv=>whnf
 obtain ⟨r_8, hc9, h⟩ := bS h
 refine PC.ecall (P153 f_1 r_8 hc9) (fun rs hrs => ?_)
 subst hrs
 conv=>whnf
 refine Tr.seq ?_
 refine sg ?_
 conv=>whnf
 refine Tr.cond ?_
 conv=>whnf
 refine cB h (fun hb10 h => ?_) (fun hb10 h => ?_)
 ·refine sg ?_
  conv=>whnf
  refine orB_l ?_
  conv=>whnf
  refine Tr.ret ?_
  conv=>whnf
  cases h
  rfl
 refine Tr.skip ?_
 conv=>whnf
 refine sg ?_
 conv=>whnf
 refine Tr.seq ?_
 refine sg ?_
 conv=>whnf
 refine Tr.cutQ (α := List Int × List Int × List Int) (fun s => ([(3, .pt 0 0), (4, .pt 1 0), (5, (dI 0)), (7, .sl 2 1 0 (List.length s.1)), (8, .sl 3 1 0 (List.length s.2.1)), (9, .sl 4 1 0 (List.length s.2.2))], [some (.var [.d (.s t_2.Name), .d (.ls (List.map eI t_2.Bibs)), (dI t_2.Best)]), some (.var [(dI 0), .nsl, .d (.b false)]), some (.arr 1 (List.map .d (List.map eI s.1))), some (.arr 1 (List.map .d (List.map eI s.2.1))), some (.arr 1 (List.map .d (List.map eI s.2.2)))])) (fun s => M172 t_2 s.1 s.2.1 s.2.2 = some (r_3, r_4)) ?_ ?_
 ·refine Tr.block ?_
  refine Tr.loopM (σ := Int × List Int × List Int × List Int) (fun n s => M170 f_1 t_2 (M172 t_2) n s.1 s.2.1 s.2.2.1 s.2.2.2) (r_3, r_4) (fun s => ([(2, .pt 0 0), (3, .pt 1 0), (4, .pt 2 0), (5, (dI 0)), (7, .sl 3 1 0 (List.length s.2.1)), (8, .sl 4 1 0 (List.length s.2.2.1)), (9, .sl 5 1 0 (List.length s.2.2.2)), (10, (dI s.1))], [some (.var [.d (.ls (List.map eTSegment f_1.Clocks.Segments)), .d (.ls (List.map (eL eI) f_1.Clocks.Far)), .d (.ls (List.map eTPair f_1.Pairs)), .d (.ls (List.map eTRunner f_1.Runners))]), some (.var [.d (.s t_2.Name), .d (.ls (List.map eI t_2.Bibs)), (dI t_2.Best)]), some (.var [(dI 0), .nsl, .d (.b false)]), some (.arr 1 (List.map .d (List.map eI s.2.1))), some (.arr 1 (List.map .d (List.map eI s.2.2.1))), some (.arr 1 (List.map .d (List.map eI s.2.2.2)))])) (((((t_2.Bibs).length : Int)) - 0 : Int).toNat + 1) (0, (([] : List Int)), (([] : List Int)), (([] : List Int))) h (fun s => rfl) (Wk.mk2 [0, 1, 2, 3, 5, 7] 3 rfl rfl (by decide) rfl ⟨rr, rr, rr, rfl, rfl, rfl, trivial⟩ ⟨rr, rr, rr, rr, ⟨rfl, (by first | rfl | (simp only [↓hb7, ↓hb10, bl]; done) | (simp only [↓hb7, ↓hb10, bl]; rfl))⟩, ⟨rfl, (by first | rfl | (simp only [↓hb7, ↓hb10, bl]; done) | (simp only [↓hb7, ↓hb10, bl]; rfl))⟩, ⟨rfl, (by first | rfl | (simp only [↓hb7, ↓hb10, bl]; done) | (simp only [↓hb7, ↓hb10, bl]; rfl))⟩, rr, trivial⟩) ?_
  clear h
  rintro n_19 ⟨i_15, l_16, l_17, l_18⟩ h
  replace h : M170 f_1 t_2 (M172 t_2) (n_19 + 1) i_15 l_16 l_17 l_18 = some (r_3, r_4) := h
  rw [M170] at h
  refine Tr.seq ?_
  refine sg ?_
  conv=>whnf
  refine lnS_map ?_
  conv=>whnf
  refine Tr.cond ?_
  conv=>whnf
  refine cB h (fun hb25 h => ?_) (fun hb25 h => ?_)
  ·refine Tr.skip ?_
   conv=>whnf
   refine Tr.seq ?_
   refine Tr.block ?_
   refine sd [] [(0,3),(1,4),(2,4),(3,1),(4,2),(5,2),(6,1),(7,1),(8,1),(9,1),(10,1),(11,1)] ?_
   conv=>whnf
   refine q2 ?_
   conv=>whnf
   refine q2 ?_
   conv=>whnf
   refine q2 ?_
   conv=>whnf
   refine q1 ?_
   conv=>whnf
   obtain ⟨x_26, hx_26, h⟩ := bS h
   refine q3 (ixP_of hx_26 rr) ?_
   conv=>whnf
   refine q2 ?_
   conv=>whnf
   obtain ⟨⟨r_27, r_28⟩, hc29, h⟩ := bS h
   refine q1 ?_ (fun _ => pe (P156 f_1 x_26 r_27 r_28 hc29) rr)
   conv=>whnf
   refine q1 ?_
   conv=>whnf
   refine q1 ?_
   conv=>whnf
   refine q1 ?_
   conv=>whnf
   refine q1 ?_
   conv=>whnf
   refine q1 ?_
   conv=>whnf
   refine Tr.seq ?_
   refine sg ?_
   conv=>whnf
   refine Tr.cond ?_
   conv=>whnf
   refine cB h (fun hb30 h => ?_) (fun hb30 h => ?_)
   ·refine sg ?_
    conv=>whnf
    refine orB_l ?_
    conv=>whnf
    refine Tr.ret ?_
    conv=>whnf
    cases h
    rfl
   refine Tr.skip ?_
   conv=>whnf
   refine sg ?_
   conv=>whnf
   obtain ⟨r_31, hc32, h⟩ := bS h
   refine PC.ecall (P164 f_1 r_27 r_31 hc32) (fun rs hrs => ?_)
   subst hrs
   conv=>whnf
   refine Tr.seq ?_
   refine sg ?_
   conv=>whnf
   refine Tr.cond ?_
   conv=>whnf
   refine cB h (fun hb33 h => ?_) (fun hb33 h => ?_)
   ·refine Tr.exit ?_
    conv=>whnf
    refine rg ?_
    conv=>whnf
    refine arS_raw ?_
    conv=>whnf
    refine ⟨((w64 (i_15 + 1)), l_16, l_17, l_18), h, ?_⟩
    exact Wk.mk2 [0, 1, 2, 3, 4, 5] 7 rfl rfl (by decide) rfl ⟨rr, rr, rr, daS_d rfl, daS_d rfl, daS_d rfl, trivial⟩ ⟨rr, rr, rr, rr, rr, rr, rr, rr, trivial⟩
   refine Tr.skip ?_
   conv=>whnf
   refine sg ?_
   conv=>whnf
   refine orB_r ?_
   conv=>whnf
   refine frP_no ?_
   conv=>whnf
   refine eqS_mk (by first | rfl | simp) ?_
   conv=>whnf
   obtain ⟨l_34, hl_34, h⟩ := bS h
   refine apS_of hl_34 (aQ (f := eI) (l := (([r_31.least] : List Int))) fun _ => rfl) (by first | rfl | simp) (by first | rfl | simp) (fun he => ?_)
   conv=>whnf
   refine rS (es' := List.map .d (List.map eI l_34)) (n' := List.length l_34) (by subst he; simp only [List.map_append, List.map_cons, List.map_nil, List.nil_append]; first | done | rfl) (by subst he; simp <;> omega) ?_
   clear he
   conv=>whnf
   refine sg ?_
   conv=>whnf
   refine Tr.cond ?_
   conv=>whnf
   refine cB h (fun hb35 h => ?_) (fun hb35 h => ?_)
   ·refine rg ?_
    conv=>whnf
    refine orB_r ?_
    conv=>whnf
    refine frP_no ?_
    conv=>whnf
    refine eqS_mk (by first | rfl | simp) ?_
    conv=>whnf
    obtain ⟨l_36, hl_36, h⟩ := bS h
    refine apS_of hl_36 (aQ (f := eI) (l := (([r_31.greatest] : List Int))) fun _ => rfl) (by first | rfl | simp) (by first | rfl | simp) (fun he => ?_)
    conv=>whnf
    refine rS (es' := List.map .d (List.map eI l_36)) (n' := List.length l_36) (by subst he; simp only [List.map_append, List.map_cons, List.map_nil, List.nil_append]; first | done | rfl) (by subst he; simp <;> omega) ?_
    clear he
    conv=>whnf
    refine rg ?_
    conv=>whnf
    refine arS_raw ?_
    conv=>whnf
    refine ⟨((w64 (i_15 + 1)), l_34, l_36, l_18), h, ?_⟩
    exact Wk.mk2 [0, 1, 2, 7, 8, 5] 9 rfl rfl (by decide) rfl ⟨rr, rr, rr, daS_d rfl, daS_d rfl, daS_d rfl, trivial⟩ ⟨rr, rr, rr, rr, ⟨rfl, (by first | rfl | (simp only [↓hb7, ↓hb10, ↓hb25, ↓hb30, ↓hb33, ↓hb35, bl]; done) | (simp only [↓hb7, ↓hb10, ↓hb25, ↓hb30, ↓hb33, ↓hb35, bl]; rfl))⟩, ⟨rfl, (by first | rfl | (simp only [↓hb7, ↓hb10, ↓hb25, ↓hb30, ↓hb33, ↓hb35, bl]; done) | (simp only [↓hb7, ↓hb10, ↓hb25, ↓hb30, ↓hb33, ↓hb35, bl]; rfl))⟩, rr, rr, trivial⟩
   refine rg ?_
   conv=>whnf
   refine orB_r ?_
   conv=>whnf
   refine frP_no ?_
   conv=>whnf
   refine eqS_mk (by first | rfl | simp) ?_
   conv=>whnf
   obtain ⟨l_37, hl_37, h⟩ := bS h
   refine apS_of hl_37 (aQ (f := eI) (l := (([r_31.greatest] : List Int))) fun _ => rfl) (by first | rfl | simp) (by first | rfl | simp) (fun he => ?_)
   conv=>whnf
   refine rS (es' := List.map .d (List.map eI l_37)) (n' := List.length l_37) (by subst he; simp only [List.map_append, List.map_cons, List.map_nil, List.nil_append]; first | done | rfl) (by subst he; simp <;> omega) ?_
   clear he
   conv=>whnf
   refine rg ?_
   conv=>whnf
   refine arS_raw ?_
   conv=>whnf
   refine ⟨((w64 (i_15 + 1)), l_34, l_17, l_37), h, ?_⟩
   exact Wk.mk2 [0, 1, 2, 7, 4, 8] 9 rfl rfl (by decide) rfl ⟨rr, rr, rr, daS_d rfl, daS_d rfl, daS_d rfl, trivial⟩ ⟨rr, rr, rr, rr, ⟨rfl, (by first | rfl | (simp only [↓hb7, ↓hb10, ↓hb25, ↓hb30, ↓hb33, ↓hb35, bl]; done) | (simp only [↓hb7, ↓hb10, ↓hb25, ↓hb30, ↓hb33, ↓hb35, bl]; rfl))⟩, rr, ⟨rfl, (by first | rfl | (simp only [↓hb7, ↓hb10, ↓hb25, ↓hb30, ↓hb33, ↓hb35, bl]; done) | (simp only [↓hb7, ↓hb10, ↓hb25, ↓hb30, ↓hb33, ↓hb35, bl]; rfl))⟩, rr, trivial⟩
  refine Tr.exit ?_
  conv=>whnf
  refine ⟨(l_16, l_17, l_18), h, ?_⟩
  exact Wk.mk2 [1, 2, 3, 4, 5] 6 rfl rfl (by decide) rfl ⟨rr, rr, daS_d rfl, daS_d rfl, daS_d rfl, trivial⟩ ⟨⟨rfl, (by first | rfl | (simp only [↓hb7, ↓hb10, ↓hb25, bl]; done) | (simp only [↓hb7, ↓hb10, ↓hb25, bl]; rfl))⟩, ⟨rfl, (by first | rfl | (simp only [↓hb7, ↓hb10, ↓hb25, bl]; done) | (simp only [↓hb7, ↓hb10, ↓hb25, bl]; rfl))⟩, rr, ⟨rfl, (by first | rfl | (simp only [↓hb7, ↓hb10, ↓hb25, bl]; done) | (simp only [↓hb7, ↓hb10, ↓hb25, bl]; rfl))⟩, ⟨rfl, (by first | rfl | (simp only [↓hb7, ↓hb10, ↓hb25, bl]; done) | (simp only [↓hb7, ↓hb10, ↓hb25, bl]; rfl))⟩, ⟨rfl, (by first | rfl | (simp only [↓hb7, ↓hb10, ↓hb25, bl]; done) | (simp only [↓hb7, ↓hb10, ↓hb25, bl]; rfl))⟩, trivial⟩
 clear h
 rintro ⟨l_20, l_21, l_22⟩ h T1 H1 hw
 replace h : M172 t_2 l_20 l_21 l_22 = some (r_3, r_4) := h
 conv=>whnf
 refine Tr.weak hw ?_
 unfold M172 at h
 refine sg ?_
 conv=>whnf
 refine lnS_mk rfl ?_
 conv=>whnf
 refine orB_l ?_
 conv=>whnf
 refine Tr.seq ?_
 refine sg ?_
 conv=>whnf
 refine lnS_mk rfl ?_
 conv=>whnf
 refine Tr.cond ?_
 conv=>whnf
 refine cB h (fun hb38 h => ?_) (fun hb38 h => ?_)
 ·refine sg ?_
  conv=>whnf
  refine orB_l ?_
  conv=>whnf
  refine Tr.ret ?_
  conv=>whnf
  cases h
  rfl
 refine Tr.skip ?_
 conv=>whnf
 refine Tr.seq ?_
 refine Tr.frz 7 ?_
 conv=>whnf
 refine frE_of (f := eI) (l := l_20) rfl ?_
 conv=>whnf
 refine dq [(7,6)] [(0,1),(1,1),(2,3),(3,3),(4,1),(5,1),(6,0),(7,0)] ?_
 conv=>whnf
 refine q1 ?_
 conv=>whnf
 obtain ⟨r_39, hc40, h⟩ := bS h
 refine q1 ?_ (fun _ => pe (P167 l_20 r_39 hc40) rr)
 conv=>whnf
 refine q2 ?_
 conv=>whnf
 refine q2 ?_
 conv=>whnf
 obtain ⟨r_41, hc42, h⟩ := bS h
 refine q1 ?_ (fun _ => pe (P169 r_39 t_2.Best r_41 hc42) rr)
 conv=>whnf
 refine q1 ?_
 conv=>whnf
 refine ⟨_, _, rr, kp_ok (by repeat (first | exact trivial | refine ⟨trivial, ?_⟩ | refine ⟨rfl, ?_⟩)), ?_⟩
 conv=>whnf
 refine ⟨_, _, rr, kp_ok (by repeat (first | exact trivial | refine ⟨trivial, ?_⟩ | refine ⟨rfl, ?_⟩)), ?_⟩
 conv=>whnf
 refine Tr.seq ?_
 refine sg ?_
 conv=>whnf
 refine lnS_mk rfl ?_
 conv=>whnf
 refine Tr.cond ?_
 conv=>whnf
 refine cB h (fun hb43 h => ?_) (fun hb43 h => ?_)
 ·refine Tr.frz 8 ?_
  conv=>whnf
  refine frE_of (f := eI) (l := l_21) rfl ?_
  conv=>whnf
  refine dq [(6,6)] [(0,1),(1,1),(2,3),(3,3),(4,1),(5,9),(6,0)] ?_
  conv=>whnf
  refine q1 ?_
  conv=>whnf
  obtain ⟨r_44, hc45, h⟩ := bS h
  refine q1 ?_ (fun _ => pe (P167 l_21 r_44 hc45) rr)
  conv=>whnf
  refine q2 ?_
  conv=>whnf
  refine q2 ?_
  conv=>whnf
  obtain ⟨r_46, hc47, h⟩ := bS h
  refine q1 ?_ (fun _ => pe (P169 r_44 t_2.Best r_46 hc47) rr)
  conv=>whnf
  refine q2 ?_
  conv=>whnf
  refine ⟨_, _, rr, kp_ok (by repeat (first | exact trivial | refine ⟨trivial, ?_⟩ | refine ⟨rfl, ?_⟩)), ?_⟩
  conv=>whnf
  refine sg ?_
  conv=>whnf
  refine orB_r ?_
  conv=>whnf
  refine sg ?_
  conv=>whnf
  refine Tr.ret ?_
  conv=>whnf
  cases h
  rfl
 refine Tr.seq ?_
 refine Tr.frz 9 ?_
 conv=>whnf
 refine frE_of (f := eI) (l := l_22) rfl ?_
 conv=>whnf
 refine rg ?_
 conv=>whnf
 obtain ⟨r_48, hc49, h⟩ := bS h
 refine PC.ecall (P167 l_22 r_48 hc49) (fun rs hrs => ?_)
 subst hrs
 conv=>whnf
 refine Tr.seq ?_
 refine Tr.frz 8 ?_
 conv=>whnf
 refine frE_of (f := eI) (l := l_21) rfl ?_
 conv=>whnf
 refine rg ?_
 conv=>whnf
 refine lnS_map ?_
 conv=>whnf
 obtain ⟨r_50, hc51, h⟩ := bS h
 refine PC.ecall (P169 l_21 ((((l_21).length : Int))) r_50 hc51) (fun rs hrs => ?_)
 subst hrs
 conv=>whnf
 refine sg ?_
 conv=>whnf
 obtain ⟨v_57, hv62, h⟩ := bS h
 refine Tr.cutQ1 ([(4, .pt 0 0), (5, (dI 0)), (14, .pt 1 0), (15, .pt 2 0)]) ([some (.var [(dI 0), .nsl, .d (.b false)]), some (.var [(dI 0), .nsl, .d (.b (decide ((((l_21).length : Int)) < t_2.Best)))]), some (.var [(dI r_41), (dI v_57)])]) ?_ (fun T1 H1 hw => ?_)
 ·replace h := hv62; clear hv62
  refine Tr.block ?_
  refine Tr.loopM (σ := Int × Int) (fun n s => M171 t_2 l_21 r_48 n s.1 s.2) v_57 (fun s => ([(3, .pt 0 0), (4, .pt 1 0), (5, (dI 0)), (8, .d (.ls (List.map eI l_21))), (14, .pt 2 0), (15, .pt 3 0), (16, .d (.ls (List.map eI r_48))), (17, (dI s.1))], [some (.var [.d (.s t_2.Name), .d (.ls (List.map eI t_2.Bibs)), (dI t_2.Best)]), some (.var [(dI 0), .nsl, .d (.b false)]), some (.var [(dI 0), .nsl, .d (.b (decide ((((l_21).length : Int)) < t_2.Best)))]), some (.var [(dI r_41), (dI s.2)])])) (((w64 (t_2.Best - (((l_21).length : Int)))) - 0 : Int).toNat + 1) (0, r_50) h (fun s => rfl) (Wk.mk2 [0, 1, 5, 6] 7 rfl rfl (by decide) rfl ⟨rr, rr, rr, rr, trivial⟩ ⟨rr, rr, rr, rr, ⟨rfl, (by first | rfl | (simp only [↓hb7, ↓hb10, ↓hb38, ↓hb43, bl]; done) | (simp only [↓hb7, ↓hb10, ↓hb38, ↓hb43, bl]; rfl))⟩, ⟨rfl, (by first | rfl | (simp only [↓hb7, ↓hb10, ↓hb38, ↓hb43, bl]; done) | (simp only [↓hb7, ↓hb10, ↓hb38, ↓hb43, bl]; rfl))⟩, rr, rr, trivial⟩) ?_
  clear h
  rintro n_56 ⟨i_54, v_55⟩ h
  replace h : M171 t_2 l_21 r_48 (n_56 + 1) i_54 v_55 = some v_57 := h
  rw [M171] at h
  refine Tr.seq ?_
  refine sg ?_
  conv=>whnf
  refine lnS_map ?_
  conv=>whnf
  refine arS_raw ?_
  conv=>whnf
  refine Tr.cond ?_
  conv=>whnf
  refine cB h (fun hb60 h => ?_) (fun hb60 h => ?_)
  ·refine Tr.skip ?_
   conv=>whnf
   refine Tr.seq ?_
   refine Tr.block ?_
   refine dq [(12,3)] [(0,6),(1,6),(2,1),(3,1),(4,2),(5,1),(6,1),(7,1),(8,2),(9,2),(10,1),(11,6),(12,0)] ?_
   conv=>whnf
   refine q2 ?_
   conv=>whnf
   refine q2 ?_
   conv=>whnf
   refine q1 ?_
   conv=>whnf
   refine q1 ?_
   conv=>whnf
   refine q3 (lnS_map rr) ?_
   conv=>whnf
   refine q4 ?_
   conv=>whnf
   refine q1 ?_
   conv=>whnf
   refine q4 ?_
   conv=>whnf
   obtain ⟨x_61, hx_61, h⟩ := bS h
   refine q3 (ixP_of hx_61 rr) ?_
   conv=>whnf
   refine q2 ?_
   conv=>whnf
   refine q4 ?_
   conv=>whnf
   refine q2 ?_
   conv=>whnf
   refine ⟨_, _, rr, kp_ok (by repeat (first | exact trivial | refine ⟨trivial, ?_⟩ | refine ⟨rfl, ?_⟩)), ?_⟩
   conv=>whnf
   refine rg ?_
   conv=>whnf
   refine arS_raw ?_
   conv=>whnf
   refine ⟨((w64 (i_54 + 1)), (w64 (v_55 + x_61))), h, ?_⟩
   exact Wk.mk2 [0, 1, 2, 3] 4 rfl rfl (by decide) rfl ⟨rr, rr, rr, rr, trivial⟩ ⟨rr, rr, rr, rr, rr, rr, rr, rr, trivial⟩
  refine Tr.exit ?_
  conv=>whnf
  cases h
  exact Wk.mk2 [1, 2, 3] 4 rfl rfl (by decide) rfl ⟨rr, rr, rr, trivial⟩ ⟨⟨rfl, (by first | rfl | (simp only [↓hb7, ↓hb10, ↓hb38, ↓hb43, ↓hb60, bl]; done) | (simp only [↓hb7, ↓hb10, ↓hb38, ↓hb43, ↓hb60, bl]; rfl))⟩, rr, ⟨rfl, (by first | rfl | (simp only [↓hb7, ↓hb10, ↓hb38, ↓hb43, ↓hb60, bl]; done) | (simp only [↓hb7, ↓hb10, ↓hb38, ↓hb43, ↓hb60, bl]; rfl))⟩, ⟨rfl, (by first | rfl | (simp only [↓hb7, ↓hb10, ↓hb38, ↓hb43, ↓hb60, bl]; done) | (simp only [↓hb7, ↓hb10, ↓hb38, ↓hb43, ↓hb60, bl]; rfl))⟩, trivial⟩
 clear hv62
 conv=>whnf
 refine Tr.weak hw ?_
 refine sg ?_
 conv=>whnf
 refine orB_r ?_
 conv=>whnf
 refine sg ?_
 conv=>whnf
 refine Tr.ret ?_
 conv=>whnf
 cases h
 rfl
theorem P180 (l_1 : List TTeam) (r_2 : Int) (h : M180 l_1 = some r_2) :
    PC prog 20 [(.ls (List.map eTTeam l_1))] (fun rs => rs = [(.i .i64 r_2)]) := by
 refine PC.of_tr (cx := ⟨73, none, lay, 0⟩) layOK func20 rfl rfl rfl rfl rfl (by simp [f20]) ?_
 unfold M180 at h
 refine sg ?_
 conv=>whnf
 refine Tr.seq ?_
 refine sg ?_
 conv=>whnf
 refine lnS_map ?_
 conv=>whnf
 refine cB h (fun hb3 h => ?_) (fun hb3 h => ?_)
 ·conv=>whnf
  refine Tr.cond ?_
  conv=>whnf
  refine sg ?_
  conv=>whnf
  refine Tr.ret ?_
  conv=>whnf
  cases h
  rfl
 conv=>whnf
 refine lnS_map ?_
 conv=>whnf
 refine Tr.cond ?_
 conv=>whnf
 refine cB h (fun hb4 h => ?_) (fun hb4 h => ?_)
 ·refine sg ?_
  conv=>whnf
  refine Tr.ret ?_
  conv=>whnf
  cases h
  rfl
 refine Tr.skip ?_
 conv=>whnf
 refine sg ?_
 conv=>whnf
 refine Tr.seq ?_
 refine sg ?_
 conv=>whnf
 refine Tr.cutQ (α := Unit) (fun s => ([(2, (dI 0))], [])) (fun s => M179 s = some r_2) ?_ ?_
 ·refine Tr.block ?_
  refine Tr.loopM (σ := Int × (List (Int × Bool))) (fun n s => M178 l_1 M179 n s.1 s.2) r_2 (fun s => ([(0, .d (.ls (List.map eTTeam l_1))), (2, (dI 0)), (3, .mr 0), (4, (dI s.1))], [some (.mp (List.map (eKV eI eB) s.2))])) (((((l_1).length : Int)) - 0 : Int).toNat + 1) (0, (([] : List (Int × Bool)))) h (fun s => rfl) (Wk.mk2 [0] 1 rfl rfl (by decide) rfl ⟨maS_mk rfl, trivial⟩ ⟨rr, rr, rr, rr, trivial⟩) ?_
  clear h
  rintro n_9 ⟨i_7, m_8⟩ h
  replace h : M178 l_1 M179 (n_9 + 1) i_7 m_8 = some r_2 := h
  rw [M178] at h
  refine Tr.seq ?_
  refine sg ?_
  conv=>whnf
  refine lnS_map ?_
  conv=>whnf
  refine Tr.cond ?_
  conv=>whnf
  refine cB h (fun hb12 h => ?_) (fun hb12 h => ?_)
  ·refine Tr.skip ?_
   conv=>whnf
   refine Tr.seq ?_
   refine Tr.block ?_
   refine Tr.seq ?_
   refine sg ?_
   conv=>whnf
   obtain ⟨x_13, hx_13, h⟩ := bS h
   refine ixP_of hx_13 ?_
   conv=>whnf
   obtain ⟨r_14, hc15, h⟩ := bS h
   refine PC.ecall (P120 x_13 r_14 hc15) (fun rs hrs => ?_)
   subst hrs
   conv=>whnf
   refine Tr.cond ?_
   conv=>whnf
   refine cB h (fun hb16 h => ?_) (fun hb16 h => ?_)
   ·refine sg ?_
    conv=>whnf
    refine Tr.ret ?_
    conv=>whnf
    cases h
    rfl
   refine Tr.skip ?_
   conv=>whnf
   refine Tr.seq ?_
   refine sg ?_
   conv=>whnf
   refine Tr.cutQ (α := Unit) (fun s => ([(0, .d (.ls (List.map eTTeam l_1))), (2, (dI 0)), (3, .mr 0), (4, (dI i_7))], [some (.mp (List.map (eKV eI eB) m_8))])) (fun s => M177 l_1 i_7 m_8 (M178 l_1 M179 n_9) s = some r_2) ?_ ?_
   ·refine Tr.block ?_
    refine Tr.loopM (σ := Int) (fun n s => M174 l_1 i_7 (M177 l_1 i_7 m_8 (M178 l_1 M179 n_9)) n s) r_2 (fun s => ([(0, .d (.ls (List.map eTTeam l_1))), (2, (dI 0)), (3, .mr 0), (4, (dI i_7)), (5, (dI s))], [some (.mp (List.map (eKV eI eB) m_8))])) ((i_7 - 0 : Int).toNat + 1) (0) h (fun s => rfl) (Wk.mk2 [0] 1 rfl rfl (by decide) rfl ⟨maS_mk rfl, trivial⟩ ⟨rr, rr, rr, rr, rr, trivial⟩) ?_
    clear h
    rintro n_19 k_18 h
    replace h : M174 l_1 i_7 (M177 l_1 i_7 m_8 (M178 l_1 M179 n_9)) (n_19 + 1) k_18 = some r_2 := h
    rw [M174] at h
    refine Tr.seq ?_
    refine sg ?_
    conv=>whnf
    refine Tr.cond ?_
    conv=>whnf
    refine cB h (fun hb22 h => ?_) (fun hb22 h => ?_)
    ·refine Tr.skip ?_
     conv=>whnf
     refine Tr.seq ?_
     refine Tr.block ?_
     refine sd [] [(0,1),(1,1),(2,2),(3,2),(4,2),(5,1),(6,1),(7,2),(8,2),(9,2),(10,1)] ?_
     conv=>whnf
     refine q1 ?_
     conv=>whnf
     refine q1 ?_
     conv=>whnf
     obtain ⟨x_23, hx_23, h⟩ := bS h
     refine q3 (ixP_of hx_23 rr) ?_
     conv=>whnf
     refine q2 ?_
     conv=>whnf
     refine q2 ?_
     conv=>whnf
     refine q1 ?_
     conv=>whnf
     refine q1 ?_
     conv=>whnf
     obtain ⟨x_24, hx_24, h⟩ := bS h
     refine q3 (ixP_of hx_24 rr) ?_
     conv=>whnf
     refine q2 ?_
     conv=>whnf
     refine q2 ?_
     conv=>whnf
     refine q1 ?_
     conv=>whnf
     refine Tr.cond ?_
     conv=>whnf
     refine cB h (fun hb25 h => ?_) (fun hb25 h => ?_)
     ·refine sg ?_
      conv=>whnf
      refine Tr.ret ?_
      conv=>whnf
      cases h
      rfl
     refine Tr.skip ?_
     conv=>whnf
     refine rg ?_
     conv=>whnf
     refine arS_raw ?_
     conv=>whnf
     refine ⟨((w64 (k_18 + 1))), h, ?_⟩
     exact Wk.mk2 [0] 1 rfl rfl (by decide) rfl ⟨maS_mk rfl, trivial⟩ ⟨rr, rr, rr, rr, rr, trivial⟩
    refine Tr.exit ?_
    conv=>whnf
    refine ⟨(), h, ?_⟩
    exact Wk.mk2 [0] 1 rfl rfl (by decide) rfl ⟨maS_mk rfl, trivial⟩ ⟨rr, rr, rr, rr, trivial⟩
   clear h
   rintro _ h T1 H1 hw
   replace h : M177 l_1 i_7 m_8 (M178 l_1 M179 n_9) () = some r_2 := h
   conv=>whnf
   refine Tr.weak hw ?_
   unfold M177 at h
   refine sg ?_
   conv=>whnf
   refine Tr.cutQ (α := (List (Int × Bool))) (fun s => ([(0, .d (.ls (List.map eTTeam l_1))), (2, (dI 0)), (3, .mr 0), (4, (dI i_7))], [some (.mp (List.map (eKV eI eB) s))])) (fun s => M176 i_7 (M178 l_1 M179 n_9) s = some r_2) ?_ ?_
   ·refine Tr.block ?_
    refine Tr.loopM (σ := Int × (List (Int × Bool))) (fun n s => M175 l_1 i_7 (M176 i_7 (M178 l_1 M179 n_9)) n s.1 s.2) r_2 (fun s => ([(0, .d (.ls (List.map eTTeam l_1))), (2, (dI 0)), (3, .mr 0), (4, (dI i_7)), (6, (dI s.1))], [some (.mp (List.map (eKV eI eB) s.2))])) ((((((Option.getD (idx l_1 i_7) default).Bibs).length : Int)) - 0 : Int).toNat + 1) (0, m_8) h (fun s => rfl) (Wk.mk2 [0] 1 rfl rfl (by decide) rfl ⟨maS_mk rfl, trivial⟩ ⟨rr, rr, rr, rr, rr, trivial⟩) ?_
    clear h
    rintro n_30 ⟨k_28, m_29⟩ h
    replace h : M175 l_1 i_7 (M176 i_7 (M178 l_1 M179 n_9)) (n_30 + 1) k_28 m_29 = some r_2 := h
    rw [M175] at h
    refine Tr.seq ?_
    refine sg ?_
    conv=>whnf
    obtain ⟨x_34, hx_34, h⟩ := bS h
    refine ixP_of hx_34 ?_
    conv=>whnf
    refine lnS_map ?_
    conv=>whnf
    refine Tr.cond ?_
    conv=>whnf
    refine cB h (fun hb35 h => ?_) (fun hb35 h => ?_)
    ·refine Tr.skip ?_
     conv=>whnf
     refine Tr.seq ?_
     refine Tr.block ?_
     refine Tr.seq ?_
     refine sg ?_
     conv=>whnf
     obtain ⟨x_36, hx_36, h⟩ := bS h
     refine ixP_of hx_36 ?_
     conv=>whnf
     obtain ⟨x_37, hx_37, h⟩ := bS h
     refine ixP_of hx_37 ?_
     conv=>whnf
     refine mgS_mk (mfit_map (g := eB) (sameK_eI) m_29 x_37) (mget_map (g := eB) (keyEq_eI) m_29 x_37 false) (neAg_b _) ?_
     conv=>whnf
     refine Tr.cond ?_
     conv=>whnf
     refine cB h (fun hb38 h => ?_) (fun hb38 h => ?_)
     ·refine sg ?_
      conv=>whnf
      refine Tr.ret ?_
      conv=>whnf
      cases h
      rfl
     refine Tr.skip ?_
     conv=>whnf
     refine rg ?_
     conv=>whnf
     obtain ⟨x_39, hx_39, h⟩ := bS h
     refine ixP_of hx_39 ?_
     conv=>whnf
     obtain ⟨x_40, hx_40, h⟩ := bS h
     refine ixP_of hx_40 ?_
     conv=>whnf
     refine mpS_mk (mfit_map (g := eB) (sameK_eI) m_29 x_40) (mput_map (g := eB) (keyEq_eI) m_29 x_40 true) ?_
     conv=>whnf
     refine rg ?_
     conv=>whnf
     refine arS_raw ?_
     conv=>whnf
     refine ⟨((w64 (k_28 + 1)), (mapPut m_29 x_40 true)), h, ?_⟩
     exact Wk.mk2 [0] 1 rfl rfl (by decide) rfl ⟨maS_mk rfl, trivial⟩ ⟨rr, rr, rr, rr, rr, trivial⟩
    refine Tr.exit ?_
    conv=>whnf
    refine ⟨(m_29), h, ?_⟩
    exact Wk.mk2 [0] 1 rfl rfl (by decide) rfl ⟨maS_mk rfl, trivial⟩ ⟨rr, rr, rr, rr, trivial⟩
   clear h
   rintro m_31 h T1 H1 hw
   replace h : M176 i_7 (M178 l_1 M179 n_9) m_31 = some r_2 := h
   conv=>whnf
   refine Tr.weak hw ?_
   unfold M176 at h
   refine rg ?_
   conv=>whnf
   refine arS_raw ?_
   conv=>whnf
   refine ⟨((w64 (i_7 + 1)), m_31), h, ?_⟩
   exact Wk.mk2 [0] 1 rfl rfl (by decide) rfl ⟨maS_mk rfl, trivial⟩ ⟨rr, rr, rr, rr, trivial⟩
  refine Tr.exit ?_
  conv=>whnf
  refine ⟨(), h, ?_⟩
  exact Wk.mk2 [] 1 rfl rfl (by decide) rfl trivial ⟨rr, trivial⟩
 clear h
 rintro _ h T1 H1 hw
 replace h : M179 () = some r_2 := h
 conv=>whnf
 refine Tr.weak hw ?_
 unfold M179 at h
 refine sg ?_
 conv=>whnf
 refine Tr.ret ?_
 conv=>whnf
 cases h
 rfl
theorem P184 (f_1 : TField) (l_2 : List TTeam) (at_3 : Int) (r_4 : Int) (r_5 : Int) (r_6 : Int) (h : M184 f_1 l_2 at_3 = some (r_4, r_5, r_6)) :
    PC prog 21 [(eTField f_1), (.ls (List.map eTTeam l_2)), (.i .i64 at_3)] (fun rs => rs = [(.i .i64 r_4), (.i .i64 r_5), (.i .i64 r_6)]) := by
 refine PC.of_tr (cx := ⟨114, none, lay, 0⟩) layOK func21 rfl rfl rfl rfl rfl (by simp [f21]) ?_
 unfold M184 at h
 refine sg ?_
 conv=>whnf
 refine sg ?_
 conv=>whnf
 obtain ⟨r_7, hc8, h⟩ := bS h
 refine PC.ecall (P180 l_2 r_7 hc8) (fun rs hrs => ?_)
 subst hrs
 conv=>whnf
 refine Tr.seq ?_
 refine sg ?_
 conv=>whnf
 refine Tr.cond ?_
 conv=>whnf
 refine cB h (fun hb9 h => ?_) (fun hb9 h => ?_)
 ·refine sg ?_
  conv=>whnf
  refine Tr.ret ?_
  conv=>whnf
  cases h
  rfl
 refine Tr.skip ?_
 conv=>whnf
 refine Tr.seq ?_
 refine sg ?_
 conv=>whnf
 refine cB h (fun hb10 h => ?_) (fun hb10 h => ?_)
 ·conv=>whnf
  refine Tr.cond ?_
  conv=>whnf
  refine sg ?_
  conv=>whnf
  refine Tr.ret ?_
  conv=>whnf
  cases h
  rfl
 conv=>whnf
 refine lnS_map ?_
 conv=>whnf
 refine Tr.cond ?_
 conv=>whnf
 refine cB h (fun hb11 h => ?_) (fun hb11 h => ?_)
 ·refine sg ?_
  conv=>whnf
  refine Tr.ret ?_
  conv=>whnf
  cases h
  rfl
 refine Tr.skip ?_
 conv=>whnf
 refine sg ?_
 conv=>whnf
 refine Tr.seq ?_
 refine sg ?_
 conv=>whnf
 refine Tr.cutQ (α := List TTotal) (fun s => ([(2, (dI at_3)), (6, (dI 0)), (7, (dI 0)), (8, (dI 0)), (10, .sl 0 3 0 (List.length s))], [some (.arr 3 (List.map .d (List.map eTTotal s)))])) (fun s => M183 at_3 s = some (r_4, r_5, r_6)) ?_ ?_
 ·refine Tr.block ?_
  refine Tr.loopM (σ := Int × List TTotal) (fun n s => M181 f_1 l_2 (M183 at_3) n s.1 s.2) (r_4, r_5, r_6) (fun s => ([(1, .d (.ls (List.map eTTeam l_2))), (2, (dI at_3)), (3, .pt 0 0), (6, (dI 0)), (7, (dI 0)), (8, (dI 0)), (10, .sl 1 3 0 (List.length s.2)), (11, (dI s.1))], [some (.var [.d (.ls (List.map eTSegment f_1.Clocks.Segments)), .d (.ls (List.map (eL eI) f_1.Clocks.Far)), .d (.ls (List.map eTPair f_1.Pairs)), .d (.ls (List.map eTRunner f_1.Runners))]), some (.arr 3 (List.map .d (List.map eTTotal s.2)))])) (((((l_2).length : Int)) - 0 : Int).toNat + 1) (0, (([] : List TTotal))) h (fun s => rfl) (Wk.mk2 [0, 1] 1 rfl rfl (by decide) rfl ⟨rr, rfl, trivial⟩ ⟨rr, rr, rr, rr, rr, rr, ⟨rfl, (by first | rfl | (simp only [↓hb9, ↓hb10, ↓hb11, bl]; done) | (simp only [↓hb9, ↓hb10, ↓hb11, bl]; rfl))⟩, rr, trivial⟩) ?_
  clear h
  rintro n_16 ⟨i_14, l_15⟩ h
  replace h : M181 f_1 l_2 (M183 at_3) (n_16 + 1) i_14 l_15 = some (r_4, r_5, r_6) := h
  rw [M181] at h
  refine Tr.seq ?_
  refine sg ?_
  conv=>whnf
  refine lnS_map ?_
  conv=>whnf
  refine Tr.cond ?_
  conv=>whnf
  refine cB h (fun hb20 h => ?_) (fun hb20 h => ?_)
  ·refine Tr.skip ?_
   conv=>whnf
   refine Tr.seq ?_
   refine Tr.block ?_
   refine sd [(10,2)] [(0,3),(1,1),(2,1),(3,2),(4,2),(5,1),(6,1),(7,1),(8,1),(9,0),(10,0),(11,1)] ?_
   conv=>whnf
   refine q2 ?_
   conv=>whnf
   refine q1 ?_
   conv=>whnf
   refine q1 ?_
   conv=>whnf
   obtain ⟨x_21, hx_21, h⟩ := bS h
   refine q3 (ixP_of hx_21 rr) ?_
   conv=>whnf
   refine q2 ?_
   conv=>whnf
   obtain ⟨⟨r_22, r_23⟩, hc24, h⟩ := bS h
   refine q1 ?_ (fun _ => pe (P173 f_1 x_21 r_22 r_23 hc24) rr)
   conv=>whnf
   refine q1 ?_
   conv=>whnf
   refine q1 ?_
   conv=>whnf
   refine q1 ?_
   conv=>whnf
   refine ⟨_, _, rr, kp_ok (by repeat (first | exact trivial | refine ⟨trivial, ?_⟩ | refine ⟨rfl, ?_⟩)), ?_⟩
   conv=>whnf
   refine ⟨_, _, rr, kp_ok (by repeat (first | exact trivial | refine ⟨trivial, ?_⟩ | refine ⟨rfl, ?_⟩)), ?_⟩
   conv=>whnf
   refine q1 ?_
   conv=>whnf
   refine Tr.seq ?_
   refine sg ?_
   conv=>whnf
   refine Tr.cond ?_
   conv=>whnf
   refine cB h (fun hb25 h => ?_) (fun hb25 h => ?_)
   ·refine sg ?_
    conv=>whnf
    refine Tr.ret ?_
    conv=>whnf
    cases h
    rfl
   refine Tr.skip ?_
   conv=>whnf
   refine rg ?_
   conv=>whnf
   refine orB_r ?_
   conv=>whnf
   refine frP_no ?_
   conv=>whnf
   refine eqS_mk (by first | rfl | simp) ?_
   conv=>whnf
   obtain ⟨l_26, hl_26, h⟩ := bS h
   refine apS_of hl_26 (aQ (f := eTTotal) (l := (([r_22] : List TTotal))) fun _ => rfl) (by first | rfl | simp) (by first | rfl | simp) (fun he => ?_)
   conv=>whnf
   refine rS (es' := List.map .d (List.map eTTotal l_26)) (n' := List.length l_26) (by subst he; simp only [List.map_append, List.map_cons, List.map_nil, List.nil_append]; first | done | rfl) (by subst he; simp <;> omega) ?_
   clear he
   conv=>whnf
   refine rg ?_
   conv=>whnf
   refine arS_raw ?_
   conv=>whnf
   refine ⟨((w64 (i_14 + 1)), l_26), h, ?_⟩
   exact Wk.mk2 [0, 3] 4 rfl rfl (by decide) rfl ⟨rr, daS_d rfl, trivial⟩ ⟨rr, rr, rr, rr, rr, rr, ⟨rfl, (by first | rfl | (simp only [↓hb9, ↓hb10, ↓hb11, ↓hb20, ↓hb25, bl]; done) | (simp only [↓hb9, ↓hb10, ↓hb11, ↓hb20, ↓hb25, bl]; rfl))⟩, rr, trivial⟩
  refine Tr.exit ?_
  conv=>whnf
  refine ⟨(l_15), h, ?_⟩
  exact Wk.mk2 [1] 2 rfl rfl (by decide) rfl ⟨daS_d rfl, trivial⟩ ⟨rr, rr, rr, rr, ⟨rfl, (by first | rfl | (simp only [↓hb9, ↓hb10, ↓hb11, ↓hb20, bl]; done) | (simp only [↓hb9, ↓hb10, ↓hb11, ↓hb20, bl]; rfl))⟩, trivial⟩
 clear h
 rintro l_17 h T1 H1 hw
 replace h : M183 at_3 l_17 = some (r_4, r_5, r_6) := h
 conv=>whnf
 refine Tr.weak hw ?_
 unfold M183 at h
 refine sg ?_
 conv=>whnf
 obtain ⟨x_27, hx_27, h⟩ := bS h
 refine ixS_of hx_27 rfl ?_
 conv=>whnf
 refine elP_of hx_27 ?_
 conv=>whnf
 refine Tr.seq ?_
 refine sg ?_
 conv=>whnf
 refine lnS_map ?_
 conv=>whnf
 refine Tr.cond ?_
 conv=>whnf
 refine cB h (fun hb28 h => ?_) (fun hb28 h => ?_)
 ·refine sg ?_
  conv=>whnf
  refine Tr.ret ?_
  conv=>whnf
  cases h
  rfl
 refine Tr.skip ?_
 conv=>whnf
 refine sg ?_
 conv=>whnf
 refine Tr.seq ?_
 refine sg ?_
 conv=>whnf
 obtain ⟨⟨lo_36, hi_37⟩, hv60, h⟩ := bS h
 refine Tr.cutQ1 ([(6, (dI 0)), (7, (dI 0)), (8, (dI 0)), (15, (dI lo_36)), (16, (dI hi_37))]) ([]) ?_ (fun T1 H1 hw => ?_)
 ·replace h := hv60; clear hv60
  refine Tr.block ?_
  refine Tr.loopM (σ := Int × Int × Int) (fun n s => M182 at_3 l_17 x_27 n s.1 s.2.1 s.2.2) (lo_36, hi_37) (fun s => ([(2, (dI at_3)), (6, (dI 0)), (7, (dI 0)), (8, (dI 0)), (10, .sl 0 3 0 (List.length l_17)), (14, .pt 1 0), (15, (dI s.1)), (16, (dI s.2.1)), (17, (dI s.2.2))], [some (.arr 3 (List.map .d (List.map eTTotal l_17))), some (.var [(dI x_27.Bib), .d (.ls (List.map eTSpan x_27.Sums)), .d (.b x_27.Out)])])) (((((l_17).length : Int)) - 0 : Int).toNat + 1) (1, 1, 0) h (fun s => rfl) (Wk.mk2 [0, 1] 2 rfl rfl (by decide) rfl ⟨daS_d rfl, rr, trivial⟩ ⟨rr, rr, rr, rr, rr, rr, rr, rr, rr, trivial⟩) ?_
  clear h
  rintro n_35 ⟨lo_32, hi_33, i_34⟩ h
  replace h : M182 at_3 l_17 x_27 (n_35 + 1) lo_32 hi_33 i_34 = some (lo_36, hi_37) := h
  rw [M182] at h
  refine Tr.seq ?_
  refine sg ?_
  conv=>whnf
  refine lnS_mk rfl ?_
  conv=>whnf
  refine Tr.cond ?_
  conv=>whnf
  refine cB h (fun hb40 h => ?_) (fun hb40 h => ?_)
  ·refine Tr.skip ?_
   conv=>whnf
   refine Tr.seq ?_
   obtain ⟨⟨lo_41, hi_42⟩, hv43, h⟩ := bS h
   refine Tr.cutQ1 ([(2, (dI at_3)), (6, (dI 0)), (7, (dI 0)), (8, (dI 0)), (10, .sl 0 3 0 (List.length l_17)), (14, .pt 1 0), (15, (dI lo_41)), (16, (dI hi_42)), (17, (dI i_34))]) ([some (.arr 3 (List.map .d (List.map eTTotal l_17))), some (.var [(dI x_27.Bib), .d (.ls (List.map eTSpan x_27.Sums)), .d (.b x_27.Out)])]) ?_ (fun T1 H1 hw => ?_)
   ·replace h := hv43; clear hv43
    refine Tr.block ?_
    refine sg ?_
    conv=>whnf
    obtain ⟨x_44, hx_44, h⟩ := bS h
    refine ixS_of hx_44 rfl ?_
    conv=>whnf
    refine elP_of hx_44 ?_
    conv=>whnf
    refine Tr.seq ?_
    refine sg ?_
    conv=>whnf
    refine cB h (fun hb45 h => ?_) (fun hb45 h => ?_)
    ·conv=>whnf
     refine Tr.cond ?_
     conv=>whnf
     refine Tr.exit ?_
     conv=>whnf
     cases h
     exact Wk.mk2 [0, 1] 3 rfl rfl (by decide) rfl ⟨daS_d rfl, rr, trivial⟩ ⟨rr, rr, rr, rr, rr, rr, rr, rr, rr, trivial⟩
    conv=>whnf
    refine lnS_map ?_
    conv=>whnf
    refine Tr.cond ?_
    conv=>whnf
    refine cB h (fun hb46 h => ?_) (fun hb46 h => ?_)
    ·refine Tr.exit ?_
     conv=>whnf
     cases h
     exact Wk.mk2 [0, 1] 3 rfl rfl (by decide) rfl ⟨daS_d rfl, rr, trivial⟩ ⟨rr, rr, rr, rr, rr, rr, rr, rr, rr, trivial⟩
    refine Tr.skip ?_
    conv=>whnf
    refine Tr.seq ?_
    refine sd [] [(0,5),(1,5),(2,1),(3,1),(4,5),(5,5),(6,2),(7,2),(8,2),(9,4),(10,4),(11,2),(12,2),(13,2),(14,1),(15,1)] ?_
    conv=>whnf
    refine q2 ?_
    conv=>whnf
    refine q2 ?_
    conv=>whnf
    refine q1 ?_
    conv=>whnf
    refine q1 ?_
    conv=>whnf
    refine cB h (fun hb47 h => ?_) (fun hb47 h => ?_)
    ·conv=>whnf
     refine q2 ?_
     conv=>whnf
     refine q2 ?_
     conv=>whnf
     obtain ⟨x_48, hx_48, h⟩ := bS h
     refine q3 (ixP_of hx_48 rr) ?_
     conv=>whnf
     refine q2 ?_
     conv=>whnf
     refine q2 ?_
     conv=>whnf
     refine q2 ?_
     conv=>whnf
     refine q2 ?_
     conv=>whnf
     obtain ⟨x_49, hx_49, h⟩ := bS h
     refine q3 (ixP_of hx_49 rr) ?_
     conv=>whnf
     refine q2 ?_
     conv=>whnf
     refine q2 ?_
     conv=>whnf
     refine q1 ?_
     conv=>whnf
     refine q1 ?_
     conv=>whnf
     refine Tr.cond ?_
     conv=>whnf
     refine cB h (fun hb50 h => ?_) (fun hb50 h => ?_)
     ·refine rg ?_
      conv=>whnf
      refine arS_raw ?_
      conv=>whnf
      refine sd [] [(0,5),(1,5),(2,2),(3,2),(4,2),(5,4),(6,4),(7,2),(8,2),(9,2),(10,1)] ?_
      conv=>whnf
      refine q2 ?_
      conv=>whnf
      refine q2 ?_
      conv=>whnf
      obtain ⟨x_51, hx_51, h⟩ := bS h
      refine q3 (ixP_of hx_51 rr) ?_
      conv=>whnf
      refine q2 ?_
      conv=>whnf
      refine q2 ?_
      conv=>whnf
      refine q2 ?_
      conv=>whnf
      refine q2 ?_
      conv=>whnf
      obtain ⟨x_52, hx_52, h⟩ := bS h
      refine q3 (ixP_of hx_52 rr) ?_
      conv=>whnf
      refine q2 ?_
      conv=>whnf
      refine q2 ?_
      conv=>whnf
      refine q1 ?_
      conv=>whnf
      refine Tr.cond ?_
      conv=>whnf
      refine cB h (fun hb53 h => ?_) (fun hb53 h => ?_)
      ·refine rg ?_
       conv=>whnf
       refine arS_raw ?_
       conv=>whnf
       cases h
       exact Wk.mk2 [0, 1] 3 rfl rfl (by decide) rfl ⟨daS_d rfl, rr, trivial⟩ ⟨rr, rr, rr, rr, rr, rr, rr, rr, rr, trivial⟩
      refine Tr.skip ?_
      conv=>whnf
      cases h
      exact Wk.mk2 [0, 1] 3 rfl rfl (by decide) rfl ⟨daS_d rfl, rr, trivial⟩ ⟨rr, rr, rr, rr, rr, rr, rr, rr, rr, trivial⟩
     refine Tr.skip ?_
     conv=>whnf
     refine sd [] [(0,5),(1,5),(2,2),(3,2),(4,2),(5,4),(6,4),(7,2),(8,2),(9,2),(10,1)] ?_
     conv=>whnf
     refine q2 ?_
     conv=>whnf
     refine q2 ?_
     conv=>whnf
     obtain ⟨x_54, hx_54, h⟩ := bS h
     refine q3 (ixP_of hx_54 rr) ?_
     conv=>whnf
     refine q2 ?_
     conv=>whnf
     refine q2 ?_
     conv=>whnf
     refine q2 ?_
     conv=>whnf
     refine q2 ?_
     conv=>whnf
     obtain ⟨x_55, hx_55, h⟩ := bS h
     refine q3 (ixP_of hx_55 rr) ?_
     conv=>whnf
     refine q2 ?_
     conv=>whnf
     refine q2 ?_
     conv=>whnf
     refine q1 ?_
     conv=>whnf
     refine Tr.cond ?_
     conv=>whnf
     refine cB h (fun hb56 h => ?_) (fun hb56 h => ?_)
     ·refine rg ?_
      conv=>whnf
      refine arS_raw ?_
      conv=>whnf
      cases h
      exact Wk.mk2 [0, 1] 3 rfl rfl (by decide) rfl ⟨daS_d rfl, rr, trivial⟩ ⟨rr, rr, rr, rr, rr, rr, rr, rr, rr, trivial⟩
     refine Tr.skip ?_
     conv=>whnf
     cases h
     exact Wk.mk2 [0, 1] 3 rfl rfl (by decide) rfl ⟨daS_d rfl, rr, trivial⟩ ⟨rr, rr, rr, rr, rr, rr, rr, rr, rr, trivial⟩
    conv=>whnf
    refine q1 ?_
    conv=>whnf
    refine Tr.cond ?_
    conv=>whnf
    refine Tr.skip ?_
    conv=>whnf
    refine sd [] [(0,5),(1,5),(2,2),(3,2),(4,2),(5,4),(6,4),(7,2),(8,2),(9,2),(10,1)] ?_
    conv=>whnf
    refine q2 ?_
    conv=>whnf
    refine q2 ?_
    conv=>whnf
    obtain ⟨x_57, hx_57, h⟩ := bS h
    refine q3 (ixP_of hx_57 rr) ?_
    conv=>whnf
    refine q2 ?_
    conv=>whnf
    refine q2 ?_
    conv=>whnf
    refine q2 ?_
    conv=>whnf
    refine q2 ?_
    conv=>whnf
    obtain ⟨x_58, hx_58, h⟩ := bS h
    refine q3 (ixP_of hx_58 rr) ?_
    conv=>whnf
    refine q2 ?_
    conv=>whnf
    refine q2 ?_
    conv=>whnf
    refine q1 ?_
    conv=>whnf
    refine Tr.cond ?_
    conv=>whnf
    refine cB h (fun hb59 h => ?_) (fun hb59 h => ?_)
    ·refine rg ?_
     conv=>whnf
     refine arS_raw ?_
     conv=>whnf
     cases h
     exact Wk.mk2 [0, 1] 3 rfl rfl (by decide) rfl ⟨daS_d rfl, rr, trivial⟩ ⟨rr, rr, rr, rr, rr, rr, rr, rr, rr, trivial⟩
    refine Tr.skip ?_
    conv=>whnf
    cases h
    exact Wk.mk2 [0, 1] 3 rfl rfl (by decide) rfl ⟨daS_d rfl, rr, trivial⟩ ⟨rr, rr, rr, rr, rr, rr, rr, rr, rr, trivial⟩
   clear hv43
   conv=>whnf
   refine Tr.weak hw ?_
   refine rg ?_
   conv=>whnf
   refine arS_raw ?_
   conv=>whnf
   refine ⟨(lo_41, hi_42, (w64 (i_34 + 1))), h, ?_⟩
   exact Wk.mk2 [0, 1] 2 rfl rfl (by decide) rfl ⟨daS_d rfl, rr, trivial⟩ ⟨rr, rr, rr, rr, rr, rr, rr, rr, rr, trivial⟩
  refine Tr.exit ?_
  conv=>whnf
  cases h
  exact Wk.mk2 [] 2 rfl rfl (by decide) rfl trivial ⟨rr, rr, rr, rr, rr, trivial⟩
 clear hv60
 conv=>whnf
 refine Tr.weak hw ?_
 refine sg ?_
 conv=>whnf
 refine Tr.ret ?_
 conv=>whnf
 cases h
 rfl
theorem P187 (l_1 : List Int) (n_2 : Int) (r_3 : Bool) (h : M187 l_1 n_2 = some r_3) :
    PC prog 26 [(.ls (List.map eI l_1)), (.i .i64 n_2)] (fun rs => rs = [(.b r_3)]) := by
 refine PC.of_tr (cx := ⟨18, none, lay, 0⟩) layOK func26 rfl rfl rfl rfl rfl (by simp [f26]) ?_
 unfold M187 at h
 refine sg ?_
 conv=>whnf
 refine Tr.seq ?_
 refine sg ?_
 conv=>whnf
 refine Tr.cutQ (α := Unit) (fun s => ([(4, .d (.b false))], [])) (fun s => M186 s = some r_3) ?_ ?_
 ·refine Tr.block ?_
  refine Tr.loopM (σ := Int) (fun n s => M185 l_1 n_2 M186 n s) r_3 (fun s => ([(0, .d (.ls (List.map eI l_1))), (1, (dI n_2)), (4, .d (.b false)), (5, (dI s))], [])) (((((l_1).length : Int)) - 0 : Int).toNat + 1) (0) h (fun s => rfl) (Wk.mk2 [] 0 rfl rfl (by decide) rfl trivial ⟨rr, rr, rr, rr, trivial⟩) ?_
  clear h
  rintro n_6 i_5 h
  replace h : M185 l_1 n_2 M186 (n_6 + 1) i_5 = some r_3 := h
  rw [M185] at h
  refine Tr.seq ?_
  refine sg ?_
  conv=>whnf
  refine lnS_map ?_
  conv=>whnf
  refine Tr.cond ?_
  conv=>whnf
  refine cB h (fun hb9 h => ?_) (fun hb9 h => ?_)
  ·refine Tr.skip ?_
   conv=>whnf
   refine Tr.seq ?_
   refine Tr.block ?_
   refine sg ?_
   conv=>whnf
   obtain ⟨x_10, hx_10, h⟩ := bS h
   refine ixP_of hx_10 ?_
   conv=>whnf
   refine Tr.cond ?_
   conv=>whnf
   refine cB h (fun hb11 h => ?_) (fun hb11 h => ?_)
   ·refine sg ?_
    conv=>whnf
    refine Tr.ret ?_
    conv=>whnf
    cases h
    rfl
   refine Tr.skip ?_
   conv=>whnf
   refine rg ?_
   conv=>whnf
   refine arS_raw ?_
   conv=>whnf
   refine ⟨((w64 (i_5 + 1))), h, ?_⟩
   exact Wk.mk2 [] 0 rfl rfl (by decide) rfl trivial ⟨rr, rr, rr, rr, trivial⟩
  refine Tr.exit ?_
  conv=>whnf
  refine ⟨(), h, ?_⟩
  exact Wk.mk2 [] 0 rfl rfl (by decide) rfl trivial ⟨rr, trivial⟩
 clear h
 rintro _ h T1 H1 hw
 replace h : M186 () = some r_3 := h
 conv=>whnf
 refine Tr.weak hw ?_
 unfold M186 at h
 refine sg ?_
 conv=>whnf
 refine Tr.ret ?_
 conv=>whnf
 cases h
 rfl
end Go.Proofs.Tryz
