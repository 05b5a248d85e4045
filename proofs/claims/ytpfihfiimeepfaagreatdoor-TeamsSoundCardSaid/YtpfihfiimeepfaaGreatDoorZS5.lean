/- Contracts of functions, by program (gen.py). No condition. -/
import Derived.Test.YtpfihfiimeepfaaGreatDoorZL
import Derived.Test.YtpfihfiimeepfaaGreatDoorZM
import Derived.Test.YtpfihfiimeepfaaGreatDoorZCB
import Derived.Test.YtpfihfiimeepfaaGreatDoorZC7
import Derived.Test.YtpfihfiimeepfaaGreatDoorZS4
namespace Go.Proofs.Tryz
open Go Go.Abs Go.Stop
set_option maxRecDepth 8000
set_option linter.unusedVariables false
set_option linter.unusedSimpArgs false
theorem P108 (k_1 : TClocks) (r_2 : Bool) (h : M108 k_1 = some r_2) :
    PC prog 29 [(eTClocks k_1)] (fun rs => rs = [(.b r_2)]) := by
 refine PC.of_tr (cx := ⟨28, none, lay, 0⟩) layOK func29 rfl rfl rfl rfl rfl (by simp [f29]) ?_
 unfold M108 at h
 refine sg ?_
 conv=>whnf
 refine Tr.seq ?_
 refine sg ?_
 conv=>whnf
 refine lnS_map ?_
 conv=>whnf
 refine cB h (fun hb3 h => ?_) (fun hb3 h => ?_)
 ·conv=>whnf
  refine Tr.cond ?_
  conv=>whnf
  refine sg ?_
  conv=>whnf
  refine Tr.ret ?_
  conv=>whnf
  cases h
  rfl
 conv=>whnf
 refine lnS_map ?_
 conv=>whnf
 refine Tr.cond ?_
 conv=>whnf
 refine cB h (fun hb4 h => ?_) (fun hb4 h => ?_)
 ·refine sg ?_
  conv=>whnf
  refine Tr.ret ?_
  conv=>whnf
  cases h
  rfl
 refine Tr.skip ?_
 conv=>whnf
 refine Tr.seq ?_
 refine sg ?_
 conv=>whnf
 refine Tr.cutQ (α := Unit) (fun s => ([(2, .d (.b false))], [])) (fun s => M107 s = some r_2) ?_ ?_
 ·refine Tr.block ?_
  refine Tr.loopM (σ := Int) (fun n s => M106 k_1 M107 n s) r_2 (fun s => ([(1, .pt 0 0), (2, .d (.b false)), (3, (dI s))], [some (.var [.d (.ls (List.map eTSegment k_1.Segments)), .d (.ls (List.map (eL eI) k_1.Far))])])) (((((k_1.Far).length : Int)) - 0 : Int).toNat + 1) (0) h (fun s => rfl) (Wk.mk2 [0] 1 rfl rfl (by decide) rfl ⟨rr, trivial⟩ ⟨rr, rr, rr, trivial⟩) ?_
  clear h
  rintro n_7 i_6 h
  replace h : M106 k_1 M107 (n_7 + 1) i_6 = some r_2 := h
  rw [M106] at h
  refine Tr.seq ?_
  refine sg ?_
  conv=>whnf
  refine lnS_map ?_
  conv=>whnf
  refine Tr.cond ?_
  conv=>whnf
  refine cB h (fun hb10 h => ?_) (fun hb10 h => ?_)
  ·refine Tr.skip ?_
   conv=>whnf
   refine Tr.seq ?_
   refine Tr.block ?_
   refine sg ?_
   conv=>whnf
   obtain ⟨x_11, hx_11, h⟩ := bS h
   refine ixP_of hx_11 ?_
   conv=>whnf
   refine lnS_map ?_
   conv=>whnf
   refine Tr.cond ?_
   conv=>whnf
   refine cB h (fun hb12 h => ?_) (fun hb12 h => ?_)
   ·refine sg ?_
    conv=>whnf
    refine Tr.ret ?_
    conv=>whnf
    cases h
    rfl
   refine Tr.skip ?_
   conv=>whnf
   refine rg ?_
   conv=>whnf
   refine arS_raw ?_
   conv=>whnf
   refine ⟨((w64 (i_6 + 1))), h, ?_⟩
   exact Wk.mk2 [0] 1 rfl rfl (by decide) rfl ⟨rr, trivial⟩ ⟨rr, rr, rr, trivial⟩
  refine Tr.exit ?_
  conv=>whnf
  refine ⟨(), h, ?_⟩
  exact Wk.mk2 [] 1 rfl rfl (by decide) rfl trivial ⟨rr, trivial⟩
 clear h
 rintro _ h T1 H1 hw
 replace h : M107 () = some r_2 := h
 conv=>whnf
 refine Tr.weak hw ?_
 unfold M107 at h
 refine sg ?_
 conv=>whnf
 refine Tr.ret ?_
 conv=>whnf
 cases h
 rfl
theorem P112 (f_1 : TField) (r_2 : Bool) (h : M112 f_1 = some r_2) :
    PC prog 11 [(eTField f_1)] (fun rs => rs = [(.b r_2)]) := by
 refine PC.of_tr (cx := ⟨62, none, lay, 0⟩) layOK func11 rfl rfl rfl rfl rfl (by simp [f11]) ?_
 unfold M112 at h
 refine sg ?_
 conv=>whnf
 refine sg ?_
 conv=>whnf
 refine Tr.seq ?_
 refine sg ?_
 conv=>whnf
 refine lnS_map ?_
 conv=>whnf
 refine cB h (fun hb3 h => ?_) (fun hb3 h => ?_)
 ·conv=>whnf
  refine Tr.cond ?_
  conv=>whnf
  refine sg ?_
  conv=>whnf
  refine Tr.ret ?_
  conv=>whnf
  cases h
  rfl
 conv=>whnf
 refine lnS_map ?_
 conv=>whnf
 refine cB h (fun hb4 h => ?_) (fun hb4 h => ?_)
 ·conv=>whnf
  refine Tr.cond ?_
  conv=>whnf
  refine sg ?_
  conv=>whnf
  refine Tr.ret ?_
  conv=>whnf
  cases h
  rfl
 conv=>whnf
 obtain ⟨r_5, hc6, h⟩ := bS h
 refine PC.ecall (P108 f_1.Clocks r_5 hc6) (fun rs hrs => ?_)
 subst hrs
 conv=>whnf
 refine Tr.cond ?_
 conv=>whnf
 refine cB h (fun hb7 h => ?_) (fun hb7 h => ?_)
 ·refine sg ?_
  conv=>whnf
  refine Tr.ret ?_
  conv=>whnf
  cases h
  rfl
 refine Tr.skip ?_
 conv=>whnf
 refine Tr.seq ?_
 refine sg ?_
 conv=>whnf
 refine Tr.cutQ (α := Int) (fun s => ([(2, .d (.b false)), (3, (dI s))], [])) (fun s => M111 s = some r_2) ?_ ?_
 ·refine Tr.block ?_
  refine Tr.loopM (σ := Int × Int) (fun n s => M110 f_1 M111 n s.1 s.2) r_2 (fun s => ([(1, .pt 0 0), (2, .d (.b false)), (3, (dI s.1)), (4, (dI s.2))], [some (.var [.d (.ls (List.map eTSegment f_1.Clocks.Segments)), .d (.ls (List.map (eL eI) f_1.Clocks.Far)), .d (.ls (List.map eTPair f_1.Pairs)), .d (.ls (List.map eTRunner f_1.Runners))])])) (((((f_1.Runners).length : Int)) - 0 : Int).toNat + 1) (0, 0) h (fun s => rfl) (Wk.mk2 [0] 1 rfl rfl (by decide) rfl ⟨rr, trivial⟩ ⟨rr, rr, rr, rr, trivial⟩) ?_
  clear h
  rintro n_12 ⟨n_10, i_11⟩ h
  replace h : M110 f_1 M111 (n_12 + 1) n_10 i_11 = some r_2 := h
  rw [M110] at h
  refine Tr.seq ?_
  refine sg ?_
  conv=>whnf
  refine lnS_map ?_
  conv=>whnf
  refine Tr.cond ?_
  conv=>whnf
  refine cB h (fun hb16 h => ?_) (fun hb16 h => ?_)
  ·refine Tr.skip ?_
   conv=>whnf
   refine Tr.seq ?_
   refine Tr.block ?_
   refine sg ?_
   conv=>whnf
   obtain ⟨x_17, hx_17, h⟩ := bS h
   refine ixP_of hx_17 ?_
   conv=>whnf
   refine Tr.seq ?_
   refine sg ?_
   conv=>whnf
   refine lnS_map ?_
   conv=>whnf
   refine cB h (fun hb18 h => ?_) (fun hb18 h => ?_)
   ·conv=>whnf
    refine Tr.cond ?_
    conv=>whnf
    refine sg ?_
    conv=>whnf
    refine Tr.ret ?_
    conv=>whnf
    cases h
    rfl
   conv=>whnf
   refine lnS_map ?_
   conv=>whnf
   refine Tr.cond ?_
   conv=>whnf
   refine cB h (fun hb19 h => ?_) (fun hb19 h => ?_)
   ·refine sg ?_
    conv=>whnf
    refine Tr.ret ?_
    conv=>whnf
    cases h
    rfl
   refine Tr.skip ?_
   conv=>whnf
   refine sg ?_
   conv=>whnf
   obtain ⟨n_25, hv30, h⟩ := bS h
   refine Tr.cutQ1 ([(1, .pt 0 0), (2, .d (.b false)), (3, (dI n_25)), (4, (dI i_11))]) ([some (.var [.d (.ls (List.map eTSegment f_1.Clocks.Segments)), .d (.ls (List.map (eL eI) f_1.Clocks.Far)), .d (.ls (List.map eTPair f_1.Pairs)), .d (.ls (List.map eTRunner f_1.Runners))])]) ?_ (fun T1 H1 hw => ?_)
   ·replace h := hv30; clear hv30
    refine Tr.block ?_
    refine Tr.loopM (σ := Int × Int) (fun n s => M109 x_17 n s.1 s.2) n_25 (fun s => ([(1, .pt 0 0), (2, .d (.b false)), (3, (dI s.1)), (4, (dI i_11)), (5, .pt 1 0), (6, (dI s.2))], [some (.var [.d (.ls (List.map eTSegment f_1.Clocks.Segments)), .d (.ls (List.map (eL eI) f_1.Clocks.Far)), .d (.ls (List.map eTPair f_1.Pairs)), .d (.ls (List.map eTRunner f_1.Runners))]), some (.var [(dI x_17.Bib), .d (.ls (List.map eI x_17.Keys)), .d (.ls (List.map (eL eTOutcome) x_17.Worlds))])])) (((((x_17.Worlds).length : Int)) - 0 : Int).toNat + 1) (n_10, 0) h (fun s => rfl) (Wk.mk2 [0, 1] 2 rfl rfl (by decide) rfl ⟨rr, rr, trivial⟩ ⟨rr, rr, rr, rr, rr, rr, trivial⟩) ?_
    clear h
    rintro n_24 ⟨n_22, w_23⟩ h
    replace h : M109 x_17 (n_24 + 1) n_22 w_23 = some n_25 := h
    rw [M109] at h
    refine Tr.seq ?_
    refine sg ?_
    conv=>whnf
    refine lnS_map ?_
    conv=>whnf
    refine Tr.cond ?_
    conv=>whnf
    refine cB h (fun hb28 h => ?_) (fun hb28 h => ?_)
    ·refine Tr.skip ?_
     conv=>whnf
     refine Tr.seq ?_
     refine Tr.block ?_
     refine rg ?_
     conv=>whnf
     obtain ⟨x_29, hx_29, h⟩ := bS h
     refine ixP_of hx_29 ?_
     conv=>whnf
     refine lnS_map ?_
     conv=>whnf
     refine arS_raw ?_
     conv=>whnf
     refine rg ?_
     conv=>whnf
     refine arS_raw ?_
     conv=>whnf
     refine ⟨((w64 (n_22 + (((x_29).length : Int)))), (w64 (w_23 + 1))), h, ?_⟩
     exact Wk.mk2 [0, 1] 2 rfl rfl (by decide) rfl ⟨rr, rr, trivial⟩ ⟨rr, rr, rr, rr, rr, rr, trivial⟩
    refine Tr.exit ?_
    conv=>whnf
    cases h
    exact Wk.mk2 [0] 2 rfl rfl (by decide) rfl ⟨rr, trivial⟩ ⟨rr, rr, rr, rr, trivial⟩
   clear hv30
   conv=>whnf
   refine Tr.weak hw ?_
   refine rg ?_
   conv=>whnf
   refine arS_raw ?_
   conv=>whnf
   refine ⟨(n_25, (w64 (i_11 + 1))), h, ?_⟩
   exact Wk.mk2 [0] 1 rfl rfl (by decide) rfl ⟨rr, trivial⟩ ⟨rr, rr, rr, rr, trivial⟩
  refine Tr.exit ?_
  conv=>whnf
  refine ⟨(n_10), h, ?_⟩
  exact Wk.mk2 [] 1 rfl rfl (by decide) rfl trivial ⟨rr, rr, trivial⟩
 clear h
 rintro n_13 h T1 H1 hw
 replace h : M111 n_13 = some r_2 := h
 conv=>whnf
 refine Tr.weak hw ?_
 unfold M111 at h
 refine sg ?_
 conv=>whnf
 refine Tr.ret ?_
 conv=>whnf
 cases h
 rfl
theorem P117 (l_1 : List TTeam) (r_2 : Bool) (h : M117 l_1 = some r_2) :
    PC prog 12 [(.ls (List.map eTTeam l_1))] (fun rs => rs = [(.b r_2)]) := by
 refine PC.of_tr (cx := ⟨39, none, lay, 0⟩) layOK func12 rfl rfl rfl rfl rfl (by simp [f12]) ?_
 unfold M117 at h
 refine sg ?_
 conv=>whnf
 refine Tr.seq ?_
 refine sg ?_
 conv=>whnf
 refine lnS_map ?_
 conv=>whnf
 refine cB h (fun hb3 h => ?_) (fun hb3 h => ?_)
 ·conv=>whnf
  refine lnS_map ?_
  conv=>whnf
  refine cB h (fun hb4 h => ?_) (fun hb4 h => ?_)
  ·conv=>whnf
   refine Tr.cond ?_
   conv=>whnf
   refine sg ?_
   conv=>whnf
   refine Tr.ret ?_
   conv=>whnf
   cases h
   rfl
  conv=>whnf
  refine lnS_map ?_
  conv=>whnf
  refine Tr.cond ?_
  conv=>whnf
  refine cB h (fun hb5 h => ?_) (fun hb5 h => ?_)
  ·refine sg ?_
   conv=>whnf
   refine Tr.ret ?_
   conv=>whnf
   cases h
   rfl
  refine Tr.skip ?_
  conv=>whnf
  refine Tr.seq ?_
  refine sg ?_
  conv=>whnf
  refine Tr.cutQ (α := Unit) (fun s => ([(2, .d (.b false))], [])) (fun s => M114 s = some r_2) ?_ ?_
  ·refine Tr.block ?_
   refine Tr.loopM (σ := Int) (fun n s => M113 l_1 M114 n s) r_2 (fun s => ([(0, .d (.ls (List.map eTTeam l_1))), (2, .d (.b false)), (3, (dI s))], [])) (((((l_1).length : Int)) - 0 : Int).toNat + 1) (0) h (fun s => rfl) (Wk.mk2 [] 0 rfl rfl (by decide) rfl trivial ⟨rr, rr, rr, trivial⟩) ?_
   clear h
   rintro n_8 i_7 h
   replace h : M113 l_1 M114 (n_8 + 1) i_7 = some r_2 := h
   rw [M113] at h
   refine Tr.seq ?_
   refine sg ?_
   conv=>whnf
   refine lnS_map ?_
   conv=>whnf
   refine Tr.cond ?_
   conv=>whnf
   refine cB h (fun hb11 h => ?_) (fun hb11 h => ?_)
   ·refine Tr.skip ?_
    conv=>whnf
    refine Tr.seq ?_
    refine Tr.block ?_
    refine sg ?_
    conv=>whnf
    obtain ⟨x_12, hx_12, h⟩ := bS h
    refine ixP_of hx_12 ?_
    conv=>whnf
    refine lnS_map ?_
    conv=>whnf
    refine cB h (fun hb13 h => ?_) (fun hb13 h => ?_)
    ·conv=>whnf
     refine Tr.cond ?_
     conv=>whnf
     refine sg ?_
     conv=>whnf
     refine Tr.ret ?_
     conv=>whnf
     cases h
     rfl
    conv=>whnf
    obtain ⟨x_14, hx_14, h⟩ := bS h
    refine ixP_of hx_14 ?_
    conv=>whnf
    refine Tr.cond ?_
    conv=>whnf
    refine cB h (fun hb15 h => ?_) (fun hb15 h => ?_)
    ·refine sg ?_
     conv=>whnf
     refine Tr.ret ?_
     conv=>whnf
     cases h
     rfl
    refine Tr.skip ?_
    conv=>whnf
    refine rg ?_
    conv=>whnf
    refine arS_raw ?_
    conv=>whnf
    refine ⟨((w64 (i_7 + 1))), h, ?_⟩
    exact Wk.mk2 [] 0 rfl rfl (by decide) rfl trivial ⟨rr, rr, rr, trivial⟩
   refine Tr.exit ?_
   conv=>whnf
   refine ⟨(), h, ?_⟩
   exact Wk.mk2 [] 0 rfl rfl (by decide) rfl trivial ⟨rr, trivial⟩
  clear h
  rintro _ h T1 H1 hw
  replace h : M114 () = some r_2 := h
  conv=>whnf
  refine Tr.weak hw ?_
  unfold M114 at h
  refine sg ?_
  conv=>whnf
  refine Tr.ret ?_
  conv=>whnf
  cases h
  rfl
 conv=>whnf
 refine lnS_map ?_
 conv=>whnf
 refine Tr.cond ?_
 conv=>whnf
 refine cB h (fun hb16 h => ?_) (fun hb16 h => ?_)
 ·refine sg ?_
  conv=>whnf
  refine Tr.ret ?_
  conv=>whnf
  cases h
  rfl
 refine Tr.skip ?_
 conv=>whnf
 refine Tr.seq ?_
 refine sg ?_
 conv=>whnf
 refine Tr.cutQ (α := Unit) (fun s => ([(2, .d (.b false))], [])) (fun s => M116 s = some r_2) ?_ ?_
 ·refine Tr.block ?_
  refine Tr.loopM (σ := Int) (fun n s => M115 l_1 M116 n s) r_2 (fun s => ([(0, .d (.ls (List.map eTTeam l_1))), (2, .d (.b false)), (3, (dI s))], [])) (((((l_1).length : Int)) - 0 : Int).toNat + 1) (0) h (fun s => rfl) (Wk.mk2 [] 0 rfl rfl (by decide) rfl trivial ⟨rr, rr, rr, trivial⟩) ?_
  clear h
  rintro n_19 i_18 h
  replace h : M115 l_1 M116 (n_19 + 1) i_18 = some r_2 := h
  rw [M115] at h
  refine Tr.seq ?_
  refine sg ?_
  conv=>whnf
  refine lnS_map ?_
  conv=>whnf
  refine Tr.cond ?_
  conv=>whnf
  refine cB h (fun hb22 h => ?_) (fun hb22 h => ?_)
  ·refine Tr.skip ?_
   conv=>whnf
   refine Tr.seq ?_
   refine Tr.block ?_
   refine sg ?_
   conv=>whnf
   obtain ⟨x_23, hx_23, h⟩ := bS h
   refine ixP_of hx_23 ?_
   conv=>whnf
   refine lnS_map ?_
   conv=>whnf
   refine cB h (fun hb24 h => ?_) (fun hb24 h => ?_)
   ·conv=>whnf
    refine Tr.cond ?_
    conv=>whnf
    refine sg ?_
    conv=>whnf
    refine Tr.ret ?_
    conv=>whnf
    cases h
    rfl
   conv=>whnf
   obtain ⟨x_25, hx_25, h⟩ := bS h
   refine ixP_of hx_25 ?_
   conv=>whnf
   refine Tr.cond ?_
   conv=>whnf
   refine cB h (fun hb26 h => ?_) (fun hb26 h => ?_)
   ·refine sg ?_
    conv=>whnf
    refine Tr.ret ?_
    conv=>whnf
    cases h
    rfl
   refine Tr.skip ?_
   conv=>whnf
   refine rg ?_
   conv=>whnf
   refine arS_raw ?_
   conv=>whnf
   refine ⟨((w64 (i_18 + 1))), h, ?_⟩
   exact Wk.mk2 [] 0 rfl rfl (by decide) rfl trivial ⟨rr, rr, rr, trivial⟩
  refine Tr.exit ?_
  conv=>whnf
  refine ⟨(), h, ?_⟩
  exact Wk.mk2 [] 0 rfl rfl (by decide) rfl trivial ⟨rr, trivial⟩
 clear h
 rintro _ h T1 H1 hw
 replace h : M116 () = some r_2 := h
 conv=>whnf
 refine Tr.weak hw ?_
 unfold M116 at h
 refine sg ?_
 conv=>whnf
 refine Tr.ret ?_
 conv=>whnf
 cases h
 rfl
theorem P140 (r_1 : TRunner) (c_2 : Int) (r_3 : Bool) (h : M140 r_1 c_2 = some r_3) :
    PC prog 86 [(eTRunner r_1), (.ro [(.i .i64 c_2)])] (fun rs => rs = [(.b r_3)]) := by
 refine PC.of_tr (cx := ⟨11, none, lay, 0⟩) layOK func86 rfl rfl rfl rfl rfl (by simp [f86]) ?_
 unfold M140 at h
 refine sg ?_
 conv=>whnf
 refine sg ?_
 conv=>whnf
 obtain ⟨x_4, hx_4, h⟩ := bS h
 refine ixP_of hx_4 ?_
 conv=>whnf
 refine lnS_map ?_
 conv=>whnf
 refine Tr.ret ?_
 conv=>whnf
 cases h
 rfl
theorem P143 (s_1 : List TRunner) (c_2 : Int) (r_3 : Int) (h : M143 s_1 c_2 = some r_3) :
    PC prog 60 [(.ls (List.map eTRunner s_1)), (.fn 86 [(.ro [(.i .i64 c_2)])])] (fun rs => rs = [(.i .i64 r_3)]) := by
 refine PC.of_tr (cx := ⟨19, none, lay, 0⟩) layOK func60 rfl rfl rfl rfl rfl (by simp [f60]) ?_
 unfold M143 at h
 refine sg ?_
 conv=>whnf
 refine Tr.seq ?_
 refine sg ?_
 conv=>whnf
 refine lnS_map ?_
 conv=>whnf
 refine Tr.cutQ (α := Unit) (fun s => ([(4, (dI 0))], [])) (fun s => M142 s = some r_3) ?_ ?_
 ·refine Tr.block ?_
  refine Tr.loopM (σ := Int) (fun n s => M141 s_1 c_2 M142 n s) r_3 (fun s => ([(0, .d (.ls (List.map eTRunner s_1))), (1, .d (.fn 86 [(.ro [(.i .i64 c_2)])])), (4, (dI 0)), (7, (dI (((s_1).length : Int)))), (8, (dI s))], [])) (((((s_1).length : Int)) - 0 : Int).toNat + 1) (0) h (fun s => rfl) (Wk.mk2 [] 0 rfl rfl (by decide) rfl trivial ⟨rr, rr, rr, rr, rr, trivial⟩) ?_
  clear h
  rintro n_6 v_5 h
  replace h : M141 s_1 c_2 M142 (n_6 + 1) v_5 = some r_3 := h
  rw [M141] at h
  refine sg ?_
  conv=>whnf
  refine Tr.seq ?_
  refine Tr.cond ?_
  conv=>whnf
  refine cB h (fun hb9 h => ?_) (fun hb9 h => ?_)
  ·refine Tr.skip ?_
   conv=>whnf
   refine Tr.seq ?_
   refine Tr.block ?_
   refine sg ?_
   conv=>whnf
   refine sg ?_
   conv=>whnf
   obtain ⟨x_10, hx_10, h⟩ := bS h
   refine ixP_of hx_10 ?_
   conv=>whnf
   obtain ⟨r_11, hc12, h⟩ := bS h
   refine PC.ecall (P140 x_10 c_2 r_11 hc12) (fun rs hrs => ?_)
   subst hrs
   conv=>whnf
   refine Tr.cond ?_
   conv=>whnf
   refine cB h (fun hb13 h => ?_) (fun hb13 h => ?_)
   ·refine sg ?_
    conv=>whnf
    refine Tr.ret ?_
    conv=>whnf
    cases h
    rfl
   refine Tr.skip ?_
   conv=>whnf
   refine rg ?_
   conv=>whnf
   refine arS_raw ?_
   conv=>whnf
   refine ⟨((w64 (v_5 + 1))), h, ?_⟩
   exact Wk.mk2 [] 0 rfl rfl (by decide) rfl trivial ⟨rr, rr, rr, rr, rr, trivial⟩
  refine Tr.exit ?_
  conv=>whnf
  refine ⟨(), h, ?_⟩
  exact Wk.mk2 [] 0 rfl rfl (by decide) rfl trivial ⟨rr, trivial⟩
 clear h
 rintro _ h T1 H1 hw
 replace h : M142 () = some r_3 := h
 conv=>whnf
 refine Tr.weak hw ?_
 unfold M142 at h
 refine sg ?_
 conv=>whnf
 refine Tr.ret ?_
 conv=>whnf
 cases h
 rfl
theorem P144 (s_1 : List TRunner) (c_2 : Int) (r_3 : Bool) (h : M144 s_1 c_2 = some r_3) :
    PC prog 68 [(.ls (List.map eTRunner s_1)), (.fn 86 [(.ro [(.i .i64 c_2)])])] (fun rs => rs = [(.b r_3)]) := by
 refine PC.of_tr (cx := ⟨9, none, lay, 0⟩) layOK func68 rfl rfl rfl rfl rfl (by simp [f68]) ?_
 unfold M144 at h
 refine sg ?_
 conv=>whnf
 refine sg ?_
 conv=>whnf
 obtain ⟨r_4, hc5, h⟩ := bS h
 refine PC.ecall (P143 s_1 c_2 r_4 hc5) (fun rs hrs => ?_)
 subst hrs
 conv=>whnf
 refine Tr.ret ?_
 conv=>whnf
 cases h
 rfl
theorem P145 (f_1 : TField) (world_2 : Int) (r_3 : Bool) (h : M145 f_1 world_2 = some r_3) :
    PC prog 56 [(eTField f_1), (.i .i64 world_2)] (fun rs => rs = [(.b r_3)]) := by
 refine PC.of_tr (cx := ⟨10, none, lay, 0⟩) layOK func56 rfl rfl rfl rfl rfl (by simp [f56]) ?_
 unfold M145 at h
 refine sg ?_
 conv=>whnf
 refine sg ?_
 conv=>whnf
 obtain ⟨r_4, hc5, h⟩ := bS h
 refine PC.ecall_lend ?_ ⟨_, _, func68, rfl, rfl⟩
 conv=>whnf
 refine ⟨_, P144 f_1.Runners world_2 r_4 hc5, fun rs hrs => ?_⟩
 subst hrs
 refine ⟨rfl, ?_⟩
 conv=>whnf
 refine Tr.ret ?_
 conv=>whnf
 cases h
 rfl
theorem P146 (n_1 : Int) (r_2 : Bool) (h : M146 n_1 = some r_2) :
    PC prog 88 [(.i .i64 n_1)] (fun rs => rs = [(.b r_2)]) := by
 refine PC.of_tr (cx := ⟨9, none, lay, 0⟩) layOK func88 rfl rfl rfl rfl rfl (by simp [f88]) ?_
 unfold M146 at h
 refine sg ?_
 conv=>whnf
 refine sg ?_
 conv=>whnf
 refine cB h (fun hb3 h => ?_) (fun hb3 h => ?_)
 ·conv=>whnf
  refine Tr.ret ?_
  conv=>whnf
  cases h
  rfl
 conv=>whnf
 refine Tr.ret ?_
 conv=>whnf
 cases h
 rfl
theorem P149 (s_1 : List Int) (r_2 : Int) (h : M149 s_1 = some r_2) :
    PC prog 116 [(.ls (List.map eI s_1)), (.fn 88 [])] (fun rs => rs = [(.i .i64 r_2)]) := by
 refine PC.of_tr (cx := ⟨19, none, lay, 0⟩) layOK func116 rfl rfl rfl rfl rfl (by simp [f116]) ?_
 unfold M149 at h
 refine sg ?_
 conv=>whnf
 refine Tr.seq ?_
 refine sg ?_
 conv=>whnf
 refine lnS_map ?_
 conv=>whnf
 refine Tr.cutQ (α := Unit) (fun s => ([(4, (dI 0))], [])) (fun s => M148 s = some r_2) ?_ ?_
 ·refine Tr.block ?_
  refine Tr.loopM (σ := Int) (fun n s => M147 s_1 M148 n s) r_2 (fun s => ([(0, .d (.ls (List.map eI s_1))), (1, .d (.fn 88 [])), (4, (dI 0)), (7, (dI (((s_1).length : Int)))), (8, (dI s))], [])) (((((s_1).length : Int)) - 0 : Int).toNat + 1) (0) h (fun s => rfl) (Wk.mk2 [] 0 rfl rfl (by decide) rfl trivial ⟨rr, rr, rr, rr, rr, trivial⟩) ?_
  clear h
  rintro n_5 v_4 h
  replace h : M147 s_1 M148 (n_5 + 1) v_4 = some r_2 := h
  rw [M147] at h
  refine sg ?_
  conv=>whnf
  refine Tr.seq ?_
  refine Tr.cond ?_
  conv=>whnf
  refine cB h (fun hb8 h => ?_) (fun hb8 h => ?_)
  ·refine Tr.skip ?_
   conv=>whnf
   refine Tr.seq ?_
   refine Tr.block ?_
   refine sg ?_
   conv=>whnf
   refine sg ?_
   conv=>whnf
   obtain ⟨x_9, hx_9, h⟩ := bS h
   refine ixP_of hx_9 ?_
   conv=>whnf
   obtain ⟨r_10, hc11, h⟩ := bS h
   refine PC.ecall (P146 x_9 r_10 hc11) (fun rs hrs => ?_)
   subst hrs
   conv=>whnf
   refine Tr.cond ?_
   conv=>whnf
   refine cB h (fun hb12 h => ?_) (fun hb12 h => ?_)
   ·refine sg ?_
    conv=>whnf
    refine Tr.ret ?_
    conv=>whnf
    cases h
    rfl
   refine Tr.skip ?_
   conv=>whnf
   refine rg ?_
   conv=>whnf
   refine arS_raw ?_
   conv=>whnf
   refine ⟨((w64 (v_4 + 1))), h, ?_⟩
   exact Wk.mk2 [] 0 rfl rfl (by decide) rfl trivial ⟨rr, rr, rr, rr, rr, trivial⟩
  refine Tr.exit ?_
  conv=>whnf
  refine ⟨(), h, ?_⟩
  exact Wk.mk2 [] 0 rfl rfl (by decide) rfl trivial ⟨rr, trivial⟩
 clear h
 rintro _ h T1 H1 hw
 replace h : M148 () = some r_2 := h
 conv=>whnf
 refine Tr.weak hw ?_
 unfold M148 at h
 refine sg ?_
 conv=>whnf
 refine Tr.ret ?_
 conv=>whnf
 cases h
 rfl
theorem P150 (s_1 : List Int) (r_2 : Bool) (h : M150 s_1 = some r_2) :
    PC prog 87 [(.ls (List.map eI s_1)), (.fn 88 [])] (fun rs => rs = [(.b r_2)]) := by
 refine PC.of_tr (cx := ⟨9, none, lay, 0⟩) layOK func87 rfl rfl rfl rfl rfl (by simp [f87]) ?_
 unfold M150 at h
 refine sg ?_
 conv=>whnf
 refine sg ?_
 conv=>whnf
 obtain ⟨r_3, hc4, h⟩ := bS h
 refine PC.ecall (P149 s_1 r_3 hc4) (fun rs hrs => ?_)
 subst hrs
 conv=>whnf
 refine Tr.ret ?_
 conv=>whnf
 cases h
 rfl
theorem P155 (k_1 : TClocks) (offsets_2 : List Int) (r_3 : Bool) (h : M155 k_1 offsets_2 = some r_3) :
    PC prog 57 [(eTClocks k_1), (.ls (List.map eI offsets_2))] (fun rs => rs = [(.b r_3)]) := by
 refine PC.of_tr (cx := ⟨43, none, lay, 0⟩) layOK func57 rfl rfl rfl rfl rfl (by simp [f57]) ?_
 unfold M155 at h
 refine sg ?_
 conv=>whnf
 refine sg ?_
 conv=>whnf
 refine orB_l ?_
 conv=>whnf
 refine frP_no ?_
 conv=>whnf
 refine eqS_mk (by first | rfl | simp) ?_
 conv=>whnf
 obtain ⟨l_4, hl_4, h⟩ := bS h
 refine apS_of hl_4 (aQ (f := eI) (l := offsets_2) fun _ => rfl) (by first | rfl | simp) (by first | rfl | simp) (fun he => ?_)
 conv=>whnf
 refine rS (es' := List.map .d (List.map eI l_4)) (n' := List.length l_4) (by subst he; simp only [List.map_append, List.map_cons, List.map_nil, List.nil_append]; first | done | rfl) (by subst he; simp <;> omega) ?_
 clear he
 conv=>whnf
 refine Tr.seq ?_
 refine sg ?_
 conv=>whnf
 obtain ⟨r_5, hc6, h⟩ := bS h
 refine PC.ecall_lend ?_ ⟨_, _, func87, rfl, rfl⟩
 conv=>whnf
 refine frE_of (f := eI) (l := l_4) rfl ?_
 conv=>whnf
 refine ⟨_, P150 l_4 r_5 hc6, fun rs hrs => ?_⟩
 subst hrs
 refine ⟨rfl, ?_⟩
 conv=>whnf
 refine Tr.cond ?_
 conv=>whnf
 refine cB h (fun hb7 h => ?_) (fun hb7 h => ?_)
 ·refine sg ?_
  conv=>whnf
  refine Tr.ret ?_
  conv=>whnf
  cases h
  rfl
 refine Tr.skip ?_
 conv=>whnf
 refine Tr.seq ?_
 refine sg ?_
 conv=>whnf
 refine lnS_map ?_
 conv=>whnf
 refine Tr.cutQ (α := Unit) (fun s => ([(4, .d (.b false))], [])) (fun s => M154 s = some r_3) ?_ ?_
 ·refine Tr.block ?_
  refine Tr.loopM (σ := Int) (fun n s => M153 k_1 l_4 M154 n s) r_3 (fun s => ([(4, .d (.b false)), (5, .sl 0 1 0 (List.length l_4)), (16, .d (.ls (List.map (eL eI) k_1.Far))), (17, (dI (((k_1.Far).length : Int)))), (18, (dI s))], [some (.arr 1 (List.map .d (List.map eI l_4)))])) (((((k_1.Far).length : Int)) - 0 : Int).toNat + 1) (0) h (fun s => rfl) (Wk.mk2 [2] 3 rfl rfl (by decide) rfl ⟨daS_d rfl, trivial⟩ ⟨rr, ⟨rfl, (by first | rfl | (simp only [↓hb7, bl]; done) | (simp only [↓hb7, bl]; rfl))⟩, rr, rr, rr, trivial⟩) ?_
  clear h
  rintro n_10 v_9 h
  replace h : M153 k_1 l_4 M154 (n_10 + 1) v_9 = some r_3 := h
  rw [M153] at h
  refine sg ?_
  conv=>whnf
  refine Tr.seq ?_
  refine Tr.cond ?_
  conv=>whnf
  refine cB h (fun hb13 h => ?_) (fun hb13 h => ?_)
  ·refine Tr.skip ?_
   conv=>whnf
   refine Tr.seq ?_
   refine Tr.block ?_
   refine sg ?_
   conv=>whnf
   obtain ⟨x_14, hx_14, h⟩ := bS h
   refine ixP_of hx_14 ?_
   conv=>whnf
   refine sg ?_
   conv=>whnf
   refine lnS_map ?_
   conv=>whnf
   refine Tr.cutQ (α := Unit) (fun s => ([(4, .d (.b false)), (5, .sl 0 1 0 (List.length l_4)), (16, .d (.ls (List.map (eL eI) k_1.Far))), (17, (dI (((k_1.Far).length : Int)))), (18, (dI v_9))], [some (.arr 1 (List.map .d (List.map eI l_4)))])) (fun s => M152 v_9 (M153 k_1 l_4 M154 n_10) s = some r_3) ?_ ?_
   ·refine Tr.block ?_
    refine Tr.loopM (σ := Int) (fun n s => M151 l_4 v_9 x_14 (M152 v_9 (M153 k_1 l_4 M154 n_10)) n s) r_3 (fun s => ([(4, .d (.b false)), (5, .sl 0 1 0 (List.length l_4)), (6, (dI v_9)), (16, .d (.ls (List.map (eL eI) k_1.Far))), (17, (dI (((k_1.Far).length : Int)))), (18, (dI v_9)), (23, .d (.ls (List.map eI x_14))), (24, (dI (((x_14).length : Int)))), (25, (dI s))], [some (.arr 1 (List.map .d (List.map eI l_4)))])) (((((x_14).length : Int)) - 0 : Int).toNat + 1) (0) h (fun s => rfl) (Wk.mk2 [0] 1 rfl rfl (by decide) rfl ⟨daS_d rfl, trivial⟩ ⟨rr, rr, rr, rr, rr, rr, rr, rr, rr, trivial⟩) ?_
    clear h
    rintro n_17 v_16 h
    replace h : M151 l_4 v_9 x_14 (M152 v_9 (M153 k_1 l_4 M154 n_10)) (n_17 + 1) v_16 = some r_3 := h
    rw [M151] at h
    refine sg ?_
    conv=>whnf
    refine Tr.seq ?_
    refine Tr.cond ?_
    conv=>whnf
    refine cB h (fun hb20 h => ?_) (fun hb20 h => ?_)
    ·refine Tr.skip ?_
     conv=>whnf
     refine Tr.seq ?_
     refine Tr.block ?_
     refine sg ?_
     conv=>whnf
     obtain ⟨x_21, hx_21, h⟩ := bS h
     refine ixP_of hx_21 ?_
     conv=>whnf
     refine sd [] [(0,1),(1,1),(2,3),(3,3),(4,1),(5,1),(6,3),(7,3),(8,1),(9,1),(10,1)] ?_
     conv=>whnf
     refine q1 ?_
     conv=>whnf
     refine q1 ?_
     conv=>whnf
     obtain ⟨x_22, hx_22, h⟩ := bS h
     refine q3 (ixS_of hx_22 rfl rr) ?_
     conv=>whnf
     refine q3 (elP_of hx_22 rr) ?_
     conv=>whnf
     refine q1 ?_
     conv=>whnf
     refine q1 ?_
     conv=>whnf
     obtain ⟨x_23, hx_23, h⟩ := bS h
     refine q3 (ixS_of hx_23 rfl rr) ?_
     conv=>whnf
     refine q3 (elP_of hx_23 rr) ?_
     conv=>whnf
     refine q4 ?_
     conv=>whnf
     refine q1 ?_
     conv=>whnf
     refine q1 ?_
     conv=>whnf
     refine Tr.cond ?_
     conv=>whnf
     refine cB h (fun hb24 h => ?_) (fun hb24 h => ?_)
     ·refine sg ?_
      conv=>whnf
      refine Tr.ret ?_
      conv=>whnf
      cases h
      rfl
     refine Tr.skip ?_
     conv=>whnf
     refine rg ?_
     conv=>whnf
     refine arS_raw ?_
     conv=>whnf
     refine ⟨((w64 (v_16 + 1))), h, ?_⟩
     exact Wk.mk2 [0] 1 rfl rfl (by decide) rfl ⟨daS_d rfl, trivial⟩ ⟨rr, rr, rr, rr, rr, rr, rr, rr, rr, trivial⟩
    refine Tr.exit ?_
    conv=>whnf
    refine ⟨(), h, ?_⟩
    exact Wk.mk2 [0] 1 rfl rfl (by decide) rfl ⟨daS_d rfl, trivial⟩ ⟨rr, rr, rr, rr, rr, trivial⟩
   clear h
   rintro _ h T1 H1 hw
   replace h : M152 v_9 (M153 k_1 l_4 M154 n_10) () = some r_3 := h
   conv=>whnf
   refine Tr.weak hw ?_
   unfold M152 at h
   refine rg ?_
   conv=>whnf
   refine arS_raw ?_
   conv=>whnf
   refine ⟨((w64 (v_9 + 1))), h, ?_⟩
   exact Wk.mk2 [0] 1 rfl rfl (by decide) rfl ⟨daS_d rfl, trivial⟩ ⟨rr, rr, rr, rr, rr, trivial⟩
  refine Tr.exit ?_
  conv=>whnf
  refine ⟨(), h, ?_⟩
  exact Wk.mk2 [] 1 rfl rfl (by decide) rfl trivial ⟨rr, trivial⟩
 clear h
 rintro _ h T1 H1 hw
 replace h : M154 () = some r_3 := h
 conv=>whnf
 refine Tr.weak hw ?_
 unfold M154 at h
 refine sg ?_
 conv=>whnf
 refine Tr.ret ?_
 conv=>whnf
 cases h
 rfl
theorem P156 (v_1 : Thistory_view) (runner_2 : Int) (r_3 : List TOutcome) (h : M156 v_1 runner_2 = some r_3) :
    PC prog 58 [(eThistory_view v_1), (.i .i64 runner_2)] (fun rs => rs = [(.ls (List.map eTOutcome r_3))]) := by
 refine PC.of_tr (cx := ⟨17, none, lay, 0⟩) layOK func58 rfl rfl rfl rfl rfl (by simp [f58]) ?_
 unfold M156 at h
 refine sg ?_
 conv=>whnf
 refine sd [] [(0,3),(1,3),(2,3),(3,1),(4,2),(5,2),(6,2),(7,3),(8,3),(9,3),(10,2),(11,2),(12,1)] ?_
 conv=>whnf
 refine q2 ?_
 conv=>whnf
 refine q2 ?_
 conv=>whnf
 refine q2 ?_
 conv=>whnf
 refine q1 ?_
 conv=>whnf
 obtain ⟨x_4, hx_4, h⟩ := bS h
 refine q3 (ixP_of hx_4 rr) ?_
 conv=>whnf
 refine q2 ?_
 conv=>whnf
 refine q2 ?_
 conv=>whnf
 refine q2 ?_
 conv=>whnf
 refine q2 ?_
 conv=>whnf
 refine q2 ?_
 conv=>whnf
 obtain ⟨x_5, hx_5, h⟩ := bS h
 refine q3 (ixP_of hx_5 rr) ?_
 conv=>whnf
 refine q2 ?_
 conv=>whnf
 refine q1 ?_
 conv=>whnf
 refine Tr.ret ?_
 conv=>whnf
 cases h
 rfl
end Go.Proofs.Tryz
