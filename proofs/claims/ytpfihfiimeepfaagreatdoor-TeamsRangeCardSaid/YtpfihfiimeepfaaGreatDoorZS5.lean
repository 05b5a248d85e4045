/- Contracts of functions, by program (gen.py). No condition. -/
import Derived.Test.YtpfihfiimeepfaaGreatDoorZL
import Derived.Test.YtpfihfiimeepfaaGreatDoorZM
import Derived.Test.YtpfihfiimeepfaaGreatDoorZCB
import Derived.Test.YtpfihfiimeepfaaGreatDoorZC7
import Derived.Test.YtpfihfiimeepfaaGreatDoorZS4
namespace Go.Proofs.Tryz
open Go Go.Abs Go.Stop
set_option maxRecDepth 8000
set_option linter.unusedVariables false
set_option linter.unusedSimpArgs false
theorem P108 (k_1 : TClocks) (r_2 : Bool) (h : M108 k_1 = some r_2) :
    PC prog 29 [(eTClocks k_1)] (fun rs => rs = [(.b r_2)]) := by
 refine PC.of_tr (cx := ⟨28, none, lay, 0⟩) layOK func29 rfl rfl rfl rfl rfl (by simp [f29]) ?_
 unfold M108 at h
 refine sg ?_
 conv=>whnf
 refine Tr.seq ?_
 refine sg ?_
 conv=>whnf
 refine lnS_map ?_
 conv=>whnf
 refine cB h (fun hb3 h => ?_) (fun hb3 h => ?_)
 ·conv=>whnf
  refine Tr.cond ?_
  conv=>whnf
  refine sg ?_
  conv=>whnf
  refine Tr.ret ?_
  conv=>whnf
  cases h
  rfl
 conv=>whnf
 refine lnS_map ?_
 conv=>whnf
 refine Tr.cond ?_
 conv=>whnf
 refine cB h (fun hb4 h => ?_) (fun hb4 h => ?_)
 ·refine sg ?_
  conv=>whnf
  refine Tr.ret ?_
  conv=>whnf
  cases h
  rfl
 refine Tr.skip ?_
 conv=>whnf
 refine Tr.seq ?_
 refine sg ?_
 conv=>whnf
 refine Tr.cutQ (α := Unit) (fun s => ([(2, .d (.b false))], [])) (fun s => M107 s = some r_2) ?_ ?_
 ·refine Tr.block ?_
  refine Tr.loopM (σ := Int) (fun n s => M106 k_1 M107 n s) r_2 (fun s => ([(1, .pt 0 0), (2, .d (.b false)), (3, (dI s))], [some (.var [.d (.ls (List.map eTSegment k_1.Segments)), .d (.ls (List.map (eL eI) k_1.Far))])])) (((((k_1.Far).length : Int)) - 0 : Int).toNat + 1) (0) h (fun s => rfl) (Wk.mk2 [0] 1 rfl rfl (by decide) rfl ⟨rr, trivial⟩ ⟨rr, rr, rr, trivial⟩) ?_
  clear h
  rintro n_7 i_6 h
  replace h : M106 k_1 M107 (n_7 + 1) i_6 = some r_2 := h
  rw [M106] at h
  refine Tr.seq ?_
  refine sg ?_
  conv=>whnf
  refine lnS_map ?_
  conv=>whnf
  refine Tr.cond ?_
  conv=>whnf
  refine cB h (fun hb10 h => ?_) (fun hb10 h => ?_)
  ·refine Tr.skip ?_
   conv=>whnf
   refine Tr.seq ?_
   refine Tr.block ?_
   refine sg ?_
   conv=>whnf
   obtain ⟨x_11, hx_11, h⟩ := bS h
   refine ixP_of hx_11 ?_
   conv=>whnf
   refine lnS_map ?_
   conv=>whnf
   refine Tr.cond ?_
   conv=>whnf
   refine cB h (fun hb12 h => ?_) (fun hb12 h => ?_)
   ·refine sg ?_
    conv=>whnf
    refine Tr.ret ?_
    conv=>whnf
    cases h
    rfl
   refine Tr.skip ?_
   conv=>whnf
   refine rg ?_
   conv=>whnf
   refine arS_raw ?_
   conv=>whnf
   refine ⟨((w64 (i_6 + 1))), h, ?_⟩
   exact Wk.mk2 [0] 1 rfl rfl (by decide) rfl ⟨rr, trivial⟩ ⟨rr, rr, rr, trivial⟩
  refine Tr.exit ?_
  conv=>whnf
  refine ⟨(), h, ?_⟩
  exact Wk.mk2 [] 1 rfl rfl (by decide) rfl trivial ⟨rr, trivial⟩
 clear h
 rintro _ h T1 H1 hw
 replace h : M107 () = some r_2 := h
 conv=>whnf
 refine Tr.weak hw ?_
 unfold M107 at h
 refine sg ?_
 conv=>whnf
 refine Tr.ret ?_
 conv=>whnf
 cases h
 rfl
theorem P112 (f_1 : TField) (r_2 : Bool) (h : M112 f_1 = some r_2) :
    PC prog 11 [(eTField f_1)] (fun rs => rs = [(.b r_2)]) := by
 refine PC.of_tr (cx := ⟨62, none, lay, 0⟩) layOK func11 rfl rfl rfl rfl rfl (by simp [f11]) ?_
 unfold M112 at h
 refine sg ?_
 conv=>whnf
 refine sg ?_
 conv=>whnf
 refine Tr.seq ?_
 refine sg ?_
 conv=>whnf
 refine lnS_map ?_
 conv=>whnf
 refine cB h (fun hb3 h => ?_) (fun hb3 h => ?_)
 ·conv=>whnf
  refine Tr.cond ?_
  conv=>whnf
  refine sg ?_
  conv=>whnf
  refine Tr.ret ?_
  conv=>whnf
  cases h
  rfl
 conv=>whnf
 refine lnS_map ?_
 conv=>whnf
 refine cB h (fun hb4 h => ?_) (fun hb4 h => ?_)
 ·conv=>whnf
  refine Tr.cond ?_
  conv=>whnf
  refine sg ?_
  conv=>whnf
  refine Tr.ret ?_
  conv=>whnf
  cases h
  rfl
 conv=>whnf
 obtain ⟨r_5, hc6, h⟩ := bS h
 refine PC.ecall (P108 f_1.Clocks r_5 hc6) (fun rs hrs => ?_)
 subst hrs
 conv=>whnf
 refine Tr.cond ?_
 conv=>whnf
 refine cB h (fun hb7 h => ?_) (fun hb7 h => ?_)
 ·refine sg ?_
  conv=>whnf
  refine Tr.ret ?_
  conv=>whnf
  cases h
  rfl
 refine Tr.skip ?_
 conv=>whnf
 refine Tr.seq ?_
 refine sg ?_
 conv=>whnf
 refine Tr.cutQ (α := Int) (fun s => ([(2, .d (.b false)), (3, (dI s))], [])) (fun s => M111 s = some r_2) ?_ ?_
 ·refine Tr.block ?_
  refine Tr.loopM (σ := Int × Int) (fun n s => M110 f_1 M111 n s.1 s.2) r_2 (fun s => ([(1, .pt 0 0), (2, .d (.b false)), (3, (dI s.1)), (4, (dI s.2))], [some (.var [.d (.ls (List.map eTSegment f_1.Clocks.Segments)), .d (.ls (List.map (eL eI) f_1.Clocks.Far)), .d (.ls (List.map eTPair f_1.Pairs)), .d (.ls (List.map eTRunner f_1.Runners))])])) (((((f_1.Runners).length : Int)) - 0 : Int).toNat + 1) (0, 0) h (fun s => rfl) (Wk.mk2 [0] 1 rfl rfl (by decide) rfl ⟨rr, trivial⟩ ⟨rr, rr, rr, rr, trivial⟩) ?_
  clear h
  rintro n_12 ⟨n_10, i_11⟩ h
  replace h : M110 f_1 M111 (n_12 + 1) n_10 i_11 = some r_2 := h
  rw [M110] at h
  refine Tr.seq ?_
  refine sg ?_
  conv=>whnf
  refine lnS_map ?_
  conv=>whnf
  refine Tr.cond ?_
  conv=>whnf
  refine cB h (fun hb16 h => ?_) (fun hb16 h => ?_)
  ·refine Tr.skip ?_
   conv=>whnf
   refine Tr.seq ?_
   refine Tr.block ?_
   refine sg ?_
   conv=>whnf
   obtain ⟨x_17, hx_17, h⟩ := bS h
   refine ixP_of hx_17 ?_
   conv=>whnf
   refine Tr.seq ?_
   refine sg ?_
   conv=>whnf
   refine lnS_map ?_
   conv=>whnf
   refine cB h (fun hb18 h => ?_) (fun hb18 h => ?_)
   ·conv=>whnf
    refine Tr.cond ?_
    conv=>whnf
    refine sg ?_
    conv=>whnf
    refine Tr.ret ?_
    conv=>whnf
    cases h
    rfl
   conv=>whnf
   refine lnS_map ?_
   conv=>whnf
   refine Tr.cond ?_
   conv=>whnf
   refine cB h (fun hb19 h => ?_) (fun hb19 h => ?_)
   ·refine sg ?_
    conv=>whnf
    refine Tr.ret ?_
    conv=>whnf
    cases h
    rfl
   refine Tr.skip ?_
   conv=>whnf
   refine sg ?_
   conv=>whnf
   obtain ⟨n_25, hv30, h⟩ := bS h
   refine Tr.cutQ1 ([(1, .pt 0 0), (2, .d (.b false)), (3, (dI n_25)), (4, (dI i_11))]) ([some (.var [.d (.ls (List.map eTSegment f_1.Clocks.Segments)), .d (.ls (List.map (eL eI) f_1.Clocks.Far)), .d (.ls (List.map eTPair f_1.Pairs)), .d (.ls (List.map eTRunner f_1.Runners))])]) ?_ (fun T1 H1 hw => ?_)
   ·replace h := hv30; clear hv30
    refine Tr.block ?_
    refine Tr.loopM (σ := Int × Int) (fun n s => M109 x_17 n s.1 s.2) n_25 (fun s => ([(1, .pt 0 0), (2, .d (.b false)), (3, (dI s.1)), (4, (dI i_11)), (5, .pt 1 0), (6, (dI s.2))], [some (.var [.d (.ls (List.map eTSegment f_1.Clocks.Segments)), .d (.ls (List.map (eL eI) f_1.Clocks.Far)), .d (.ls (List.map eTPair f_1.Pairs)), .d (.ls (List.map eTRunner f_1.Runners))]), some (.var [(dI x_17.Bib), .d (.ls (List.map eI x_17.Keys)), .d (.ls (List.map (eL eTOutcome) x_17.Worlds))])])) (((((x_17.Worlds).length : Int)) - 0 : Int).toNat + 1) (n_10, 0) h (fun s => rfl) (Wk.mk2 [0, 1] 2 rfl rfl (by decide) rfl ⟨rr, rr, trivial⟩ ⟨rr, rr, rr, rr, rr, rr, trivial⟩) ?_
    clear h
    rintro n_24 ⟨n_22, w_23⟩ h
    replace h : M109 x_17 (n_24 + 1) n_22 w_23 = some n_25 := h
    rw [M109] at h
    refine Tr.seq ?_
    refine sg ?_
    conv=>whnf
    refine lnS_map ?_
    conv=>whnf
    refine Tr.cond ?_
    conv=>whnf
    refine cB h (fun hb28 h => ?_) (fun hb28 h => ?_)
    ·refine Tr.skip ?_
     conv=>whnf
     refine Tr.seq ?_
     refine Tr.block ?_
     refine rg ?_
     conv=>whnf
     obtain ⟨x_29, hx_29, h⟩ := bS h
     refine ixP_of hx_29 ?_
     conv=>whnf
     refine lnS_map ?_
     conv=>whnf
     refine arS_raw ?_
     conv=>whnf
     refine rg ?_
     conv=>whnf
     refine arS_raw ?_
     conv=>whnf
     refine ⟨((w64 (n_22 + (((x_29).length : Int)))), (w64 (w_23 + 1))), h, ?_⟩
     exact Wk.mk2 [0, 1] 2 rfl rfl (by decide) rfl ⟨rr, rr, trivial⟩ ⟨rr, rr, rr, rr, rr, rr, trivial⟩
    refine Tr.exit ?_
    conv=>whnf
    cases h
    exact Wk.mk2 [0] 2 rfl rfl (by decide) rfl ⟨rr, trivial⟩ ⟨rr, rr, rr, rr, trivial⟩
   clear hv30
   conv=>whnf
   refine Tr.weak hw ?_
   refine rg ?_
   conv=>whnf
   refine arS_raw ?_
   conv=>whnf
   refine ⟨(n_25, (w64 (i_11 + 1))), h, ?_⟩
   exact Wk.mk2 [0] 1 rfl rfl (by decide) rfl ⟨rr, trivial⟩ ⟨rr, rr, rr, rr, trivial⟩
  refine Tr.exit ?_
  conv=>whnf
  refine ⟨(n_10), h, ?_⟩
  exact Wk.mk2 [] 1 rfl rfl (by decide) rfl trivial ⟨rr, rr, trivial⟩
 clear h
 rintro n_13 h T1 H1 hw
 replace h : M111 n_13 = some r_2 := h
 conv=>whnf
 refine Tr.weak hw ?_
 unfold M111 at h
 refine sg ?_
 conv=>whnf
 refine Tr.ret ?_
 conv=>whnf
 cases h
 rfl
theorem P117 (l_1 : List TTeam) (r_2 : Bool) (h : M117 l_1 = some r_2) :
    PC prog 12 [(.ls (List.map eTTeam l_1))] (fun rs => rs = [(.b r_2)]) := by
 refine PC.of_tr (cx := ⟨39, none, lay, 0⟩) layOK func12 rfl rfl rfl rfl rfl (by simp [f12]) ?_
 unfold M117 at h
 refine sg ?_
 conv=>whnf
 refine Tr.seq ?_
 refine sg ?_
 conv=>whnf
 refine lnS_map ?_
 conv=>whnf
 refine cB h (fun hb3 h => ?_) (fun hb3 h => ?_)
 ·conv=>whnf
  refine lnS_map ?_
  conv=>whnf
  refine cB h (fun hb4 h => ?_) (fun hb4 h => ?_)
  ·conv=>whnf
   refine Tr.cond ?_
   conv=>whnf
   refine sg ?_
   conv=>whnf
   refine Tr.ret ?_
   conv=>whnf
   cases h
   rfl
  conv=>whnf
  refine lnS_map ?_
  conv=>whnf
  refine Tr.cond ?_
  conv=>whnf
  refine cB h (fun hb5 h => ?_) (fun hb5 h => ?_)
  ·refine sg ?_
   conv=>whnf
   refine Tr.ret ?_
   conv=>whnf
   cases h
   rfl
  refine Tr.skip ?_
  conv=>whnf
  refine Tr.seq ?_
  refine sg ?_
  conv=>whnf
  refine Tr.cutQ (α := Unit) (fun s => ([(2, .d (.b false))], [])) (fun s => M114 s = some r_2) ?_ ?_
  ·refine Tr.block ?_
   refine Tr.loopM (σ := Int) (fun n s => M113 l_1 M114 n s) r_2 (fun s => ([(0, .d (.ls (List.map eTTeam l_1))), (2, .d (.b false)), (3, (dI s))], [])) (((((l_1).length : Int)) - 0 : Int).toNat + 1) (0) h (fun s => rfl) (Wk.mk2 [] 0 rfl rfl (by decide) rfl trivial ⟨rr, rr, rr, trivial⟩) ?_
   clear h
   rintro n_8 i_7 h
   replace h : M113 l_1 M114 (n_8 + 1) i_7 = some r_2 := h
   rw [M113] at h
   refine Tr.seq ?_
   refine sg ?_
   conv=>whnf
   refine lnS_map ?_
   conv=>whnf
   refine Tr.cond ?_
   conv=>whnf
   refine cB h (fun hb11 h => ?_) (fun hb11 h => ?_)
   ·refine Tr.skip ?_
    conv=>whnf
    refine Tr.seq ?_
    refine Tr.block ?_
    refine sg ?_
    conv=>whnf
    obtain ⟨x_12, hx_12, h⟩ := bS h
    refine ixP_of hx_12 ?_
    conv=>whnf
    refine lnS_map ?_
    conv=>whnf
    refine cB h (fun hb13 h => ?_) (fun hb13 h => ?_)
    ·conv=>whnf
     refine Tr.cond ?_
     conv=>whnf
     refine sg ?_
     conv=>whnf
     refine Tr.ret ?_
     conv=>whnf
     cases h
     rfl
    conv=>whnf
    obtain ⟨x_14, hx_14, h⟩ := bS h
    refine ixP_of hx_14 ?_
    conv=>whnf
    refine Tr.cond ?_
    conv=>whnf
    refine cB h (fun hb15 h => ?_) (fun hb15 h => ?_)
    ·refine sg ?_
     conv=>whnf
     refine Tr.ret ?_
     conv=>whnf
     cases h
     rfl
    refine Tr.skip ?_
    conv=>whnf
    refine rg ?_
    conv=>whnf
    refine arS_raw ?_
    conv=>whnf
    refine ⟨((w64 (i_7 + 1))), h, ?_⟩
    exact Wk.mk2 [] 0 rfl rfl (by decide) rfl trivial ⟨rr, rr, rr, trivial⟩
   refine Tr.exit ?_
   conv=>whnf
   refine ⟨(), h, ?_⟩
   exact Wk.mk2 [] 0 rfl rfl (by decide) rfl trivial ⟨rr, trivial⟩
  clear h
  rintro _ h T1 H1 hw
  replace h : M114 () = some r_2 := h
  conv=>whnf
  refine Tr.weak hw ?_
  unfold M114 at h
  refine sg ?_
  conv=>whnf
  refine Tr.ret ?_
  conv=>whnf
  cases h
  rfl
 conv=>whnf
 refine lnS_map ?_
 conv=>whnf
 refine Tr.cond ?_
 conv=>whnf
 refine cB h (fun hb16 h => ?_) (fun hb16 h => ?_)
 ·refine sg ?_
  conv=>whnf
  refine Tr.ret ?_
  conv=>whnf
  cases h
  rfl
 refine Tr.skip ?_
 conv=>whnf
 refine Tr.seq ?_
 refine sg ?_
 conv=>whnf
 refine Tr.cutQ (α := Unit) (fun s => ([(2, .d (.b false))], [])) (fun s => M116 s = some r_2) ?_ ?_
 ·refine Tr.block ?_
  refine Tr.loopM (σ := Int) (fun n s => M115 l_1 M116 n s) r_2 (fun s => ([(0, .d (.ls (List.map eTTeam l_1))), (2, .d (.b false)), (3, (dI s))], [])) (((((l_1).length : Int)) - 0 : Int).toNat + 1) (0) h (fun s => rfl) (Wk.mk2 [] 0 rfl rfl (by decide) rfl trivial ⟨rr, rr, rr, trivial⟩) ?_
  clear h
  rintro n_19 i_18 h
  replace h : M115 l_1 M116 (n_19 + 1) i_18 = some r_2 := h
  rw [M115] at h
  refine Tr.seq ?_
  refine sg ?_
  conv=>whnf
  refine lnS_map ?_
  conv=>whnf
  refine Tr.cond ?_
  conv=>whnf
  refine cB h (fun hb22 h => ?_) (fun hb22 h => ?_)
  ·refine Tr.skip ?_
   conv=>whnf
   refine Tr.seq ?_
   refine Tr.block ?_
   refine sg ?_
   conv=>whnf
   obtain ⟨x_23, hx_23, h⟩ := bS h
   refine ixP_of hx_23 ?_
   conv=>whnf
   refine lnS_map ?_
   conv=>whnf
   refine cB h (fun hb24 h => ?_) (fun hb24 h => ?_)
   ·conv=>whnf
    refine Tr.cond ?_
    conv=>whnf
    refine sg ?_
    conv=>whnf
    refine Tr.ret ?_
    conv=>whnf
    cases h
    rfl
   conv=>whnf
   obtain ⟨x_25, hx_25, h⟩ := bS h
   refine ixP_of hx_25 ?_
   conv=>whnf
   refine Tr.cond ?_
   conv=>whnf
   refine cB h (fun hb26 h => ?_) (fun hb26 h => ?_)
   ·refine sg ?_
    conv=>whnf
    refine Tr.ret ?_
    conv=>whnf
    cases h
    rfl
   refine Tr.skip ?_
   conv=>whnf
   refine rg ?_
   conv=>whnf
   refine arS_raw ?_
   conv=>whnf
   refine ⟨((w64 (i_18 + 1))), h, ?_⟩
   exact Wk.mk2 [] 0 rfl rfl (by decide) rfl trivial ⟨rr, rr, rr, trivial⟩
  refine Tr.exit ?_
  conv=>whnf
  refine ⟨(), h, ?_⟩
  exact Wk.mk2 [] 0 rfl rfl (by decide) rfl trivial ⟨rr, trivial⟩
 clear h
 rintro _ h T1 H1 hw
 replace h : M116 () = some r_2 := h
 conv=>whnf
 refine Tr.weak hw ?_
 unfold M116 at h
 refine sg ?_
 conv=>whnf
 refine Tr.ret ?_
 conv=>whnf
 cases h
 rfl
theorem P142 (f_1 : TField) (l_2 : List TTeam) (r_3 : Bool) (h : M142 f_1 l_2 = some r_3) :
    PC prog 7 [(eTField f_1), (.ls (List.map eTTeam l_2))] (fun rs => rs = [(.b r_3)]) := by
 refine PC.of_tr (cx := ⟨119, none, lay, 0⟩) layOK func7 rfl rfl rfl rfl rfl (by simp [f7]) ?_
 unfold M142 at h
 refine sg ?_
 conv=>whnf
 refine Tr.seq ?_
 refine sg ?_
 conv=>whnf
 obtain ⟨r_4, hc5, h⟩ := bS h
 refine PC.ecall (P105 r_4 hc5) (fun rs hrs => ?_)
 subst hrs
 conv=>whnf
 refine Tr.cond ?_
 conv=>whnf
 refine cB h (fun hb6 h => ?_) (fun hb6 h => ?_)
 ·refine sg ?_
  conv=>whnf
  refine Tr.ret ?_
  conv=>whnf
  cases h
  rfl
 refine Tr.skip ?_
 conv=>whnf
 refine Tr.seq ?_
 refine sg ?_
 conv=>whnf
 obtain ⟨r_7, hc8, h⟩ := bS h
 refine PC.ecall (P112 f_1 r_7 hc8) (fun rs hrs => ?_)
 subst hrs
 conv=>whnf
 refine cB h (fun hb9 h => ?_) (fun hb9 h => ?_)
 ·conv=>whnf
  refine Tr.cond ?_
  conv=>whnf
  refine sg ?_
  conv=>whnf
  refine Tr.ret ?_
  conv=>whnf
  cases h
  rfl
 conv=>whnf
 obtain ⟨r_10, hc11, h⟩ := bS h
 refine PC.ecall (P117 l_2 r_10 hc11) (fun rs hrs => ?_)
 subst hrs
 conv=>whnf
 refine cB h (fun hb12 h => ?_) (fun hb12 h => ?_)
 ·conv=>whnf
  refine Tr.cond ?_
  conv=>whnf
  refine sg ?_
  conv=>whnf
  refine Tr.ret ?_
  conv=>whnf
  cases h
  rfl
 conv=>whnf
 obtain ⟨r_13, hc14, h⟩ := bS h
 refine PC.ecall (P87 l_2 r_13 hc14) (fun rs hrs => ?_)
 subst hrs
 conv=>whnf
 refine Tr.cond ?_
 conv=>whnf
 refine cB h (fun hb15 h => ?_) (fun hb15 h => ?_)
 ·refine sg ?_
  conv=>whnf
  refine Tr.ret ?_
  conv=>whnf
  cases h
  rfl
 refine Tr.skip ?_
 conv=>whnf
 refine sg ?_
 conv=>whnf
 refine Tr.seq ?_
 refine sg ?_
 conv=>whnf
 refine Tr.cutQ (α := Bool × Bool) (fun s => ([(4, .d (.b false)), (5, .d (.b s.1)), (6, .d (.b s.2))], [])) (fun s => M141 s.1 s.2 = some r_3) ?_ ?_
 ·refine Tr.block ?_
  refine Tr.loopM (σ := Bool × Bool × Int) (fun n s => M140 f_1 l_2 M141 n s.1 s.2.1 s.2.2) r_3 (fun s => ([(1, .d (.ls (List.map eTTeam l_2))), (2, .pt 0 0), (4, .d (.b false)), (5, .d (.b s.1)), (6, .d (.b s.2.1)), (7, (dI s.2.2))], [some (.var [.d (.ls (List.map eTSegment f_1.Clocks.Segments)), .d (.ls (List.map (eL eI) f_1.Clocks.Far)), .d (.ls (List.map eTPair f_1.Pairs)), .d (.ls (List.map eTRunner f_1.Runners))])])) (((((l_2).length : Int)) - 0 : Int).toNat + 1) (false, false, 0) h (fun s => rfl) (Wk.mk2 [0] 1 rfl rfl (by decide) rfl ⟨rr, trivial⟩ ⟨rr, rr, rr, rr, rr, rr, trivial⟩) ?_
  clear h
  rintro n_22 ⟨first_19, any_20, i_21⟩ h
  replace h : M140 f_1 l_2 M141 (n_22 + 1) first_19 any_20 i_21 = some r_3 := h
  rw [M140] at h
  refine Tr.seq ?_
  refine sg ?_
  conv=>whnf
  refine lnS_map ?_
  conv=>whnf
  refine Tr.cond ?_
  conv=>whnf
  refine cB h (fun hb27 h => ?_) (fun hb27 h => ?_)
  ·refine Tr.skip ?_
   conv=>whnf
   refine Tr.seq ?_
   refine Tr.block ?_
   refine sg ?_
   conv=>whnf
   obtain ⟨⟨r_28, r_29, r_30⟩, hc31, h⟩ := bS h
   refine PC.ecall (P91 f_1 l_2 i_21 r_28 r_29 r_30 hc31) (fun rs hrs => ?_)
   subst hrs
   conv=>whnf
   refine sd [(10,1)] [(0,3),(1,1),(2,1),(3,2),(4,2),(5,1),(6,1),(7,1),(8,1),(9,0),(10,0),(11,1)] ?_
   conv=>whnf
   refine q2 ?_
   conv=>whnf
   refine q1 ?_
   conv=>whnf
   refine q1 ?_
   conv=>whnf
   obtain ⟨x_32, hx_32, h⟩ := bS h
   refine q3 (ixP_of hx_32 rr) ?_
   conv=>whnf
   refine q2 ?_
   conv=>whnf
   obtain ⟨⟨r_33, r_34⟩, hc35, h⟩ := bS h
   refine q1 ?_ (fun _ => pe (P82 f_1 x_32 r_33 r_34 hc35) rr)
   conv=>whnf
   refine q1 ?_
   conv=>whnf
   refine q1 ?_
   conv=>whnf
   refine q1 ?_
   conv=>whnf
   refine ⟨_, _, rr, kp_ok (by repeat (first | exact trivial | refine ⟨trivial, ?_⟩ | refine ⟨rfl, ?_⟩)), ?_⟩
   conv=>whnf
   refine ⟨_, _, rr, kp_ok (by repeat (first | exact trivial | refine ⟨trivial, ?_⟩ | refine ⟨rfl, ?_⟩)), ?_⟩
   conv=>whnf
   refine q1 ?_
   conv=>whnf
   refine Tr.seq ?_
   refine sg ?_
   conv=>whnf
   refine cB h (fun hb36 h => ?_) (fun hb36 h => ?_)
   ·conv=>whnf
    refine Tr.cond ?_
    conv=>whnf
    refine sg ?_
    conv=>whnf
    refine Tr.ret ?_
    conv=>whnf
    cases h
    rfl
   conv=>whnf
   refine Tr.cond ?_
   conv=>whnf
   refine cB h (fun hb37 h => ?_) (fun hb37 h => ?_)
   ·refine sg ?_
    conv=>whnf
    refine Tr.ret ?_
    conv=>whnf
    cases h
    rfl
   refine Tr.skip ?_
   conv=>whnf
   refine Tr.seq ?_
   refine sg ?_
   conv=>whnf
   refine lnS_map ?_
   conv=>whnf
   refine Tr.cond ?_
   conv=>whnf
   refine cB h (fun hb38 h => ?_) (fun hb38 h => ?_)
   ·refine Tr.seq ?_
    refine sg ?_
    conv=>whnf
    refine cB h (fun hb39 h => ?_) (fun hb39 h => ?_)
    ·conv=>whnf
     refine Tr.cond ?_
     conv=>whnf
     refine sg ?_
     conv=>whnf
     refine Tr.ret ?_
     conv=>whnf
     cases h
     rfl
    conv=>whnf
    refine cB h (fun hb40 h => ?_) (fun hb40 h => ?_)
    ·conv=>whnf
     refine Tr.cond ?_
     conv=>whnf
     refine sg ?_
     conv=>whnf
     refine Tr.ret ?_
     conv=>whnf
     cases h
     rfl
    conv=>whnf
    refine Tr.cond ?_
    conv=>whnf
    refine cB h (fun hb41 h => ?_) (fun hb41 h => ?_)
    ·refine sg ?_
     conv=>whnf
     refine Tr.ret ?_
     conv=>whnf
     cases h
     rfl
    refine Tr.skip ?_
    conv=>whnf
    refine Tr.exit ?_
    conv=>whnf
    refine rg ?_
    conv=>whnf
    refine arS_raw ?_
    conv=>whnf
    refine ⟨(first_19, any_20, (w64 (i_21 + 1))), h, ?_⟩
    exact Wk.mk2 [0] 2 rfl rfl (by decide) rfl ⟨rr, trivial⟩ ⟨rr, rr, rr, rr, rr, rr, trivial⟩
   refine Tr.skip ?_
   conv=>whnf
   refine sg ?_
   conv=>whnf
   refine Tr.seq ?_
   refine Tr.cutQ1 ([(1, .d (.ls (List.map eTTeam l_2))), (2, .pt 0 0), (4, .d (.b false)), (5, .d (.b (first_19 || (r_28 == 1)))), (6, .d (.b true)), (7, (dI i_21)), (8, (dI r_28)), (9, (dI r_29)), (11, .pt 1 0)]) ([some (.var [.d (.ls (List.map eTSegment f_1.Clocks.Segments)), .d (.ls (List.map (eL eI) f_1.Clocks.Far)), .d (.ls (List.map eTPair f_1.Pairs)), .d (.ls (List.map eTRunner f_1.Runners))]), some (.var [(dI r_33.Bib), .d (.ls (List.map eTSpan r_33.Sums)), .d (.b r_33.Out)])]) ?_ (fun T1 H1 hw => ?_)
   ·refine rg ?_
    conv=>whnf
    refine condS_mk (fun hb43 => ?_) (fun hb43 => ?_)
    ·conv=>whnf
     exact Wk.mk2 [0, 1] 2 rfl rfl (by decide) rfl ⟨rr, rr, trivial⟩ ⟨rr, rr, rr, ⟨rfl, (by first | rfl | (simp only [↓hb6, ↓hb9, ↓hb12, ↓hb15, ↓hb27, ↓hb36, ↓hb37, ↓hb38, ↓hb43, bl]; done) | (simp only [↓hb6, ↓hb9, ↓hb12, ↓hb15, ↓hb27, ↓hb36, ↓hb37, ↓hb38, ↓hb43, bl]; rfl) | (dsimp only at hb6 hb9 hb12 hb15 hb27 hb36 hb37 hb38 hb43; (conv => lhs; whnf); (conv => rhs; whnf); simp only [↓hb6, ↓hb9, ↓hb12, ↓hb15, ↓hb27, ↓hb36, ↓hb37, ↓hb38, ↓hb43, bl]; done))⟩, rr, rr, rr, rr, rr, trivial⟩
    conv=>whnf
    exact Wk.mk2 [0, 1] 2 rfl rfl (by decide) rfl ⟨rr, rr, trivial⟩ ⟨rr, rr, rr, ⟨rfl, (by first | rfl | (simp only [↓hb6, ↓hb9, ↓hb12, ↓hb15, ↓hb27, ↓hb36, ↓hb37, ↓hb38, ↓hb43, bl]; done) | (simp only [↓hb6, ↓hb9, ↓hb12, ↓hb15, ↓hb27, ↓hb36, ↓hb37, ↓hb38, ↓hb43, bl]; rfl) | (dsimp only at hb6 hb9 hb12 hb15 hb27 hb36 hb37 hb38 hb43; (conv => lhs; whnf); (conv => rhs; whnf); simp only [↓hb6, ↓hb9, ↓hb12, ↓hb15, ↓hb27, ↓hb36, ↓hb37, ↓hb38, ↓hb43, bl]; done))⟩, rr, rr, rr, rr, rr, trivial⟩
   conv=>whnf
   refine Tr.weak hw ?_
   refine Tr.seq ?_
   obtain ⟨v_44, hv45, h⟩ := bS h
   refine Tr.cutQ1 ([(1, .d (.ls (List.map eTTeam l_2))), (2, .pt 0 0), (4, .d (.b false)), (5, .d (.b (first_19 || (r_28 == 1)))), (6, .d (.b true)), (7, (dI i_21)), (115, .d (.b v_44))]) ([some (.var [.d (.ls (List.map eTSegment f_1.Clocks.Segments)), .d (.ls (List.map (eL eI) f_1.Clocks.Far)), .d (.ls (List.map eTPair f_1.Pairs)), .d (.ls (List.map eTRunner f_1.Runners))])]) ?_ (fun T1 H1 hw => ?_)
   ·replace h := hv45; clear hv45
    refine dq [] [(0,4),(1,4),(2,2),(3,1),(4,1),(5,4),(6,4),(7,2),(8,2),(9,2),(10,4),(11,4),(12,2),(13,2),(14,2),(15,1),(16,1),(17,1),(18,4),(19,4),(20,1),(21,1),(22,1),(23,1),(24,1),(25,1),(26,1),(27,1),(28,1),(29,1),(30,1),(31,1),(32,1),(33,1),(34,2),(35,1),(36,1)] ?_
    conv=>whnf
    refine q2 ?_
    conv=>whnf
    refine q2 ?_
    conv=>whnf
    refine q3 (lnS_map rr) ?_
    conv=>whnf
    refine q1 ?_
    conv=>whnf
    refine q1 ?_
    conv=>whnf
    refine cB h (fun hb46 h => ?_) (fun hb46 h => ?_)
    ·conv=>whnf
     refine q1 ?_
     conv=>whnf
     refine q1 ?_
     conv=>whnf
     refine q1 ?_
     conv=>whnf
     refine q1 ?_
     conv=>whnf
     refine q1 ?_
     conv=>whnf
     refine q1 ?_
     conv=>whnf
     refine q1 ?_
     conv=>whnf
     refine q1 ?_
     conv=>whnf
     refine q1 ?_
     conv=>whnf
     cases h
     exact Wk.mk2 [0] 2 rfl rfl (by decide) rfl ⟨rr, trivial⟩ ⟨rr, rr, rr, rr, rr, rr, rr, trivial⟩
    conv=>whnf
    refine q2 ?_
    conv=>whnf
    refine q2 ?_
    conv=>whnf
    obtain ⟨x_47, hx_47, h⟩ := bS h
    refine q3 (ixP_of hx_47 rr) ?_
    conv=>whnf
    refine q2 ?_
    conv=>whnf
    refine q2 ?_
    conv=>whnf
    refine q2 ?_
    conv=>whnf
    refine q2 ?_
    conv=>whnf
    obtain ⟨x_48, hx_48, h⟩ := bS h
    refine q3 (ixP_of hx_48 rr) ?_
    conv=>whnf
    refine q2 ?_
    conv=>whnf
    refine q2 ?_
    conv=>whnf
    refine q1 ?_
    conv=>whnf
    refine q1 ?_
    conv=>whnf
    refine q1 ?_
    conv=>whnf
    refine cB h (fun hb49 h => ?_) (fun hb49 h => ?_)
    ·conv=>whnf
     refine q1 ?_
     conv=>whnf
     refine q1 ?_
     conv=>whnf
     refine q1 ?_
     conv=>whnf
     refine q1 ?_
     conv=>whnf
     refine q1 ?_
     conv=>whnf
     refine q1 ?_
     conv=>whnf
     refine q1 ?_
     conv=>whnf
     cases h
     exact Wk.mk2 [0] 2 rfl rfl (by decide) rfl ⟨rr, trivial⟩ ⟨rr, rr, rr, rr, rr, rr, rr, trivial⟩
    conv=>whnf
    refine q2 ?_
    conv=>whnf
    refine q2 ?_
    conv=>whnf
    refine q1 ?_
    conv=>whnf
    refine q1 ?_
    conv=>whnf
    refine q1 ?_
    conv=>whnf
    refine cB h (fun hb50 h => ?_) (fun hb50 h => ?_)
    ·conv=>whnf
     refine q1 ?_
     conv=>whnf
     refine q1 ?_
     conv=>whnf
     refine q1 ?_
     conv=>whnf
     refine q1 ?_
     conv=>whnf
     refine q1 ?_
     conv=>whnf
     cases h
     exact Wk.mk2 [0] 2 rfl rfl (by decide) rfl ⟨rr, trivial⟩ ⟨rr, rr, rr, rr, rr, rr, rr, trivial⟩
    conv=>whnf
    refine q1 ?_
    conv=>whnf
    refine q1 ?_
    conv=>whnf
    refine q1 ?_
    conv=>whnf
    refine q1 ?_
    conv=>whnf
    refine cB h (fun hb51 h => ?_) (fun hb51 h => ?_)
    ·conv=>whnf
     refine q1 ?_
     conv=>whnf
     refine q1 ?_
     conv=>whnf
     refine q1 ?_
     conv=>whnf
     cases h
     exact Wk.mk2 [0] 2 rfl rfl (by decide) rfl ⟨rr, trivial⟩ ⟨rr, rr, rr, rr, rr, rr, rr, trivial⟩
    conv=>whnf
    refine q1 ?_
    conv=>whnf
    refine q1 ?_
    conv=>whnf
    refine q1 ?_
    conv=>whnf
    refine q1 ?_
    conv=>whnf
    refine q1 ?_
    conv=>whnf
    refine cB h (fun hb52 h => ?_) (fun hb52 h => ?_)
    ·conv=>whnf
     refine q1 ?_
     conv=>whnf
     cases h
     exact Wk.mk2 [0] 2 rfl rfl (by decide) rfl ⟨rr, trivial⟩ ⟨rr, rr, rr, rr, rr, rr, rr, trivial⟩
    conv=>whnf
    refine q1 ?_
    conv=>whnf
    refine q1 ?_
    conv=>whnf
    refine q3 (lnS_map rr) ?_
    conv=>whnf
    refine q1 ?_
    conv=>whnf
    refine q1 ?_
    conv=>whnf
    cases h
    exact Wk.mk2 [0] 2 rfl rfl (by decide) rfl ⟨rr, trivial⟩ ⟨rr, rr, rr, rr, rr, rr, rr, trivial⟩
   clear hv45
   conv=>whnf
   refine Tr.weak hw ?_
   refine Tr.cond ?_
   conv=>whnf
   refine cB h (fun hb53 h => ?_) (fun hb53 h => ?_)
   ·refine sg ?_
    conv=>whnf
    refine Tr.ret ?_
    conv=>whnf
    cases h
    rfl
   refine Tr.skip ?_
   conv=>whnf
   refine rg ?_
   conv=>whnf
   refine arS_raw ?_
   conv=>whnf
   refine ⟨((first_19 || (r_28 == 1)), true, (w64 (i_21 + 1))), h, ?_⟩
   exact Wk.mk2 [0] 1 rfl rfl (by decide) rfl ⟨rr, trivial⟩ ⟨rr, rr, rr, rr, rr, rr, trivial⟩
  refine Tr.exit ?_
  conv=>whnf
  refine ⟨(first_19, any_20), h, ?_⟩
  exact Wk.mk2 [] 1 rfl rfl (by decide) rfl trivial ⟨rr, rr, rr, trivial⟩
 clear h
 rintro ⟨first_23, any_24⟩ h T1 H1 hw
 replace h : M141 first_23 any_24 = some r_3 := h
 conv=>whnf
 refine Tr.weak hw ?_
 unfold M141 at h
 refine sg ?_
 conv=>whnf
 refine Tr.ret ?_
 conv=>whnf
 cases h
 rfl
end Go.Proofs.Tryz
