/- Contracts of functions, by program (gen.py). No condition. -/
import Derived.Test.YtpfihfiimeepfaaGreatDoorZL
import Derived.Test.YtpfihfiimeepfaaGreatDoorZM
import Derived.Test.YtpfihfiimeepfaaGreatDoorZCB
import Derived.Test.YtpfihfiimeepfaaGreatDoorZC7
import Derived.Test.YtpfihfiimeepfaaGreatDoorZS4
namespace Go.Proofs.Tryz
open Go Go.Abs Go.Stop
set_option maxRecDepth 8000
set_option linter.unusedVariables false
set_option linter.unusedSimpArgs false
theorem P108 (k_1 : TClocks) (r_2 : Bool) (h : M108 k_1 = some r_2) :
    PC prog 29 [(eTClocks k_1)] (fun rs => rs = [(.b r_2)]) := by
 refine PC.of_tr (cx := ⟨28, none, lay, 0⟩) layOK func29 rfl rfl rfl rfl rfl (by simp [f29]) ?_
 unfold M108 at h
 refine sg ?_
 conv=>whnf
 refine Tr.seq ?_
 refine sg ?_
 conv=>whnf
 refine lnS_map ?_
 conv=>whnf
 refine cB h (fun hb3 h => ?_) (fun hb3 h => ?_)
 ·conv=>whnf
  refine Tr.cond ?_
  conv=>whnf
  refine sg ?_
  conv=>whnf
  refine Tr.ret ?_
  conv=>whnf
  cases h
  rfl
 conv=>whnf
 refine lnS_map ?_
 conv=>whnf
 refine Tr.cond ?_
 conv=>whnf
 refine cB h (fun hb4 h => ?_) (fun hb4 h => ?_)
 ·refine sg ?_
  conv=>whnf
  refine Tr.ret ?_
  conv=>whnf
  cases h
  rfl
 refine Tr.skip ?_
 conv=>whnf
 refine Tr.seq ?_
 refine sg ?_
 conv=>whnf
 refine Tr.cutQ (α := Unit) (fun s => ([(2, .d (.b false))], [])) (fun s => M107 s = some r_2) ?_ ?_
 ·refine Tr.block ?_
  refine Tr.loopM (σ := Int) (fun n s => M106 k_1 M107 n s) r_2 (fun s => ([(1, .pt 0 0), (2, .d (.b false)), (3, (dI s))], [some (.var [.d (.ls (List.map eTSegment k_1.Segments)), .d (.ls (List.map (eL eI) k_1.Far))])])) (((((k_1.Far).length : Int)) - 0 : Int).toNat + 1) (0) h (fun s => rfl) (Wk.mk2 [0] 1 rfl rfl (by decide) rfl ⟨rr, trivial⟩ ⟨rr, rr, rr, trivial⟩) ?_
  clear h
  rintro n_7 i_6 h
  replace h : M106 k_1 M107 (n_7 + 1) i_6 = some r_2 := h
  rw [M106] at h
  refine Tr.seq ?_
  refine sg ?_
  conv=>whnf
  refine lnS_map ?_
  conv=>whnf
  refine Tr.cond ?_
  conv=>whnf
  refine cB h (fun hb10 h => ?_) (fun hb10 h => ?_)
  ·refine Tr.skip ?_
   conv=>whnf
   refine Tr.seq ?_
   refine Tr.block ?_
   refine sg ?_
   conv=>whnf
   obtain ⟨x_11, hx_11, h⟩ := bS h
   refine ixP_of hx_11 ?_
   conv=>whnf
   refine lnS_map ?_
   conv=>whnf
   refine Tr.cond ?_
   conv=>whnf
   refine cB h (fun hb12 h => ?_) (fun hb12 h => ?_)
   ·refine sg ?_
    conv=>whnf
    refine Tr.ret ?_
    conv=>whnf
    cases h
    rfl
   refine Tr.skip ?_
   conv=>whnf
   refine rg ?_
   conv=>whnf
   refine arS_raw ?_
   conv=>whnf
   refine ⟨((w64 (i_6 + 1))), h, ?_⟩
   exact Wk.mk2 [0] 1 rfl rfl (by decide) rfl ⟨rr, trivial⟩ ⟨rr, rr, rr, trivial⟩
  refine Tr.exit ?_
  conv=>whnf
  refine ⟨(), h, ?_⟩
  exact Wk.mk2 [] 1 rfl rfl (by decide) rfl trivial ⟨rr, trivial⟩
 clear h
 rintro _ h T1 H1 hw
 replace h : M107 () = some r_2 := h
 conv=>whnf
 refine Tr.weak hw ?_
 unfold M107 at h
 refine sg ?_
 conv=>whnf
 refine Tr.ret ?_
 conv=>whnf
 cases h
 rfl
theorem P112 (f_1 : TField) (r_2 : Bool) (h : M112 f_1 = some r_2) :
    PC prog 11 [(eTField f_1)] (fun rs => rs = [(.b r_2)]) := by
 refine PC.of_tr (cx := ⟨62, none, lay, 0⟩) layOK func11 rfl rfl rfl rfl rfl (by simp [f11]) ?_
 unfold M112 at h
 refine sg ?_
 conv=>whnf
 refine sg ?_
 conv=>whnf
 refine Tr.seq ?_
 refine sg ?_
 conv=>whnf
 refine lnS_map ?_
 conv=>whnf
 refine cB h (fun hb3 h => ?_) (fun hb3 h => ?_)
 ·conv=>whnf
  refine Tr.cond ?_
  conv=>whnf
  refine sg ?_
  conv=>whnf
  refine Tr.ret ?_
  conv=>whnf
  cases h
  rfl
 conv=>whnf
 refine lnS_map ?_
 conv=>whnf
 refine cB h (fun hb4 h => ?_) (fun hb4 h => ?_)
 ·conv=>whnf
  refine Tr.cond ?_
  conv=>whnf
  refine sg ?_
  conv=>whnf
  refine Tr.ret ?_
  conv=>whnf
  cases h
  rfl
 conv=>whnf
 obtain ⟨r_5, hc6, h⟩ := bS h
 refine PC.ecall (P108 f_1.Clocks r_5 hc6) (fun rs hrs => ?_)
 subst hrs
 conv=>whnf
 refine Tr.cond ?_
 conv=>whnf
 refine cB h (fun hb7 h => ?_) (fun hb7 h => ?_)
 ·refine sg ?_
  conv=>whnf
  refine Tr.ret ?_
  conv=>whnf
  cases h
  rfl
 refine Tr.skip ?_
 conv=>whnf
 refine Tr.seq ?_
 refine sg ?_
 conv=>whnf
 refine Tr.cutQ (α := Int) (fun s => ([(2, .d (.b false)), (3, (dI s))], [])) (fun s => M111 s = some r_2) ?_ ?_
 ·refine Tr.block ?_
  refine Tr.loopM (σ := Int × Int) (fun n s => M110 f_1 M111 n s.1 s.2) r_2 (fun s => ([(1, .pt 0 0), (2, .d (.b false)), (3, (dI s.1)), (4, (dI s.2))], [some (.var [.d (.ls (List.map eTSegment f_1.Clocks.Segments)), .d (.ls (List.map (eL eI) f_1.Clocks.Far)), .d (.ls (List.map eTPair f_1.Pairs)), .d (.ls (List.map eTRunner f_1.Runners))])])) (((((f_1.Runners).length : Int)) - 0 : Int).toNat + 1) (0, 0) h (fun s => rfl) (Wk.mk2 [0] 1 rfl rfl (by decide) rfl ⟨rr, trivial⟩ ⟨rr, rr, rr, rr, trivial⟩) ?_
  clear h
  rintro n_12 ⟨n_10, i_11⟩ h
  replace h : M110 f_1 M111 (n_12 + 1) n_10 i_11 = some r_2 := h
  rw [M110] at h
  refine Tr.seq ?_
  refine sg ?_
  conv=>whnf
  refine lnS_map ?_
  conv=>whnf
  refine Tr.cond ?_
  conv=>whnf
  refine cB h (fun hb16 h => ?_) (fun hb16 h => ?_)
  ·refine Tr.skip ?_
   conv=>whnf
   refine Tr.seq ?_
   refine Tr.block ?_
   refine sg ?_
   conv=>whnf
   obtain ⟨x_17, hx_17, h⟩ := bS h
   refine ixP_of hx_17 ?_
   conv=>whnf
   refine Tr.seq ?_
   refine sg ?_
   conv=>whnf
   refine lnS_map ?_
   conv=>whnf
   refine cB h (fun hb18 h => ?_) (fun hb18 h => ?_)
   ·conv=>whnf
    refine Tr.cond ?_
    conv=>whnf
    refine sg ?_
    conv=>whnf
    refine Tr.ret ?_
    conv=>whnf
    cases h
    rfl
   conv=>whnf
   refine lnS_map ?_
   conv=>whnf
   refine Tr.cond ?_
   conv=>whnf
   refine cB h (fun hb19 h => ?_) (fun hb19 h => ?_)
   ·refine sg ?_
    conv=>whnf
    refine Tr.ret ?_
    conv=>whnf
    cases h
    rfl
   refine Tr.skip ?_
   conv=>whnf
   refine sg ?_
   conv=>whnf
   obtain ⟨n_25, hv30, h⟩ := bS h
   refine Tr.cutQ1 ([(1, .pt 0 0), (2, .d (.b false)), (3, (dI n_25)), (4, (dI i_11))]) ([some (.var [.d (.ls (List.map eTSegment f_1.Clocks.Segments)), .d (.ls (List.map (eL eI) f_1.Clocks.Far)), .d (.ls (List.map eTPair f_1.Pairs)), .d (.ls (List.map eTRunner f_1.Runners))])]) ?_ (fun T1 H1 hw => ?_)
   ·replace h := hv30; clear hv30
    refine Tr.block ?_
    refine Tr.loopM (σ := Int × Int) (fun n s => M109 x_17 n s.1 s.2) n_25 (fun s => ([(1, .pt 0 0), (2, .d (.b false)), (3, (dI s.1)), (4, (dI i_11)), (5, .pt 1 0), (6, (dI s.2))], [some (.var [.d (.ls (List.map eTSegment f_1.Clocks.Segments)), .d (.ls (List.map (eL eI) f_1.Clocks.Far)), .d (.ls (List.map eTPair f_1.Pairs)), .d (.ls (List.map eTRunner f_1.Runners))]), some (.var [(dI x_17.Bib), .d (.ls (List.map eI x_17.Keys)), .d (.ls (List.map (eL eTOutcome) x_17.Worlds))])])) (((((x_17.Worlds).length : Int)) - 0 : Int).toNat + 1) (n_10, 0) h (fun s => rfl) (Wk.mk2 [0, 1] 2 rfl rfl (by decide) rfl ⟨rr, rr, trivial⟩ ⟨rr, rr, rr, rr, rr, rr, trivial⟩) ?_
    clear h
    rintro n_24 ⟨n_22, w_23⟩ h
    replace h : M109 x_17 (n_24 + 1) n_22 w_23 = some n_25 := h
    rw [M109] at h
    refine Tr.seq ?_
    refine sg ?_
    conv=>whnf
    refine lnS_map ?_
    conv=>whnf
    refine Tr.cond ?_
    conv=>whnf
    refine cB h (fun hb28 h => ?_) (fun hb28 h => ?_)
    ·refine Tr.skip ?_
     conv=>whnf
     refine Tr.seq ?_
     refine Tr.block ?_
     refine rg ?_
     conv=>whnf
     obtain ⟨x_29, hx_29, h⟩ := bS h
     refine ixP_of hx_29 ?_
     conv=>whnf
     refine lnS_map ?_
     conv=>whnf
     refine arS_raw ?_
     conv=>whnf
     refine rg ?_
     conv=>whnf
     refine arS_raw ?_
     conv=>whnf
     refine ⟨((w64 (n_22 + (((x_29).length : Int)))), (w64 (w_23 + 1))), h, ?_⟩
     exact Wk.mk2 [0, 1] 2 rfl rfl (by decide) rfl ⟨rr, rr, trivial⟩ ⟨rr, rr, rr, rr, rr, rr, trivial⟩
    refine Tr.exit ?_
    conv=>whnf
    cases h
    exact Wk.mk2 [0] 2 rfl rfl (by decide) rfl ⟨rr, trivial⟩ ⟨rr, rr, rr, rr, trivial⟩
   clear hv30
   conv=>whnf
   refine Tr.weak hw ?_
   refine rg ?_
   conv=>whnf
   refine arS_raw ?_
   conv=>whnf
   refine ⟨(n_25, (w64 (i_11 + 1))), h, ?_⟩
   exact Wk.mk2 [0] 1 rfl rfl (by decide) rfl ⟨rr, trivial⟩ ⟨rr, rr, rr, rr, trivial⟩
  refine Tr.exit ?_
  conv=>whnf
  refine ⟨(n_10), h, ?_⟩
  exact Wk.mk2 [] 1 rfl rfl (by decide) rfl trivial ⟨rr, rr, trivial⟩
 clear h
 rintro n_13 h T1 H1 hw
 replace h : M111 n_13 = some r_2 := h
 conv=>whnf
 refine Tr.weak hw ?_
 unfold M111 at h
 refine sg ?_
 conv=>whnf
 refine Tr.ret ?_
 conv=>whnf
 cases h
 rfl
theorem P117 (l_1 : List TTeam) (r_2 : Bool) (h : M117 l_1 = some r_2) :
    PC prog 12 [(.ls (List.map eTTeam l_1))] (fun rs => rs = [(.b r_2)]) := by
 refine PC.of_tr (cx := ⟨39, none, lay, 0⟩) layOK func12 rfl rfl rfl rfl rfl (by simp [f12]) ?_
 unfold M117 at h
 refine sg ?_
 conv=>whnf
 refine Tr.seq ?_
 refine sg ?_
 conv=>whnf
 refine lnS_map ?_
 conv=>whnf
 refine cB h (fun hb3 h => ?_) (fun hb3 h => ?_)
 ·conv=>whnf
  refine lnS_map ?_
  conv=>whnf
  refine cB h (fun hb4 h => ?_) (fun hb4 h => ?_)
  ·conv=>whnf
   refine Tr.cond ?_
   conv=>whnf
   refine sg ?_
   conv=>whnf
   refine Tr.ret ?_
   conv=>whnf
   cases h
   rfl
  conv=>whnf
  refine lnS_map ?_
  conv=>whnf
  refine Tr.cond ?_
  conv=>whnf
  refine cB h (fun hb5 h => ?_) (fun hb5 h => ?_)
  ·refine sg ?_
   conv=>whnf
   refine Tr.ret ?_
   conv=>whnf
   cases h
   rfl
  refine Tr.skip ?_
  conv=>whnf
  refine Tr.seq ?_
  refine sg ?_
  conv=>whnf
  refine Tr.cutQ (α := Unit) (fun s => ([(2, .d (.b false))], [])) (fun s => M114 s = some r_2) ?_ ?_
  ·refine Tr.block ?_
   refine Tr.loopM (σ := Int) (fun n s => M113 l_1 M114 n s) r_2 (fun s => ([(0, .d (.ls (List.map eTTeam l_1))), (2, .d (.b false)), (3, (dI s))], [])) (((((l_1).length : Int)) - 0 : Int).toNat + 1) (0) h (fun s => rfl) (Wk.mk2 [] 0 rfl rfl (by decide) rfl trivial ⟨rr, rr, rr, trivial⟩) ?_
   clear h
   rintro n_8 i_7 h
   replace h : M113 l_1 M114 (n_8 + 1) i_7 = some r_2 := h
   rw [M113] at h
   refine Tr.seq ?_
   refine sg ?_
   conv=>whnf
   refine lnS_map ?_
   conv=>whnf
   refine Tr.cond ?_
   conv=>whnf
   refine cB h (fun hb11 h => ?_) (fun hb11 h => ?_)
   ·refine Tr.skip ?_
    conv=>whnf
    refine Tr.seq ?_
    refine Tr.block ?_
    refine sg ?_
    conv=>whnf
    obtain ⟨x_12, hx_12, h⟩ := bS h
    refine ixP_of hx_12 ?_
    conv=>whnf
    refine lnS_map ?_
    conv=>whnf
    refine cB h (fun hb13 h => ?_) (fun hb13 h => ?_)
    ·conv=>whnf
     refine Tr.cond ?_
     conv=>whnf
     refine sg ?_
     conv=>whnf
     refine Tr.ret ?_
     conv=>whnf
     cases h
     rfl
    conv=>whnf
    obtain ⟨x_14, hx_14, h⟩ := bS h
    refine ixP_of hx_14 ?_
    conv=>whnf
    refine Tr.cond ?_
    conv=>whnf
    refine cB h (fun hb15 h => ?_) (fun hb15 h => ?_)
    ·refine sg ?_
     conv=>whnf
     refine Tr.ret ?_
     conv=>whnf
     cases h
     rfl
    refine Tr.skip ?_
    conv=>whnf
    refine rg ?_
    conv=>whnf
    refine arS_raw ?_
    conv=>whnf
    refine ⟨((w64 (i_7 + 1))), h, ?_⟩
    exact Wk.mk2 [] 0 rfl rfl (by decide) rfl trivial ⟨rr, rr, rr, trivial⟩
   refine Tr.exit ?_
   conv=>whnf
   refine ⟨(), h, ?_⟩
   exact Wk.mk2 [] 0 rfl rfl (by decide) rfl trivial ⟨rr, trivial⟩
  clear h
  rintro _ h T1 H1 hw
  replace h : M114 () = some r_2 := h
  conv=>whnf
  refine Tr.weak hw ?_
  unfold M114 at h
  refine sg ?_
  conv=>whnf
  refine Tr.ret ?_
  conv=>whnf
  cases h
  rfl
 conv=>whnf
 refine lnS_map ?_
 conv=>whnf
 refine Tr.cond ?_
 conv=>whnf
 refine cB h (fun hb16 h => ?_) (fun hb16 h => ?_)
 ·refine sg ?_
  conv=>whnf
  refine Tr.ret ?_
  conv=>whnf
  cases h
  rfl
 refine Tr.skip ?_
 conv=>whnf
 refine Tr.seq ?_
 refine sg ?_
 conv=>whnf
 refine Tr.cutQ (α := Unit) (fun s => ([(2, .d (.b false))], [])) (fun s => M116 s = some r_2) ?_ ?_
 ·refine Tr.block ?_
  refine Tr.loopM (σ := Int) (fun n s => M115 l_1 M116 n s) r_2 (fun s => ([(0, .d (.ls (List.map eTTeam l_1))), (2, .d (.b false)), (3, (dI s))], [])) (((((l_1).length : Int)) - 0 : Int).toNat + 1) (0) h (fun s => rfl) (Wk.mk2 [] 0 rfl rfl (by decide) rfl trivial ⟨rr, rr, rr, trivial⟩) ?_
  clear h
  rintro n_19 i_18 h
  replace h : M115 l_1 M116 (n_19 + 1) i_18 = some r_2 := h
  rw [M115] at h
  refine Tr.seq ?_
  refine sg ?_
  conv=>whnf
  refine lnS_map ?_
  conv=>whnf
  refine Tr.cond ?_
  conv=>whnf
  refine cB h (fun hb22 h => ?_) (fun hb22 h => ?_)
  ·refine Tr.skip ?_
   conv=>whnf
   refine Tr.seq ?_
   refine Tr.block ?_
   refine sg ?_
   conv=>whnf
   obtain ⟨x_23, hx_23, h⟩ := bS h
   refine ixP_of hx_23 ?_
   conv=>whnf
   refine lnS_map ?_
   conv=>whnf
   refine cB h (fun hb24 h => ?_) (fun hb24 h => ?_)
   ·conv=>whnf
    refine Tr.cond ?_
    conv=>whnf
    refine sg ?_
    conv=>whnf
    refine Tr.ret ?_
    conv=>whnf
    cases h
    rfl
   conv=>whnf
   obtain ⟨x_25, hx_25, h⟩ := bS h
   refine ixP_of hx_25 ?_
   conv=>whnf
   refine Tr.cond ?_
   conv=>whnf
   refine cB h (fun hb26 h => ?_) (fun hb26 h => ?_)
   ·refine sg ?_
    conv=>whnf
    refine Tr.ret ?_
    conv=>whnf
    cases h
    rfl
   refine Tr.skip ?_
   conv=>whnf
   refine rg ?_
   conv=>whnf
   refine arS_raw ?_
   conv=>whnf
   refine ⟨((w64 (i_18 + 1))), h, ?_⟩
   exact Wk.mk2 [] 0 rfl rfl (by decide) rfl trivial ⟨rr, rr, rr, trivial⟩
  refine Tr.exit ?_
  conv=>whnf
  refine ⟨(), h, ?_⟩
  exact Wk.mk2 [] 0 rfl rfl (by decide) rfl trivial ⟨rr, trivial⟩
 clear h
 rintro _ h T1 H1 hw
 replace h : M116 () = some r_2 := h
 conv=>whnf
 refine Tr.weak hw ?_
 unfold M116 at h
 refine sg ?_
 conv=>whnf
 refine Tr.ret ?_
 conv=>whnf
 cases h
 rfl
theorem P140 (f_1 : TField) (l_2 : List TTeam) (i_3 : Int) (k_4 : Int) (r_5 : Bool) (h : M140 f_1 l_2 i_3 k_4 = some r_5) :
    PC prog 9 [(eTField f_1), (.ls (List.map eTTeam l_2)), (.i .i64 i_3), (.i .i64 k_4)] (fun rs => rs = [(.b r_5)]) := by
 refine PC.of_tr (cx := ⟨98, none, lay, 0⟩) layOK func9 rfl rfl rfl rfl rfl (by simp [f9]) ?_
 unfold M140 at h
 refine sg ?_
 conv=>whnf
 refine Tr.seq ?_
 refine sg ?_
 conv=>whnf
 obtain ⟨r_6, hc7, h⟩ := bS h
 refine PC.ecall (P105 r_6 hc7) (fun rs hrs => ?_)
 subst hrs
 conv=>whnf
 refine Tr.cond ?_
 conv=>whnf
 refine cB h (fun hb8 h => ?_) (fun hb8 h => ?_)
 ·refine sg ?_
  conv=>whnf
  refine Tr.ret ?_
  conv=>whnf
  cases h
  rfl
 refine Tr.skip ?_
 conv=>whnf
 refine Tr.seq ?_
 refine Tr.seq ?_
 obtain ⟨v_9, hv10, h⟩ := bS h
 refine Tr.cutQ1 ([(1, .d (.ls (List.map eTTeam l_2))), (2, (dI i_3)), (3, (dI k_4)), (4, .pt 0 0), (8, .d (.b false)), (45, .d (.b v_9))]) ([some (.var [.d (.ls (List.map eTSegment f_1.Clocks.Segments)), .d (.ls (List.map (eL eI) f_1.Clocks.Far)), .d (.ls (List.map eTPair f_1.Pairs)), .d (.ls (List.map eTRunner f_1.Runners))])]) ?_ (fun T1 H1 hw => ?_)
 ·replace h := hv10; clear hv10
  refine rg ?_
  conv=>whnf
  obtain ⟨r_11, hc12, h⟩ := bS h
  refine PC.ecall (P112 f_1 r_11 hc12) (fun rs hrs => ?_)
  subst hrs
  conv=>whnf
  refine cB h (fun hb13 h => ?_) (fun hb13 h => ?_)
  ·conv=>whnf
   cases h
   exact Wk.mk2 [0] 1 rfl rfl (by decide) rfl ⟨rr, trivial⟩ ⟨rr, rr, rr, rr, rr, rr, trivial⟩
  conv=>whnf
  obtain ⟨r_14, hc15, h⟩ := bS h
  refine PC.ecall (P117 l_2 r_14 hc15) (fun rs hrs => ?_)
  subst hrs
  conv=>whnf
  refine cB h (fun hb16 h => ?_) (fun hb16 h => ?_)
  ·conv=>whnf
   cases h
   exact Wk.mk2 [0] 1 rfl rfl (by decide) rfl ⟨rr, trivial⟩ ⟨rr, rr, rr, rr, rr, rr, trivial⟩
  conv=>whnf
  refine cB h (fun hb17 h => ?_) (fun hb17 h => ?_)
  ·conv=>whnf
   cases h
   exact Wk.mk2 [0] 1 rfl rfl (by decide) rfl ⟨rr, trivial⟩ ⟨rr, rr, rr, rr, rr, rr, trivial⟩
  conv=>whnf
  refine cB h (fun hb18 h => ?_) (fun hb18 h => ?_)
  ·conv=>whnf
   cases h
   exact Wk.mk2 [0] 1 rfl rfl (by decide) rfl ⟨rr, trivial⟩ ⟨rr, rr, rr, rr, rr, rr, trivial⟩
  conv=>whnf
  refine lnS_map ?_
  conv=>whnf
  refine cB h (fun hb19 h => ?_) (fun hb19 h => ?_)
  ·conv=>whnf
   cases h
   exact Wk.mk2 [0] 1 rfl rfl (by decide) rfl ⟨rr, trivial⟩ ⟨rr, rr, rr, rr, rr, rr, trivial⟩
  conv=>whnf
  refine lnS_map ?_
  conv=>whnf
  cases h
  exact Wk.mk2 [0] 1 rfl rfl (by decide) rfl ⟨rr, trivial⟩ ⟨rr, rr, rr, rr, rr, rr, trivial⟩
 clear hv10
 conv=>whnf
 refine Tr.weak hw ?_
 refine Tr.cond ?_
 conv=>whnf
 refine cB h (fun hb20 h => ?_) (fun hb20 h => ?_)
 ·refine sg ?_
  conv=>whnf
  refine Tr.ret ?_
  conv=>whnf
  cases h
  rfl
 refine Tr.skip ?_
 conv=>whnf
 refine sg ?_
 conv=>whnf
 refine orB_l ?_
 conv=>whnf
 refine frP_no ?_
 conv=>whnf
 refine eqS_mk (by first | rfl | simp) ?_
 conv=>whnf
 obtain ⟨l_21, hl_21, h⟩ := bS h
 refine apS_of hl_21 (aQ (f := eTTeam) (l := l_2) fun _ => rfl) (by first | rfl | simp) (by first | rfl | simp) (fun he => ?_)
 conv=>whnf
 refine rS (es' := List.map .d (List.map eTTeam l_21)) (n' := List.length l_21) (by subst he; simp only [List.map_append, List.map_cons, List.map_nil, List.nil_append]; first | done | rfl) (by subst he; simp <;> omega) ?_
 clear he
 conv=>whnf
 refine sd [(13,2),(15,2)] [(0,1),(1,1),(2,1),(3,1),(4,1),(5,1),(6,5),(7,5),(8,1),(9,1),(10,5),(11,5),(12,5),(13,0),(14,5),(15,0)] ?_
 conv=>whnf
 refine q1 ?_
 conv=>whnf
 refine q1 ?_
 conv=>whnf
 refine q1 ?_
 conv=>whnf
 refine q1 ?_
 conv=>whnf
 refine q1 ?_
 conv=>whnf
 refine q1 ?_
 conv=>whnf
 obtain ⟨x_22, hx_22, h⟩ := bS h
 refine q3 (ixS_of hx_22 rfl rr) ?_
 conv=>whnf
 refine q3 (elP_of hx_22 rr) ?_
 conv=>whnf
 refine q1 ?_
 conv=>whnf
 refine q1 ?_
 conv=>whnf
 obtain ⟨x_23, hx_23, h⟩ := bS h
 refine q3 (ixS_of hx_23 rfl rr) ?_
 conv=>whnf
 refine q3 (elP_of hx_23 rr) ?_
 conv=>whnf
 obtain ⟨x_24, hx_24, h⟩ := bS h
 refine q3 (ixS_of hx_24 rfl rr) ?_
 conv=>whnf
 refine ⟨_, _, (by (conv=>whnf); (refine elP_of hx_24 ?_); (conv=>whnf); (refine lvS_mk (es' := List.map .d (List.map eTTeam (List.set l_21 (Int.toNat i_3) x_22))) (by simp only [Nat.zero_add, List.map_set]; first | done | rfl) ?_); (conv=>whnf); (exact rr)), kp_ok (by repeat (first | exact trivial | refine ⟨trivial, ?_⟩ | refine ⟨rfl, ?_⟩)), ?_⟩
 conv=>whnf
 obtain ⟨x_25, hx_25, h⟩ := bS h
 refine q3 (ixS_of hx_25 (by first | rfl | simp) rr) ?_
 conv=>whnf
 refine ⟨_, _, (by (conv=>whnf); (refine elP_of hx_25 ?_); (conv=>whnf); (refine lvS_mk (es' := List.map .d (List.map eTTeam (List.set (List.set l_21 (Int.toNat i_3) x_22) (Int.toNat k_4) x_23))) (by simp only [Nat.zero_add, List.map_set]; first | done | rfl) ?_); (conv=>whnf); (exact rr)), kp_ok (by repeat (first | exact trivial | refine ⟨trivial, ?_⟩ | refine ⟨rfl, ?_⟩)), ?_⟩
 conv=>whnf
 refine sg ?_
 conv=>whnf
 obtain ⟨⟨r_26, r_27, r_28⟩, hc29, h⟩ := bS h
 refine PC.ecall (P91 f_1 l_2 i_3 r_26 r_27 r_28 hc29) (fun rs hrs => ?_)
 subst hrs
 conv=>whnf
 refine sg ?_
 conv=>whnf
 obtain ⟨⟨r_30, r_31, r_32⟩, hc33, h⟩ := bS h
 refine PC.ecall_lend ?_ ⟨_, _, func14, rfl, rfl⟩
 conv=>whnf
 refine frE_of (f := eTTeam) (l := (List.set (List.set l_21 (Int.toNat i_3) x_22) (Int.toNat k_4) x_23)) (by first | rfl | simp) ?_
 conv=>whnf
 refine ⟨_, P91 f_1 ((List.set (List.set l_21 (Int.toNat i_3) x_22) (Int.toNat k_4) x_23)) k_4 r_30 r_31 r_32 hc33, fun rs hrs => ?_⟩
 subst hrs
 refine ⟨rfl, ?_⟩
 conv=>whnf
 refine Tr.seq ?_
 refine Tr.seq ?_
 refine Tr.cutQ1 ([(8, .d (.b false)), (10, (dI r_26)), (11, (dI r_27)), (12, (dI r_28)), (13, (dI r_30)), (14, (dI r_31)), (15, (dI r_32)), (84, .d (.b ((r_28 != 0) || (r_32 != 0))))]) ([]) ?_ (fun T1 H1 hw => ?_)
 ·refine rg ?_
  conv=>whnf
  refine condS_mk (fun hb35 => ?_) (fun hb35 => ?_)
  ·conv=>whnf
   exact Wk.mk2 [] 3 rfl rfl (by decide) rfl trivial ⟨rr, rr, rr, rr, rr, rr, rr, ⟨rfl, (by first | rfl | (simp only [↓hb8, ↓hb20, ↓hb35, bl]; done) | (simp only [↓hb8, ↓hb20, ↓hb35, bl]; rfl))⟩, trivial⟩
  conv=>whnf
  exact Wk.mk2 [] 3 rfl rfl (by decide) rfl trivial ⟨rr, rr, rr, rr, rr, rr, rr, ⟨rfl, (by first | rfl | (simp only [↓hb8, ↓hb20, ↓hb35, bl]; done) | (simp only [↓hb8, ↓hb20, ↓hb35, bl]; rfl))⟩, trivial⟩
 conv=>whnf
 refine Tr.weak hw ?_
 refine Tr.cond ?_
 conv=>whnf
 refine cB h (fun hb36 h => ?_) (fun hb36 h => ?_)
 ·refine sg ?_
  conv=>whnf
  refine Tr.ret ?_
  conv=>whnf
  cases h
  rfl
 refine Tr.skip ?_
 conv=>whnf
 refine sg ?_
 conv=>whnf
 refine cB h (fun hb37 h => ?_) (fun hb37 h => ?_)
 ·conv=>whnf
  refine Tr.ret ?_
  conv=>whnf
  cases h
  rfl
 conv=>whnf
 refine Tr.ret ?_
 conv=>whnf
 cases h
 rfl
end Go.Proofs.Tryz
