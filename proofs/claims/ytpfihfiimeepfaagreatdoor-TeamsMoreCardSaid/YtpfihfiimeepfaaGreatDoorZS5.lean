/- Contracts of functions, by program (gen.py). No condition. -/
import Derived.Test.YtpfihfiimeepfaaGreatDoorZL
import Derived.Test.YtpfihfiimeepfaaGreatDoorZM
import Derived.Test.YtpfihfiimeepfaaGreatDoorZCB
import Derived.Test.YtpfihfiimeepfaaGreatDoorZC7
import Derived.Test.YtpfihfiimeepfaaGreatDoorZS4
namespace Go.Proofs.Tryz
open Go Go.Abs Go.Stop
set_option maxRecDepth 8000
set_option linter.unusedVariables false
set_option linter.unusedSimpArgs false
theorem P108 (k_1 : TClocks) (r_2 : Bool) (h : M108 k_1 = some r_2) :
    PC prog 29 [(eTClocks k_1)] (fun rs => rs = [(.b r_2)]) := by
 refine PC.of_tr (cx := ⟨28, none, lay, 0⟩) layOK func29 rfl rfl rfl rfl rfl (by simp [f29]) ?_
 unfold M108 at h
 refine sg ?_
 conv=>whnf
 refine Tr.seq ?_
 refine sg ?_
 conv=>whnf
 refine lnS_map ?_
 conv=>whnf
 refine cB h (fun hb3 h => ?_) (fun hb3 h => ?_)
 ·conv=>whnf
  refine Tr.cond ?_
  conv=>whnf
  refine sg ?_
  conv=>whnf
  refine Tr.ret ?_
  conv=>whnf
  cases h
  rfl
 conv=>whnf
 refine lnS_map ?_
 conv=>whnf
 refine Tr.cond ?_
 conv=>whnf
 refine cB h (fun hb4 h => ?_) (fun hb4 h => ?_)
 ·refine sg ?_
  conv=>whnf
  refine Tr.ret ?_
  conv=>whnf
  cases h
  rfl
 refine Tr.skip ?_
 conv=>whnf
 refine Tr.seq ?_
 refine sg ?_
 conv=>whnf
 refine Tr.cutQ (α := Unit) (fun s => ([(2, .d (.b false))], [])) (fun s => M107 s = some r_2) ?_ ?_
 ·refine Tr.block ?_
  refine Tr.loopM (σ := Int) (fun n s => M106 k_1 M107 n s) r_2 (fun s => ([(1, .pt 0 0), (2, .d (.b false)), (3, (dI s))], [some (.var [.d (.ls (List.map eTSegment k_1.Segments)), .d (.ls (List.map (eL eI) k_1.Far))])])) (((((k_1.Far).length : Int)) - 0 : Int).toNat + 1) (0) h (fun s => rfl) (Wk.mk2 [0] 1 rfl rfl (by decide) rfl ⟨rr, trivial⟩ ⟨rr, rr, rr, trivial⟩) ?_
  clear h
  rintro n_7 i_6 h
  replace h : M106 k_1 M107 (n_7 + 1) i_6 = some r_2 := h
  rw [M106] at h
  refine Tr.seq ?_
  refine sg ?_
  conv=>whnf
  refine lnS_map ?_
  conv=>whnf
  refine Tr.cond ?_
  conv=>whnf
  refine cB h (fun hb10 h => ?_) (fun hb10 h => ?_)
  ·refine Tr.skip ?_
   conv=>whnf
   refine Tr.seq ?_
   refine Tr.block ?_
   refine sg ?_
   conv=>whnf
   obtain ⟨x_11, hx_11, h⟩ := bS h
   refine ixP_of hx_11 ?_
   conv=>whnf
   refine lnS_map ?_
   conv=>whnf
   refine Tr.cond ?_
   conv=>whnf
   refine cB h (fun hb12 h => ?_) (fun hb12 h => ?_)
   ·refine sg ?_
    conv=>whnf
    refine Tr.ret ?_
    conv=>whnf
    cases h
    rfl
   refine Tr.skip ?_
   conv=>whnf
   refine rg ?_
   conv=>whnf
   refine arS_raw ?_
   conv=>whnf
   refine ⟨((w64 (i_6 + 1))), h, ?_⟩
   exact Wk.mk2 [0] 1 rfl rfl (by decide) rfl ⟨rr, trivial⟩ ⟨rr, rr, rr, trivial⟩
  refine Tr.exit ?_
  conv=>whnf
  refine ⟨(), h, ?_⟩
  exact Wk.mk2 [] 1 rfl rfl (by decide) rfl trivial ⟨rr, trivial⟩
 clear h
 rintro _ h T1 H1 hw
 replace h : M107 () = some r_2 := h
 conv=>whnf
 refine Tr.weak hw ?_
 unfold M107 at h
 refine sg ?_
 conv=>whnf
 refine Tr.ret ?_
 conv=>whnf
 cases h
 rfl
theorem P112 (f_1 : TField) (r_2 : Bool) (h : M112 f_1 = some r_2) :
    PC prog 11 [(eTField f_1)] (fun rs => rs = [(.b r_2)]) := by
 refine PC.of_tr (cx := ⟨62, none, lay, 0⟩) layOK func11 rfl rfl rfl rfl rfl (by simp [f11]) ?_
 unfold M112 at h
 refine sg ?_
 conv=>whnf
 refine sg ?_
 conv=>whnf
 refine Tr.seq ?_
 refine sg ?_
 conv=>whnf
 refine lnS_map ?_
 conv=>whnf
 refine cB h (fun hb3 h => ?_) (fun hb3 h => ?_)
 ·conv=>whnf
  refine Tr.cond ?_
  conv=>whnf
  refine sg ?_
  conv=>whnf
  refine Tr.ret ?_
  conv=>whnf
  cases h
  rfl
 conv=>whnf
 refine lnS_map ?_
 conv=>whnf
 refine cB h (fun hb4 h => ?_) (fun hb4 h => ?_)
 ·conv=>whnf
  refine Tr.cond ?_
  conv=>whnf
  refine sg ?_
  conv=>whnf
  refine Tr.ret ?_
  conv=>whnf
  cases h
  rfl
 conv=>whnf
 obtain ⟨r_5, hc6, h⟩ := bS h
 refine PC.ecall (P108 f_1.Clocks r_5 hc6) (fun rs hrs => ?_)
 subst hrs
 conv=>whnf
 refine Tr.cond ?_
 conv=>whnf
 refine cB h (fun hb7 h => ?_) (fun hb7 h => ?_)
 ·refine sg ?_
  conv=>whnf
  refine Tr.ret ?_
  conv=>whnf
  cases h
  rfl
 refine Tr.skip ?_
 conv=>whnf
 refine Tr.seq ?_
 refine sg ?_
 conv=>whnf
 refine Tr.cutQ (α := Int) (fun s => ([(2, .d (.b false)), (3, (dI s))], [])) (fun s => M111 s = some r_2) ?_ ?_
 ·refine Tr.block ?_
  refine Tr.loopM (σ := Int × Int) (fun n s => M110 f_1 M111 n s.1 s.2) r_2 (fun s => ([(1, .pt 0 0), (2, .d (.b false)), (3, (dI s.1)), (4, (dI s.2))], [some (.var [.d (.ls (List.map eTSegment f_1.Clocks.Segments)), .d (.ls (List.map (eL eI) f_1.Clocks.Far)), .d (.ls (List.map eTPair f_1.Pairs)), .d (.ls (List.map eTRunner f_1.Runners))])])) (((((f_1.Runners).length : Int)) - 0 : Int).toNat + 1) (0, 0) h (fun s => rfl) (Wk.mk2 [0] 1 rfl rfl (by decide) rfl ⟨rr, trivial⟩ ⟨rr, rr, rr, rr, trivial⟩) ?_
  clear h
  rintro n_12 ⟨n_10, i_11⟩ h
  replace h : M110 f_1 M111 (n_12 + 1) n_10 i_11 = some r_2 := h
  rw [M110] at h
  refine Tr.seq ?_
  refine sg ?_
  conv=>whnf
  refine lnS_map ?_
  conv=>whnf
  refine Tr.cond ?_
  conv=>whnf
  refine cB h (fun hb16 h => ?_) (fun hb16 h => ?_)
  ·refine Tr.skip ?_
   conv=>whnf
   refine Tr.seq ?_
   refine Tr.block ?_
   refine sg ?_
   conv=>whnf
   obtain ⟨x_17, hx_17, h⟩ := bS h
   refine ixP_of hx_17 ?_
   conv=>whnf
   refine Tr.seq ?_
   refine sg ?_
   conv=>whnf
   refine lnS_map ?_
   conv=>whnf
   refine cB h (fun hb18 h => ?_) (fun hb18 h => ?_)
   ·conv=>whnf
    refine Tr.cond ?_
    conv=>whnf
    refine sg ?_
    conv=>whnf
    refine Tr.ret ?_
    conv=>whnf
    cases h
    rfl
   conv=>whnf
   refine lnS_map ?_
   conv=>whnf
   refine Tr.cond ?_
   conv=>whnf
   refine cB h (fun hb19 h => ?_) (fun hb19 h => ?_)
   ·refine sg ?_
    conv=>whnf
    refine Tr.ret ?_
    conv=>whnf
    cases h
    rfl
   refine Tr.skip ?_
   conv=>whnf
   refine sg ?_
   conv=>whnf
   obtain ⟨n_25, hv30, h⟩ := bS h
   refine Tr.cutQ1 ([(1, .pt 0 0), (2, .d (.b false)), (3, (dI n_25)), (4, (dI i_11))]) ([some (.var [.d (.ls (List.map eTSegment f_1.Clocks.Segments)), .d (.ls (List.map (eL eI) f_1.Clocks.Far)), .d (.ls (List.map eTPair f_1.Pairs)), .d (.ls (List.map eTRunner f_1.Runners))])]) ?_ (fun T1 H1 hw => ?_)
   ·replace h := hv30; clear hv30
    refine Tr.block ?_
    refine Tr.loopM (σ := Int × Int) (fun n s => M109 x_17 n s.1 s.2) n_25 (fun s => ([(1, .pt 0 0), (2, .d (.b false)), (3, (dI s.1)), (4, (dI i_11)), (5, .pt 1 0), (6, (dI s.2))], [some (.var [.d (.ls (List.map eTSegment f_1.Clocks.Segments)), .d (.ls (List.map (eL eI) f_1.Clocks.Far)), .d (.ls (List.map eTPair f_1.Pairs)), .d (.ls (List.map eTRunner f_1.Runners))]), some (.var [(dI x_17.Bib), .d (.ls (List.map eI x_17.Keys)), .d (.ls (List.map (eL eTOutcome) x_17.Worlds))])])) (((((x_17.Worlds).length : Int)) - 0 : Int).toNat + 1) (n_10, 0) h (fun s => rfl) (Wk.mk2 [0, 1] 2 rfl rfl (by decide) rfl ⟨rr, rr, trivial⟩ ⟨rr, rr, rr, rr, rr, rr, trivial⟩) ?_
    clear h
    rintro n_24 ⟨n_22, w_23⟩ h
    replace h : M109 x_17 (n_24 + 1) n_22 w_23 = some n_25 := h
    rw [M109] at h
    refine Tr.seq ?_
    refine sg ?_
    conv=>whnf
    refine lnS_map ?_
    conv=>whnf
    refine Tr.cond ?_
    conv=>whnf
    refine cB h (fun hb28 h => ?_) (fun hb28 h => ?_)
    ·refine Tr.skip ?_
     conv=>whnf
     refine Tr.seq ?_
     refine Tr.block ?_
     refine rg ?_
     conv=>whnf
     obtain ⟨x_29, hx_29, h⟩ := bS h
     refine ixP_of hx_29 ?_
     conv=>whnf
     refine lnS_map ?_
     conv=>whnf
     refine arS_raw ?_
     conv=>whnf
     refine rg ?_
     conv=>whnf
     refine arS_raw ?_
     conv=>whnf
     refine ⟨((w64 (n_22 + (((x_29).length : Int)))), (w64 (w_23 + 1))), h, ?_⟩
     exact Wk.mk2 [0, 1] 2 rfl rfl (by decide) rfl ⟨rr, rr, trivial⟩ ⟨rr, rr, rr, rr, rr, rr, trivial⟩
    refine Tr.exit ?_
    conv=>whnf
    cases h
    exact Wk.mk2 [0] 2 rfl rfl (by decide) rfl ⟨rr, trivial⟩ ⟨rr, rr, rr, rr, trivial⟩
   clear hv30
   conv=>whnf
   refine Tr.weak hw ?_
   refine rg ?_
   conv=>whnf
   refine arS_raw ?_
   conv=>whnf
   refine ⟨(n_25, (w64 (i_11 + 1))), h, ?_⟩
   exact Wk.mk2 [0] 1 rfl rfl (by decide) rfl ⟨rr, trivial⟩ ⟨rr, rr, rr, rr, trivial⟩
  refine Tr.exit ?_
  conv=>whnf
  refine ⟨(n_10), h, ?_⟩
  exact Wk.mk2 [] 1 rfl rfl (by decide) rfl trivial ⟨rr, rr, trivial⟩
 clear h
 rintro n_13 h T1 H1 hw
 replace h : M111 n_13 = some r_2 := h
 conv=>whnf
 refine Tr.weak hw ?_
 unfold M111 at h
 refine sg ?_
 conv=>whnf
 refine Tr.ret ?_
 conv=>whnf
 cases h
 rfl
theorem P117 (l_1 : List TTeam) (r_2 : Bool) (h : M117 l_1 = some r_2) :
    PC prog 12 [(.ls (List.map eTTeam l_1))] (fun rs => rs = [(.b r_2)]) := by
 refine PC.of_tr (cx := ⟨39, none, lay, 0⟩) layOK func12 rfl rfl rfl rfl rfl (by simp [f12]) ?_
 unfold M117 at h
 refine sg ?_
 conv=>whnf
 refine Tr.seq ?_
 refine sg ?_
 conv=>whnf
 refine lnS_map ?_
 conv=>whnf
 refine cB h (fun hb3 h => ?_) (fun hb3 h => ?_)
 ·conv=>whnf
  refine lnS_map ?_
  conv=>whnf
  refine cB h (fun hb4 h => ?_) (fun hb4 h => ?_)
  ·conv=>whnf
   refine Tr.cond ?_
   conv=>whnf
   refine sg ?_
   conv=>whnf
   refine Tr.ret ?_
   conv=>whnf
   cases h
   rfl
  conv=>whnf
  refine lnS_map ?_
  conv=>whnf
  refine Tr.cond ?_
  conv=>whnf
  refine cB h (fun hb5 h => ?_) (fun hb5 h => ?_)
  ·refine sg ?_
   conv=>whnf
   refine Tr.ret ?_
   conv=>whnf
   cases h
   rfl
  refine Tr.skip ?_
  conv=>whnf
  refine Tr.seq ?_
  refine sg ?_
  conv=>whnf
  refine Tr.cutQ (α := Unit) (fun s => ([(2, .d (.b false))], [])) (fun s => M114 s = some r_2) ?_ ?_
  ·refine Tr.block ?_
   refine Tr.loopM (σ := Int) (fun n s => M113 l_1 M114 n s) r_2 (fun s => ([(0, .d (.ls (List.map eTTeam l_1))), (2, .d (.b false)), (3, (dI s))], [])) (((((l_1).length : Int)) - 0 : Int).toNat + 1) (0) h (fun s => rfl) (Wk.mk2 [] 0 rfl rfl (by decide) rfl trivial ⟨rr, rr, rr, trivial⟩) ?_
   clear h
   rintro n_8 i_7 h
   replace h : M113 l_1 M114 (n_8 + 1) i_7 = some r_2 := h
   rw [M113] at h
   refine Tr.seq ?_
   refine sg ?_
   conv=>whnf
   refine lnS_map ?_
   conv=>whnf
   refine Tr.cond ?_
   conv=>whnf
   refine cB h (fun hb11 h => ?_) (fun hb11 h => ?_)
   ·refine Tr.skip ?_
    conv=>whnf
    refine Tr.seq ?_
    refine Tr.block ?_
    refine sg ?_
    conv=>whnf
    obtain ⟨x_12, hx_12, h⟩ := bS h
    refine ixP_of hx_12 ?_
    conv=>whnf
    refine lnS_map ?_
    conv=>whnf
    refine cB h (fun hb13 h => ?_) (fun hb13 h => ?_)
    ·conv=>whnf
     refine Tr.cond ?_
     conv=>whnf
     refine sg ?_
     conv=>whnf
     refine Tr.ret ?_
     conv=>whnf
     cases h
     rfl
    conv=>whnf
    obtain ⟨x_14, hx_14, h⟩ := bS h
    refine ixP_of hx_14 ?_
    conv=>whnf
    refine Tr.cond ?_
    conv=>whnf
    refine cB h (fun hb15 h => ?_) (fun hb15 h => ?_)
    ·refine sg ?_
     conv=>whnf
     refine Tr.ret ?_
     conv=>whnf
     cases h
     rfl
    refine Tr.skip ?_
    conv=>whnf
    refine rg ?_
    conv=>whnf
    refine arS_raw ?_
    conv=>whnf
    refine ⟨((w64 (i_7 + 1))), h, ?_⟩
    exact Wk.mk2 [] 0 rfl rfl (by decide) rfl trivial ⟨rr, rr, rr, trivial⟩
   refine Tr.exit ?_
   conv=>whnf
   refine ⟨(), h, ?_⟩
   exact Wk.mk2 [] 0 rfl rfl (by decide) rfl trivial ⟨rr, trivial⟩
  clear h
  rintro _ h T1 H1 hw
  replace h : M114 () = some r_2 := h
  conv=>whnf
  refine Tr.weak hw ?_
  unfold M114 at h
  refine sg ?_
  conv=>whnf
  refine Tr.ret ?_
  conv=>whnf
  cases h
  rfl
 conv=>whnf
 refine lnS_map ?_
 conv=>whnf
 refine Tr.cond ?_
 conv=>whnf
 refine cB h (fun hb16 h => ?_) (fun hb16 h => ?_)
 ·refine sg ?_
  conv=>whnf
  refine Tr.ret ?_
  conv=>whnf
  cases h
  rfl
 refine Tr.skip ?_
 conv=>whnf
 refine Tr.seq ?_
 refine sg ?_
 conv=>whnf
 refine Tr.cutQ (α := Unit) (fun s => ([(2, .d (.b false))], [])) (fun s => M116 s = some r_2) ?_ ?_
 ·refine Tr.block ?_
  refine Tr.loopM (σ := Int) (fun n s => M115 l_1 M116 n s) r_2 (fun s => ([(0, .d (.ls (List.map eTTeam l_1))), (2, .d (.b false)), (3, (dI s))], [])) (((((l_1).length : Int)) - 0 : Int).toNat + 1) (0) h (fun s => rfl) (Wk.mk2 [] 0 rfl rfl (by decide) rfl trivial ⟨rr, rr, rr, trivial⟩) ?_
  clear h
  rintro n_19 i_18 h
  replace h : M115 l_1 M116 (n_19 + 1) i_18 = some r_2 := h
  rw [M115] at h
  refine Tr.seq ?_
  refine sg ?_
  conv=>whnf
  refine lnS_map ?_
  conv=>whnf
  refine Tr.cond ?_
  conv=>whnf
  refine cB h (fun hb22 h => ?_) (fun hb22 h => ?_)
  ·refine Tr.skip ?_
   conv=>whnf
   refine Tr.seq ?_
   refine Tr.block ?_
   refine sg ?_
   conv=>whnf
   obtain ⟨x_23, hx_23, h⟩ := bS h
   refine ixP_of hx_23 ?_
   conv=>whnf
   refine lnS_map ?_
   conv=>whnf
   refine cB h (fun hb24 h => ?_) (fun hb24 h => ?_)
   ·conv=>whnf
    refine Tr.cond ?_
    conv=>whnf
    refine sg ?_
    conv=>whnf
    refine Tr.ret ?_
    conv=>whnf
    cases h
    rfl
   conv=>whnf
   obtain ⟨x_25, hx_25, h⟩ := bS h
   refine ixP_of hx_25 ?_
   conv=>whnf
   refine Tr.cond ?_
   conv=>whnf
   refine cB h (fun hb26 h => ?_) (fun hb26 h => ?_)
   ·refine sg ?_
    conv=>whnf
    refine Tr.ret ?_
    conv=>whnf
    cases h
    rfl
   refine Tr.skip ?_
   conv=>whnf
   refine rg ?_
   conv=>whnf
   refine arS_raw ?_
   conv=>whnf
   refine ⟨((w64 (i_18 + 1))), h, ?_⟩
   exact Wk.mk2 [] 0 rfl rfl (by decide) rfl trivial ⟨rr, rr, rr, trivial⟩
  refine Tr.exit ?_
  conv=>whnf
  refine ⟨(), h, ?_⟩
  exact Wk.mk2 [] 0 rfl rfl (by decide) rfl trivial ⟨rr, trivial⟩
 clear h
 rintro _ h T1 H1 hw
 replace h : M116 () = some r_2 := h
 conv=>whnf
 refine Tr.weak hw ?_
 unfold M116 at h
 refine sg ?_
 conv=>whnf
 refine Tr.ret ?_
 conv=>whnf
 cases h
 rfl
theorem P120 (t_1 : TTeam) (r_2 : Bool) (h : M120 t_1 = some r_2) :
    PC prog 25 [(eTTeam t_1)] (fun rs => rs = [(.b r_2)]) := by
 refine PC.of_tr (cx := ⟨78, none, lay, 0⟩) layOK func25 rfl rfl rfl rfl rfl (by simp [f25]) ?_
 unfold M120 at h
 refine sg ?_
 conv=>whnf
 refine Tr.seq ?_
 refine Tr.seq ?_
 refine Tr.cutQ1 ([(1, .pt 0 0), (2, .d (.b false)), (38, .d (.b ((decide ((((t_1.Name.size : Nat) : Int)) < 1)) || ((decide ((((t_1.Name.size : Nat) : Int)) > 24)) || ((decide ((((t_1.Bibs).length : Int)) < 1)) || ((decide ((((t_1.Bibs).length : Int)) > 16)) || ((decide (t_1.Best < 1)) || (decide (t_1.Best > (((t_1.Bibs).length : Int)))))))))))]) ([some (.var [.d (.s t_1.Name), .d (.ls (List.map eI t_1.Bibs)), (dI t_1.Best)])]) ?_ (fun T1 H1 hw => ?_)
 ·refine rg ?_
  conv=>whnf
  refine condS_mk (fun hb4 => ?_) (fun hb4 => ?_)
  ·conv=>whnf
   exact Wk.mk2 [0] 1 rfl rfl (by decide) rfl ⟨rr, trivial⟩ ⟨rr, rr, ⟨rfl, (by first | rfl | (simp only [↓hb4, bl]; done) | (simp only [↓hb4, bl]; rfl))⟩, trivial⟩
  conv=>whnf
  refine condS_mk (fun hb5 => ?_) (fun hb5 => ?_)
  ·conv=>whnf
   exact Wk.mk2 [0] 1 rfl rfl (by decide) rfl ⟨rr, trivial⟩ ⟨rr, rr, ⟨rfl, (by first | rfl | (simp only [↓hb4, ↓hb5, bl]; done) | (simp only [↓hb4, ↓hb5, bl]; rfl))⟩, trivial⟩
  conv=>whnf
  refine lnS_map ?_
  conv=>whnf
  refine condS_mk (fun hb6 => ?_) (fun hb6 => ?_)
  ·conv=>whnf
   exact Wk.mk2 [0] 1 rfl rfl (by decide) rfl ⟨rr, trivial⟩ ⟨rr, rr, ⟨rfl, (by first | rfl | (simp only [↓hb4, ↓hb5, ↓hb6, bl]; done) | (simp only [↓hb4, ↓hb5, ↓hb6, bl]; rfl))⟩, trivial⟩
  conv=>whnf
  refine lnS_map ?_
  conv=>whnf
  refine condS_mk (fun hb7 => ?_) (fun hb7 => ?_)
  ·conv=>whnf
   exact Wk.mk2 [0] 1 rfl rfl (by decide) rfl ⟨rr, trivial⟩ ⟨rr, rr, ⟨rfl, (by first | rfl | (simp only [↓hb4, ↓hb5, ↓hb6, ↓hb7, bl]; done) | (simp only [↓hb4, ↓hb5, ↓hb6, ↓hb7, bl]; rfl))⟩, trivial⟩
  conv=>whnf
  refine condS_mk (fun hb8 => ?_) (fun hb8 => ?_)
  ·conv=>whnf
   exact Wk.mk2 [0] 1 rfl rfl (by decide) rfl ⟨rr, trivial⟩ ⟨rr, rr, ⟨rfl, (by first | rfl | (simp only [↓hb4, ↓hb5, ↓hb6, ↓hb7, ↓hb8, bl]; done) | (simp only [↓hb4, ↓hb5, ↓hb6, ↓hb7, ↓hb8, bl]; rfl))⟩, trivial⟩
  conv=>whnf
  refine lnS_map ?_
  conv=>whnf
  exact Wk.mk2 [0] 1 rfl rfl (by decide) rfl ⟨rr, trivial⟩ ⟨rr, rr, ⟨rfl, (by first | rfl | (simp only [↓hb4, ↓hb5, ↓hb6, ↓hb7, ↓hb8, bl]; done) | (simp only [↓hb4, ↓hb5, ↓hb6, ↓hb7, ↓hb8, bl]; rfl))⟩, trivial⟩
 conv=>whnf
 refine Tr.weak hw ?_
 refine Tr.cond ?_
 conv=>whnf
 refine cB h (fun hb9 h => ?_) (fun hb9 h => ?_)
 ·refine sg ?_
  conv=>whnf
  refine Tr.ret ?_
  conv=>whnf
  cases h
  rfl
 refine Tr.skip ?_
 conv=>whnf
 refine Tr.seq ?_
 refine sg ?_
 conv=>whnf
 refine Tr.cutQ (α := Unit) (fun s => ([(2, .d (.b false))], [])) (fun s => M119 s = some r_2) ?_ ?_
 ·refine Tr.block ?_
  refine Tr.loopM (σ := Int) (fun n s => M118 t_1 M119 n s) r_2 (fun s => ([(1, .pt 0 0), (2, .d (.b false)), (3, (dI s))], [some (.var [.d (.s t_1.Name), .d (.ls (List.map eI t_1.Bibs)), (dI t_1.Best)])])) (((((t_1.Bibs).length : Int)) - 0 : Int).toNat + 1) (0) h (fun s => rfl) (Wk.mk2 [0] 1 rfl rfl (by decide) rfl ⟨rr, trivial⟩ ⟨rr, rr, rr, trivial⟩) ?_
  clear h
  rintro n_12 i_11 h
  replace h : M118 t_1 M119 (n_12 + 1) i_11 = some r_2 := h
  rw [M118] at h
  refine Tr.seq ?_
  refine sg ?_
  conv=>whnf
  refine lnS_map ?_
  conv=>whnf
  refine Tr.cond ?_
  conv=>whnf
  refine cB h (fun hb15 h => ?_) (fun hb15 h => ?_)
  ·refine Tr.skip ?_
   conv=>whnf
   refine Tr.seq ?_
   refine Tr.block ?_
   refine Tr.seq ?_
   obtain ⟨v_16, hv17, h⟩ := bS h
   refine Tr.cutQ1 ([(1, .pt 0 0), (2, .d (.b false)), (3, (dI i_11)), (77, .d (.b v_16))]) ([some (.var [.d (.s t_1.Name), .d (.ls (List.map eI t_1.Bibs)), (dI t_1.Best)])]) ?_ (fun T1 H1 hw => ?_)
   ·replace h := hv17; clear hv17
    refine dq [] [(0,3),(1,3),(2,1),(3,2),(4,2),(5,1),(6,1),(7,3),(8,3),(9,1),(10,2),(11,2),(12,1),(13,1),(14,1),(15,1),(16,1),(17,1),(18,3),(19,3),(20,1),(21,2),(22,2),(23,3),(24,3),(25,1),(26,1),(27,2),(28,2),(29,1),(30,1),(31,1)] ?_
    conv=>whnf
    refine q2 ?_
    conv=>whnf
    refine q2 ?_
    conv=>whnf
    refine q1 ?_
    conv=>whnf
    obtain ⟨x_18, hx_18, h⟩ := bS h
    refine q3 (ixP_of hx_18 rr) ?_
    conv=>whnf
    refine q2 ?_
    conv=>whnf
    refine q1 ?_
    conv=>whnf
    refine q1 ?_
    conv=>whnf
    refine cB h (fun hb19 h => ?_) (fun hb19 h => ?_)
    ·conv=>whnf
     refine q1 ?_
     conv=>whnf
     refine q1 ?_
     conv=>whnf
     refine q1 ?_
     conv=>whnf
     cases h
     exact Wk.mk2 [0] 1 rfl rfl (by decide) rfl ⟨rr, trivial⟩ ⟨rr, rr, rr, rr, trivial⟩
    conv=>whnf
    refine q2 ?_
    conv=>whnf
    refine q2 ?_
    conv=>whnf
    refine q1 ?_
    conv=>whnf
    obtain ⟨x_20, hx_20, h⟩ := bS h
    refine q3 (ixP_of hx_20 rr) ?_
    conv=>whnf
    refine q2 ?_
    conv=>whnf
    refine q1 ?_
    conv=>whnf
    refine q1 ?_
    conv=>whnf
    refine q1 ?_
    conv=>whnf
    refine cB h (fun hb21 h => ?_) (fun hb21 h => ?_)
    ·conv=>whnf
     refine q1 ?_
     conv=>whnf
     cases h
     exact Wk.mk2 [0] 1 rfl rfl (by decide) rfl ⟨rr, trivial⟩ ⟨rr, rr, rr, rr, trivial⟩
    conv=>whnf
    refine q1 ?_
    conv=>whnf
    refine q1 ?_
    conv=>whnf
    refine q1 ?_
    conv=>whnf
    refine cB h (fun hb22 h => ?_) (fun hb22 h => ?_)
    ·conv=>whnf
     refine q2 ?_
     conv=>whnf
     refine q2 ?_
     conv=>whnf
     refine q1 ?_
     conv=>whnf
     obtain ⟨x_23, hx_23, h⟩ := bS h
     refine q3 (ixP_of hx_23 rr) ?_
     conv=>whnf
     refine q2 ?_
     conv=>whnf
     refine q2 ?_
     conv=>whnf
     refine q2 ?_
     conv=>whnf
     refine q1 ?_
     conv=>whnf
     refine q4 ?_
     conv=>whnf
     obtain ⟨x_24, hx_24, h⟩ := bS h
     refine q3 (ixP_of hx_24 rr) ?_
     conv=>whnf
     refine q2 ?_
     conv=>whnf
     refine q1 ?_
     conv=>whnf
     refine q1 ?_
     conv=>whnf
     refine q1 ?_
     conv=>whnf
     cases h
     exact Wk.mk2 [0] 1 rfl rfl (by decide) rfl ⟨rr, trivial⟩ ⟨rr, rr, rr, rr, trivial⟩
    conv=>whnf
    refine q1 ?_
    conv=>whnf
    refine q1 ?_
    conv=>whnf
    cases h
    exact Wk.mk2 [0] 1 rfl rfl (by decide) rfl ⟨rr, trivial⟩ ⟨rr, rr, rr, rr, trivial⟩
   clear hv17
   conv=>whnf
   refine Tr.weak hw ?_
   refine Tr.cond ?_
   conv=>whnf
   refine cB h (fun hb25 h => ?_) (fun hb25 h => ?_)
   ·refine sg ?_
    conv=>whnf
    refine Tr.ret ?_
    conv=>whnf
    cases h
    rfl
   refine Tr.skip ?_
   conv=>whnf
   refine rg ?_
   conv=>whnf
   refine arS_raw ?_
   conv=>whnf
   refine ⟨((w64 (i_11 + 1))), h, ?_⟩
   exact Wk.mk2 [0] 1 rfl rfl (by decide) rfl ⟨rr, trivial⟩ ⟨rr, rr, rr, trivial⟩
  refine Tr.exit ?_
  conv=>whnf
  refine ⟨(), h, ?_⟩
  exact Wk.mk2 [] 1 rfl rfl (by decide) rfl trivial ⟨rr, trivial⟩
 clear h
 rintro _ h T1 H1 hw
 replace h : M119 () = some r_2 := h
 conv=>whnf
 refine Tr.weak hw ?_
 unfold M119 at h
 refine sg ?_
 conv=>whnf
 refine Tr.ret ?_
 conv=>whnf
 cases h
 rfl
theorem P145 (l_1 : List Int) (n_2 : Int) (r_3 : Bool) (h : M145 l_1 n_2 = some r_3) :
    PC prog 26 [(.ls (List.map eI l_1)), (.i .i64 n_2)] (fun rs => rs = [(.b r_3)]) := by
 refine PC.of_tr (cx := ⟨18, none, lay, 0⟩) layOK func26 rfl rfl rfl rfl rfl (by simp [f26]) ?_
 unfold M145 at h
 refine sg ?_
 conv=>whnf
 refine Tr.seq ?_
 refine sg ?_
 conv=>whnf
 refine Tr.cutQ (α := Unit) (fun s => ([(4, .d (.b false))], [])) (fun s => M144 s = some r_3) ?_ ?_
 ·refine Tr.block ?_
  refine Tr.loopM (σ := Int) (fun n s => M143 l_1 n_2 M144 n s) r_3 (fun s => ([(0, .d (.ls (List.map eI l_1))), (1, (dI n_2)), (4, .d (.b false)), (5, (dI s))], [])) (((((l_1).length : Int)) - 0 : Int).toNat + 1) (0) h (fun s => rfl) (Wk.mk2 [] 0 rfl rfl (by decide) rfl trivial ⟨rr, rr, rr, rr, trivial⟩) ?_
  clear h
  rintro n_6 i_5 h
  replace h : M143 l_1 n_2 M144 (n_6 + 1) i_5 = some r_3 := h
  rw [M143] at h
  refine Tr.seq ?_
  refine sg ?_
  conv=>whnf
  refine lnS_map ?_
  conv=>whnf
  refine Tr.cond ?_
  conv=>whnf
  refine cB h (fun hb9 h => ?_) (fun hb9 h => ?_)
  ·refine Tr.skip ?_
   conv=>whnf
   refine Tr.seq ?_
   refine Tr.block ?_
   refine sg ?_
   conv=>whnf
   obtain ⟨x_10, hx_10, h⟩ := bS h
   refine ixP_of hx_10 ?_
   conv=>whnf
   refine Tr.cond ?_
   conv=>whnf
   refine cB h (fun hb11 h => ?_) (fun hb11 h => ?_)
   ·refine sg ?_
    conv=>whnf
    refine Tr.ret ?_
    conv=>whnf
    cases h
    rfl
   refine Tr.skip ?_
   conv=>whnf
   refine rg ?_
   conv=>whnf
   refine arS_raw ?_
   conv=>whnf
   refine ⟨((w64 (i_5 + 1))), h, ?_⟩
   exact Wk.mk2 [] 0 rfl rfl (by decide) rfl trivial ⟨rr, rr, rr, rr, trivial⟩
  refine Tr.exit ?_
  conv=>whnf
  refine ⟨(), h, ?_⟩
  exact Wk.mk2 [] 0 rfl rfl (by decide) rfl trivial ⟨rr, trivial⟩
 clear h
 rintro _ h T1 H1 hw
 replace h : M144 () = some r_3 := h
 conv=>whnf
 refine Tr.weak hw ?_
 unfold M144 at h
 refine sg ?_
 conv=>whnf
 refine Tr.ret ?_
 conv=>whnf
 cases h
 rfl
theorem P147 (f_1 : TField) (t_2 : TTeam) (bib_3 : Int) (r_4 : Bool) (h : M147 f_1 t_2 bib_3 = some r_4) :
    PC prog 6 [(eTField f_1), (eTTeam t_2), (.i .i64 bib_3)] (fun rs => rs = [(.b r_4)]) := by
 refine PC.of_tr (cx := ⟨163, none, lay, 0⟩) layOK func6 rfl rfl rfl rfl rfl (by simp [f6]) ?_
 unfold M147 at h
 refine sg ?_
 conv=>whnf
 refine Tr.seq ?_
 refine sg ?_
 conv=>whnf
 obtain ⟨r_5, hc6, h⟩ := bS h
 refine PC.ecall (P105 r_5 hc6) (fun rs hrs => ?_)
 subst hrs
 conv=>whnf
 refine Tr.cond ?_
 conv=>whnf
 refine cB h (fun hb7 h => ?_) (fun hb7 h => ?_)
 ·refine sg ?_
  conv=>whnf
  refine Tr.ret ?_
  conv=>whnf
  cases h
  rfl
 refine Tr.skip ?_
 conv=>whnf
 refine Tr.seq ?_
 refine Tr.seq ?_
 obtain ⟨v_8, hv9, h⟩ := bS h
 refine Tr.cutQ1 ([(2, (dI bib_3)), (3, .pt 0 0), (4, .pt 1 0), (6, .d (.b false)), (42, .d (.b v_8))]) ([some (.var [.d (.ls (List.map eTSegment f_1.Clocks.Segments)), .d (.ls (List.map (eL eI) f_1.Clocks.Far)), .d (.ls (List.map eTPair f_1.Pairs)), .d (.ls (List.map eTRunner f_1.Runners))]), some (.var [.d (.s t_2.Name), .d (.ls (List.map eI t_2.Bibs)), (dI t_2.Best)])]) ?_ (fun T1 H1 hw => ?_)
 ·replace h := hv9; clear hv9
  refine rg ?_
  conv=>whnf
  obtain ⟨r_10, hc11, h⟩ := bS h
  refine PC.ecall (P112 f_1 r_10 hc11) (fun rs hrs => ?_)
  subst hrs
  conv=>whnf
  refine cB h (fun hb12 h => ?_) (fun hb12 h => ?_)
  ·conv=>whnf
   cases h
   exact Wk.mk2 [0, 1] 2 rfl rfl (by decide) rfl ⟨rr, rr, trivial⟩ ⟨rr, rr, rr, rr, rr, trivial⟩
  conv=>whnf
  refine orB_r ?_
  conv=>whnf
  obtain ⟨r_13, hc14, h⟩ := bS h
  refine PC.ecall (P117 ((([t_2] : List TTeam))) r_13 hc14) (fun rs hrs => ?_)
  subst hrs
  conv=>whnf
  refine cB h (fun hb15 h => ?_) (fun hb15 h => ?_)
  ·conv=>whnf
   cases h
   exact Wk.mk2 [0, 1] 2 rfl rfl (by decide) rfl ⟨rr, rr, trivial⟩ ⟨rr, rr, rr, rr, rr, trivial⟩
  conv=>whnf
  obtain ⟨r_16, hc17, h⟩ := bS h
  refine PC.ecall (P120 t_2 r_16 hc17) (fun rs hrs => ?_)
  subst hrs
  conv=>whnf
  refine cB h (fun hb18 h => ?_) (fun hb18 h => ?_)
  ·conv=>whnf
   cases h
   exact Wk.mk2 [0, 1] 2 rfl rfl (by decide) rfl ⟨rr, rr, trivial⟩ ⟨rr, rr, rr, rr, rr, trivial⟩
  conv=>whnf
  refine lnS_map ?_
  conv=>whnf
  refine cB h (fun hb19 h => ?_) (fun hb19 h => ?_)
  ·conv=>whnf
   cases h
   exact Wk.mk2 [0, 1] 2 rfl rfl (by decide) rfl ⟨rr, rr, trivial⟩ ⟨rr, rr, rr, rr, rr, trivial⟩
  conv=>whnf
  obtain ⟨r_20, hc21, h⟩ := bS h
  refine PC.ecall (P145 t_2.Bibs bib_3 r_20 hc21) (fun rs hrs => ?_)
  subst hrs
  conv=>whnf
  cases h
  exact Wk.mk2 [0, 1] 2 rfl rfl (by decide) rfl ⟨rr, rr, trivial⟩ ⟨rr, rr, rr, rr, rr, trivial⟩
 clear hv9
 conv=>whnf
 refine Tr.weak hw ?_
 refine Tr.cond ?_
 conv=>whnf
 refine cB h (fun hb22 h => ?_) (fun hb22 h => ?_)
 ·refine sg ?_
  conv=>whnf
  refine Tr.ret ?_
  conv=>whnf
  cases h
  rfl
 refine Tr.skip ?_
 conv=>whnf
 refine sg ?_
 conv=>whnf
 obtain ⟨⟨r_23, r_24⟩, hc25, h⟩ := bS h
 refine PC.ecall (P82 f_1 t_2 r_23 r_24 hc25) (fun rs hrs => ?_)
 subst hrs
 conv=>whnf
 refine sg ?_
 conv=>whnf
 refine orB_r ?_
 conv=>whnf
 obtain ⟨⟨r_26, r_27⟩, hc28, h⟩ := bS h
 refine PC.ecall (P82 f_1 (({ Name := ((ByteArray.mk #[120])), Bibs := (([bib_3] : List Int)), Best := 1 } : TTeam)) r_26 r_27 hc28) (fun rs hrs => ?_)
 subst hrs
 conv=>whnf
 refine Tr.seq ?_
 refine Tr.seq ?_
 refine Tr.cutQ1 ([(2, (dI bib_3)), (3, .pt 0 0), (4, .pt 1 0), (6, .d (.b false)), (7, .pt 2 0), (76, .d (.b ((r_24 != 0) || ((r_27 != 0) || (r_23.Out || (r_26.Out || ((((r_23.Sums).length : Int)) == 0)))))))]) ([some (.var [.d (.ls (List.map eTSegment f_1.Clocks.Segments)), .d (.ls (List.map (eL eI) f_1.Clocks.Far)), .d (.ls (List.map eTPair f_1.Pairs)), .d (.ls (List.map eTRunner f_1.Runners))]), some (.var [.d (.s t_2.Name), .d (.ls (List.map eI t_2.Bibs)), (dI t_2.Best)]), some (.var [(dI r_23.Bib), .d (.ls (List.map eTSpan r_23.Sums)), .d (.b r_23.Out)])]) ?_ (fun T1 H1 hw => ?_)
 ·refine rg ?_
  conv=>whnf
  refine condS_mk (fun hb30 => ?_) (fun hb30 => ?_)
  ·conv=>whnf
   exact Wk.mk2 [0, 1, 2] 4 rfl rfl (by decide) rfl ⟨rr, rr, rr, trivial⟩ ⟨rr, rr, rr, rr, rr, ⟨rfl, (by first | rfl | (simp only [↓hb7, ↓hb22, ↓hb30, bl]; done) | (simp only [↓hb7, ↓hb22, ↓hb30, bl]; rfl))⟩, trivial⟩
  conv=>whnf
  refine condS_mk (fun hb31 => ?_) (fun hb31 => ?_)
  ·conv=>whnf
   exact Wk.mk2 [0, 1, 2] 4 rfl rfl (by decide) rfl ⟨rr, rr, rr, trivial⟩ ⟨rr, rr, rr, rr, rr, ⟨rfl, (by first | rfl | (simp only [↓hb7, ↓hb22, ↓hb30, ↓hb31, bl]; done) | (simp only [↓hb7, ↓hb22, ↓hb30, ↓hb31, bl]; rfl))⟩, trivial⟩
  conv=>whnf
  refine condS_mk (fun hb32 => ?_) (fun hb32 => ?_)
  ·conv=>whnf
   exact Wk.mk2 [0, 1, 2] 4 rfl rfl (by decide) rfl ⟨rr, rr, rr, trivial⟩ ⟨rr, rr, rr, rr, rr, ⟨rfl, (by first | rfl | (simp only [↓hb7, ↓hb22, ↓hb30, ↓hb31, ↓hb32, bl]; done) | (simp only [↓hb7, ↓hb22, ↓hb30, ↓hb31, ↓hb32, bl]; rfl))⟩, trivial⟩
  conv=>whnf
  refine condS_mk (fun hb33 => ?_) (fun hb33 => ?_)
  ·conv=>whnf
   exact Wk.mk2 [0, 1, 2] 4 rfl rfl (by decide) rfl ⟨rr, rr, rr, trivial⟩ ⟨rr, rr, rr, rr, rr, ⟨rfl, (by first | rfl | (simp only [↓hb7, ↓hb22, ↓hb30, ↓hb31, ↓hb32, ↓hb33, bl]; done) | (simp only [↓hb7, ↓hb22, ↓hb30, ↓hb31, ↓hb32, ↓hb33, bl]; rfl))⟩, trivial⟩
  conv=>whnf
  refine lnS_map ?_
  conv=>whnf
  exact Wk.mk2 [0, 1, 2] 4 rfl rfl (by decide) rfl ⟨rr, rr, rr, trivial⟩ ⟨rr, rr, rr, rr, rr, ⟨rfl, (by first | rfl | (simp only [↓hb7, ↓hb22, ↓hb30, ↓hb31, ↓hb32, ↓hb33, bl]; done) | (simp only [↓hb7, ↓hb22, ↓hb30, ↓hb31, ↓hb32, ↓hb33, bl]; rfl))⟩, trivial⟩
 conv=>whnf
 refine Tr.weak hw ?_
 refine Tr.cond ?_
 conv=>whnf
 refine cB h (fun hb34 h => ?_) (fun hb34 h => ?_)
 ·refine sg ?_
  conv=>whnf
  refine Tr.ret ?_
  conv=>whnf
  cases h
  rfl
 refine Tr.skip ?_
 conv=>whnf
 refine sg ?_
 conv=>whnf
 refine Tr.seq ?_
 obtain ⟨k_38, hv44, h⟩ := bS h
 refine Tr.cutQ1 ([(2, (dI bib_3)), (3, .pt 0 0), (4, .pt 1 0), (6, .d (.b false)), (7, .pt 2 0), (11, (dI k_38))]) ([some (.var [.d (.ls (List.map eTSegment f_1.Clocks.Segments)), .d (.ls (List.map (eL eI) f_1.Clocks.Far)), .d (.ls (List.map eTPair f_1.Pairs)), .d (.ls (List.map eTRunner f_1.Runners))]), some (.var [.d (.s t_2.Name), .d (.ls (List.map eI t_2.Bibs)), (dI t_2.Best)]), some (.var [(dI r_23.Bib), .d (.ls (List.map eTSpan r_23.Sums)), .d (.b r_23.Out)])]) ?_ (fun T1 H1 hw => ?_)
 ·replace h := hv44; clear hv44
  refine Tr.block ?_
  refine Tr.loopM (σ := Int) (fun n s => M146 t_2 bib_3 n s) k_38 (fun s => ([(2, (dI bib_3)), (3, .pt 0 0), (4, .pt 1 0), (6, .d (.b false)), (7, .pt 2 0), (11, (dI s))], [some (.var [.d (.ls (List.map eTSegment f_1.Clocks.Segments)), .d (.ls (List.map (eL eI) f_1.Clocks.Far)), .d (.ls (List.map eTPair f_1.Pairs)), .d (.ls (List.map eTRunner f_1.Runners))]), some (.var [.d (.s t_2.Name), .d (.ls (List.map eI t_2.Bibs)), (dI t_2.Best)]), some (.var [(dI r_23.Bib), .d (.ls (List.map eTSpan r_23.Sums)), .d (.b r_23.Out)])])) (((((t_2.Bibs).length : Int)) - 0 : Int).toNat + 1) (0) h (fun s => rfl) (Wk.mk2 [0, 1, 2] 3 rfl rfl (by decide) rfl ⟨rr, rr, rr, trivial⟩ ⟨rr, rr, rr, rr, rr, rr, trivial⟩) ?_
  clear h
  rintro n_37 k_36 h
  replace h : M146 t_2 bib_3 (n_37 + 1) k_36 = some k_38 := h
  rw [M146] at h
  refine Tr.seq ?_
  refine sg ?_
  conv=>whnf
  refine lnS_map ?_
  conv=>whnf
  refine cB h (fun hb41 h => ?_) (fun hb41 h => ?_)
  ·conv=>whnf
   obtain ⟨x_42, hx_42, h⟩ := bS h
   refine ixP_of hx_42 ?_
   conv=>whnf
   refine Tr.cond ?_
   conv=>whnf
   refine cB h (fun hb43 h => ?_) (fun hb43 h => ?_)
   ·refine Tr.skip ?_
    conv=>whnf
    refine Tr.block ?_
    refine rg ?_
    conv=>whnf
    refine arS_raw ?_
    conv=>whnf
    refine ⟨((w64 (k_36 + 1))), h, ?_⟩
    exact Wk.mk2 [0, 1, 2] 3 rfl rfl (by decide) rfl ⟨rr, rr, rr, trivial⟩ ⟨rr, rr, rr, rr, rr, rr, trivial⟩
   refine Tr.exit ?_
   conv=>whnf
   cases h
   exact Wk.mk2 [0, 1, 2] 3 rfl rfl (by decide) rfl ⟨rr, rr, rr, trivial⟩ ⟨rr, rr, rr, rr, rr, rr, trivial⟩
  conv=>whnf
  refine Tr.cond ?_
  conv=>whnf
  refine Tr.exit ?_
  conv=>whnf
  cases h
  exact Wk.mk2 [0, 1, 2] 3 rfl rfl (by decide) rfl ⟨rr, rr, rr, trivial⟩ ⟨rr, rr, rr, rr, rr, rr, trivial⟩
 clear hv44
 conv=>whnf
 refine Tr.weak hw ?_
 refine Tr.seq ?_
 refine Tr.draw (DrawP.treeQ layOK mixed [(9, 3), (9, 4), (9, 5), (9, 6), (9, 7), (12, 3), (12, 4), (12, 5), (12, 6), (12, 7), (17, 3), (17, 4), (17, 5), (17, 6), (17, 7), (20, 3), (20, 4), (20, 5), (20, 6), (20, 7)] (.one 0 4 (.one 1 4 (.one 2 4 (.one 3 4 (.one 5 4 (.one 6 4 (.one 7 1 (.one 8 1 (.one 10 1 (.one 11 1 (.one 13 4 (.one 14 4 (.one 15 1 (.one 16 1 (.two 4 (.two 9 (.two 12 (.two 17 (.one 18 1 (.one 19 0 (.one 20 0 .nil))) 19 (.one 17 0 (.one 18 1 (.one 20 0 .nil)))) 19 (.one 12 0 (.one 17 0 (.one 18 1 (.one 20 0 .nil))))) 19 (.one 9 0 (.one 12 0 (.one 17 0 (.one 18 1 (.one 20 0 .nil)))))) 19 (.one 4 0 (.one 9 0 (.one 12 0 (.one 17 0 (.one 18 1 (.one 20 0 .nil))))))))))))))))))))) (by kernel_rfl) ?_)
 conv=>whnf
 refine q2 ?_
 conv=>whnf
 refine q2 ?_
 conv=>whnf
 refine q2 ?_
 conv=>whnf
 refine q2 ?_
 conv=>whnf
 refine q2 ?_
 conv=>whnf
 refine q2 ?_
 conv=>whnf
 refine q1 ?_
 conv=>whnf
 obtain ⟨l_45, hl_45, h⟩ := bS h
 refine ⟨_, (fun _ => by (conv=>whnf); (refine szS_mk (szq_map fun _ => rfl) ?_); (conv=>whnf); (refine slS_to hl_45 (by simp) rfl (fun he => ?_)); (conv=>whnf); (refine lsS_mk (es' := List.map eI l_45) (by subst he; simp [List.map_take, List.map_drop]) ?_); (clear he); (conv=>whnf); (exact rr)), ?_⟩
 conv=>whnf
 refine q1 ?_
 conv=>whnf
 refine q1 ?_ (fun _ => orB_r rr)
 conv=>whnf
 refine q2 ?_
 conv=>whnf
 refine q2 ?_
 conv=>whnf
 refine q1 ?_
 conv=>whnf
 obtain ⟨l_46, hl_46, h⟩ := bS h
 refine ⟨_, (fun _ => by (conv=>whnf); (refine szS_mk (szq_map fun _ => rfl) ?_); (conv=>whnf); (refine slS_from hl_46 (by simp) rfl (fun he => ?_)); (conv=>whnf); (refine lsS_mk (es' := List.map eI l_46) (by subst he; simp [List.map_take, List.map_drop]) ?_); (clear he); (conv=>whnf); (exact rr)), ?_⟩
 conv=>whnf
 refine ⟨?_, ?_⟩
 ·conv=>whnf
  refine ⟨_, _, (by (conv=>whnf); (refine orB_l ?_); (conv=>whnf); (exact rr)), kp_ok (by repeat (first | exact trivial | refine ⟨trivial, ?_⟩ | refine ⟨rfl, ?_⟩)), ?_⟩
  conv=>whnf
  refine ⟨?_, ?_⟩
  ·conv=>whnf
   obtain ⟨l_47, hl_47, h⟩ := bS h
   refine ⟨_, _, (by (conv=>whnf); (refine frP_no ?_); (conv=>whnf); (refine eqS_mk (by first | rfl | simp) ?_); (conv=>whnf); (refine apS_of hl_47 (aQ (f := eI) (l := l_45) fun _ => rfl) (by first | rfl | simp) (by first | rfl | simp) (fun he => ?_)); (conv=>whnf); (refine rS (es' := List.map .d (List.map eI l_47)) (n' := List.length l_47) (by subst he; simp only [List.map_append, List.map_cons, List.map_nil, List.nil_append]; first | done | rfl) (by subst he; simp <;> omega) ?_); (clear he); (conv=>whnf); (exact rr)), kp_ok (by repeat (first | exact trivial | refine ⟨trivial, ?_⟩ | refine ⟨rfl, ?_⟩)), ?_⟩
   conv=>whnf
   refine ⟨?_, ?_⟩
   ·conv=>whnf
    obtain ⟨l_48, hl_48, h⟩ := bS h
    refine ⟨_, _, (by (conv=>whnf); (refine frP_no ?_); (conv=>whnf); (refine eqS_mk (by first | rfl | simp) ?_); (conv=>whnf); (refine apS_of hl_48 (aQ (f := eI) (l := (([bib_3] : List Int))) fun _ => rfl) (by first | rfl | simp) (by first | rfl | simp) (fun he => ?_)); (conv=>whnf); (refine rS (es' := List.map .d (List.map eI l_48)) (n' := List.length l_48) (by subst he; simp only [List.map_append, List.map_cons, List.map_nil, List.nil_append]; first | done | rfl) (by subst he; simp <;> omega) ?_); (clear he); (conv=>whnf); (exact rr)), kp_ok (by repeat (first | exact trivial | refine ⟨trivial, ?_⟩ | refine ⟨rfl, ?_⟩)), ?_⟩
    conv=>whnf
    refine ⟨?_, ?_⟩
    ·conv=>whnf
     obtain ⟨l_49, hl_49, h⟩ := bS h
     refine ⟨_, _, (by (conv=>whnf); (refine frP_no ?_); (conv=>whnf); (refine eqS_mk (by first | rfl | simp) ?_); (conv=>whnf); (refine apS_of hl_49 (aQ (f := eI) (l := l_46) fun _ => rfl) (by first | rfl | simp) (by first | rfl | simp) (fun he => ?_)); (conv=>whnf); (refine rS (es' := List.map .d (List.map eI l_49)) (n' := List.length l_49) (by subst he; simp only [List.map_append, List.map_cons, List.map_nil, List.nil_append]; first | done | rfl) (by subst he; simp <;> omega) ?_); (clear he); (conv=>whnf); (exact rr)), kp_ok (by repeat (first | exact trivial | refine ⟨trivial, ?_⟩ | refine ⟨rfl, ?_⟩)), ?_⟩
     conv=>whnf
     refine q1 ?_
     conv=>whnf
     refine ⟨_, _, rr, kp_ok (by repeat (first | exact trivial | refine ⟨trivial, ?_⟩ | refine ⟨rfl, ?_⟩)), ?_⟩
     conv=>whnf
     refine ⟨_, _, (by (conv=>whnf); (refine orB_l ?_); (conv=>whnf); (exact rr)), kp_ok (by repeat (first | exact trivial | refine ⟨trivial, ?_⟩ | refine ⟨rfl, ?_⟩)), ?_⟩
     conv=>whnf
     refine sg ?_
     conv=>whnf
     obtain ⟨⟨r_50, r_51⟩, hc52, h⟩ := bS h
     refine PC.ecall_frz ?_ ⟨_, _, func16, rfl, rfl⟩
     conv=>whnf
     refine frE_of (f := eI) (l := l_49) rfl ?_
     conv=>whnf
     refine ⟨_, P82 f_1 ({ Name := t_2.Name, Bibs := l_49, Best := t_2.Best } : TTeam) r_50 r_51 hc52, fun rs hrs => ?_⟩
     subst hrs
     conv=>whnf
     refine Tr.seq ?_
     obtain ⟨v_53, hv54, h⟩ := bS h
     refine Tr.cutQ1 ([(6, .d (.b v_53))]) ([]) ?_ (fun T1 H1 hw => ?_)
     ·replace h := hv54; clear hv54
      refine dq [] [(0,1),(1,1),(2,1),(3,11),(4,11),(5,1),(6,1),(7,1),(8,5),(9,5),(10,2),(11,1),(12,1),(13,1),(14,11),(15,11),(16,2),(17,1),(18,1),(19,1),(20,11),(21,11),(22,2),(23,2),(24,2),(25,5),(26,5),(27,2),(28,2),(29,2),(30,1),(31,1),(32,1),(33,11),(34,11),(35,2),(36,2),(37,2),(38,5),(39,5),(40,2),(41,2),(42,2),(43,1),(44,1),(45,1)] ?_
      conv=>whnf
      refine q1 ?_
      conv=>whnf
      refine q1 ?_
      conv=>whnf
      refine q1 ?_
      conv=>whnf
      refine cB h (fun hb55 h => ?_) (fun hb55 h => ?_)
      ·conv=>whnf
       refine q2 ?_
       conv=>whnf
       refine q2 ?_
       conv=>whnf
       refine q1 ?_
       conv=>whnf
       refine q1 ?_
       conv=>whnf
       refine q1 ?_
       conv=>whnf
       refine cB h (fun hb56 h => ?_) (fun hb56 h => ?_)
       ·conv=>whnf
        refine q2 ?_
        conv=>whnf
        refine q2 ?_
        conv=>whnf
        refine q3 (lnS_map rr) ?_
        conv=>whnf
        refine q1 ?_
        conv=>whnf
        refine q1 ?_
        conv=>whnf
        refine q1 ?_
        conv=>whnf
        refine cB h (fun hb57 h => ?_) (fun hb57 h => ?_)
        ·conv=>whnf
         refine q2 ?_
         conv=>whnf
         refine q2 ?_
         conv=>whnf
         refine q3 (lnS_map rr) ?_
         conv=>whnf
         refine q1 ?_
         conv=>whnf
         refine q1 ?_
         conv=>whnf
         refine q1 ?_
         conv=>whnf
         refine cB h (fun hb58 h => ?_) (fun hb58 h => ?_)
         ·conv=>whnf
          refine q2 ?_
          conv=>whnf
          refine q2 ?_
          conv=>whnf
          obtain ⟨x_59, hx_59, h⟩ := bS h
          refine q3 (ixP_of hx_59 rr) ?_
          conv=>whnf
          refine q2 ?_
          conv=>whnf
          refine q2 ?_
          conv=>whnf
          refine q2 ?_
          conv=>whnf
          refine q2 ?_
          conv=>whnf
          obtain ⟨x_60, hx_60, h⟩ := bS h
          refine q3 (ixP_of hx_60 rr) ?_
          conv=>whnf
          refine q2 ?_
          conv=>whnf
          refine q2 ?_
          conv=>whnf
          refine q1 ?_
          conv=>whnf
          refine q1 ?_
          conv=>whnf
          refine q1 ?_
          conv=>whnf
          refine cB h (fun hb61 h => ?_) (fun hb61 h => ?_)
          ·conv=>whnf
           refine q2 ?_
           conv=>whnf
           refine q2 ?_
           conv=>whnf
           obtain ⟨x_62, hx_62, h⟩ := bS h
           refine q3 (ixP_of hx_62 rr) ?_
           conv=>whnf
           refine q2 ?_
           conv=>whnf
           refine q2 ?_
           conv=>whnf
           refine q2 ?_
           conv=>whnf
           refine q2 ?_
           conv=>whnf
           obtain ⟨x_63, hx_63, h⟩ := bS h
           refine q3 (ixP_of hx_63 rr) ?_
           conv=>whnf
           refine q2 ?_
           conv=>whnf
           refine q2 ?_
           conv=>whnf
           refine q1 ?_
           conv=>whnf
           refine q1 ?_
           conv=>whnf
           refine q1 ?_
           conv=>whnf
           cases h
           exact Wk.mk2 [] 9 rfl rfl (by decide) rfl trivial ⟨rr, trivial⟩
          conv=>whnf
          refine q1 ?_
          conv=>whnf
          refine q1 ?_
          conv=>whnf
          cases h
          exact Wk.mk2 [] 9 rfl rfl (by decide) rfl trivial ⟨rr, trivial⟩
         conv=>whnf
         refine q1 ?_
         conv=>whnf
         refine q1 ?_
         conv=>whnf
         refine q1 ?_
         conv=>whnf
         refine q1 ?_
         conv=>whnf
         cases h
         exact Wk.mk2 [] 9 rfl rfl (by decide) rfl trivial ⟨rr, trivial⟩
        conv=>whnf
        refine q1 ?_
        conv=>whnf
        refine q1 ?_
        conv=>whnf
        refine q1 ?_
        conv=>whnf
        refine q1 ?_
        conv=>whnf
        refine q1 ?_
        conv=>whnf
        refine q1 ?_
        conv=>whnf
        cases h
        exact Wk.mk2 [] 9 rfl rfl (by decide) rfl trivial ⟨rr, trivial⟩
       conv=>whnf
       refine q1 ?_
       conv=>whnf
       refine q1 ?_
       conv=>whnf
       refine q1 ?_
       conv=>whnf
       refine q1 ?_
       conv=>whnf
       refine q1 ?_
       conv=>whnf
       refine q1 ?_
       conv=>whnf
       refine q1 ?_
       conv=>whnf
       refine q1 ?_
       conv=>whnf
       cases h
       exact Wk.mk2 [] 9 rfl rfl (by decide) rfl trivial ⟨rr, trivial⟩
      conv=>whnf
      refine q1 ?_
      conv=>whnf
      refine q1 ?_
      conv=>whnf
      refine q1 ?_
      conv=>whnf
      refine q1 ?_
      conv=>whnf
      refine q1 ?_
      conv=>whnf
      refine q1 ?_
      conv=>whnf
      refine q1 ?_
      conv=>whnf
      refine q1 ?_
      conv=>whnf
      refine q1 ?_
      conv=>whnf
      refine q1 ?_
      conv=>whnf
      cases h
      exact Wk.mk2 [] 9 rfl rfl (by decide) rfl trivial ⟨rr, trivial⟩
     clear hv54
     conv=>whnf
     refine Tr.weak hw ?_
     refine Tr.ret ?_
     conv=>whnf
     cases h
     rfl
    ·conv=>whnf
     refine ⟨_, _, rr, kp_ok (by repeat (first | exact trivial | refine ⟨trivial, ?_⟩ | refine ⟨rfl, ?_⟩)), ?_⟩
     conv=>whnf
     obtain ⟨l_64, hl_64, h⟩ := bS h
     refine ⟨_, _, (by (conv=>whnf); (refine frP_no ?_); (conv=>whnf); (refine eqS_mk (by first | rfl | simp) ?_); (conv=>whnf); (refine apS_of hl_64 (aQ (f := eI) (l := l_46) fun _ => rfl) (by first | rfl | simp) (by first | rfl | simp) (fun he => ?_)); (conv=>whnf); (refine rS (es' := List.map .d (List.map eI l_64)) (n' := List.length l_64) (by subst he; simp only [List.map_append, List.map_cons, List.map_nil, List.nil_append]; first | done | rfl) (by subst he; simp <;> omega) ?_); (clear he); (conv=>whnf); (exact rr)), kp_ok (by repeat (first | exact trivial | refine ⟨trivial, ?_⟩ | refine ⟨rfl, ?_⟩)), ?_⟩
     conv=>whnf
     refine q1 ?_
     conv=>whnf
     refine ⟨_, _, (by (conv=>whnf); (refine orB_l ?_); (conv=>whnf); (exact rr)), kp_ok (by repeat (first | exact trivial | refine ⟨trivial, ?_⟩ | refine ⟨rfl, ?_⟩)), ?_⟩
     conv=>whnf
     refine sg ?_
     conv=>whnf
     obtain ⟨⟨r_65, r_66⟩, hc67, h⟩ := bS h
     refine PC.ecall_frz ?_ ⟨_, _, func16, rfl, rfl⟩
     conv=>whnf
     refine frE_of (f := eI) (l := l_64) rfl ?_
     conv=>whnf
     refine ⟨_, P82 f_1 ({ Name := t_2.Name, Bibs := l_64, Best := t_2.Best } : TTeam) r_65 r_66 hc67, fun rs hrs => ?_⟩
     subst hrs
     conv=>whnf
     refine Tr.seq ?_
     obtain ⟨v_68, hv69, h⟩ := bS h
     refine Tr.cutQ1 ([(6, .d (.b v_68))]) ([]) ?_ (fun T1 H1 hw => ?_)
     ·replace h := hv69; clear hv69
      refine dq [] [(0,1),(1,1),(2,1),(3,11),(4,11),(5,1),(6,1),(7,1),(8,5),(9,5),(10,2),(11,1),(12,1),(13,1),(14,11),(15,11),(16,2),(17,1),(18,1),(19,1),(20,11),(21,11),(22,2),(23,2),(24,2),(25,5),(26,5),(27,2),(28,2),(29,2),(30,1),(31,1),(32,1),(33,11),(34,11),(35,2),(36,2),(37,2),(38,5),(39,5),(40,2),(41,2),(42,2),(43,1),(44,1),(45,1)] ?_
      conv=>whnf
      refine q1 ?_
      conv=>whnf
      refine q1 ?_
      conv=>whnf
      refine q1 ?_
      conv=>whnf
      refine cB h (fun hb70 h => ?_) (fun hb70 h => ?_)
      ·conv=>whnf
       refine q2 ?_
       conv=>whnf
       refine q2 ?_
       conv=>whnf
       refine q1 ?_
       conv=>whnf
       refine q1 ?_
       conv=>whnf
       refine q1 ?_
       conv=>whnf
       refine cB h (fun hb71 h => ?_) (fun hb71 h => ?_)
       ·conv=>whnf
        refine q2 ?_
        conv=>whnf
        refine q2 ?_
        conv=>whnf
        refine q3 (lnS_map rr) ?_
        conv=>whnf
        refine q1 ?_
        conv=>whnf
        refine q1 ?_
        conv=>whnf
        refine q1 ?_
        conv=>whnf
        refine cB h (fun hb72 h => ?_) (fun hb72 h => ?_)
        ·conv=>whnf
         refine q2 ?_
         conv=>whnf
         refine q2 ?_
         conv=>whnf
         refine q3 (lnS_map rr) ?_
         conv=>whnf
         refine q1 ?_
         conv=>whnf
         refine q1 ?_
         conv=>whnf
         refine q1 ?_
         conv=>whnf
         refine cB h (fun hb73 h => ?_) (fun hb73 h => ?_)
         ·conv=>whnf
          refine q2 ?_
          conv=>whnf
          refine q2 ?_
          conv=>whnf
          obtain ⟨x_74, hx_74, h⟩ := bS h
          refine q3 (ixP_of hx_74 rr) ?_
          conv=>whnf
          refine q2 ?_
          conv=>whnf
          refine q2 ?_
          conv=>whnf
          refine q2 ?_
          conv=>whnf
          refine q2 ?_
          conv=>whnf
          obtain ⟨x_75, hx_75, h⟩ := bS h
          refine q3 (ixP_of hx_75 rr) ?_
          conv=>whnf
          refine q2 ?_
          conv=>whnf
          refine q2 ?_
          conv=>whnf
          refine q1 ?_
          conv=>whnf
          refine q1 ?_
          conv=>whnf
          refine q1 ?_
          conv=>whnf
          refine cB h (fun hb76 h => ?_) (fun hb76 h => ?_)
          ·conv=>whnf
           refine q2 ?_
           conv=>whnf
           refine q2 ?_
           conv=>whnf
           obtain ⟨x_77, hx_77, h⟩ := bS h
           refine q3 (ixP_of hx_77 rr) ?_
           conv=>whnf
           refine q2 ?_
           conv=>whnf
           refine q2 ?_
           conv=>whnf
           refine q2 ?_
           conv=>whnf
           refine q2 ?_
           conv=>whnf
           obtain ⟨x_78, hx_78, h⟩ := bS h
           refine q3 (ixP_of hx_78 rr) ?_
           conv=>whnf
           refine q2 ?_
           conv=>whnf
           refine q2 ?_
           conv=>whnf
           refine q1 ?_
           conv=>whnf
           refine q1 ?_
           conv=>whnf
           refine q1 ?_
           conv=>whnf
           cases h
           exact Wk.mk2 [] 9 rfl rfl (by decide) rfl trivial ⟨rr, trivial⟩
          conv=>whnf
          refine q1 ?_
          conv=>whnf
          refine q1 ?_
          conv=>whnf
          cases h
          exact Wk.mk2 [] 9 rfl rfl (by decide) rfl trivial ⟨rr, trivial⟩
         conv=>whnf
         refine q1 ?_
         conv=>whnf
         refine q1 ?_
         conv=>whnf
         refine q1 ?_
         conv=>whnf
         refine q1 ?_
         conv=>whnf
         cases h
         exact Wk.mk2 [] 9 rfl rfl (by decide) rfl trivial ⟨rr, trivial⟩
        conv=>whnf
        refine q1 ?_
        conv=>whnf
        refine q1 ?_
        conv=>whnf
        refine q1 ?_
        conv=>whnf
        refine q1 ?_
        conv=>whnf
        refine q1 ?_
        conv=>whnf
        refine q1 ?_
        conv=>whnf
        cases h
        exact Wk.mk2 [] 9 rfl rfl (by decide) rfl trivial ⟨rr, trivial⟩
       conv=>whnf
       refine q1 ?_
       conv=>whnf
       refine q1 ?_
       conv=>whnf
       refine q1 ?_
       conv=>whnf
       refine q1 ?_
       conv=>whnf
       refine q1 ?_
       conv=>whnf
       refine q1 ?_
       conv=>whnf
       refine q1 ?_
       conv=>whnf
       refine q1 ?_
       conv=>whnf
       cases h
       exact Wk.mk2 [] 9 rfl rfl (by decide) rfl trivial ⟨rr, trivial⟩
      conv=>whnf
      refine q1 ?_
      conv=>whnf
      refine q1 ?_
      conv=>whnf
      refine q1 ?_
      conv=>whnf
      refine q1 ?_
      conv=>whnf
      refine q1 ?_
      conv=>whnf
      refine q1 ?_
      conv=>whnf
      refine q1 ?_
      conv=>whnf
      refine q1 ?_
      conv=>whnf
      refine q1 ?_
      conv=>whnf
      refine q1 ?_
      conv=>whnf
      cases h
      exact Wk.mk2 [] 9 rfl rfl (by decide) rfl trivial ⟨rr, trivial⟩
     clear hv69
     conv=>whnf
     refine Tr.weak hw ?_
     refine Tr.ret ?_
     conv=>whnf
     cases h
     rfl
   ·conv=>whnf
    refine ⟨_, _, rr, kp_ok (by repeat (first | exact trivial | refine ⟨trivial, ?_⟩ | refine ⟨rfl, ?_⟩)), ?_⟩
    conv=>whnf
    obtain ⟨l_79, hl_79, h⟩ := bS h
    refine ⟨_, _, (by (conv=>whnf); (refine frP_no ?_); (conv=>whnf); (refine eqS_mk (by first | rfl | simp) ?_); (conv=>whnf); (refine apS_of hl_79 (aQ (f := eI) (l := (([bib_3] : List Int))) fun _ => rfl) (by first | rfl | simp) (by first | rfl | simp) (fun he => ?_)); (conv=>whnf); (refine rS (es' := List.map .d (List.map eI l_79)) (n' := List.length l_79) (by subst he; simp only [List.map_append, List.map_cons, List.map_nil, List.nil_append]; first | done | rfl) (by subst he; simp <;> omega) ?_); (clear he); (conv=>whnf); (exact rr)), kp_ok (by repeat (first | exact trivial | refine ⟨trivial, ?_⟩ | refine ⟨rfl, ?_⟩)), ?_⟩
    conv=>whnf
    obtain ⟨l_80, hl_80, h⟩ := bS h
    refine ⟨_, _, (by (conv=>whnf); (refine frP_no ?_); (conv=>whnf); (refine eqS_mk (by first | rfl | simp) ?_); (conv=>whnf); (refine apS_of hl_80 (aQ (f := eI) (l := l_46) fun _ => rfl) (by first | rfl | simp) (by first | rfl | simp) (fun he => ?_)); (conv=>whnf); (refine rS (es' := List.map .d (List.map eI l_80)) (n' := List.length l_80) (by subst he; simp only [List.map_append, List.map_cons, List.map_nil, List.nil_append]; first | done | rfl) (by subst he; simp <;> omega) ?_); (clear he); (conv=>whnf); (exact rr)), kp_ok (by repeat (first | exact trivial | refine ⟨trivial, ?_⟩ | refine ⟨rfl, ?_⟩)), ?_⟩
    conv=>whnf
    refine q1 ?_
    conv=>whnf
    refine ⟨_, _, (by (conv=>whnf); (refine orB_l ?_); (conv=>whnf); (exact rr)), kp_ok (by repeat (first | exact trivial | refine ⟨trivial, ?_⟩ | refine ⟨rfl, ?_⟩)), ?_⟩
    conv=>whnf
    refine sg ?_
    conv=>whnf
    obtain ⟨⟨r_81, r_82⟩, hc83, h⟩ := bS h
    refine PC.ecall_frz ?_ ⟨_, _, func16, rfl, rfl⟩
    conv=>whnf
    refine frE_of (f := eI) (l := l_80) rfl ?_
    conv=>whnf
    refine ⟨_, P82 f_1 ({ Name := t_2.Name, Bibs := l_80, Best := t_2.Best } : TTeam) r_81 r_82 hc83, fun rs hrs => ?_⟩
    subst hrs
    conv=>whnf
    refine Tr.seq ?_
    obtain ⟨v_84, hv85, h⟩ := bS h
    refine Tr.cutQ1 ([(6, .d (.b v_84))]) ([]) ?_ (fun T1 H1 hw => ?_)
    ·replace h := hv85; clear hv85
     refine dq [] [(0,1),(1,1),(2,1),(3,11),(4,11),(5,1),(6,1),(7,1),(8,5),(9,5),(10,2),(11,1),(12,1),(13,1),(14,11),(15,11),(16,2),(17,1),(18,1),(19,1),(20,11),(21,11),(22,2),(23,2),(24,2),(25,5),(26,5),(27,2),(28,2),(29,2),(30,1),(31,1),(32,1),(33,11),(34,11),(35,2),(36,2),(37,2),(38,5),(39,5),(40,2),(41,2),(42,2),(43,1),(44,1),(45,1)] ?_
     conv=>whnf
     refine q1 ?_
     conv=>whnf
     refine q1 ?_
     conv=>whnf
     refine q1 ?_
     conv=>whnf
     refine cB h (fun hb86 h => ?_) (fun hb86 h => ?_)
     ·conv=>whnf
      refine q2 ?_
      conv=>whnf
      refine q2 ?_
      conv=>whnf
      refine q1 ?_
      conv=>whnf
      refine q1 ?_
      conv=>whnf
      refine q1 ?_
      conv=>whnf
      refine cB h (fun hb87 h => ?_) (fun hb87 h => ?_)
      ·conv=>whnf
       refine q2 ?_
       conv=>whnf
       refine q2 ?_
       conv=>whnf
       refine q3 (lnS_map rr) ?_
       conv=>whnf
       refine q1 ?_
       conv=>whnf
       refine q1 ?_
       conv=>whnf
       refine q1 ?_
       conv=>whnf
       refine cB h (fun hb88 h => ?_) (fun hb88 h => ?_)
       ·conv=>whnf
        refine q2 ?_
        conv=>whnf
        refine q2 ?_
        conv=>whnf
        refine q3 (lnS_map rr) ?_
        conv=>whnf
        refine q1 ?_
        conv=>whnf
        refine q1 ?_
        conv=>whnf
        refine q1 ?_
        conv=>whnf
        refine cB h (fun hb89 h => ?_) (fun hb89 h => ?_)
        ·conv=>whnf
         refine q2 ?_
         conv=>whnf
         refine q2 ?_
         conv=>whnf
         obtain ⟨x_90, hx_90, h⟩ := bS h
         refine q3 (ixP_of hx_90 rr) ?_
         conv=>whnf
         refine q2 ?_
         conv=>whnf
         refine q2 ?_
         conv=>whnf
         refine q2 ?_
         conv=>whnf
         refine q2 ?_
         conv=>whnf
         obtain ⟨x_91, hx_91, h⟩ := bS h
         refine q3 (ixP_of hx_91 rr) ?_
         conv=>whnf
         refine q2 ?_
         conv=>whnf
         refine q2 ?_
         conv=>whnf
         refine q1 ?_
         conv=>whnf
         refine q1 ?_
         conv=>whnf
         refine q1 ?_
         conv=>whnf
         refine cB h (fun hb92 h => ?_) (fun hb92 h => ?_)
         ·conv=>whnf
          refine q2 ?_
          conv=>whnf
          refine q2 ?_
          conv=>whnf
          obtain ⟨x_93, hx_93, h⟩ := bS h
          refine q3 (ixP_of hx_93 rr) ?_
          conv=>whnf
          refine q2 ?_
          conv=>whnf
          refine q2 ?_
          conv=>whnf
          refine q2 ?_
          conv=>whnf
          refine q2 ?_
          conv=>whnf
          obtain ⟨x_94, hx_94, h⟩ := bS h
          refine q3 (ixP_of hx_94 rr) ?_
          conv=>whnf
          refine q2 ?_
          conv=>whnf
          refine q2 ?_
          conv=>whnf
          refine q1 ?_
          conv=>whnf
          refine q1 ?_
          conv=>whnf
          refine q1 ?_
          conv=>whnf
          cases h
          exact Wk.mk2 [] 9 rfl rfl (by decide) rfl trivial ⟨rr, trivial⟩
         conv=>whnf
         refine q1 ?_
         conv=>whnf
         refine q1 ?_
         conv=>whnf
         cases h
         exact Wk.mk2 [] 9 rfl rfl (by decide) rfl trivial ⟨rr, trivial⟩
        conv=>whnf
        refine q1 ?_
        conv=>whnf
        refine q1 ?_
        conv=>whnf
        refine q1 ?_
        conv=>whnf
        refine q1 ?_
        conv=>whnf
        cases h
        exact Wk.mk2 [] 9 rfl rfl (by decide) rfl trivial ⟨rr, trivial⟩
       conv=>whnf
       refine q1 ?_
       conv=>whnf
       refine q1 ?_
       conv=>whnf
       refine q1 ?_
       conv=>whnf
       refine q1 ?_
       conv=>whnf
       refine q1 ?_
       conv=>whnf
       refine q1 ?_
       conv=>whnf
       cases h
       exact Wk.mk2 [] 9 rfl rfl (by decide) rfl trivial ⟨rr, trivial⟩
      conv=>whnf
      refine q1 ?_
      conv=>whnf
      refine q1 ?_
      conv=>whnf
      refine q1 ?_
      conv=>whnf
      refine q1 ?_
      conv=>whnf
      refine q1 ?_
      conv=>whnf
      refine q1 ?_
      conv=>whnf
      refine q1 ?_
      conv=>whnf
      refine q1 ?_
      conv=>whnf
      cases h
      exact Wk.mk2 [] 9 rfl rfl (by decide) rfl trivial ⟨rr, trivial⟩
     conv=>whnf
     refine q1 ?_
     conv=>whnf
     refine q1 ?_
     conv=>whnf
     refine q1 ?_
     conv=>whnf
     refine q1 ?_
     conv=>whnf
     refine q1 ?_
     conv=>whnf
     refine q1 ?_
     conv=>whnf
     refine q1 ?_
     conv=>whnf
     refine q1 ?_
     conv=>whnf
     refine q1 ?_
     conv=>whnf
     refine q1 ?_
     conv=>whnf
     cases h
     exact Wk.mk2 [] 9 rfl rfl (by decide) rfl trivial ⟨rr, trivial⟩
    clear hv85
    conv=>whnf
    refine Tr.weak hw ?_
    refine Tr.ret ?_
    conv=>whnf
    cases h
    rfl
  ·conv=>whnf
   refine ⟨_, _, rr, kp_ok (by repeat (first | exact trivial | refine ⟨trivial, ?_⟩ | refine ⟨rfl, ?_⟩)), ?_⟩
   conv=>whnf
   obtain ⟨l_95, hl_95, h⟩ := bS h
   refine ⟨_, _, (by (conv=>whnf); (refine frP_no ?_); (conv=>whnf); (refine eqS_mk (by first | rfl | simp) ?_); (conv=>whnf); (refine apS_of hl_95 (aQ (f := eI) (l := l_45) fun _ => rfl) (by first | rfl | simp) (by first | rfl | simp) (fun he => ?_)); (conv=>whnf); (refine rS (es' := List.map .d (List.map eI l_95)) (n' := List.length l_95) (by subst he; simp only [List.map_append, List.map_cons, List.map_nil, List.nil_append]; first | done | rfl) (by subst he; simp <;> omega) ?_); (clear he); (conv=>whnf); (exact rr)), kp_ok (by repeat (first | exact trivial | refine ⟨trivial, ?_⟩ | refine ⟨rfl, ?_⟩)), ?_⟩
   conv=>whnf
   obtain ⟨l_96, hl_96, h⟩ := bS h
   refine ⟨_, _, (by (conv=>whnf); (refine frP_no ?_); (conv=>whnf); (refine eqS_mk (by first | rfl | simp) ?_); (conv=>whnf); (refine apS_of hl_96 (aQ (f := eI) (l := (([bib_3] : List Int))) fun _ => rfl) (by first | rfl | simp) (by first | rfl | simp) (fun he => ?_)); (conv=>whnf); (refine rS (es' := List.map .d (List.map eI l_96)) (n' := List.length l_96) (by subst he; simp only [List.map_append, List.map_cons, List.map_nil, List.nil_append]; first | done | rfl) (by subst he; simp <;> omega) ?_); (clear he); (conv=>whnf); (exact rr)), kp_ok (by repeat (first | exact trivial | refine ⟨trivial, ?_⟩ | refine ⟨rfl, ?_⟩)), ?_⟩
   conv=>whnf
   obtain ⟨l_97, hl_97, h⟩ := bS h
   refine ⟨_, _, (by (conv=>whnf); (refine frP_no ?_); (conv=>whnf); (refine eqS_mk (by first | rfl | simp) ?_); (conv=>whnf); (refine apS_of hl_97 (aQ (f := eI) (l := l_46) fun _ => rfl) (by first | rfl | simp) (by first | rfl | simp) (fun he => ?_)); (conv=>whnf); (refine rS (es' := List.map .d (List.map eI l_97)) (n' := List.length l_97) (by subst he; simp only [List.map_append, List.map_cons, List.map_nil, List.nil_append]; first | done | rfl) (by subst he; simp <;> omega) ?_); (clear he); (conv=>whnf); (exact rr)), kp_ok (by repeat (first | exact trivial | refine ⟨trivial, ?_⟩ | refine ⟨rfl, ?_⟩)), ?_⟩
   conv=>whnf
   refine q1 ?_
   conv=>whnf
   refine ⟨_, _, (by (conv=>whnf); (refine orB_l ?_); (conv=>whnf); (exact rr)), kp_ok (by repeat (first | exact trivial | refine ⟨trivial, ?_⟩ | refine ⟨rfl, ?_⟩)), ?_⟩
   conv=>whnf
   refine sg ?_
   conv=>whnf
   obtain ⟨⟨r_98, r_99⟩, hc100, h⟩ := bS h
   refine PC.ecall_frz ?_ ⟨_, _, func16, rfl, rfl⟩
   conv=>whnf
   refine frE_of (f := eI) (l := l_97) rfl ?_
   conv=>whnf
   refine ⟨_, P82 f_1 ({ Name := t_2.Name, Bibs := l_97, Best := t_2.Best } : TTeam) r_98 r_99 hc100, fun rs hrs => ?_⟩
   subst hrs
   conv=>whnf
   refine Tr.seq ?_
   obtain ⟨v_101, hv102, h⟩ := bS h
   refine Tr.cutQ1 ([(6, .d (.b v_101))]) ([]) ?_ (fun T1 H1 hw => ?_)
   ·replace h := hv102; clear hv102
    refine dq [] [(0,1),(1,1),(2,1),(3,11),(4,11),(5,1),(6,1),(7,1),(8,5),(9,5),(10,2),(11,1),(12,1),(13,1),(14,11),(15,11),(16,2),(17,1),(18,1),(19,1),(20,11),(21,11),(22,2),(23,2),(24,2),(25,5),(26,5),(27,2),(28,2),(29,2),(30,1),(31,1),(32,1),(33,11),(34,11),(35,2),(36,2),(37,2),(38,5),(39,5),(40,2),(41,2),(42,2),(43,1),(44,1),(45,1)] ?_
    conv=>whnf
    refine q1 ?_
    conv=>whnf
    refine q1 ?_
    conv=>whnf
    refine q1 ?_
    conv=>whnf
    refine cB h (fun hb103 h => ?_) (fun hb103 h => ?_)
    ·conv=>whnf
     refine q2 ?_
     conv=>whnf
     refine q2 ?_
     conv=>whnf
     refine q1 ?_
     conv=>whnf
     refine q1 ?_
     conv=>whnf
     refine q1 ?_
     conv=>whnf
     refine cB h (fun hb104 h => ?_) (fun hb104 h => ?_)
     ·conv=>whnf
      refine q2 ?_
      conv=>whnf
      refine q2 ?_
      conv=>whnf
      refine q3 (lnS_map rr) ?_
      conv=>whnf
      refine q1 ?_
      conv=>whnf
      refine q1 ?_
      conv=>whnf
      refine q1 ?_
      conv=>whnf
      refine cB h (fun hb105 h => ?_) (fun hb105 h => ?_)
      ·conv=>whnf
       refine q2 ?_
       conv=>whnf
       refine q2 ?_
       conv=>whnf
       refine q3 (lnS_map rr) ?_
       conv=>whnf
       refine q1 ?_
       conv=>whnf
       refine q1 ?_
       conv=>whnf
       refine q1 ?_
       conv=>whnf
       refine cB h (fun hb106 h => ?_) (fun hb106 h => ?_)
       ·conv=>whnf
        refine q2 ?_
        conv=>whnf
        refine q2 ?_
        conv=>whnf
        obtain ⟨x_107, hx_107, h⟩ := bS h
        refine q3 (ixP_of hx_107 rr) ?_
        conv=>whnf
        refine q2 ?_
        conv=>whnf
        refine q2 ?_
        conv=>whnf
        refine q2 ?_
        conv=>whnf
        refine q2 ?_
        conv=>whnf
        obtain ⟨x_108, hx_108, h⟩ := bS h
        refine q3 (ixP_of hx_108 rr) ?_
        conv=>whnf
        refine q2 ?_
        conv=>whnf
        refine q2 ?_
        conv=>whnf
        refine q1 ?_
        conv=>whnf
        refine q1 ?_
        conv=>whnf
        refine q1 ?_
        conv=>whnf
        refine cB h (fun hb109 h => ?_) (fun hb109 h => ?_)
        ·conv=>whnf
         refine q2 ?_
         conv=>whnf
         refine q2 ?_
         conv=>whnf
         obtain ⟨x_110, hx_110, h⟩ := bS h
         refine q3 (ixP_of hx_110 rr) ?_
         conv=>whnf
         refine q2 ?_
         conv=>whnf
         refine q2 ?_
         conv=>whnf
         refine q2 ?_
         conv=>whnf
         refine q2 ?_
         conv=>whnf
         obtain ⟨x_111, hx_111, h⟩ := bS h
         refine q3 (ixP_of hx_111 rr) ?_
         conv=>whnf
         refine q2 ?_
         conv=>whnf
         refine q2 ?_
         conv=>whnf
         refine q1 ?_
         conv=>whnf
         refine q1 ?_
         conv=>whnf
         refine q1 ?_
         conv=>whnf
         cases h
         exact Wk.mk2 [] 9 rfl rfl (by decide) rfl trivial ⟨rr, trivial⟩
        conv=>whnf
        refine q1 ?_
        conv=>whnf
        refine q1 ?_
        conv=>whnf
        cases h
        exact Wk.mk2 [] 9 rfl rfl (by decide) rfl trivial ⟨rr, trivial⟩
       conv=>whnf
       refine q1 ?_
       conv=>whnf
       refine q1 ?_
       conv=>whnf
       refine q1 ?_
       conv=>whnf
       refine q1 ?_
       conv=>whnf
       cases h
       exact Wk.mk2 [] 9 rfl rfl (by decide) rfl trivial ⟨rr, trivial⟩
      conv=>whnf
      refine q1 ?_
      conv=>whnf
      refine q1 ?_
      conv=>whnf
      refine q1 ?_
      conv=>whnf
      refine q1 ?_
      conv=>whnf
      refine q1 ?_
      conv=>whnf
      refine q1 ?_
      conv=>whnf
      cases h
      exact Wk.mk2 [] 9 rfl rfl (by decide) rfl trivial ⟨rr, trivial⟩
     conv=>whnf
     refine q1 ?_
     conv=>whnf
     refine q1 ?_
     conv=>whnf
     refine q1 ?_
     conv=>whnf
     refine q1 ?_
     conv=>whnf
     refine q1 ?_
     conv=>whnf
     refine q1 ?_
     conv=>whnf
     refine q1 ?_
     conv=>whnf
     refine q1 ?_
     conv=>whnf
     cases h
     exact Wk.mk2 [] 9 rfl rfl (by decide) rfl trivial ⟨rr, trivial⟩
    conv=>whnf
    refine q1 ?_
    conv=>whnf
    refine q1 ?_
    conv=>whnf
    refine q1 ?_
    conv=>whnf
    refine q1 ?_
    conv=>whnf
    refine q1 ?_
    conv=>whnf
    refine q1 ?_
    conv=>whnf
    refine q1 ?_
    conv=>whnf
    refine q1 ?_
    conv=>whnf
    refine q1 ?_
    conv=>whnf
    refine q1 ?_
    conv=>whnf
    cases h
    exact Wk.mk2 [] 9 rfl rfl (by decide) rfl trivial ⟨rr, trivial⟩
   clear hv102
   conv=>whnf
   refine Tr.weak hw ?_
   refine Tr.ret ?_
   conv=>whnf
   cases h
   rfl
 ·conv=>whnf
  refine ⟨_, _, rr, kp_ok (by repeat (first | exact trivial | refine ⟨trivial, ?_⟩ | refine ⟨rfl, ?_⟩)), ?_⟩
  conv=>whnf
  refine ⟨_, _, (by (conv=>whnf); (refine orB_l ?_); (conv=>whnf); (exact rr)), kp_ok (by repeat (first | exact trivial | refine ⟨trivial, ?_⟩ | refine ⟨rfl, ?_⟩)), ?_⟩
  conv=>whnf
  obtain ⟨l_112, hl_112, h⟩ := bS h
  refine ⟨_, _, (by (conv=>whnf); (refine frP_no ?_); (conv=>whnf); (refine eqS_mk (by first | rfl | simp) ?_); (conv=>whnf); (refine apS_of hl_112 (aQ (f := eI) (l := l_45) fun _ => rfl) (by first | rfl | simp) (by first | rfl | simp) (fun he => ?_)); (conv=>whnf); (refine rS (es' := List.map .d (List.map eI l_112)) (n' := List.length l_112) (by subst he; simp only [List.map_append, List.map_cons, List.map_nil, List.nil_append]; first | done | rfl) (by subst he; simp <;> omega) ?_); (clear he); (conv=>whnf); (exact rr)), kp_ok (by repeat (first | exact trivial | refine ⟨trivial, ?_⟩ | refine ⟨rfl, ?_⟩)), ?_⟩
  conv=>whnf
  obtain ⟨l_113, hl_113, h⟩ := bS h
  refine ⟨_, _, (by (conv=>whnf); (refine frP_no ?_); (conv=>whnf); (refine eqS_mk (by first | rfl | simp) ?_); (conv=>whnf); (refine apS_of hl_113 (aQ (f := eI) (l := (([bib_3] : List Int))) fun _ => rfl) (by first | rfl | simp) (by first | rfl | simp) (fun he => ?_)); (conv=>whnf); (refine rS (es' := List.map .d (List.map eI l_113)) (n' := List.length l_113) (by subst he; simp only [List.map_append, List.map_cons, List.map_nil, List.nil_append]; first | done | rfl) (by subst he; simp <;> omega) ?_); (clear he); (conv=>whnf); (exact rr)), kp_ok (by repeat (first | exact trivial | refine ⟨trivial, ?_⟩ | refine ⟨rfl, ?_⟩)), ?_⟩
  conv=>whnf
  obtain ⟨l_114, hl_114, h⟩ := bS h
  refine ⟨_, _, (by (conv=>whnf); (refine frP_no ?_); (conv=>whnf); (refine eqS_mk (by first | rfl | simp) ?_); (conv=>whnf); (refine apS_of hl_114 (aQ (f := eI) (l := l_46) fun _ => rfl) (by first | rfl | simp) (by first | rfl | simp) (fun he => ?_)); (conv=>whnf); (refine rS (es' := List.map .d (List.map eI l_114)) (n' := List.length l_114) (by subst he; simp only [List.map_append, List.map_cons, List.map_nil, List.nil_append]; first | done | rfl) (by subst he; simp <;> omega) ?_); (clear he); (conv=>whnf); (exact rr)), kp_ok (by repeat (first | exact trivial | refine ⟨trivial, ?_⟩ | refine ⟨rfl, ?_⟩)), ?_⟩
  conv=>whnf
  refine q1 ?_
  conv=>whnf
  refine ⟨_, _, (by (conv=>whnf); (refine orB_l ?_); (conv=>whnf); (exact rr)), kp_ok (by repeat (first | exact trivial | refine ⟨trivial, ?_⟩ | refine ⟨rfl, ?_⟩)), ?_⟩
  conv=>whnf
  refine sg ?_
  conv=>whnf
  obtain ⟨⟨r_115, r_116⟩, hc117, h⟩ := bS h
  refine PC.ecall_frz ?_ ⟨_, _, func16, rfl, rfl⟩
  conv=>whnf
  refine frE_of (f := eI) (l := l_114) rfl ?_
  conv=>whnf
  refine ⟨_, P82 f_1 ({ Name := t_2.Name, Bibs := l_114, Best := t_2.Best } : TTeam) r_115 r_116 hc117, fun rs hrs => ?_⟩
  subst hrs
  conv=>whnf
  refine Tr.seq ?_
  obtain ⟨v_118, hv119, h⟩ := bS h
  refine Tr.cutQ1 ([(6, .d (.b v_118))]) ([]) ?_ (fun T1 H1 hw => ?_)
  ·replace h := hv119; clear hv119
   refine dq [] [(0,1),(1,1),(2,1),(3,11),(4,11),(5,1),(6,1),(7,1),(8,5),(9,5),(10,2),(11,1),(12,1),(13,1),(14,11),(15,11),(16,2),(17,1),(18,1),(19,1),(20,11),(21,11),(22,2),(23,2),(24,2),(25,5),(26,5),(27,2),(28,2),(29,2),(30,1),(31,1),(32,1),(33,11),(34,11),(35,2),(36,2),(37,2),(38,5),(39,5),(40,2),(41,2),(42,2),(43,1),(44,1),(45,1)] ?_
   conv=>whnf
   refine q1 ?_
   conv=>whnf
   refine q1 ?_
   conv=>whnf
   refine q1 ?_
   conv=>whnf
   refine cB h (fun hb120 h => ?_) (fun hb120 h => ?_)
   ·conv=>whnf
    refine q2 ?_
    conv=>whnf
    refine q2 ?_
    conv=>whnf
    refine q1 ?_
    conv=>whnf
    refine q1 ?_
    conv=>whnf
    refine q1 ?_
    conv=>whnf
    refine cB h (fun hb121 h => ?_) (fun hb121 h => ?_)
    ·conv=>whnf
     refine q2 ?_
     conv=>whnf
     refine q2 ?_
     conv=>whnf
     refine q3 (lnS_map rr) ?_
     conv=>whnf
     refine q1 ?_
     conv=>whnf
     refine q1 ?_
     conv=>whnf
     refine q1 ?_
     conv=>whnf
     refine cB h (fun hb122 h => ?_) (fun hb122 h => ?_)
     ·conv=>whnf
      refine q2 ?_
      conv=>whnf
      refine q2 ?_
      conv=>whnf
      refine q3 (lnS_map rr) ?_
      conv=>whnf
      refine q1 ?_
      conv=>whnf
      refine q1 ?_
      conv=>whnf
      refine q1 ?_
      conv=>whnf
      refine cB h (fun hb123 h => ?_) (fun hb123 h => ?_)
      ·conv=>whnf
       refine q2 ?_
       conv=>whnf
       refine q2 ?_
       conv=>whnf
       obtain ⟨x_124, hx_124, h⟩ := bS h
       refine q3 (ixP_of hx_124 rr) ?_
       conv=>whnf
       refine q2 ?_
       conv=>whnf
       refine q2 ?_
       conv=>whnf
       refine q2 ?_
       conv=>whnf
       refine q2 ?_
       conv=>whnf
       obtain ⟨x_125, hx_125, h⟩ := bS h
       refine q3 (ixP_of hx_125 rr) ?_
       conv=>whnf
       refine q2 ?_
       conv=>whnf
       refine q2 ?_
       conv=>whnf
       refine q1 ?_
       conv=>whnf
       refine q1 ?_
       conv=>whnf
       refine q1 ?_
       conv=>whnf
       refine cB h (fun hb126 h => ?_) (fun hb126 h => ?_)
       ·conv=>whnf
        refine q2 ?_
        conv=>whnf
        refine q2 ?_
        conv=>whnf
        obtain ⟨x_127, hx_127, h⟩ := bS h
        refine q3 (ixP_of hx_127 rr) ?_
        conv=>whnf
        refine q2 ?_
        conv=>whnf
        refine q2 ?_
        conv=>whnf
        refine q2 ?_
        conv=>whnf
        refine q2 ?_
        conv=>whnf
        obtain ⟨x_128, hx_128, h⟩ := bS h
        refine q3 (ixP_of hx_128 rr) ?_
        conv=>whnf
        refine q2 ?_
        conv=>whnf
        refine q2 ?_
        conv=>whnf
        refine q1 ?_
        conv=>whnf
        refine q1 ?_
        conv=>whnf
        refine q1 ?_
        conv=>whnf
        cases h
        exact Wk.mk2 [] 9 rfl rfl (by decide) rfl trivial ⟨rr, trivial⟩
       conv=>whnf
       refine q1 ?_
       conv=>whnf
       refine q1 ?_
       conv=>whnf
       cases h
       exact Wk.mk2 [] 9 rfl rfl (by decide) rfl trivial ⟨rr, trivial⟩
      conv=>whnf
      refine q1 ?_
      conv=>whnf
      refine q1 ?_
      conv=>whnf
      refine q1 ?_
      conv=>whnf
      refine q1 ?_
      conv=>whnf
      cases h
      exact Wk.mk2 [] 9 rfl rfl (by decide) rfl trivial ⟨rr, trivial⟩
     conv=>whnf
     refine q1 ?_
     conv=>whnf
     refine q1 ?_
     conv=>whnf
     refine q1 ?_
     conv=>whnf
     refine q1 ?_
     conv=>whnf
     refine q1 ?_
     conv=>whnf
     refine q1 ?_
     conv=>whnf
     cases h
     exact Wk.mk2 [] 9 rfl rfl (by decide) rfl trivial ⟨rr, trivial⟩
    conv=>whnf
    refine q1 ?_
    conv=>whnf
    refine q1 ?_
    conv=>whnf
    refine q1 ?_
    conv=>whnf
    refine q1 ?_
    conv=>whnf
    refine q1 ?_
    conv=>whnf
    refine q1 ?_
    conv=>whnf
    refine q1 ?_
    conv=>whnf
    refine q1 ?_
    conv=>whnf
    cases h
    exact Wk.mk2 [] 9 rfl rfl (by decide) rfl trivial ⟨rr, trivial⟩
   conv=>whnf
   refine q1 ?_
   conv=>whnf
   refine q1 ?_
   conv=>whnf
   refine q1 ?_
   conv=>whnf
   refine q1 ?_
   conv=>whnf
   refine q1 ?_
   conv=>whnf
   refine q1 ?_
   conv=>whnf
   refine q1 ?_
   conv=>whnf
   refine q1 ?_
   conv=>whnf
   refine q1 ?_
   conv=>whnf
   refine q1 ?_
   conv=>whnf
   cases h
   exact Wk.mk2 [] 9 rfl rfl (by decide) rfl trivial ⟨rr, trivial⟩
  clear hv119
  conv=>whnf
  refine Tr.weak hw ?_
  refine Tr.ret ?_
  conv=>whnf
  cases h
  rfl
end Go.Proofs.Tryz
