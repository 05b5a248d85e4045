/- Contracts of functions, by program (gen.py). No condition. -/
import Derived.Test.YtpfihfiimeepfaaGreatDoorZL
import Derived.Test.YtpfihfiimeepfaaGreatDoorZM
import Derived.Test.YtpfihfiimeepfaaGreatDoorZCB
import Derived.Test.YtpfihfiimeepfaaGreatDoorZC7
import Derived.Test.YtpfihfiimeepfaaGreatDoorZS4
namespace Go.Proofs.Tryz
open Go Go.Abs Go.Stop
set_option maxRecDepth 8000
set_option linter.unusedVariables false
set_option linter.unusedSimpArgs false
theorem P108 (k_1 : TClocks) (r_2 : Bool) (h : M108 k_1 = some r_2) :
    PC prog 29 [(eTClocks k_1)] (fun rs => rs = [(.b r_2)]) := by
 refine PC.of_tr (cx := ⟨28, none, lay, 0⟩) layOK func29 rfl rfl rfl rfl rfl (by simp [f29]) ?_
 unfold M108 at h
 refine sg ?_
 conv=>whnf
 refine Tr.seq ?_
 refine sg ?_
 conv=>whnf
 refine lnS_map ?_
 conv=>whnf
 refine cB h (fun hb3 h => ?_) (fun hb3 h => ?_)
 ·conv=>whnf
  refine Tr.cond ?_
  conv=>whnf
  refine sg ?_
  conv=>whnf
  refine Tr.ret ?_
  conv=>whnf
  cases h
  rfl
 conv=>whnf
 refine lnS_map ?_
 conv=>whnf
 refine Tr.cond ?_
 conv=>whnf
 refine cB h (fun hb4 h => ?_) (fun hb4 h => ?_)
 ·refine sg ?_
  conv=>whnf
  refine Tr.ret ?_
  conv=>whnf
  cases h
  rfl
 refine Tr.skip ?_
 conv=>whnf
 refine Tr.seq ?_
 refine sg ?_
 conv=>whnf
 refine Tr.cutQ (α := Unit) (fun s => ([(2, .d (.b false))], [])) (fun s => M107 s = some r_2) ?_ ?_
 ·refine Tr.block ?_
  refine Tr.loopM (σ := Int) (fun n s => M106 k_1 M107 n s) r_2 (fun s => ([(1, .pt 0 0), (2, .d (.b false)), (3, (dI s))], [some (.var [.d (.ls (List.map eTSegment k_1.Segments)), .d (.ls (List.map (eL eI) k_1.Far))])])) (((((k_1.Far).length : Int)) - 0 : Int).toNat + 1) (0) h (fun s => rfl) (Wk.mk2 [0] 1 rfl rfl (by decide) rfl ⟨rr, trivial⟩ ⟨rr, rr, rr, trivial⟩) ?_
  clear h
  rintro n_7 i_6 h
  replace h : M106 k_1 M107 (n_7 + 1) i_6 = some r_2 := h
  rw [M106] at h
  refine Tr.seq ?_
  refine sg ?_
  conv=>whnf
  refine lnS_map ?_
  conv=>whnf
  refine Tr.cond ?_
  conv=>whnf
  refine cB h (fun hb10 h => ?_) (fun hb10 h => ?_)
  ·refine Tr.skip ?_
   conv=>whnf
   refine Tr.seq ?_
   refine Tr.block ?_
   refine sg ?_
   conv=>whnf
   obtain ⟨x_11, hx_11, h⟩ := bS h
   refine ixP_of hx_11 ?_
   conv=>whnf
   refine lnS_map ?_
   conv=>whnf
   refine Tr.cond ?_
   conv=>whnf
   refine cB h (fun hb12 h => ?_) (fun hb12 h => ?_)
   ·refine sg ?_
    conv=>whnf
    refine Tr.ret ?_
    conv=>whnf
    cases h
    rfl
   refine Tr.skip ?_
   conv=>whnf
   refine rg ?_
   conv=>whnf
   refine arS_raw ?_
   conv=>whnf
   refine ⟨((w64 (i_6 + 1))), h, ?_⟩
   exact Wk.mk2 [0] 1 rfl rfl (by decide) rfl ⟨rr, trivial⟩ ⟨rr, rr, rr, trivial⟩
  refine Tr.exit ?_
  conv=>whnf
  refine ⟨(), h, ?_⟩
  exact Wk.mk2 [] 1 rfl rfl (by decide) rfl trivial ⟨rr, trivial⟩
 clear h
 rintro _ h T1 H1 hw
 replace h : M107 () = some r_2 := h
 conv=>whnf
 refine Tr.weak hw ?_
 unfold M107 at h
 refine sg ?_
 conv=>whnf
 refine Tr.ret ?_
 conv=>whnf
 cases h
 rfl
theorem P112 (f_1 : TField) (r_2 : Bool) (h : M112 f_1 = some r_2) :
    PC prog 11 [(eTField f_1)] (fun rs => rs = [(.b r_2)]) := by
 refine PC.of_tr (cx := ⟨62, none, lay, 0⟩) layOK func11 rfl rfl rfl rfl rfl (by simp [f11]) ?_
 unfold M112 at h
 refine sg ?_
 conv=>whnf
 refine sg ?_
 conv=>whnf
 refine Tr.seq ?_
 refine sg ?_
 conv=>whnf
 refine lnS_map ?_
 conv=>whnf
 refine cB h (fun hb3 h => ?_) (fun hb3 h => ?_)
 ·conv=>whnf
  refine Tr.cond ?_
  conv=>whnf
  refine sg ?_
  conv=>whnf
  refine Tr.ret ?_
  conv=>whnf
  cases h
  rfl
 conv=>whnf
 refine lnS_map ?_
 conv=>whnf
 refine cB h (fun hb4 h => ?_) (fun hb4 h => ?_)
 ·conv=>whnf
  refine Tr.cond ?_
  conv=>whnf
  refine sg ?_
  conv=>whnf
  refine Tr.ret ?_
  conv=>whnf
  cases h
  rfl
 conv=>whnf
 obtain ⟨r_5, hc6, h⟩ := bS h
 refine PC.ecall (P108 f_1.Clocks r_5 hc6) (fun rs hrs => ?_)
 subst hrs
 conv=>whnf
 refine Tr.cond ?_
 conv=>whnf
 refine cB h (fun hb7 h => ?_) (fun hb7 h => ?_)
 ·refine sg ?_
  conv=>whnf
  refine Tr.ret ?_
  conv=>whnf
  cases h
  rfl
 refine Tr.skip ?_
 conv=>whnf
 refine Tr.seq ?_
 refine sg ?_
 conv=>whnf
 refine Tr.cutQ (α := Int) (fun s => ([(2, .d (.b false)), (3, (dI s))], [])) (fun s => M111 s = some r_2) ?_ ?_
 ·refine Tr.block ?_
  refine Tr.loopM (σ := Int × Int) (fun n s => M110 f_1 M111 n s.1 s.2) r_2 (fun s => ([(1, .pt 0 0), (2, .d (.b false)), (3, (dI s.1)), (4, (dI s.2))], [some (.var [.d (.ls (List.map eTSegment f_1.Clocks.Segments)), .d (.ls (List.map (eL eI) f_1.Clocks.Far)), .d (.ls (List.map eTPair f_1.Pairs)), .d (.ls (List.map eTRunner f_1.Runners))])])) (((((f_1.Runners).length : Int)) - 0 : Int).toNat + 1) (0, 0) h (fun s => rfl) (Wk.mk2 [0] 1 rfl rfl (by decide) rfl ⟨rr, trivial⟩ ⟨rr, rr, rr, rr, trivial⟩) ?_
  clear h
  rintro n_12 ⟨n_10, i_11⟩ h
  replace h : M110 f_1 M111 (n_12 + 1) n_10 i_11 = some r_2 := h
  rw [M110] at h
  refine Tr.seq ?_
  refine sg ?_
  conv=>whnf
  refine lnS_map ?_
  conv=>whnf
  refine Tr.cond ?_
  conv=>whnf
  refine cB h (fun hb16 h => ?_) (fun hb16 h => ?_)
  ·refine Tr.skip ?_
   conv=>whnf
   refine Tr.seq ?_
   refine Tr.block ?_
   refine sg ?_
   conv=>whnf
   obtain ⟨x_17, hx_17, h⟩ := bS h
   refine ixP_of hx_17 ?_
   conv=>whnf
   refine Tr.seq ?_
   refine sg ?_
   conv=>whnf
   refine lnS_map ?_
   conv=>whnf
   refine cB h (fun hb18 h => ?_) (fun hb18 h => ?_)
   ·conv=>whnf
    refine Tr.cond ?_
    conv=>whnf
    refine sg ?_
    conv=>whnf
    refine Tr.ret ?_
    conv=>whnf
    cases h
    rfl
   conv=>whnf
   refine lnS_map ?_
   conv=>whnf
   refine Tr.cond ?_
   conv=>whnf
   refine cB h (fun hb19 h => ?_) (fun hb19 h => ?_)
   ·refine sg ?_
    conv=>whnf
    refine Tr.ret ?_
    conv=>whnf
    cases h
    rfl
   refine Tr.skip ?_
   conv=>whnf
   refine sg ?_
   conv=>whnf
   obtain ⟨n_25, hv30, h⟩ := bS h
   refine Tr.cutQ1 ([(1, .pt 0 0), (2, .d (.b false)), (3, (dI n_25)), (4, (dI i_11))]) ([some (.var [.d (.ls (List.map eTSegment f_1.Clocks.Segments)), .d (.ls (List.map (eL eI) f_1.Clocks.Far)), .d (.ls (List.map eTPair f_1.Pairs)), .d (.ls (List.map eTRunner f_1.Runners))])]) ?_ (fun T1 H1 hw => ?_)
   ·replace h := hv30; clear hv30
    refine Tr.block ?_
    refine Tr.loopM (σ := Int × Int) (fun n s => M109 x_17 n s.1 s.2) n_25 (fun s => ([(1, .pt 0 0), (2, .d (.b false)), (3, (dI s.1)), (4, (dI i_11)), (5, .pt 1 0), (6, (dI s.2))], [some (.var [.d (.ls (List.map eTSegment f_1.Clocks.Segments)), .d (.ls (List.map (eL eI) f_1.Clocks.Far)), .d (.ls (List.map eTPair f_1.Pairs)), .d (.ls (List.map eTRunner f_1.Runners))]), some (.var [(dI x_17.Bib), .d (.ls (List.map eI x_17.Keys)), .d (.ls (List.map (eL eTOutcome) x_17.Worlds))])])) (((((x_17.Worlds).length : Int)) - 0 : Int).toNat + 1) (n_10, 0) h (fun s => rfl) (Wk.mk2 [0, 1] 2 rfl rfl (by decide) rfl ⟨rr, rr, trivial⟩ ⟨rr, rr, rr, rr, rr, rr, trivial⟩) ?_
    clear h
    rintro n_24 ⟨n_22, w_23⟩ h
    replace h : M109 x_17 (n_24 + 1) n_22 w_23 = some n_25 := h
    rw [M109] at h
    refine Tr.seq ?_
    refine sg ?_
    conv=>whnf
    refine lnS_map ?_
    conv=>whnf
    refine Tr.cond ?_
    conv=>whnf
    refine cB h (fun hb28 h => ?_) (fun hb28 h => ?_)
    ·refine Tr.skip ?_
     conv=>whnf
     refine Tr.seq ?_
     refine Tr.block ?_
     refine rg ?_
     conv=>whnf
     obtain ⟨x_29, hx_29, h⟩ := bS h
     refine ixP_of hx_29 ?_
     conv=>whnf
     refine lnS_map ?_
     conv=>whnf
     refine arS_raw ?_
     conv=>whnf
     refine rg ?_
     conv=>whnf
     refine arS_raw ?_
     conv=>whnf
     refine ⟨((w64 (n_22 + (((x_29).length : Int)))), (w64 (w_23 + 1))), h, ?_⟩
     exact Wk.mk2 [0, 1] 2 rfl rfl (by decide) rfl ⟨rr, rr, trivial⟩ ⟨rr, rr, rr, rr, rr, rr, trivial⟩
    refine Tr.exit ?_
    conv=>whnf
    cases h
    exact Wk.mk2 [0] 2 rfl rfl (by decide) rfl ⟨rr, trivial⟩ ⟨rr, rr, rr, rr, trivial⟩
   clear hv30
   conv=>whnf
   refine Tr.weak hw ?_
   refine rg ?_
   conv=>whnf
   refine arS_raw ?_
   conv=>whnf
   refine ⟨(n_25, (w64 (i_11 + 1))), h, ?_⟩
   exact Wk.mk2 [0] 1 rfl rfl (by decide) rfl ⟨rr, trivial⟩ ⟨rr, rr, rr, rr, trivial⟩
  refine Tr.exit ?_
  conv=>whnf
  refine ⟨(n_10), h, ?_⟩
  exact Wk.mk2 [] 1 rfl rfl (by decide) rfl trivial ⟨rr, rr, trivial⟩
 clear h
 rintro n_13 h T1 H1 hw
 replace h : M111 n_13 = some r_2 := h
 conv=>whnf
 refine Tr.weak hw ?_
 unfold M111 at h
 refine sg ?_
 conv=>whnf
 refine Tr.ret ?_
 conv=>whnf
 cases h
 rfl
theorem P117 (l_1 : List TTeam) (r_2 : Bool) (h : M117 l_1 = some r_2) :
    PC prog 12 [(.ls (List.map eTTeam l_1))] (fun rs => rs = [(.b r_2)]) := by
 refine PC.of_tr (cx := ⟨39, none, lay, 0⟩) layOK func12 rfl rfl rfl rfl rfl (by simp [f12]) ?_
 unfold M117 at h
 refine sg ?_
 conv=>whnf
 refine Tr.seq ?_
 refine sg ?_
 conv=>whnf
 refine lnS_map ?_
 conv=>whnf
 refine cB h (fun hb3 h => ?_) (fun hb3 h => ?_)
 ·conv=>whnf
  refine lnS_map ?_
  conv=>whnf
  refine cB h (fun hb4 h => ?_) (fun hb4 h => ?_)
  ·conv=>whnf
   refine Tr.cond ?_
   conv=>whnf
   refine sg ?_
   conv=>whnf
   refine Tr.ret ?_
   conv=>whnf
   cases h
   rfl
  conv=>whnf
  refine lnS_map ?_
  conv=>whnf
  refine Tr.cond ?_
  conv=>whnf
  refine cB h (fun hb5 h => ?_) (fun hb5 h => ?_)
  ·refine sg ?_
   conv=>whnf
   refine Tr.ret ?_
   conv=>whnf
   cases h
   rfl
  refine Tr.skip ?_
  conv=>whnf
  refine Tr.seq ?_
  refine sg ?_
  conv=>whnf
  refine Tr.cutQ (α := Unit) (fun s => ([(2, .d (.b false))], [])) (fun s => M114 s = some r_2) ?_ ?_
  ·refine Tr.block ?_
   refine Tr.loopM (σ := Int) (fun n s => M113 l_1 M114 n s) r_2 (fun s => ([(0, .d (.ls (List.map eTTeam l_1))), (2, .d (.b false)), (3, (dI s))], [])) (((((l_1).length : Int)) - 0 : Int).toNat + 1) (0) h (fun s => rfl) (Wk.mk2 [] 0 rfl rfl (by decide) rfl trivial ⟨rr, rr, rr, trivial⟩) ?_
   clear h
   rintro n_8 i_7 h
   replace h : M113 l_1 M114 (n_8 + 1) i_7 = some r_2 := h
   rw [M113] at h
   refine Tr.seq ?_
   refine sg ?_
   conv=>whnf
   refine lnS_map ?_
   conv=>whnf
   refine Tr.cond ?_
   conv=>whnf
   refine cB h (fun hb11 h => ?_) (fun hb11 h => ?_)
   ·refine Tr.skip ?_
    conv=>whnf
    refine Tr.seq ?_
    refine Tr.block ?_
    refine sg ?_
    conv=>whnf
    obtain ⟨x_12, hx_12, h⟩ := bS h
    refine ixP_of hx_12 ?_
    conv=>whnf
    refine lnS_map ?_
    conv=>whnf
    refine cB h (fun hb13 h => ?_) (fun hb13 h => ?_)
    ·conv=>whnf
     refine Tr.cond ?_
     conv=>whnf
     refine sg ?_
     conv=>whnf
     refine Tr.ret ?_
     conv=>whnf
     cases h
     rfl
    conv=>whnf
    obtain ⟨x_14, hx_14, h⟩ := bS h
    refine ixP_of hx_14 ?_
    conv=>whnf
    refine Tr.cond ?_
    conv=>whnf
    refine cB h (fun hb15 h => ?_) (fun hb15 h => ?_)
    ·refine sg ?_
     conv=>whnf
     refine Tr.ret ?_
     conv=>whnf
     cases h
     rfl
    refine Tr.skip ?_
    conv=>whnf
    refine rg ?_
    conv=>whnf
    refine arS_raw ?_
    conv=>whnf
    refine ⟨((w64 (i_7 + 1))), h, ?_⟩
    exact Wk.mk2 [] 0 rfl rfl (by decide) rfl trivial ⟨rr, rr, rr, trivial⟩
   refine Tr.exit ?_
   conv=>whnf
   refine ⟨(), h, ?_⟩
   exact Wk.mk2 [] 0 rfl rfl (by decide) rfl trivial ⟨rr, trivial⟩
  clear h
  rintro _ h T1 H1 hw
  replace h : M114 () = some r_2 := h
  conv=>whnf
  refine Tr.weak hw ?_
  unfold M114 at h
  refine sg ?_
  conv=>whnf
  refine Tr.ret ?_
  conv=>whnf
  cases h
  rfl
 conv=>whnf
 refine lnS_map ?_
 conv=>whnf
 refine Tr.cond ?_
 conv=>whnf
 refine cB h (fun hb16 h => ?_) (fun hb16 h => ?_)
 ·refine sg ?_
  conv=>whnf
  refine Tr.ret ?_
  conv=>whnf
  cases h
  rfl
 refine Tr.skip ?_
 conv=>whnf
 refine Tr.seq ?_
 refine sg ?_
 conv=>whnf
 refine Tr.cutQ (α := Unit) (fun s => ([(2, .d (.b false))], [])) (fun s => M116 s = some r_2) ?_ ?_
 ·refine Tr.block ?_
  refine Tr.loopM (σ := Int) (fun n s => M115 l_1 M116 n s) r_2 (fun s => ([(0, .d (.ls (List.map eTTeam l_1))), (2, .d (.b false)), (3, (dI s))], [])) (((((l_1).length : Int)) - 0 : Int).toNat + 1) (0) h (fun s => rfl) (Wk.mk2 [] 0 rfl rfl (by decide) rfl trivial ⟨rr, rr, rr, trivial⟩) ?_
  clear h
  rintro n_19 i_18 h
  replace h : M115 l_1 M116 (n_19 + 1) i_18 = some r_2 := h
  rw [M115] at h
  refine Tr.seq ?_
  refine sg ?_
  conv=>whnf
  refine lnS_map ?_
  conv=>whnf
  refine Tr.cond ?_
  conv=>whnf
  refine cB h (fun hb22 h => ?_) (fun hb22 h => ?_)
  ·refine Tr.skip ?_
   conv=>whnf
   refine Tr.seq ?_
   refine Tr.block ?_
   refine sg ?_
   conv=>whnf
   obtain ⟨x_23, hx_23, h⟩ := bS h
   refine ixP_of hx_23 ?_
   conv=>whnf
   refine lnS_map ?_
   conv=>whnf
   refine cB h (fun hb24 h => ?_) (fun hb24 h => ?_)
   ·conv=>whnf
    refine Tr.cond ?_
    conv=>whnf
    refine sg ?_
    conv=>whnf
    refine Tr.ret ?_
    conv=>whnf
    cases h
    rfl
   conv=>whnf
   obtain ⟨x_25, hx_25, h⟩ := bS h
   refine ixP_of hx_25 ?_
   conv=>whnf
   refine Tr.cond ?_
   conv=>whnf
   refine cB h (fun hb26 h => ?_) (fun hb26 h => ?_)
   ·refine sg ?_
    conv=>whnf
    refine Tr.ret ?_
    conv=>whnf
    cases h
    rfl
   refine Tr.skip ?_
   conv=>whnf
   refine rg ?_
   conv=>whnf
   refine arS_raw ?_
   conv=>whnf
   refine ⟨((w64 (i_18 + 1))), h, ?_⟩
   exact Wk.mk2 [] 0 rfl rfl (by decide) rfl trivial ⟨rr, rr, rr, trivial⟩
  refine Tr.exit ?_
  conv=>whnf
  refine ⟨(), h, ?_⟩
  exact Wk.mk2 [] 0 rfl rfl (by decide) rfl trivial ⟨rr, trivial⟩
 clear h
 rintro _ h T1 H1 hw
 replace h : M116 () = some r_2 := h
 conv=>whnf
 refine Tr.weak hw ?_
 unfold M116 at h
 refine sg ?_
 conv=>whnf
 refine Tr.ret ?_
 conv=>whnf
 cases h
 rfl
theorem P120 (t_1 : TTeam) (r_2 : Bool) (h : M120 t_1 = some r_2) :
    PC prog 25 [(eTTeam t_1)] (fun rs => rs = [(.b r_2)]) := by
 refine PC.of_tr (cx := ⟨78, none, lay, 0⟩) layOK func25 rfl rfl rfl rfl rfl (by simp [f25]) ?_
 unfold M120 at h
 refine sg ?_
 conv=>whnf
 refine Tr.seq ?_
 refine Tr.seq ?_
 refine Tr.cutQ1 ([(1, .pt 0 0), (2, .d (.b false)), (38, .d (.b ((decide ((((t_1.Name.size : Nat) : Int)) < 1)) || ((decide ((((t_1.Name.size : Nat) : Int)) > 24)) || ((decide ((((t_1.Bibs).length : Int)) < 1)) || ((decide ((((t_1.Bibs).length : Int)) > 16)) || ((decide (t_1.Best < 1)) || (decide (t_1.Best > (((t_1.Bibs).length : Int)))))))))))]) ([some (.var [.d (.s t_1.Name), .d (.ls (List.map eI t_1.Bibs)), (dI t_1.Best)])]) ?_ (fun T1 H1 hw => ?_)
 ·refine rg ?_
  conv=>whnf
  refine condS_mk (fun hb4 => ?_) (fun hb4 => ?_)
  ·conv=>whnf
   exact Wk.mk2 [0] 1 rfl rfl (by decide) rfl ⟨rr, trivial⟩ ⟨rr, rr, ⟨rfl, (by first | rfl | (simp only [↓hb4, bl]; done) | (simp only [↓hb4, bl]; rfl))⟩, trivial⟩
  conv=>whnf
  refine condS_mk (fun hb5 => ?_) (fun hb5 => ?_)
  ·conv=>whnf
   exact Wk.mk2 [0] 1 rfl rfl (by decide) rfl ⟨rr, trivial⟩ ⟨rr, rr, ⟨rfl, (by first | rfl | (simp only [↓hb4, ↓hb5, bl]; done) | (simp only [↓hb4, ↓hb5, bl]; rfl))⟩, trivial⟩
  conv=>whnf
  refine lnS_map ?_
  conv=>whnf
  refine condS_mk (fun hb6 => ?_) (fun hb6 => ?_)
  ·conv=>whnf
   exact Wk.mk2 [0] 1 rfl rfl (by decide) rfl ⟨rr, trivial⟩ ⟨rr, rr, ⟨rfl, (by first | rfl | (simp only [↓hb4, ↓hb5, ↓hb6, bl]; done) | (simp only [↓hb4, ↓hb5, ↓hb6, bl]; rfl))⟩, trivial⟩
  conv=>whnf
  refine lnS_map ?_
  conv=>whnf
  refine condS_mk (fun hb7 => ?_) (fun hb7 => ?_)
  ·conv=>whnf
   exact Wk.mk2 [0] 1 rfl rfl (by decide) rfl ⟨rr, trivial⟩ ⟨rr, rr, ⟨rfl, (by first | rfl | (simp only [↓hb4, ↓hb5, ↓hb6, ↓hb7, bl]; done) | (simp only [↓hb4, ↓hb5, ↓hb6, ↓hb7, bl]; rfl))⟩, trivial⟩
  conv=>whnf
  refine condS_mk (fun hb8 => ?_) (fun hb8 => ?_)
  ·conv=>whnf
   exact Wk.mk2 [0] 1 rfl rfl (by decide) rfl ⟨rr, trivial⟩ ⟨rr, rr, ⟨rfl, (by first | rfl | (simp only [↓hb4, ↓hb5, ↓hb6, ↓hb7, ↓hb8, bl]; done) | (simp only [↓hb4, ↓hb5, ↓hb6, ↓hb7, ↓hb8, bl]; rfl))⟩, trivial⟩
  conv=>whnf
  refine lnS_map ?_
  conv=>whnf
  exact Wk.mk2 [0] 1 rfl rfl (by decide) rfl ⟨rr, trivial⟩ ⟨rr, rr, ⟨rfl, (by first | rfl | (simp only [↓hb4, ↓hb5, ↓hb6, ↓hb7, ↓hb8, bl]; done) | (simp only [↓hb4, ↓hb5, ↓hb6, ↓hb7, ↓hb8, bl]; rfl))⟩, trivial⟩
 conv=>whnf
 refine Tr.weak hw ?_
 refine Tr.cond ?_
 conv=>whnf
 refine cB h (fun hb9 h => ?_) (fun hb9 h => ?_)
 ·refine sg ?_
  conv=>whnf
  refine Tr.ret ?_
  conv=>whnf
  cases h
  rfl
 refine Tr.skip ?_
 conv=>whnf
 refine Tr.seq ?_
 refine sg ?_
 conv=>whnf
 refine Tr.cutQ (α := Unit) (fun s => ([(2, .d (.b false))], [])) (fun s => M119 s = some r_2) ?_ ?_
 ·refine Tr.block ?_
  refine Tr.loopM (σ := Int) (fun n s => M118 t_1 M119 n s) r_2 (fun s => ([(1, .pt 0 0), (2, .d (.b false)), (3, (dI s))], [some (.var [.d (.s t_1.Name), .d (.ls (List.map eI t_1.Bibs)), (dI t_1.Best)])])) (((((t_1.Bibs).length : Int)) - 0 : Int).toNat + 1) (0) h (fun s => rfl) (Wk.mk2 [0] 1 rfl rfl (by decide) rfl ⟨rr, trivial⟩ ⟨rr, rr, rr, trivial⟩) ?_
  clear h
  rintro n_12 i_11 h
  replace h : M118 t_1 M119 (n_12 + 1) i_11 = some r_2 := h
  rw [M118] at h
  refine Tr.seq ?_
  refine sg ?_
  conv=>whnf
  refine lnS_map ?_
  conv=>whnf
  refine Tr.cond ?_
  conv=>whnf
  refine cB h (fun hb15 h => ?_) (fun hb15 h => ?_)
  ·refine Tr.skip ?_
   conv=>whnf
   refine Tr.seq ?_
   refine Tr.block ?_
   refine Tr.seq ?_
   obtain ⟨v_16, hv17, h⟩ := bS h
   refine Tr.cutQ1 ([(1, .pt 0 0), (2, .d (.b false)), (3, (dI i_11)), (77, .d (.b v_16))]) ([some (.var [.d (.s t_1.Name), .d (.ls (List.map eI t_1.Bibs)), (dI t_1.Best)])]) ?_ (fun T1 H1 hw => ?_)
   ·replace h := hv17; clear hv17
    refine dq [] [(0,3),(1,3),(2,1),(3,2),(4,2),(5,1),(6,1),(7,3),(8,3),(9,1),(10,2),(11,2),(12,1),(13,1),(14,1),(15,1),(16,1),(17,1),(18,3),(19,3),(20,1),(21,2),(22,2),(23,3),(24,3),(25,1),(26,1),(27,2),(28,2),(29,1),(30,1),(31,1)] ?_
    conv=>whnf
    refine q2 ?_
    conv=>whnf
    refine q2 ?_
    conv=>whnf
    refine q1 ?_
    conv=>whnf
    obtain ⟨x_18, hx_18, h⟩ := bS h
    refine q3 (ixP_of hx_18 rr) ?_
    conv=>whnf
    refine q2 ?_
    conv=>whnf
    refine q1 ?_
    conv=>whnf
    refine q1 ?_
    conv=>whnf
    refine cB h (fun hb19 h => ?_) (fun hb19 h => ?_)
    ·conv=>whnf
     refine q1 ?_
     conv=>whnf
     refine q1 ?_
     conv=>whnf
     refine q1 ?_
     conv=>whnf
     cases h
     exact Wk.mk2 [0] 1 rfl rfl (by decide) rfl ⟨rr, trivial⟩ ⟨rr, rr, rr, rr, trivial⟩
    conv=>whnf
    refine q2 ?_
    conv=>whnf
    refine q2 ?_
    conv=>whnf
    refine q1 ?_
    conv=>whnf
    obtain ⟨x_20, hx_20, h⟩ := bS h
    refine q3 (ixP_of hx_20 rr) ?_
    conv=>whnf
    refine q2 ?_
    conv=>whnf
    refine q1 ?_
    conv=>whnf
    refine q1 ?_
    conv=>whnf
    refine q1 ?_
    conv=>whnf
    refine cB h (fun hb21 h => ?_) (fun hb21 h => ?_)
    ·conv=>whnf
     refine q1 ?_
     conv=>whnf
     cases h
     exact Wk.mk2 [0] 1 rfl rfl (by decide) rfl ⟨rr, trivial⟩ ⟨rr, rr, rr, rr, trivial⟩
    conv=>whnf
    refine q1 ?_
    conv=>whnf
    refine q1 ?_
    conv=>whnf
    refine q1 ?_
    conv=>whnf
    refine cB h (fun hb22 h => ?_) (fun hb22 h => ?_)
    ·conv=>whnf
     refine q2 ?_
     conv=>whnf
     refine q2 ?_
     conv=>whnf
     refine q1 ?_
     conv=>whnf
     obtain ⟨x_23, hx_23, h⟩ := bS h
     refine q3 (ixP_of hx_23 rr) ?_
     conv=>whnf
     refine q2 ?_
     conv=>whnf
     refine q2 ?_
     conv=>whnf
     refine q2 ?_
     conv=>whnf
     refine q1 ?_
     conv=>whnf
     refine q4 ?_
     conv=>whnf
     obtain ⟨x_24, hx_24, h⟩ := bS h
     refine q3 (ixP_of hx_24 rr) ?_
     conv=>whnf
     refine q2 ?_
     conv=>whnf
     refine q1 ?_
     conv=>whnf
     refine q1 ?_
     conv=>whnf
     refine q1 ?_
     conv=>whnf
     cases h
     exact Wk.mk2 [0] 1 rfl rfl (by decide) rfl ⟨rr, trivial⟩ ⟨rr, rr, rr, rr, trivial⟩
    conv=>whnf
    refine q1 ?_
    conv=>whnf
    refine q1 ?_
    conv=>whnf
    cases h
    exact Wk.mk2 [0] 1 rfl rfl (by decide) rfl ⟨rr, trivial⟩ ⟨rr, rr, rr, rr, trivial⟩
   clear hv17
   conv=>whnf
   refine Tr.weak hw ?_
   refine Tr.cond ?_
   conv=>whnf
   refine cB h (fun hb25 h => ?_) (fun hb25 h => ?_)
   ·refine sg ?_
    conv=>whnf
    refine Tr.ret ?_
    conv=>whnf
    cases h
    rfl
   refine Tr.skip ?_
   conv=>whnf
   refine rg ?_
   conv=>whnf
   refine arS_raw ?_
   conv=>whnf
   refine ⟨((w64 (i_11 + 1))), h, ?_⟩
   exact Wk.mk2 [0] 1 rfl rfl (by decide) rfl ⟨rr, trivial⟩ ⟨rr, rr, rr, trivial⟩
  refine Tr.exit ?_
  conv=>whnf
  refine ⟨(), h, ?_⟩
  exact Wk.mk2 [] 1 rfl rfl (by decide) rfl trivial ⟨rr, trivial⟩
 clear h
 rintro _ h T1 H1 hw
 replace h : M119 () = some r_2 := h
 conv=>whnf
 refine Tr.weak hw ?_
 unfold M119 at h
 refine sg ?_
 conv=>whnf
 refine Tr.ret ?_
 conv=>whnf
 cases h
 rfl
theorem P121 (n_1 : Int) (r_2 : Bool) (h : M121 n_1 = some r_2) :
    PC prog 98 [(.i .i64 n_1)] (fun rs => rs = [(.b r_2)]) := by
 refine PC.of_tr (cx := ⟨9, none, lay, 0⟩) layOK func98 rfl rfl rfl rfl rfl (by simp [f98]) ?_
 unfold M121 at h
 refine sg ?_
 conv=>whnf
 refine sg ?_
 conv=>whnf
 refine cB h (fun hb3 h => ?_) (fun hb3 h => ?_)
 ·conv=>whnf
  refine Tr.ret ?_
  conv=>whnf
  cases h
  rfl
 conv=>whnf
 refine Tr.ret ?_
 conv=>whnf
 cases h
 rfl
theorem P122 (a_1 : TSegment) (b_2 : TSegment) (r_3 : Bool) (h : M122 a_1 b_2 = some r_3) :
    PC prog 99 [(eTSegment a_1), (eTSegment b_2)] (fun rs => rs = [(.b r_3)]) := by
 refine PC.of_tr (cx := ⟨24, none, lay, 0⟩) layOK func99 rfl rfl rfl rfl rfl (by simp [f99]) ?_
 unfold M122 at h
 refine sg ?_
 conv=>whnf
 refine sg ?_
 conv=>whnf
 refine cB h (fun hb4 h => ?_) (fun hb4 h => ?_)
 ·conv=>whnf
  refine Tr.ret ?_
  conv=>whnf
  cases h
  rfl
 conv=>whnf
 refine cB h (fun hb5 h => ?_) (fun hb5 h => ?_)
 ·conv=>whnf
  refine Tr.ret ?_
  conv=>whnf
  cases h
  rfl
 conv=>whnf
 refine Tr.ret ?_
 conv=>whnf
 cases h
 rfl
theorem P135 (k_1 : TClocks) (r_2 : Int) (h : M135 k_1 = some r_2) :
    PC prog 75 [(eTClocks k_1)] (fun rs => rs = [(.i .i64 r_2)]) := by
 refine PC.of_tr (cx := ⟨164, none, lay, 0⟩) layOK func75 rfl rfl rfl rfl rfl (by simp [f75]) ?_
 unfold M135 at h
 refine sg ?_
 conv=>whnf
 refine sg ?_
 conv=>whnf
 refine lnS_map ?_
 conv=>whnf
 refine Tr.seq ?_
 refine sg ?_
 conv=>whnf
 refine cB h (fun hb3 h => ?_) (fun hb3 h => ?_)
 ·conv=>whnf
  refine Tr.cond ?_
  conv=>whnf
  refine sg ?_
  conv=>whnf
  refine Tr.ret ?_
  conv=>whnf
  cases h
  rfl
 conv=>whnf
 refine lnS_map ?_
 conv=>whnf
 refine arS_raw ?_
 conv=>whnf
 refine Tr.cond ?_
 conv=>whnf
 refine cB h (fun hb4 h => ?_) (fun hb4 h => ?_)
 ·refine sg ?_
  conv=>whnf
  refine Tr.ret ?_
  conv=>whnf
  cases h
  rfl
 refine Tr.skip ?_
 conv=>whnf
 refine Tr.seq ?_
 refine sg ?_
 conv=>whnf
 refine Tr.cutQ (α := Unit) (fun s => ([(1, .pt 0 0), (2, (dI 0)), (3, (dI (((k_1.Segments).length : Int))))], [some (.var [.d (.ls (List.map eTSegment k_1.Segments)), .d (.ls (List.map (eL eI) k_1.Far))])])) (fun s => M134 k_1 s = some r_2) ?_ ?_
 ·refine Tr.block ?_
  refine Tr.loopM (σ := Int) (fun n s => M123 k_1 (M134 k_1) n s) r_2 (fun s => ([(1, .pt 0 0), (2, (dI 0)), (3, (dI (((k_1.Segments).length : Int)))), (4, (dI s))], [some (.var [.d (.ls (List.map eTSegment k_1.Segments)), .d (.ls (List.map (eL eI) k_1.Far))])])) (((((k_1.Segments).length : Int)) - 0 : Int).toNat + 1) (0) h (fun s => rfl) (Wk.mk2 [0] 1 rfl rfl (by decide) rfl ⟨rr, trivial⟩ ⟨rr, rr, rr, rr, trivial⟩) ?_
  clear h
  rintro n_7 i_6 h
  replace h : M123 k_1 (M134 k_1) (n_7 + 1) i_6 = some r_2 := h
  rw [M123] at h
  refine Tr.seq ?_
  refine sg ?_
  conv=>whnf
  refine Tr.cond ?_
  conv=>whnf
  refine cB h (fun hb10 h => ?_) (fun hb10 h => ?_)
  ·refine Tr.skip ?_
   conv=>whnf
   refine Tr.seq ?_
   refine Tr.block ?_
   refine sg ?_
   conv=>whnf
   obtain ⟨x_11, hx_11, h⟩ := bS h
   refine ixP_of hx_11 ?_
   conv=>whnf
   refine Tr.seq ?_
   obtain ⟨v_12, hv13, h⟩ := bS h
   refine Tr.cutQ1 ([(1, .pt 0 0), (2, (dI 0)), (3, (dI (((k_1.Segments).length : Int)))), (4, (dI i_6)), (72, .d (.b v_12))]) ([some (.var [.d (.ls (List.map eTSegment k_1.Segments)), .d (.ls (List.map (eL eI) k_1.Far))])]) ?_ (fun T1 H1 hw => ?_)
   ·replace h := hv13; clear hv13
    refine dq [] [(0,4),(1,4),(2,1),(3,1),(4,4),(5,4),(6,1),(7,1),(8,1),(9,4),(10,4),(11,1),(12,1),(13,1),(14,4),(15,4),(16,1),(17,1),(18,1),(19,4),(20,4),(21,1),(22,1),(23,1),(24,1),(25,1),(26,1),(27,1),(28,3),(29,3),(30,1),(31,1),(32,2),(33,2),(34,4),(35,1),(36,1),(37,1),(38,1)] ?_
    conv=>whnf
    refine q2 ?_
    conv=>whnf
    refine q2 ?_
    conv=>whnf
    refine q1 ?_
    conv=>whnf
    refine q1 ?_
    conv=>whnf
    refine cB h (fun hb14 h => ?_) (fun hb14 h => ?_)
    ·conv=>whnf
     refine q1 ?_
     conv=>whnf
     refine q1 ?_
     conv=>whnf
     refine q1 ?_
     conv=>whnf
     refine q1 ?_
     conv=>whnf
     refine q1 ?_
     conv=>whnf
     refine q1 ?_
     conv=>whnf
     refine q1 ?_
     conv=>whnf
     refine q1 ?_
     conv=>whnf
     refine q1 ?_
     conv=>whnf
     cases h
     exact Wk.mk2 [0] 2 rfl rfl (by decide) rfl ⟨rr, trivial⟩ ⟨rr, rr, rr, rr, rr, trivial⟩
    conv=>whnf
    refine q2 ?_
    conv=>whnf
    refine q2 ?_
    conv=>whnf
    refine q1 ?_
    conv=>whnf
    refine q1 ?_
    conv=>whnf
    refine q1 ?_
    conv=>whnf
    refine cB h (fun hb15 h => ?_) (fun hb15 h => ?_)
    ·conv=>whnf
     refine q1 ?_
     conv=>whnf
     refine q1 ?_
     conv=>whnf
     refine q1 ?_
     conv=>whnf
     refine q1 ?_
     conv=>whnf
     refine q1 ?_
     conv=>whnf
     refine q1 ?_
     conv=>whnf
     refine q1 ?_
     conv=>whnf
     cases h
     exact Wk.mk2 [0] 2 rfl rfl (by decide) rfl ⟨rr, trivial⟩ ⟨rr, rr, rr, rr, rr, trivial⟩
    conv=>whnf
    refine q2 ?_
    conv=>whnf
    refine q2 ?_
    conv=>whnf
    refine q1 ?_
    conv=>whnf
    refine q1 ?_
    conv=>whnf
    refine q1 ?_
    conv=>whnf
    refine cB h (fun hb16 h => ?_) (fun hb16 h => ?_)
    ·conv=>whnf
     refine q1 ?_
     conv=>whnf
     refine q1 ?_
     conv=>whnf
     refine q1 ?_
     conv=>whnf
     refine q1 ?_
     conv=>whnf
     refine q1 ?_
     conv=>whnf
     cases h
     exact Wk.mk2 [0] 2 rfl rfl (by decide) rfl ⟨rr, trivial⟩ ⟨rr, rr, rr, rr, rr, trivial⟩
    conv=>whnf
    refine q2 ?_
    conv=>whnf
    refine q2 ?_
    conv=>whnf
    refine q1 ?_
    conv=>whnf
    refine q1 ?_
    conv=>whnf
    refine q1 ?_
    conv=>whnf
    refine cB h (fun hb17 h => ?_) (fun hb17 h => ?_)
    ·conv=>whnf
     refine q1 ?_
     conv=>whnf
     refine q1 ?_
     conv=>whnf
     refine q1 ?_
     conv=>whnf
     cases h
     exact Wk.mk2 [0] 2 rfl rfl (by decide) rfl ⟨rr, trivial⟩ ⟨rr, rr, rr, rr, rr, trivial⟩
    conv=>whnf
    refine q2 ?_
    conv=>whnf
    refine q2 ?_
    conv=>whnf
    obtain ⟨r_18, hc19, h⟩ := bS h
    refine q1 ?_ (fun _ => pe (P121 x_11.Anchor r_18 hc19) rr)
    conv=>whnf
    refine q1 ?_
    conv=>whnf
    refine q1 ?_
    conv=>whnf
    refine q1 ?_
    conv=>whnf
    refine cB h (fun hb20 h => ?_) (fun hb20 h => ?_)
    ·conv=>whnf
     refine q1 ?_
     conv=>whnf
     cases h
     exact Wk.mk2 [0] 2 rfl rfl (by decide) rfl ⟨rr, trivial⟩ ⟨rr, rr, rr, rr, rr, trivial⟩
    conv=>whnf
    refine q1 ?_
    conv=>whnf
    refine q1 ?_
    conv=>whnf
    refine q1 ?_
    conv=>whnf
    refine cB h (fun hb21 h => ?_) (fun hb21 h => ?_)
    ·conv=>whnf
     refine q2 ?_
     conv=>whnf
     refine q2 ?_
     conv=>whnf
     refine q1 ?_
     conv=>whnf
     refine q4 ?_
     conv=>whnf
     obtain ⟨x_22, hx_22, h⟩ := bS h
     refine q3 (ixP_of hx_22 rr) ?_
     conv=>whnf
     refine q2 ?_
     conv=>whnf
     refine q2 ?_
     conv=>whnf
     obtain ⟨r_23, hc24, h⟩ := bS h
     refine q1 ?_ (fun _ => pe (P122 x_22 x_11 r_23 hc24) rr)
     conv=>whnf
     refine q1 ?_
     conv=>whnf
     refine q1 ?_
     conv=>whnf
     refine q1 ?_
     conv=>whnf
     cases h
     exact Wk.mk2 [0] 2 rfl rfl (by decide) rfl ⟨rr, trivial⟩ ⟨rr, rr, rr, rr, rr, trivial⟩
    conv=>whnf
    refine q1 ?_
    conv=>whnf
    refine q1 ?_
    conv=>whnf
    cases h
    exact Wk.mk2 [0] 2 rfl rfl (by decide) rfl ⟨rr, trivial⟩ ⟨rr, rr, rr, rr, rr, trivial⟩
   clear hv13
   conv=>whnf
   refine Tr.weak hw ?_
   refine Tr.cond ?_
   conv=>whnf
   refine cB h (fun hb25 h => ?_) (fun hb25 h => ?_)
   ·refine sg ?_
    conv=>whnf
    refine Tr.ret ?_
    conv=>whnf
    cases h
    rfl
   refine Tr.skip ?_
   conv=>whnf
   refine rg ?_
   conv=>whnf
   refine arS_raw ?_
   conv=>whnf
   refine ⟨((w64 (i_6 + 1))), h, ?_⟩
   exact Wk.mk2 [0] 1 rfl rfl (by decide) rfl ⟨rr, trivial⟩ ⟨rr, rr, rr, rr, trivial⟩
  refine Tr.exit ?_
  conv=>whnf
  refine ⟨(), h, ?_⟩
  exact Wk.mk2 [0] 1 rfl rfl (by decide) rfl ⟨rr, trivial⟩ ⟨rr, rr, rr, trivial⟩
 clear h
 rintro _ h T1 H1 hw
 replace h : M134 k_1 () = some r_2 := h
 conv=>whnf
 refine Tr.weak hw ?_
 unfold M134 at h
 refine Tr.seq ?_
 refine sg ?_
 conv=>whnf
 refine Tr.cutQ (α := Unit) (fun s => ([(1, .pt 0 0), (2, (dI 0)), (3, (dI (((k_1.Segments).length : Int))))], [some (.var [.d (.ls (List.map eTSegment k_1.Segments)), .d (.ls (List.map (eL eI) k_1.Far))])])) (fun s => M133 k_1 s = some r_2) ?_ ?_
 ·refine Tr.block ?_
  refine Tr.loopM (σ := Int) (fun n s => M126 k_1 (M133 k_1) n s) r_2 (fun s => ([(1, .pt 0 0), (2, (dI 0)), (3, (dI (((k_1.Segments).length : Int)))), (6, (dI s))], [some (.var [.d (.ls (List.map eTSegment k_1.Segments)), .d (.ls (List.map (eL eI) k_1.Far))])])) (((((k_1.Segments).length : Int)) + 1 - 0 : Int).toNat + 1) (0) h (fun s => rfl) (Wk.mk2 [0] 1 rfl rfl (by decide) rfl ⟨rr, trivial⟩ ⟨rr, rr, rr, rr, trivial⟩) ?_
  clear h
  rintro n_28 i_27 h
  replace h : M126 k_1 (M133 k_1) (n_28 + 1) i_27 = some r_2 := h
  rw [M126] at h
  refine Tr.seq ?_
  refine sg ?_
  conv=>whnf
  refine Tr.cond ?_
  conv=>whnf
  refine cB h (fun hb31 h => ?_) (fun hb31 h => ?_)
  ·refine Tr.skip ?_
   conv=>whnf
   refine Tr.seq ?_
   refine Tr.block ?_
   refine Tr.seq ?_
   refine sg ?_
   conv=>whnf
   obtain ⟨x_32, hx_32, h⟩ := bS h
   refine ixP_of hx_32 ?_
   conv=>whnf
   refine lnS_map ?_
   conv=>whnf
   refine arS_raw ?_
   conv=>whnf
   refine cB h (fun hb33 h => ?_) (fun hb33 h => ?_)
   ·conv=>whnf
    refine Tr.cond ?_
    conv=>whnf
    refine sg ?_
    conv=>whnf
    refine Tr.ret ?_
    conv=>whnf
    cases h
    rfl
   conv=>whnf
   obtain ⟨x_34, hx_34, h⟩ := bS h
   refine ixP_of hx_34 ?_
   conv=>whnf
   obtain ⟨x_35, hx_35, h⟩ := bS h
   refine ixP_of hx_35 ?_
   conv=>whnf
   refine Tr.cond ?_
   conv=>whnf
   refine cB h (fun hb36 h => ?_) (fun hb36 h => ?_)
   ·refine sg ?_
    conv=>whnf
    refine Tr.ret ?_
    conv=>whnf
    cases h
    rfl
   refine Tr.skip ?_
   conv=>whnf
   refine sg ?_
   conv=>whnf
   refine Tr.cutQ (α := Unit) (fun s => ([(1, .pt 0 0), (2, (dI 0)), (3, (dI (((k_1.Segments).length : Int)))), (6, (dI i_27))], [some (.var [.d (.ls (List.map eTSegment k_1.Segments)), .d (.ls (List.map (eL eI) k_1.Far))])])) (fun s => M125 i_27 (M126 k_1 (M133 k_1) n_28) s = some r_2) ?_ ?_
   ·refine Tr.block ?_
    refine Tr.loopM (σ := Int) (fun n s => M124 k_1 i_27 (M125 i_27 (M126 k_1 (M133 k_1) n_28)) n s) r_2 (fun s => ([(1, .pt 0 0), (2, (dI 0)), (3, (dI (((k_1.Segments).length : Int)))), (6, (dI i_27)), (7, (dI s))], [some (.var [.d (.ls (List.map eTSegment k_1.Segments)), .d (.ls (List.map (eL eI) k_1.Far))])])) (((((k_1.Segments).length : Int)) + 1 - 0 : Int).toNat + 1) (0) h (fun s => rfl) (Wk.mk2 [0] 1 rfl rfl (by decide) rfl ⟨rr, trivial⟩ ⟨rr, rr, rr, rr, rr, trivial⟩) ?_
    clear h
    rintro n_39 j_38 h
    replace h : M124 k_1 i_27 (M125 i_27 (M126 k_1 (M133 k_1) n_28)) (n_39 + 1) j_38 = some r_2 := h
    rw [M124] at h
    refine Tr.seq ?_
    refine sg ?_
    conv=>whnf
    refine Tr.cond ?_
    conv=>whnf
    refine cB h (fun hb42 h => ?_) (fun hb42 h => ?_)
    ·refine Tr.skip ?_
     conv=>whnf
     refine Tr.seq ?_
     refine Tr.block ?_
     refine sg ?_
     conv=>whnf
     obtain ⟨x_43, hx_43, h⟩ := bS h
     refine ixP_of hx_43 ?_
     conv=>whnf
     obtain ⟨x_44, hx_44, h⟩ := bS h
     refine ixP_of hx_44 ?_
     conv=>whnf
     refine cB h (fun hb45 h => ?_) (fun hb45 h => ?_)
     ·conv=>whnf
      refine Tr.cond ?_
      conv=>whnf
      refine sg ?_
      conv=>whnf
      refine Tr.ret ?_
      conv=>whnf
      cases h
      rfl
     conv=>whnf
     obtain ⟨x_46, hx_46, h⟩ := bS h
     refine ixP_of hx_46 ?_
     conv=>whnf
     obtain ⟨x_47, hx_47, h⟩ := bS h
     refine ixP_of hx_47 ?_
     conv=>whnf
     refine Tr.cond ?_
     conv=>whnf
     refine cB h (fun hb48 h => ?_) (fun hb48 h => ?_)
     ·refine sg ?_
      conv=>whnf
      refine Tr.ret ?_
      conv=>whnf
      cases h
      rfl
     refine Tr.skip ?_
     conv=>whnf
     refine rg ?_
     conv=>whnf
     refine arS_raw ?_
     conv=>whnf
     refine ⟨((w64 (j_38 + 1))), h, ?_⟩
     exact Wk.mk2 [0] 1 rfl rfl (by decide) rfl ⟨rr, trivial⟩ ⟨rr, rr, rr, rr, rr, trivial⟩
    refine Tr.exit ?_
    conv=>whnf
    refine ⟨(), h, ?_⟩
    exact Wk.mk2 [0] 1 rfl rfl (by decide) rfl ⟨rr, trivial⟩ ⟨rr, rr, rr, rr, trivial⟩
   clear h
   rintro _ h T1 H1 hw
   replace h : M125 i_27 (M126 k_1 (M133 k_1) n_28) () = some r_2 := h
   conv=>whnf
   refine Tr.weak hw ?_
   unfold M125 at h
   refine rg ?_
   conv=>whnf
   refine arS_raw ?_
   conv=>whnf
   refine ⟨((w64 (i_27 + 1))), h, ?_⟩
   exact Wk.mk2 [0] 1 rfl rfl (by decide) rfl ⟨rr, trivial⟩ ⟨rr, rr, rr, rr, trivial⟩
  refine Tr.exit ?_
  conv=>whnf
  refine ⟨(), h, ?_⟩
  exact Wk.mk2 [0] 1 rfl rfl (by decide) rfl ⟨rr, trivial⟩ ⟨rr, rr, rr, trivial⟩
 clear h
 rintro _ h T1 H1 hw
 replace h : M133 k_1 () = some r_2 := h
 conv=>whnf
 refine Tr.weak hw ?_
 unfold M133 at h
 refine Tr.seq ?_
 refine sg ?_
 conv=>whnf
 refine Tr.cutQ (α := Unit) (fun s => ([(2, (dI 0))], [])) (fun s => M132 s = some r_2) ?_ ?_
 ·refine Tr.block ?_
  refine Tr.loopM (σ := Int) (fun n s => M131 k_1 M132 n s) r_2 (fun s => ([(1, .pt 0 0), (2, (dI 0)), (3, (dI (((k_1.Segments).length : Int)))), (8, (dI s))], [some (.var [.d (.ls (List.map eTSegment k_1.Segments)), .d (.ls (List.map (eL eI) k_1.Far))])])) (((((k_1.Segments).length : Int)) + 1 - 0 : Int).toNat + 1) (0) h (fun s => rfl) (Wk.mk2 [0] 1 rfl rfl (by decide) rfl ⟨rr, trivial⟩ ⟨rr, rr, rr, rr, trivial⟩) ?_
  clear h
  rintro n_51 i_50 h
  replace h : M131 k_1 M132 (n_51 + 1) i_50 = some r_2 := h
  rw [M131] at h
  refine Tr.seq ?_
  refine sg ?_
  conv=>whnf
  refine Tr.cond ?_
  conv=>whnf
  refine cB h (fun hb54 h => ?_) (fun hb54 h => ?_)
  ·refine Tr.skip ?_
   conv=>whnf
   refine Tr.seq ?_
   refine Tr.block ?_
   refine sg ?_
   conv=>whnf
   refine Tr.cutQ (α := Unit) (fun s => ([(1, .pt 0 0), (2, (dI 0)), (3, (dI (((k_1.Segments).length : Int)))), (8, (dI i_50))], [some (.var [.d (.ls (List.map eTSegment k_1.Segments)), .d (.ls (List.map (eL eI) k_1.Far))])])) (fun s => M130 i_50 (M131 k_1 M132 n_51) s = some r_2) ?_ ?_
   ·refine Tr.block ?_
    refine Tr.loopM (σ := Int) (fun n s => M129 k_1 i_50 (M130 i_50 (M131 k_1 M132 n_51)) n s) r_2 (fun s => ([(1, .pt 0 0), (2, (dI 0)), (3, (dI (((k_1.Segments).length : Int)))), (8, (dI i_50)), (9, (dI s))], [some (.var [.d (.ls (List.map eTSegment k_1.Segments)), .d (.ls (List.map (eL eI) k_1.Far))])])) (((((k_1.Segments).length : Int)) + 1 - 0 : Int).toNat + 1) (0) h (fun s => rfl) (Wk.mk2 [0] 1 rfl rfl (by decide) rfl ⟨rr, trivial⟩ ⟨rr, rr, rr, rr, rr, trivial⟩) ?_
    clear h
    rintro n_57 j_56 h
    replace h : M129 k_1 i_50 (M130 i_50 (M131 k_1 M132 n_51)) (n_57 + 1) j_56 = some r_2 := h
    rw [M129] at h
    refine Tr.seq ?_
    refine sg ?_
    conv=>whnf
    refine Tr.cond ?_
    conv=>whnf
    refine cB h (fun hb60 h => ?_) (fun hb60 h => ?_)
    ·refine Tr.skip ?_
     conv=>whnf
     refine Tr.seq ?_
     refine Tr.block ?_
     refine sg ?_
     conv=>whnf
     refine Tr.cutQ (α := Unit) (fun s => ([(1, .pt 0 0), (2, (dI 0)), (3, (dI (((k_1.Segments).length : Int)))), (8, (dI i_50)), (9, (dI j_56))], [some (.var [.d (.ls (List.map eTSegment k_1.Segments)), .d (.ls (List.map (eL eI) k_1.Far))])])) (fun s => M128 j_56 (M129 k_1 i_50 (M130 i_50 (M131 k_1 M132 n_51)) n_57) s = some r_2) ?_ ?_
     ·refine Tr.block ?_
      refine Tr.loopM (σ := Int) (fun n s => M127 k_1 i_50 j_56 (M128 j_56 (M129 k_1 i_50 (M130 i_50 (M131 k_1 M132 n_51)) n_57)) n s) r_2 (fun s => ([(1, .pt 0 0), (2, (dI 0)), (3, (dI (((k_1.Segments).length : Int)))), (8, (dI i_50)), (9, (dI j_56)), (10, (dI s))], [some (.var [.d (.ls (List.map eTSegment k_1.Segments)), .d (.ls (List.map (eL eI) k_1.Far))])])) (((((k_1.Segments).length : Int)) + 1 - 0 : Int).toNat + 1) (0) h (fun s => rfl) (Wk.mk2 [0] 1 rfl rfl (by decide) rfl ⟨rr, trivial⟩ ⟨rr, rr, rr, rr, rr, rr, trivial⟩) ?_
      clear h
      rintro n_63 m_62 h
      replace h : M127 k_1 i_50 j_56 (M128 j_56 (M129 k_1 i_50 (M130 i_50 (M131 k_1 M132 n_51)) n_57)) (n_63 + 1) m_62 = some r_2 := h
      rw [M127] at h
      refine Tr.seq ?_
      refine sg ?_
      conv=>whnf
      refine Tr.cond ?_
      conv=>whnf
      refine cB h (fun hb66 h => ?_) (fun hb66 h => ?_)
      ·refine Tr.skip ?_
       conv=>whnf
       refine Tr.seq ?_
       refine Tr.block ?_
       refine sd [] [(0,3),(1,3),(2,1),(3,2),(4,2),(5,1),(6,2),(7,2),(8,3),(9,3),(10,1),(11,2),(12,2),(13,1),(14,2),(15,2),(16,3),(17,3),(18,1),(19,2),(20,2),(21,1),(22,2),(23,2),(24,1),(25,1)] ?_
       conv=>whnf
       refine q2 ?_
       conv=>whnf
       refine q2 ?_
       conv=>whnf
       refine q1 ?_
       conv=>whnf
       obtain ⟨x_67, hx_67, h⟩ := bS h
       refine q3 (ixP_of hx_67 rr) ?_
       conv=>whnf
       refine q2 ?_
       conv=>whnf
       refine q1 ?_
       conv=>whnf
       obtain ⟨x_68, hx_68, h⟩ := bS h
       refine q3 (ixP_of hx_68 rr) ?_
       conv=>whnf
       refine q2 ?_
       conv=>whnf
       refine q2 ?_
       conv=>whnf
       refine q2 ?_
       conv=>whnf
       refine q1 ?_
       conv=>whnf
       obtain ⟨x_69, hx_69, h⟩ := bS h
       refine q3 (ixP_of hx_69 rr) ?_
       conv=>whnf
       refine q2 ?_
       conv=>whnf
       refine q1 ?_
       conv=>whnf
       obtain ⟨x_70, hx_70, h⟩ := bS h
       refine q3 (ixP_of hx_70 rr) ?_
       conv=>whnf
       refine q2 ?_
       conv=>whnf
       refine q2 ?_
       conv=>whnf
       refine q2 ?_
       conv=>whnf
       refine q1 ?_
       conv=>whnf
       obtain ⟨x_71, hx_71, h⟩ := bS h
       refine q3 (ixP_of hx_71 rr) ?_
       conv=>whnf
       refine q2 ?_
       conv=>whnf
       refine q1 ?_
       conv=>whnf
       obtain ⟨x_72, hx_72, h⟩ := bS h
       refine q3 (ixP_of hx_72 rr) ?_
       conv=>whnf
       refine q2 ?_
       conv=>whnf
       refine q4 ?_
       conv=>whnf
       refine q1 ?_
       conv=>whnf
       refine Tr.cond ?_
       conv=>whnf
       refine cB h (fun hb73 h => ?_) (fun hb73 h => ?_)
       ·refine sg ?_
        conv=>whnf
        refine Tr.ret ?_
        conv=>whnf
        cases h
        rfl
       refine Tr.skip ?_
       conv=>whnf
       refine rg ?_
       conv=>whnf
       refine arS_raw ?_
       conv=>whnf
       refine ⟨((w64 (m_62 + 1))), h, ?_⟩
       exact Wk.mk2 [0] 1 rfl rfl (by decide) rfl ⟨rr, trivial⟩ ⟨rr, rr, rr, rr, rr, rr, trivial⟩
      refine Tr.exit ?_
      conv=>whnf
      refine ⟨(), h, ?_⟩
      exact Wk.mk2 [0] 1 rfl rfl (by decide) rfl ⟨rr, trivial⟩ ⟨rr, rr, rr, rr, rr, trivial⟩
     clear h
     rintro _ h T1 H1 hw
     replace h : M128 j_56 (M129 k_1 i_50 (M130 i_50 (M131 k_1 M132 n_51)) n_57) () = some r_2 := h
     conv=>whnf
     refine Tr.weak hw ?_
     unfold M128 at h
     refine rg ?_
     conv=>whnf
     refine arS_raw ?_
     conv=>whnf
     refine ⟨((w64 (j_56 + 1))), h, ?_⟩
     exact Wk.mk2 [0] 1 rfl rfl (by decide) rfl ⟨rr, trivial⟩ ⟨rr, rr, rr, rr, rr, trivial⟩
    refine Tr.exit ?_
    conv=>whnf
    refine ⟨(), h, ?_⟩
    exact Wk.mk2 [0] 1 rfl rfl (by decide) rfl ⟨rr, trivial⟩ ⟨rr, rr, rr, rr, trivial⟩
   clear h
   rintro _ h T1 H1 hw
   replace h : M130 i_50 (M131 k_1 M132 n_51) () = some r_2 := h
   conv=>whnf
   refine Tr.weak hw ?_
   unfold M130 at h
   refine rg ?_
   conv=>whnf
   refine arS_raw ?_
   conv=>whnf
   refine ⟨((w64 (i_50 + 1))), h, ?_⟩
   exact Wk.mk2 [0] 1 rfl rfl (by decide) rfl ⟨rr, trivial⟩ ⟨rr, rr, rr, rr, trivial⟩
  refine Tr.exit ?_
  conv=>whnf
  refine ⟨(), h, ?_⟩
  exact Wk.mk2 [] 1 rfl rfl (by decide) rfl trivial ⟨rr, trivial⟩
 clear h
 rintro _ h T1 H1 hw
 replace h : M132 () = some r_2 := h
 conv=>whnf
 refine Tr.weak hw ?_
 unfold M132 at h
 refine sg ?_
 conv=>whnf
 refine Tr.ret ?_
 conv=>whnf
 cases h
 rfl
theorem P136 (n_1 : Int) (least_2 : Int) (most_3 : Int) (r_4 : Bool) (h : M136 n_1 least_2 most_3 = some r_4) :
    PC prog 100 [(.i .i64 n_1), (.i .i64 least_2), (.i .i64 most_3)] (fun rs => rs = [(.b r_4)]) := by
 refine PC.of_tr (cx := ⟨15, none, lay, 0⟩) layOK func100 rfl rfl rfl rfl rfl (by simp [f100]) ?_
 unfold M136 at h
 refine sg ?_
 conv=>whnf
 refine sg ?_
 conv=>whnf
 refine cB h (fun hb5 h => ?_) (fun hb5 h => ?_)
 ·conv=>whnf
  refine Tr.ret ?_
  conv=>whnf
  cases h
  rfl
 conv=>whnf
 refine Tr.ret ?_
 conv=>whnf
 cases h
 rfl
theorem P137 (n_1 : Int) (r_2 : Bool) (h : M137 n_1 = some r_2) :
    PC prog 76 [(.i .i64 n_1)] (fun rs => rs = [(.b r_2)]) := by
 refine PC.of_tr (cx := ⟨5, none, lay, 0⟩) layOK func76 rfl rfl rfl rfl rfl (by simp [f76]) ?_
 unfold M137 at h
 refine sg ?_
 conv=>whnf
 refine sg ?_
 conv=>whnf
 obtain ⟨r_3, hc4, h⟩ := bS h
 refine PC.ecall (P136 n_1 1 9999 r_3 hc4) (fun rs hrs => ?_)
 subst hrs
 conv=>whnf
 refine Tr.ret ?_
 conv=>whnf
 cases h
 rfl
theorem P138 (k_1 : TClocks) (x_2 : TOutcome) (r_3 : Int) (h : M138 k_1 x_2 = some r_3) :
    PC prog 77 [(eTClocks k_1), (eTOutcome x_2)] (fun rs => rs = [(.i .i64 r_3)]) := by
 refine PC.of_tr (cx := ⟨63, none, lay, 0⟩) layOK func77 rfl rfl rfl rfl rfl (by simp [f77]) ?_
 unfold M138 at h
 refine sg ?_
 conv=>whnf
 refine sg ?_
 conv=>whnf
 obtain ⟨r_4, hc5, h⟩ := bS h
 refine PC.ecall (P135 k_1 r_4 hc5) (fun rs hrs => ?_)
 subst hrs
 conv=>whnf
 refine Tr.seq ?_
 refine sg ?_
 conv=>whnf
 refine Tr.cond ?_
 conv=>whnf
 refine cB h (fun hb6 h => ?_) (fun hb6 h => ?_)
 ·refine sg ?_
  conv=>whnf
  refine Tr.ret ?_
  conv=>whnf
  cases h
  rfl
 refine Tr.skip ?_
 conv=>whnf
 refine Tr.seq ?_
 refine Tr.seq ?_
 refine Tr.cutQ1 ([(4, (dI 0)), (62, .d (.b (bif x_2.Out then ((x_2.Seg != (-1)) || ((x_2.Lo != 0) || (x_2.Hi != 0))) else ((decide (x_2.Seg < (-1))) || ((decide (x_2.Seg ≥ (((k_1.Segments).length : Int)))) || ((decide (x_2.Lo < (-288230376151711744))) || ((decide (x_2.Lo > x_2.Hi)) || (decide (x_2.Hi > 288230376151711744)))))))))]) ([]) ?_ (fun T1 H1 hw => ?_)
 ·refine rg ?_
  conv=>whnf
  refine condS_mk (fun hb8 => ?_) (fun hb8 => ?_)
  ·conv=>whnf
   refine condS_mk (fun hb9 => ?_) (fun hb9 => ?_)
   ·conv=>whnf
    exact Wk.mk2 [] 2 rfl rfl (by decide) rfl trivial ⟨rr, ⟨rfl, (by first | rfl | (simp only [↓hb6, ↓hb8, ↓hb9, bl]; done) | (simp only [↓hb6, ↓hb8, ↓hb9, bl]; rfl))⟩, trivial⟩
   conv=>whnf
   refine condS_mk (fun hb10 => ?_) (fun hb10 => ?_)
   ·conv=>whnf
    exact Wk.mk2 [] 2 rfl rfl (by decide) rfl trivial ⟨rr, ⟨rfl, (by first | rfl | (simp only [↓hb6, ↓hb8, ↓hb9, ↓hb10, bl]; done) | (simp only [↓hb6, ↓hb8, ↓hb9, ↓hb10, bl]; rfl))⟩, trivial⟩
   conv=>whnf
   refine condS_mk (fun hb11 => ?_) (fun hb11 => ?_)
   ·conv=>whnf
    exact Wk.mk2 [] 2 rfl rfl (by decide) rfl trivial ⟨rr, ⟨rfl, (by first | rfl | (simp only [↓hb6, ↓hb8, ↓hb9, ↓hb10, ↓hb11, bl]; done) | (simp only [↓hb6, ↓hb8, ↓hb9, ↓hb10, ↓hb11, bl]; rfl))⟩, trivial⟩
   conv=>whnf
   refine condS_kf (by rw [hb8]; rfl) ?_
   conv=>whnf
   exact Wk.mk2 [] 2 rfl rfl (by decide) rfl trivial ⟨rr, ⟨rfl, (by first | rfl | (simp only [↓hb6, ↓hb8, ↓hb9, ↓hb10, ↓hb11, bl]; done) | (simp only [↓hb6, ↓hb8, ↓hb9, ↓hb10, ↓hb11, bl]; rfl))⟩, trivial⟩
  conv=>whnf
  refine condS_kt (by rw [hb8]; rfl) ?_
  conv=>whnf
  refine condS_mk (fun hb12 => ?_) (fun hb12 => ?_)
  ·conv=>whnf
   exact Wk.mk2 [] 2 rfl rfl (by decide) rfl trivial ⟨rr, ⟨rfl, (by first | rfl | (simp only [↓hb6, ↓hb8, ↓hb12, bl]; done) | (simp only [↓hb6, ↓hb8, ↓hb12, bl]; rfl))⟩, trivial⟩
  conv=>whnf
  refine lnS_map ?_
  conv=>whnf
  refine condS_mk (fun hb13 => ?_) (fun hb13 => ?_)
  ·conv=>whnf
   exact Wk.mk2 [] 2 rfl rfl (by decide) rfl trivial ⟨rr, ⟨rfl, (by first | rfl | (simp only [↓hb6, ↓hb8, ↓hb12, ↓hb13, bl]; done) | (simp only [↓hb6, ↓hb8, ↓hb12, ↓hb13, bl]; rfl))⟩, trivial⟩
  conv=>whnf
  refine condS_mk (fun hb14 => ?_) (fun hb14 => ?_)
  ·conv=>whnf
   exact Wk.mk2 [] 2 rfl rfl (by decide) rfl trivial ⟨rr, ⟨rfl, (by first | rfl | (simp only [↓hb6, ↓hb8, ↓hb12, ↓hb13, ↓hb14, bl]; done) | (simp only [↓hb6, ↓hb8, ↓hb12, ↓hb13, ↓hb14, bl]; rfl))⟩, trivial⟩
  conv=>whnf
  refine condS_mk (fun hb15 => ?_) (fun hb15 => ?_)
  ·conv=>whnf
   exact Wk.mk2 [] 2 rfl rfl (by decide) rfl trivial ⟨rr, ⟨rfl, (by first | rfl | (simp only [↓hb6, ↓hb8, ↓hb12, ↓hb13, ↓hb14, ↓hb15, bl]; done) | (simp only [↓hb6, ↓hb8, ↓hb12, ↓hb13, ↓hb14, ↓hb15, bl]; rfl))⟩, trivial⟩
  conv=>whnf
  exact Wk.mk2 [] 2 rfl rfl (by decide) rfl trivial ⟨rr, ⟨rfl, (by first | rfl | (simp only [↓hb6, ↓hb8, ↓hb12, ↓hb13, ↓hb14, ↓hb15, bl]; done) | (simp only [↓hb6, ↓hb8, ↓hb12, ↓hb13, ↓hb14, ↓hb15, bl]; rfl))⟩, trivial⟩
 conv=>whnf
 refine Tr.weak hw ?_
 refine Tr.cond ?_
 conv=>whnf
 refine cB h (fun hb16 h => ?_) (fun hb16 h => ?_)
 ·refine sg ?_
  conv=>whnf
  refine Tr.ret ?_
  conv=>whnf
  cases h
  rfl
 refine Tr.skip ?_
 conv=>whnf
 refine sg ?_
 conv=>whnf
 refine Tr.ret ?_
 conv=>whnf
 cases h
 rfl
theorem P141 (f_1 : TField) (world_2 : Int) (r_3 : Bool) (h : M141 f_1 world_2 = some r_3) :
    PC prog 101 [(eTField f_1), (.i .i64 world_2)] (fun rs => rs = [(.b r_3)]) := by
 refine PC.of_tr (cx := ⟨39, none, lay, 0⟩) layOK func101 rfl rfl rfl rfl rfl (by simp [f101]) ?_
 unfold M141 at h
 refine sg ?_
 conv=>whnf
 refine Tr.seq ?_
 refine sg ?_
 conv=>whnf
 refine Tr.cutQ (α := Unit) (fun s => ([(4, .d (.b false))], [])) (fun s => M140 s = some r_3) ?_ ?_
 ·refine Tr.block ?_
  refine Tr.loopM (σ := Int) (fun n s => M139 f_1 world_2 M140 n s) r_3 (fun s => ([(1, (dI world_2)), (2, .pt 0 0), (4, .d (.b false)), (5, (dI s))], [some (.var [.d (.ls (List.map eTSegment f_1.Clocks.Segments)), .d (.ls (List.map (eL eI) f_1.Clocks.Far)), .d (.ls (List.map eTPair f_1.Pairs)), .d (.ls (List.map eTRunner f_1.Runners))])])) (((((f_1.Runners).length : Int)) - 0 : Int).toNat + 1) (0) h (fun s => rfl) (Wk.mk2 [0] 1 rfl rfl (by decide) rfl ⟨rr, trivial⟩ ⟨rr, rr, rr, rr, trivial⟩) ?_
  clear h
  rintro n_6 i_5 h
  replace h : M139 f_1 world_2 M140 (n_6 + 1) i_5 = some r_3 := h
  rw [M139] at h
  refine Tr.seq ?_
  refine sg ?_
  conv=>whnf
  refine lnS_map ?_
  conv=>whnf
  refine Tr.cond ?_
  conv=>whnf
  refine cB h (fun hb9 h => ?_) (fun hb9 h => ?_)
  ·refine Tr.skip ?_
   conv=>whnf
   refine Tr.seq ?_
   refine Tr.block ?_
   refine sg ?_
   conv=>whnf
   refine cB h (fun hb10 h => ?_) (fun hb10 h => ?_)
   ·conv=>whnf
    refine Tr.cond ?_
    conv=>whnf
    refine sg ?_
    conv=>whnf
    refine Tr.ret ?_
    conv=>whnf
    cases h
    rfl
   conv=>whnf
   obtain ⟨x_11, hx_11, h⟩ := bS h
   refine ixP_of hx_11 ?_
   conv=>whnf
   refine lnS_map ?_
   conv=>whnf
   refine cB h (fun hb12 h => ?_) (fun hb12 h => ?_)
   ·conv=>whnf
    refine Tr.cond ?_
    conv=>whnf
    refine sg ?_
    conv=>whnf
    refine Tr.ret ?_
    conv=>whnf
    cases h
    rfl
   conv=>whnf
   obtain ⟨x_13, hx_13, h⟩ := bS h
   refine ixP_of hx_13 ?_
   conv=>whnf
   obtain ⟨x_14, hx_14, h⟩ := bS h
   refine ixP_of hx_14 ?_
   conv=>whnf
   refine lnS_map ?_
   conv=>whnf
   refine Tr.cond ?_
   conv=>whnf
   refine cB h (fun hb15 h => ?_) (fun hb15 h => ?_)
   ·refine sg ?_
    conv=>whnf
    refine Tr.ret ?_
    conv=>whnf
    cases h
    rfl
   refine Tr.skip ?_
   conv=>whnf
   refine rg ?_
   conv=>whnf
   refine arS_raw ?_
   conv=>whnf
   refine ⟨((w64 (i_5 + 1))), h, ?_⟩
   exact Wk.mk2 [0] 1 rfl rfl (by decide) rfl ⟨rr, trivial⟩ ⟨rr, rr, rr, rr, trivial⟩
  refine Tr.exit ?_
  conv=>whnf
  refine ⟨(), h, ?_⟩
  exact Wk.mk2 [] 1 rfl rfl (by decide) rfl trivial ⟨rr, trivial⟩
 clear h
 rintro _ h T1 H1 hw
 replace h : M140 () = some r_3 := h
 conv=>whnf
 refine Tr.weak hw ?_
 unfold M140 at h
 refine sg ?_
 conv=>whnf
 refine Tr.ret ?_
 conv=>whnf
 cases h
 rfl
theorem P144 (f_1 : TField) (r_2 : Bool) (h : M144 f_1 = some r_2) :
    PC prog 78 [(eTField f_1)] (fun rs => rs = [(.b r_2)]) := by
 refine PC.of_tr (cx := ⟨14, none, lay, 0⟩) layOK func78 rfl rfl rfl rfl rfl (by simp [f78]) ?_
 unfold M144 at h
 refine sg ?_
 conv=>whnf
 refine Tr.seq ?_
 refine sg ?_
 conv=>whnf
 refine Tr.cutQ (α := Unit) (fun s => ([(2, .d (.b false))], [])) (fun s => M143 s = some r_2) ?_ ?_
 ·refine Tr.block ?_
  refine Tr.loopM (σ := Int) (fun n s => M142 f_1 M143 n s) r_2 (fun s => ([(1, .pt 0 0), (2, .d (.b false)), (3, (dI s))], [some (.var [.d (.ls (List.map eTSegment f_1.Clocks.Segments)), .d (.ls (List.map (eL eI) f_1.Clocks.Far)), .d (.ls (List.map eTPair f_1.Pairs)), .d (.ls (List.map eTRunner f_1.Runners))])])) (((((f_1.Pairs).length : Int)) + 1 - 0 : Int).toNat + 1) (0) h (fun s => rfl) (Wk.mk2 [0] 1 rfl rfl (by decide) rfl ⟨rr, trivial⟩ ⟨rr, rr, rr, trivial⟩) ?_
  clear h
  rintro n_5 w_4 h
  replace h : M142 f_1 M143 (n_5 + 1) w_4 = some r_2 := h
  rw [M142] at h
  refine Tr.seq ?_
  refine sg ?_
  conv=>whnf
  refine lnS_map ?_
  conv=>whnf
  refine Tr.cond ?_
  conv=>whnf
  refine cB h (fun hb8 h => ?_) (fun hb8 h => ?_)
  ·refine Tr.skip ?_
   conv=>whnf
   refine Tr.seq ?_
   refine Tr.block ?_
   refine sg ?_
   conv=>whnf
   obtain ⟨r_9, hc10, h⟩ := bS h
   refine PC.ecall (P141 f_1 w_4 r_9 hc10) (fun rs hrs => ?_)
   subst hrs
   conv=>whnf
   refine Tr.cond ?_
   conv=>whnf
   refine cB h (fun hb11 h => ?_) (fun hb11 h => ?_)
   ·refine sg ?_
    conv=>whnf
    refine Tr.ret ?_
    conv=>whnf
    cases h
    rfl
   refine Tr.skip ?_
   conv=>whnf
   refine rg ?_
   conv=>whnf
   refine arS_raw ?_
   conv=>whnf
   refine ⟨((w64 (w_4 + 1))), h, ?_⟩
   exact Wk.mk2 [0] 1 rfl rfl (by decide) rfl ⟨rr, trivial⟩ ⟨rr, rr, rr, trivial⟩
  refine Tr.exit ?_
  conv=>whnf
  refine ⟨(), h, ?_⟩
  exact Wk.mk2 [] 1 rfl rfl (by decide) rfl trivial ⟨rr, trivial⟩
 clear h
 rintro _ h T1 H1 hw
 replace h : M143 () = some r_2 := h
 conv=>whnf
 refine Tr.weak hw ?_
 unfold M143 at h
 refine sg ?_
 conv=>whnf
 refine Tr.ret ?_
 conv=>whnf
 cases h
 rfl
end Go.Proofs.Tryz
